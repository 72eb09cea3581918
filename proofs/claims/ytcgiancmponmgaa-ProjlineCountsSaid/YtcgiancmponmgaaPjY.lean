/- Lists of points in memory: three cells a point; the marks of the sieve. -/
import Derived.Test.YtcgiancmponmgaaPjC
import Derived.Test.YtcgiancmponmgaaPlW
import Derived.Test.YtcgiancmponmgaaPjP
import Derived.Laws.IdiomCopy
import Derived.Laws.OwnMore
import Derived.OwnWalk
namespace Go.Proofs.Ytcgiancmponmgaa
open Go.RowKit

def cellsP : List P3 → List Value
  | [] => []
  | c :: l => .int .i64 c.u :: .int .i64 c.v :: .int .i64 c.t :: cellsP l
theorem cellsP_append (x y : List P3) : cellsP (x ++ y) = cellsP x ++ cellsP y := by
  induction x with
  | nil => rfl
  | cons c x ih => simp [cellsP, ih]
theorem cellsP_len (l : List P3) : (cellsP l).length = l.length * 3 := by
  induction l with
  | nil => rfl
  | cons c x ih => simp [cellsP, ih]; omega
def at3 (f : Nat → Option Value) (o : Nat) (m : P3) : Prop := f o = some (.int .i64 m.u) ∧ f (o + 1) = some (.int .i64 m.v) ∧ f (o + 2) = some (.int .i64 m.t)
theorem cellsP_at : ∀ (l : List P3) (j : Nat), j < l.length → at3 (fun i => (cellsP l)[i]?) (j * 3) (l.getD j P3.zero)
  | [], j, h => by simp at h
  | c :: l, 0, _ => by simp [cellsP, at3]
  | c :: l, j + 1, h => by
    have := cellsP_at l j (by simpa using h)
    unfold at3 at this ⊢
    rw [show (j + 1) * 3 = j * 3 + 1 + 1 + 1 by omega]
    simpa [cellsP] using this
/-- A list of points in memory of the call's own. -/
def OwnPts (w : World) (base : Nat) (v : Value) (l : List P3) : Prop := w.ownsRow base 24 3 v l.length (cellsP l)
/-- The slice value v reads as the list l of points. -/
def RdPts (w : World) (v : Value) (l : List P3) : Prop :=
  (∃ a cap, v = .slice a 0 cap ∧ l = []) ∨ (∃ b off cap, v = .slice (some ⟨b, off, none⟩) l.length cap ∧ b < w.heap.size ∧ l.length ≤ cap ∧
    ∀ j, j < l.length → at3 (fun i => w.cell? ⟨b, i, none⟩) (off + j * 3) (l.getD j P3.zero))
theorem RdPts.grow {w w' : World} {v : Value} {l : List P3} (h : RdPts w v l) (hg : Grow w w') : RdPts w' v l := by
  rcases h with h | ⟨b, off, cap, hv, hb, hk, hc⟩
  · exact .inl h
  · refine .inr ⟨b, off, cap, hv, Nat.lt_of_lt_of_le hb hg.size, hk, fun j hj => ?_⟩
    obtain ⟨h1, h2, h3⟩ := hc j hj
    exact ⟨(hg.cells b _ hb).trans h1, (hg.cells b _ hb).trans h2, (hg.cells b _ hb).trans h3⟩
theorem OwnPts.rd {w : World} {base : Nat} {v : Value} {l : List P3} (h : OwnPts w base v l) : RdPts w v l := by
  rcases h.2 with ⟨hv, h0⟩ | ⟨g, cap, cur, hv, hb, hh, hle, hr⟩
  · exact .inl ⟨none, 0, by rw [hv], by simpa using h0⟩
  · refine .inr ⟨g, 0, cap, hv, (Array.getElem?_eq_some_iff.1 hh).1, hle, fun j hj => ?_⟩
    obtain ⟨a1, a2, a3⟩ := cellsP_at l j hj
    have h1 := World.ownsRow.cells h (g := g) (by rw [hv]; rfl) _ _ a1
    have h2 := World.ownsRow.cells h (g := g) (by rw [hv]; rfl) _ _ a2
    have h3 := World.ownsRow.cells h (g := g) (by rw [hv]; rfl) _ _ a3
    rw [Addr.add_lit] at h1 h2 h3
    exact ⟨h1, by rw [Nat.add_assoc]; exact h2, by rw [Nat.add_assoc]; exact h3⟩
theorem OwnPts.into {w w1 : World} {base : Nat} {v : Value} {l : List P3} (h : OwnPts w base v l) (hg : Grow w w1) : OwnPts w1 base v l := own_into h hg
theorem RdPts.form {w : World} {v : Value} {l : List P3} (h : RdPts w v l) : ∃ a cap, v = .slice a l.length cap := by
  rcases h with ⟨a, cap, hv, hl⟩ | ⟨b, off, cap, hv, _⟩
  · exact ⟨a, cap, by rw [hv, hl]; rfl⟩
  · exact ⟨_, cap, hv⟩
theorem three_cells (w : World) (x y z : Value) (t : TypeId) (n : Nat) (hn : n = w.heap.size) : ∀ j v, [x, y, z][j]? = some v → (w.alloc (.cells #[x, y, z] t)).cell? ((⟨n, 0, none⟩ : Addr).add j) = some v := by
  intro j v hj
  rw [Addr.add_lit, World.cell?_alloc_at _ _ _ _ hn]
  match j, hj with
  | 0, hj => simpa using hj
  | 1, hj => simpa using hj
  | 2, hj => simpa using hj
theorem three_oneCell (x y z : Int) : ∀ v ∈ [Value.int .i64 x, Value.int .i64 y, Value.int .i64 z], v.oneCell' = true := by
  intro v hv; simp at hv; rcases hv with rfl | rfl | rfl <;> rfl
theorem cellsP_snoc (l : List P3) (c : P3) : cellsP (l ++ [c]) = cellsP l ++ [.int .i64 c.u, .int .i64 c.v, .int .i64 c.t] := by rw [cellsP_append]; rfl
theorem infoP : (Try.prog.info? 24).map (fun i => (i.zero, i.size, i.bytes)) = some (some (.agg #[.int .i64 0, .int .i64 0, .int .i64 0]), 3, 24) := by kernel_rfl
theorem infoI : (Try.prog.info? 3).map (fun i => (i.zero, i.size, i.bytes)) = some (some (.int .i64 0), 1, 8) := by kernel_rfl
theorem infoB : (Try.prog.info? 4).map (fun i => (i.zero, i.size, i.bytes)) = some (some (.bool false), 1, 1) := by kernel_rfl
/-- The marks of the sieve: block g holds the truth values of f. -/
def SvM (w : World) (g n : Nat) (f : Nat → Bool) : Prop := g < w.heap.size ∧ (∀ k, k < n → w.cell? ⟨g, k, none⟩ = some (.bool (f k))) ∧ (∀ o, w.frozen? ⟨g, o, none⟩ = false)
theorem SvM.kept {w w' : World} {g n : Nat} {f : Nat → Bool} (h : SvM w g n f) (hc : ∀ o, w'.cell? ⟨g, o, none⟩ = w.cell? ⟨g, o, none⟩) (hf : ∀ o, w'.frozen? ⟨g, o, none⟩ = w.frozen? ⟨g, o, none⟩) (hz : w.heap.size ≤ w'.heap.size) : SvM w' g n f :=
  ⟨Nat.lt_of_lt_of_le h.1 hz, fun k hk => (hc k).trans (h.2.1 k hk), fun o => (hf o).trans (h.2.2 o)⟩
theorem SvM.grow {w w' : World} {g n : Nat} {f : Nat → Bool} (h : SvM w g n f) (hg : Grow w w') : SvM w' g n f :=
  h.kept (fun o => hg.cells _ o h.1) (fun o => hg.frees _ o h.1) hg.size
theorem SvM.set {w : World} {g n : Nat} {f : Nat → Bool} (h : SvM w g n f) (q : Nat) (hq : q < n) : SvM (w.setCell ⟨g, q, none⟩ (.bool true)) g n (fun k => k == q || f k) := by
  obtain ⟨h1, h2, h3⟩ := h
  have hin := World.cell?_setCells_in g [.bool true] q w (fun j hj => by
    simp at hj
    subst hj
    rw [Nat.add_zero, h2 q hq]; rfl)
  have e : w.setCell ⟨g, q, none⟩ (.bool true) = w.setCells g q [.bool true] := rfl
  rw [e]
  refine ⟨by simp only [World.setCells]; simpa using h1, fun k hk => ?_, fun o => by rw [World.frozen?_setCells]; exact h3 o⟩
  by_cases hkq : k = q
  · subst hkq
    have h0 := hin 0 (by simp)
    simp at h0
    simpa using h0
  · rw [World.cell?_setCells_out g _ _ _ _ (fun _ _ => by simp; omega), h2 k hk]
    have : (k == q) = false := by simpa using hkq
    simp [this]
theorem SvM.make {w' : World} {base g n : Nat} {t : TypeId} (h : w'.ownsRow base t 1 (.slice (some ⟨g, 0, none⟩) n n) n (madeCells #[.bool false] n).toList) : SvM w' g n (fun _ => false) := by
  rcases h.2 with ⟨hv, h0⟩ | ⟨g', cap, cur, hv, hb, hh, hle, hr⟩
  · simp at hv
  · simp only [Value.slice.injEq, Option.some.injEq, Addr.mk.injEq] at hv
    obtain ⟨⟨rfl, -⟩, -, -⟩ := hv
    refine ⟨(Array.getElem?_eq_some_iff.1 hh).1, fun k hk => ?_, fun o => ?_⟩
    · have h1 := World.ownsRow.cells h (g := g) rfl k (.bool false) (by simp [madeCells, hk, Nat.mod_one])
      rw [Addr.add_lit, Nat.zero_add] at h1
      exact h1
    · unfold World.frozen?
      simp only [hh]
      simp
end Go.Proofs.Ytcgiancmponmgaa
