/- Lists of cusps in memory: two cells a cusp. -/
import Derived.Test.YtalidpojcpmcbaaPlJ
import Derived.Test.YtalidpojcpmcbaaPlW
namespace Go.Proofs.Ytalidpojcpmcbaa
open Go.RowKit

def cellsC : List C2 → List Value
  | [] => []
  | c :: l => .int .i64 c.p :: .int .i64 c.q :: cellsC l
theorem cellsC_append (x y : List C2) : cellsC (x ++ y) = cellsC x ++ cellsC y := by
  induction x with
  | nil => rfl
  | cons c x ih => simp [cellsC, ih]
theorem cellsC_len (l : List C2) : (cellsC l).length = l.length * 2 := by
  induction l with
  | nil => rfl
  | cons c x ih => simp [cellsC, ih]; omega
theorem cellsC_one (l : List C2) : ∀ u ∈ cellsC l, u.oneCell' = true := by
  induction l with
  | nil => intro u hu; cases hu
  | cons c x ih =>
    intro u hu
    simp only [cellsC, List.mem_cons] at hu
    rcases hu with rfl | rfl | hu
    · rfl
    · rfl
    · exact ih u hu
theorem cellsC_at : ∀ (l : List C2) (j : Nat), j < l.length → (cellsC l)[j * 2]? = some (.int .i64 (l.getD j C2.zero).p) ∧ (cellsC l)[j * 2 + 1]? = some (.int .i64 (l.getD j C2.zero).q)
  | [], j, h => by simp at h
  | c :: l, 0, _ => by simp [cellsC]
  | c :: l, j + 1, h => by
    have := cellsC_at l j (by simpa using h)
    rw [show (j + 1) * 2 = j * 2 + 1 + 1 by omega]
    simpa [cellsC] using this
/-- A list of cusps in memory of the call's own. -/
def OwnCusps (w : World) (base : Nat) (v : Value) (l : List C2) : Prop := w.ownsRow base 60 2 v l.length (cellsC l)
/-- The slice value v reads as the list l of cusps. -/
def RdCusps (w : World) (v : Value) (l : List C2) : Prop :=
  (∃ a cap, v = .slice a 0 cap ∧ l = []) ∨ (∃ b off cap, v = .slice (some ⟨b, off, none⟩) l.length cap ∧ b < w.heap.size ∧ l.length ≤ cap ∧
    ∀ j, j < l.length → w.cell? ⟨b, off + j * 2, none⟩ = some (.int .i64 (l.getD j C2.zero).p) ∧ w.cell? ⟨b, off + j * 2 + 1, none⟩ = some (.int .i64 (l.getD j C2.zero).q))
theorem RdCusps.grow {w w' : World} {v : Value} {l : List C2} (h : RdCusps w v l) (hg : Grow w w') : RdCusps w' v l := by
  rcases h with h | ⟨b, off, cap, hv, hb, hk, hc⟩
  · exact .inl h
  · exact .inr ⟨b, off, cap, hv, Nat.lt_of_lt_of_le hb hg.size, hk, fun j hj => ⟨(hg.cells b _ hb).trans (hc j hj).1, (hg.cells b _ hb).trans (hc j hj).2⟩⟩
theorem OwnCusps.rd {w : World} {base : Nat} {v : Value} {l : List C2} (h : OwnCusps w base v l) : RdCusps w v l := by
  rcases h.2 with ⟨hv, h0⟩ | ⟨g, cap, cur, hv, hb, hh, hle, hr⟩
  · exact .inl ⟨none, 0, by rw [hv], by simpa using h0⟩
  · refine .inr ⟨g, 0, cap, hv, (Array.getElem?_eq_some_iff.1 hh).1, hle, fun j hj => ?_⟩
    obtain ⟨a1, a2⟩ := cellsC_at l j hj
    have h1 := World.ownsRow.cells h (g := g) (by rw [hv]; rfl) _ _ a1
    have h2 := World.ownsRow.cells h (g := g) (by rw [hv]; rfl) _ _ a2
    rw [Addr.add_lit] at h1 h2
    exact ⟨h1, by rw [Nat.add_assoc]; exact h2⟩
theorem OwnCusps.into {w w1 : World} {base : Nat} {v : Value} {l : List C2} (h : OwnCusps w base v l) (hg : Grow w w1) : OwnCusps w1 base v l := own_into h hg
theorem RdCusps.form {w : World} {v : Value} {l : List C2} (h : RdCusps w v l) : ∃ a cap, v = .slice a l.length cap := by
  rcases h with ⟨a, cap, hv, hl⟩ | ⟨b, off, cap, hv, _⟩
  · exact ⟨a, cap, by rw [hv, hl]; rfl⟩
  · exact ⟨_, cap, hv⟩
theorem two_cells (w : World) (x y : Value) (t : TypeId) (n : Nat) (hn : n = w.heap.size) : ∀ j u, [x, y][j]? = some u → (w.alloc (.cells #[x, y] t)).cell? ((⟨n, 0, none⟩ : Addr).add j) = some u := by
  intro j u hj
  rw [Addr.add_lit, World.cell?_alloc_at _ _ _ _ hn]
  match j, hj with
  | 0, hj => simpa using hj
  | 1, hj => simpa using hj
theorem two_oneCell (x y : Int) : ∀ u ∈ [Value.int .i64 x, Value.int .i64 y], u.oneCell' = true := by
  intro u hu; simp at hu; rcases hu with rfl | rfl <;> rfl
theorem cellsC_snoc (l : List C2) (c : C2) : cellsC (l ++ [c]) = cellsC l ++ [.int .i64 c.p, .int .i64 c.q] := by rw [cellsC_append]; rfl
theorem take_snocC (l : List C2) (k : Nat) (h : k < l.length) : l.take (k + 1) = l.take k ++ [l.getD k C2.zero] := by
  rw [List.take_succ_eq_append_getElem h]; simp [h]
theorem drop_consI (l : List Int) (k : Nat) (h : k < l.length) : l.drop k = l.getD k 0 :: l.drop (k + 1) := by
  rw [List.drop_eq_getElem_cons h]; simp [h]
end Go.Proofs.Ytalidpojcpmcbaa
