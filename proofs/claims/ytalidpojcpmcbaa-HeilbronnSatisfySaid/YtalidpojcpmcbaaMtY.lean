/- Lists of matrices in memory: four cells a matrix. -/
import Derived.Test.YtalidpojcpmcbaaPlA
import Derived.Test.YtalidpojcpmcbaaPlW
namespace Go.Proofs.Ytalidpojcpmcbaa
open Go.RowKit

def cellsM : List M2 → List Value
  | [] => []
  | c :: l => .int .i64 c.a :: .int .i64 c.b :: .int .i64 c.c :: .int .i64 c.d :: cellsM l
theorem cellsM_append (x y : List M2) : cellsM (x ++ y) = cellsM x ++ cellsM y := by
  induction x with
  | nil => rfl
  | cons c x ih => simp [cellsM, ih]
theorem cellsM_len (l : List M2) : (cellsM l).length = l.length * 4 := by
  induction l with
  | nil => rfl
  | cons c x ih => simp [cellsM, ih]; omega
theorem cellsM_one (l : List M2) : ∀ u ∈ cellsM l, u.oneCell' = true := by
  induction l with
  | nil => intro u hu; cases hu
  | cons c x ih =>
    intro u hu
    simp only [cellsM, List.mem_cons] at hu
    rcases hu with rfl | rfl | rfl | rfl | hu
    · rfl
    · rfl
    · rfl
    · rfl
    · exact ih u hu
def at4 (f : Nat → Option Value) (o : Nat) (m : M2) : Prop := f o = some (.int .i64 m.a) ∧ f (o + 1) = some (.int .i64 m.b) ∧ f (o + 2) = some (.int .i64 m.c) ∧ f (o + 3) = some (.int .i64 m.d)
theorem cellsM_at : ∀ (l : List M2) (j : Nat), j < l.length → at4 (fun i => (cellsM l)[i]?) (j * 4) (l.getD j M2.zero)
  | [], j, h => by simp at h
  | c :: l, 0, _ => by simp [cellsM, at4]
  | c :: l, j + 1, h => by
    have := cellsM_at l j (by simpa using h)
    unfold at4 at this ⊢
    rw [show (j + 1) * 4 = j * 4 + 1 + 1 + 1 + 1 by omega]
    simpa [cellsM] using this
/-- A list of matrices in memory of the call's own. -/
def OwnMats (w : World) (base : Nat) (v : Value) (l : List M2) : Prop := w.ownsRow base 39 4 v l.length (cellsM l)
/-- The slice value v reads as the list l of matrices. -/
def RdMats (w : World) (v : Value) (l : List M2) : Prop :=
  (∃ a cap, v = .slice a 0 cap ∧ l = []) ∨ (∃ b off cap, v = .slice (some ⟨b, off, none⟩) l.length cap ∧ b < w.heap.size ∧ l.length ≤ cap ∧
    ∀ j, j < l.length → at4 (fun i => w.cell? ⟨b, i, none⟩) (off + j * 4) (l.getD j M2.zero))
theorem RdMats.grow {w w' : World} {v : Value} {l : List M2} (h : RdMats w v l) (hg : Grow w w') : RdMats w' v l := by
  rcases h with h | ⟨b, off, cap, hv, hb, hk, hc⟩
  · exact .inl h
  · refine .inr ⟨b, off, cap, hv, Nat.lt_of_lt_of_le hb hg.size, hk, fun j hj => ?_⟩
    obtain ⟨h1, h2, h3, h4⟩ := hc j hj
    exact ⟨(hg.cells b _ hb).trans h1, (hg.cells b _ hb).trans h2, (hg.cells b _ hb).trans h3, (hg.cells b _ hb).trans h4⟩
theorem OwnMats.rd {w : World} {base : Nat} {v : Value} {l : List M2} (h : OwnMats w base v l) : RdMats w v l := by
  rcases h.2 with ⟨hv, h0⟩ | ⟨g, cap, cur, hv, hb, hh, hle, hr⟩
  · exact .inl ⟨none, 0, by rw [hv], by simpa using h0⟩
  · refine .inr ⟨g, 0, cap, hv, (Array.getElem?_eq_some_iff.1 hh).1, hle, fun j hj => ?_⟩
    obtain ⟨a1, a2, a3, a4⟩ := cellsM_at l j hj
    have h1 := World.ownsRow.cells h (g := g) (by rw [hv]; rfl) _ _ a1
    have h2 := World.ownsRow.cells h (g := g) (by rw [hv]; rfl) _ _ a2
    have h3 := World.ownsRow.cells h (g := g) (by rw [hv]; rfl) _ _ a3
    have h4 := World.ownsRow.cells h (g := g) (by rw [hv]; rfl) _ _ a4
    rw [Addr.add_lit] at h1 h2 h3 h4
    exact ⟨h1, by rw [Nat.add_assoc]; exact h2, by rw [Nat.add_assoc]; exact h3, by rw [Nat.add_assoc]; exact h4⟩
theorem OwnMats.into {w w1 : World} {base : Nat} {v : Value} {l : List M2} (h : OwnMats w base v l) (hg : Grow w w1) : OwnMats w1 base v l := own_into h hg
theorem RdMats.form {w : World} {v : Value} {l : List M2} (h : RdMats w v l) : ∃ a cap, v = .slice a l.length cap := by
  rcases h with ⟨a, cap, hv, hl⟩ | ⟨b, off, cap, hv, _⟩
  · exact ⟨a, cap, by rw [hv, hl]; rfl⟩
  · exact ⟨_, cap, hv⟩
theorem four_cells (w : World) (x y z u : Value) (t : TypeId) (n : Nat) (hn : n = w.heap.size) : ∀ j v, [x, y, z, u][j]? = some v → (w.alloc (.cells #[x, y, z, u] t)).cell? ((⟨n, 0, none⟩ : Addr).add j) = some v := by
  intro j v hj
  rw [Addr.add_lit, World.cell?_alloc_at _ _ _ _ hn]
  match j, hj with
  | 0, hj => simpa using hj
  | 1, hj => simpa using hj
  | 2, hj => simpa using hj
  | 3, hj => simpa using hj
theorem four_oneCell (x y z u : Int) : ∀ v ∈ [Value.int .i64 x, Value.int .i64 y, Value.int .i64 z, Value.int .i64 u], v.oneCell' = true := by
  intro v hv; simp at hv; rcases hv with rfl | rfl | rfl | rfl <;> rfl
theorem cellsM_snoc (l : List M2) (c : M2) : cellsM (l ++ [c]) = cellsM l ++ [.int .i64 c.a, .int .i64 c.b, .int .i64 c.c, .int .i64 c.d] := by rw [cellsM_append]; rfl
theorem take_snocM (l : List M2) (k : Nat) (h : k < l.length) : l.take (k + 1) = l.take k ++ [l.getD k M2.zero] := by
  rw [List.take_succ_eq_append_getElem h]; simp [h]
def eqM (x y : M2) : Bool := decide (x.a = y.a) && decide (x.b = y.b) && decide (x.c = y.c) && decide (x.d = y.d)
theorem eqM_iff {x y : M2} : eqM x y = true ↔ x = y := by
  cases x; cases y; simp [eqM, and_assoc]
instance : DecidableEq M2 := fun _ _ => decidable_of_iff _ eqM_iff
end Go.Proofs.Ytalidpojcpmcbaa
