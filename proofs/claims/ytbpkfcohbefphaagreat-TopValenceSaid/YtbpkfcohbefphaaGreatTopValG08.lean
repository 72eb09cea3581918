/- Lemmas, plain laws and walks that the statement LwValence leans on (texts RwJ, RwM, RwU, RwN, SeA, RwP, RwS, QiA, BiS, BiT, RwV), conditions as each theorem says. -/
import Derived.Test.YtbpkfcohbefphaaGreatProg
import Derived.Lib.Strings
import Derived.Lib.Slices
import Derived.Lib.Small
import Derived.Lib.Walk
import Derived.Lib.BitFns
import Derived.Test.YtbpkfcohbefphaaGreatTopValG01
import Derived.Test.YtbpkfcohbefphaaGreatTopValG05
import Derived.Test.YtbpkfcohbefphaaGreatTopValG07

namespace Go.Proofs.YtbpkfcohbefphaaGreat
open Go Go.RowKit
/-- The cells xs are n fractions. -/
structure ListR (w : World) (xs : List Value) (n : Nat) (r : Nat → Rat) : Prop where
  len : xs.length = n * 4
  one : ∀ u ∈ xs, u.oneCell' = true
  at4 : ∀ j, j < n → ∃ s a l c t b k e, Q4 (fun i => xs[i]?) (j * 4) s a l c t b k e ∧ RatR w (.agg #[.bool s, .slice a l c, .bool t, .slice b k e]) (r j)
theorem ListR.but {X : Nat → Prop} {w w' : World} {xs : List Value} {n : Nat} {r : Nat → Rat} (h : ListR w xs n r) (hg : But X w w') : ListR w' xs n r :=
  ⟨h.len, h.one, fun j hj => by
    obtain ⟨s, a, l, c, t, b, k, e, h1, h2⟩ := h.at4 j hj
    exact ⟨s, a, l, c, t, b, k, e, h1, h2.but hg⟩⟩
theorem ListR.grow {w w' : World} {xs : List Value} {n : Nat} {r : Nat → Rat} (h : ListR w xs n r) (hg : Grow w w') : ListR w' xs n r := h.but (X := fun _ => False) (hg.but _)
theorem ListR.cong {w : World} {xs : List Value} {n : Nat} {r r' : Nat → Rat} (h : ListR w xs n r) (hr : ∀ j, j < n → r' j = r j) : ListR w xs n r' :=
  ⟨h.len, h.one, fun j hj => by rw [hr j hj]; exact h.at4 j hj⟩
theorem ListR.nil (w : World) (r : Nat → Rat) : ListR w [] 0 r := ⟨rfl, (fun _ h => by cases h), fun _ h => absurd h (Nat.not_lt_zero _)⟩
theorem ListR.append {w : World} {xs ys : List Value} {n m : Nat} {r r' : Nat → Rat} (h : ListR w xs n r) (h' : ListR w ys m r') : ListR w (xs ++ ys) (n + m) (fun j => if j < n then r j else r' (j - n)) := by
  refine ⟨by rw [List.length_append, h.len, h'.len]; omega, fun u hu => ?_, fun j hj => ?_⟩
  · rcases List.mem_append.1 hu with hu | hu
    · exact h.one u hu
    · exact h'.one u hu
  · by_cases hjn : j < n
    · obtain ⟨s, a, l, c, t, b, k, e, ⟨h1, h2, h3, h4⟩, h5⟩ := h.at4 j hjn
      have hl := h.len
      refine ⟨s, a, l, c, t, b, k, e, ⟨?_, ?_, ?_, ?_⟩, by rw [if_pos hjn]; exact h5⟩
      · exact (List.getElem?_append_left (by omega)).trans h1
      · exact (List.getElem?_append_left (by omega)).trans h2
      · exact (List.getElem?_append_left (by omega)).trans h3
      · exact (List.getElem?_append_left (by omega)).trans h4
    · obtain ⟨s, a, l, c, t, b, k, e, ⟨h1, h2, h3, h4⟩, h5⟩ := h'.at4 (j - n) (by omega)
      have hl := h.len
      have e0 : ∀ o, j * 4 + o - xs.length = (j - n) * 4 + o := fun o => by omega
      refine ⟨s, a, l, c, t, b, k, e, ⟨?_, ?_, ?_, ?_⟩, by rw [if_neg hjn]; exact h5⟩
      · exact (List.getElem?_append_right (by omega)).trans (by rw [show j * 4 - xs.length = (j - n) * 4 from e0 0]; exact h1)
      · exact (List.getElem?_append_right (by omega)).trans (by rw [e0 1]; exact h2)
      · exact (List.getElem?_append_right (by omega)).trans (by rw [e0 2]; exact h3)
      · exact (List.getElem?_append_right (by omega)).trans (by rw [e0 3]; exact h4)
/-- A row as a list. -/
theorem RowQ.toList {w : World} {B off m c : Nat} {r : Nat → Rat} (h : RowQ w B off m r) (hc : m ≤ c) : ∃ xs, ListR w xs m r ∧ RdRow w 4 (.slice (some ⟨B, off, none⟩) m c) m xs := by
  have hx : ∀ i, i < m * 4 → ∃ v, w.cell? ⟨B, off + i, none⟩ = some v ∧ v.oneCell' = true := fun i hi => by
    obtain ⟨s, a, l, c, t, b, k, e, ⟨h1, h2, h3, h4⟩, -⟩ := RowQ.at4 h (show i / 4 < m by omega)
    have hi4 : i % 4 < 4 := Nat.mod_lt _ (by omega)
    have hd : off + i = off + i / 4 * 4 + i % 4 := by omega
    rcases (by omega : i % 4 = 0 ∨ i % 4 = 1 ∨ i % 4 = 2 ∨ i % 4 = 3) with h0 | h0 | h0 | h0 <;> rw [hd, h0]
    · exact ⟨_, h1, rfl⟩
    · exact ⟨_, h2, rfl⟩
    · exact ⟨_, h3, rfl⟩
    · exact ⟨_, h4, rfl⟩
  have hget : ∀ i, i < m * 4 → ((List.range (m * 4)).map (fun i => (w.cell? ⟨B, off + i, none⟩).getD undef))[i]? = w.cell? ⟨B, off + i, none⟩ := fun i hi => by
    obtain ⟨v, hv, -⟩ := hx i hi
    simp [hi, hv]
  have hone : ∀ u ∈ (List.range (m * 4)).map (fun i => (w.cell? ⟨B, off + i, none⟩).getD undef), u.oneCell' = true := fun u hu => by
    obtain ⟨i, hi, rfl⟩ := List.mem_map.1 hu
    obtain ⟨v, hv, h1⟩ := hx i (List.mem_range.1 hi)
    rw [hv]; exact h1
  refine ⟨(List.range (m * 4)).map (fun i => (w.cell? ⟨B, off + i, none⟩).getD undef), ⟨by simp, hone, fun j hj => ?_⟩, by simp, hone, .inr ⟨B, off, c, rfl, h.lt, hc, fun i u hu => ?_⟩⟩
  · obtain ⟨s, a, l, c, t, b, k, e, ⟨h1, h2, h3, h4⟩, h5⟩ := RowQ.at4 h hj
    refine ⟨s, a, l, c, t, b, k, e, ⟨(hget _ (by omega)).trans h1, (hget _ (by omega)).trans ?_, (hget _ (by omega)).trans ?_, (hget _ (by omega)).trans ?_⟩, h5⟩
    · exact h2
    · exact h3
    · exact h4
  · by_cases hi : i < m * 4
    · rw [hget i hi] at hu; exact hu
    · rw [List.getElem?_eq_none (by simp; omega)] at hu; cases hu
/-- An own row of fractions. -/
theorem own_rowq {w : World} {base g n cap : Nat} {t : TypeId} {xs : List Value} {r : Nat → Rat} (h : w.ownsRow base t 4 (.slice (some ⟨g, 0, none⟩) n cap) n xs) (hl : ListR w xs n r) : RowQ w g 0 n r := by
  obtain ⟨h1, h2, h3, h4, h5⟩ := own_cells h
  refine ⟨h1, h4, fun j hj => ?_⟩
  obtain ⟨s, a, l, c, t, b, k, e, ⟨q1, q2, q3, q4⟩, q5⟩ := hl.at4 j hj
  refine ⟨s, a, l, c, t, b, k, e, ⟨?_, ?_, ?_, ?_⟩, fun x hx => by injection hx with hx; rw [← hx]; exact q5⟩
  · exact h5 _ _ (by rw [Nat.zero_add]; exact q1)
  · exact h5 _ _ (by rw [Nat.zero_add]; exact q2)
  · exact h5 _ _ (by rw [Nat.zero_add]; exact q3)
  · exact h5 _ _ (by rw [Nat.zero_add]; exact q4)
theorem own_form {w : World} {base : Nat} {e : TypeId} {size : Nat} {v : Value} {n : Nat} {xs : List Value} (h : w.ownsRow base e size v n xs) : ∃ a c, v = .slice a n c := by
  rcases h.2 with ⟨rfl, rfl⟩ | ⟨g, cap, cur, rfl, _⟩
  · exact ⟨_, _, rfl⟩
  · exact ⟨_, _, rfl⟩
section
variable {P : Program}
end
end Go.Proofs.YtbpkfcohbefphaaGreat
namespace Go.Proofs.YtbpkfcohbefphaaGreat
open Go Go.RowKit
/-- The pivot's row divided. -/
def elimP (c : Nat) (M : Nat → Nat → Rat) : Nat → Nat → Rat := upd M c (fun i => if c ≤ i then M c i / M c c else M c i)
/-- Rows before j cleared. -/
def elimJ (c j : Nat) (M : Nat → Nat → Rat) : Nat → Nat → Rat := fun a i => if a ≠ c ∧ a < j ∧ c ≤ i then M a i + -(M a c) * M c i else M a i
def elim (n c : Nat) (M : Nat → Nat → Rat) : Nat → Nat → Rat := elimJ c n (elimP c M)
/-- What stands in memory while reduce walks: the grid, det in block D, the result's cell in block B0. -/
structure RedS (w : World) (B0 D G n m : Nat) (R O C : Nat → Nat) (u : World) (d : Rat) (N : Nat → Nat → Rat) : Prop where
  but : But (fun b => ∃ i, i < n ∧ b = R i) w u
  grid : GridQ u G n R O C m N
  det : RowQ u D 0 1 (fun _ => d)
  res : RowP u B0 0 1 (fun _ => none)
  far1 : B0 < D
  far2 : ∀ i, i < n → R i < B0
  far3 : G < B0
  base : w.heap.size ≤ B0
theorem RedS.grow {w u u' : World} {B0 D G n m : Nat} {R O C : Nat → Nat} {d : Rat} {N : Nat → Nat → Rat} (h : RedS w B0 D G n m R O C u d N) (hg : Grow u u') : RedS w B0 D G n m R O C u' d N :=
  ⟨h.but.grow hg, h.grid.grow hg, RowP.grow h.det hg, h.res.grow hg, h.far1, h.far2, h.far3, h.base⟩
theorem RedS.row {w u u' : World} {B0 D G n m : Nat} {R O C : Nat → Nat} {d : Rat} {N : Nat → Nat → Rat} (h : RedS w B0 D G n m R O C u d N) {j : Nat} (hj : j < n) {r : Nat → Rat} (hb : But (fun b => b = R j) u u') (hr : RowQ u' (R j) (O j) m r) : RedS w B0 D G n m R O C u' d (upd N j r) :=
  ⟨h.but.late hb (fun b _ hb => ⟨j, hj, hb⟩), h.grid.row_set hj hb hr, RowP.but h.det (fun e => by have := h.far2 j hj; have := h.far1; omega) hb, h.res.but (fun e => by have := h.far2 j hj; omega) hb, h.far1, h.far2, h.far3, h.base⟩
theorem RedS.cong {w u : World} {B0 D G n m : Nat} {R O C : Nat → Nat} {d : Rat} {N N' : Nat → Nat → Rat} (h : RedS w B0 D G n m R O C u d N) (hN : ∀ i j, i < n → j < m → N' i j = N i j) : RedS w B0 D G n m R O C u d N' :=
  ⟨h.but, h.grid.cong hN, h.det, h.res, h.far1, h.far2, h.far3, h.base⟩
end Go.Proofs.YtbpkfcohbefphaaGreat
namespace Go.Proofs.YtbpkfcohbefphaaGreat
open Go Go.RowKit
/-- A row of n ints (zeros of one kind behind them), in a block from base on. -/
def OwnI (w : World) (base : Nat) (v : Value) (n : Nat) (xs : List Value) : Prop :=
  xs.length = n ∧ ((v = .slice none 0 0 ∧ n = 0) ∨ ∃ g cap cur, v = .slice (some ⟨g, 0, none⟩) n cap ∧ base ≤ g ∧ w.heap[g]? = some (.cells cur 3 (0, 0)) ∧ n ≤ cap ∧ cap ≤ maxLen ∧ cur.size = cap ∧ cur.toList.take n = xs ∧ ∀ u, u ∈ cur.toList → ∃ x, u = .int .i64 x)
theorem OwnI.nil (w : World) (base : Nat) : OwnI w base (.slice none 0 0) 0 [] := ⟨rfl, .inl ⟨rfl, rfl⟩⟩
theorem OwnI.form {w : World} {base : Nat} {v : Value} {n : Nat} {xs : List Value} (h : OwnI w base v n xs) : ∃ a c, v = .slice a n c := by
  rcases h.2 with ⟨rfl, rfl⟩ | ⟨g, cap, cur, rfl, _⟩
  · exact ⟨_, _, rfl⟩
  · exact ⟨_, _, rfl⟩
theorem OwnI.but {X : Nat → Prop} {w w1 : World} {base : Nat} {v : Value} {n : Nat} {xs : List Value} (h : OwnI w base v n xs) (hg : But X w w1) (hX : ∀ b, base ≤ b → ¬ X b) : OwnI w1 base v n xs := by
  refine ⟨h.1, ?_⟩
  rcases h.2 with h2 | ⟨g, cap, cur, hv, hb, hh, h3⟩
  · exact .inl h2
  · exact .inr ⟨g, cap, cur, hv, hb, (hg.block g (Array.getElem?_eq_some_iff.1 hh).1 (hX g hb)).trans hh, h3⟩
theorem OwnI.grow {w w1 : World} {base : Nat} {v : Value} {n : Nat} {xs : List Value} (h : OwnI w base v n xs) (hg : Grow w w1) : OwnI w1 base v n xs := h.but (X := fun _ => False) (hg.but _) (fun _ _ h => h)
theorem zero_ints (k : Nat) : ∀ u, u ∈ (Builtin.zeroCells #[.int .i64 0] k).toList → ∃ x, u = Value.int .i64 x := by
  intro u hu
  simp [Builtin.zeroCells] at hu
  obtain ⟨i, -, rfl⟩ := hu
  exact ⟨0, by simp [Nat.mod_one]⟩
theorem frozen_plain {w : World} {g : Nat} {cur : Array Value} {e : TypeId} (h : w.heap[g]? = some (.cells cur e (0, 0))) (o : Nat) : w.frozen? ⟨g, o, none⟩ = false := by
  unfold World.frozen?
  simp only [h]
  simp
section
variable {P : Program}
end
end Go.Proofs.YtbpkfcohbefphaaGreat
namespace Go.Proofs.YtbpkfcohbefphaaGreat
open Go Go.RowKit
theorem rowp_alloc (u : World) (ty : TypeId) : RowP (u.alloc (.cells #[.bool false, .slice none 0 0, .bool false, .slice none 0 0] ty)) u.heap.size 0 1 (fun _ => none) := by
  refine ⟨by simp, fun o => by go_simp, fun j hj => ?_⟩
  have hj0 : j = 0 := by omega
  subst hj0
  refine ⟨false, none, 0, 0, false, none, 0, 0, ⟨?_, ?_, ?_, ?_⟩, fun y hy => by cases hy⟩ <;> go_simp
theorem GridQ.cells {w : World} {G n m : Nat} {R O C : Nat → Nat} {M : Nat → Nat → Rat} (h : GridQ w G n R O C m M) {i : Nat} (hi : i < n) : ∀ u : World, Grow w u → u.cell? ⟨G, i, none⟩ = some (.slice (some ⟨R i, O i, none⟩) m (C i)) := fun _ hu => (hu.cells _ _ h.lt).trans (h.cell i hi)
theorem infoInt : (Tryz.prog.info? 3).map (fun i => (i.zero, i.size, i.bytes)) = some (some (.int .i64 0), 1, 8) := by kernel_rfl
end Go.Proofs.YtbpkfcohbefphaaGreat
namespace Go.Proofs.YtbpkfcohbefphaaGreat
open Go Go.RowKit
/-- Cells of a new block, in every grown world. -/
theorem ak1 {w W : World} {v0 : Value} {t : TypeId} (hW : W = w.alloc (.cells #[v0] t)) : ∀ u : World, Grow W u → u.cell? ⟨w.heap.size, 0, none⟩ = some v0 ∧ (∀ o, u.frozen? ⟨w.heap.size, o, none⟩ = false) ∧ w.heap.size < u.heap.size := by
  intro u hg
  have hz := hg.size
  have hlt : w.heap.size < W.heap.size := by rw [hW]; simp
  refine ⟨(hg.cells _ _ hlt).trans ?_, fun o => (hg.frees _ _ hlt).trans ?_, by omega⟩ <;> (rw [hW]; go_simp)
theorem ak2 {w W : World} {v0 v1 : Value} {t : TypeId} (hW : W = w.alloc (.cells #[v0, v1] t)) : ∀ u : World, Grow W u → u.cell? ⟨w.heap.size, 0, none⟩ = some v0 ∧ u.cell? ⟨w.heap.size, 1, none⟩ = some v1 ∧ (∀ o, u.frozen? ⟨w.heap.size, o, none⟩ = false) ∧ w.heap.size < u.heap.size := by
  intro u hg
  have hz := hg.size
  have hlt : w.heap.size < W.heap.size := by rw [hW]; simp
  refine ⟨(hg.cells _ _ hlt).trans ?_, (hg.cells _ _ hlt).trans ?_, fun o => (hg.frees _ _ hlt).trans ?_, by omega⟩ <;> (rw [hW]; go_simp)
theorem ak3 {w W : World} {v0 v1 v2 : Value} {t : TypeId} (hW : W = w.alloc (.cells #[v0, v1, v2] t)) : ∀ u : World, Grow W u → u.cell? ⟨w.heap.size, 0, none⟩ = some v0 ∧ u.cell? ⟨w.heap.size, 1, none⟩ = some v1 ∧ u.cell? ⟨w.heap.size, 2, none⟩ = some v2 ∧ (∀ o, u.frozen? ⟨w.heap.size, o, none⟩ = false) ∧ w.heap.size < u.heap.size := by
  intro u hg
  have hz := hg.size
  have hlt : w.heap.size < W.heap.size := by rw [hW]; simp
  refine ⟨(hg.cells _ _ hlt).trans ?_, (hg.cells _ _ hlt).trans ?_, (hg.cells _ _ hlt).trans ?_, fun o => (hg.frees _ _ hlt).trans ?_, by omega⟩ <;> (rw [hW]; go_simp)
theorem ak4 {w W : World} {v0 v1 v2 v3 : Value} {t : TypeId} (hW : W = w.alloc (.cells #[v0, v1, v2, v3] t)) : ∀ u : World, Grow W u → u.cell? ⟨w.heap.size, 0, none⟩ = some v0 ∧ u.cell? ⟨w.heap.size, 1, none⟩ = some v1 ∧ u.cell? ⟨w.heap.size, 2, none⟩ = some v2 ∧ u.cell? ⟨w.heap.size, 3, none⟩ = some v3 ∧ (∀ o, u.frozen? ⟨w.heap.size, o, none⟩ = false) ∧ w.heap.size < u.heap.size := by
  intro u hg
  have hz := hg.size
  have hlt : w.heap.size < W.heap.size := by rw [hW]; simp
  refine ⟨(hg.cells _ _ hlt).trans ?_, (hg.cells _ _ hlt).trans ?_, (hg.cells _ _ hlt).trans ?_, (hg.cells _ _ hlt).trans ?_, fun o => (hg.frees _ _ hlt).trans ?_, by omega⟩ <;> (rw [hW]; go_simp)
theorem ag {w W : World} {vs : Array Value} {t : TypeId} (hW : W = w.alloc (.cells vs t)) : Grow w W := by rw [hW]; exact (Grow.refl w).alloc _
/-- A fraction in the cell of a result, stored. -/
theorem rescell {w u : World} {B : Nat} {x : Rat} {s t : Bool} {a b : Option Addr} {l c k e : Nat} (h : RowP u B 0 1 (fun _ => none)) (hB : w.heap.size ≤ B) (hg : Grow w u) (hx : RatR u (.agg #[.bool s, .slice a l c, .bool t, .slice b k e]) x) :
    RatR (st4 u B 0 (.bool s) (.slice a l c) (.bool t) (.slice b k e)) (.agg #[.bool s, .slice a l c, .bool t, .slice b k e]) x ∧ Grow w (st4 u B 0 (.bool s) (.slice a l c) (.bool t) (.slice b k e)) := by
  have hb : But (fun b => b = B) u (st4 u B 0 (.bool s) (.slice a l c) (.bool t) (.slice b k e)) := But.st4 (X := fun b => b = B) (But.refl _ u) (.inr rfl) (by have := h.q4 (show 0 < 1 by omega); simpa using this) _ _ _ _ _ _ _ _
  exact ⟨hx.but hb, ((hg.but _).trans hb).asGrow (fun b e => by omega)⟩
end Go.Proofs.YtbpkfcohbefphaaGreat
namespace Go.Proofs.YtbpkfcohbefphaaGreat
open Go Go.RowKit
/-- The marks of a list of bools. -/
structure MarkB (w : World) (B n : Nat) (f : Nat → Bool) : Prop where
  lt : B < w.heap.size
  free : ∀ o, w.frozen? ⟨B, o, none⟩ = false
  cell : ∀ i, i < n → w.cell? ⟨B, i, none⟩ = some (.bool (f i))
theorem MarkB.but {X : Nat → Prop} {w w' : World} {B n : Nat} {f : Nat → Bool} (h : MarkB w B n f) (hX : ¬ X B) (hg : But X w w') : MarkB w' B n f :=
  ⟨Nat.lt_of_lt_of_le h.lt hg.size, fun o => (hg.frees _ _ h.lt).trans (h.free o), fun i hi => (hg.cells _ _ h.lt hX).trans (h.cell i hi)⟩
theorem MarkB.grow {w w' : World} {B n : Nat} {f : Nat → Bool} (h : MarkB w B n f) (hg : Grow w w') : MarkB w' B n f := h.but (X := fun _ => False) (fun h => h) (hg.but _)
theorem MarkB.cong {w : World} {B n : Nat} {f f' : Nat → Bool} (h : MarkB w B n f) (hf : ∀ i, i < n → f' i = f i) : MarkB w B n f' :=
  ⟨h.lt, h.free, fun i hi => by rw [hf i hi]; exact h.cell i hi⟩
theorem MarkB.set {w : World} {B n : Nat} {f : Nat → Bool} (h : MarkB w B n f) {k : Nat} (hk : k < n) (b : Bool) : MarkB (w.setCell ⟨B, k, none⟩ (.bool b)) B n (upd f k b) := by
  refine ⟨by simpa [World.setCell] using h.lt, fun o => by simpa using h.free o, fun i hi => ?_⟩
  by_cases hik : i = k
  · subst hik
    rw [upd_same]
    exact World.cell?_setCell_same _ _ _ (h.cell i hi)
  · rw [World.cell?_setCell_other _ _ _ _ (by simp; try omega), upd_other _ _ hik]
    exact h.cell i hi
theorem MarkB.but_set {X : Nat → Prop} {w u : World} {B n : Nat} {f : Nat → Bool} (h : MarkB u B n f) {k : Nat} (hk : k < n) (hX : w.heap.size ≤ B ∨ X B) (hb : But X w u) (v : Value) : But X w (u.setCell ⟨B, k, none⟩ v) :=
  hb.set _ hX (fun x => by rw [h.cell k hk]; simp)
end Go.Proofs.YtbpkfcohbefphaaGreat
namespace Go.Proofs.YtbpkfcohbefphaaGreat
open Go Go.RowKit
/-- What stands in memory while Signature walks. -/
structure SigS (w : World) (G D n : Nat) (R O C : Nat → Nat) (u : World) (k : Nat) (N : Nat → Nat → Rat) : Prop where
  grow : Grow w u
  grid : GridQ u G n R O C n N
  mark : MarkB u D n (fun i => decide (i < k))
  bG : w.heap.size ≤ G
  bR : ∀ i, i < n → w.heap.size ≤ R i
  bD : w.heap.size ≤ D
  dG : D ≠ G
  dR : ∀ i, i < n → R i ≠ D
section
variable {w u u' : World} {G D n k : Nat} {R O C : Nat → Nat} {N N' : Nat → Nat → Rat}
theorem SigS.cong (h : SigS w G D n R O C u k N) (hN : ∀ i j, i < n → j < n → N' i j = N i j) : SigS w G D n R O C u k N' :=
  ⟨h.grow, h.grid.cong hN, h.mark, h.bG, h.bR, h.bD, h.dG, h.dR⟩
theorem SigS.row (h : SigS w G D n R O C u k N) {j : Nat} (hj : j < n) {r : Nat → Rat} (hb : But (fun b => b = R j) u u') (hr : RowQ u' (R j) (O j) n r) : SigS w G D n R O C u' k (upd N j r) := by
  refine ⟨(((h.grow.but _).trans hb).asGrow (fun b e => ?_)), h.grid.row_set hj hb hr, h.mark.but (fun e => h.dR j hj e.symm) hb, h.bG, h.bR, h.bD, h.dG, h.dR⟩
  rw [e]; exact h.bR j hj
theorem SigS.put (h : SigS w G D n R O C u k N) {j c : Nat} (hj : j < n) (hc : c < n) {s : Bool} {a : Option Addr} {l z : Nat} {t : Bool} {b : Option Addr} {y e : Nat} {x : Rat}
    (hx : RatR u (.agg #[.bool s, .slice a l z, .bool t, .slice b y e]) x) : But (fun b => b = R j) u (st4 u (R j) (O j + c * 4) (.bool s) (.slice a l z) (.bool t) (.slice b y e)) ∧ SigS w G D n R O C (st4 u (R j) (O j + c * 4) (.bool s) (.slice a l z) (.bool t) (.slice b y e)) k (upd N j (fun i => if i = c then x else N j i)) := by
  have hb : But (fun b => b = R j) u (st4 u (R j) (O j + c * 4) (.bool s) (.slice a l z) (.bool t) (.slice b y e)) := But.st4 (X := fun b => b = R j) (But.refl _ u) (.inr rfl) (RowP.q4 (h.grid.row j hj) hc) _ _ _ _ _ _ _ _
  exact ⟨hb, h.row hj hb (RowQ.set (h.grid.row j hj) hc hx)⟩
end
end Go.Proofs.YtbpkfcohbefphaaGreat
namespace Go.Proofs.YtbpkfcohbefphaaGreat
open Go Go.RowKit
theorem abs_mul_le {x y : Int} {a b c : Nat} (hx : x.natAbs ≤ a) (hy : y.natAbs ≤ b) (hc : a * b ≤ c) : (x * y).natAbs ≤ c := by
  rw [Int.natAbs_mul]; exact Nat.le_trans (Nat.mul_le_mul hx hy) hc
theorem wrap64_eq (x : Int) : IntKind.i64.wrap x = wrap64 x := by simp [IntKind.wrap, IntKind.bits, IntKind.signed, wrap64]; try omega
theorem w64n {n : Int} (h : n.natAbs ≤ 9000000000000000000) : IntKind.i64.wrap n = n ∧ wrap64 n = n := by
  have h1 : IntKind.i64.wrap n = n := IntWalk.i64_in _ (by omega)
  exact ⟨h1, by rw [← wrap64_eq]; exact h1⟩
theorem inc_wrap {i n : Nat} (hi : i < n) (hn : n ≤ 100000) : IntKind.i64.wrap ((i : Int) + 1) = ((i + 1 : Nat) : Int) ∧ wrap64 ((i : Int) + 1) = ((i + 1 : Nat) : Int) := by
  obtain ⟨a, b⟩ := w64n (n := (i : Int) + 1) (by omega)
  exact ⟨a.trans (by omega), b.trans (by omega)⟩
/-- A block of three cells. -/
structure O3 (u : World) (B : Nat) (v0 v1 v2 : Value) : Prop where
  c0 : u.cell? ⟨B, 0, none⟩ = some v0
  c1 : u.cell? ⟨B, 1, none⟩ = some v1
  c2 : u.cell? ⟨B, 2, none⟩ = some v2
  fr : ∀ o, u.frozen? ⟨B, o, none⟩ = false
  lt : B < u.heap.size
/-- A block of four cells. -/
structure O4 (u : World) (B : Nat) (v0 v1 v2 v3 : Value) : Prop where
  c0 : u.cell? ⟨B, 0, none⟩ = some v0
  c1 : u.cell? ⟨B, 1, none⟩ = some v1
  c2 : u.cell? ⟨B, 2, none⟩ = some v2
  c3 : u.cell? ⟨B, 3, none⟩ = some v3
  fr : ∀ o, u.frozen? ⟨B, o, none⟩ = false
  lt : B < u.heap.size
section
variable {u u' : World} {B : Nat} {v0 v1 v2 v3 : Value}
theorem O3.grow (h : O3 u B v0 v1 v2) (hg : Grow u u') : O3 u' B v0 v1 v2 :=
  ⟨(hg.cells _ _ h.lt).trans h.c0, (hg.cells _ _ h.lt).trans h.c1, (hg.cells _ _ h.lt).trans h.c2, fun o => (hg.frees _ _ h.lt).trans (h.fr o), Nat.lt_of_lt_of_le h.lt hg.size⟩
theorem O4.grow (h : O4 u B v0 v1 v2 v3) (hg : Grow u u') : O4 u' B v0 v1 v2 v3 :=
  ⟨(hg.cells _ _ h.lt).trans h.c0, (hg.cells _ _ h.lt).trans h.c1, (hg.cells _ _ h.lt).trans h.c2, (hg.cells _ _ h.lt).trans h.c3, fun o => (hg.frees _ _ h.lt).trans (h.fr o), Nat.lt_of_lt_of_le h.lt hg.size⟩
theorem O3.off (h : O3 u B v0 v1 v2) {b : Nat} (hb : b ≠ B) (o : Nat) (v : Value) : O3 (u.setCell ⟨b, o, none⟩ v) B v0 v1 v2 := by
  have hf : ∀ i, (u.setCell ⟨b, o, none⟩ v).cell? ⟨B, i, none⟩ = u.cell? ⟨B, i, none⟩ := fun i => World.cell?_setCell_other _ _ _ _ (by simp; try omega)
  exact ⟨(hf 0).trans h.c0, (hf 1).trans h.c1, (hf 2).trans h.c2, fun i => by simpa using h.fr i, by simpa [World.setCell] using h.lt⟩
theorem O4.off (h : O4 u B v0 v1 v2 v3) {b : Nat} (hb : b ≠ B) (o : Nat) (v : Value) : O4 (u.setCell ⟨b, o, none⟩ v) B v0 v1 v2 v3 := by
  have hf : ∀ i, (u.setCell ⟨b, o, none⟩ v).cell? ⟨B, i, none⟩ = u.cell? ⟨B, i, none⟩ := fun i => World.cell?_setCell_other _ _ _ _ (by simp; try omega)
  exact ⟨(hf 0).trans h.c0, (hf 1).trans h.c1, (hf 2).trans h.c2, (hf 3).trans h.c3, fun i => by simpa using h.fr i, by simpa [World.setCell] using h.lt⟩
theorem O3.set2 (h : O3 u B v0 v1 v2) (v : Value) : O3 (u.setCell ⟨B, 2, none⟩ v) B v0 v1 v :=
  ⟨(World.cell?_setCell_other _ _ _ _ (by simp)).trans h.c0, (World.cell?_setCell_other _ _ _ _ (by simp)).trans h.c1, World.cell?_setCell_same _ _ _ h.c2, fun i => by simpa using h.fr i, by simpa [World.setCell] using h.lt⟩
theorem O4.set2 (h : O4 u B v0 v1 v2 v3) (v : Value) : O4 (u.setCell ⟨B, 2, none⟩ v) B v0 v1 v v3 :=
  ⟨(World.cell?_setCell_other _ _ _ _ (by simp)).trans h.c0, (World.cell?_setCell_other _ _ _ _ (by simp)).trans h.c1, World.cell?_setCell_same _ _ _ h.c2, (World.cell?_setCell_other _ _ _ _ (by simp)).trans h.c3, fun i => by simpa using h.fr i, by simpa [World.setCell] using h.lt⟩
theorem O3.lay {w W : World} {t : TypeId} (hW : W = w.alloc (.cells #[v0, v1, v2] t)) : O3 W w.heap.size v0 v1 v2 := by
  obtain ⟨h0, h1, h2, h3, h4⟩ := ak3 hW W (Grow.refl _)
  exact ⟨h0, h1, h2, h3, h4⟩
theorem O4.lay {w W : World} {t : TypeId} (hW : W = w.alloc (.cells #[v0, v1, v2, v3] t)) : O4 W w.heap.size v0 v1 v2 v3 := by
  obtain ⟨h0, h1, h2, h3, h4, h5⟩ := ak4 hW W (Grow.refl _)
  exact ⟨h0, h1, h2, h3, h4, h5⟩
end
end Go.Proofs.YtbpkfcohbefphaaGreat
namespace Go.Proofs.YtbpkfcohbefphaaGreat
open Go Go.RowKit
theorem results_pair {fn : Func} {p q : Tmp} (h : fn.results = #[.tmp p, .tmp q]) (tmps : Array Value) (P : Program) (w : World) :
    (results fn tmps).run P w = .ok (.tuple #[tmps.getD p undef, tmps.getD q undef]) w := by
  simp [results, h]
set_option maxHeartbeats 1000000 in
theorem smallV (z : Int) (v : Value) (w : World) (h : IntR w v z) : Calls Tryz.prog 53 #[v] w fun e w' => e = .returned (.tuple #[.int .i64 z, .bool true]) ∧ Grow w w' := by
  obtain ⟨m, rfl, h⟩ := h
  have hlt := h.lt
  obtain ⟨n, hn⟩ : ∃ n : Nat, z.natAbs = n := ⟨_, rfl⟩
  rw [hn] at h hlt
  have TR := Lib.hid (fun (u : World) (hu : Grow w u) => trimmed_mag m n u (h.grow hu))
  have WR := Lib.hid (fun (u : World) (hu : Grow w u) => word_any m n u (h.grow hu))
  obtain ⟨a, cap, rfl⟩ := h.form
  obtain ⟨l, hl⟩ : ∃ l, (if n = 0 then 0 else 1) = l := ⟨_, rfl⟩
  have hl2 : l ≤ 1 := by rw [← hl]; split <;> omega
  rw [hl] at TR WR ⊢
  have e0 : decide ((l : Int) > 2) = false := by simp; omega
  have e1 : decide ((n : Int) > 9223372036854775808) = false := by simp; omega
  have e2 : ((n : Int) == 9223372036854775808) = false := by simp; omega
  clear hl h
  by_cases hz : z < 0
  · have hs : sgB z = true := by simp [sgB, hz]
    rw [hs]
    have hzn : z = -(n : Int) := by omega
    obtain ⟨W, hW⟩ : ∃ W, (18446744073709551616 : Int) - (n : Int) = W := ⟨_, rfl⟩
    have y1 : IntKind.u64.wrap (-(n : Int)) = W := by rw [← hW]; simp [IntKind.wrap, IntKind.bits, IntKind.signed]; omega
    have y2 : IntKind.i64.wrap W = z := by rw [← hW, hzn]; simp [IntKind.wrap, IntKind.bits, IntKind.signed]; omega
    have y3 : wrap64 W = z := by rw [← hW, hzn]; unfold wrap64; omega
    clear hn hzn hs hW hz
    go_enter Tryz.func53, Tryz.ntmps53
    go_wp2_with (first
      | (go_at_call 78; (with_reducible refine (TR.out _ (by (repeat (first | with_reducible exact Grow.refl _ | with_reducible refine Grow.alloc ?_ _ | with_reducible refine Grow.drew ?_ | with_reducible refine Grow.drewN ?_ _ | (with_reducible refine Grow.setCell ?_ ?hp _; (case hp => (simp; try omega))) | with_reducible refine Grow.trans ?_ (by assumption))))).mono ?_); (rintro e u1 ⟨rfl, rfl⟩))
      | (go_at_call 88; (with_reducible refine (WR.out _ (by (repeat (first | with_reducible exact Grow.refl _ | with_reducible refine Grow.alloc ?_ _ | with_reducible refine Grow.drew ?_ | with_reducible refine Grow.drewN ?_ _ | (with_reducible refine Grow.setCell ?_ ?hp _; (case hp => (simp; try omega))) | with_reducible refine Grow.trans ?_ (by assumption))))).mono ?_); (rintro e u2 ⟨rfl, rfl⟩)))
    exact bodyPost_ret (v := .tuple #[.int .i64 z, .bool true]) (by rw [results_pair rfl]; rfl) rfl ⟨rfl, by (repeat (first | with_reducible exact Grow.refl _ | with_reducible refine Grow.alloc ?_ _ | with_reducible refine Grow.drew ?_ | with_reducible refine Grow.drewN ?_ _ | (with_reducible refine Grow.setCell ?_ ?hp _; (case hp => (simp; try omega))) | with_reducible refine Grow.trans ?_ (by assumption)))⟩
  · have hs : sgB z = false := by simp [sgB, hz]
    rw [hs]
    have hzn : (n : Int) = z := by omega
    have y2 : IntKind.i64.wrap (n : Int) = z := by rw [hzn]; exact IntWalk.i64_in _ (by omega)
    have y3 : wrap64 (n : Int) = z := by unfold wrap64; omega
    clear hn hzn hs hz
    go_enter Tryz.func53, Tryz.ntmps53
    go_wp2_with (first
      | (go_at_call 78; (with_reducible refine (TR.out _ (by (repeat (first | with_reducible exact Grow.refl _ | with_reducible refine Grow.alloc ?_ _ | with_reducible refine Grow.drew ?_ | with_reducible refine Grow.drewN ?_ _ | (with_reducible refine Grow.setCell ?_ ?hp _; (case hp => (simp; try omega))) | with_reducible refine Grow.trans ?_ (by assumption))))).mono ?_); (rintro e u1 ⟨rfl, rfl⟩))
      | (go_at_call 88; (with_reducible refine (WR.out _ (by (repeat (first | with_reducible exact Grow.refl _ | with_reducible refine Grow.alloc ?_ _ | with_reducible refine Grow.drew ?_ | with_reducible refine Grow.drewN ?_ _ | (with_reducible refine Grow.setCell ?_ ?hp _; (case hp => (simp; try omega))) | with_reducible refine Grow.trans ?_ (by assumption))))).mono ?_); (rintro e u2 ⟨rfl, rfl⟩)))
    exact bodyPost_ret (v := .tuple #[.int .i64 z, .bool true]) (by rw [results_pair rfl]; rfl) rfl ⟨rfl, by (repeat (first | with_reducible exact Grow.refl _ | with_reducible refine Grow.alloc ?_ _ | with_reducible refine Grow.drew ?_ | with_reducible refine Grow.drewN ?_ _ | (with_reducible refine Grow.setCell ?_ ?hp _; (case hp => (simp; try omega))) | with_reducible refine Grow.trans ?_ (by assumption)))⟩
end Go.Proofs.YtbpkfcohbefphaaGreat
namespace Go.Proofs.YtbpkfcohbefphaaGreat
open Go Go.RowKit
theorem BxV.zero (u : World) (t : TypeId) : BxV (u.alloc (.cells #[.bool false, .slice none 0 0] t)) u.heap.size 0 := by
  have h := BxV.lay (w := u) (z := 0) (a := none) (l := 0) (c := 0) (.inl ⟨rfl, none, 0, rfl⟩) t
  exact h
end Go.Proofs.YtbpkfcohbefphaaGreat
namespace Go.Proofs.YtbpkfcohbefphaaGreat
open Go Go.RowKit
/-- The grid while its rows are cut. -/
structure CutS (u : World) (G n m : Nat) (R O C : Nat → Nat) (N : Nat → Nat → Rat) (i : Nat) : Prop where
  lt : G < u.heap.size
  free : ∀ o, u.frozen? ⟨G, o, none⟩ = false
  done : ∀ k, k < n → k < i → u.cell? ⟨G, k, none⟩ = some (.slice (some ⟨R k, O k + n * 4, none⟩) n (C k - n))
  left : ∀ k, k < n → i ≤ k → u.cell? ⟨G, k, none⟩ = some (.slice (some ⟨R k, O k, none⟩) m (C k))
  row : ∀ k, k < n → RowQ u (R k) (O k) m (N k)
  far : ∀ k, k < n → R k ≠ G
theorem CutS.grow {u u' : World} {G n m i : Nat} {R O C : Nat → Nat} {N : Nat → Nat → Rat} (h : CutS u G n m R O C N i) (hg : Grow u u') : CutS u' G n m R O C N i :=
  ⟨Nat.lt_of_lt_of_le h.lt hg.size, fun o => (hg.frees _ _ h.lt).trans (h.free o), fun k hk hi => (hg.cells _ _ h.lt).trans (h.done k hk hi), fun k hk hi => (hg.cells _ _ h.lt).trans (h.left k hk hi), fun k hk => RowP.grow (h.row k hk) hg, h.far⟩
theorem CutS.next {u : World} {G n m i : Nat} {R O C : Nat → Nat} {N : Nat → Nat → Rat} (h : CutS u G n m R O C N i) (hi : i < n) : CutS (u.setCell ⟨G, i, none⟩ (.slice (some ⟨R i, O i + n * 4, none⟩) n (C i - n))) G n m R O C N (i + 1) := by
  have hb : But (fun b => b = G) u (u.setCell ⟨G, i, none⟩ (.slice (some ⟨R i, O i + n * 4, none⟩) n (C i - n))) := (But.refl _ u).set _ (.inr rfl) (fun x => by rw [h.left i hi (Nat.le_refl _)]; simp)
  refine ⟨by simpa [World.setCell] using h.lt, fun o => by simpa using h.free o, fun k hk hki => ?_, fun k hk hki => ?_, fun k hk => RowP.but (h.row k hk) (h.far k hk) hb, h.far⟩
  · by_cases e : k = i
    · subst e; exact World.cell?_setCell_same _ _ _ (h.left k hk (Nat.le_refl _))
    · rw [World.cell?_setCell_other _ _ _ _ (by simp; try omega)]
      exact h.done k hk (by omega)
  · rw [World.cell?_setCell_other _ _ _ _ (by simp; try omega)]
    exact h.left k hk (by omega)
theorem CutS.grid {u : World} {G n m : Nat} {R O C : Nat → Nat} {N : Nat → Nat → Rat} (h : CutS u G n m R O C N n) (hm : m = n + n) (hc : ∀ i, i < n → m ≤ C i) (hj : ∀ i k, i < n → k < n → R i = R k → i = k) : GridQ u G n R (fun i => O i + n * 4) (fun i => C i - n) n (fun i k => N i (n + k)) := by
  refine ⟨h.lt, h.free, fun i hi => ?_, fun i hi => by have := hc i hi; omega, fun i hi => ?_, h.far, hj⟩
  · exact h.done i hi hi
  · have h1 := RowP.tail (h.row i hi) n (by omega)
    rw [hm, Nat.add_sub_cancel] at h1
    exact h1
end Go.Proofs.YtbpkfcohbefphaaGreat
