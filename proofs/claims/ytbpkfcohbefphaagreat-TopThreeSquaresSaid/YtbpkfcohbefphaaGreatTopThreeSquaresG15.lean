/- Lemmas, plain laws and walks that the statement LwThreeSquares leans on (texts ThA, QiA), conditions as each theorem says. -/
import Derived.Test.YtbpkfcohbefphaaGreatTopThreeSquaresG01
import Derived.Test.YtbpkfcohbefphaaGreatTopThreeSquaresG08
import Derived.Test.YtbpkfcohbefphaaGreatTopThreeSquaresG13

/- Plain law: numbers of representations by a binary form. -/
namespace Go.Proofs.YtbpkfcohbefphaaGreat

theorem len_of_sub {α : Type} [DecidableEq α] : ∀ (l l' : List α), l.Nodup → (∀ x, x ∈ l → x ∈ l') → l.length ≤ l'.length
  | [], _, _, _ => Nat.zero_le _
  | a :: t, l', h, hs => by
    have ha : a ∈ l' := hs a (by simp)
    have h1 := List.nodup_cons.1 h
    have := len_of_sub t (l'.erase a) h1.2 (fun x hx => (List.mem_erase_of_ne (fun e : x = a => h1.1 (by rw [← e]; exact hx))).2 (hs x (by simp [hx])))
    rw [List.length_erase_of_mem ha] at this
    have := List.length_pos_of_mem ha
    simp; omega

/-- The value of the form (A, B, C) at a point. -/
def fq (A B C : Int) (p : Int × Int) : Int := A * p.1 * p.1 + B * p.1 * p.2 + C * p.2 * p.2
/-- The form takes the value n at k points. -/
def Cnt (A B C n : Int) (k : Nat) : Prop := ∃ l : List (Int × Int), l.Nodup ∧ l.length = k ∧ ∀ p, p ∈ l ↔ fq A B C p = n
theorem Cnt.uniq {A B C n : Int} {k k' : Nat} (h : Cnt A B C n k) (h' : Cnt A B C n k') : k = k' := by
  obtain ⟨l, hn, rfl, hm⟩ := h
  obtain ⟨l', hn', rfl, hm'⟩ := h'
  have h1 := len_of_sub l l' hn (fun x hx => (hm' x).2 ((hm x).1 hx))
  have h2 := len_of_sub l' l hn' (fun x hx => (hm x).2 ((hm' x).1 hx))
  omega
theorem Cnt.turn {A B C A' B' C' n : Int} {k : Nat} (h : Cnt A B C n k) (s t : Int × Int → Int × Int) (hst : ∀ p, s (t p) = p) (hts : ∀ p, t (s p) = p) (hv : ∀ p, fq A' B' C' (s p) = fq A B C p) : Cnt A' B' C' n k := by
  obtain ⟨l, hn, hl, hm⟩ := h
  refine ⟨l.map s, ?_, by simpa using hl, fun p => ?_⟩
  · exact List.Pairwise.map s (fun a b hab e => hab (by have := congrArg t e; rwa [hts, hts] at this)) hn
  · rw [List.mem_map]
    constructor
    · rintro ⟨q, hq, rfl⟩
      rw [hv]; exact (hm q).1 hq
    · intro hp
      refine ⟨t p, (hm _).2 ?_, hst p⟩
      rw [← hv, hst]; exact hp
theorem Cnt.shift {A B C n : Int} {k : Nat} (t : Int) (h : Cnt A B C n k) : Cnt A (B + 2 * A * t) (C + t * (A * t + B)) n k :=
  h.turn (fun p => (p.1 - t * p.2, p.2)) (fun p => (p.1 + t * p.2, p.2)) (fun p => by ext <;> simp) (fun p => by ext <;> simp) (fun p => by
    obtain ⟨x, y⟩ := p
    simp only [fq]; grind)
theorem Cnt.swap {A B C n : Int} {k : Nat} (h : Cnt A B C n k) : Cnt C (-B) A n k :=
  h.turn (fun p => (p.2, -p.1)) (fun p => (-p.2, p.1)) (fun p => by ext <;> simp) (fun p => by ext <;> simp) (fun p => by
    obtain ⟨x, y⟩ := p
    simp only [fq]; grind)

/-- The integers from -b to b. -/
def sym (b : Nat) : List Int := (List.range (2 * b + 1)).map (fun i : Nat => (i : Int) - (b : Int))
theorem mem_sym (b : Nat) (x : Int) : x ∈ sym b ↔ -(b : Int) ≤ x ∧ x ≤ b := by
  unfold sym
  rw [List.mem_map]
  constructor
  · rintro ⟨i, hi, rfl⟩
    have := List.mem_range.1 hi
    omega
  · intro h
    exact ⟨(x + b).toNat, List.mem_range.2 (by omega), by omega⟩
theorem sym_nodup (b : Nat) : (sym b).Nodup :=
  List.Pairwise.map _ (fun i j hij e => hij (by omega)) List.nodup_range
/-- Lists that hold one thing for each point of a list, with the point readable from the thing. -/
theorem nodup_flatMap_tag {α β : Type} (l : List α) (f : α → List β) (tag : β → α) (hl : l.Nodup) (hf : ∀ a, a ∈ l → (f a).Nodup) (ht : ∀ a b, b ∈ f a → tag b = a) : (l.flatMap f).Nodup := by
  induction l with
  | nil => simp
  | cons a t ih =>
    have h1 := List.nodup_cons.1 hl
    rw [List.flatMap_cons]
    refine List.nodup_append.2 ⟨hf a (by simp), ih h1.2 (fun a' ha' => hf a' (by simp [ha'])), ?_⟩
    intro x hx y hy e
    subst e
    obtain ⟨a', ha', hb⟩ := List.mem_flatMap.1 hy
    have e1 := ht a x hx
    have e2 := ht a' x hb
    rw [e1] at e2
    exact h1.1 (e2 ▸ ha')

theorem sq_le_abs {x : Int} {b : Nat} (h : x * x ≤ (b : Int) * (b : Int)) : -(b : Int) ≤ x ∧ x ≤ b := by
  constructor
  · rcases Int.lt_or_le x (-(b : Int)) with h1 | h1
    · exfalso
      have h2 : (b : Int) + 1 ≤ -x := by omega
      have h3 : ((b : Int) + 1) * ((b : Int) + 1) ≤ (-x) * (-x) := Int.mul_le_mul h2 h2 (by omega) (by omega)
      rw [Int.neg_mul_neg] at h3
      have : ((b : Int) + 1) * ((b : Int) + 1) = b * b + 2 * b + 1 := by grind
      omega
    · exact h1
  · rcases Int.lt_or_le (b : Int) x with h1 | h1
    · exfalso
      have h2 : (b : Int) + 1 ≤ x := by omega
      have h3 : ((b : Int) + 1) * ((b : Int) + 1) ≤ x * x := Int.mul_le_mul h2 h2 (by omega) (by omega)
      have : ((b : Int) + 1) * ((b : Int) + 1) = b * b + 2 * b + 1 := by grind
      omega
    · exact h1
theorem sq_lt_abs {x : Int} {b : Nat} (h : x * x < ((b : Int) + 1) * ((b : Int) + 1)) : -(b : Int) ≤ x ∧ x ≤ b := by
  have h1 : x * x < (((b + 1 : Nat) : Int)) * ((b + 1 : Nat) : Int) := by push_cast; exact h
  have h2 := sq_le_abs (x := x) (b := b + 1) (by omega)
  constructor
  · rcases Int.lt_or_le x (-(b : Int)) with h3 | h3
    · have h4 : x = -((b + 1 : Nat) : Int) := by omega
      rw [h4, Int.neg_mul_neg] at h1
      omega
    · exact h3
  · rcases Int.lt_or_le (b : Int) x with h3 | h3
    · have h4 : x = ((b + 1 : Nat) : Int) := by omega
      rw [h4] at h1
      omega
    · exact h3
/-- Twice the first coefficient completes the square. -/
theorem fq_sq (A B C x y : Int) : 4 * A * fq A B C (x, y) = (2 * A * x + B * y) * (2 * A * x + B * y) + (4 * A * C - B * B) * (y * y) := by
  simp only [fq]; grind
theorem fq_sq' (A B C x y : Int) : 4 * C * fq A B C (x, y) = (2 * C * y + B * x) * (2 * C * y + B * x) + (4 * A * C - B * B) * (x * x) := by
  simp only [fq]; grind
theorem sq_nonneg (x : Int) : 0 ≤ x * x := by
  rcases Int.le_total 0 x with h | h
  · exact Int.mul_nonneg h h
  · have := Int.mul_nonneg (a := -x) (b := -x) (by omega) (by omega)
    rwa [Int.neg_mul_neg] at this
theorem fq_nonneg {A B C : Int} (hA : 0 < A) (hD : 0 < 4 * A * C - B * B) (p : Int × Int) : 0 ≤ fq A B C p := by
  obtain ⟨x, y⟩ := p
  have h := fq_sq A B C x y
  have h1 := sq_nonneg (2 * A * x + B * y)
  have h2 := Int.mul_nonneg (Int.le_of_lt hD) (sq_nonneg y)
  rcases Int.lt_or_le (fq A B C (x, y)) 0 with h3 | h3
  · have := Int.mul_neg_of_pos_of_neg (a := 4 * A) (by omega) h3
    omega
  · exact h3
/-- Points of value at most m lie in the box. -/
theorem box_y {A B C m : Int} {b : Nat} (hA : 0 < A) (hD : 0 < 4 * A * C - B * B) (hb : 4 * m * A / (4 * A * C - B * B) < ((b : Int) + 1) * ((b : Int) + 1)) (p : Int × Int) (hp : fq A B C p ≤ m) : -(b : Int) ≤ p.2 ∧ p.2 ≤ b := by
  obtain ⟨x, y⟩ := p
  refine sq_lt_abs (Int.lt_of_le_of_lt ?_ hb)
  have h := fq_sq A B C x y
  have h1 := sq_nonneg (2 * A * x + B * y)
  have h2 : 4 * A * fq A B C (x, y) ≤ 4 * A * m := Int.mul_le_mul_of_nonneg_left hp (by omega)
  show y * y ≤ _
  rw [Int.le_ediv_iff_mul_le hD]
  have h3 : 4 * m * A = 4 * A * m := by grind
  have h4 : y * y * (4 * A * C - B * B) = (4 * A * C - B * B) * (y * y) := by grind
  omega
theorem box_x {A B C m : Int} {b : Nat} (hC : 0 < C) (hD : 0 < 4 * A * C - B * B) (hb : 4 * m * C / (4 * A * C - B * B) < ((b : Int) + 1) * ((b : Int) + 1)) (p : Int × Int) (hp : fq A B C p ≤ m) : -(b : Int) ≤ p.1 ∧ p.1 ≤ b := by
  obtain ⟨x, y⟩ := p
  refine sq_lt_abs (Int.lt_of_le_of_lt ?_ hb)
  have h := fq_sq' A B C x y
  have h1 := sq_nonneg (2 * C * y + B * x)
  have h2 : 4 * C * fq A B C (x, y) ≤ 4 * C * m := Int.mul_le_mul_of_nonneg_left hp (by omega)
  show x * x ≤ _
  rw [Int.le_ediv_iff_mul_le hD]
  have h3 : 4 * m * C = 4 * C * m := by grind
  have h4 : x * x * (4 * A * C - B * B) = (4 * A * C - B * B) * (x * x) := by grind
  omega
/-- The solutions that Represent finds for one y. -/
def solY (A B C n : Int) (s : Nat) (y : Int) : List (Int × Int) :=
  if (s : Int) * s = B * B * y * y - 4 * A * (C * y * y - n) then
    (if (2 * A) ∣ ((s : Int) - B * y) then [(((s : Int) - B * y) / (2 * A), y)] else []) ++ (if 0 < s ∧ (2 * A) ∣ (-(s : Int) - B * y) then [((-(s : Int) - B * y) / (2 * A), y)] else [])
  else []
theorem sq_eq {x : Int} {s : Nat} (h : x * x = (s : Int) * s) : x = s ∨ x = -(s : Int) := by
  have h1 : (x - s) * (x + s) = 0 := by grind
  rcases Int.mul_eq_zero.1 h1 with h2 | h2 <;> omega
theorem mem_solY {A B C n : Int} {s : Nat} {y : Int} (hA : 0 < A) (hs : ∀ k : Nat, (k : Int) * k = B * B * y * y - 4 * A * (C * y * y - n) → k = s) (p : Int × Int) : p ∈ solY A B C n s y ↔ p.2 = y ∧ fq A B C p = n := by
  have key : ∀ x : Int, (2 * A * x + B * y) * (2 * A * x + B * y) = B * B * y * y - 4 * A * (C * y * y - n) ↔ fq A B C (x, y) = n := by
    intro x
    have h := fq_sq A B C x y
    constructor
    · intro h1
      have : 4 * A * fq A B C (x, y) = 4 * A * n := by rw [h, h1]; grind
      exact Int.eq_of_mul_eq_mul_left (by omega) this
    · intro h1
      rw [h1] at h
      grind
  obtain ⟨x, z⟩ := p
  unfold solY
  constructor
  · intro hp
    split at hp
    · rename_i hsq
      rcases List.mem_append.1 hp with hp | hp
      · split at hp
        · rename_i hd
          simp only [List.mem_singleton, Prod.mk.injEq] at hp
          obtain ⟨hx, rfl⟩ := hp
          refine ⟨rfl, (key x).1 ?_⟩
          have : 2 * A * x = (s : Int) - B * z := by rw [hx]; exact Int.mul_ediv_cancel' hd
          rw [this, show (s : Int) - B * z + B * z = s by omega, hsq]
        · cases hp
      · split at hp
        · rename_i hd
          simp only [List.mem_singleton, Prod.mk.injEq] at hp
          obtain ⟨hx, rfl⟩ := hp
          refine ⟨rfl, (key x).1 ?_⟩
          have : 2 * A * x = -(s : Int) - B * z := by rw [hx]; exact Int.mul_ediv_cancel' hd.2
          rw [this, show -(s : Int) - B * z + B * z = -(s : Int) by omega, Int.neg_mul_neg, hsq]
        · cases hp
    · cases hp
  · rintro ⟨hz, hp⟩
    simp only at hz
    subst hz
    have h1 := (key x).2 hp
    have h2 : ((2 * A * x + B * z).natAbs : Int) * ((2 * A * x + B * z).natAbs : Int) = B * B * z * z - 4 * A * (C * z * z - n) := by
      rw [← Int.natAbs_mul_self] at h1; simpa using h1
    have h3 := hs _ h2
    rw [h3] at h2
    rw [if_pos h2, List.mem_append]
    rw [← h2] at h1
    rcases sq_eq h1 with h4 | h4
    · left
      have h5 : (s : Int) - B * z = 2 * A * x := by omega
      rw [h5, if_pos (Int.dvd_mul_right _ _), Int.mul_ediv_cancel_left _ (by omega)]
      simp
    · by_cases h0 : s = 0
      · left
        have h5 : (s : Int) - B * z = 2 * A * x := by omega
        rw [h5, if_pos (Int.dvd_mul_right _ _), Int.mul_ediv_cancel_left _ (by omega)]
        simp
      · right
        have h5 : -(s : Int) - B * z = 2 * A * x := by omega
        rw [h5, if_pos ⟨by omega, Int.dvd_mul_right _ _⟩, Int.mul_ediv_cancel_left _ (by omega)]
        simp
theorem solY_nodup {A B C n : Int} {s : Nat} {y : Int} : (solY A B C n s y).Nodup := by
  unfold solY
  split
  · split
    · split
      · rename_i h1 h2
        rw [List.singleton_append, List.nodup_cons]
        refine ⟨?_, by simp⟩
        simp only [List.mem_singleton, Prod.mk.injEq, and_true]
        intro e
        have e1 : 2 * A * (((s : Int) - B * y) / (2 * A)) = s - B * y := Int.mul_ediv_cancel' h1
        have e2 : 2 * A * ((-(s : Int) - B * y) / (2 * A)) = -(s : Int) - B * y := Int.mul_ediv_cancel' h2.2
        rw [e, e2] at e1
        omega
      · simp
    · split <;> simp
  · simp
/-- What Represent counts. -/
theorem cnt_sol {A B C n : Int} {h : Nat} (hA : 0 < A) (hD : 0 < 4 * A * C - B * B) (sq : Int → Nat) (hs : ∀ (y : Int) (k : Nat), (k : Int) * k = B * B * y * y - 4 * A * (C * y * y - n) → k = sq y) (hb : 4 * A * n / (4 * A * C - B * B) < ((h : Int) + 1) * ((h : Int) + 1)) : Cnt A B C n ((sym h).flatMap (fun y => solY A B C n (sq y) y)).length := by
  refine ⟨_, nodup_flatMap_tag _ _ (fun p => p.2) (sym_nodup h) (fun y _ => solY_nodup) (fun y p hp => ((mem_solY hA (hs y) p).1 hp).1), rfl, fun p => ?_⟩
  rw [List.mem_flatMap]
  constructor
  · rintro ⟨y, _, hp⟩
    exact ((mem_solY hA (hs y) p).1 hp).2
  · intro hp
    refine ⟨p.2, (mem_sym _ _).2 (box_y hA hD (m := n) ?_ p (by omega)), (mem_solY hA (hs _) p).2 ⟨rfl, hp⟩⟩
    rw [show 4 * n * A = 4 * A * n by grind]; exact hb
end Go.Proofs.YtbpkfcohbefphaaGreat
/- Blocks of three and four cells; bounds of binary forms; small lemmas. -/
namespace Go.Proofs.YtbpkfcohbefphaaGreat
open Go Go.RowKit

theorem abs_mul_le {x y : Int} {a b c : Nat} (hx : x.natAbs ≤ a) (hy : y.natAbs ≤ b) (hc : a * b ≤ c) : (x * y).natAbs ≤ c := by
  rw [Int.natAbs_mul]; exact Nat.le_trans (Nat.mul_le_mul hx hy) hc
theorem w64 {x : Int} {c : Nat} (h : x.natAbs ≤ c) (hc : c ≤ 9000000000000000000) : IntKind.i64.wrap x = x := IntWalk.i64_in _ (by omega)
theorem w64' {x : Int} {c : Nat} (h : x.natAbs ≤ c) (hc : c ≤ 9000000000000000000) : wrap64 x = x := by unfold wrap64; omega
theorem wrap64_eq (x : Int) : IntKind.i64.wrap x = wrap64 x := by simp [IntKind.wrap, IntKind.bits, IntKind.signed, wrap64]; try omega
theorem w64n {n : Int} (h : n.natAbs ≤ 9000000000000000000) : IntKind.i64.wrap n = n ∧ wrap64 n = n := by
  have h1 : IntKind.i64.wrap n = n := IntWalk.i64_in _ (by omega)
  exact ⟨h1, by rw [← wrap64_eq]; exact h1⟩
theorem inc_wrap {i n : Nat} (hi : i < n) (hn : n ≤ 100000) : IntKind.i64.wrap ((i : Int) + 1) = ((i + 1 : Nat) : Int) ∧ wrap64 ((i : Int) + 1) = ((i + 1 : Nat) : Int) := by
  obtain ⟨a, b⟩ := w64n (n := (i : Int) + 1) (by omega)
  exact ⟨a.trans (by omega), b.trans (by omega)⟩
/-- A block of three cells. -/
structure O3 (u : World) (B : Nat) (v0 v1 v2 : Value) : Prop where
  c0 : u.cell? ⟨B, 0, none⟩ = some v0
  c1 : u.cell? ⟨B, 1, none⟩ = some v1
  c2 : u.cell? ⟨B, 2, none⟩ = some v2
  fr : ∀ o, u.frozen? ⟨B, o, none⟩ = false
  lt : B < u.heap.size
/-- A block of four cells. -/
structure O4 (u : World) (B : Nat) (v0 v1 v2 v3 : Value) : Prop where
  c0 : u.cell? ⟨B, 0, none⟩ = some v0
  c1 : u.cell? ⟨B, 1, none⟩ = some v1
  c2 : u.cell? ⟨B, 2, none⟩ = some v2
  c3 : u.cell? ⟨B, 3, none⟩ = some v3
  fr : ∀ o, u.frozen? ⟨B, o, none⟩ = false
  lt : B < u.heap.size
section
variable {u u' : World} {B : Nat} {v0 v1 v2 v3 : Value}
theorem O3.grow (h : O3 u B v0 v1 v2) (hg : Grow u u') : O3 u' B v0 v1 v2 :=
  ⟨(hg.cells _ _ h.lt).trans h.c0, (hg.cells _ _ h.lt).trans h.c1, (hg.cells _ _ h.lt).trans h.c2, fun o => (hg.frees _ _ h.lt).trans (h.fr o), Nat.lt_of_lt_of_le h.lt hg.size⟩
theorem O4.grow (h : O4 u B v0 v1 v2 v3) (hg : Grow u u') : O4 u' B v0 v1 v2 v3 :=
  ⟨(hg.cells _ _ h.lt).trans h.c0, (hg.cells _ _ h.lt).trans h.c1, (hg.cells _ _ h.lt).trans h.c2, (hg.cells _ _ h.lt).trans h.c3, fun o => (hg.frees _ _ h.lt).trans (h.fr o), Nat.lt_of_lt_of_le h.lt hg.size⟩
theorem O3.off (h : O3 u B v0 v1 v2) {b : Nat} (hb : b ≠ B) (o : Nat) (v : Value) : O3 (u.setCell ⟨b, o, none⟩ v) B v0 v1 v2 := by
  have hf : ∀ i, (u.setCell ⟨b, o, none⟩ v).cell? ⟨B, i, none⟩ = u.cell? ⟨B, i, none⟩ := fun i => World.cell?_setCell_other _ _ _ _ (by simp; try omega)
  exact ⟨(hf 0).trans h.c0, (hf 1).trans h.c1, (hf 2).trans h.c2, fun i => by simpa using h.fr i, by simpa [World.setCell] using h.lt⟩
theorem O4.off (h : O4 u B v0 v1 v2 v3) {b : Nat} (hb : b ≠ B) (o : Nat) (v : Value) : O4 (u.setCell ⟨b, o, none⟩ v) B v0 v1 v2 v3 := by
  have hf : ∀ i, (u.setCell ⟨b, o, none⟩ v).cell? ⟨B, i, none⟩ = u.cell? ⟨B, i, none⟩ := fun i => World.cell?_setCell_other _ _ _ _ (by simp; try omega)
  exact ⟨(hf 0).trans h.c0, (hf 1).trans h.c1, (hf 2).trans h.c2, (hf 3).trans h.c3, fun i => by simpa using h.fr i, by simpa [World.setCell] using h.lt⟩
theorem O3.set0 (h : O3 u B v0 v1 v2) (v : Value) : O3 (u.setCell ⟨B, 0, none⟩ v) B v v1 v2 :=
  ⟨World.cell?_setCell_same _ _ _ h.c0, (World.cell?_setCell_other _ _ _ _ (by simp)).trans h.c1, (World.cell?_setCell_other _ _ _ _ (by simp)).trans h.c2, fun i => by simpa using h.fr i, by simpa [World.setCell] using h.lt⟩
theorem O3.set1 (h : O3 u B v0 v1 v2) (v : Value) : O3 (u.setCell ⟨B, 1, none⟩ v) B v0 v v2 :=
  ⟨(World.cell?_setCell_other _ _ _ _ (by simp)).trans h.c0, World.cell?_setCell_same _ _ _ h.c1, (World.cell?_setCell_other _ _ _ _ (by simp)).trans h.c2, fun i => by simpa using h.fr i, by simpa [World.setCell] using h.lt⟩
theorem O3.set2 (h : O3 u B v0 v1 v2) (v : Value) : O3 (u.setCell ⟨B, 2, none⟩ v) B v0 v1 v :=
  ⟨(World.cell?_setCell_other _ _ _ _ (by simp)).trans h.c0, (World.cell?_setCell_other _ _ _ _ (by simp)).trans h.c1, World.cell?_setCell_same _ _ _ h.c2, fun i => by simpa using h.fr i, by simpa [World.setCell] using h.lt⟩
theorem O4.set0 (h : O4 u B v0 v1 v2 v3) (v : Value) : O4 (u.setCell ⟨B, 0, none⟩ v) B v v1 v2 v3 :=
  ⟨World.cell?_setCell_same _ _ _ h.c0, (World.cell?_setCell_other _ _ _ _ (by simp)).trans h.c1, (World.cell?_setCell_other _ _ _ _ (by simp)).trans h.c2, (World.cell?_setCell_other _ _ _ _ (by simp)).trans h.c3, fun i => by simpa using h.fr i, by simpa [World.setCell] using h.lt⟩
theorem O4.set1 (h : O4 u B v0 v1 v2 v3) (v : Value) : O4 (u.setCell ⟨B, 1, none⟩ v) B v0 v v2 v3 :=
  ⟨(World.cell?_setCell_other _ _ _ _ (by simp)).trans h.c0, World.cell?_setCell_same _ _ _ h.c1, (World.cell?_setCell_other _ _ _ _ (by simp)).trans h.c2, (World.cell?_setCell_other _ _ _ _ (by simp)).trans h.c3, fun i => by simpa using h.fr i, by simpa [World.setCell] using h.lt⟩
theorem O4.set2 (h : O4 u B v0 v1 v2 v3) (v : Value) : O4 (u.setCell ⟨B, 2, none⟩ v) B v0 v1 v v3 :=
  ⟨(World.cell?_setCell_other _ _ _ _ (by simp)).trans h.c0, (World.cell?_setCell_other _ _ _ _ (by simp)).trans h.c1, World.cell?_setCell_same _ _ _ h.c2, (World.cell?_setCell_other _ _ _ _ (by simp)).trans h.c3, fun i => by simpa using h.fr i, by simpa [World.setCell] using h.lt⟩
theorem O4.set3 (h : O4 u B v0 v1 v2 v3) (v : Value) : O4 (u.setCell ⟨B, 3, none⟩ v) B v0 v1 v2 v :=
  ⟨(World.cell?_setCell_other _ _ _ _ (by simp)).trans h.c0, (World.cell?_setCell_other _ _ _ _ (by simp)).trans h.c1, (World.cell?_setCell_other _ _ _ _ (by simp)).trans h.c2, World.cell?_setCell_same _ _ _ h.c3, fun i => by simpa using h.fr i, by simpa [World.setCell] using h.lt⟩
theorem O3.lay {w W : World} {t : TypeId} (hW : W = w.alloc (.cells #[v0, v1, v2] t)) : O3 W w.heap.size v0 v1 v2 := by
  obtain ⟨h0, h1, h2, h3, h4⟩ := ak3 hW W (Grow.refl _)
  exact ⟨h0, h1, h2, h3, h4⟩
theorem O4.lay {w W : World} {t : TypeId} (hW : W = w.alloc (.cells #[v0, v1, v2, v3] t)) : O4 W w.heap.size v0 v1 v2 v3 := by
  obtain ⟨h0, h1, h2, h3, h4, h5⟩ := ak4 hW W (Grow.refl _)
  exact ⟨h0, h1, h2, h3, h4, h5⟩
end
theorem Cnt.unshift {A B C n : Int} {k : Nat} (t : Int) (h : Cnt A (B + 2 * A * t) (C + t * (A * t + B)) n k) : Cnt A B C n k := by
  have h1 := h.shift (-t)
  rwa [show B + 2 * A * t + 2 * A * -t = B by grind, show C + t * (A * t + B) + -t * (A * -t + (B + 2 * A * t)) = C by grind] at h1
theorem Cnt.unswap {A B C n : Int} {k : Nat} (h : Cnt C (-B) A n k) : Cnt A B C n k := by
  have h1 := h.swap
  rwa [Int.neg_neg] at h1
/-- The bounds while reduce walks. -/
structure QI (A B C D : Int) : Prop where
  a0 : 0 < A
  a1 : A ≤ 60
  b1 : B.natAbs ≤ 120
  c0 : 0 < C
  c1 : C ≤ 60
  d : 4 * A * C - B * B = D
  d0 : 0 < D
theorem QI.dle {A B C D : Int} (h : QI A B C D) : D ≤ 14400 := by
  obtain ⟨a0, a1, b1, c0, c1, hd, d0⟩ := h
  have h1 := sq_nonneg B
  have h2 : A * C ≤ 60 * 60 := Int.le_trans (Int.mul_le_mul_of_nonneg_left c1 (by omega)) (Int.mul_le_mul_of_nonneg_right a1 (by omega))
  have h3 : 4 * A * C = 4 * (A * C) := by grind
  omega
theorem results_cc {fn : Func} {p q : Tmp} {ty ty' : TypeId} (h : fn.results = #[.cell p ty, .cell q ty']) (tmps : Array Value) (P : Program) (w : World) :
    (results fn tmps).run P w = ((asAddr (tmps.getD p undef)).run P w).andThen fun a w₁ => ((loadVar ty a).run P w₁).andThen fun x w₂ => ((asAddr (tmps.getD q undef)).run P w₂).andThen fun b w₃ => ((loadVar ty' b).run P w₃).andThen fun y w₄ => .ok (.tuple #[x, y]) w₄ := by
  simp [results, h, Sem.run_bind, Result.andThen]
end Go.Proofs.YtbpkfcohbefphaaGreat
