/- Lemmas, plain laws and walks that the statement LwBinaryTheta leans on (texts ThA, ThB, ThD, ThE, QfA), conditions as each theorem says. -/
import Derived.Test.YtbpkfcohbefphaaTopBinaryThetaG01
import Derived.Test.YtbpkfcohbefphaaTopBinaryThetaG09
import Derived.Test.YtbpkfcohbefphaaTopBinaryThetaG13

/- Plain law: numbers of representations by a binary form. -/
namespace Go.Proofs.Ytbpkfcohbefphaa

theorem len_of_sub {α : Type} [DecidableEq α] : ∀ (l l' : List α), l.Nodup → (∀ x, x ∈ l → x ∈ l') → l.length ≤ l'.length
  | [], _, _, _ => Nat.zero_le _
  | a :: t, l', h, hs => by
    have ha : a ∈ l' := hs a (by simp)
    have h1 := List.nodup_cons.1 h
    have := len_of_sub t (l'.erase a) h1.2 (fun x hx => (List.mem_erase_of_ne (fun e : x = a => h1.1 (by rw [← e]; exact hx))).2 (hs x (by simp [hx])))
    rw [List.length_erase_of_mem ha] at this
    have := List.length_pos_of_mem ha
    simp; omega

/-- The value of the form (A, B, C) at a point. -/
def fq (A B C : Int) (p : Int × Int) : Int := A * p.1 * p.1 + B * p.1 * p.2 + C * p.2 * p.2
/-- The form takes the value n at k points. -/
def Cnt (A B C n : Int) (k : Nat) : Prop := ∃ l : List (Int × Int), l.Nodup ∧ l.length = k ∧ ∀ p, p ∈ l ↔ fq A B C p = n
theorem Cnt.uniq {A B C n : Int} {k k' : Nat} (h : Cnt A B C n k) (h' : Cnt A B C n k') : k = k' := by
  obtain ⟨l, hn, rfl, hm⟩ := h
  obtain ⟨l', hn', rfl, hm'⟩ := h'
  have h1 := len_of_sub l l' hn (fun x hx => (hm' x).2 ((hm x).1 hx))
  have h2 := len_of_sub l' l hn' (fun x hx => (hm x).2 ((hm' x).1 hx))
  omega
theorem Cnt.turn {A B C A' B' C' n : Int} {k : Nat} (h : Cnt A B C n k) (s t : Int × Int → Int × Int) (hst : ∀ p, s (t p) = p) (hts : ∀ p, t (s p) = p) (hv : ∀ p, fq A' B' C' (s p) = fq A B C p) : Cnt A' B' C' n k := by
  obtain ⟨l, hn, hl, hm⟩ := h
  refine ⟨l.map s, ?_, by simpa using hl, fun p => ?_⟩
  · exact List.Pairwise.map s (fun a b hab e => hab (by have := congrArg t e; rwa [hts, hts] at this)) hn
  · rw [List.mem_map]
    constructor
    · rintro ⟨q, hq, rfl⟩
      rw [hv]; exact (hm q).1 hq
    · intro hp
      refine ⟨t p, (hm _).2 ?_, hst p⟩
      rw [← hv, hst]; exact hp
theorem Cnt.shift {A B C n : Int} {k : Nat} (t : Int) (h : Cnt A B C n k) : Cnt A (B + 2 * A * t) (C + t * (A * t + B)) n k :=
  h.turn (fun p => (p.1 - t * p.2, p.2)) (fun p => (p.1 + t * p.2, p.2)) (fun p => by ext <;> simp) (fun p => by ext <;> simp) (fun p => by
    obtain ⟨x, y⟩ := p
    simp only [fq]; grind)
theorem Cnt.swap {A B C n : Int} {k : Nat} (h : Cnt A B C n k) : Cnt C (-B) A n k :=
  h.turn (fun p => (p.2, -p.1)) (fun p => (-p.2, p.1)) (fun p => by ext <;> simp) (fun p => by ext <;> simp) (fun p => by
    obtain ⟨x, y⟩ := p
    simp only [fq]; grind)

/-- The integers from -b to b. -/
def sym (b : Nat) : List Int := (List.range (2 * b + 1)).map (fun i : Nat => (i : Int) - (b : Int))
theorem mem_sym (b : Nat) (x : Int) : x ∈ sym b ↔ -(b : Int) ≤ x ∧ x ≤ b := by
  unfold sym
  rw [List.mem_map]
  constructor
  · rintro ⟨i, hi, rfl⟩
    have := List.mem_range.1 hi
    omega
  · intro h
    exact ⟨(x + b).toNat, List.mem_range.2 (by omega), by omega⟩
theorem sym_nodup (b : Nat) : (sym b).Nodup :=
  List.Pairwise.map _ (fun i j hij e => hij (by omega)) List.nodup_range
/-- Lists that hold one thing for each point of a list, with the point readable from the thing. -/
theorem nodup_flatMap_tag {α β : Type} (l : List α) (f : α → List β) (tag : β → α) (hl : l.Nodup) (hf : ∀ a, a ∈ l → (f a).Nodup) (ht : ∀ a b, b ∈ f a → tag b = a) : (l.flatMap f).Nodup := by
  induction l with
  | nil => simp
  | cons a t ih =>
    have h1 := List.nodup_cons.1 hl
    rw [List.flatMap_cons]
    refine List.nodup_append.2 ⟨hf a (by simp), ih h1.2 (fun a' ha' => hf a' (by simp [ha'])), ?_⟩
    intro x hx y hy e
    subst e
    obtain ⟨a', ha', hb⟩ := List.mem_flatMap.1 hy
    have e1 := ht a x hx
    have e2 := ht a' x hb
    rw [e1] at e2
    exact h1.1 (e2 ▸ ha')

theorem sq_le_abs {x : Int} {b : Nat} (h : x * x ≤ (b : Int) * (b : Int)) : -(b : Int) ≤ x ∧ x ≤ b := by
  constructor
  · rcases Int.lt_or_le x (-(b : Int)) with h1 | h1
    · exfalso
      have h2 : (b : Int) + 1 ≤ -x := by omega
      have h3 : ((b : Int) + 1) * ((b : Int) + 1) ≤ (-x) * (-x) := Int.mul_le_mul h2 h2 (by omega) (by omega)
      rw [Int.neg_mul_neg] at h3
      have : ((b : Int) + 1) * ((b : Int) + 1) = b * b + 2 * b + 1 := by grind
      omega
    · exact h1
  · rcases Int.lt_or_le (b : Int) x with h1 | h1
    · exfalso
      have h2 : (b : Int) + 1 ≤ x := by omega
      have h3 : ((b : Int) + 1) * ((b : Int) + 1) ≤ x * x := Int.mul_le_mul h2 h2 (by omega) (by omega)
      have : ((b : Int) + 1) * ((b : Int) + 1) = b * b + 2 * b + 1 := by grind
      omega
    · exact h1
theorem sq_lt_abs {x : Int} {b : Nat} (h : x * x < ((b : Int) + 1) * ((b : Int) + 1)) : -(b : Int) ≤ x ∧ x ≤ b := by
  have h1 : x * x < (((b + 1 : Nat) : Int)) * ((b + 1 : Nat) : Int) := by push_cast; exact h
  have h2 := sq_le_abs (x := x) (b := b + 1) (by omega)
  constructor
  · rcases Int.lt_or_le x (-(b : Int)) with h3 | h3
    · have h4 : x = -((b + 1 : Nat) : Int) := by omega
      rw [h4, Int.neg_mul_neg] at h1
      omega
    · exact h3
  · rcases Int.lt_or_le (b : Int) x with h3 | h3
    · have h4 : x = ((b + 1 : Nat) : Int) := by omega
      rw [h4] at h1
      omega
    · exact h3
/-- Twice the first coefficient completes the square. -/
theorem fq_sq (A B C x y : Int) : 4 * A * fq A B C (x, y) = (2 * A * x + B * y) * (2 * A * x + B * y) + (4 * A * C - B * B) * (y * y) := by
  simp only [fq]; grind
theorem fq_sq' (A B C x y : Int) : 4 * C * fq A B C (x, y) = (2 * C * y + B * x) * (2 * C * y + B * x) + (4 * A * C - B * B) * (x * x) := by
  simp only [fq]; grind
theorem sq_nonneg (x : Int) : 0 ≤ x * x := by
  rcases Int.le_total 0 x with h | h
  · exact Int.mul_nonneg h h
  · have := Int.mul_nonneg (a := -x) (b := -x) (by omega) (by omega)
    rwa [Int.neg_mul_neg] at this
theorem fq_nonneg {A B C : Int} (hA : 0 < A) (hD : 0 < 4 * A * C - B * B) (p : Int × Int) : 0 ≤ fq A B C p := by
  obtain ⟨x, y⟩ := p
  have h := fq_sq A B C x y
  have h1 := sq_nonneg (2 * A * x + B * y)
  have h2 := Int.mul_nonneg (Int.le_of_lt hD) (sq_nonneg y)
  rcases Int.lt_or_le (fq A B C (x, y)) 0 with h3 | h3
  · have := Int.mul_neg_of_pos_of_neg (a := 4 * A) (by omega) h3
    omega
  · exact h3
/-- Points of value at most m lie in the box. -/
theorem box_y {A B C m : Int} {b : Nat} (hA : 0 < A) (hD : 0 < 4 * A * C - B * B) (hb : 4 * m * A / (4 * A * C - B * B) < ((b : Int) + 1) * ((b : Int) + 1)) (p : Int × Int) (hp : fq A B C p ≤ m) : -(b : Int) ≤ p.2 ∧ p.2 ≤ b := by
  obtain ⟨x, y⟩ := p
  refine sq_lt_abs (Int.lt_of_le_of_lt ?_ hb)
  have h := fq_sq A B C x y
  have h1 := sq_nonneg (2 * A * x + B * y)
  have h2 : 4 * A * fq A B C (x, y) ≤ 4 * A * m := Int.mul_le_mul_of_nonneg_left hp (by omega)
  show y * y ≤ _
  rw [Int.le_ediv_iff_mul_le hD]
  have h3 : 4 * m * A = 4 * A * m := by grind
  have h4 : y * y * (4 * A * C - B * B) = (4 * A * C - B * B) * (y * y) := by grind
  omega
theorem box_x {A B C m : Int} {b : Nat} (hC : 0 < C) (hD : 0 < 4 * A * C - B * B) (hb : 4 * m * C / (4 * A * C - B * B) < ((b : Int) + 1) * ((b : Int) + 1)) (p : Int × Int) (hp : fq A B C p ≤ m) : -(b : Int) ≤ p.1 ∧ p.1 ≤ b := by
  obtain ⟨x, y⟩ := p
  refine sq_lt_abs (Int.lt_of_le_of_lt ?_ hb)
  have h := fq_sq' A B C x y
  have h1 := sq_nonneg (2 * C * y + B * x)
  have h2 : 4 * C * fq A B C (x, y) ≤ 4 * C * m := Int.mul_le_mul_of_nonneg_left hp (by omega)
  show x * x ≤ _
  rw [Int.le_ediv_iff_mul_le hD]
  have h3 : 4 * m * C = 4 * C * m := by grind
  have h4 : x * x * (4 * A * C - B * B) = (4 * A * C - B * B) * (x * x) := by grind
  omega
/-- The solutions that Represent finds for one y. -/
def solY (A B C n : Int) (s : Nat) (y : Int) : List (Int × Int) :=
  if (s : Int) * s = B * B * y * y - 4 * A * (C * y * y - n) then
    (if (2 * A) ∣ ((s : Int) - B * y) then [(((s : Int) - B * y) / (2 * A), y)] else []) ++ (if 0 < s ∧ (2 * A) ∣ (-(s : Int) - B * y) then [((-(s : Int) - B * y) / (2 * A), y)] else [])
  else []
theorem sq_eq {x : Int} {s : Nat} (h : x * x = (s : Int) * s) : x = s ∨ x = -(s : Int) := by
  have h1 : (x - s) * (x + s) = 0 := by grind
  rcases Int.mul_eq_zero.1 h1 with h2 | h2 <;> omega
theorem mem_solY {A B C n : Int} {s : Nat} {y : Int} (hA : 0 < A) (hs : ∀ k : Nat, (k : Int) * k = B * B * y * y - 4 * A * (C * y * y - n) → k = s) (p : Int × Int) : p ∈ solY A B C n s y ↔ p.2 = y ∧ fq A B C p = n := by
  have key : ∀ x : Int, (2 * A * x + B * y) * (2 * A * x + B * y) = B * B * y * y - 4 * A * (C * y * y - n) ↔ fq A B C (x, y) = n := by
    intro x
    have h := fq_sq A B C x y
    constructor
    · intro h1
      have : 4 * A * fq A B C (x, y) = 4 * A * n := by rw [h, h1]; grind
      exact Int.eq_of_mul_eq_mul_left (by omega) this
    · intro h1
      rw [h1] at h
      grind
  obtain ⟨x, z⟩ := p
  unfold solY
  constructor
  · intro hp
    split at hp
    · rename_i hsq
      rcases List.mem_append.1 hp with hp | hp
      · split at hp
        · rename_i hd
          simp only [List.mem_singleton, Prod.mk.injEq] at hp
          obtain ⟨hx, rfl⟩ := hp
          refine ⟨rfl, (key x).1 ?_⟩
          have : 2 * A * x = (s : Int) - B * z := by rw [hx]; exact Int.mul_ediv_cancel' hd
          rw [this, show (s : Int) - B * z + B * z = s by omega, hsq]
        · cases hp
      · split at hp
        · rename_i hd
          simp only [List.mem_singleton, Prod.mk.injEq] at hp
          obtain ⟨hx, rfl⟩ := hp
          refine ⟨rfl, (key x).1 ?_⟩
          have : 2 * A * x = -(s : Int) - B * z := by rw [hx]; exact Int.mul_ediv_cancel' hd.2
          rw [this, show -(s : Int) - B * z + B * z = -(s : Int) by omega, Int.neg_mul_neg, hsq]
        · cases hp
    · cases hp
  · rintro ⟨hz, hp⟩
    simp only at hz
    subst hz
    have h1 := (key x).2 hp
    have h2 : ((2 * A * x + B * z).natAbs : Int) * ((2 * A * x + B * z).natAbs : Int) = B * B * z * z - 4 * A * (C * z * z - n) := by
      rw [← Int.natAbs_mul_self] at h1; simpa using h1
    have h3 := hs _ h2
    rw [h3] at h2
    rw [if_pos h2, List.mem_append]
    rw [← h2] at h1
    rcases sq_eq h1 with h4 | h4
    · left
      have h5 : (s : Int) - B * z = 2 * A * x := by omega
      rw [h5, if_pos (Int.dvd_mul_right _ _), Int.mul_ediv_cancel_left _ (by omega)]
      simp
    · by_cases h0 : s = 0
      · left
        have h5 : (s : Int) - B * z = 2 * A * x := by omega
        rw [h5, if_pos (Int.dvd_mul_right _ _), Int.mul_ediv_cancel_left _ (by omega)]
        simp
      · right
        have h5 : -(s : Int) - B * z = 2 * A * x := by omega
        rw [h5, if_pos ⟨by omega, Int.dvd_mul_right _ _⟩, Int.mul_ediv_cancel_left _ (by omega)]
        simp
theorem solY_nodup {A B C n : Int} {s : Nat} {y : Int} : (solY A B C n s y).Nodup := by
  unfold solY
  split
  · split
    · split
      · rename_i h1 h2
        rw [List.singleton_append, List.nodup_cons]
        refine ⟨?_, by simp⟩
        simp only [List.mem_singleton, Prod.mk.injEq, and_true]
        intro e
        have e1 : 2 * A * (((s : Int) - B * y) / (2 * A)) = s - B * y := Int.mul_ediv_cancel' h1
        have e2 : 2 * A * ((-(s : Int) - B * y) / (2 * A)) = -(s : Int) - B * y := Int.mul_ediv_cancel' h2.2
        rw [e, e2] at e1
        omega
      · simp
    · split <;> simp
  · simp
/-- What Represent counts. -/
theorem cnt_sol {A B C n : Int} {h : Nat} (hA : 0 < A) (hD : 0 < 4 * A * C - B * B) (sq : Int → Nat) (hs : ∀ (y : Int) (k : Nat), (k : Int) * k = B * B * y * y - 4 * A * (C * y * y - n) → k = sq y) (hb : 4 * A * n / (4 * A * C - B * B) < ((h : Int) + 1) * ((h : Int) + 1)) : Cnt A B C n ((sym h).flatMap (fun y => solY A B C n (sq y) y)).length := by
  refine ⟨_, nodup_flatMap_tag _ _ (fun p => p.2) (sym_nodup h) (fun y _ => solY_nodup) (fun y p hp => ((mem_solY hA (hs y) p).1 hp).1), rfl, fun p => ?_⟩
  rw [List.mem_flatMap]
  constructor
  · rintro ⟨y, _, hp⟩
    exact ((mem_solY hA (hs y) p).1 hp).2
  · intro hp
    refine ⟨p.2, (mem_sym _ _).2 (box_y hA hD (m := n) ?_ p (by omega)), (mem_solY hA (hs _) p).2 ⟨rfl, hp⟩⟩
    rw [show 4 * n * A = 4 * A * n by grind]; exact hb
end Go.Proofs.Ytbpkfcohbefphaa
/- Plain law: the points of a box, in lexicographic order. -/
namespace Go.Proofs.Ytbpkfcohbefphaa

/-- The number of points of a box. -/
def boxN (b : Nat → Nat) : Nat → Nat
  | 0 => 1
  | n + 1 => boxN b n * (2 * b n + 1)
/-- Point t of a box. -/
def dig (b : Nat → Nat) : Nat → Nat → Nat → Int
  | 0, _ => fun _ => 0
  | n + 1, t => upd (dig b n (t / (2 * b n + 1))) n ((t % (2 * b n + 1) : Nat) - (b n : Int))
/-- The next point: the last coordinate that isn't at its end goes up, those behind it go back. -/
def nextI (b : Nat → Nat) : (Nat → Int) → Nat → Option (Nat → Int)
  | _, 0 => none
  | x, i + 1 => if x i = b i then nextI b (upd x i (-(b i : Int))) i else some (upd x i (x i + 1))
theorem boxN_pos (b : Nat → Nat) : ∀ n, 0 < boxN b n
  | 0 => Nat.one_pos
  | n + 1 => Nat.mul_pos (boxN_pos b n) (by omega)
theorem upd_upd {α : Type} (x : Nat → α) (n : Nat) (u v : α) : upd (upd x n u) n v = upd x n v := by
  funext i
  by_cases h : i = n
  · subst h; rw [upd_same, upd_same]
  · rw [upd_other _ _ h, upd_other _ _ h, upd_other _ _ h]
theorem upd_comm {α : Type} (x : Nat → α) {n m : Nat} (h : n ≠ m) (u v : α) : upd (upd x n u) m v = upd (upd x m v) n u := by
  funext i
  by_cases h1 : i = m
  · subst h1; rw [upd_same, upd_other _ _ (Ne.symm h), upd_same]
  · rw [upd_other _ _ h1]
    by_cases h2 : i = n
    · subst h2; rw [upd_same, upd_same]
    · rw [upd_other _ _ h2, upd_other _ _ h2, upd_other _ _ h1]
theorem nextI_upd (b : Nat → Nat) : ∀ (n m : Nat) (x : Nat → Int) (v : Int), n ≤ m → nextI b (upd x m v) n = (nextI b x n).map (fun y => upd y m v)
  | 0, _, _, _, _ => rfl
  | n + 1, m, x, v, h => by
    have hne : n ≠ m := by omega
    unfold nextI
    rw [upd_other _ _ hne]
    split
    · rw [← nextI_upd b n m _ v (by omega), upd_comm _ hne]
    · rw [Option.map_some, upd_comm _ hne]
theorem dig_lo (b : Nat → Nat) : ∀ n, dig b n 0 = fun i => if i < n then -(b i : Int) else 0
  | 0 => by funext i; simp [dig]
  | n + 1 => by
    funext i
    unfold dig
    rw [Nat.zero_div, dig_lo b n, Nat.zero_mod]
    by_cases h : i = n
    · subst h; rw [upd_same, if_pos (by omega)]; simp
    · rw [upd_other _ _ h]
      by_cases h1 : i < n
      · rw [if_pos h1, if_pos (by omega)]
      · rw [if_neg h1, if_neg (by omega)]
theorem div_succ_lt {t d : Nat} (hd : 0 < d) (h : t % d + 1 < d) : (t + 1) / d = t / d ∧ (t + 1) % d = t % d + 1 := by
  have h1 := Nat.div_add_mod t d
  have e : t + 1 = (t % d + 1) + d * (t / d) := by omega
  constructor
  · rw [e, Nat.add_mul_div_left _ _ hd, Nat.div_eq_of_lt h, Nat.zero_add]
  · rw [e, Nat.add_mul_mod_self_left, Nat.mod_eq_of_lt h]
theorem div_succ_eq {t d : Nat} (hd : 0 < d) (h : t % d + 1 = d) : (t + 1) / d = t / d + 1 ∧ (t + 1) % d = 0 := by
  have h1 := Nat.div_add_mod t d
  have e : t + 1 = d * (t / d + 1) := by rw [Nat.mul_add]; omega
  rw [e]
  exact ⟨Nat.mul_div_cancel_left _ hd, Nat.mul_mod_right _ _⟩
theorem nextI_dig (b : Nat → Nat) : ∀ (n t : Nat), t < boxN b n → nextI b (dig b n t) n = if t + 1 < boxN b n then some (dig b n (t + 1)) else none
  | 0, t, h => by
    have h1 : boxN b 0 = 1 := rfl
    rw [h1] at h ⊢
    rw [if_neg (by omega)]; rfl
  | n + 1, t, h => by
    obtain ⟨d, hd⟩ : ∃ d, 2 * b n + 1 = d := ⟨_, rfl⟩
    have hb : boxN b (n + 1) = boxN b n * d := by rw [← hd]; rfl
    have hd0 : 0 < d := by omega
    have hq : t / d < boxN b n := by
      rw [hb] at h
      exact Nat.div_lt_of_lt_mul (by rwa [Nat.mul_comm])
    have hm := Nat.mod_lt t hd0
    have h1 := Nat.div_add_mod t d
    have hdig : ∀ s, dig b (n + 1) s = upd (dig b n (s / d)) n ((s % d : Nat) - (b n : Int)) := fun s => by rw [← hd]; rfl
    rw [hdig t, hdig (t + 1), hb]
    unfold nextI
    rw [upd_same]
    by_cases h2 : t % d + 1 = d
    · obtain ⟨h3, h4⟩ := div_succ_eq hd0 h2
      rw [if_pos (by omega), upd_upd, nextI_upd b n n _ _ (Nat.le_refl _), nextI_dig b n _ hq, h3, h4]
      by_cases h5 : t / d + 1 < boxN b n
      · rw [if_pos h5, if_pos ?_]
        · simp
        · have : d * (t / d + 1 + 1) ≤ d * boxN b n := Nat.mul_le_mul_left _ h5
          rw [Nat.mul_add, Nat.mul_add] at this
          rw [Nat.mul_comm (boxN b n) d]; omega
      · rw [if_neg h5, if_neg ?_]
        · rfl
        · have h6 : t / d + 1 = boxN b n := by omega
          rw [← h6, Nat.mul_comm, Nat.mul_add]; omega
    · obtain ⟨h3, h4⟩ := div_succ_lt hd0 (show t % d + 1 < d by omega)
      rw [if_neg (by omega), upd_upd, h3, h4, if_pos ?_]
      · congr 2; omega
      · have : d * (t / d + 1) ≤ d * boxN b n := Nat.mul_le_mul_left _ hq
        rw [Nat.mul_add] at this
        rw [Nat.mul_comm (boxN b n) d]; omega
theorem dig_range (b : Nat → Nat) : ∀ (n t i : Nat), i < n → -(b i : Int) ≤ dig b n t i ∧ dig b n t i ≤ b i
  | n + 1, t, i, h => by
    unfold dig
    have := Nat.mod_lt t (show 0 < 2 * b n + 1 by omega)
    by_cases h1 : i = n
    · subst h1; rw [upd_same]; omega
    · rw [upd_other _ _ h1]; exact dig_range b n _ i (by omega)
end Go.Proofs.Ytbpkfcohbefphaa
/- Plain law: what the box counts is the number of representations. -/
namespace Go.Proofs.Ytbpkfcohbefphaa

/-- How often f takes the value q before T. -/
def hist (f : Nat → Int) : Nat → Int → Nat
  | 0, _ => 0
  | T + 1, q => if f T = q then hist f T q + 1 else hist f T q
theorem hist_len (f : Nat → Int) (q : Int) : ∀ T, hist f T q = ((List.range T).filter (fun t => decide (f t = q))).length
  | 0 => rfl
  | T + 1 => by
    rw [List.range_succ, List.filter_append, List.length_append, ← hist_len f q T]
    show (if f T = q then hist f T q + 1 else hist f T q) = _
    by_cases h : f T = q
    · rw [if_pos h]; simp [h]
    · rw [if_neg h]; simp [h]
theorem hist_le (f : Nat → Int) (q : Int) (T : Nat) : hist f T q ≤ T := by
  rw [hist_len]
  have := List.length_filter_le (fun t => decide (f t = q)) (List.range T)
  simpa using this
theorem hist_cong (f g : Nat → Int) (q : Int) : ∀ T, (∀ t, t < T → f t = g t) → hist f T q = hist g T q
  | 0, _ => rfl
  | T + 1, h => by
    show (if f T = q then hist f T q + 1 else hist f T q) = (if g T = q then hist g T q + 1 else hist g T q)
    rw [h T (Nat.lt_succ_self T), hist_cong f g q T (fun t ht => h t (Nat.lt_succ_of_lt ht))]
theorem dig_inj (b : Nat → Nat) : ∀ (n t s : Nat), t < boxN b n → s < boxN b n → (∀ i, i < n → dig b n t i = dig b n s i) → t = s
  | 0, t, s, ht, hs, _ => by
    have h1 : boxN b 0 = 1 := rfl
    omega
  | n + 1, t, s, ht, hs, h => by
    obtain ⟨d, hd⟩ : ∃ d, 2 * b n + 1 = d := ⟨_, rfl⟩
    have hd0 : 0 < d := by omega
    have hb : boxN b (n + 1) = boxN b n * d := by rw [← hd]; rfl
    have hdig : ∀ s, dig b (n + 1) s = upd (dig b n (s / d)) n ((s % d : Nat) - (b n : Int)) := fun s => by rw [← hd]; rfl
    rw [hb] at ht hs
    have h1 := h n (Nat.lt_succ_self n)
    rw [hdig, hdig, upd_same, upd_same] at h1
    have h2 := dig_inj b n (t / d) (s / d) (Nat.div_lt_of_lt_mul (by rwa [Nat.mul_comm])) (Nat.div_lt_of_lt_mul (by rwa [Nat.mul_comm])) (fun i hi => by
      have h3 := h i (by omega)
      rwa [hdig, hdig, upd_other _ _ (by omega), upd_other _ _ (by omega)] at h3)
    have h4 := Nat.div_add_mod t d
    have h5 := Nat.div_add_mod s d
    have h6 : t % d = s % d := by omega
    rw [← h4, ← h5, h2, h6]
theorem dig_surj (b : Nat → Nat) : ∀ (n : Nat) (x : Nat → Int), (∀ i, i < n → -(b i : Int) ≤ x i ∧ x i ≤ b i) → ∃ t, t < boxN b n ∧ ∀ i, i < n → dig b n t i = x i
  | 0, _, _ => ⟨0, Nat.one_pos, fun i hi => absurd hi (Nat.not_lt_zero _)⟩
  | n + 1, x, hx => by
    obtain ⟨d, hd⟩ : ∃ d, 2 * b n + 1 = d := ⟨_, rfl⟩
    have hd0 : 0 < d := by omega
    have hb : boxN b (n + 1) = boxN b n * d := by rw [← hd]; rfl
    have hdig : ∀ s, dig b (n + 1) s = upd (dig b n (s / d)) n ((s % d : Nat) - (b n : Int)) := fun s => by rw [← hd]; rfl
    obtain ⟨t, ht, h⟩ := dig_surj b n x (fun i hi => hx i (by omega))
    have hn := hx n (Nat.lt_succ_self n)
    obtain ⟨r, hr⟩ : ∃ r : Nat, (r : Int) = x n + b n := ⟨(x n + b n).toNat, by omega⟩
    have hrd : r < d := by omega
    have e1 : (r + d * t) / d = t := by rw [Nat.add_mul_div_left _ _ hd0, Nat.div_eq_of_lt hrd, Nat.zero_add]
    have e2 : (r + d * t) % d = r := by rw [Nat.add_mul_mod_self_left, Nat.mod_eq_of_lt hrd]
    refine ⟨r + d * t, ?_, fun i hi => ?_⟩
    · rw [hb]
      have : d * (t + 1) ≤ d * boxN b n := Nat.mul_le_mul_left _ ht
      rw [Nat.mul_add] at this
      rw [Nat.mul_comm (boxN b n) d]; omega
    · rw [hdig, e1, e2]
      by_cases h1 : i = n
      · subst h1; rw [upd_same, hr]; omega
      · rw [upd_other _ _ h1]; exact h i (by omega)
/-- What the box of a binary form counts. -/
theorem cnt_box {A B C m : Int} {b : Nat → Nat} (hA : 0 < A) (hC : 0 < C) (hD : 0 < 4 * A * C - B * B) (h0 : 4 * m * C / (4 * A * C - B * B) < ((b 0 : Int) + 1) * ((b 0 : Int) + 1)) (h1 : 4 * m * A / (4 * A * C - B * B) < ((b 1 : Int) + 1) * ((b 1 : Int) + 1)) (q : Int) (hq : q ≤ m) :
    Cnt A B C q (hist (fun t => fq A B C (dig b 2 t 0, dig b 2 t 1)) (boxN b 2) q) := by
  refine ⟨((List.range (boxN b 2)).filter (fun t => decide (fq A B C (dig b 2 t 0, dig b 2 t 1) = q))).map (fun t => (dig b 2 t 0, dig b 2 t 1)), ?_, by rw [hist_len]; simp, fun p => ?_⟩
  · refine List.pairwise_map.2 ?_
    have h2 : ((List.range (boxN b 2)).filter (fun t => decide (fq A B C (dig b 2 t 0, dig b 2 t 1) = q))).Pairwise (fun t s => t ≠ s ∧ t < boxN b 2 ∧ s < boxN b 2) := by
      refine List.Pairwise.imp_of_mem (R := fun t s => t ≠ s) (fun {t s} ht hs hne => ⟨hne, ?_, ?_⟩) (List.Pairwise.filter _ List.nodup_range)
      · exact List.mem_range.1 (List.mem_filter.1 ht).1
      · exact List.mem_range.1 (List.mem_filter.1 hs).1
    refine h2.imp (fun {t s} h e => h.1 (dig_inj b 2 t s h.2.1 h.2.2 (fun i hi => ?_)))
    simp only [Prod.mk.injEq] at e
    rcases (by omega : i = 0 ∨ i = 1) with rfl | rfl
    · exact e.1
    · exact e.2
  · rw [List.mem_map]
    constructor
    · rintro ⟨t, ht, rfl⟩
      have := (List.mem_filter.1 ht).2
      simpa using this
    · intro hp
      obtain ⟨t, ht, he⟩ := dig_surj b 2 (fun i => if i = 0 then p.1 else p.2) (fun i hi => by
        rcases (by omega : i = 0 ∨ i = 1) with rfl | rfl
        · exact box_x hC hD h0 p (by omega)
        · exact box_y hA hD h1 p (by omega))
      have e0 : dig b 2 t 0 = p.1 := he 0 (by omega)
      have e1 : dig b 2 t 1 = p.2 := he 1 (by omega)
      refine ⟨t, List.mem_filter.2 ⟨List.mem_range.2 ht, ?_⟩, ?_⟩
      · rw [e0, e1]; simpa using hp
      · rw [e0, e1]
end Go.Proofs.Ytbpkfcohbefphaa
/- Plain law: square roots, and what Represent adds up. -/
namespace Go.Proofs.Ytbpkfcohbefphaa

/-- The square root, bit by bit. -/
def rtS (n : Nat) : Nat → Nat → Nat
  | 0, r => r
  | k + 1, r => if (r + 2 ^ k) * (r + 2 ^ k) ≤ n then rtS n k (r + 2 ^ k) else rtS n k r
def sqN (n : Nat) : Nat := rtS n 31 0
theorem rtS_spec (n : Nat) : ∀ (k r : Nat), r * r ≤ n → n < (r + 2 ^ k) * (r + 2 ^ k) → rtS n k r * rtS n k r ≤ n ∧ n < (rtS n k r + 1) * (rtS n k r + 1)
  | 0, r, h1, h2 => ⟨h1, by rw [Nat.pow_zero] at h2; exact h2⟩
  | k + 1, r, h1, h2 => by
    unfold rtS
    split
    · rename_i h
      refine rtS_spec n k _ h ?_
      rw [show r + 2 ^ k + 2 ^ k = r + 2 ^ (k + 1) by rw [Nat.pow_succ]; omega]
      exact h2
    · rename_i h
      exact rtS_spec n k r h1 (by omega)
theorem sqN_spec {n : Nat} (h : n < 4611686018427387904) : sqN n * sqN n ≤ n ∧ n < (sqN n + 1) * (sqN n + 1) :=
  rtS_spec n 31 0 (by omega) (by simpa using h)
theorem sq_between {n a b : Nat} (h1 : a * a ≤ n) (h2 : n < (b + 1) * (b + 1)) : a ≤ b := by
  rcases Nat.lt_or_ge b a with h | h
  · have := Nat.mul_le_mul (show b + 1 ≤ a from h) (show b + 1 ≤ a from h)
    omega
  · exact h
theorem sqN_uniq {n r : Nat} (h : n < 4611686018427387904) (h1 : r * r ≤ n) (h2 : n < (r + 1) * (r + 1)) : r = sqN n := by
  obtain ⟨h3, h4⟩ := sqN_spec h
  exact Nat.le_antisymm (sq_between h1 h4) (sq_between h3 h2)
theorem sqN_le {n m : Nat} (h : n < 4611686018427387904) (hm : n < (m + 1) * (m + 1)) : sqN n ≤ m := sq_between (sqN_spec h).1 hm
theorem sqN_self {k : Nat} (h : k * k < 4611686018427387904) : sqN (k * k) = k := (sqN_uniq h (Nat.le_refl _) (Nat.mul_self_lt_mul_self (Nat.lt_succ_self k))).symm

/-- What is under the root at y. -/
def innI (A B C n y : Int) : Int := B * B * y * y - 4 * A * (C * y * y - n)
/-- Solutions at y. -/
def repY (A B C n y : Int) : Nat :=
  if 0 ≤ innI A B C n y ∧ ((sqN (innI A B C n y).toNat : Nat) : Int) * ((sqN (innI A B C n y).toNat : Nat) : Int) = innI A B C n y then
    (if (2 * A) ∣ (((sqN (innI A B C n y).toNat : Nat) : Int) - B * y) then 1 else 0) + (if 0 < sqN (innI A B C n y).toNat ∧ (2 * A) ∣ (-((sqN (innI A B C n y).toNat : Nat) : Int) - B * y) then 1 else 0)
  else 0
def repN (A B C n : Int) (h : Nat) : Nat → Nat
  | 0 => 0
  | j + 1 => repN A B C n h j + repY A B C n ((j : Int) - (h : Int))
theorem repY_len (A B C n y : Int) : repY A B C n y = (solY A B C n (sqN (innI A B C n y).toNat) y).length := by
  unfold repY solY
  rw [show B * B * y * y - 4 * A * (C * y * y - n) = innI A B C n y from rfl]
  generalize sqN (innI A B C n y).toNat = s
  by_cases h : (s : Int) * s = innI A B C n y
  · have h0 : 0 ≤ innI A B C n y := by rw [← h]; exact sq_nonneg _
    rw [if_pos ⟨h0, h⟩, if_pos h]
    split <;> split <;> simp
  · rw [if_neg (fun e => h e.2), if_neg h]; rfl
theorem repN_len (A B C n : Int) (h : Nat) : ∀ j, repN A B C n h j = (((List.range j).map (fun i : Nat => (i : Int) - (h : Int))).flatMap (fun y => solY A B C n (sqN (innI A B C n y).toNat) y)).length
  | 0 => rfl
  | j + 1 => by
    unfold repN
    rw [List.range_succ, List.map_append, List.flatMap_append, List.length_append, ← repN_len A B C n h j, repY_len]
    simp
theorem innI_eq (A B C n y : Int) : innI A B C n y = 4 * A * n - (4 * A * C - B * B) * (y * y) := by unfold innI; grind
/-- Represent's count. -/
theorem cnt_rep {A B C n : Int} {h : Nat} (hA : 0 < A) (hD : 0 < 4 * A * C - B * B) (hn : 4 * A * n < 4611686018427387904) (hb : 4 * A * n / (4 * A * C - B * B) < ((h : Int) + 1) * ((h : Int) + 1)) : Cnt A B C n (repN A B C n h (2 * h + 1)) := by
  rw [repN_len]
  refine cnt_sol hA hD (fun y => sqN (innI A B C n y).toNat) (fun y k hk => ?_) hb
  rw [show B * B * y * y - 4 * A * (C * y * y - n) = innI A B C n y from rfl] at hk
  have h1 : (innI A B C n y).toNat = k * k := by rw [← hk]; rw [← Int.natCast_mul]; exact Int.toNat_natCast _
  have h2 := innI_eq A B C n y
  have h3 := Int.mul_nonneg (Int.le_of_lt hD) (sq_nonneg y)
  show k = sqN (innI A B C n y).toNat
  rw [h1]
  refine (sqN_self ?_).symm
  have h4 : ((k * k : Nat) : Int) = innI A B C n y := by rw [← hk]; simp
  omega
/-- A reduced form's first coefficient is at most the last one's. -/
theorem tmod_dvd (a b : Int) : (Int.tmod a b = 0) ↔ b ∣ a := (Int.dvd_iff_tmod_eq_zero).symm
end Go.Proofs.Ytbpkfcohbefphaa
/- Walks over quadratic forms: disc, Check, floor, root. -/
namespace Go.Proofs.Ytbpkfcohbefphaa
open Go Go.RowKit

theorem abs_mul_le {x y : Int} {a b c : Nat} (hx : x.natAbs ≤ a) (hy : y.natAbs ≤ b) (hc : a * b ≤ c) : (x * y).natAbs ≤ c := by
  rw [Int.natAbs_mul]; exact Nat.le_trans (Nat.mul_le_mul hx hy) hc
theorem w64 {x : Int} {c : Nat} (h : x.natAbs ≤ c) (hc : c ≤ 9000000000000000000) : IntKind.i64.wrap x = x := IntWalk.i64_in _ (by omega)
theorem w64' {x : Int} {c : Nat} (h : x.natAbs ≤ c) (hc : c ≤ 9000000000000000000) : wrap64 x = x := by unfold wrap64; omega
set_option maxRecDepth 20000 in
set_option maxHeartbeats 8000000 in
theorem qdiscQ (A B C : Int) (hA : A.natAbs ≤ 100000) (hB : B.natAbs ≤ 100000) (hC : C.natAbs ≤ 100000) (w : World) :
    Calls Try.prog 13 #[.agg #[.int .i64 A, .int .i64 B, .int .i64 C]] w fun e w' => e = .returned (.int .i64 (B * B - 4 * A * C)) ∧ Grow w w' := by
  have b1 : (B * B).natAbs ≤ 10000000000 := abs_mul_le hB hB (by decide)
  have b2 : (4 * A).natAbs ≤ 400000 := abs_mul_le (a := 4) (by decide) hA (by decide)
  have b3 : (4 * A * C).natAbs ≤ 40000000000 := abs_mul_le b2 hC (by decide)
  have b4 : (B * B - 4 * A * C).natAbs ≤ 50000000000 := by omega
  have y1 := w64 b1 (by decide)
  have y2 := w64 b2 (by decide)
  have y3 := w64 b3 (by decide)
  have y4 := w64 b4 (by decide)
  have z1 := w64' b1 (by decide)
  have z2 := w64' b2 (by decide)
  have z3 := w64' b3 (by decide)
  have z4 := w64' b4 (by decide)
  clear b1 b2 b3 b4 hA hB hC
  go_enter Try.func13, Try.ntmps13
  go_wp2_with fail
  go_ret
  exact ⟨rfl, by (repeat (first | with_reducible exact Grow.refl _ | with_reducible refine Grow.alloc ?_ _ | with_reducible refine Grow.drew ?_ | with_reducible refine Grow.drewN ?_ _ | (with_reducible refine Grow.setCell ?_ ?hp _; (case hp => (simp; try omega))) | with_reducible refine Grow.trans ?_ (by assumption)))⟩
/-- What Check asks. -/
def QOK (A B C : Int) : Prop := (-10000 ≤ A ∧ A ≤ 10000) ∧ (-10000 ≤ B ∧ B ≤ 10000) ∧ (-10000 ≤ C ∧ C ≤ 10000) ∧ 0 < A ∧ B * B - 4 * A * C < 0
set_option maxRecDepth 20000 in
set_option maxHeartbeats 8000000 in
theorem qcheckQ (A B C : Int) (w : World) :
    Calls Try.prog 5 #[.agg #[.int .i64 A, .int .i64 B, .int .i64 C]] w fun e w' => (∃ x : Int, e = .returned (.int .i64 x) ∧ (x = 0 ↔ QOK A B C)) ∧ Grow w w' := by
  obtain ⟨W1, hW1⟩ : ∃ W1 : World, W1 = w.alloc (.cells #[.int .i64 A, .int .i64 B, .int .i64 C] 23) := ⟨_, rfl⟩
  have K1 := Lib.hid (ak3 hW1)
  have hg1 := ag hW1
  have HW1 := Lib.hid hW1
  obtain ⟨P, hP⟩ : ∃ P, QOK A B C = P := ⟨_, rfl⟩
  have HP := Lib.hid hP
  rw [hP]
  clear hW1 hP
  have i0 : ∀ u, (Instr.index 49 (.agg #[.int .i64 A, .int .i64 B, .int .i64 C]) (.int .i64 0)).run Try.prog u = .ok (.int .i64 A) u := fun _ => by kernel_rfl
  have i1 : ∀ u, (Instr.index 49 (.agg #[.int .i64 A, .int .i64 B, .int .i64 C]) (.int .i64 1)).run Try.prog u = .ok (.int .i64 B) u := fun _ => by kernel_rfl
  have i2 : ∀ u, (Instr.index 49 (.agg #[.int .i64 A, .int .i64 B, .int .i64 C]) (.int .i64 2)).run Try.prog u = .ok (.int .i64 C) u := fun _ => by kernel_rfl
  go_enter Try.func5, Try.ntmps5
  go_upto_region 1 with fail
  rw [← HW1.out]
  obtain ⟨b0, b1, b2, b3, b4⟩ := K1.out W1 (Grow.refl _)
  go_wp2_with fail
  go_loopg [12] 3 (fun gk t12 wr => ∃ i : Nat, t12 = .int .i64 (i : Int) ∧ i ≤ 3 ∧ Hid (gk = 3 - i) ∧ Hid ((0 < i → -10000 ≤ A ∧ A ≤ 10000) ∧ (1 < i → -10000 ≤ B ∧ B ≤ 10000) ∧ (2 < i → -10000 ≤ C ∧ C ≤ 10000)) ∧ wr = W1)
  case atStart => exact ⟨0, rfl, by omega, Lib.hid rfl, Lib.hid ⟨by omega, by omega, by omega⟩, rfl⟩
  case round =>
    obtain ⟨i, rfl, hi2, HGK, HOK, rfl⟩ := hrel
    have hok := HOK.out
    rcases (by omega : i = 0 ∨ i = 1 ∨ i = 2 ∨ i = 3) with rfl | rfl | rfl | rfl
    · by_cases h1 : A < -10000
      · have y1 : decide (A < -10000) = true := by simp; omega
        have hn : ¬ P := by rw [← HP.out]; intro h; have := h.1; have := h.2.1; have := h.2.2.1; omega
        have HN := Lib.hid hn
        clear hok hn
        go_wp2_with fail
        go_ret
        exact ⟨⟨2, rfl, ⟨fun h => by omega, fun h => absurd h HN.out⟩⟩, hg1⟩
      · have y1 : decide (A < -10000) = false := by simp; omega
        by_cases h2 : A > 10000
        · have y2 : decide (A > 10000) = true := by simp; omega
          have hn : ¬ P := by rw [← HP.out]; intro h; have := h.1; have := h.2.1; have := h.2.2.1; omega
          have HN := Lib.hid hn
          clear hok hn
          go_wp2_with fail
          go_ret
          exact ⟨⟨2, rfl, ⟨fun h => by omega, fun h => absurd h HN.out⟩⟩, hg1⟩
        · have y2 : decide (A > 10000) = false := by simp; omega
          have HO2 : Hid ((0 < 0 + 1 → -10000 ≤ A ∧ A ≤ 10000) ∧ (1 < 0 + 1 → -10000 ≤ B ∧ B ≤ 10000) ∧ (2 < 0 + 1 → -10000 ≤ C ∧ C ≤ 10000)) := Lib.hid ⟨by omega, by omega, by omega⟩
          clear hok
          go_wp2_with fail
          go_roundg (3 - (0 + 1))
          case measure => have := HGK.out; omega
          case rel => exact ⟨0 + 1, rfl, by omega, Lib.hid rfl, HO2, rfl⟩
    · by_cases h1 : B < -10000
      · have y1 : decide (B < -10000) = true := by simp; omega
        have hn : ¬ P := by rw [← HP.out]; intro h; have := h.1; have := h.2.1; have := h.2.2.1; omega
        have HN := Lib.hid hn
        clear hok hn
        go_wp2_with fail
        go_ret
        exact ⟨⟨2, rfl, ⟨fun h => by omega, fun h => absurd h HN.out⟩⟩, hg1⟩
      · have y1 : decide (B < -10000) = false := by simp; omega
        by_cases h2 : B > 10000
        · have y2 : decide (B > 10000) = true := by simp; omega
          have hn : ¬ P := by rw [← HP.out]; intro h; have := h.1; have := h.2.1; have := h.2.2.1; omega
          have HN := Lib.hid hn
          clear hok hn
          go_wp2_with fail
          go_ret
          exact ⟨⟨2, rfl, ⟨fun h => by omega, fun h => absurd h HN.out⟩⟩, hg1⟩
        · have y2 : decide (B > 10000) = false := by simp; omega
          have HO2 : Hid ((0 < 1 + 1 → -10000 ≤ A ∧ A ≤ 10000) ∧ (1 < 1 + 1 → -10000 ≤ B ∧ B ≤ 10000) ∧ (2 < 1 + 1 → -10000 ≤ C ∧ C ≤ 10000)) := Lib.hid ⟨by omega, by omega, by omega⟩
          clear hok
          go_wp2_with fail
          go_roundg (3 - (1 + 1))
          case measure => have := HGK.out; omega
          case rel => exact ⟨1 + 1, rfl, by omega, Lib.hid rfl, HO2, rfl⟩
    · by_cases h1 : C < -10000
      · have y1 : decide (C < -10000) = true := by simp; omega
        have hn : ¬ P := by rw [← HP.out]; intro h; have := h.1; have := h.2.1; have := h.2.2.1; omega
        have HN := Lib.hid hn
        clear hok hn
        go_wp2_with fail
        go_ret
        exact ⟨⟨2, rfl, ⟨fun h => by omega, fun h => absurd h HN.out⟩⟩, hg1⟩
      · have y1 : decide (C < -10000) = false := by simp; omega
        by_cases h2 : C > 10000
        · have y2 : decide (C > 10000) = true := by simp; omega
          have hn : ¬ P := by rw [← HP.out]; intro h; have := h.1; have := h.2.1; have := h.2.2.1; omega
          have HN := Lib.hid hn
          clear hok hn
          go_wp2_with fail
          go_ret
          exact ⟨⟨2, rfl, ⟨fun h => by omega, fun h => absurd h HN.out⟩⟩, hg1⟩
        · have y2 : decide (C > 10000) = false := by simp; omega
          have HO2 : Hid ((0 < 2 + 1 → -10000 ≤ A ∧ A ≤ 10000) ∧ (1 < 2 + 1 → -10000 ≤ B ∧ B ≤ 10000) ∧ (2 < 2 + 1 → -10000 ≤ C ∧ C ≤ 10000)) := Lib.hid ⟨by omega, by omega, by omega⟩
          clear hok
          go_wp2_with fail
          go_roundg (3 - (2 + 1))
          case measure => have := HGK.out; omega
          case rel => exact ⟨2 + 1, rfl, by omega, Lib.hid rfl, HO2, rfl⟩
    · obtain ⟨hA, hB, hC⟩ := hok
      have hA := hA (by omega)
      have hB := hB (by omega)
      have hC := hC (by omega)
      have DC := Lib.hid (fun u => qdiscQ A B C (by omega) (by omega) (by omega) u)
      by_cases h1 : A ≤ 0
      · have hn : ¬ P := by rw [← HP.out]; intro h; have := h.2.2.2.1; omega
        have HN := Lib.hid hn
        have y1 : decide (A ≤ 0) = true := by simp; omega
        clear hA hB hC hn
        go_wp2_with fail
        go_ret
        exact ⟨⟨27, rfl, ⟨fun h => by omega, fun h => absurd h HN.out⟩⟩, hg1⟩
      · have y1 : decide (A ≤ 0) = false := by simp; omega
        obtain ⟨d, hd⟩ : ∃ d, B * B - 4 * A * C = d := ⟨_, rfl⟩
        rw [hd] at DC
        have hPd : P ↔ d < 0 := by
          rw [← HP.out]; unfold QOK; rw [hd]
          exact ⟨fun h => h.2.2.2.2, fun h => ⟨hA, hB, hC, by omega, h⟩⟩
        have HPD := Lib.hid hPd
        clear hA hB hC hPd hd
        by_cases h2 : d ≥ 0
        · have y2 : decide (d ≥ 0) = true := by simp; omega
          go_wp2_with (go_at_call 13; (with_reducible refine (DC.out _).mono ?_); (rintro e u5 ⟨rfl, hb5⟩))
          go_ret
          exact ⟨⟨27, rfl, ⟨fun h => by omega, fun h => by have := HPD.out.1 h; omega⟩⟩, by (repeat (first | with_reducible exact Grow.refl _ | with_reducible refine Grow.alloc ?_ _ | with_reducible refine Grow.drew ?_ | with_reducible refine Grow.drewN ?_ _ | (with_reducible refine Grow.setCell ?_ ?hp _; (case hp => (simp; try omega))) | with_reducible refine Grow.trans ?_ (by assumption)))⟩
        · have y2 : decide (d ≥ 0) = false := by simp; omega
          go_wp2_with (go_at_call 13; (with_reducible refine (DC.out _).mono ?_); (rintro e u5 ⟨rfl, hb5⟩))
          go_ret
          exact ⟨⟨0, rfl, ⟨fun _ => HPD.out.2 (by omega), fun _ => rfl⟩⟩, by (repeat (first | with_reducible exact Grow.refl _ | with_reducible refine Grow.alloc ?_ _ | with_reducible refine Grow.drew ?_ | with_reducible refine Grow.drewN ?_ _ | (with_reducible refine Grow.setCell ?_ ?hp _; (case hp => (simp; try omega))) | with_reducible refine Grow.trans ?_ (by assumption)))⟩
set_option maxRecDepth 20000 in
set_option maxHeartbeats 8000000 in
theorem qfloorQ (a b : Int) (ha : a.natAbs ≤ 1000000000) (hb : 0 < b) (hb2 : b ≤ 1000000000) (w : World) :
    Calls Try.prog 39 #[.int .i64 a, .int .i64 b] w fun e w' => e = .returned (.int .i64 (a / b)) ∧ w = w' := by
  have hb0 : ¬ b = 0 := by omega
  have hbb : (b == 0) = false := by simp; omega
  have hbb' : (b != 0) = true := by simp; omega
  have hq : (Int.tdiv a b).natAbs ≤ 1000000000 := by
    rw [Int.natAbs_tdiv]; exact Nat.le_trans (Nat.div_le_self _ _) ha
  have hq2 : (Int.tdiv a b - 1).natAbs ≤ 1000000001 := by omega
  have y1 := w64 hq (by decide)
  have z1 := w64' hq (by decide)
  have y2 := w64 hq2 (by decide)
  have z2 := w64' hq2 (by decide)
  by_cases hr : Int.tmod a b < 0
  · have y3 : decide (Int.tmod a b < 0) = true := by simp; omega
    have he : a / b = Int.tdiv a b - 1 := by
      have h1 := Int.tmod_add_mul_tdiv a b
      have h2 := Int.tmod_lt_of_pos a hb
      have h3 : -b < Int.tmod a b := by have := Int.lt_tmod_of_pos a hb; omega
      refine (ediv_pos (r := Int.tmod a b + b) hb ?_ (by omega) (by omega)).1
      rw [Int.mul_sub]; omega
    rw [he]
    clear he hq hq2 ha
    go_enter Try.func39, Try.ntmps39
    go_wp2_with fail
    go_ret
    exact ⟨rfl, rfl⟩
  · have y3 : decide (Int.tmod a b < 0) = false := by simp; omega
    have he : a / b = Int.tdiv a b := by
      have h1 := Int.tmod_add_mul_tdiv a b
      have h2 := Int.tmod_lt_of_pos a hb
      exact (ediv_pos (r := Int.tmod a b) hb (by omega) (by omega) (by omega)).1
    rw [he]
    clear he hq hq2 ha
    go_enter Try.func39, Try.ntmps39
    go_wp2_with fail
    go_ret
    exact ⟨rfl, rfl⟩
theorem sq_big {s : Nat} (h : s ≤ 2147483648) : s * s ≤ 4611686018427387904 := Nat.le_trans (Nat.mul_le_mul h h) (Nat.le_of_eq rfl)
theorem two_pow_pos (k : Nat) : 0 < 2 ^ k := Nat.pow_pos (by omega)
set_option maxRecDepth 20000 in
set_option maxHeartbeats 8000000 in
theorem qrootQ (n : Nat) (w : World) :
    Calls Try.prog 21 #[.int .i64 (n : Int)] w fun e w' => e = .returned (.int .i64 (sqN n : Nat)) ∧ w = w' := by
  obtain ⟨R, hR⟩ : ∃ R, sqN n = R := ⟨_, rfl⟩
  rw [hR]
  have HR := Lib.hid hR
  clear hR
  go_enter Try.func21, Try.ntmps21
  go_wp2_with fail
  go_loopg [3, 4] 31 (fun gk t3 t4 wr => ∃ r b : Nat, t3 = .int .i64 (r : Int) ∧ t4 = .int .i64 (b : Int) ∧ gk ≤ 31 ∧ Hid (b = if gk = 0 then 0 else 2 ^ (gk - 1)) ∧ Hid (rtS n gk r = R) ∧ Hid (r + 2 ^ gk ≤ 2147483648) ∧ wr = w)
  case atStart => exact ⟨0, 1073741824, rfl, rfl, by omega, Lib.hid (by simp), HR, Lib.hid (by simp), rfl⟩
  case round =>
    clear HR
    obtain ⟨r, b, rfl, rfl, hgk, HB, HR, HL, rfl⟩ := hrel
    have hr := HR.out
    have hl := HL.out
    have hb := HB.out
    by_cases h0 : gk = 0
    · rw [if_pos h0] at hb
      subst hb
      rw [h0] at hr
      have hr' : r = R := hr
      subst hr'
      go_wp2_with fail
      go_ret
      exact ⟨rfl, rfl⟩
    · obtain ⟨g, hg⟩ : ∃ g, gk = g + 1 := ⟨gk - 1, by omega⟩
      rw [hg] at hr hl
      rw [if_neg h0, show gk - 1 = g by omega] at hb
      rw [rtS, ← hb] at hr
      rw [Nat.pow_succ, ← hb] at hl
      have hb0 : 0 < b := by rw [hb]; exact two_pow_pos g
      have y0 : decide ((b : Int) > 0) = true := by simp; omega
      have y0' : (0 : Int) < (b : Int) := by omega
      obtain ⟨s, hs⟩ : ∃ s, r + b = s := ⟨_, rfl⟩
      have hs1 : (r : Int) + (b : Int) = (s : Int) := by omega
      have y1 : IntKind.i64.wrap ((r : Int) + (b : Int)) = (s : Int) := by rw [hs1]; exact IntWalk.i64_in _ (by omega)
      have z1 : wrap64 ((r : Int) + (b : Int)) = (s : Int) := by rw [hs1]; unfold wrap64; omega
      obtain ⟨q, hq⟩ : ∃ q, s * s = q := ⟨_, rfl⟩
      have hs2 : s ≤ 2147483648 := by rw [← hs]; exact Nat.le_trans (Nat.add_le_add_left (Nat.le_mul_of_pos_right b (by decide)) r) hl
      have hq0 : q ≤ 4611686018427387904 := by rw [← hq]; exact sq_big hs2
      have hq1 : (s : Int) * (s : Int) = (q : Int) := by rw [← hq]; simp
      have y2 : IntKind.i64.wrap ((s : Int) * (s : Int)) = (q : Int) := by rw [hq1]; exact IntWalk.i64_in _ (by omega)
      have z2 : wrap64 ((s : Int) * (s : Int)) = (q : Int) := by rw [hq1]; unfold wrap64; omega
      have hb2 : b / 2 = if g = 0 then 0 else 2 ^ (g - 1) := by
        by_cases hg0 : g = 0
        · subst hg0; rw [hb]; rfl
        · rw [if_neg hg0, hb]
          obtain ⟨f, rfl⟩ : ∃ f, g = f + 1 := ⟨g - 1, by omega⟩
          rw [Nat.pow_succ, Nat.mul_div_cancel _ (by omega)]; rfl
      have hbi : ((b / 2 : Nat) : Int) = (b : Int) / 2 := by omega
      rw [hs, hq] at hr
      have HB2 := Lib.hid hb2
      have HR2 := Lib.hid hr
      have HBI := Lib.hid hbi
      have hpow : 2 ^ g = b := hb.symm
      have HPW := Lib.hid hpow
      have HSB := Lib.hid hs
      have HLL := Lib.hid hl
      have HG := Lib.hid hg
      clear hr hb2 hbi hb hl hs hs1 hq hq0 hq1 HR HL HB hpow hg
      by_cases hle : q ≤ n
      · have y3 : decide ((q : Int) ≤ (n : Int)) = true := by simp; omega
        go_wp2_with fail
        go_roundg g
        case measure => have := HG.out; omega
        case rel =>
          refine ⟨s, b / 2, rfl, by rw [HBI.out], by have := HG.out; omega, HB2, Lib.hid ?_, Lib.hid ?_, rfl⟩
          · have h := HR2.out; rwa [if_pos hle] at h
          · rw [HPW.out]; have := HSB.out; have := HLL.out; omega
      · have y3 : decide ((q : Int) ≤ (n : Int)) = false := by simp; omega
        go_wp2_with fail
        go_roundg g
        case measure => have := HG.out; omega
        case rel =>
          refine ⟨r, b / 2, rfl, by rw [HBI.out], by have := HG.out; omega, HB2, Lib.hid ?_, Lib.hid ?_, rfl⟩
          · have h := HR2.out; rwa [if_neg hle] at h
          · rw [HPW.out]; have := HSB.out; have := HLL.out; omega
end Go.Proofs.Ytbpkfcohbefphaa
