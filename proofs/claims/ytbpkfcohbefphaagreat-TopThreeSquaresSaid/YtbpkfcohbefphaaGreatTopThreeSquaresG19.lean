/- Lemmas, plain laws and walks that the statement LwThreeSquares leans on (texts ThB, ThD, ThE, BiV), conditions as each theorem says. -/
import Derived.Test.YtbpkfcohbefphaaGreatTopThreeSquaresG09
import Derived.Test.YtbpkfcohbefphaaGreatTopThreeSquaresG15
import Derived.Test.YtbpkfcohbefphaaGreatTopThreeSquaresG18

/- Plain law: the points of a box, in lexicographic order. -/
namespace Go.Proofs.YtbpkfcohbefphaaGreat

/-- The number of points of a box. -/
def boxN (b : Nat → Nat) : Nat → Nat
  | 0 => 1
  | n + 1 => boxN b n * (2 * b n + 1)
/-- Point t of a box. -/
def dig (b : Nat → Nat) : Nat → Nat → Nat → Int
  | 0, _ => fun _ => 0
  | n + 1, t => upd (dig b n (t / (2 * b n + 1))) n ((t % (2 * b n + 1) : Nat) - (b n : Int))
/-- The next point: the last coordinate that isn't at its end goes up, those behind it go back. -/
def nextI (b : Nat → Nat) : (Nat → Int) → Nat → Option (Nat → Int)
  | _, 0 => none
  | x, i + 1 => if x i = b i then nextI b (upd x i (-(b i : Int))) i else some (upd x i (x i + 1))
theorem boxN_pos (b : Nat → Nat) : ∀ n, 0 < boxN b n
  | 0 => Nat.one_pos
  | n + 1 => Nat.mul_pos (boxN_pos b n) (by omega)
theorem upd_upd {α : Type} (x : Nat → α) (n : Nat) (u v : α) : upd (upd x n u) n v = upd x n v := by
  funext i
  by_cases h : i = n
  · subst h; rw [upd_same, upd_same]
  · rw [upd_other _ _ h, upd_other _ _ h, upd_other _ _ h]
theorem upd_comm {α : Type} (x : Nat → α) {n m : Nat} (h : n ≠ m) (u v : α) : upd (upd x n u) m v = upd (upd x m v) n u := by
  funext i
  by_cases h1 : i = m
  · subst h1; rw [upd_same, upd_other _ _ (Ne.symm h), upd_same]
  · rw [upd_other _ _ h1]
    by_cases h2 : i = n
    · subst h2; rw [upd_same, upd_same]
    · rw [upd_other _ _ h2, upd_other _ _ h2, upd_other _ _ h1]
theorem nextI_upd (b : Nat → Nat) : ∀ (n m : Nat) (x : Nat → Int) (v : Int), n ≤ m → nextI b (upd x m v) n = (nextI b x n).map (fun y => upd y m v)
  | 0, _, _, _, _ => rfl
  | n + 1, m, x, v, h => by
    have hne : n ≠ m := by omega
    unfold nextI
    rw [upd_other _ _ hne]
    split
    · rw [← nextI_upd b n m _ v (by omega), upd_comm _ hne]
    · rw [Option.map_some, upd_comm _ hne]
theorem dig_lo (b : Nat → Nat) : ∀ n, dig b n 0 = fun i => if i < n then -(b i : Int) else 0
  | 0 => by funext i; simp [dig]
  | n + 1 => by
    funext i
    unfold dig
    rw [Nat.zero_div, dig_lo b n, Nat.zero_mod]
    by_cases h : i = n
    · subst h; rw [upd_same, if_pos (by omega)]; simp
    · rw [upd_other _ _ h]
      by_cases h1 : i < n
      · rw [if_pos h1, if_pos (by omega)]
      · rw [if_neg h1, if_neg (by omega)]
theorem div_succ_lt {t d : Nat} (hd : 0 < d) (h : t % d + 1 < d) : (t + 1) / d = t / d ∧ (t + 1) % d = t % d + 1 := by
  have h1 := Nat.div_add_mod t d
  have e : t + 1 = (t % d + 1) + d * (t / d) := by omega
  constructor
  · rw [e, Nat.add_mul_div_left _ _ hd, Nat.div_eq_of_lt h, Nat.zero_add]
  · rw [e, Nat.add_mul_mod_self_left, Nat.mod_eq_of_lt h]
theorem div_succ_eq {t d : Nat} (hd : 0 < d) (h : t % d + 1 = d) : (t + 1) / d = t / d + 1 ∧ (t + 1) % d = 0 := by
  have h1 := Nat.div_add_mod t d
  have e : t + 1 = d * (t / d + 1) := by rw [Nat.mul_add]; omega
  rw [e]
  exact ⟨Nat.mul_div_cancel_left _ hd, Nat.mul_mod_right _ _⟩
theorem nextI_dig (b : Nat → Nat) : ∀ (n t : Nat), t < boxN b n → nextI b (dig b n t) n = if t + 1 < boxN b n then some (dig b n (t + 1)) else none
  | 0, t, h => by
    have h1 : boxN b 0 = 1 := rfl
    rw [h1] at h ⊢
    rw [if_neg (by omega)]; rfl
  | n + 1, t, h => by
    obtain ⟨d, hd⟩ : ∃ d, 2 * b n + 1 = d := ⟨_, rfl⟩
    have hb : boxN b (n + 1) = boxN b n * d := by rw [← hd]; rfl
    have hd0 : 0 < d := by omega
    have hq : t / d < boxN b n := by
      rw [hb] at h
      exact Nat.div_lt_of_lt_mul (by rwa [Nat.mul_comm])
    have hm := Nat.mod_lt t hd0
    have h1 := Nat.div_add_mod t d
    have hdig : ∀ s, dig b (n + 1) s = upd (dig b n (s / d)) n ((s % d : Nat) - (b n : Int)) := fun s => by rw [← hd]; rfl
    rw [hdig t, hdig (t + 1), hb]
    unfold nextI
    rw [upd_same]
    by_cases h2 : t % d + 1 = d
    · obtain ⟨h3, h4⟩ := div_succ_eq hd0 h2
      rw [if_pos (by omega), upd_upd, nextI_upd b n n _ _ (Nat.le_refl _), nextI_dig b n _ hq, h3, h4]
      by_cases h5 : t / d + 1 < boxN b n
      · rw [if_pos h5, if_pos ?_]
        · simp
        · have : d * (t / d + 1 + 1) ≤ d * boxN b n := Nat.mul_le_mul_left _ h5
          rw [Nat.mul_add, Nat.mul_add] at this
          rw [Nat.mul_comm (boxN b n) d]; omega
      · rw [if_neg h5, if_neg ?_]
        · rfl
        · have h6 : t / d + 1 = boxN b n := by omega
          rw [← h6, Nat.mul_comm, Nat.mul_add]; omega
    · obtain ⟨h3, h4⟩ := div_succ_lt hd0 (show t % d + 1 < d by omega)
      rw [if_neg (by omega), upd_upd, h3, h4, if_pos ?_]
      · congr 2; omega
      · have : d * (t / d + 1) ≤ d * boxN b n := Nat.mul_le_mul_left _ hq
        rw [Nat.mul_add] at this
        rw [Nat.mul_comm (boxN b n) d]; omega
theorem dig_range (b : Nat → Nat) : ∀ (n t i : Nat), i < n → -(b i : Int) ≤ dig b n t i ∧ dig b n t i ≤ b i
  | n + 1, t, i, h => by
    unfold dig
    have := Nat.mod_lt t (show 0 < 2 * b n + 1 by omega)
    by_cases h1 : i = n
    · subst h1; rw [upd_same]; omega
    · rw [upd_other _ _ h1]; exact dig_range b n _ i (by omega)
end Go.Proofs.YtbpkfcohbefphaaGreat
/- Plain law: what the box counts is the number of representations. -/
namespace Go.Proofs.YtbpkfcohbefphaaGreat

/-- How often f takes the value q before T. -/
def hist (f : Nat → Int) : Nat → Int → Nat
  | 0, _ => 0
  | T + 1, q => if f T = q then hist f T q + 1 else hist f T q
theorem hist_len (f : Nat → Int) (q : Int) : ∀ T, hist f T q = ((List.range T).filter (fun t => decide (f t = q))).length
  | 0 => rfl
  | T + 1 => by
    rw [List.range_succ, List.filter_append, List.length_append, ← hist_len f q T]
    show (if f T = q then hist f T q + 1 else hist f T q) = _
    by_cases h : f T = q
    · rw [if_pos h]; simp [h]
    · rw [if_neg h]; simp [h]
theorem hist_le (f : Nat → Int) (q : Int) (T : Nat) : hist f T q ≤ T := by
  rw [hist_len]
  have := List.length_filter_le (fun t => decide (f t = q)) (List.range T)
  simpa using this
theorem hist_cong (f g : Nat → Int) (q : Int) : ∀ T, (∀ t, t < T → f t = g t) → hist f T q = hist g T q
  | 0, _ => rfl
  | T + 1, h => by
    show (if f T = q then hist f T q + 1 else hist f T q) = (if g T = q then hist g T q + 1 else hist g T q)
    rw [h T (Nat.lt_succ_self T), hist_cong f g q T (fun t ht => h t (Nat.lt_succ_of_lt ht))]
theorem dig_inj (b : Nat → Nat) : ∀ (n t s : Nat), t < boxN b n → s < boxN b n → (∀ i, i < n → dig b n t i = dig b n s i) → t = s
  | 0, t, s, ht, hs, _ => by
    have h1 : boxN b 0 = 1 := rfl
    omega
  | n + 1, t, s, ht, hs, h => by
    obtain ⟨d, hd⟩ : ∃ d, 2 * b n + 1 = d := ⟨_, rfl⟩
    have hd0 : 0 < d := by omega
    have hb : boxN b (n + 1) = boxN b n * d := by rw [← hd]; rfl
    have hdig : ∀ s, dig b (n + 1) s = upd (dig b n (s / d)) n ((s % d : Nat) - (b n : Int)) := fun s => by rw [← hd]; rfl
    rw [hb] at ht hs
    have h1 := h n (Nat.lt_succ_self n)
    rw [hdig, hdig, upd_same, upd_same] at h1
    have h2 := dig_inj b n (t / d) (s / d) (Nat.div_lt_of_lt_mul (by rwa [Nat.mul_comm])) (Nat.div_lt_of_lt_mul (by rwa [Nat.mul_comm])) (fun i hi => by
      have h3 := h i (by omega)
      rwa [hdig, hdig, upd_other _ _ (by omega), upd_other _ _ (by omega)] at h3)
    have h4 := Nat.div_add_mod t d
    have h5 := Nat.div_add_mod s d
    have h6 : t % d = s % d := by omega
    rw [← h4, ← h5, h2, h6]
theorem dig_surj (b : Nat → Nat) : ∀ (n : Nat) (x : Nat → Int), (∀ i, i < n → -(b i : Int) ≤ x i ∧ x i ≤ b i) → ∃ t, t < boxN b n ∧ ∀ i, i < n → dig b n t i = x i
  | 0, _, _ => ⟨0, Nat.one_pos, fun i hi => absurd hi (Nat.not_lt_zero _)⟩
  | n + 1, x, hx => by
    obtain ⟨d, hd⟩ : ∃ d, 2 * b n + 1 = d := ⟨_, rfl⟩
    have hd0 : 0 < d := by omega
    have hb : boxN b (n + 1) = boxN b n * d := by rw [← hd]; rfl
    have hdig : ∀ s, dig b (n + 1) s = upd (dig b n (s / d)) n ((s % d : Nat) - (b n : Int)) := fun s => by rw [← hd]; rfl
    obtain ⟨t, ht, h⟩ := dig_surj b n x (fun i hi => hx i (by omega))
    have hn := hx n (Nat.lt_succ_self n)
    obtain ⟨r, hr⟩ : ∃ r : Nat, (r : Int) = x n + b n := ⟨(x n + b n).toNat, by omega⟩
    have hrd : r < d := by omega
    have e1 : (r + d * t) / d = t := by rw [Nat.add_mul_div_left _ _ hd0, Nat.div_eq_of_lt hrd, Nat.zero_add]
    have e2 : (r + d * t) % d = r := by rw [Nat.add_mul_mod_self_left, Nat.mod_eq_of_lt hrd]
    refine ⟨r + d * t, ?_, fun i hi => ?_⟩
    · rw [hb]
      have : d * (t + 1) ≤ d * boxN b n := Nat.mul_le_mul_left _ ht
      rw [Nat.mul_add] at this
      rw [Nat.mul_comm (boxN b n) d]; omega
    · rw [hdig, e1, e2]
      by_cases h1 : i = n
      · subst h1; rw [upd_same, hr]; omega
      · rw [upd_other _ _ h1]; exact h i (by omega)
/-- What the box of a binary form counts. -/
theorem cnt_box {A B C m : Int} {b : Nat → Nat} (hA : 0 < A) (hC : 0 < C) (hD : 0 < 4 * A * C - B * B) (h0 : 4 * m * C / (4 * A * C - B * B) < ((b 0 : Int) + 1) * ((b 0 : Int) + 1)) (h1 : 4 * m * A / (4 * A * C - B * B) < ((b 1 : Int) + 1) * ((b 1 : Int) + 1)) (q : Int) (hq : q ≤ m) :
    Cnt A B C q (hist (fun t => fq A B C (dig b 2 t 0, dig b 2 t 1)) (boxN b 2) q) := by
  refine ⟨((List.range (boxN b 2)).filter (fun t => decide (fq A B C (dig b 2 t 0, dig b 2 t 1) = q))).map (fun t => (dig b 2 t 0, dig b 2 t 1)), ?_, by rw [hist_len]; simp, fun p => ?_⟩
  · refine List.pairwise_map.2 ?_
    have h2 : ((List.range (boxN b 2)).filter (fun t => decide (fq A B C (dig b 2 t 0, dig b 2 t 1) = q))).Pairwise (fun t s => t ≠ s ∧ t < boxN b 2 ∧ s < boxN b 2) := by
      refine List.Pairwise.imp_of_mem (R := fun t s => t ≠ s) (fun {t s} ht hs hne => ⟨hne, ?_, ?_⟩) (List.Pairwise.filter _ List.nodup_range)
      · exact List.mem_range.1 (List.mem_filter.1 ht).1
      · exact List.mem_range.1 (List.mem_filter.1 hs).1
    refine h2.imp (fun {t s} h e => h.1 (dig_inj b 2 t s h.2.1 h.2.2 (fun i hi => ?_)))
    simp only [Prod.mk.injEq] at e
    rcases (by omega : i = 0 ∨ i = 1) with rfl | rfl
    · exact e.1
    · exact e.2
  · rw [List.mem_map]
    constructor
    · rintro ⟨t, ht, rfl⟩
      have := (List.mem_filter.1 ht).2
      simpa using this
    · intro hp
      obtain ⟨t, ht, he⟩ := dig_surj b 2 (fun i => if i = 0 then p.1 else p.2) (fun i hi => by
        rcases (by omega : i = 0 ∨ i = 1) with rfl | rfl
        · exact box_x hC hD h0 p (by omega)
        · exact box_y hA hD h1 p (by omega))
      have e0 : dig b 2 t 0 = p.1 := he 0 (by omega)
      have e1 : dig b 2 t 1 = p.2 := he 1 (by omega)
      refine ⟨t, List.mem_filter.2 ⟨List.mem_range.2 ht, ?_⟩, ?_⟩
      · rw [e0, e1]; simpa using hp
      · rw [e0, e1]
end Go.Proofs.YtbpkfcohbefphaaGreat
/- Plain law: square roots, and what Represent adds up. -/
namespace Go.Proofs.YtbpkfcohbefphaaGreat

/-- The square root, bit by bit. -/
def rtS (n : Nat) : Nat → Nat → Nat
  | 0, r => r
  | k + 1, r => if (r + 2 ^ k) * (r + 2 ^ k) ≤ n then rtS n k (r + 2 ^ k) else rtS n k r
def sqN (n : Nat) : Nat := rtS n 31 0
theorem rtS_spec (n : Nat) : ∀ (k r : Nat), r * r ≤ n → n < (r + 2 ^ k) * (r + 2 ^ k) → rtS n k r * rtS n k r ≤ n ∧ n < (rtS n k r + 1) * (rtS n k r + 1)
  | 0, r, h1, h2 => ⟨h1, by rw [Nat.pow_zero] at h2; exact h2⟩
  | k + 1, r, h1, h2 => by
    unfold rtS
    split
    · rename_i h
      refine rtS_spec n k _ h ?_
      rw [show r + 2 ^ k + 2 ^ k = r + 2 ^ (k + 1) by rw [Nat.pow_succ]; omega]
      exact h2
    · rename_i h
      exact rtS_spec n k r h1 (by omega)
theorem sqN_spec {n : Nat} (h : n < 4611686018427387904) : sqN n * sqN n ≤ n ∧ n < (sqN n + 1) * (sqN n + 1) :=
  rtS_spec n 31 0 (by omega) (by simpa using h)
theorem sq_between {n a b : Nat} (h1 : a * a ≤ n) (h2 : n < (b + 1) * (b + 1)) : a ≤ b := by
  rcases Nat.lt_or_ge b a with h | h
  · have := Nat.mul_le_mul (show b + 1 ≤ a from h) (show b + 1 ≤ a from h)
    omega
  · exact h
theorem sqN_uniq {n r : Nat} (h : n < 4611686018427387904) (h1 : r * r ≤ n) (h2 : n < (r + 1) * (r + 1)) : r = sqN n := by
  obtain ⟨h3, h4⟩ := sqN_spec h
  exact Nat.le_antisymm (sq_between h1 h4) (sq_between h3 h2)
theorem sqN_le {n m : Nat} (h : n < 4611686018427387904) (hm : n < (m + 1) * (m + 1)) : sqN n ≤ m := sq_between (sqN_spec h).1 hm
theorem sqN_self {k : Nat} (h : k * k < 4611686018427387904) : sqN (k * k) = k := (sqN_uniq h (Nat.le_refl _) (Nat.mul_self_lt_mul_self (Nat.lt_succ_self k))).symm

/-- What is under the root at y. -/
def innI (A B C n y : Int) : Int := B * B * y * y - 4 * A * (C * y * y - n)
/-- Solutions at y. -/
def repY (A B C n y : Int) : Nat :=
  if 0 ≤ innI A B C n y ∧ ((sqN (innI A B C n y).toNat : Nat) : Int) * ((sqN (innI A B C n y).toNat : Nat) : Int) = innI A B C n y then
    (if (2 * A) ∣ (((sqN (innI A B C n y).toNat : Nat) : Int) - B * y) then 1 else 0) + (if 0 < sqN (innI A B C n y).toNat ∧ (2 * A) ∣ (-((sqN (innI A B C n y).toNat : Nat) : Int) - B * y) then 1 else 0)
  else 0
def repN (A B C n : Int) (h : Nat) : Nat → Nat
  | 0 => 0
  | j + 1 => repN A B C n h j + repY A B C n ((j : Int) - (h : Int))
theorem repY_len (A B C n y : Int) : repY A B C n y = (solY A B C n (sqN (innI A B C n y).toNat) y).length := by
  unfold repY solY
  rw [show B * B * y * y - 4 * A * (C * y * y - n) = innI A B C n y from rfl]
  generalize sqN (innI A B C n y).toNat = s
  by_cases h : (s : Int) * s = innI A B C n y
  · have h0 : 0 ≤ innI A B C n y := by rw [← h]; exact sq_nonneg _
    rw [if_pos ⟨h0, h⟩, if_pos h]
    split <;> split <;> simp
  · rw [if_neg (fun e => h e.2), if_neg h]; rfl
theorem repN_len (A B C n : Int) (h : Nat) : ∀ j, repN A B C n h j = (((List.range j).map (fun i : Nat => (i : Int) - (h : Int))).flatMap (fun y => solY A B C n (sqN (innI A B C n y).toNat) y)).length
  | 0 => rfl
  | j + 1 => by
    unfold repN
    rw [List.range_succ, List.map_append, List.flatMap_append, List.length_append, ← repN_len A B C n h j, repY_len]
    simp
theorem innI_eq (A B C n y : Int) : innI A B C n y = 4 * A * n - (4 * A * C - B * B) * (y * y) := by unfold innI; grind
/-- Represent's count. -/
theorem cnt_rep {A B C n : Int} {h : Nat} (hA : 0 < A) (hD : 0 < 4 * A * C - B * B) (hn : 4 * A * n < 4611686018427387904) (hb : 4 * A * n / (4 * A * C - B * B) < ((h : Int) + 1) * ((h : Int) + 1)) : Cnt A B C n (repN A B C n h (2 * h + 1)) := by
  rw [repN_len]
  refine cnt_sol hA hD (fun y => sqN (innI A B C n y).toNat) (fun y k hk => ?_) hb
  rw [show B * B * y * y - 4 * A * (C * y * y - n) = innI A B C n y from rfl] at hk
  have h1 : (innI A B C n y).toNat = k * k := by rw [← hk]; rw [← Int.natCast_mul]; exact Int.toNat_natCast _
  have h2 := innI_eq A B C n y
  have h3 := Int.mul_nonneg (Int.le_of_lt hD) (sq_nonneg y)
  show k = sqN (innI A B C n y).toNat
  rw [h1]
  refine (sqN_self ?_).symm
  have h4 : ((k * k : Nat) : Int) = innI A B C n y := by rw [← hk]; simp
  omega
/-- A reduced form's first coefficient is at most the last one's. -/
theorem tmod_dvd (a b : Int) : (Int.tmod a b = 0) ↔ b ∣ a := (Int.dvd_iff_tmod_eq_zero).symm
end Go.Proofs.YtbpkfcohbefphaaGreat
/- Walk over integers: Sqrt. -/
namespace Go.Proofs.YtbpkfcohbefphaaGreat
open Go Go.RowKit

theorem ediv_nat (a b : Nat) : (a : Int) / (b : Int) = ((a / b : Nat) : Int) := by simp
theorem results_ctt {fn : Func} {p q r : Tmp} {ty : TypeId} (h : fn.results = #[.cell p ty, .tmp q, .tmp r]) (tmps : Array Value) (P : Program) (w : World) :
    (results fn tmps).run P w = ((asAddr (tmps.getD p undef)).run P w).andThen fun a w₁ => ((loadVar ty a).run P w₁).andThen fun x w₂ => .ok (.tuple #[x, tmps.getD q undef, tmps.getD r undef]) w₂ := by
  simp [results, h, Sem.run_bind, Result.andThen]
/-- Newton's step does not pass the root. -/
theorem newton_ge {n x s : Nat} (h0 : 0 < x) (hs : s * s ≤ n) : s ≤ (x + n / x) / 2 := by
  rw [Nat.le_div_iff_mul_le (by omega)]
  rcases Nat.lt_or_ge (x + n / x) (s * 2) with h | h
  · exfalso
    have h1 : n < x * (n / x + 1) := by
      have := Nat.div_add_mod n x
      have := Nat.mod_lt n h0
      rw [Nat.mul_add]; omega
    obtain ⟨d, hd⟩ : ∃ d, n / x = d := ⟨_, rfl⟩
    rw [hd] at h h1
    have h2 : x * (d + 1) ≤ s * s := by
      have h3 : ((s : Int) - x) * ((s : Int) - x) ≥ 0 := sq_nonneg _
      have h4 : (d : Int) + 1 ≤ 2 * s - x := by omega
      have h5 : (x : Int) * ((d : Int) + 1) ≤ x * (2 * s - x) := Int.mul_le_mul_of_nonneg_left h4 (by omega)
      have h6 : ((s : Int) - x) * ((s : Int) - x) = s * s - x * (2 * s - x) := by grind
      have h7 : (x : Int) * ((d : Int) + 1) ≤ (s : Int) * s := by omega
      exact_mod_cast h7
    omega
  · exact h
theorem newton_stop {n x s : Nat} (h0 : 0 < x) (hs : n < (s + 1) * (s + 1)) (h : x ≤ (x + n / x) / 2) : x ≤ s := by
  rw [Nat.le_div_iff_mul_le (by omega)] at h
  have h1 : x ≤ n / x := by omega
  have h2 : x * x ≤ n := by rw [Nat.le_div_iff_mul_le h0] at h1; exact h1
  exact sq_between h2 hs
theorem sqrt_start {n : Nat} (hn : n ≤ 1000000000) : ∃ L k X0 : Nat, Lib.bitLen n = L ∧ L ≤ 30 ∧ (L + 1) / 2 = k ∧ k ≤ 16 ∧ 2 ^ k = X0 ∧ sqN n ≤ X0 ∧ 0 < X0 ∧ X0 ≤ 65536 := by
  have h1 : Lib.bitLen n ≤ 30 := Lib.bitLen_le n 30 (by omega) (by omega)
  have hk : (Lib.bitLen n + 1) / 2 ≤ 16 := by omega
  refine ⟨_, _, _, rfl, h1, rfl, hk, rfl, ?_, two_pos _, pow_le16 hk⟩
  have h2 : n < 2 ^ Lib.bitLen n := lt_bitLen (by omega)
  have h3 := (sqN_spec (n := n) (by omega)).1
  generalize Lib.bitLen n = L at *
  have h4 : n < 2 ^ ((L + 1) / 2) * 2 ^ ((L + 1) / 2) := by
    rw [← Nat.pow_add]
    exact Nat.lt_of_lt_of_le h2 (Nat.pow_le_pow_right (by decide) (by clear h2 h3; omega))
  generalize 2 ^ ((L + 1) / 2) = X at h4
  clear h2
  rcases Nat.lt_or_ge X (sqN n) with h | h
  · have := Nat.mul_le_mul (Nat.le_of_lt h) (Nat.le_of_lt h); omega
  · exact h
theorem bxB {u0 u : World} {t : TypeId} {z : Int} {s : Bool} {a : Option Addr} {l c : Nat} (hg : Grow (u0.alloc (.cells #[.bool false, .slice none 0 0] t)) u) (hx : IntR u (.agg #[.bool s, .slice a l c]) z) :
    Grow u0 ((u.setCell ⟨u0.heap.size, 0, none⟩ (.bool s)).setCell ⟨u0.heap.size, 1, none⟩ (.slice a l c)) ∧ BxV ((u.setCell ⟨u0.heap.size, 0, none⟩ (.bool s)).setCell ⟨u0.heap.size, 1, none⟩ (.slice a l c)) u0.heap.size z :=
  ⟨(((((Grow.refl u0).alloc _).trans hg).setCell (Nat.le_refl _) _).setCell (Nat.le_refl _) _), ((BxV.zero u0 t).grow hg).putI hx⟩
set_option maxRecDepth 20000 in
set_option maxHeartbeats 8000000 in
theorem divmod0V (u1 v : Value) (y : Int) (w : World) (h1 : IntR w u1 y) (h2 : IntR w v 0) : Calls Tryz.prog 103 #[u1, v] w fun e w' => e = .returned (.tuple #[.agg #[.bool false, .slice none 0 0], .agg #[.bool false, .slice none 0 0], .int .i64 5]) ∧ Grow w w' := by
  obtain ⟨s1, a1, l1, c1, rfl⟩ := h1.form
  obtain ⟨m, rfl, hm⟩ := h2
  rcases hm with ⟨-, a, cap, rfl⟩ | ⟨h, -⟩
  · have TR := Lib.hid (fun u => trimmed_nil a cap u)
    clear h1
    generalize sgB 0 = s
    go_enter Tryz.func103, Tryz.ntmps103
    go_wp2_with (go_at_call 78; (with_reducible refine (TR.out _).mono ?_); (rintro e u3 ⟨rfl, rfl⟩))
    all_goals refine bodyPost_ret (v := .tuple #[.agg #[.bool false, .slice none 0 0], .agg #[.bool false, .slice none 0 0], .int .i64 5]) (by rw [results_cct rfl]; go_simp) rfl ⟨rfl, by (repeat (first | with_reducible exact Grow.refl _ | with_reducible refine Grow.alloc ?_ _ | with_reducible refine Grow.drew ?_ | with_reducible refine Grow.drewN ?_ _ | (with_reducible refine Grow.setCell ?_ ?hp _; (case hp => (simp; try omega))) | with_reducible refine Grow.trans ?_ (by assumption)))⟩
  · exact absurd h (by decide)
theorem FrX.putI {w0 u : World} {t : TypeId} {F : Nat} {z : Int} {s : Bool} {a : Option Addr} {l c : Nat} (h : FrX w0 u (.cells #[.bool false, .slice none 0 0] t) F) (hx : IntR u (.agg #[.bool s, .slice a l c]) z) :
    Grow w0 ((u.setCell ⟨F, 0, none⟩ (.bool s)).setCell ⟨F, 1, none⟩ (.slice a l c)) ∧ BxV ((u.setCell ⟨F, 0, none⟩ (.bool s)).setCell ⟨F, 1, none⟩ (.slice a l c)) F z ∧ w0.heap.size ≤ F := by
  obtain ⟨x, h1, rfl, h3⟩ := h
  obtain ⟨h4, h5⟩ := bxB h3 hx
  exact ⟨h1.trans h4, h5, h1.size⟩
theorem FrX.zero {w0 u : World} {t : TypeId} {F : Nat} (h : FrX w0 u (.cells #[.bool false, .slice none 0 0] t) F) : BxV u F 0 := by
  obtain ⟨x, h1, rfl, h3⟩ := h
  exact (BxV.zero x t).grow h3
/-- Quotients of naturals, 0 for the divisor 0. -/
theorem dmN (y z : Nat) (u v : Value) (w : World) (h1 : IntR w u y) (h2 : IntR w v z) : Calls Tryz.prog 103 #[u, v] w fun e w' => ∃ q r k x, e = .returned (.tuple #[q, r, .int .i64 x]) ∧ IntR w' q ((y / z : Nat) : Int) ∧ IntR w' r k ∧ Grow w w' := by
  by_cases hz : z = 0
  · subst hz
    refine (divmod0V u v y w h1 h2).mono ?_
    rintro e w' ⟨rfl, hg⟩
    refine ⟨_, _, 0, 5, rfl, ?_, ?_, hg⟩
    · rw [Nat.div_zero]; exact ⟨_, rfl, .inl ⟨rfl, none, 0, rfl⟩⟩
    · exact ⟨_, rfl, .inl ⟨rfl, none, 0, rfl⟩⟩
  · refine (divmodV y z u v (by omega) w h1 h2).mono ?_
    rintro e w' ⟨q, r, rfl, hq, hr, hg⟩
    exact ⟨q, r, _, 0, rfl, by rw [← ediv_nat]; exact hq, hr, hg⟩
set_option maxRecDepth 20000 in
set_option maxHeartbeats 8000000 in
theorem sqrtV (n : Nat) (hn : n ≤ 1000000000) (v1 : Value) (w : World) (h1 : IntR w v1 n) : Calls Tryz.prog 98 #[v1] w fun e w' => ∃ v b, e = .returned (.tuple #[v, .bool b, .int .i64 0]) ∧ IntR w' v ((sqN n : Nat) : Int) ∧ Grow w w' := by
  obtain ⟨s1, a1, l1, c1, rfl⟩ := h1.form
  have SG := Lib.hid (fun (u : World) (hu : Grow w u) => signV n _ u (h1.grow hu))
  have hsg : 0 ≤ sgI (n : Int) := by rw [sgI_nat]; split <;> omega
  obtain ⟨sg, hsgn⟩ : ∃ sg, sgI (n : Int) = sg := ⟨_, rfl⟩
  rw [hsgn] at SG hsg
  have y0 : decide (sg < 0) = false := by simp; omega
  have O2 := Lib.hid (fun u => ofV 2 (by decide) u)
  have BT := Lib.hid (fun (u : World) (hu : Grow w u) => bitsV n _ u (h1.grow hu))
  rw [Int.natAbs_natCast] at BT
  obtain ⟨L, k, X0, hL, hL2, hk, hk16, hX0, hxs, hpp, hp16⟩ := sqrt_start hn
  rw [hL] at BT
  have PW := Lib.hid (fun (u : World) (v : Value) (hv : IntR u v 2) => powV k hk16 v u hv)
  rw [hX0] at PW
  clear hX0
  have hq : Int.tdiv ((L : Int) + 1) 2 = (k : Int) := by
    rw [Int.tdiv_eq_ediv_of_nonneg (by omega)]; omega
  have hl1 : ((L : Int) + 1) = ((L + 1 : Nat) : Int) := by omega
  have y1 := Lib.hid (w64n (n := (L : Int) + 1) (by omega))
  have y2 : Hid (IntKind.i64.wrap (Int.tdiv ((L : Int) + 1) 2) = (k : Int) ∧ wrap64 (Int.tdiv ((L : Int) + 1) 2) = (k : Int)) := Lib.hid (by rw [hq]; exact w64n (by omega))
  clear hq hl1
  have H1 := Lib.hid h1
  obtain ⟨W1, hW1⟩ : ∃ W1 : World, W1 = w.alloc (.cells #[.bool s1, .slice a1 l1 c1] 34) := ⟨_, rfl⟩
  obtain ⟨W2, hW2⟩ : ∃ W2 : World, W2 = W1.alloc (.cells #[.bool false, .slice none 0 0] 34) := ⟨_, rfl⟩
  have hg2 : Grow w W2 := (ag hW1).trans (ag hW2)
  have K1 := Lib.hid (fun u (hu : Grow W2 u) => ak2 hW1 u ((ag hW2).trans hu))
  have hz1 : W1.heap.size = w.heap.size + 1 := by rw [hW1]; simp
  have RB : Hid (BxV W2 (w.heap.size + 1) 0) := Lib.hid (by rw [hW2, ← hz1]; exact BxV.zero W1 _)
  have HW1 := Lib.hid hW1
  have HW2 := Lib.hid hW2
  have G2 := Lib.hid hg2
  have hw2 : w.heap.size + 1 < W2.heap.size := RB.out.1
  have HXS := Lib.hid hxs
  have HXP := Lib.hid hpp
  have HX16 := Lib.hid hp16
  clear h1 hW1 hW2 hz1 hL hxs hpp hp16 hk hsgn hsg hg2
  obtain ⟨y1a, y1b⟩ := y1.out
  obtain ⟨y2a, y2b⟩ := y2.out
  go_enter Tryz.func98, Tryz.ntmps98
  go_upto_region 1 with fail
  rw [← HW1.out, ← HW2.out]
  obtain ⟨b0, b1, b2, b3⟩ := K1.out W2 (Grow.refl _)
  go_upto_region 3 with (go_at_call 56; (with_reducible refine (SG.out _ (G2.out.trans (by (repeat (first | with_reducible exact Grow.refl _ | with_reducible refine Grow.alloc ?_ _ | with_reducible refine Grow.drew ?_ | with_reducible refine Grow.drewN ?_ _ | (with_reducible refine Grow.setCell ?_ ?hp _; (case hp => (simp; try omega))) | with_reducible refine Grow.trans ?_ (by assumption)))))).mono ?_); (rintro e u3 ⟨rfl, hb3⟩))
  refine region_flex (id := 3) W2 [⟨9, 5, .cells #[.bool false, .slice none 0 0] 34⟩] [1, 0, 2, 3, 4, 5, 6, 7, 8] [10, 11] (kdL [2, 1, 2, 0, 0, 2, 0, 0, 0, 2, 3, 0]) (by kernel_rfl) (by kernel_rfl) (fun t ht => kdL_lt _ t ht) (by simp) (by simp) ?hgp ?halp ?_
  case hgp => (repeat (first | with_reducible exact Grow.refl _ | with_reducible refine Grow.alloc ?_ _ | with_reducible refine Grow.drew ?_ | with_reducible refine Grow.drewN ?_ _ | (with_reducible refine Grow.setCell ?_ ?hp _; (case hp => (simp; try omega))) | with_reducible refine Grow.trans ?_ (by assumption)))
  case halp => (intro x hx; simp only [List.mem_cons, List.not_mem_nil, or_false] at hx; subst hx; all_goals (refine ⟨⟨_, rfl, rfl⟩, fun K a u hK => ?_⟩; refine wpOp_step rfl (fun K' hK' => ?_); go_simp; exact hK' _ _ hK))
  refine flex_read (v := ?vp1) rfl rfl (fun t => Or.inl ⟨by rfl, ?hyp1⟩) ?_
  case hyp1 => (intro u hu; obtain ⟨f0, f1, f2, f3⟩ := K1.out u hu; simp only [aof, List.foldl_cons, List.foldl_nil, Act.put, List.setIfInBounds_toArray, List.set_cons_zero, List.set_cons_succ]; go_simp; (try with_reducible rfl))
  (try simp only [Act.put, List.setIfInBounds_toArray, List.set_cons_zero, List.set_cons_succ])
  refine flex_op rfl rfl (fun t0 u0 hu0 K hK => ?_)
  simp only [aof, List.foldl_cons, List.foldl_nil, Act.put, List.setIfInBounds_toArray, List.set_cons_zero, List.set_cons_succ]
  go_simp
  (go_at_call 34; (with_reducible refine (O2.out _).mono ?_); (rintro e u4 ⟨v4, rfl, hv4, hb4⟩; obtain ⟨s4, a4, l4, c4, rfl⟩ := hv4.form; have HV4 := Lib.hid hv4; clear hv4))
  (try go_wp2_with fail)
  refine hK.out _ (.agg #[.bool s4, .slice a4 l4 c4]) _ ?hep0 ?hgp0 ?_
  case hep0 => (simp only [aof, List.foldl_cons, List.foldl_nil, Act.put, List.setIfInBounds_toArray, List.set_cons_zero, List.set_cons_succ])
  case hgp0 => (repeat (first | with_reducible exact Grow.refl _ | with_reducible refine Grow.alloc ?_ _ | with_reducible refine Grow.drew ?_ | with_reducible refine Grow.drewN ?_ _ | (with_reducible refine Grow.setCell ?_ ?hp _; (case hp => (simp; try omega))) | with_reducible refine Grow.trans ?_ (by assumption)))
  clear hK K t0
  (try simp only [Act.put, List.setIfInBounds_toArray, List.set_cons_zero, List.set_cons_succ])
  refine flex_op rfl rfl (fun t2 u2 hu2 K hK => ?_)
  simp only [aof, List.foldl_cons, List.foldl_nil, Act.put, List.setIfInBounds_toArray, List.set_cons_zero, List.set_cons_succ]
  go_simp
  (go_at_call 115; (with_reducible refine (BT.out _ (G2.out.trans (by (repeat (first | with_reducible exact Grow.refl _ | with_reducible refine Grow.alloc ?_ _ | with_reducible refine Grow.drew ?_ | with_reducible refine Grow.drewN ?_ _ | (with_reducible refine Grow.setCell ?_ ?hp _; (case hp => (simp; try omega))) | with_reducible refine Grow.trans ?_ (by assumption)))))).mono ?_); (rintro e u5 ⟨rfl, hb5⟩))
  (try go_wp2_with fail)
  refine hK.out _ (.int .i64 (L : Int)) _ ?hep2 ?hgp2 ?_
  case hep2 => (simp only [aof, List.foldl_cons, List.foldl_nil, Act.put, List.setIfInBounds_toArray, List.set_cons_zero, List.set_cons_succ])
  case hgp2 => (repeat (first | with_reducible exact Grow.refl _ | with_reducible refine Grow.alloc ?_ _ | with_reducible refine Grow.drew ?_ | with_reducible refine Grow.drewN ?_ _ | (with_reducible refine Grow.setCell ?_ ?hp _; (case hp => (simp; try omega))) | with_reducible refine Grow.trans ?_ (by assumption)))
  clear hK K t2
  (try simp only [Act.put, List.setIfInBounds_toArray, List.set_cons_zero, List.set_cons_succ])
  refine flex_quiet (v := ?vp3) rfl rfl (fun t => Or.inl ⟨by rfl, ?hyp3⟩) ?_
  case hyp3 => (intro u hu; simp only [aof, List.foldl_cons, List.foldl_nil, Act.put, List.setIfInBounds_toArray, List.set_cons_zero, List.set_cons_succ]; go_simp; (try with_reducible rfl))
  (try simp only [Act.put, List.setIfInBounds_toArray, List.set_cons_zero, List.set_cons_succ])
  refine flex_quiet (v := ?vp4) rfl rfl (fun t => Or.inl ⟨by rfl, ?hyp4⟩) ?_
  case hyp4 => (intro u hu; simp only [aof, List.foldl_cons, List.foldl_nil, Act.put, List.setIfInBounds_toArray, List.set_cons_zero, List.set_cons_succ]; go_simp; (try with_reducible rfl))
  (try simp only [Act.put, List.setIfInBounds_toArray, List.set_cons_zero, List.set_cons_succ])
  refine flex_op rfl rfl (fun t5 u5 hu5 K hK => ?_)
  simp only [aof, List.foldl_cons, List.foldl_nil, Act.put, List.setIfInBounds_toArray, List.set_cons_zero, List.set_cons_succ]
  go_simp
  (go_at_call 114; (with_reducible refine (PW.out _ _ (HV4.out.grow (by (repeat (first | with_reducible exact Grow.refl _ | with_reducible refine Grow.alloc ?_ _ | with_reducible refine Grow.drew ?_ | with_reducible refine Grow.drewN ?_ _ | (with_reducible refine Grow.setCell ?_ ?hp _; (case hp => (simp; try omega))) | with_reducible refine Grow.trans ?_ (by assumption)))))).mono ?_); (rintro e u6 ⟨v6, rfl, hv6, hb6⟩; obtain ⟨s6, a6, l6, c6, rfl⟩ := hv6.form; have HV6 := Lib.hid hv6; clear hv6))
  (try go_wp2_with fail)
  refine hK.out _ (.tuple #[.agg #[.bool s6, .slice a6 l6 c6], .int .i64 0]) _ ?hep5 ?hgp5 ?_
  case hep5 => (simp only [aof, List.foldl_cons, List.foldl_nil, Act.put, List.setIfInBounds_toArray, List.set_cons_zero, List.set_cons_succ])
  case hgp5 => (repeat (first | with_reducible exact Grow.refl _ | with_reducible refine Grow.alloc ?_ _ | with_reducible refine Grow.drew ?_ | with_reducible refine Grow.drewN ?_ _ | (with_reducible refine Grow.setCell ?_ ?hp _; (case hp => (simp; try omega))) | with_reducible refine Grow.trans ?_ (by assumption)))
  clear hK K t5
  (try simp only [Act.put, List.setIfInBounds_toArray, List.set_cons_zero, List.set_cons_succ])
  refine flex_quiet (v := ?vp6) rfl rfl (fun t => Or.inl ⟨by rfl, ?hyp6⟩) ?_
  case hyp6 => (intro u hu; simp only [aof, List.foldl_cons, List.foldl_nil, Act.put, List.setIfInBounds_toArray, List.set_cons_zero, List.set_cons_succ]; go_simp; (try with_reducible rfl))
  (try simp only [Act.put, List.setIfInBounds_toArray, List.set_cons_zero, List.set_cons_succ])
  refine flex_quiet (v := ?vp7) rfl rfl (fun t => Or.inl ⟨by rfl, ?hyp7⟩) ?_
  case hyp7 => (intro u hu; simp only [aof, List.foldl_cons, List.foldl_nil, Act.put, List.setIfInBounds_toArray, List.set_cons_zero, List.set_cons_succ]; go_simp; (try with_reducible rfl))
  (try simp only [Act.put, List.setIfInBounds_toArray, List.set_cons_zero, List.set_cons_succ])
  refine flex_quiet (v := ?vp8) rfl rfl (fun t => Or.inl ⟨by rfl, ?hyp8⟩) ?_
  case hyp8 => (intro u hu; simp only [aof, List.foldl_cons, List.foldl_nil, Act.put, List.setIfInBounds_toArray, List.set_cons_zero, List.set_cons_succ]; go_simp; (try with_reducible rfl))
  (try simp only [Act.put, List.setIfInBounds_toArray, List.set_cons_zero, List.set_cons_succ])
  refine flex_done (fun Fp up hup hFp hNp => ?_)
  have hFp0 := hFp ⟨9, 5, .cells #[.bool false, .slice none 0 0] 34⟩ (by simp)
  clear hFp hNp
  (try simp only [aof, List.foldl_cons, List.foldl_nil, Act.put, List.setIfInBounds_toArray, List.set_cons_zero, List.set_cons_succ, ptrX])
  generalize Fp 9 = Fbp0 at *
  clear Fp
  have hFX := hFp0
  obtain ⟨hFx, hF1, hF2, hF3⟩ := hFp0
  obtain ⟨o0, o1, of, oz⟩ := ak2 rfl _ hF3
  rw [hF2] at o0 o1 of oz
  refine held_last rfl rfl (fun K hK => ?_)
  go_simp
  refine hK.out _ _ ?_
  clear hK K
  (try simp only [Act.put])
  refine held_quiet (v := ?vp11) rfl rfl (Or.inl ⟨by rfl, ?hyp11⟩) ?_
  case hyp11 => (intro u hu; go_simp; (try with_reducible rfl))
  (try simp only [Act.put])
  refine held_done ?_
  obtain ⟨hG3, hX3, hX⟩ := hFX.putI (HV6.out.grow hup)
  obtain ⟨w3, hw3⟩ : ∃ w3, (up.setCell ⟨Fbp0, 0, none⟩ (.bool s6)).setCell ⟨Fbp0, 1, none⟩ (.slice a6 l6 c6) = w3 := ⟨_, rfl⟩
  rw [hw3] at hG3 hX3 ⊢
  have HG3 := Lib.hid hG3
  have HX3 := Lib.hid hX3
  clear hw3 hG3 hX3 HV6 HV4 hup hFX o0 o1 of oz hFx hF1 hF2 hF3 hb4 hb5 hb6
  generalize Fbp0 = X at *
  clear SG BT PW b0 b1 b2 b3 hb3 y0 y1a y1b y2a y2b y1 y2
  go_upto_region 5 with (go_at_call 34; (with_reducible refine (O2.out _).mono ?_); (rintro e u7 ⟨v7, rfl, hv7, hb7⟩; obtain ⟨s7, a7, l7, c7, rfl⟩ := hv7.form; have HV7 := Lib.hid hv7; clear hv7))
  have hgx : Grow w3 (u7.alloc (.cells #[.bool s7, .slice a7 l7 c7] 34)) := by (repeat (first | with_reducible exact Grow.refl _ | with_reducible refine Grow.alloc ?_ _ | with_reducible refine Grow.drew ?_ | with_reducible refine Grow.drewN ?_ _ | (with_reducible refine Grow.setCell ?_ ?hp _; (case hp => (simp; try omega))) | with_reducible refine Grow.trans ?_ (by assumption)))
  have ht := BxV.layI HV7.out 34
  have hz7 := hb7.size
  have hx3 := HX3.out.1
  obtain ⟨T, hT⟩ : ∃ T, u7.heap.size = T := ⟨_, rfl⟩
  obtain ⟨w5, hw5⟩ : ∃ w5, u7.alloc (.cells #[.bool s7, .slice a7 l7 c7] 34) = w5 := ⟨_, rfl⟩
  rw [hw5] at ht hgx ⊢
  rw [hT] at ht hz7 ⊢
  have HT5 := Lib.hid ht
  have HX5 := Lib.hid (HX3.out.grow hgx)
  have HG5 := Lib.hid (HG3.out.trans hgx)
  have hXT : X ≠ T := by omega
  clear hw5 hT ht hgx hb7 HV7 O2 HG3 HX3 hx3 hz7
  go_wp2_with fail
  go_loopg [] X0 (fun gk wr => Hid (BxV wr X (gk : Int)) ∧ Hid (BxV wr T 2) ∧ Hid (sqN n ≤ gk) ∧ gk ≤ 65536 ∧ Hid (Grow W2 wr))
  case atStart => exact ⟨HX5, HT5, HXS, HX16.out, HG5⟩
  case round =>
    clear HX5 HT5 HXS HXP HX16 HG5
    obtain ⟨HX, HT, HS, hgk, HG⟩ := hrel
    obtain ⟨sx, ax, lx, cx, hcX, hvX⟩ := int_cells HX.out
    obtain ⟨st, at', lt, ct, hcT, hvT⟩ := int_cells HT.out
    have XC := Lib.hid hcX
    have TC := Lib.hid hcT
    have KC := Lib.hid (fun u (hu : Grow wr u) => K1.out u (HG.out.trans hu))
    have DM := Lib.hid (fun (u : World) (hu : Grow wr u) => dmN n gk _ _ u (H1.out.grow ((G2.out.trans HG.out).trans hu)) (hvX.grow hu))
    obtain ⟨p0, p1, p2, p3⟩ := XC.out wr (Grow.refl _)
    obtain ⟨k0, k1, k2, k3⟩ := KC.out wr (Grow.refl _)
    go_upto_region 6 with (go_at_call 103; (with_reducible refine (DM.out _ (by (repeat (first | with_reducible exact Grow.refl _ | with_reducible refine Grow.alloc ?_ _ | with_reducible refine Grow.drew ?_ | with_reducible refine Grow.drewN ?_ _ | (with_reducible refine Grow.setCell ?_ ?hp _; (case hp => (simp; try omega))) | with_reducible refine Grow.trans ?_ (by assumption))))).mono ?_); (rintro e u8 ⟨q8, r8, z8, x8, rfl, hq8, hr8, hb8⟩; obtain ⟨s8, a8, l8, c8, rfl⟩ := hq8.form; obtain ⟨s9, a9, l9, c9, rfl⟩ := hr8.form; have HQ8 := Lib.hid hq8; have HR8 := Lib.hid hr8; clear hq8 hr8))
    have hq9 := BxV.layI HQ8.out 34
    have hg9 : Grow wr ((u8.alloc (.cells #[.bool s8, .slice a8 l8 c8] 34)).alloc (.cells #[.bool s9, .slice a9 l9 c9] 34)) := by (repeat (first | with_reducible exact Grow.refl _ | with_reducible refine Grow.alloc ?_ _ | with_reducible refine Grow.drew ?_ | with_reducible refine Grow.drewN ?_ _ | (with_reducible refine Grow.setCell ?_ ?hp _; (case hp => (simp; try omega))) | with_reducible refine Grow.trans ?_ (by assumption)))
    have hq9 := hq9.grow ((Grow.refl _).alloc (.cells #[.bool s9, .slice a9 l9 c9] 34))
    obtain ⟨w9, hw9⟩ : ∃ w9, (u8.alloc (.cells #[.bool s8, .slice a8 l8 c8] 34)).alloc (.cells #[.bool s9, .slice a9 l9 c9] 34) = w9 := ⟨_, rfl⟩
    obtain ⟨Y, hY⟩ : ∃ Y, u8.heap.size = Y := ⟨_, rfl⟩
    rw [hw9] at hq9 hg9 ⊢
    rw [hY] at hq9 ⊢
    have HQ9 := Lib.hid hq9
    have HG9 := Lib.hid (HG.out.trans hg9)
    have HX9 := Lib.hid (HX.out.grow hg9)
    have HT9 := Lib.hid (HT.out.grow hg9)
    clear hw9 hY hq9 hg9 HQ8 HR8 hb8 DM XC TC KC hcX hcT hvX hvT p0 p1 p2 p3 k0 k1 k2 k3 HX HT HG
    obtain ⟨sx, ax, lx, cx, hcX, hvX⟩ := int_cells HX9.out
    obtain ⟨st, at', lt, ct, hcT, hvT⟩ := int_cells HT9.out
    obtain ⟨sq, aq, lq, cq, hcQ, hvQ⟩ := int_cells HQ9.out
    have XC := Lib.hid hcX
    have TC := Lib.hid hcT
    have QC := Lib.hid hcQ
    have KC := Lib.hid (fun u (hu : Grow w9 u) => K1.out u (HG9.out.trans hu))
    have hdl : n / gk ≤ 1000000000 := Nat.le_trans (Nat.div_le_self _ _) hn
    obtain ⟨dq, hdq⟩ : ∃ dq, n / gk = dq := ⟨_, rfl⟩
    rw [hdq] at hdl hvQ
    have AD := Lib.hid (fun (u : World) (hu : Grow w9 u) => addV (gk : Int) (dq : Int) _ _ (by omega) u (hvX.grow hu) (hvQ.grow hu))
    rw [← Int.natCast_add] at AD
    have D2 := Lib.hid (fun (u : World) (v : Value) (hv : IntR u v ((gk + dq : Nat) : Int)) (hu : Grow w9 u) => dmN (gk + dq) 2 v _ u hv (hvT.grow hu))
    clear hcX hcT hcQ hvX hvT hvQ
    have HDQ := Lib.hid hdq
    have HDL := Lib.hid hdl
    clear hdl hdq
    go_upto_region 6 with fail
    refine region_flex (id := 6) w9 [⟨9, 11, .cells #[.bool false, .slice none 0 0] 34⟩, ⟨10, 12, .cells #[.bool false, .slice none 0 0] 34⟩] [0, 1, 3, 2, 4, 5, 6, 7, 8] [11, 12, 13] (kdL [1, 1, 2, 1, 2, 0, 0, 0, 0, 2, 2, 3, 3, 0]) (by kernel_rfl) (by kernel_rfl) (fun t ht => kdL_lt _ t ht) (by simp) (by simp) ?hgq ?halq ?_
    case hgq => (repeat (first | with_reducible exact Grow.refl _ | with_reducible refine Grow.alloc ?_ _ | with_reducible refine Grow.drew ?_ | with_reducible refine Grow.drewN ?_ _ | (with_reducible refine Grow.setCell ?_ ?hp _; (case hp => (simp; try omega))) | with_reducible refine Grow.trans ?_ (by assumption)))
    case halq => (intro x hx; simp only [List.mem_cons, List.not_mem_nil, or_false] at hx; rcases hx with rfl | rfl; all_goals (refine ⟨⟨_, rfl, rfl⟩, fun K a u hK => ?_⟩; refine wpOp_step rfl (fun K' hK' => ?_); go_simp; exact hK' _ _ hK))
    refine flex_read (v := ?vq0) rfl rfl (fun t => Or.inl ⟨by rfl, ?hyq0⟩) ?_
    case hyq0 => (intro u hu; obtain ⟨f0, f1, f2, f3⟩ := XC.out u hu; obtain ⟨g0, g1, g2, g3⟩ := TC.out u hu; obtain ⟨q0, q1, q2, q3⟩ := QC.out u hu; simp only [aof, List.foldl_cons, List.foldl_nil, Act.put, List.setIfInBounds_toArray, List.set_cons_zero, List.set_cons_succ]; go_simp; (try with_reducible rfl))
    (try simp only [Act.put, List.setIfInBounds_toArray, List.set_cons_zero, List.set_cons_succ])
    refine flex_read (v := ?vq1) rfl rfl (fun t => Or.inl ⟨by rfl, ?hyq1⟩) ?_
    case hyq1 => (intro u hu; obtain ⟨f0, f1, f2, f3⟩ := XC.out u hu; obtain ⟨g0, g1, g2, g3⟩ := TC.out u hu; obtain ⟨q0, q1, q2, q3⟩ := QC.out u hu; simp only [aof, List.foldl_cons, List.foldl_nil, Act.put, List.setIfInBounds_toArray, List.set_cons_zero, List.set_cons_succ]; go_simp; (try with_reducible rfl))
    (try simp only [Act.put, List.setIfInBounds_toArray, List.set_cons_zero, List.set_cons_succ])
    refine flex_read (v := ?vq3) rfl rfl (fun t => Or.inl ⟨by rfl, ?hyq3⟩) ?_
    case hyq3 => (intro u hu; obtain ⟨f0, f1, f2, f3⟩ := XC.out u hu; obtain ⟨g0, g1, g2, g3⟩ := TC.out u hu; obtain ⟨q0, q1, q2, q3⟩ := QC.out u hu; simp only [aof, List.foldl_cons, List.foldl_nil, Act.put, List.setIfInBounds_toArray, List.set_cons_zero, List.set_cons_succ]; go_simp; (try with_reducible rfl))
    (try simp only [Act.put, List.setIfInBounds_toArray, List.set_cons_zero, List.set_cons_succ])
    refine flex_op rfl rfl (fun t2 u2 hu2 K hK => ?_)
    simp only [aof, List.foldl_cons, List.foldl_nil, Act.put, List.setIfInBounds_toArray, List.set_cons_zero, List.set_cons_succ]
    go_simp
    (go_at_call 58; (with_reducible refine (AD.out _ (by (repeat (first | with_reducible exact Grow.refl _ | with_reducible refine Grow.alloc ?_ _ | with_reducible refine Grow.drew ?_ | with_reducible refine Grow.drewN ?_ _ | (with_reducible refine Grow.setCell ?_ ?hp _; (case hp => (simp; try omega))) | with_reducible refine Grow.trans ?_ (by assumption))))).mono ?_); (rintro e u10 ⟨v10, rfl, hv10, hb10⟩; obtain ⟨s10, a10, l10, c10, rfl⟩ := hv10.form; have HV10 := Lib.hid hv10; clear hv10))
    (try go_wp2_with fail)
    refine hK.out _ (.agg #[.bool s10, .slice a10 l10 c10]) _ ?heq2 ?hgq2 ?_
    case heq2 => (simp only [aof, List.foldl_cons, List.foldl_nil, Act.put, List.setIfInBounds_toArray, List.set_cons_zero, List.set_cons_succ])
    case hgq2 => (repeat (first | with_reducible exact Grow.refl _ | with_reducible refine Grow.alloc ?_ _ | with_reducible refine Grow.drew ?_ | with_reducible refine Grow.drewN ?_ _ | (with_reducible refine Grow.setCell ?_ ?hp _; (case hp => (simp; try omega))) | with_reducible refine Grow.trans ?_ (by assumption)))
    clear hK K t2
    (try simp only [Act.put, List.setIfInBounds_toArray, List.set_cons_zero, List.set_cons_succ])
    refine flex_op rfl rfl (fun t4 u4 hu4 K hK => ?_)
    simp only [aof, List.foldl_cons, List.foldl_nil, Act.put, List.setIfInBounds_toArray, List.set_cons_zero, List.set_cons_succ]
    go_simp
    (go_at_call 103; (with_reducible refine (D2.out _ _ (HV10.out.grow (by (repeat (first | with_reducible exact Grow.refl _ | with_reducible refine Grow.alloc ?_ _ | with_reducible refine Grow.drew ?_ | with_reducible refine Grow.drewN ?_ _ | (with_reducible refine Grow.setCell ?_ ?hp _; (case hp => (simp; try omega))) | with_reducible refine Grow.trans ?_ (by assumption))))) (by (repeat (first | with_reducible exact Grow.refl _ | with_reducible refine Grow.alloc ?_ _ | with_reducible refine Grow.drew ?_ | with_reducible refine Grow.drewN ?_ _ | (with_reducible refine Grow.setCell ?_ ?hp _; (case hp => (simp; try omega))) | with_reducible refine Grow.trans ?_ (by assumption))))).mono ?_); (rintro e u11 ⟨q11, r11, z11, x11, rfl, hq11, hr11, hb11⟩; obtain ⟨s11, a11, l11, c11, rfl⟩ := hq11.form; obtain ⟨s12, a12, l12, c12, rfl⟩ := hr11.form; have HQ11 := Lib.hid hq11; have HR11 := Lib.hid hr11; clear hq11 hr11))
    (try go_wp2_with fail)
    refine hK.out _ (.tuple #[.agg #[.bool s11, .slice a11 l11 c11], .agg #[.bool s12, .slice a12 l12 c12], .int .i64 x11]) _ ?heq4 ?hgq4 ?_
    case heq4 => (simp only [aof, List.foldl_cons, List.foldl_nil, Act.put, List.setIfInBounds_toArray, List.set_cons_zero, List.set_cons_succ])
    case hgq4 => (repeat (first | with_reducible exact Grow.refl _ | with_reducible refine Grow.alloc ?_ _ | with_reducible refine Grow.drew ?_ | with_reducible refine Grow.drewN ?_ _ | (with_reducible refine Grow.setCell ?_ ?hp _; (case hp => (simp; try omega))) | with_reducible refine Grow.trans ?_ (by assumption)))
    clear hK K t4
    (try simp only [Act.put, List.setIfInBounds_toArray, List.set_cons_zero, List.set_cons_succ])
    refine flex_quiet (v := ?vq5) rfl rfl (fun t => Or.inl ⟨by rfl, ?hyq5⟩) ?_
    case hyq5 => (intro u hu; simp only [aof, List.foldl_cons, List.foldl_nil, Act.put, List.setIfInBounds_toArray, List.set_cons_zero, List.set_cons_succ]; go_simp; (try with_reducible rfl))
    (try simp only [Act.put, List.setIfInBounds_toArray, List.set_cons_zero, List.set_cons_succ])
    refine flex_quiet (v := ?vq6) rfl rfl (fun t => Or.inl ⟨by rfl, ?hyq6⟩) ?_
    case hyq6 => (intro u hu; simp only [aof, List.foldl_cons, List.foldl_nil, Act.put, List.setIfInBounds_toArray, List.set_cons_zero, List.set_cons_succ]; go_simp; (try with_reducible rfl))
    (try simp only [Act.put, List.setIfInBounds_toArray, List.set_cons_zero, List.set_cons_succ])
    refine flex_quiet (v := ?vq7) rfl rfl (fun t => Or.inl ⟨by rfl, ?hyq7⟩) ?_
    case hyq7 => (intro u hu; simp only [aof, List.foldl_cons, List.foldl_nil, Act.put, List.setIfInBounds_toArray, List.set_cons_zero, List.set_cons_succ]; go_simp; (try with_reducible rfl))
    (try simp only [Act.put, List.setIfInBounds_toArray, List.set_cons_zero, List.set_cons_succ])
    refine flex_quiet (v := ?vq8) rfl rfl (fun t => Or.inl ⟨by rfl, ?hyq8⟩) ?_
    case hyq8 => (intro u hu; simp only [aof, List.foldl_cons, List.foldl_nil, Act.put, List.setIfInBounds_toArray, List.set_cons_zero, List.set_cons_succ]; go_simp; (try with_reducible rfl))
    (try simp only [Act.put, List.setIfInBounds_toArray, List.set_cons_zero, List.set_cons_succ])
    refine flex_done (fun Fq uq huq hFq hNq => ?_)
    have hFq0 := hFq ⟨9, 11, .cells #[.bool false, .slice none 0 0] 34⟩ (by simp)
    have hFq1 := hFq ⟨10, 12, .cells #[.bool false, .slice none 0 0] 34⟩ (by simp)
    have hNq0 : Fq 9 ≠ Fq 10 := hNq ⟨9, 11, .cells #[.bool false, .slice none 0 0] 34⟩ (by simp) ⟨10, 12, .cells #[.bool false, .slice none 0 0] 34⟩ (by simp) (by simp)
    clear hFq hNq
    (try simp only [aof, List.foldl_cons, List.foldl_nil, Act.put, List.setIfInBounds_toArray, List.set_cons_zero, List.set_cons_succ, ptrX])
    generalize Fq 9 = Fbq0 at *
    generalize Fq 10 = Fbq1 at *
    clear Fq
    have hFY := hFq0
    obtain ⟨hFx, hF1, hF2, hF3⟩ := hFq0
    obtain ⟨o0, o1, of, oz⟩ := ak2 rfl _ hF3
    rw [hF2] at o0 o1 of oz
    have hFZ := hFq1
    obtain ⟨hGx, hG1, hG2, hG3⟩ := hFq1
    obtain ⟨r0, r1, rf, rz⟩ := ak2 rfl _ hG3
    rw [hG2] at r0 r1 rf rz
    refine held_last rfl rfl (fun K hK => ?_)
    go_simp
    refine hK.out _ _ ?_
    clear hK K
    (try simp only [Act.put])
    refine held_last rfl rfl (fun K hK => ?_)
    go_simp
    refine hK.out _ _ ?_
    clear hK K
    (try simp only [Act.put])
    refine held_quiet (v := ?vq13) rfl rfl (Or.inl ⟨by rfl, ?hyq13⟩) ?_
    case hyq13 => (intro u hu; go_simp; (try with_reducible rfl))
    (try simp only [Act.put])
    refine held_done ?_
    obtain ⟨hy1, hy2, hy3⟩ := hFY.putI (HQ11.out.grow huq)
    have hz1 := (FrX.zero hFZ).offI s11 (.slice a11 l11 c11) (FrX.zero hFY).2.1 hNq0
    have hy4 := hy2.offI s12 (.slice a12 l12 c12) hz1.2.1 (Ne.symm hNq0)
    have hz3 : w9.heap.size ≤ Fbq1 := by rw [← hG2]; exact hG1.size
    have hgw : Grow w9 ((((uq.setCell ⟨Fbq0, 0, none⟩ (.bool s11)).setCell ⟨Fbq0, 1, none⟩ (.slice a11 l11 c11)).setCell ⟨Fbq1, 0, none⟩ (.bool s12)).setCell ⟨Fbq1, 1, none⟩ (.slice a12 l12 c12)) := (hy1.setCell hz3 _).setCell hz3 _
    obtain ⟨w12, hw12⟩ : ∃ w12, (((uq.setCell ⟨Fbq0, 0, none⟩ (.bool s11)).setCell ⟨Fbq0, 1, none⟩ (.slice a11 l11 c11)).setCell ⟨Fbq1, 0, none⟩ (.bool s12)).setCell ⟨Fbq1, 1, none⟩ (.slice a12 l12 c12) = w12 := ⟨_, rfl⟩
    rw [hw12] at hy4 hgw ⊢
    obtain ⟨yn, hyn⟩ : ∃ yn, (gk + dq) / 2 = yn := ⟨_, rfl⟩
    rw [hyn] at hy4
    have HY := Lib.hid hy4
    have HX := Lib.hid (HX9.out.grow hgw)
    have HT := Lib.hid (HT9.out.grow hgw)
    have HG := Lib.hid (HG9.out.trans hgw)
    have HYN := Lib.hid hyn
    clear hyn hw12 hgw hz3 hy4 hz1 hy1 hy2 hy3 hFY hFZ HQ11 HR11 huq o0 o1 of oz r0 r1 rf rz hFx hF1 hF2 hF3 hGx hG1 hG2 hG3 HQ9 HX9 HT9 HG9 XC TC QC KC AD D2 HV10 hb10 hb11 hNq0
    generalize Fbq0 = Yb at *
    obtain ⟨sx, ax, lx, cx, hcX, hvX⟩ := int_cells HX.out
    obtain ⟨sy, ay, ly, cy, hcY, hvY⟩ := int_cells HY.out
    have XC := Lib.hid hcX
    have YC := Lib.hid hcY
    have CM := Lib.hid (fun (u : World) (hu : Grow w12 u) => cmpNV yn gk _ _ u (hvY.grow hu) (hvX.grow hu))
    obtain ⟨p0, p1, p2, p3⟩ := hcX w12 (Grow.refl _)
    obtain ⟨q0, q1, q2, q3⟩ := hcY w12 (Grow.refl _)
    clear hcX hcY
    by_cases hlt : yn < gk
    · have hcm : cmpN yn gk = -1 := by unfold cmpN; rw [if_pos hlt]
      rw [hcm] at CM
      clear hcm
      go_upto_region 8 with (go_at_call 116; (with_reducible refine (CM.out _ (by (repeat (first | with_reducible exact Grow.refl _ | with_reducible refine Grow.alloc ?_ _ | with_reducible refine Grow.drew ?_ | with_reducible refine Grow.drewN ?_ _ | (with_reducible refine Grow.setCell ?_ ?hp _; (case hp => (simp; try omega))) | with_reducible refine Grow.trans ?_ (by assumption))))).mono ?_); (rintro e u13 ⟨rfl, hb13⟩))
      obtain ⟨m0, m1, m2, m3⟩ := YC.out u13 (by (repeat (first | with_reducible exact Grow.refl _ | with_reducible refine Grow.alloc ?_ _ | with_reducible refine Grow.drew ?_ | with_reducible refine Grow.drewN ?_ _ | (with_reducible refine Grow.setCell ?_ ?hp _; (case hp => (simp; try omega))) | with_reducible refine Grow.trans ?_ (by assumption))))
      obtain ⟨k0, k1, k2, k3⟩ := XC.out u13 (by (repeat (first | with_reducible exact Grow.refl _ | with_reducible refine Grow.alloc ?_ _ | with_reducible refine Grow.drew ?_ | with_reducible refine Grow.drewN ?_ _ | (with_reducible refine Grow.setCell ?_ ?hp _; (case hp => (simp; try omega))) | with_reducible refine Grow.trans ?_ (by assumption))))
      have HVY := Lib.hid hvY
      clear hvY hvX
      go_wp2_with fail
      go_roundg yn
      case measure => exact hlt
      case rel =>
        refine ⟨Lib.hid ((HX.out.grow hb13).putI (HVY.out.grow hb13)), Lib.hid ((HT.out.grow hb13).offI _ _ (HX.out.grow hb13).2.1 hXT), Lib.hid ?_, by omega, Lib.hid (((HG.out.trans hb13).setCell hX _).setCell hX _)⟩
        rw [← HYN.out, ← HDQ.out]
        exact newton_ge (by omega) (sqN_spec (n := n) (by omega)).1
    · have hcm : 0 ≤ cmpN yn gk := by unfold cmpN; rw [if_neg hlt]; split <;> decide
      have hroot : sqN n = gk := by
        have h1 := HS.out
        by_cases h0 : gk = 0
        · omega
        · have h2 := newton_stop (n := n) (x := gk) (s := sqN n) (by omega) (sqN_spec (n := n) (by omega)).2 (by rw [HDQ.out, HYN.out]; omega)
          omega
      have hsq : gk * gk ≤ n := by rw [← hroot]; exact (sqN_spec (n := n) (by omega)).1
      obtain ⟨cm, hcmn⟩ : ∃ cm, cmpN yn gk = cm := ⟨_, rfl⟩
      rw [hcmn] at CM hcm
      have yc : decide (cm ≥ 0) = true := by simp; omega
      have ML := Lib.hid (fun (u : World) (hu : Grow w12 u) => mulV (gk : Int) (gk : Int) _ _ (by rw [← Int.natCast_mul]; omega) u (hvX.grow hu) (hvX.grow hu))
      rw [← Int.natCast_mul] at ML
      have C2 := Lib.hid (fun (u : World) (v : Value) (hv : IntR u v ((gk * gk : Nat) : Int)) (hu : Grow w12 u) => cmpNV (gk * gk) n v _ u hv (H1.out.grow ((G2.out.trans HG.out).trans hu)))
      obtain ⟨c2', hc2'⟩ : ∃ c, cmpN (gk * gk) n = c := ⟨_, rfl⟩
      rw [hc2'] at C2
      have KC := Lib.hid (fun u (hu : Grow w12 u) => K1.out u (HG.out.trans hu))
      have HRT := Lib.hid hroot
      have HVX := Lib.hid hvX
      clear hcmn hcm hlt hroot hsq hc2' hvX hvY
      go_upto_region 9 with (go_at_call 116; (with_reducible refine (CM.out _ (by (repeat (first | with_reducible exact Grow.refl _ | with_reducible refine Grow.alloc ?_ _ | with_reducible refine Grow.drew ?_ | with_reducible refine Grow.drewN ?_ _ | (with_reducible refine Grow.setCell ?_ ?hp _; (case hp => (simp; try omega))) | with_reducible refine Grow.trans ?_ (by assumption))))).mono ?_); (rintro e u13 ⟨rfl, hb13⟩))
      have RB2 := Lib.hid (RB.out.grow (HG.out.trans hb13))
      have XC2 := Lib.hid (fun u (hu : Grow u13 u) => XC.out u (hb13.trans hu))
      have KC2 := Lib.hid (fun u (hu : Grow u13 u) => KC.out u (hb13.trans hu))
      have ML2 := Lib.hid (fun u (hu : Grow u13 u) => ML.out u (hb13.trans hu))
      have C3 := Lib.hid (fun u v hv (hu : Grow u13 u) => C2.out u v hv (hb13.trans hu))
      have HG13 := Lib.hid (HG.out.trans hb13)
      have HV13 := Lib.hid (HVX.out.grow hb13)
      clear XC KC ML C2 CM HVX HG p0 p1 p2 p3 q0 q1 q2 q3 YC yc HX HY HT HS HYN HDQ HDL hb13
      refine region_held (id := 9) (fun u => Grow u13 u) [0, 1, 2, 4, 3, 5, 6, 7, 8, 9] (kdL [1, 1, 1, 2, 1, 2, 0, 3, 0, 0]) (by kernel_rfl) (by kernel_rfl) (fun t ht => kdL_lt _ t ht) ?hS0r ?_
      case hS0r => ((try dsimp only); (repeat (first | with_reducible exact Grow.refl _ | with_reducible refine Grow.alloc ?_ _ | with_reducible refine Grow.drew ?_ | with_reducible refine Grow.drewN ?_ _ | (with_reducible refine Grow.setCell ?_ ?hp _; (case hp => (simp; try omega))) | with_reducible refine Grow.trans ?_ (by assumption))))
      refine held_read (v := ?vr0) rfl rfl (Or.inl ⟨by rfl, ?hyr0⟩) ?_
      case hyr0 => (intro u hu; obtain ⟨f0, f1, f2, f3⟩ := XC2.out u (by (repeat (first | with_reducible exact Grow.refl _ | with_reducible refine Grow.alloc ?_ _ | with_reducible refine Grow.drew ?_ | with_reducible refine Grow.drewN ?_ _ | (with_reducible refine Grow.setCell ?_ ?hp _; (case hp => (simp; try omega))) | with_reducible refine Grow.trans ?_ (by assumption)))); obtain ⟨g0, g1, g2, g3⟩ := KC2.out u (by (repeat (first | with_reducible exact Grow.refl _ | with_reducible refine Grow.alloc ?_ _ | with_reducible refine Grow.drew ?_ | with_reducible refine Grow.drewN ?_ _ | (with_reducible refine Grow.setCell ?_ ?hp _; (case hp => (simp; try omega))) | with_reducible refine Grow.trans ?_ (by assumption)))); go_simp; (try with_reducible rfl))
      (try simp only [Act.put, List.setIfInBounds_toArray])
      refine held_read (v := ?vr1) rfl rfl (Or.inl ⟨by rfl, ?hyr1⟩) ?_
      case hyr1 => (intro u hu; obtain ⟨f0, f1, f2, f3⟩ := XC2.out u (by (repeat (first | with_reducible exact Grow.refl _ | with_reducible refine Grow.alloc ?_ _ | with_reducible refine Grow.drew ?_ | with_reducible refine Grow.drewN ?_ _ | (with_reducible refine Grow.setCell ?_ ?hp _; (case hp => (simp; try omega))) | with_reducible refine Grow.trans ?_ (by assumption)))); obtain ⟨g0, g1, g2, g3⟩ := KC2.out u (by (repeat (first | with_reducible exact Grow.refl _ | with_reducible refine Grow.alloc ?_ _ | with_reducible refine Grow.drew ?_ | with_reducible refine Grow.drewN ?_ _ | (with_reducible refine Grow.setCell ?_ ?hp _; (case hp => (simp; try omega))) | with_reducible refine Grow.trans ?_ (by assumption)))); go_simp; (try with_reducible rfl))
      (try simp only [Act.put])
      refine held_read (v := ?vr2) rfl rfl (Or.inl ⟨by rfl, ?hyr2⟩) ?_
      case hyr2 => (intro u hu; obtain ⟨f0, f1, f2, f3⟩ := XC2.out u (by (repeat (first | with_reducible exact Grow.refl _ | with_reducible refine Grow.alloc ?_ _ | with_reducible refine Grow.drew ?_ | with_reducible refine Grow.drewN ?_ _ | (with_reducible refine Grow.setCell ?_ ?hp _; (case hp => (simp; try omega))) | with_reducible refine Grow.trans ?_ (by assumption)))); obtain ⟨g0, g1, g2, g3⟩ := KC2.out u (by (repeat (first | with_reducible exact Grow.refl _ | with_reducible refine Grow.alloc ?_ _ | with_reducible refine Grow.drew ?_ | with_reducible refine Grow.drewN ?_ _ | (with_reducible refine Grow.setCell ?_ ?hp _; (case hp => (simp; try omega))) | with_reducible refine Grow.trans ?_ (by assumption)))); go_simp; (try with_reducible rfl))
      (try simp only [Act.put])
      refine held_read (v := ?vr4) rfl rfl (Or.inl ⟨by rfl, ?hyr4⟩) ?_
      case hyr4 => (intro u hu; obtain ⟨f0, f1, f2, f3⟩ := XC2.out u (by (repeat (first | with_reducible exact Grow.refl _ | with_reducible refine Grow.alloc ?_ _ | with_reducible refine Grow.drew ?_ | with_reducible refine Grow.drewN ?_ _ | (with_reducible refine Grow.setCell ?_ ?hp _; (case hp => (simp; try omega))) | with_reducible refine Grow.trans ?_ (by assumption)))); obtain ⟨g0, g1, g2, g3⟩ := KC2.out u (by (repeat (first | with_reducible exact Grow.refl _ | with_reducible refine Grow.alloc ?_ _ | with_reducible refine Grow.drew ?_ | with_reducible refine Grow.drewN ?_ _ | (with_reducible refine Grow.setCell ?_ ?hp _; (case hp => (simp; try omega))) | with_reducible refine Grow.trans ?_ (by assumption)))); go_simp; (try with_reducible rfl))
      (try simp only [Act.put])
      refine held_op rfl rfl (fun K hK => ?_)
      go_simp
      (go_at_call 38; (with_reducible refine (ML2.out _ (by (repeat (first | with_reducible exact Grow.refl _ | with_reducible refine Grow.alloc ?_ _ | with_reducible refine Grow.drew ?_ | with_reducible refine Grow.drewN ?_ _ | (with_reducible refine Grow.setCell ?_ ?hp _; (case hp => (simp; try omega))) | with_reducible refine Grow.trans ?_ (by assumption))))).mono ?_); (rintro e u14 ⟨v14, rfl, hv14, hb14⟩; obtain ⟨s14, a14, l14, c14, rfl⟩ := hv14.form; have HV14 := Lib.hid hv14; clear hv14))
      (try go_wp2_with fail)
      refine hK.out _ _ ?hSr3 ?_
      case hSr3 => ((try dsimp only); (repeat (first | with_reducible exact Grow.refl _ | with_reducible refine Grow.alloc ?_ _ | with_reducible refine Grow.drew ?_ | with_reducible refine Grow.drewN ?_ _ | (with_reducible refine Grow.setCell ?_ ?hp _; (case hp => (simp; try omega))) | with_reducible refine Grow.trans ?_ (by assumption))))
      clear hK K
      (try simp only [Act.put])
      refine held_op rfl rfl (fun K hK => ?_)
      go_simp
      (go_at_call 116; (with_reducible refine (C3.out _ _ (HV14.out.grow (by (repeat (first | with_reducible exact Grow.refl _ | with_reducible refine Grow.alloc ?_ _ | with_reducible refine Grow.drew ?_ | with_reducible refine Grow.drewN ?_ _ | (with_reducible refine Grow.setCell ?_ ?hp _; (case hp => (simp; try omega))) | with_reducible refine Grow.trans ?_ (by assumption))))) (by (repeat (first | with_reducible exact Grow.refl _ | with_reducible refine Grow.alloc ?_ _ | with_reducible refine Grow.drew ?_ | with_reducible refine Grow.drewN ?_ _ | (with_reducible refine Grow.setCell ?_ ?hp _; (case hp => (simp; try omega))) | with_reducible refine Grow.trans ?_ (by assumption))))).mono ?_); (rintro e u15 ⟨rfl, hb15⟩; obtain ⟨sr, ar, lr, cr, hcR, -⟩ := int_cells (RB2.out.grow (show Grow u13 u15 by (repeat (first | with_reducible exact Grow.refl _ | with_reducible refine Grow.alloc ?_ _ | with_reducible refine Grow.drew ?_ | with_reducible refine Grow.drewN ?_ _ | (with_reducible refine Grow.setCell ?_ ?hp _; (case hp => (simp; try omega))) | with_reducible refine Grow.trans ?_ (by assumption))))); obtain ⟨r0, r1, r2, r3⟩ := hcR u15 (Grow.refl _); clear hcR))
      (try go_wp2_with fail)
      refine hK.out _ _ ?hSr5 ?_
      case hSr5 => ((try dsimp only); (repeat (first | with_reducible exact Grow.refl _ | with_reducible refine Grow.alloc ?_ _ | with_reducible refine Grow.drew ?_ | with_reducible refine Grow.drewN ?_ _ | (with_reducible refine Grow.setCell ?_ ?hp _; (case hp => (simp; try omega))) | with_reducible refine Grow.trans ?_ (by assumption))))
      clear hK K
      (try simp only [Act.put])
      refine held_quiet (v := ?vr6) rfl rfl (Or.inl ⟨by rfl, ?hyr6⟩) ?_
      case hyr6 => (intro u hu; go_simp; (try with_reducible rfl))
      (try simp only [Act.put])
      refine held_last rfl rfl (fun K hK => ?_)
      go_simp
      refine hK.out _ _ ?_
      clear hK K
      (try simp only [Act.put])
      refine held_quiet (v := ?vr8) rfl rfl (Or.inl ⟨by rfl, ?hyr8⟩) ?_
      case hyr8 => (intro u hu; go_simp; (try with_reducible rfl))
      (try simp only [Act.put])
      refine held_quiet (v := ?vr9) rfl rfl (Or.inl ⟨by rfl, ?hyr9⟩) ?_
      case hyr9 => (intro u hu; go_simp; (try with_reducible rfl))
      (try simp only [Act.put])
      refine held_done ?_
      have hg9 : Grow u13 u15 := by (repeat (first | with_reducible exact Grow.refl _ | with_reducible refine Grow.alloc ?_ _ | with_reducible refine Grow.drew ?_ | with_reducible refine Grow.drewN ?_ _ | (with_reducible refine Grow.setCell ?_ ?hp _; (case hp => (simp; try omega))) | with_reducible refine Grow.trans ?_ (by assumption)))
      have hv := (HV13.out.grow hg9).set2 (RB2.out.grow hg9).2.1 0 1 (.bool sx) (.slice ax lx cx)
      have hgF : Grow w ((u15.setCell ⟨w.heap.size + 1, 0, none⟩ (.bool sx)).setCell ⟨w.heap.size + 1, 1, none⟩ (.slice ax lx cx)) := (((G2.out.trans HG13.out).trans hg9).setCell (by show w.heap.size ≤ w.heap.size + 1; omega) _).setCell (by show w.heap.size ≤ w.heap.size + 1; omega) _
      rw [← HRT.out] at hv
      go_wp2_with fail
      exact bodyPost_ret (v := .tuple #[.agg #[.bool sx, .slice ax lx cx], .bool (c2' == 0), .int .i64 0]) (by rw [results_ctt rfl]; go_simp) rfl ⟨_, _, rfl, hv, hgF⟩
end Go.Proofs.YtbpkfcohbefphaaGreat
