/- Lemmas, plain laws and walks that the statement LwKronecker leans on (texts KhZ, KhJ, FaA, RwG, RwI, RwJ, RwM, RwU, RwN, RwP, SeA, RwS, QiA), conditions as each theorem says. -/
import Derived.Test.YtbpkfcohbefphaaGreatDoorTopKhG01
import Derived.Test.YtbpkfcohbefphaaGreatDoorTopKhG07
import Derived.Test.YtbpkfcohbefphaaGreatDoorTopKhG16
import Derived.Test.YtbpkfcohbefphaaGreatDoorTopKhG17

namespace Go.Proofs.YtbpkfcohbefphaaGreatDoor
/-- Twelve times the Hurwitz class number. -/
def h12 (m : Nat) : Int := if m = 0 then -1 else 2 * (hwN m : Int)
def gK (n t : Nat) : Int := if 4 * n < t * t then 0 else h12 (4 * n - t * t)
def GK (n : Nat) : Nat → Int
  | 0 => 0
  | k + 1 => GK n k + gK n (k + 1)
/-- The sum of the first j rounds, t from -2n on. -/
def khP (n : Nat) : Nat → Int
  | 0 => 0
  | j + 1 => khP n j + gK n (if j ≤ 2 * n then 2 * n - j else j - 2 * n)
theorem khP_low (n : Nat) : ∀ j, j ≤ 2 * n → khP n j + GK n (2 * n - j) = GK n (2 * n)
  | 0, _ => by simp [khP]
  | j + 1, h => by
    have h1 := khP_low n j (by omega)
    unfold khP
    rw [if_pos (by omega)]
    obtain ⟨m, hm⟩ : ∃ m, 2 * n - j = m + 1 := ⟨2 * n - j - 1, by omega⟩
    rw [show 2 * n - (j + 1) = m by omega, hm]
    rw [hm] at h1
    have h2 : GK n (m + 1) = GK n m + gK n (m + 1) := rfl
    omega
theorem khP_high (n : Nat) : ∀ k, khP n (2 * n + 1 + k) = GK n (2 * n) + gK n 0 + GK n k
  | 0 => by
    have h1 := khP_low n (2 * n) (Nat.le_refl _)
    rw [Nat.sub_self] at h1
    show khP n (2 * n) + gK n (if 2 * n ≤ 2 * n then 2 * n - 2 * n else 2 * n - 2 * n) = _
    rw [if_pos (Nat.le_refl _), Nat.sub_self]
    have h2 : GK n 0 = 0 := rfl
    omega
  | k + 1 => by
    have h1 := khP_high n k
    show khP n (2 * n + 1 + k) + gK n (if 2 * n + 1 + k ≤ 2 * n then 2 * n - (2 * n + 1 + k) else 2 * n + 1 + k - 2 * n) = _
    rw [if_neg (by omega), show 2 * n + 1 + k - 2 * n = k + 1 by omega, h1]
    show _ = GK n (2 * n) + gK n 0 + (GK n k + gK n (k + 1))
    omega
theorem khP_all (n : Nat) : khP n (4 * n + 1) = 2 * GK n (2 * n) + gK n 0 := by
  have h := khP_high n (2 * n)
  rw [show 2 * n + 1 + 2 * n = 4 * n + 1 by omega] at h
  omega
end Go.Proofs.YtbpkfcohbefphaaGreatDoor
namespace Go.Proofs.YtbpkfcohbefphaaGreatDoor
theorem hwA_zero : hwA 0 = 0 := by decide +kernel
theorem gK_in (n t : Nat) (hn : n ≤ 1000) (h : t * t ≤ 4 * n) : gK n t = 2 * ((hwA (4 * n - t * t) : Nat) : Int) - (if t * t = 4 * n then 1 else 0) := by
  unfold gK h12
  rw [if_neg (by omega)]
  by_cases h1 : t * t = 4 * n
  · rw [if_pos (by omega), if_pos h1, h1, Nat.sub_self, hwA_zero]; rfl
  · rw [if_neg (by omega), if_neg h1, hwN_tab _ (by omega)]; omega
theorem GK_in (n : Nat) (hn : n ≤ 1000) : ∀ k, k * k ≤ 4 * n → GK n k = 2 * ((khS n k : Nat) : Int) - (if k * k = 4 * n ∧ 0 < k then 1 else 0)
  | 0, _ => by
    have h1 : khS n 0 = 0 := rfl
    have h2 : GK n 0 = 0 := rfl
    rw [h1, h2]; simp
  | k + 1, h => by
    have hlt : k * k < (k + 1) * (k + 1) := Nat.mul_self_lt_mul_self (Nat.lt_succ_self k)
    have h1 := GK_in n hn k (by omega)
    rw [if_neg (by omega)] at h1
    have h2 : GK n (k + 1) = GK n k + gK n (k + 1) := rfl
    have h3 : khS n (k + 1) = khS n k + hwA (4 * n - (k + 1) * (k + 1)) := rfl
    rw [h2, h1, gK_in n (k + 1) hn h, h3]
    by_cases h4 : (k + 1) * (k + 1) = 4 * n
    · rw [if_pos h4, if_pos ⟨h4, Nat.succ_pos k⟩]; omega
    · rw [if_neg h4, if_neg (fun h => h4 h.1)]; omega
theorem GK_out (n K : Nat) (h : 4 * n < (K + 1) * (K + 1)) : ∀ k, GK n (K + k) = GK n K
  | 0 => rfl
  | k + 1 => by
    have h1 := GK_out n K h k
    have h2 : GK n (K + (k + 1)) = GK n (K + k) + gK n (K + k + 1) := rfl
    have h3 : (K + 1) * (K + 1) ≤ (K + k + 1) * (K + k + 1) := Nat.mul_self_le_mul_self (by omega)
    have h4 : gK n (K + k + 1) = 0 := by unfold gK; rw [if_pos (by omega)]
    omega
theorem kh_law (n : Nat) (h1 : 1 ≤ n) (h2 : n ≤ 1000) : khP n (4 * n + 1) = 12 * ((khW n n : Nat) : Int) := by
  obtain ⟨k1, k2⟩ := sqN_spec (n := 4 * n) (by omega)
  have ht := Nat.eq_of_beq_eq_true (kh_tab n (by omega))
  obtain ⟨K, hK⟩ : ∃ K, sqN (4 * n) = K := ⟨_, rfl⟩
  rw [hK] at k1 k2 ht
  have hK2 : K ≤ 2 * n := by
    rcases Nat.lt_or_ge (2 * n) K with h | h
    · have h3 := Nat.mul_self_lt_mul_self h
      have h4 : 2 * n * (2 * n) = 4 * n * n := by rw [Nat.mul_mul_mul_comm, Nat.mul_assoc 4 n n]
      have h5 : 4 * n * 1 ≤ 4 * n * n := Nat.mul_le_mul_left _ h1
      omega
    · exact h
  have hK0 : 0 < K := by
    rcases Nat.eq_zero_or_pos K with h | h
    · rw [h] at k2; omega
    · exact h
  have hG : GK n (2 * n) = GK n K := by
    have := GK_out n K k2 (2 * n - K)
    rwa [show K + (2 * n - K) = 2 * n by omega] at this
  have hG2 := GK_in n h2 K k1
  have hg0 : gK n 0 = 2 * ((hwA (4 * n) : Nat) : Int) := by
    rw [gK_in n 0 h2 (by omega), if_neg (by omega)]; simp
  rw [khP_all, hG, hG2, hg0]
  by_cases hs : K * K = 4 * n
  · rw [if_pos ⟨hs, hK0⟩]
    have hb1 : Nat.beq (K * K) (4 * n) = true := by rw [hs]; exact Nat.beq_refl _
    have hb2 : Nat.beq n 0 = false := by cases n with
      | zero => omega
      | succ m => rfl
    rw [hb1, hb2] at ht
    simp only [cond_true, cond_false] at ht
    omega
  · rw [if_neg (fun h => hs h.1)]
    have hb1 : Nat.beq (K * K) (4 * n) = false := by
      cases hb : Nat.beq (K * K) (4 * n)
      · rfl
      · exact absurd (Nat.eq_of_beq_eq_true hb) hs
    rw [hb1] at ht
    simp only [cond_false] at ht
    omega
end Go.Proofs.YtbpkfcohbefphaaGreatDoor
namespace Go.Proofs.YtbpkfcohbefphaaGreatDoor
/-- Division by p as often as it goes. -/
def dvF (p : Nat) : Nat → Nat → Nat → Nat × Nat
  | 0, n, e => (n, e)
  | f + 1, n, e => if n % p = 0 then dvF p f (n / p) (e + 1) else (n, e)
def faP (n p : Nat) : Nat := if n < p * p then n else p
/-- The pairs of primes and exponents. -/
def faL : Nat → Nat → Nat → List (Nat × Nat)
  | 0, _, _ => []
  | f + 1, n, p => if 1 < n then (if 0 < (dvF (faP n p) 10 n 0).2 then [(faP n p, (dvF (faP n p) 10 n 0).2)] else []) ++ faL f (dvF (faP n p) 10 n 0).1 (faP n p + 1) else []
def okS {σ : Type} (ok : σ → Nat → Nat → Prop) (step : σ → Nat → Nat → σ) : List (Nat × Nat) → σ → Prop
  | [], _ => True
  | x :: l, s => ok s x.1 x.2 ∧ okS ok step l (step s x.1 x.2)
def foldS {σ : Type} (step : σ → Nat → Nat → σ) : List (Nat × Nat) → σ → σ
  | [], s => s
  | x :: l, s => foldS step l (step s x.1 x.2)
def okSB {σ : Type} (ok : σ → Nat → Nat → Bool) (step : σ → Nat → Nat → σ) : List (Nat × Nat) → σ → Bool
  | [], _ => true
  | x :: l, s => ok s x.1 x.2 && okSB ok step l (step s x.1 x.2)
theorem okS_of {σ : Type} {ok : σ → Nat → Nat → Bool} {step : σ → Nat → Nat → σ} : ∀ {l : List (Nat × Nat)} {s : σ}, okSB ok step l s = true → okS (fun s p e => ok s p e = true) step l s
  | [], _, _ => trivial
  | x :: l, s, h => by
    unfold okSB at h
    rw [Bool.and_eq_true] at h
    exact ⟨h.1, okS_of h.2⟩
theorem div_lt_two {n p f : Nat} (hp : 2 ≤ p) (h : n < 2 ^ (f + 1)) : n / p < 2 ^ f := by
  refine Nat.div_lt_of_lt_mul (Nat.lt_of_lt_of_le h ?_)
  rw [Nat.pow_succ, Nat.mul_comm]
  exact Nat.mul_le_mul_right _ hp
theorem dvF_end {p f n e : Nat} (h : ¬ n % p = 0) : dvF p f n e = (n, e) := by
  cases f with
  | zero => rfl
  | succ f => unfold dvF; rw [if_neg h]
theorem dvF_go {p f n e : Nat} (hp : 2 ≤ p) (h1 : 1 ≤ n) (hf : n < 2 ^ f) (h : n % p = 0) : ∃ g, f = g + 1 ∧ dvF p f n e = dvF p g (n / p) (e + 1) ∧ 1 ≤ n / p ∧ n / p < 2 ^ g := by
  cases f with
  | zero => simp at hf; omega
  | succ g =>
    refine ⟨g, rfl, by rw [dvF, if_pos h], ?_, div_lt_two hp hf⟩
    rcases Nat.eq_zero_or_pos (n / p) with h0 | h0
    · have := Nat.div_add_mod n p
      rw [h0, h] at this; omega
    · exact h0
theorem dvF_ge {p : Nat} (hp : 2 ≤ p) : ∀ (f n e : Nat), 1 ≤ n → n < 2 ^ f → 1 ≤ (dvF p f n e).1 ∧ (dvF p f n e).1 ≤ n ∧ (dvF p f n e).2 ≤ e + f
  | f, n, e, h1, hf => by
    by_cases h : n % p = 0
    · obtain ⟨g, rfl, h2, h3, h4⟩ := dvF_go (e := e) hp h1 hf h
      obtain ⟨a, b, c⟩ := dvF_ge hp g (n / p) (e + 1) h3 h4
      rw [h2]
      exact ⟨a, Nat.le_trans b (Nat.div_le_self _ _), by omega⟩
    · rw [dvF_end h]
      exact ⟨h1, Nat.le_refl _, by omega⟩
theorem dvF_self {n : Nat} (h : 2 ≤ n) : dvF n 10 n 0 = (1, 1) := by
  rw [dvF, if_pos (Nat.mod_self n), Nat.div_self (by omega), dvF_end (by rw [Nat.mod_eq_of_lt (by omega)]; omega)]
/-- What holds at the head of the loop. -/
def FaH (k n p : Nat) : Prop := 1 ≤ n ∧ n ≤ 1000 ∧ 2 ≤ p ∧ p ≤ 1001 ∧ (1 < n → p ≤ 32 ∧ 33 ≤ p + k)
theorem FaH.start {n : Nat} (h1 : 1 ≤ n) (h2 : n ≤ 1000) : FaH 33 n 2 := ⟨h1, h2, by omega, by omega, fun _ => ⟨by omega, by omega⟩⟩
theorem faP_bd {n p : Nat} (hn : 1 < n) (hn2 : n ≤ 1000) (hp : 2 ≤ p) (hp2 : p ≤ 1001) : 2 ≤ faP n p ∧ faP n p ≤ 1001 := by
  unfold faP; split <;> omega
theorem FaH.next {k n p : Nat} (h : FaH k n p) (hn : 1 < n) : ∃ g, k = g + 1 ∧ FaH g (dvF (faP n p) 10 n 0).1 (faP n p + 1) ∧ (dvF (faP n p) 10 n 0).2 ≤ 10 ∧
    faL k n p = (if 0 < (dvF (faP n p) 10 n 0).2 then [(faP n p, (dvF (faP n p) 10 n 0).2)] else []) ++ faL g (dvF (faP n p) 10 n 0).1 (faP n p + 1) := by
  obtain ⟨h1, h2, h3, h4, h5⟩ := h
  obtain ⟨h6, h7⟩ := h5 hn
  obtain ⟨b1, b2⟩ := faP_bd hn h2 h3 h4
  obtain ⟨g, rfl⟩ : ∃ g, k = g + 1 := ⟨k - 1, by omega⟩
  obtain ⟨c1, c2, c3⟩ := dvF_ge b1 10 n 0 h1 (by omega)
  refine ⟨g, rfl, ⟨c1, by omega, by omega, ?_, ?_⟩, by omega, by rw [faL, if_pos hn]⟩
  · unfold faP; split
    · by_cases h8 : n = 1000 ∨ n < 1000 <;> omega
    · omega
  · unfold faP
    by_cases h8 : n < p * p
    · rw [if_pos h8, dvF_self (by omega)]
      intro h9; simp at h9
    · rw [if_neg h8]
      have h9 : p ≤ 31 := by
        rcases Nat.lt_or_ge 31 p with h10 | h10
        · have : 32 * 32 ≤ p * p := Nat.mul_le_mul h10 h10
          omega
        · exact h10
      intro _; omega
theorem faL_one (k p : Nat) {n : Nat} (h : ¬ 1 < n) : faL k n p = [] := by
  cases k with
  | zero => rfl
  | succ k => rw [faL, if_neg h]
end Go.Proofs.YtbpkfcohbefphaaGreatDoor
namespace Go.Proofs.YtbpkfcohbefphaaGreatDoor
open Go Go.RowKit
theorem infoRat : (Tryz.prog.info? 27).map (fun i => (i.zero, i.size, i.bytes)) = some (some (.agg #[.bool false, .slice none 0 0, .bool false, .slice none 0 0]), 4, 64) := by kernel_rfl
end Go.Proofs.YtbpkfcohbefphaaGreatDoor
namespace Go.Proofs.YtbpkfcohbefphaaGreatDoor
open Go Go.RowKit
theorem SlG.far {w : World} {G n : Nat} (h : SlG w G n) : G < w.heap.size := h.lt
/-- A store into a cell behind the prefix. -/
theorem GridQ.keep {w : World} {G k n k' m : Nat} {R O C : Nat → Nat} {M : Nat → Nat → Rat} (h : GridQ w G k R O C m M) (hs : SlG w G n) (hk : k ≤ k') (hk' : k' < n) (v : Value) : GridQ (w.setCell ⟨G, k', none⟩ v) G k R O C m M := by
  have hbut : But (fun b => b = G) w (w.setCell ⟨G, k', none⟩ v) := SlG.but_set (X := fun b => b = G) hs hk' (.inr rfl) (But.refl _ w) v
  refine ⟨by simpa [World.setCell] using h.lt, fun o => by simpa using h.free o, fun i hi => ?_, h.cap, fun i hi => RowP.but (h.row i hi) (h.far i hi) hbut, h.far, h.inj⟩
  rw [World.cell?_setCell_other _ _ _ _ (by simp; try omega)]
  exact h.cell i hi
/-- A row more, whose slice stands there already. -/
theorem GridQ.add {w : World} {G k m : Nat} {R O C : Nat → Nat} {M : Nat → Nat → Rat} (h : GridQ w G k R O C m M) {r o c : Nat} {x : Nat → Rat} (hcell : w.cell? ⟨G, k, none⟩ = some (.slice (some ⟨r, o, none⟩) m c)) (hr : RowQ w r o m x) (hc : m ≤ c) (hrG : r ≠ G) (hnew : ∀ i, i < k → R i ≠ r) :
    GridQ w G (k + 1) (upd R k r) (upd O k o) (upd C k c) m (upd M k x) := by
  refine ⟨h.lt, h.free, fun i hi => ?_, fun i hi => ?_, fun i hi => ?_, fun i hi => ?_, fun i j hi hj e => ?_⟩
  · by_cases hik : i = k
    · subst hik; rw [upd_same, upd_same, upd_same]; exact hcell
    · rw [upd_other _ _ hik, upd_other _ _ hik, upd_other _ _ hik]; exact h.cell i (by omega)
  · by_cases hik : i = k
    · subst hik; rw [upd_same]; exact hc
    · rw [upd_other _ _ hik]; exact h.cap i (by omega)
  · by_cases hik : i = k
    · subst hik; rw [upd_same, upd_same, upd_same]; exact hr
    · rw [upd_other _ _ hik, upd_other _ _ hik, upd_other _ _ hik]; exact h.row i (by omega)
  · by_cases hik : i = k
    · subst hik; rw [upd_same]; exact hrG
    · rw [upd_other _ _ hik]; exact h.far i (by omega)
  · by_cases hik : i = k
    · by_cases hjk : j = k
      · omega
      · subst hik
        rw [upd_same, upd_other _ _ hjk] at e
        exact absurd e.symm (hnew j (by omega))
    · by_cases hjk : j = k
      · subst hjk
        rw [upd_same, upd_other _ _ hik] at e
        exact absurd e (hnew i (by omega))
      · rw [upd_other _ _ hik, upd_other _ _ hjk] at e
        exact h.inj i j (by omega) (by omega) e
end Go.Proofs.YtbpkfcohbefphaaGreatDoor
namespace Go.Proofs.YtbpkfcohbefphaaGreatDoor
open Go Go.RowKit
/-- The cells xs are n fractions. -/
structure ListR (w : World) (xs : List Value) (n : Nat) (r : Nat → Rat) : Prop where
  len : xs.length = n * 4
  one : ∀ u ∈ xs, u.oneCell' = true
  at4 : ∀ j, j < n → ∃ s a l c t b k e, Q4 (fun i => xs[i]?) (j * 4) s a l c t b k e ∧ RatR w (.agg #[.bool s, .slice a l c, .bool t, .slice b k e]) (r j)
theorem ListR.but {X : Nat → Prop} {w w' : World} {xs : List Value} {n : Nat} {r : Nat → Rat} (h : ListR w xs n r) (hg : But X w w') : ListR w' xs n r :=
  ⟨h.len, h.one, fun j hj => by
    obtain ⟨s, a, l, c, t, b, k, e, h1, h2⟩ := h.at4 j hj
    exact ⟨s, a, l, c, t, b, k, e, h1, h2.but hg⟩⟩
theorem ListR.grow {w w' : World} {xs : List Value} {n : Nat} {r : Nat → Rat} (h : ListR w xs n r) (hg : Grow w w') : ListR w' xs n r := h.but (X := fun _ => False) (hg.but _)
theorem ListR.cong {w : World} {xs : List Value} {n : Nat} {r r' : Nat → Rat} (h : ListR w xs n r) (hr : ∀ j, j < n → r' j = r j) : ListR w xs n r' :=
  ⟨h.len, h.one, fun j hj => by rw [hr j hj]; exact h.at4 j hj⟩
theorem ListR.nil (w : World) (r : Nat → Rat) : ListR w [] 0 r := ⟨rfl, (fun _ h => by cases h), fun _ h => absurd h (Nat.not_lt_zero _)⟩
theorem ListR.append {w : World} {xs ys : List Value} {n m : Nat} {r r' : Nat → Rat} (h : ListR w xs n r) (h' : ListR w ys m r') : ListR w (xs ++ ys) (n + m) (fun j => if j < n then r j else r' (j - n)) := by
  refine ⟨by rw [List.length_append, h.len, h'.len]; omega, fun u hu => ?_, fun j hj => ?_⟩
  · rcases List.mem_append.1 hu with hu | hu
    · exact h.one u hu
    · exact h'.one u hu
  · by_cases hjn : j < n
    · obtain ⟨s, a, l, c, t, b, k, e, ⟨h1, h2, h3, h4⟩, h5⟩ := h.at4 j hjn
      have hl := h.len
      refine ⟨s, a, l, c, t, b, k, e, ⟨?_, ?_, ?_, ?_⟩, by rw [if_pos hjn]; exact h5⟩
      · exact (List.getElem?_append_left (by omega)).trans h1
      · exact (List.getElem?_append_left (by omega)).trans h2
      · exact (List.getElem?_append_left (by omega)).trans h3
      · exact (List.getElem?_append_left (by omega)).trans h4
    · obtain ⟨s, a, l, c, t, b, k, e, ⟨h1, h2, h3, h4⟩, h5⟩ := h'.at4 (j - n) (by omega)
      have hl := h.len
      have e0 : ∀ o, j * 4 + o - xs.length = (j - n) * 4 + o := fun o => by omega
      refine ⟨s, a, l, c, t, b, k, e, ⟨?_, ?_, ?_, ?_⟩, by rw [if_neg hjn]; exact h5⟩
      · exact (List.getElem?_append_right (by omega)).trans (by rw [show j * 4 - xs.length = (j - n) * 4 from e0 0]; exact h1)
      · exact (List.getElem?_append_right (by omega)).trans (by rw [e0 1]; exact h2)
      · exact (List.getElem?_append_right (by omega)).trans (by rw [e0 2]; exact h3)
      · exact (List.getElem?_append_right (by omega)).trans (by rw [e0 3]; exact h4)
/-- A row as a list. -/
theorem RowQ.toList {w : World} {B off m c : Nat} {r : Nat → Rat} (h : RowQ w B off m r) (hc : m ≤ c) : ∃ xs, ListR w xs m r ∧ RdRow w 4 (.slice (some ⟨B, off, none⟩) m c) m xs := by
  have hx : ∀ i, i < m * 4 → ∃ v, w.cell? ⟨B, off + i, none⟩ = some v ∧ v.oneCell' = true := fun i hi => by
    obtain ⟨s, a, l, c, t, b, k, e, ⟨h1, h2, h3, h4⟩, -⟩ := RowQ.at4 h (show i / 4 < m by omega)
    have hi4 : i % 4 < 4 := Nat.mod_lt _ (by omega)
    have hd : off + i = off + i / 4 * 4 + i % 4 := by omega
    rcases (by omega : i % 4 = 0 ∨ i % 4 = 1 ∨ i % 4 = 2 ∨ i % 4 = 3) with h0 | h0 | h0 | h0 <;> rw [hd, h0]
    · exact ⟨_, h1, rfl⟩
    · exact ⟨_, h2, rfl⟩
    · exact ⟨_, h3, rfl⟩
    · exact ⟨_, h4, rfl⟩
  have hget : ∀ i, i < m * 4 → ((List.range (m * 4)).map (fun i => (w.cell? ⟨B, off + i, none⟩).getD undef))[i]? = w.cell? ⟨B, off + i, none⟩ := fun i hi => by
    obtain ⟨v, hv, -⟩ := hx i hi
    simp [hi, hv]
  have hone : ∀ u ∈ (List.range (m * 4)).map (fun i => (w.cell? ⟨B, off + i, none⟩).getD undef), u.oneCell' = true := fun u hu => by
    obtain ⟨i, hi, rfl⟩ := List.mem_map.1 hu
    obtain ⟨v, hv, h1⟩ := hx i (List.mem_range.1 hi)
    rw [hv]; exact h1
  refine ⟨(List.range (m * 4)).map (fun i => (w.cell? ⟨B, off + i, none⟩).getD undef), ⟨by simp, hone, fun j hj => ?_⟩, by simp, hone, .inr ⟨B, off, c, rfl, h.lt, hc, fun i u hu => ?_⟩⟩
  · obtain ⟨s, a, l, c, t, b, k, e, ⟨h1, h2, h3, h4⟩, h5⟩ := RowQ.at4 h hj
    refine ⟨s, a, l, c, t, b, k, e, ⟨(hget _ (by omega)).trans h1, (hget _ (by omega)).trans ?_, (hget _ (by omega)).trans ?_, (hget _ (by omega)).trans ?_⟩, h5⟩
    · exact h2
    · exact h3
    · exact h4
  · by_cases hi : i < m * 4
    · rw [hget i hi] at hu; exact hu
    · rw [List.getElem?_eq_none (by simp; omega)] at hu; cases hu
/-- An own row of fractions. -/
theorem own_rowq {w : World} {base g n cap : Nat} {t : TypeId} {xs : List Value} {r : Nat → Rat} (h : w.ownsRow base t 4 (.slice (some ⟨g, 0, none⟩) n cap) n xs) (hl : ListR w xs n r) : RowQ w g 0 n r := by
  obtain ⟨h1, h2, h3, h4, h5⟩ := own_cells h
  refine ⟨h1, h4, fun j hj => ?_⟩
  obtain ⟨s, a, l, c, t, b, k, e, ⟨q1, q2, q3, q4⟩, q5⟩ := hl.at4 j hj
  refine ⟨s, a, l, c, t, b, k, e, ⟨?_, ?_, ?_, ?_⟩, fun x hx => by injection hx with hx; rw [← hx]; exact q5⟩
  · exact h5 _ _ (by rw [Nat.zero_add]; exact q1)
  · exact h5 _ _ (by rw [Nat.zero_add]; exact q2)
  · exact h5 _ _ (by rw [Nat.zero_add]; exact q3)
  · exact h5 _ _ (by rw [Nat.zero_add]; exact q4)
theorem own_form {w : World} {base : Nat} {e : TypeId} {size : Nat} {v : Value} {n : Nat} {xs : List Value} (h : w.ownsRow base e size v n xs) : ∃ a c, v = .slice a n c := by
  rcases h.2 with ⟨rfl, rfl⟩ | ⟨g, cap, cur, rfl, _⟩
  · exact ⟨_, _, rfl⟩
  · exact ⟨_, _, rfl⟩
section
variable {P : Program}
end
end Go.Proofs.YtbpkfcohbefphaaGreatDoor
namespace Go.Proofs.YtbpkfcohbefphaaGreatDoor
open Go Go.RowKit
/-- The pivot's row divided. -/
def elimP (c : Nat) (M : Nat → Nat → Rat) : Nat → Nat → Rat := upd M c (fun i => if c ≤ i then M c i / M c c else M c i)
/-- Rows before j cleared. -/
def elimJ (c j : Nat) (M : Nat → Nat → Rat) : Nat → Nat → Rat := fun a i => if a ≠ c ∧ a < j ∧ c ≤ i then M a i + -(M a c) * M c i else M a i
def elim (n c : Nat) (M : Nat → Nat → Rat) : Nat → Nat → Rat := elimJ c n (elimP c M)
/-- What stands in memory while reduce walks: the grid, det in block D, the result's cell in block B0. -/
structure RedS (w : World) (B0 D G n m : Nat) (R O C : Nat → Nat) (u : World) (d : Rat) (N : Nat → Nat → Rat) : Prop where
  but : But (fun b => ∃ i, i < n ∧ b = R i) w u
  grid : GridQ u G n R O C m N
  det : RowQ u D 0 1 (fun _ => d)
  res : RowP u B0 0 1 (fun _ => none)
  far1 : B0 < D
  far2 : ∀ i, i < n → R i < B0
  far3 : G < B0
  base : w.heap.size ≤ B0
theorem RedS.grow {w u u' : World} {B0 D G n m : Nat} {R O C : Nat → Nat} {d : Rat} {N : Nat → Nat → Rat} (h : RedS w B0 D G n m R O C u d N) (hg : Grow u u') : RedS w B0 D G n m R O C u' d N :=
  ⟨h.but.grow hg, h.grid.grow hg, RowP.grow h.det hg, h.res.grow hg, h.far1, h.far2, h.far3, h.base⟩
theorem RedS.row {w u u' : World} {B0 D G n m : Nat} {R O C : Nat → Nat} {d : Rat} {N : Nat → Nat → Rat} (h : RedS w B0 D G n m R O C u d N) {j : Nat} (hj : j < n) {r : Nat → Rat} (hb : But (fun b => b = R j) u u') (hr : RowQ u' (R j) (O j) m r) : RedS w B0 D G n m R O C u' d (upd N j r) :=
  ⟨h.but.late hb (fun b _ hb => ⟨j, hj, hb⟩), h.grid.row_set hj hb hr, RowP.but h.det (fun e => by have := h.far2 j hj; have := h.far1; omega) hb, h.res.but (fun e => by have := h.far2 j hj; omega) hb, h.far1, h.far2, h.far3, h.base⟩
theorem RedS.cong {w u : World} {B0 D G n m : Nat} {R O C : Nat → Nat} {d : Rat} {N N' : Nat → Nat → Rat} (h : RedS w B0 D G n m R O C u d N) (hN : ∀ i j, i < n → j < m → N' i j = N i j) : RedS w B0 D G n m R O C u d N' :=
  ⟨h.but, h.grid.cong hN, h.det, h.res, h.far1, h.far2, h.far3, h.base⟩
end Go.Proofs.YtbpkfcohbefphaaGreatDoor
namespace Go.Proofs.YtbpkfcohbefphaaGreatDoor
open Go Go.RowKit
/-- A row of n ints (zeros of one kind behind them), in a block from base on. -/
def OwnI (w : World) (base : Nat) (v : Value) (n : Nat) (xs : List Value) : Prop :=
  xs.length = n ∧ ((v = .slice none 0 0 ∧ n = 0) ∨ ∃ g cap cur, v = .slice (some ⟨g, 0, none⟩) n cap ∧ base ≤ g ∧ w.heap[g]? = some (.cells cur 3 (0, 0)) ∧ n ≤ cap ∧ cap ≤ maxLen ∧ cur.size = cap ∧ cur.toList.take n = xs ∧ ∀ u, u ∈ cur.toList → ∃ x, u = .int .i64 x)
theorem OwnI.nil (w : World) (base : Nat) : OwnI w base (.slice none 0 0) 0 [] := ⟨rfl, .inl ⟨rfl, rfl⟩⟩
theorem OwnI.form {w : World} {base : Nat} {v : Value} {n : Nat} {xs : List Value} (h : OwnI w base v n xs) : ∃ a c, v = .slice a n c := by
  rcases h.2 with ⟨rfl, rfl⟩ | ⟨g, cap, cur, rfl, _⟩
  · exact ⟨_, _, rfl⟩
  · exact ⟨_, _, rfl⟩
theorem OwnI.but {X : Nat → Prop} {w w1 : World} {base : Nat} {v : Value} {n : Nat} {xs : List Value} (h : OwnI w base v n xs) (hg : But X w w1) (hX : ∀ b, base ≤ b → ¬ X b) : OwnI w1 base v n xs := by
  refine ⟨h.1, ?_⟩
  rcases h.2 with h2 | ⟨g, cap, cur, hv, hb, hh, h3⟩
  · exact .inl h2
  · exact .inr ⟨g, cap, cur, hv, hb, (hg.block g (Array.getElem?_eq_some_iff.1 hh).1 (hX g hb)).trans hh, h3⟩
theorem OwnI.grow {w w1 : World} {base : Nat} {v : Value} {n : Nat} {xs : List Value} (h : OwnI w base v n xs) (hg : Grow w w1) : OwnI w1 base v n xs := h.but (X := fun _ => False) (hg.but _) (fun _ _ h => h)
theorem zero_ints (k : Nat) : ∀ u, u ∈ (Builtin.zeroCells #[.int .i64 0] k).toList → ∃ x, u = Value.int .i64 x := by
  intro u hu
  simp [Builtin.zeroCells] at hu
  obtain ⟨i, -, rfl⟩ := hu
  exact ⟨0, by simp [Nat.mod_one]⟩
theorem frozen_plain {w : World} {g : Nat} {cur : Array Value} {e : TypeId} (h : w.heap[g]? = some (.cells cur e (0, 0))) (o : Nat) : w.frozen? ⟨g, o, none⟩ = false := by
  unfold World.frozen?
  simp only [h]
  simp
section
variable {P : Program}
end
end Go.Proofs.YtbpkfcohbefphaaGreatDoor
namespace Go.Proofs.YtbpkfcohbefphaaGreatDoor
open Go Go.RowKit
theorem rowp_alloc (u : World) (ty : TypeId) : RowP (u.alloc (.cells #[.bool false, .slice none 0 0, .bool false, .slice none 0 0] ty)) u.heap.size 0 1 (fun _ => none) := by
  refine ⟨by simp, fun o => by go_simp, fun j hj => ?_⟩
  have hj0 : j = 0 := by omega
  subst hj0
  refine ⟨false, none, 0, 0, false, none, 0, 0, ⟨?_, ?_, ?_, ?_⟩, fun y hy => by cases hy⟩ <;> go_simp
theorem GridQ.cells {w : World} {G n m : Nat} {R O C : Nat → Nat} {M : Nat → Nat → Rat} (h : GridQ w G n R O C m M) {i : Nat} (hi : i < n) : ∀ u : World, Grow w u → u.cell? ⟨G, i, none⟩ = some (.slice (some ⟨R i, O i, none⟩) m (C i)) := fun _ hu => (hu.cells _ _ h.lt).trans (h.cell i hi)
theorem infoInt : (Tryz.prog.info? 3).map (fun i => (i.zero, i.size, i.bytes)) = some (some (.int .i64 0), 1, 8) := by kernel_rfl
end Go.Proofs.YtbpkfcohbefphaaGreatDoor
namespace Go.Proofs.YtbpkfcohbefphaaGreatDoor
open Go Go.RowKit
/-- The marks of a list of bools. -/
structure MarkB (w : World) (B n : Nat) (f : Nat → Bool) : Prop where
  lt : B < w.heap.size
  free : ∀ o, w.frozen? ⟨B, o, none⟩ = false
  cell : ∀ i, i < n → w.cell? ⟨B, i, none⟩ = some (.bool (f i))
theorem MarkB.but {X : Nat → Prop} {w w' : World} {B n : Nat} {f : Nat → Bool} (h : MarkB w B n f) (hX : ¬ X B) (hg : But X w w') : MarkB w' B n f :=
  ⟨Nat.lt_of_lt_of_le h.lt hg.size, fun o => (hg.frees _ _ h.lt).trans (h.free o), fun i hi => (hg.cells _ _ h.lt hX).trans (h.cell i hi)⟩
theorem MarkB.grow {w w' : World} {B n : Nat} {f : Nat → Bool} (h : MarkB w B n f) (hg : Grow w w') : MarkB w' B n f := h.but (X := fun _ => False) (fun h => h) (hg.but _)
theorem MarkB.cong {w : World} {B n : Nat} {f f' : Nat → Bool} (h : MarkB w B n f) (hf : ∀ i, i < n → f' i = f i) : MarkB w B n f' :=
  ⟨h.lt, h.free, fun i hi => by rw [hf i hi]; exact h.cell i hi⟩
theorem MarkB.set {w : World} {B n : Nat} {f : Nat → Bool} (h : MarkB w B n f) {k : Nat} (hk : k < n) (b : Bool) : MarkB (w.setCell ⟨B, k, none⟩ (.bool b)) B n (upd f k b) := by
  refine ⟨by simpa [World.setCell] using h.lt, fun o => by simpa using h.free o, fun i hi => ?_⟩
  by_cases hik : i = k
  · subst hik
    rw [upd_same]
    exact World.cell?_setCell_same _ _ _ (h.cell i hi)
  · rw [World.cell?_setCell_other _ _ _ _ (by simp; try omega), upd_other _ _ hik]
    exact h.cell i hi
theorem MarkB.but_set {X : Nat → Prop} {w u : World} {B n : Nat} {f : Nat → Bool} (h : MarkB u B n f) {k : Nat} (hk : k < n) (hX : w.heap.size ≤ B ∨ X B) (hb : But X w u) (v : Value) : But X w (u.setCell ⟨B, k, none⟩ v) :=
  hb.set _ hX (fun x => by rw [h.cell k hk]; simp)
end Go.Proofs.YtbpkfcohbefphaaGreatDoor
namespace Go.Proofs.YtbpkfcohbefphaaGreatDoor
open Go Go.RowKit
/-- Cells of a new block, in every grown world. -/
theorem ak1 {w W : World} {v0 : Value} {t : TypeId} (hW : W = w.alloc (.cells #[v0] t)) : ∀ u : World, Grow W u → u.cell? ⟨w.heap.size, 0, none⟩ = some v0 ∧ (∀ o, u.frozen? ⟨w.heap.size, o, none⟩ = false) ∧ w.heap.size < u.heap.size := by
  intro u hg
  have hz := hg.size
  have hlt : w.heap.size < W.heap.size := by rw [hW]; simp
  refine ⟨(hg.cells _ _ hlt).trans ?_, fun o => (hg.frees _ _ hlt).trans ?_, by omega⟩ <;> (rw [hW]; go_simp)
theorem ak2 {w W : World} {v0 v1 : Value} {t : TypeId} (hW : W = w.alloc (.cells #[v0, v1] t)) : ∀ u : World, Grow W u → u.cell? ⟨w.heap.size, 0, none⟩ = some v0 ∧ u.cell? ⟨w.heap.size, 1, none⟩ = some v1 ∧ (∀ o, u.frozen? ⟨w.heap.size, o, none⟩ = false) ∧ w.heap.size < u.heap.size := by
  intro u hg
  have hz := hg.size
  have hlt : w.heap.size < W.heap.size := by rw [hW]; simp
  refine ⟨(hg.cells _ _ hlt).trans ?_, (hg.cells _ _ hlt).trans ?_, fun o => (hg.frees _ _ hlt).trans ?_, by omega⟩ <;> (rw [hW]; go_simp)
theorem ak3 {w W : World} {v0 v1 v2 : Value} {t : TypeId} (hW : W = w.alloc (.cells #[v0, v1, v2] t)) : ∀ u : World, Grow W u → u.cell? ⟨w.heap.size, 0, none⟩ = some v0 ∧ u.cell? ⟨w.heap.size, 1, none⟩ = some v1 ∧ u.cell? ⟨w.heap.size, 2, none⟩ = some v2 ∧ (∀ o, u.frozen? ⟨w.heap.size, o, none⟩ = false) ∧ w.heap.size < u.heap.size := by
  intro u hg
  have hz := hg.size
  have hlt : w.heap.size < W.heap.size := by rw [hW]; simp
  refine ⟨(hg.cells _ _ hlt).trans ?_, (hg.cells _ _ hlt).trans ?_, (hg.cells _ _ hlt).trans ?_, fun o => (hg.frees _ _ hlt).trans ?_, by omega⟩ <;> (rw [hW]; go_simp)
theorem ak4 {w W : World} {v0 v1 v2 v3 : Value} {t : TypeId} (hW : W = w.alloc (.cells #[v0, v1, v2, v3] t)) : ∀ u : World, Grow W u → u.cell? ⟨w.heap.size, 0, none⟩ = some v0 ∧ u.cell? ⟨w.heap.size, 1, none⟩ = some v1 ∧ u.cell? ⟨w.heap.size, 2, none⟩ = some v2 ∧ u.cell? ⟨w.heap.size, 3, none⟩ = some v3 ∧ (∀ o, u.frozen? ⟨w.heap.size, o, none⟩ = false) ∧ w.heap.size < u.heap.size := by
  intro u hg
  have hz := hg.size
  have hlt : w.heap.size < W.heap.size := by rw [hW]; simp
  refine ⟨(hg.cells _ _ hlt).trans ?_, (hg.cells _ _ hlt).trans ?_, (hg.cells _ _ hlt).trans ?_, (hg.cells _ _ hlt).trans ?_, fun o => (hg.frees _ _ hlt).trans ?_, by omega⟩ <;> (rw [hW]; go_simp)
theorem ag {w W : World} {vs : Array Value} {t : TypeId} (hW : W = w.alloc (.cells vs t)) : Grow w W := by rw [hW]; exact (Grow.refl w).alloc _
/-- A fraction in the cell of a result, stored. -/
theorem rescell {w u : World} {B : Nat} {x : Rat} {s t : Bool} {a b : Option Addr} {l c k e : Nat} (h : RowP u B 0 1 (fun _ => none)) (hB : w.heap.size ≤ B) (hg : Grow w u) (hx : RatR u (.agg #[.bool s, .slice a l c, .bool t, .slice b k e]) x) :
    RatR (st4 u B 0 (.bool s) (.slice a l c) (.bool t) (.slice b k e)) (.agg #[.bool s, .slice a l c, .bool t, .slice b k e]) x ∧ Grow w (st4 u B 0 (.bool s) (.slice a l c) (.bool t) (.slice b k e)) := by
  have hb : But (fun b => b = B) u (st4 u B 0 (.bool s) (.slice a l c) (.bool t) (.slice b k e)) := But.st4 (X := fun b => b = B) (But.refl _ u) (.inr rfl) (by have := h.q4 (show 0 < 1 by omega); simpa using this) _ _ _ _ _ _ _ _
  exact ⟨hx.but hb, ((hg.but _).trans hb).asGrow (fun b e => by omega)⟩
end Go.Proofs.YtbpkfcohbefphaaGreatDoor
namespace Go.Proofs.YtbpkfcohbefphaaGreatDoor
open Go Go.RowKit
/-- What stands in memory while Signature walks. -/
structure SigS (w : World) (G D n : Nat) (R O C : Nat → Nat) (u : World) (k : Nat) (N : Nat → Nat → Rat) : Prop where
  grow : Grow w u
  grid : GridQ u G n R O C n N
  mark : MarkB u D n (fun i => decide (i < k))
  bG : w.heap.size ≤ G
  bR : ∀ i, i < n → w.heap.size ≤ R i
  bD : w.heap.size ≤ D
  dG : D ≠ G
  dR : ∀ i, i < n → R i ≠ D
section
variable {w u u' : World} {G D n k : Nat} {R O C : Nat → Nat} {N N' : Nat → Nat → Rat}
theorem SigS.go (h : SigS w G D n R O C u k N) (hg : Grow u u') : SigS w G D n R O C u' k N :=
  ⟨h.grow.trans hg, h.grid.grow hg, h.mark.grow hg, h.bG, h.bR, h.bD, h.dG, h.dR⟩
theorem SigS.cong (h : SigS w G D n R O C u k N) (hN : ∀ i j, i < n → j < n → N' i j = N i j) : SigS w G D n R O C u k N' :=
  ⟨h.grow, h.grid.cong hN, h.mark, h.bG, h.bR, h.bD, h.dG, h.dR⟩
theorem SigS.row (h : SigS w G D n R O C u k N) {j : Nat} (hj : j < n) {r : Nat → Rat} (hb : But (fun b => b = R j) u u') (hr : RowQ u' (R j) (O j) n r) : SigS w G D n R O C u' k (upd N j r) := by
  refine ⟨(((h.grow.but _).trans hb).asGrow (fun b e => ?_)), h.grid.row_set hj hb hr, h.mark.but (fun e => h.dR j hj e.symm) hb, h.bG, h.bR, h.bD, h.dG, h.dR⟩
  rw [e]; exact h.bR j hj
theorem SigS.put (h : SigS w G D n R O C u k N) {j c : Nat} (hj : j < n) (hc : c < n) {s : Bool} {a : Option Addr} {l z : Nat} {t : Bool} {b : Option Addr} {y e : Nat} {x : Rat}
    (hx : RatR u (.agg #[.bool s, .slice a l z, .bool t, .slice b y e]) x) : But (fun b => b = R j) u (st4 u (R j) (O j + c * 4) (.bool s) (.slice a l z) (.bool t) (.slice b y e)) ∧ SigS w G D n R O C (st4 u (R j) (O j + c * 4) (.bool s) (.slice a l z) (.bool t) (.slice b y e)) k (upd N j (fun i => if i = c then x else N j i)) := by
  have hb : But (fun b => b = R j) u (st4 u (R j) (O j + c * 4) (.bool s) (.slice a l z) (.bool t) (.slice b y e)) := But.st4 (X := fun b => b = R j) (But.refl _ u) (.inr rfl) (RowP.q4 (h.grid.row j hj) hc) _ _ _ _ _ _ _ _
  exact ⟨hb, h.row hj hb (RowQ.set (h.grid.row j hj) hc hx)⟩
end
end Go.Proofs.YtbpkfcohbefphaaGreatDoor
namespace Go.Proofs.YtbpkfcohbefphaaGreatDoor
open Go Go.RowKit
theorem abs_mul_le {x y : Int} {a b c : Nat} (hx : x.natAbs ≤ a) (hy : y.natAbs ≤ b) (hc : a * b ≤ c) : (x * y).natAbs ≤ c := by
  rw [Int.natAbs_mul]; exact Nat.le_trans (Nat.mul_le_mul hx hy) hc
theorem wrap64_eq (x : Int) : IntKind.i64.wrap x = wrap64 x := by simp [IntKind.wrap, IntKind.bits, IntKind.signed, wrap64]; try omega
theorem w64n {n : Int} (h : n.natAbs ≤ 9000000000000000000) : IntKind.i64.wrap n = n ∧ wrap64 n = n := by
  have h1 : IntKind.i64.wrap n = n := IntWalk.i64_in _ (by omega)
  exact ⟨h1, by rw [← wrap64_eq]; exact h1⟩
theorem inc_wrap {i n : Nat} (hi : i < n) (hn : n ≤ 100000) : IntKind.i64.wrap ((i : Int) + 1) = ((i + 1 : Nat) : Int) ∧ wrap64 ((i : Int) + 1) = ((i + 1 : Nat) : Int) := by
  obtain ⟨a, b⟩ := w64n (n := (i : Int) + 1) (by omega)
  exact ⟨a.trans (by omega), b.trans (by omega)⟩
/-- A block of three cells. -/
structure O3 (u : World) (B : Nat) (v0 v1 v2 : Value) : Prop where
  c0 : u.cell? ⟨B, 0, none⟩ = some v0
  c1 : u.cell? ⟨B, 1, none⟩ = some v1
  c2 : u.cell? ⟨B, 2, none⟩ = some v2
  fr : ∀ o, u.frozen? ⟨B, o, none⟩ = false
  lt : B < u.heap.size
/-- A block of four cells. -/
structure O4 (u : World) (B : Nat) (v0 v1 v2 v3 : Value) : Prop where
  c0 : u.cell? ⟨B, 0, none⟩ = some v0
  c1 : u.cell? ⟨B, 1, none⟩ = some v1
  c2 : u.cell? ⟨B, 2, none⟩ = some v2
  c3 : u.cell? ⟨B, 3, none⟩ = some v3
  fr : ∀ o, u.frozen? ⟨B, o, none⟩ = false
  lt : B < u.heap.size
section
variable {u u' : World} {B : Nat} {v0 v1 v2 v3 : Value}
theorem O3.grow (h : O3 u B v0 v1 v2) (hg : Grow u u') : O3 u' B v0 v1 v2 :=
  ⟨(hg.cells _ _ h.lt).trans h.c0, (hg.cells _ _ h.lt).trans h.c1, (hg.cells _ _ h.lt).trans h.c2, fun o => (hg.frees _ _ h.lt).trans (h.fr o), Nat.lt_of_lt_of_le h.lt hg.size⟩
theorem O4.grow (h : O4 u B v0 v1 v2 v3) (hg : Grow u u') : O4 u' B v0 v1 v2 v3 :=
  ⟨(hg.cells _ _ h.lt).trans h.c0, (hg.cells _ _ h.lt).trans h.c1, (hg.cells _ _ h.lt).trans h.c2, (hg.cells _ _ h.lt).trans h.c3, fun o => (hg.frees _ _ h.lt).trans (h.fr o), Nat.lt_of_lt_of_le h.lt hg.size⟩
theorem O3.off (h : O3 u B v0 v1 v2) {b : Nat} (hb : b ≠ B) (o : Nat) (v : Value) : O3 (u.setCell ⟨b, o, none⟩ v) B v0 v1 v2 := by
  have hf : ∀ i, (u.setCell ⟨b, o, none⟩ v).cell? ⟨B, i, none⟩ = u.cell? ⟨B, i, none⟩ := fun i => World.cell?_setCell_other _ _ _ _ (by simp; try omega)
  exact ⟨(hf 0).trans h.c0, (hf 1).trans h.c1, (hf 2).trans h.c2, fun i => by simpa using h.fr i, by simpa [World.setCell] using h.lt⟩
theorem O4.off (h : O4 u B v0 v1 v2 v3) {b : Nat} (hb : b ≠ B) (o : Nat) (v : Value) : O4 (u.setCell ⟨b, o, none⟩ v) B v0 v1 v2 v3 := by
  have hf : ∀ i, (u.setCell ⟨b, o, none⟩ v).cell? ⟨B, i, none⟩ = u.cell? ⟨B, i, none⟩ := fun i => World.cell?_setCell_other _ _ _ _ (by simp; try omega)
  exact ⟨(hf 0).trans h.c0, (hf 1).trans h.c1, (hf 2).trans h.c2, (hf 3).trans h.c3, fun i => by simpa using h.fr i, by simpa [World.setCell] using h.lt⟩
theorem O3.set0 (h : O3 u B v0 v1 v2) (v : Value) : O3 (u.setCell ⟨B, 0, none⟩ v) B v v1 v2 :=
  ⟨World.cell?_setCell_same _ _ _ h.c0, (World.cell?_setCell_other _ _ _ _ (by simp)).trans h.c1, (World.cell?_setCell_other _ _ _ _ (by simp)).trans h.c2, fun i => by simpa using h.fr i, by simpa [World.setCell] using h.lt⟩
theorem O3.set2 (h : O3 u B v0 v1 v2) (v : Value) : O3 (u.setCell ⟨B, 2, none⟩ v) B v0 v1 v :=
  ⟨(World.cell?_setCell_other _ _ _ _ (by simp)).trans h.c0, (World.cell?_setCell_other _ _ _ _ (by simp)).trans h.c1, World.cell?_setCell_same _ _ _ h.c2, fun i => by simpa using h.fr i, by simpa [World.setCell] using h.lt⟩
theorem O4.set0 (h : O4 u B v0 v1 v2 v3) (v : Value) : O4 (u.setCell ⟨B, 0, none⟩ v) B v v1 v2 v3 :=
  ⟨World.cell?_setCell_same _ _ _ h.c0, (World.cell?_setCell_other _ _ _ _ (by simp)).trans h.c1, (World.cell?_setCell_other _ _ _ _ (by simp)).trans h.c2, (World.cell?_setCell_other _ _ _ _ (by simp)).trans h.c3, fun i => by simpa using h.fr i, by simpa [World.setCell] using h.lt⟩
theorem O4.set2 (h : O4 u B v0 v1 v2 v3) (v : Value) : O4 (u.setCell ⟨B, 2, none⟩ v) B v0 v1 v v3 :=
  ⟨(World.cell?_setCell_other _ _ _ _ (by simp)).trans h.c0, (World.cell?_setCell_other _ _ _ _ (by simp)).trans h.c1, World.cell?_setCell_same _ _ _ h.c2, (World.cell?_setCell_other _ _ _ _ (by simp)).trans h.c3, fun i => by simpa using h.fr i, by simpa [World.setCell] using h.lt⟩
theorem O4.set3 (h : O4 u B v0 v1 v2 v3) (v : Value) : O4 (u.setCell ⟨B, 3, none⟩ v) B v0 v1 v2 v :=
  ⟨(World.cell?_setCell_other _ _ _ _ (by simp)).trans h.c0, (World.cell?_setCell_other _ _ _ _ (by simp)).trans h.c1, (World.cell?_setCell_other _ _ _ _ (by simp)).trans h.c2, World.cell?_setCell_same _ _ _ h.c3, fun i => by simpa using h.fr i, by simpa [World.setCell] using h.lt⟩
theorem O3.lay {w W : World} {t : TypeId} (hW : W = w.alloc (.cells #[v0, v1, v2] t)) : O3 W w.heap.size v0 v1 v2 := by
  obtain ⟨h0, h1, h2, h3, h4⟩ := ak3 hW W (Grow.refl _)
  exact ⟨h0, h1, h2, h3, h4⟩
theorem O4.lay {w W : World} {t : TypeId} (hW : W = w.alloc (.cells #[v0, v1, v2, v3] t)) : O4 W w.heap.size v0 v1 v2 v3 := by
  obtain ⟨h0, h1, h2, h3, h4, h5⟩ := ak4 hW W (Grow.refl _)
  exact ⟨h0, h1, h2, h3, h4, h5⟩
end
end Go.Proofs.YtbpkfcohbefphaaGreatDoor
