/- Plain model of the lift of a point. No program here. -/
import Derived.Test.YtcgiancmponmgaaPjB
namespace Go.Proofs.Ytcgiancmponmgaa

/-- The first number from i on with p, in at most f tries. -/
def fstN (p : Nat → Bool) : Nat → Nat → Nat
  | 0, i => i
  | f + 1, i => if p i = true then i else fstN p f (i + 1)
theorem fstN_spec {p : Nat → Bool} : ∀ (f i : Nat), (∃ j, i ≤ j ∧ j < i + f ∧ p j = true) → p (fstN p f i) = true ∧ i ≤ fstN p f i ∧ fstN p f i < i + f ∧ ∀ j, i ≤ j → j < fstN p f i → p j = false
  | 0, i, ⟨j, h1, h2, _⟩ => by omega
  | f + 1, i, ⟨j, h1, h2, h3⟩ => by
    unfold fstN
    by_cases h : p i = true
    · rw [if_pos h]
      exact ⟨h, Nat.le_refl _, by omega, fun j a b => by omega⟩
    · rw [if_neg h]
      have hj : i ≠ j := fun e => h (e ▸ h3)
      obtain ⟨a, b, c, d⟩ := fstN_spec f (i + 1) ⟨j, by omega, by omega, h3⟩
      refine ⟨a, by omega, by omega, fun k hk hk' => ?_⟩
      by_cases e : k = i
      · subst e; simpa using h
      · exact d k (by omega) hk'
def dI (n u v : Int) : Nat := fstN (fun j => decide (Int.gcd (v + (j : Int) * n) u = 1)) 130 0
def aI (u d : Int) : Nat := fstN (fun a => decide (((a : Int) * d - 1).tmod u = 0)) 130 0
theorem d_ex (u v n : Nat) (hu : 0 < u) (hg : Nat.gcd (Nat.gcd u v) n = 1) : ∀ (f k : Nat), u - k ≤ f → k ∣ u → Nat.gcd k v = 1 → ∃ j, j ≤ u ∧ Nat.gcd (v + j * n) u = 1
  | 0, k, hf, hk, hkv => by
    have hle := Nat.le_of_dvd hu hk
    have : k = u := by omega
    subst this
    refine ⟨k, Nat.le_refl _, ?_⟩
    have : Nat.gcd (v + k * n) k = Nat.gcd v k := by simp
    rw [this, Nat.gcd_comm]
    exact hkv
  | f + 1, k, hf, hk, hkv => by
    have hle := Nat.le_of_dvd hu hk
    by_cases h : Nat.gcd (v + k * n) u = 1
    · exact ⟨k, hle, h⟩
    · have hk0 : 0 < k := Nat.pos_of_ne_zero (fun e => by rw [e] at hk; have := Nat.eq_zero_of_zero_dvd hk; omega)
      obtain ⟨d, hd⟩ : ∃ d, Nat.gcd (v + k * n) u = d := ⟨_, rfl⟩
      have d1 : d ∣ v + k * n := hd ▸ Nat.gcd_dvd_left ..
      have d2 : d ∣ u := hd ▸ Nat.gcd_dvd_right ..
      have d0 : 0 < d := Nat.pos_of_ne_zero (fun e => by rw [e] at d2; have := Nat.eq_zero_of_zero_dvd d2; omega)
      rw [hd] at h
      have c1 : Nat.Coprime d k := by
        have a1 : Nat.gcd d k ∣ k := Nat.gcd_dvd_right ..
        have a2 : Nat.gcd d k ∣ v + k * n := Nat.dvd_trans (Nat.gcd_dvd_left ..) d1
        have a3 : Nat.gcd d k ∣ v := (Nat.dvd_add_iff_left (Nat.dvd_mul_right_of_dvd a1 n)).2 a2
        have a4 : Nat.gcd d k ∣ Nat.gcd k v := Nat.dvd_gcd a1 a3
        rw [hkv] at a4
        exact Nat.eq_one_of_dvd_one a4
      have c2 : Nat.Coprime d v := by
        have a1 : Nat.gcd d v ∣ v := Nat.gcd_dvd_right ..
        have a0 : Nat.gcd d v ∣ d := Nat.gcd_dvd_left ..
        have a2 : Nat.gcd d v ∣ v + k * n := Nat.dvd_trans a0 d1
        have a3 : Nat.gcd d v ∣ k * n := (Nat.dvd_add_iff_right a1).2 a2
        have a5 : Nat.Coprime (Nat.gcd d v) k := Nat.Coprime.coprime_dvd_left a0 c1
        have a6 : Nat.gcd d v ∣ n := Nat.Coprime.dvd_of_dvd_mul_left a5 a3
        have a7 : Nat.gcd d v ∣ Nat.gcd (Nat.gcd u v) n := Nat.dvd_gcd (Nat.dvd_gcd (Nat.dvd_trans a0 d2) a1) a6
        rw [hg] at a7
        exact Nat.eq_one_of_dvd_one a7
      have hdk : d * k ∣ u := Nat.Coprime.mul_dvd_of_dvd_of_dvd c1 d2 hk
      have hgt : 2 * k ≤ d * k := Nat.mul_le_mul_right k (by omega)
      have hle2 := Nat.le_of_dvd hu hdk
      exact d_ex u v n hu hg f (d * k) (by omega) hdk (Nat.Coprime.mul_left c2 hkv)
theorem dI_spec {n u v : Int} (hn : 1 ≤ n) (hn2 : n ≤ 120) (hu : 1 ≤ u) (hun : u < n) (hv : 0 ≤ v) (hg : Int.gcd ((Int.gcd u v : Nat) : Int) n = 1) :
    Int.gcd (v + (dI n u v : Int) * n) u = 1 ∧ dI n u v < 130 ∧ ∀ j, j < dI n u v → Int.gcd (v + (j : Int) * n) u ≠ 1 := by
  obtain ⟨N, rfl⟩ := Int.eq_ofNat_of_zero_le (show 0 ≤ n by omega)
  obtain ⟨U, rfl⟩ := Int.eq_ofNat_of_zero_le (show 0 ≤ u by omega)
  obtain ⟨V, rfl⟩ := Int.eq_ofNat_of_zero_le hv
  have hg2 : Nat.gcd (Nat.gcd U V) N = 1 := by simpa [Int.gcd] using hg
  obtain ⟨j, hj1, hj2⟩ := d_ex U V N (by omega) hg2 U 1 (by omega) (Nat.one_dvd _) (Nat.gcd_one_left _)
  have e : ∀ j : Nat, Int.gcd ((V : Int) + (j : Int) * (N : Int)) (U : Int) = Nat.gcd (V + j * N) U := fun j => by
    have : ((V : Int) + (j : Int) * (N : Int)) = ((V + j * N : Nat) : Int) := by simp
    rw [this]; rfl
  obtain ⟨a, -, c, d⟩ := fstN_spec (p := fun j => decide (Int.gcd ((V : Int) + (j : Int) * (N : Int)) (U : Int) = 1)) 130 0 ⟨j, by omega, by omega, by
    show decide (Int.gcd ((V : Int) + (j : Int) * (N : Int)) (U : Int) = 1) = true
    rw [e, hj2]; rfl⟩
  exact ⟨of_decide_eq_true a, by unfold dI; omega, fun j hj => of_decide_eq_false (d j (by omega) hj)⟩
theorem tmod_dvd {x u : Int} : x.tmod u = 0 ↔ u ∣ x := ⟨Int.dvd_of_tmod_eq_zero, Int.tmod_eq_zero_of_dvd⟩
theorem aI_spec {u d : Int} (hu : 1 ≤ u) (hu2 : u ≤ 120) (hg : Int.gcd d u = 1) : ((aI u d : Int) * d - 1).tmod u = 0 ∧ (aI u d : Int) < u ∧ ∀ j, j < aI u d → ((j : Int) * d - 1).tmod u ≠ 0 := by
  obtain ⟨t, ht⟩ := unit_inv hg
  have h0 := Int.emod_nonneg t (b := u) (by omega)
  have h1 := Int.emod_lt_of_pos t (b := u) (by omega)
  obtain ⟨T, hT⟩ := Int.eq_ofNat_of_zero_le h0
  have e1 : eqN u (d * (t % u)) (d * t) := (eqN.of_mod u t).mul d
  rw [Int.mul_comm d t, Int.mul_comm d] at e1
  have e2 : u ∣ (t % u) * d - 1 := e1.trans ht
  rw [hT] at e2 h1
  obtain ⟨a, -, c, f⟩ := fstN_spec (p := fun a => decide (((a : Int) * d - 1).tmod u = 0)) 130 0 ⟨T, by omega, by omega, by simpa using tmod_dvd.2 e2⟩
  refine ⟨of_decide_eq_true a, ?_, fun j hj => of_decide_eq_false (f j (by omega) hj)⟩
  have : ¬ T < aI u d := fun h => by
    have := of_decide_eq_false (f T (by omega) h)
    exact this (tmod_dvd.2 e2)
  omega
theorem aI_uniq {u d V : Int} (hu : 1 ≤ u) (hu2 : u ≤ 120) (hg : Int.gcd d u = 1) (h0 : 0 ≤ V) (h1 : V < u) (hd : u ∣ V * d - 1) : V = (aI u d : Int) := by
  obtain ⟨a, b, -⟩ := aI_spec hu hu2 hg
  obtain ⟨P, hP⟩ : ∃ P : Int, (aI u d : Int) = P := ⟨_, rfl⟩
  have hP0 : 0 ≤ P := by omega
  rw [hP] at a b ⊢
  have e1 : eqN u (P * d) 1 := tmod_dvd.1 a
  have e2 : eqN u (V * d) 1 := hd
  have e3 := e1.mul V
  have e4 := e2.mul P
  have e5 : V * (P * d) = P * (V * d) := by grind
  rw [e5, Int.mul_one] at e3
  rw [Int.mul_one] at e4
  have e6 := (e3.symm.trans e4).mod
  rw [Int.emod_eq_of_lt h0 h1, Int.emod_eq_of_lt hP0 b] at e6
  exact e6
/-- The matrix of a normal form. -/
def rsF (n u v : Int) : M2 :=
  if u = 0 then ⟨1, 0, 0, 1⟩ else ⟨aI u (v + (dI n u v : Int) * n), ((aI u (v + (dI n u v : Int) * n) : Int) * (v + (dI n u v : Int) * n) - 1).tdiv u, u, v + (dI n u v : Int) * n⟩
end Go.Proofs.Ytcgiancmponmgaa
