/- Plain laws on lowest terms: normalized pairs are unique; Reduce gives a cusp; applying a product is applying the factors. -/
import Derived.Test.YtfjlecphjahahaaPlD
namespace Go.Proofs.Ytfjlecphjahahaa
open Go.RowKit

def Norm (c : C2) : Prop := Int.gcd c.p c.q = 1 ∧ 0 ≤ c.q ∧ (c.q = 0 → c.p = 1)

theorem gcd_mul_left' (t a b : Int) : Int.gcd (t * a) (t * b) = t.natAbs * Int.gcd a b := by
  simp only [Int.gcd, Int.natAbs_mul, Nat.gcd_mul_left]
theorem low_spec {p q : Int} (h0 : ¬ (p = 0 ∧ q = 0)) : ∃ t : Int, t ≠ 0 ∧ p = t * (lowF p q).p ∧ q = t * (lowF p q).q ∧ Norm (lowF p q) := by
  have hg := gcd_ne h0
  have hg' : (0 : Int) < Int.gcd p q := by omega
  obtain ⟨P, hP⟩ := Int.gcd_dvd_left p q
  obtain ⟨Q, hQ⟩ := Int.gcd_dvd_right p q
  have eP : p.tdiv (Int.gcd p q) = P := by
    have : (Int.gcd p q * P : Int).tdiv (Int.gcd p q) = P := Int.mul_tdiv_cancel_left _ hg
    rw [← hP] at this; exact this
  have eQ : q.tdiv (Int.gcd p q) = Q := by
    have : (Int.gcd p q * Q : Int).tdiv (Int.gcd p q) = Q := Int.mul_tdiv_cancel_left _ hg
    rw [← hQ] at this; exact this
  have hco : Int.gcd P Q = 1 := by
    have h1 : Int.gcd p q = (Int.gcd p q : Int).natAbs * Int.gcd P Q := by
      rw [← gcd_mul_left', ← hP, ← hQ]
    have h2 : (Int.gcd p q : Int).natAbs = Int.gcd p q := rfl
    rw [h2] at h1
    have h3 : 0 < Int.gcd p q := by omega
    exact (Nat.mul_left_cancel h3 (by rw [Nat.mul_one]; exact h1)).symm
  obtain ⟨s1, s2⟩ := tdiv_sign hg' (Int.gcd_dvd_left p q)
  obtain ⟨s3, s4⟩ := tdiv_sign hg' (Int.gcd_dvd_right p q)
  rw [eP] at s1 s2
  rw [eQ] at s3 s4
  unfold lowF
  rw [eP, eQ]
  generalize (Int.gcd p q : Int) = g at *
  by_cases hn : negB p q = true
  · rw [if_pos hn]
    simp [negB] at hn
    refine ⟨-g, by omega, by rw [Int.neg_mul_neg]; exact hP, by rw [Int.neg_mul_neg]; exact hQ, ?_, ?_, ?_⟩
    · simp only [Int.gcd_neg, Int.neg_gcd]; exact hco
    · show 0 ≤ -Q; omega
    · show -Q = 0 → -P = 1
      intro h
      have hQ0 : Q = 0 := by omega
      rw [hQ0, Int.gcd_zero] at hco
      omega
  · rw [if_neg hn]
    simp [negB] at hn
    refine ⟨g, hg, hP, hQ, hco, ?_, ?_⟩
    · show 0 ≤ Q; omega
    · show Q = 0 → P = 1
      intro h
      rw [h, Int.gcd_zero] at hco
      omega
theorem dvd_co {q p s : Int} (h : q ∣ p * s) (hg : Int.gcd p q = 1) : q ∣ s := by
  have h1 : q.natAbs ∣ p.natAbs * s.natAbs := by rw [← Int.natAbs_mul]; exact Int.natAbs_dvd_natAbs.2 h
  have h2 : Nat.Coprime q.natAbs p.natAbs := by unfold Nat.Coprime; rw [Nat.gcd_comm]; exact hg
  exact Int.natAbs_dvd_natAbs.1 (h2.dvd_of_dvd_mul_left h1)
theorem norm_unique {c d : C2} (hc : Norm c) (hd : Norm d) (h : c.p * d.q = c.q * d.p) : c = d := by
  obtain ⟨c1, c2, c3⟩ := hc
  obtain ⟨d1, d2, d3⟩ := hd
  obtain ⟨p, q⟩ := c
  obtain ⟨r, s⟩ := d
  simp only at *
  have e1 : q ∣ s := by
    have : q ∣ p * s := ⟨r, h⟩
    exact dvd_co this c1
  have e2 : s ∣ q := by
    have : s ∣ r * q := ⟨p, by rw [Int.mul_comm r q, ← h, Int.mul_comm]⟩
    exact dvd_co this d1
  have e3 : q = s := by
    have h1 : q.natAbs ∣ s.natAbs := Int.natAbs_dvd_natAbs.2 e1
    have h2 : s.natAbs ∣ q.natAbs := Int.natAbs_dvd_natAbs.2 e2
    have := Nat.dvd_antisymm h1 h2
    omega
  subst e3
  by_cases hq : q = 0
  · rw [c3 hq, d3 hq]
  · have : p = r := by
      have h3 : (p - r) * q = 0 := by rw [Int.sub_mul]; rw [Int.mul_comm q r] at h; omega
      rcases Int.mul_eq_zero.1 h3 with h4 | h4
      · omega
      · exact absurd h4 hq
    rw [this]
theorem low_norm {p q : Int} (h0 : ¬ (p = 0 ∧ q = 0)) : Norm (lowF p q) := (low_spec h0).choose_spec.2.2.2
theorem low_cross {p q : Int} (h0 : ¬ (p = 0 ∧ q = 0)) : (lowF p q).p * q = (lowF p q).q * p := by
  obtain ⟨t, _, h1, h2, _⟩ := low_spec h0
  generalize lowF p q = u at *
  rw [h1, h2, Int.mul_left_comm, Int.mul_left_comm u.q, Int.mul_comm u.p]
theorem low_eq {p q : Int} (h0 : ¬ (p = 0 ∧ q = 0)) {c : C2} (hc : Norm c) (h : c.p * q = c.q * p) : lowF p q = c := by
  obtain ⟨t, ht, h1, h2, hn⟩ := low_spec h0
  refine norm_unique hn hc ?_
  generalize lowF p q = u at *
  rw [h1, h2] at h
  have h3 : t * (u.p * c.q - u.q * c.p) = 0 := by
    rw [Int.mul_sub, ← Int.mul_assoc, ← Int.mul_assoc]
    have e1 : c.p * (t * u.q) = t * u.q * c.p := Int.mul_comm _ _
    have e2 : c.q * (t * u.p) = t * u.p * c.q := Int.mul_comm _ _
    omega
  rcases Int.mul_eq_zero.1 h3 with h4 | h4
  · exact absurd h4 ht
  · omega
theorem low_bd {p q : Int} {B : Int} (hp : -B ≤ p) (hp' : p ≤ B) (hq : -B ≤ q) (hq' : q ≤ B) : (-B ≤ (lowF p q).p ∧ (lowF p q).p ≤ B) ∧ (-B ≤ (lowF p q).q ∧ (lowF p q).q ≤ B) := by
  have h1 := tdiv_bd p (Int.gcd p q) B hp hp'
  have h2 := tdiv_bd q (Int.gcd p q) B hq hq'
  unfold lowF
  split <;> simp only <;> omega
theorem cc_norm {c : C2} : ccF c = 0 ↔ inB c.p = true ∧ inB c.q = true ∧ Norm c := by
  rw [ccF_zero]; unfold Norm
  constructor
  · rintro ⟨a, b, c', d, e⟩; exact ⟨a, c', d, b, e⟩
  · rintro ⟨a, c', d, b, e⟩; exact ⟨a, b, c', d, e⟩
theorem red_spec {p q : Int} {u : C2} (h : redF p q = (u, 0)) : ccF u = 0 ∧ u.p * q = u.q * p ∧ inB p = true ∧ inB q = true ∧ inB u.p = true ∧ inB u.q = true := by
  unfold redF at h
  by_cases h1 : (inB p && inB q) = true
  · rw [if_pos h1] at h
    simp only [Bool.and_eq_true] at h1
    by_cases h2 : p = 0 ∧ q = 0
    · rw [if_pos h2] at h; simp at h
    · rw [if_neg h2] at h
      obtain ⟨rfl, -⟩ := Prod.mk.inj h
      obtain ⟨a1, a2⟩ := inB_iff.1 h1.1
      obtain ⟨a3, a4⟩ := inB_iff.1 h1.2
      obtain ⟨b1, b2⟩ := low_bd a1 a2 a3 a4
      exact ⟨cc_norm.2 ⟨inB_iff.2 b1, inB_iff.2 b2, low_norm h2⟩, low_cross h2, h1.1, h1.2, inB_iff.2 b1, inB_iff.2 b2⟩
  · rw [if_neg h1] at h; simp at h
end Go.Proofs.Ytfjlecphjahahaa
