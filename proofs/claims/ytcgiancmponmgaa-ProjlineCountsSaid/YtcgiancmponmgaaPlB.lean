/- Plain definitions for cusps: lowest terms, the check of a cusp, Reduce and Apply. -/
import Derived.Test.YtcgiancmponmgaaPlA
namespace Go.Proofs.Ytcgiancmponmgaa
open Go.RowKit

def negB (p q : Int) : Bool := decide (q < 0) || (decide (q = 0) && decide (p < 0))
def lowF (p q : Int) : C2 := if negB p q then ⟨-(p.tdiv (Int.gcd p q)), -(q.tdiv (Int.gcd p q))⟩ else ⟨p.tdiv (Int.gcd p q), q.tdiv (Int.gcd p q)⟩
def ccF (c : C2) : Int := if inB c.p && decide (0 ≤ c.q) && inB c.q then (if Int.gcd c.p c.q = 1 ∧ (c.q = 0 → c.p = 1) then 0 else 3) else 2
def redF (p q : Int) : C2 × Int := if inB p && inB q then (if p = 0 ∧ q = 0 then (C2.zero, 5) else (lowF p q, 0)) else (C2.zero, 2)
def M2.img (m : M2) (c : C2) : C2 := lowF (m.a * c.p + m.b * c.q) (m.c * c.p + m.d * c.q)
def applyF (m : M2) (c : C2) : C2 × Int :=
  if m.fits then (if m.det = 0 then (C2.zero, 11) else if ccF c = 0 then (if inB (m.img c).p && inB (m.img c).q then (m.img c, 0) else (C2.zero, 7)) else (C2.zero, ccF c)) else (C2.zero, 2)

theorem tdiv_bd (p g : Int) (B : Int) (h1 : -B ≤ p) (h2 : p ≤ B) : -B ≤ p.tdiv g ∧ p.tdiv g ≤ B := by
  have : (p.tdiv g).natAbs ≤ p.natAbs := by rw [Int.natAbs_tdiv]; exact Nat.div_le_self _ _
  omega
theorem gcd_ne {p q : Int} (h : ¬ (p = 0 ∧ q = 0)) : (Int.gcd p q : Int) ≠ 0 := by
  intro h0
  have := Int.gcd_eq_zero_iff.1 (by omega : Int.gcd p q = 0)
  exact h this
theorem gcd_le {p q B : Int} (h : ¬ (p = 0 ∧ q = 0)) (hp : p.natAbs ≤ B) (hq : q.natAbs ≤ B) : (Int.gcd p q : Int) ≤ B := by
  have h1 : Int.gcd p q ∣ p.natAbs := Int.gcd_dvd_natAbs_left p q
  have h2 : Int.gcd p q ∣ q.natAbs := Int.gcd_dvd_natAbs_right p q
  by_cases hp0 : p = 0
  · have := Nat.le_of_dvd (by omega) h2; omega
  · have := Nat.le_of_dvd (by omega) h1; omega
theorem tdiv_sign {p g : Int} (hg : 0 < g) (hd : g ∣ p) : (p.tdiv g < 0 ↔ p < 0) ∧ (p.tdiv g = 0 ↔ p = 0) := by
  obtain ⟨k, rfl⟩ := hd
  rw [Int.mul_tdiv_cancel_left _ (by omega)]
  refine ⟨⟨fun h => ?_, fun h => ?_⟩, ⟨fun h => by rw [h]; simp, fun h => ?_⟩⟩
  · exact Int.mul_neg_of_pos_of_neg hg h
  · rcases Int.lt_or_le k 0 with h1 | h1
    · exact h1
    · have := Int.mul_nonneg (by omega : 0 ≤ g) h1; omega
  · rcases Int.mul_eq_zero.1 h with h1 | h1
    · omega
    · exact h1
theorem negB_low {p q : Int} (h : ¬ (p = 0 ∧ q = 0)) : negB (p.tdiv (Int.gcd p q)) (q.tdiv (Int.gcd p q)) = negB p q := by
  have hg := gcd_ne h
  have hg' : (0 : Int) < Int.gcd p q := by omega
  obtain ⟨a1, a2⟩ := tdiv_sign hg' (Int.gcd_dvd_left p q)
  obtain ⟨b1, b2⟩ := tdiv_sign hg' (Int.gcd_dvd_right p q)
  simp only [negB, a1, b1, b2]
theorem ccF_zero {c : C2} : ccF c = 0 ↔ inB c.p = true ∧ 0 ≤ c.q ∧ inB c.q = true ∧ Int.gcd c.p c.q = 1 ∧ (c.q = 0 → c.p = 1) := by
  unfold ccF
  by_cases h1 : inB c.p = true <;> by_cases h2 : 0 ≤ c.q <;> by_cases h3 : inB c.q = true <;> by_cases h4 : Int.gcd c.p c.q = 1 <;> by_cases h5 : (c.q = 0 → c.p = 1) <;> simp [h1, h2, h3, h4, h5]
end Go.Proofs.Ytcgiancmponmgaa
