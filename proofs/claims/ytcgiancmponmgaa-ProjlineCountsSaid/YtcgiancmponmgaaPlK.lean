/- Plain laws of the extended gcd: the state of its loop. No program here. -/
import Derived.Test.YtcgiancmponmgaaPlJ
namespace Go.Proofs.Ytcgiancmponmgaa

/-- The state of the loop of Xgcd at 0 < a < m. -/
def XSt (a m g rest u next : Int) : Prop :=
  ∃ s U V : Int, (s = 1 ∨ s = -1) ∧ 0 ≤ U ∧ U ≤ m ∧ 0 ≤ V ∧ u = s * U ∧ next = -(s * V) ∧ V * g + U * rest = m ∧ 0 < g ∧ 0 ≤ rest ∧ m ∣ g - u * a ∧ m ∣ rest - next * a ∧ Int.gcd g rest = 1 ∧ g ≤ m ∧ rest ≤ m

theorem xst_start {a m : Int} (ha : 0 < a) (ham : a < m) (hg : Int.gcd a m = 1) : XSt a m a m 1 0 :=
  ⟨1, 1, 0, .inl rfl, by omega, by omega, by omega, by omega, by omega, by omega, ha, by omega, by simp, by simp, hg, by omega, by omega⟩
theorem xst_bd {a m g rest u next : Int} (h : XSt a m g rest u next) : 0 < g ∧ g ≤ m ∧ 0 ≤ rest ∧ rest ≤ m ∧ -m ≤ u ∧ u ≤ m ∧ -m ≤ next ∧ next ≤ m := by
  obtain ⟨s, U, V, hs, h1, h2, h3, h4, h5, h6, h7, h8, -, -, -, h9, h10⟩ := h
  have hV : V ≤ m := by
    have e1 : V * 1 ≤ V * g := Int.mul_le_mul_of_nonneg_left (by omega) h3
    have e2 : 0 ≤ U * rest := Int.mul_nonneg h1 h8
    omega
  rcases hs with rfl | rfl <;> omega
theorem xst_step {a m g rest u next : Int} (h : XSt a m g rest u next) (hr : rest ≠ 0) :
    XSt a m rest (g - g.tdiv rest * rest) next (u - g.tdiv rest * next) ∧ (0 ≤ g.tdiv rest ∧ g.tdiv rest ≤ m) ∧ (0 ≤ g.tdiv rest * rest ∧ g.tdiv rest * rest ≤ g) ∧ (-(2 * m) ≤ g.tdiv rest * next ∧ g.tdiv rest * next ≤ 2 * m) ∧ g - g.tdiv rest * rest < rest ∧ 0 ≤ g - g.tdiv rest * rest := by
  obtain ⟨s, U, V, hs, h1, h2, h3, h4, h5, h6, h7, h8, h9, h10, h11, h12, h13⟩ := h
  have hrp : 0 < rest := by omega
  obtain ⟨q, hq⟩ : ∃ q, g.tdiv rest = q := ⟨_, rfl⟩
  have hq0 : 0 ≤ q := by rw [← hq]; exact Int.tdiv_nonneg (by omega) h8
  have hmod : g - q * rest = g.tmod rest := by
    have := Int.tmod_add_mul_tdiv g rest
    rw [hq, Int.mul_comm rest q] at this
    omega
  have hm1 : 0 ≤ g.tmod rest := Int.tmod_nonneg _ (by omega)
  have hm2 : g.tmod rest < rest := Int.tmod_lt_of_pos _ hrp
  rw [hq]
  have hqr : 0 ≤ q * rest := Int.mul_nonneg hq0 h8
  have hqm : q ≤ m := by
    have : q * 1 ≤ q * rest := Int.mul_le_mul_of_nonneg_left (by omega) hq0
    omega
  have hqV : 0 ≤ q * V := Int.mul_nonneg hq0 h3
  have hV : V ≤ m := by
    have e1 : V * 1 ≤ V * g := Int.mul_le_mul_of_nonneg_left (by omega) h3
    have e2 : 0 ≤ U * rest := Int.mul_nonneg h1 h8
    omega
  have hkey : (U + q * V) * rest + V * (g - q * rest) = m := by
    have e1 : (U + q * V) * rest = U * rest + q * V * rest := Int.add_mul _ _ _
    have e2 : V * (g - q * rest) = V * g - V * (q * rest) := Int.mul_sub _ _ _
    have e3 : V * (q * rest) = q * V * rest := by rw [← Int.mul_assoc, Int.mul_comm V q]
    omega
  have hUV : U + q * V ≤ m := by
    have e1 : (U + q * V) * 1 ≤ (U + q * V) * rest := Int.mul_le_mul_of_nonneg_left (by omega) (by omega)
    have e2 : 0 ≤ V * (g - q * rest) := Int.mul_nonneg h3 (by omega)
    omega
  have hqn : q * next = -(s * (q * V)) := by
    rw [h5, Int.mul_neg, ← Int.mul_assoc, ← Int.mul_assoc, Int.mul_comm q s]
  refine ⟨⟨-s, V, U + q * V, by omega, h3, hV, by omega, by rw [h5, Int.neg_mul], ?_, hkey, hrp, by omega, h10, ?_, ?_, h13, by omega⟩, ⟨hq0, hqm⟩, ⟨hqr, by omega⟩, ?_, by omega, by omega⟩
  · rw [hqn, h4, Int.neg_mul, Int.mul_add]; omega
  · have e : g - q * rest - (u - q * next) * a = (g - u * a) - q * (rest - next * a) := by
      rw [Int.sub_mul, Int.mul_sub, Int.mul_assoc]; omega
    rw [e]
    exact Int.dvd_sub h9 (Int.dvd_mul_of_dvd_right h10)
  · rw [hmod, ← h11]
    simp only [Int.gcd, Int.natAbs_tmod]
    rw [Nat.gcd_comm g.natAbs rest.natAbs, Nat.gcd_rec rest.natAbs g.natAbs, Nat.gcd_comm]
  · rw [hqn]
    rcases hs with rfl | rfl <;> omega
theorem xst_end {a m g u next : Int} (h : XSt a m g 0 u next) : g = 1 ∧ m ∣ 1 - u * a := by
  obtain ⟨s, U, V, hs, h1, h2, h3, h4, h5, h6, h7, h8, h9, h10, h11, h12, h13⟩ := h
  have hg : g = 1 := by
    rw [Int.gcd_zero_right] at h11
    omega
  rw [hg] at h9
  exact ⟨hg, h9⟩
end Go.Proofs.Ytcgiancmponmgaa
