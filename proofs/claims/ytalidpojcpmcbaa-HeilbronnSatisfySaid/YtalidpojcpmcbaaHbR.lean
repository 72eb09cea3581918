/- Plain laws of the extended gcd at any two numbers: the state of its loop. No program here. -/
import Derived.Test.YtalidpojcpmcbaaHbQ
namespace Go.Proofs.Ytalidpojcpmcbaa

def YSt (a b g rest u next : Int) : Prop :=
  b ∣ g - u * a ∧ b ∣ rest - next * a ∧ Int.gcd g rest = Int.gcd a b ∧ g.natAbs ≤ 1073741824 ∧ rest.natAbs ≤ b.natAbs ∧ u.natAbs ≤ b.natAbs ∧ next.natAbs ≤ b.natAbs ∧ u.natAbs * rest.natAbs + next.natAbs * g.natAbs ≤ b.natAbs
theorem yst_start {a b : Int} (hb : b ≠ 0) (ha : a.natAbs ≤ 1073741824) : YSt a b a b 1 0 :=
  ⟨by simp, by simp, rfl, ha, Nat.le_refl _, by show 1 ≤ b.natAbs; omega, by simp, by simp⟩
theorem yst_step {a b g rest u next : Int} (h : YSt a b g rest u next) (hb : b.natAbs ≤ 1073741824) (hr : rest ≠ 0) :
    YSt a b rest (g - g.tdiv rest * rest) next (u - g.tdiv rest * next) ∧ (g.tdiv rest).natAbs ≤ 1073741824 ∧ (g.tdiv rest * rest).natAbs ≤ 1073741824 ∧ (g.tdiv rest * next).natAbs ≤ 1073741824 ∧ (g - g.tdiv rest * rest).natAbs < rest.natAbs := by
  obtain ⟨h1, h2, h3, h4, h5, h6, h7, h8⟩ := h
  obtain ⟨q, hq⟩ : ∃ q, g.tdiv rest = q := ⟨_, rfl⟩
  have hmod : g - q * rest = g.tmod rest := by
    have := Int.tmod_add_mul_tdiv g rest
    rw [hq, Int.mul_comm rest q] at this
    omega
  rw [hq]
  have hqa : q.natAbs = g.natAbs / rest.natAbs := by rw [← hq, Int.natAbs_tdiv]; rfl
  have hma : (g.tmod rest).natAbs = g.natAbs % rest.natAbs := Int.natAbs_tmod g rest
  have hR : 0 < rest.natAbs := by omega
  have hdm := Nat.div_add_mod g.natAbs rest.natAbs
  have hlt := Nat.mod_lt g.natAbs hR
  rw [← hqa, ← hma] at hdm
  rw [← hma] at hlt
  have hQ : q.natAbs ≤ g.natAbs := by rw [hqa]; exact Nat.div_le_self _ _
  have hqr : (q * rest).natAbs ≤ g.natAbs := by rw [Int.natAbs_mul, Nat.mul_comm]; omega
  have hng : next.natAbs * g.natAbs ≤ b.natAbs := by omega
  have hqn : (q * next).natAbs ≤ b.natAbs := by
    rw [Int.natAbs_mul]
    exact Nat.le_trans (Nat.mul_le_mul_right _ hQ) (by rw [Nat.mul_comm]; exact hng)
  have hn2 : (u - q * next).natAbs ≤ u.natAbs + q.natAbs * next.natAbs := by
    have := Int.natAbs_mul q next
    omega
  have hkey : next.natAbs * (g.tmod rest).natAbs + (u.natAbs + q.natAbs * next.natAbs) * rest.natAbs ≤ b.natAbs := by
    have e : next.natAbs * (g.tmod rest).natAbs + (u.natAbs + q.natAbs * next.natAbs) * rest.natAbs = u.natAbs * rest.natAbs + next.natAbs * g.natAbs := by
      rw [← hdm]; grind
    omega
  have hk2 : (u - q * next).natAbs * rest.natAbs ≤ (u.natAbs + q.natAbs * next.natAbs) * rest.natAbs := Nat.mul_le_mul_right _ hn2
  have hk3 : (u - q * next).natAbs * 1 ≤ (u - q * next).natAbs * rest.natAbs := Nat.mul_le_mul_left _ hR
  refine ⟨⟨h2, ?_, ?_, by omega, ?_, h7, by omega, ?_⟩, by omega, by omega, by omega, by rw [hmod]; exact hlt⟩
  · have e : g - q * rest - (u - q * next) * a = (g - u * a) - q * (rest - next * a) := by
      rw [Int.sub_mul, Int.mul_sub, Int.mul_assoc]; omega
    rw [e]
    exact Int.dvd_sub h1 (Int.dvd_mul_of_dvd_right h2)
  · rw [hmod, ← h3]
    simp only [Int.gcd, Int.natAbs_tmod]
    rw [Nat.gcd_comm g.natAbs rest.natAbs, Nat.gcd_rec rest.natAbs g.natAbs, Nat.gcd_comm]
  · rw [hmod]; omega
  · rw [hmod]; omega
theorem yst_end {a b g u next : Int} (h : YSt a b g 0 u next) : g.natAbs = Int.gcd a b ∧ b ∣ g - u * a ∧ u.natAbs ≤ b.natAbs := by
  obtain ⟨h1, h2, h3, h4, h5, h6, h7, h8⟩ := h
  rw [Int.gcd_zero_right] at h3
  exact ⟨h3, h1, h6⟩
theorem gcd_dvd' {a b c : Int} (h : (Int.gcd a b : Int) = c) : c ∣ a ∧ c ∣ b := by
  subst h; exact ⟨Int.gcd_dvd_left .., Int.gcd_dvd_right ..⟩
/-- The end of the program's reckoning. -/
theorem xg_end {a b g u m : Int} (hg : (Int.gcd a b : Int) = g) (hb : b ≠ 0) (hd : b ∣ g - u * a) (hm : (b.natAbs : Int).tdiv g = m) : 0 < g ∧ g ≤ b.natAbs ∧ 0 < m ∧ m ≤ b.natAbs ∧ (u % m) * a + (g - (u % m) * a).tdiv b * b = g := by
  obtain ⟨⟨x, hx⟩, ⟨y, hy⟩⟩ := gcd_dvd' hg
  have hg0 : 0 < g := by
    have : Int.gcd a b ≠ 0 := fun h => hb (Int.gcd_eq_zero_iff.1 h).2
    omega
  have hb1 : (b.natAbs : Int) = g * y.natAbs := by
    have : b.natAbs = g.natAbs * y.natAbs := by rw [hy, Int.natAbs_mul]
    rw [this]; push_cast; rw [Int.natAbs_of_nonneg (by omega)] <;> omega
  have hme : m = y.natAbs := by rw [← hm, hb1]; exact Int.mul_tdiv_cancel_left _ (by omega)
  have hy0 : y ≠ 0 := by rintro rfl; simp at hy; exact hb hy
  have hm0 : 0 < m := by omega
  have h1 : g * 1 ≤ g * (y.natAbs : Int) := Int.mul_le_mul_of_nonneg_left (by omega) (by omega)
  have h2 : 1 * (y.natAbs : Int) ≤ g * (y.natAbs : Int) := Int.mul_le_mul_of_nonneg_right (by omega) (by omega)
  refine ⟨hg0, by omega, hm0, by omega, ?_⟩
  have hdv : b ∣ g - (u % m) * a := by
    have e : g - u % m * a = (g - u * a) + m * (u / m) * a := by
      have h := Int.emod_add_mul_ediv u m
      have h3 : u % m = u - m * (u / m) := by omega
      rw [h3, Int.sub_mul]; omega
    rw [e]
    refine Int.dvd_add hd ?_
    have e2 : m * (u / m) * a = (m * g) * (u / m * x) := by rw [hx]; grind
    rw [e2, hme, Int.mul_comm _ g, ← hb1]
    exact Int.dvd_mul_of_dvd_left (Int.dvd_natAbs.2 (Int.dvd_refl b))
  obtain ⟨v, hv⟩ := hdv
  rw [hv, Int.mul_tdiv_cancel_left _ hb]
  have := Int.mul_comm b v
  omega
theorem xg_bd {a b g r : Int} (hg0 : 0 < g) (hg : g ≤ b.natAbs) (hr : 0 ≤ r) (hr2 : r ≤ b.natAbs) : ((g - r * a).tdiv b).natAbs ≤ a.natAbs + 1 := by
  rw [Int.natAbs_tdiv]
  have h1 : (r * a).natAbs ≤ b.natAbs * a.natAbs := by rw [Int.natAbs_mul]; exact Nat.mul_le_mul_right _ (by omega)
  refine Nat.div_le_of_le_mul ?_
  rw [Nat.mul_add]
  omega
end Go.Proofs.Ytalidpojcpmcbaa
