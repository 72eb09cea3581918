/- Plain laws of mediants and parents. No program here. -/
import Derived.Test.YtfjlecphjahahaaCfH
import Derived.Test.YtfjlecphjahahaaCfL
import Derived.Test.YtfjlecphjahahaaCfO
import Derived.Test.YtfjlecphjahahaaPlE
namespace Go.Proofs.Ytfjlecphjahahaa

theorem par_unique {c s t : C2} (hg : Int.gcd c.p c.q = 1) (hs : ParSpec c s) (ht : ParSpec c t) : s = t := by
  obtain ⟨s1, s2, s3⟩ := hs
  obtain ⟨t1, t2, t3⟩ := ht
  have h1 : c.p * (s.q - t.q) = c.q * (s.p - t.p) := by grind
  have h2 : c.q ∣ s.q - t.q := dvd_co ⟨s.p - t.p, h1⟩ hg
  have h3 : s.q = t.q := by
    obtain ⟨k, hk⟩ := h2
    rcases Int.lt_trichotomy k 0 with h | h | h
    · have : c.q * k ≤ c.q * -1 := Int.mul_le_mul_of_nonneg_left (by omega) (by omega)
      omega
    · rw [h] at hk; omega
    · have : c.q * 1 ≤ c.q * k := Int.mul_le_mul_of_nonneg_left (by omega) (by omega)
      omega
  have h4 : c.q * (s.p - t.p) = 0 := by rw [← h1, h3]; simp
  have h5 : s.p = t.p := by
    rcases Int.mul_eq_zero.1 h4 with h | h <;> omega
  cases s; cases t
  simp only at h3 h5
  rw [h3, h5]
theorem par_bd {c t : C2} (h0 : ccF c = 0) (hq : 2 ≤ c.q) (h : ParSpec c t) : 1 ≤ t.q ∧ -1073741824 ≤ t.p ∧ t.p ≤ 1073741824 ∧ -1073741824 ≤ c.p - t.p ∧ c.p - t.p ≤ 1073741824 := by
  obtain ⟨g1, g2, g3, g4, -⟩ := ccF_zero.1 h0
  obtain ⟨b1, b2⟩ := inB_iff.1 g1
  obtain ⟨t1, t2, t3⟩ := h
  have hq1 : 1 ≤ t.q := by
    rcases Int.lt_or_le t.q 1 with h | h
    · have h0 : t.q = 0 := by omega
      rw [h0, Int.mul_zero, Int.zero_sub] at t3
      have hd : c.q ∣ 1 := ⟨-t.p, by rw [Int.mul_neg, Int.mul_comm]; omega⟩
      have := Int.eq_one_of_dvd_one (by omega) hd
      omega
    · exact h
  obtain ⟨B, hB⟩ : ∃ B : Int, B = 1073741824 := ⟨_, rfl⟩
  have u1 : c.p * t.q ≤ B * t.q := Int.mul_le_mul_of_nonneg_right (by omega) (by omega)
  have u2 : -B * t.q ≤ c.p * t.q := Int.mul_le_mul_of_nonneg_right (by omega) (by omega)
  have u3 : B * t.q ≤ B * (c.q - 1) := Int.mul_le_mul_of_nonneg_left (by omega) (by omega)
  have u4 : c.p * (c.q - t.q) ≤ B * (c.q - t.q) := Int.mul_le_mul_of_nonneg_right (by omega) (by omega)
  have u5 : -B * (c.q - t.q) ≤ c.p * (c.q - t.q) := Int.mul_le_mul_of_nonneg_right (by omega) (by omega)
  have u6 : B * (c.q - t.q) ≤ B * (c.q - 1) := Int.mul_le_mul_of_nonneg_left (by omega) (by omega)
  have e1 : (c.p - t.p) * c.q = c.p * (c.q - t.q) + 1 := by grind
  rw [Int.neg_mul] at u2 u5
  have x1 : B * (c.q - 1) = B * c.q - B := by rw [Int.mul_sub, Int.mul_one]
  have x2 : B * (c.q - t.q) = B * c.q - B * t.q := Int.mul_sub _ _ _
  rw [x1] at u3
  rw [x2] at u4 u5 u6
  rw [x1] at u6
  have hqp : 0 < c.q := by omega
  have v1 : t.p * c.q < (B + 1) * c.q := by rw [Int.add_mul]; omega
  have v2 : (-B - 1) * c.q < t.p * c.q := by rw [Int.sub_mul, Int.neg_mul]; omega
  have v3 : (c.p - t.p) * c.q < (B + 1) * c.q := by rw [Int.add_mul]; omega
  have v4 : (-B - 1) * c.q < (c.p - t.p) * c.q := by rw [Int.sub_mul, Int.neg_mul]; omega
  have w1 := Int.lt_of_mul_lt_mul_right v1 (by omega)
  have w2 := Int.lt_of_mul_lt_mul_right v2 (by omega)
  have w3 := Int.lt_of_mul_lt_mul_right v3 (by omega)
  have w4 := Int.lt_of_mul_lt_mul_right v4 (by omega)
  omega
/-- The mediant of the parents is the cusp. -/
theorem par_med {c t : C2} (h0 : ccF c = 0) (hq : 2 ≤ c.q) (h : ParSpec c t) : medF t ⟨c.p - t.p, c.q - t.q⟩ = (c, 0) ∧ c.q - t.q < c.q := by
  obtain ⟨g1, g2, g3, g4, -⟩ := ccF_zero.1 h0
  have hb := par_bd h0 hq h
  have b3 := inB_iff.1 g3
  obtain ⟨t1, t2, t3⟩ := h
  have c1 : ccF t = 0 := by
    refine ccF_zero.2 ⟨inB_iff.2 ⟨hb.2.1, hb.2.2.1⟩, t1, inB_iff.2 ⟨by omega, by omega⟩, ?_, fun h => by omega⟩
    exact gcd_cross (b := c) (s := -1) (by simp only [cross]; omega) (.inr rfl)
  have c2 : ccF ⟨c.p - t.p, c.q - t.q⟩ = 0 := by
    refine ccF_zero.2 ⟨inB_iff.2 ⟨hb.2.2.2.1, hb.2.2.2.2⟩, by simp only; omega, inB_iff.2 ⟨by simp only; omega, by simp only; omega⟩, ?_, fun h => by simp only at h; omega⟩
    exact gcd_cross (b := t) (s := 1) (by simp only [cross]; grind) (.inl rfl)
  have hck : ckF t ⟨c.p - t.p, c.q - t.q⟩ = 0 := ckF_zero.2 ⟨c1, c2⟩
  have hf : fixA t = t := by unfold fixA; rw [if_neg (by omega)]
  refine ⟨?_, by omega⟩
  unfold medF
  rw [if_pos hck, hf, if_pos (by simp only [cross]; grind)]
  have e1 : t.p + (c.p - t.p) = c.p := by omega
  have e2 : t.q + (c.q - t.q) = c.q := by omega
  simp only [e1, e2]
  rw [if_pos (by simp [g1, g3])]
/-- What a mediant is. -/
theorem med_spec {a b c : C2} (h : medF a b = (c, 0)) : Nb [a, c, b] ∧ (a.q ≠ 0 → b.q ≠ 0 → ccF c = 0 ∧ 2 ≤ c.q ∧ ParSpec c a ∧ b = ⟨c.p - a.p, c.q - a.q⟩) := by
  unfold medF at h
  by_cases hk : ckF a b = 0
  · rw [if_pos hk] at h
    obtain ⟨ha, hb⟩ := ckF_zero.1 hk
    obtain ⟨a1, a2, a3, a4, a5⟩ := ccF_zero.1 ha
    obtain ⟨b1, b2, b3, b4, b5⟩ := ccF_zero.1 hb
    by_cases hc : cross b (fixA a) = 1
    · rw [if_pos hc] at h
      by_cases hin : (inB ((fixA a).p + b.p) && inB ((fixA a).q + b.q)) = true
      · rw [if_pos hin] at h
        simp only [Bool.and_eq_true] at hin
        simp only [Prod.mk.injEq, and_true] at h
        by_cases hq : a.q = 0
        · have hp := a5 hq
          have hf : fixA a = ⟨-1, 0⟩ := by unfold fixA; rw [if_pos hq, hq]
          rw [hf] at hc h hin
          simp only [cross] at hc
          subst h
          (try simp only at hin)
          refine ⟨⟨fun j hj => ?_, fun j h1 h2 => ?_⟩, fun h => absurd hq h⟩
          · match j, hj with
            | 0, _ => exact ⟨a1, a3⟩
            | 1, _ => exact hin
            | 2, _ => exact ⟨b1, b3⟩
          · match j, h1, h2 with
            | 1, _, _ => left; simp [cross, hq, hp]; omega
            | 2, _, _ => right; simp [cross]; grind
        · have hf : fixA a = a := by unfold fixA; rw [if_neg hq]
          rw [hf] at hc h hin
          simp only [cross] at hc
          subst h
          (try simp only at hin)
          refine ⟨⟨fun j hj => ?_, fun j h1 h2 => ?_⟩, fun h3 h4 => ⟨?_, by simp only; omega, ⟨a2, by simp only; omega, by simp only; grind⟩, ?_⟩⟩
          · match j, hj with
            | 0, _ => exact ⟨a1, a3⟩
            | 1, _ => exact hin
            | 2, _ => exact ⟨b1, b3⟩
          · match j, h1, h2 with
            | 1, _, _ => right; simp [cross]; grind
            | 2, _, _ => right; simp [cross]; grind
          · refine ccF_zero.2 ⟨hin.1, by simp only; omega, hin.2, ?_, fun h => by simp only at h; omega⟩
            exact gcd_cross (b := b) (s := -1) (by simp only [cross]; grind) (.inr rfl)
          · cases b; simp only; congr 1 <;> omega
      · rw [if_neg hin] at h; simp at h
    · rw [if_neg hc] at h; simp at h
  · rw [if_neg hk] at h
    simp only [Prod.mk.injEq] at h
    exact absurd h.2 hk
end Go.Proofs.Ytfjlecphjahahaa
