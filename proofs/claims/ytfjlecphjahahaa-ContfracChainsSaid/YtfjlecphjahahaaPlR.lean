/- Plain laws of the path of a cusp. No program here. -/
import Derived.Test.YtfjlecphjahahaaCfL
import Derived.Test.YtfjlecphjahahaaCfD
import Derived.Test.YtfjlecphjahahaaPlM
namespace Go.Proofs.Ytfjlecphjahahaa

theorem path_spec {c : C2} (h : (pathF c).2 = 0) : 0 < (pathF c).1.length ∧ (pathF c).1.getD 0 C2.zero = ⟨1, 0⟩ ∧ (pathF c).1.getD ((pathF c).1.length - 1) C2.zero = c ∧ Nb (pathF c).1 := by
  unfold pathF at h ⊢
  by_cases h5 : (expandF c).2 = 5
  · rw [if_pos h5]
    have hc : c = ⟨1, 0⟩ := by
      unfold expandF at h5
      by_cases h0 : ccF c = 0
      · rw [if_pos h0] at h5
        by_cases hq : c.q = 0
        · have := (ccF_zero.1 h0).2.2.2.2 hq
          cases c; simp_all
        · rw [if_neg hq] at h5; simp at h5
      · rw [if_neg h0] at h5
        simp only at h5
        unfold ccF at h5
        split at h5
        · split at h5 <;> simp at h5
        · simp at h5
    refine ⟨by simp, by simp, by simp [hc], fun j hj => ?_, fun j hj1 hj2 => ?_⟩
    · have : j = 0 := by simp at hj; omega
      subst this
      simp; decide
    · simp at hj2; omega
  · rw [if_neg h5] at h ⊢
    by_cases h0 : (expandF c).2 = 0
    · rw [if_pos h0] at h ⊢
      have hcc : ccF c = 0 ∧ c.q ≠ 0 := by
        unfold expandF at h0 h5
        by_cases h1 : ccF c = 0
        · refine ⟨h1, fun hq => ?_⟩
          rw [if_pos h1, if_pos hq] at h5; simp at h5
        · rw [if_neg h1] at h0; exact absurd h0 h1
      obtain ⟨x, e1, e2, e3, e4, e5, e6⟩ := exp_top hcc.1 hcc.2
      rw [e2]
      refine ⟨by simp, by simp, ?_, conv_nb e2⟩
      simp only [List.length_cons, Nat.add_sub_cancel]
      obtain ⟨k, hk⟩ : ∃ k, x.length = k + 1 := ⟨x.length - 1, by omega⟩
      rw [hk] at e5 ⊢
      simpa using e5
    · rw [if_neg h0] at h; exact absurd h h0
theorem path_nil {c : C2} (h : (pathF c).2 ≠ 0) : (pathF c).1 = [] := by
  unfold pathF at h ⊢
  by_cases h5 : (expandF c).2 = 5
  · rw [if_pos h5] at h; simp at h
  · rw [if_neg h5] at h ⊢
    by_cases h0 : (expandF c).2 = 0
    · rw [if_pos h0] at h; simp at h
    · rw [if_neg h0]

end Go.Proofs.Ytfjlecphjahahaa
