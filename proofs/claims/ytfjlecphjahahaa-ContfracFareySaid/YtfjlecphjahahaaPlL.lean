/- Plain laws of convergents: consecutive determinants, growing denominators, all within the bounds. No program here. -/
import Derived.Test.YtfjlecphjahahaaPlJ
namespace Go.Proofs.Ytfjlecphjahahaa

def cross (c b : C2) : Int := c.p * b.q - b.p * c.q
theorem cross_next (n : Int) (a b : C2) : cross ⟨n * b.p + a.p, n * b.q + a.q⟩ b = -cross b a := by
  simp only [cross, Int.add_mul, Int.mul_add]
  have e : n * b.p * b.q = b.p * (n * b.q) := by rw [Int.mul_comm n b.p, Int.mul_assoc]
  rw [e, Int.mul_comm a.p b.q, Int.mul_comm b.q a.p]; omega
theorem convR_cons {n : Int} {l : List Int} {a b : C2} {x : List C2} (h : convR (n :: l) a b = some x) :
    ∃ y, x = ⟨n * b.p + a.p, n * b.q + a.q⟩ :: y ∧ convR l b ⟨n * b.p + a.p, n * b.q + a.q⟩ = some y ∧ inB (n * b.p + a.p) = true ∧ inB (n * b.q + a.q) = true := by
  simp only [convR] at h
  split at h
  · rename_i hin
    simp only [Bool.and_eq_true] at hin
    cases hr : convR l b ⟨n * b.p + a.p, n * b.q + a.q⟩ with
    | none => rw [hr] at h; simp at h
    | some y =>
      rw [hr] at h
      simp at h
      exact ⟨y, h.symm, rfl, hin.1, hin.2⟩
  · simp at h
theorem conv_cross : ∀ (l : List Int) (a b : C2) (x : List C2), convR l a b = some x → ∀ j, j < x.length → cross (x.getD j C2.zero) (if j = 0 then b else x.getD (j - 1) C2.zero) = if j % 2 = 0 then -cross b a else cross b a
  | [], a, b, x, h, j, hj => by simp [convR] at h; subst h; simp at hj
  | n :: l, a, b, x, h, 0, hj => by
    obtain ⟨y, rfl, _, _⟩ := convR_cons h
    simpa using cross_next n a b
  | n :: l, a, b, x, h, j + 1, hj => by
    obtain ⟨y, rfl, hy, _⟩ := convR_cons h
    have ih := conv_cross l _ _ y hy j (by simpa using hj)
    rw [cross_next] at ih
    have e2 : (if j + 1 = 0 then b else ((⟨n * b.p + a.p, n * b.q + a.q⟩ : C2) :: y).getD (j + 1 - 1) C2.zero) = if j = 0 then ⟨n * b.p + a.p, n * b.q + a.q⟩ else y.getD (j - 1) C2.zero := by
      cases j <;> simp
    rw [e2]
    have e3 : ((⟨n * b.p + a.p, n * b.q + a.q⟩ : C2) :: y).getD (j + 1) C2.zero = y.getD j C2.zero := by simp
    rw [e3, ih]
    by_cases hp : j % 2 = 0
    · rw [if_pos hp, if_neg (by omega)]; omega
    · rw [if_neg hp, if_pos (by omega)]
theorem conv_mono : ∀ (l : List Int) (i : Nat) (a b : C2) (x : List C2), 1 ≤ i → okL i l = true → 0 ≤ a.q → 1 ≤ b.q → convR l a b = some x → ∀ j, j < x.length → (if j = 0 then b else x.getD (j - 1) C2.zero).q ≤ (x.getD j C2.zero).q ∧ 1 ≤ (x.getD j C2.zero).q
  | [], i, a, b, x, _, _, _, _, h, j, hj => by simp [convR] at h; subst h; simp at hj
  | n :: l, i, a, b, x, hi, hok, ha, hb, h, j, hj => by
    obtain ⟨y, rfl, hy, _⟩ := convR_cons h
    simp only [okL, okE, Bool.and_eq_true, Bool.or_eq_true, decide_eq_true_eq] at hok
    have hn : 1 ≤ n := by omega
    have hnb : b.q ≤ n * b.q := by
      have : 1 * b.q ≤ n * b.q := Int.mul_le_mul_of_nonneg_right hn (by omega)
      omega
    cases j with
    | zero => simp; omega
    | succ j =>
      have ih := conv_mono l (i + 1) b ⟨n * b.p + a.p, n * b.q + a.q⟩ y (by omega) hok.2 (by omega) (by simp only; omega) hy j (by simpa using hj)
      have e2 : (if j + 1 = 0 then b else ((⟨n * b.p + a.p, n * b.q + a.q⟩ : C2) :: y).getD (j + 1 - 1) C2.zero) = if j = 0 then ⟨n * b.p + a.p, n * b.q + a.q⟩ else y.getD (j - 1) C2.zero := by
        cases j <;> simp
      rw [e2]
      simpa using ih
theorem conv_in : ∀ (l : List Int) (a b : C2) (x : List C2), convR l a b = some x → ∀ j, j < x.length → inB (x.getD j C2.zero).p = true ∧ inB (x.getD j C2.zero).q = true
  | [], a, b, x, h, j, hj => by simp [convR] at h; subst h; simp at hj
  | n :: l, a, b, x, h, j, hj => by
    obtain ⟨y, rfl, hy, h1, h2⟩ := convR_cons h
    cases j with
    | zero => simpa using ⟨h1, h2⟩
    | succ j => simpa using conv_in l _ _ y hy j (by simpa using hj)

theorem convF_some {l : List Int} {x : List C2} (h : convF l = (x, 0)) : convR l ⟨0, 1⟩ ⟨1, 0⟩ = some x ∧ okL 0 l = true ∧ l.length ≤ 64 ∧ 0 < l.length := by
  unfold convF at h
  split at h
  · simp at h
  · split at h
    · simp at h
    · split at h
      · rename_i hk
        cases hr : convR l ⟨0, 1⟩ ⟨1, 0⟩ with
        | none => rw [hr] at h; simp at h
        | some y =>
          rw [hr] at h
          simp at h
          exact ⟨by rw [h], hk, by omega, by omega⟩
      · simp at h
theorem convF_err {l : List Int} (h : (convF l).2 ≠ 0) : (convF l).1 = [] := by
  unfold convF at h ⊢
  split
  · rfl
  · split
    · rfl
    · split
      · rename_i h1 h2 h3
        rw [if_neg h1, if_neg h2, if_pos h3] at h
        cases hr : convR l ⟨0, 1⟩ ⟨1, 0⟩ with
        | none => rfl
        | some y => rw [hr] at h; simp at h
      · rfl
/-- All about the convergents of a list. -/
theorem conv_spec {l : List Int} {x : List C2} (h : convF l = (x, 0)) : (∀ j, 1 ≤ j → j < x.length → cross (x.getD j C2.zero) (x.getD (j - 1) C2.zero) = 2 * ((j : Int) % 2) - 1 ∧ (x.getD (j - 1) C2.zero).q ≤ (x.getD j C2.zero).q) ∧
    (∀ j, j < x.length → inB (x.getD j C2.zero).p = true ∧ inB (x.getD j C2.zero).q = true ∧ 1 ≤ (x.getD j C2.zero).q) := by
  obtain ⟨h1, h2, h3, h4⟩ := convF_some h
  cases l with
  | nil => simp at h4
  | cons n l =>
    have hx := h1
    obtain ⟨y, rfl, hy, hi1, hi2⟩ := convR_cons h1
    simp only [okL, Bool.and_eq_true] at h2
    have hm := conv_mono l 1 ⟨1, 0⟩ ⟨n * 1 + 0, n * 0 + 1⟩ y (by omega) h2.2 (by simp) (by simp) hy
    refine ⟨fun j hj1 hj2 => ?_, fun j hj => ?_⟩
    · obtain ⟨k, rfl⟩ : ∃ k, j = k + 1 := ⟨j - 1, by omega⟩
      constructor
      · have hc := conv_cross _ _ _ _ hx (k + 1) hj2
        rw [if_neg (by omega)] at hc
        rw [hc]
        simp only [cross]
        by_cases hp : (k + 1) % 2 = 0
        · rw [if_pos hp]; omega
        · rw [if_neg hp]; omega
      · have := (hm k (by simpa using hj2)).1
        cases k with
        | zero => simpa using this
        | succ k => simpa using this
    · have hin := conv_in _ _ _ _ hx j hj
      refine ⟨hin.1, hin.2, ?_⟩
      cases j with
      | zero => simp
      | succ k => simpa using (hm k (by simpa using hj)).2
theorem gcd_cross {c b : C2} {s : Int} (h : cross c b = s) (hs : s = 1 ∨ s = -1) : Int.gcd c.p c.q = 1 := by
  have h1 : (Int.gcd c.p c.q : Int) ∣ s := by
    rw [← h]
    exact Int.dvd_sub (Int.dvd_mul_of_dvd_left (Int.gcd_dvd_left ..)) (Int.dvd_mul_of_dvd_right (Int.gcd_dvd_right ..))
  have h2 : Int.gcd c.p c.q ∣ s.natAbs := by have := Int.natAbs_dvd_natAbs.2 h1; simpa using this
  rw [show s.natAbs = 1 by omega] at h2
  exact Nat.dvd_one.1 h2
theorem conv_cc {l : List Int} {x : List C2} (h : convF l = (x, 0)) {j : Nat} (h1 : 1 ≤ j) (hj : j < x.length) : ccF (x.getD j C2.zero) = 0 := by
  obtain ⟨ha, hb⟩ := conv_spec h
  obtain ⟨b1, b2, b3⟩ := hb j hj
  exact ccF_zero.2 ⟨b1, by omega, b2, gcd_cross (ha j h1 hj).1 (by omega), fun h => by omega⟩
end Go.Proofs.Ytfjlecphjahahaa
