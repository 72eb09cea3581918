/- Plain laws of the expansion of a cusp: its convergents exist, the last one is the cusp, and they are best approximations. No program here. -/
import Derived.Test.YtfjlecphjahahaaPlL
namespace Go.Proofs.Ytfjlecphjahahaa

structure Eu (p0 q0 p q : Int) (a b : C2) : Prop where
  hp : p0 = p * b.p + q * a.p
  hq : q0 = p * b.q + q * a.q
  det : cross b a = 1 ∨ cross b a = -1
  a0 : 0 ≤ a.q
  b0 : 0 ≤ b.q
  nn : 0 ≤ q
  le : q ≤ q0
  pos : 0 < b.q → q < p

theorem eu_start {p q : Int} (hq : 0 < q) : Eu p q p q ⟨0, 1⟩ ⟨1, 0⟩ :=
  ⟨by simp, by simp, .inl (by simp [cross]), by simp, by simp, by omega, by omega, by simp⟩
theorem eu_quo {p0 q0 p q : Int} {a b : C2} (h : Eu p0 q0 p q a b) (hq : q ≠ 0) (hb : 0 < b.q) : 1 ≤ p / q := by
  have h1 := h.pos hb
  have h2 := h.nn
  have : q * 1 ≤ p := by omega
  exact (Int.le_ediv_iff_mul_le (by omega)).2 (by omega)
theorem eu_step {p0 q0 p q : Int} {a b : C2} (h : Eu p0 q0 p q a b) (hq : q ≠ 0) (hbq : b.q = 0 → a.q = 1 ∧ q = q0) (B : Int) (hB : -B ≤ p0 ∧ p0 ≤ B) :
    Eu p0 q0 q (p % q) b ⟨p / q * b.p + a.p, p / q * b.q + a.q⟩ ∧ 1 ≤ p / q * b.q + a.q ∧ p / q * b.q + a.q ≤ q0 ∧ -B ≤ p / q * b.p + a.p ∧ p / q * b.p + a.p ≤ B := by
  obtain ⟨h1, h2, h3, h4, h5, h6, h7, h8⟩ := h
  have hqp : 0 < q := by omega
  obtain ⟨n, hn⟩ : ∃ n, p / q = n := ⟨_, rfl⟩
  obtain ⟨r, hr⟩ : ∃ r, p % q = r := ⟨_, rfl⟩
  have hr0 : 0 ≤ r := by rw [← hr]; exact Int.emod_nonneg _ hq
  have hr1 : r < q := by rw [← hr]; exact Int.emod_lt_of_pos _ hqp
  have hpn : p = q * n + r := by rw [← hn, ← hr]; have := Int.emod_add_mul_ediv p q; omega
  rw [hn, hr]
  have e1 : p0 = q * (n * b.p + a.p) + r * b.p := by grind
  have e2 : q0 = q * (n * b.q + a.q) + r * b.q := by grind
  have hd : cross ⟨n * b.p + a.p, n * b.q + a.q⟩ b = -cross b a := cross_next n a b
  have hc1 : 1 ≤ n * b.q + a.q := by
    by_cases hb0 : b.q = 0
    · rw [hb0]; have := (hbq hb0).1; omega
    · have hn1 : 1 ≤ n := by
        rw [← hn]
        exact (Int.le_ediv_iff_mul_le hqp).2 (by have := h8 (by omega); omega)
      have : 1 * 1 ≤ n * b.q := Int.mul_le_mul hn1 (by omega) (by omega) (by omega)
      omega
  have hrb : 0 ≤ r * b.q := Int.mul_nonneg hr0 h5
  have hc2 : n * b.q + a.q ≤ q0 := by
    have : 1 * (n * b.q + a.q) ≤ q * (n * b.q + a.q) := Int.mul_le_mul_of_nonneg_right (by omega) (by omega)
    omega
  obtain ⟨P, hP⟩ : ∃ P, n * b.p + a.p = P := ⟨_, rfl⟩
  obtain ⟨Q, hQ⟩ : ∃ Q, n * b.q + a.q = Q := ⟨_, rfl⟩
  rw [hP, hQ] at hd
  rw [hP] at e1
  rw [hQ] at e2 hc1 hc2
  rw [hP, hQ]
  have hE : P * q0 - p0 * Q = r * (cross ⟨P, Q⟩ b) := by simp only [cross]; grind
  have hEb : -r ≤ P * q0 - p0 * Q ∧ P * q0 - p0 * Q ≤ r := by
    rw [hE, hd]
    rcases h3 with h3 | h3 <;> rw [h3] <;> omega
  have hp1 : p0 * Q ≤ B * Q := Int.mul_le_mul_of_nonneg_right hB.2 (by omega)
  have hp2 : -B * Q ≤ p0 * Q := Int.mul_le_mul_of_nonneg_right hB.1 (by omega)
  have hBQ : B * Q ≤ B * q0 := Int.mul_le_mul_of_nonneg_left hc2 (by omega)
  refine ⟨⟨e1, e2, ?_, h5, by simp only; omega, hr0, by omega, fun _ => hr1⟩, hc1, hc2, ?_, ?_⟩
  · rw [hd]; omega
  · -- P q0 ≥ -B q0 - r > -(B + 1) q0
    have h9 : -(B + 1) * q0 < P * q0 := by
      rw [Int.neg_mul, Int.add_mul]; rw [Int.neg_mul] at hp2; omega
    have := Int.lt_of_mul_lt_mul_right h9 (by omega : 0 ≤ q0)
    omega
  · have h9 : P * q0 < (B + 1) * q0 := by rw [Int.add_mul]; omega
    have := Int.lt_of_mul_lt_mul_right h9 (by omega : 0 ≤ q0)
    omega

/-- What an expansion's convergents are. -/
theorem exp_conv (p0 q0 : Int) (hB : -1073741824 ≤ p0 ∧ p0 ≤ 1073741824) (hB2 : q0 ≤ 1073741824) :
    ∀ (k i : Nat) (p q : Int) (a b : C2), Eu p0 q0 p q a b → q < k → (b.q = 0 → a.q = 1 ∧ q = q0) → (0 < b.q ↔ 1 ≤ i) → (-1073741824 ≤ p ∧ p ≤ 1073741824) →
    ∃ x, convR (expE k p q) a b = some x ∧ okL i (expE k p q) = true ∧ x.length = (expE k p q).length ∧
      (∀ j, j < x.length → ∃ s t : Int, 0 < s ∧ 0 ≤ t ∧ p0 = s * (x.getD j C2.zero).p + t * (if j = 0 then b else x.getD (j - 1) C2.zero).p ∧ q0 = s * (x.getD j C2.zero).q + t * (if j = 0 then b else x.getD (j - 1) C2.zero).q) ∧
      (Int.gcd p0 q0 = 1 → 0 < q0 → (0 < q ∨ 0 < b.q) → (b :: x).getLast? = some ⟨p0, q0⟩)
  | 0, i, p, q, a, b, h, hk, _, _, _ => by have := h.nn; omega
  | k + 1, i, p, q, a, b, h, hk, hbq, hbi, hpb => by
    by_cases hq : q = 0
    · subst hq
      refine ⟨[], ?_, ?_, ?_, ?_, ?_⟩
      · simp [expE, convR]
      · simp [expE, okL]
      · simp [expE]
      · intro j hj; simp at hj
      · intro hg hq0 hb
        have hp := h.hp
        have hq' := h.hq
        simp at hp hq'
        have hpos : 0 < p := h.pos (by omega)
        have hd : (p : Int) ∣ Int.gcd p0 q0 := Int.dvd_coe_gcd ⟨b.p, hp⟩ ⟨b.q, hq'⟩
        rw [hg] at hd
        have hp1 : p = 1 := Int.eq_one_of_dvd_one (by omega) (by simpa using hd)
        subst hp1
        simp at hp hq'
        cases b
        simp only at hp hq'
        simp [hp, hq']
    · obtain ⟨h1, h2, h3, h4, h5⟩ := eu_step h hq hbq 1073741824 hB
      have hqp : 0 < q := by have := h.nn; omega
      have hr1 := Int.emod_lt_of_pos p hqp
      have hqle := h.le
      obtain ⟨y, hy1, hy2, hy3, hy4, hy5⟩ := exp_conv p0 q0 hB hB2 k (i + 1) q (p % q) b ⟨p / q * b.p + a.p, p / q * b.q + a.q⟩ h1 (by omega) (fun e => by simp only at e; omega) (by simp only; omega) (by omega)
      obtain ⟨qb1, qb2⟩ := quo_bd (p := p) hqp 1073741824 hpb.1 hpb.2 (by omega)
      rw [expE_succ hq]
      refine ⟨⟨p / q * b.p + a.p, p / q * b.q + a.q⟩ :: y, ?_, ?_, by simp [hy3], ?_, ?_⟩
      · simp only [convR]
        rw [if_pos (by simp only [Bool.and_eq_true]; exact ⟨inB_iff.2 ⟨h4, h5⟩, inB_iff.2 ⟨by omega, by omega⟩⟩), hy1]
        rfl
      · simp only [okL, Bool.and_eq_true, okE, Bool.or_eq_true, decide_eq_true_eq]
        refine ⟨⟨inB_iff.2 ⟨qb1, qb2⟩, ?_⟩, hy2⟩
        by_cases hi : i = 0
        · exact .inl hi
        · exact .inr (eu_quo h hq (by omega))
      · intro j hj
        cases j with
        | zero => exact ⟨q, p % q, hqp, Int.emod_nonneg _ hq, by simpa using h1.hp, by simpa using h1.hq⟩
        | succ j =>
          obtain ⟨s, t, hs, ht, e1, e2⟩ := hy4 j (by simpa using hj)
          refine ⟨s, t, hs, ht, ?_, ?_⟩
          · cases j with
            | zero => simpa using e1
            | succ j => simpa using e1
          · cases j with
            | zero => simpa using e2
            | succ j => simpa using e2
      · intro hg hq0 _
        have := hy5 hg hq0 (.inr (by simp only; omega))
        simpa using this

theorem exp_short : ∀ (m k : Nat) (p q : Int), 0 ≤ q → q < 2 ^ m → (expE k p q).length ≤ 2 * m
  | 0, k, p, q, h0, h => by
    have : q = 0 := by simp at h; omega
    rw [this, expE_zero]; simp
  | m + 1, k, p, q, h0, h => by
    cases k with
    | zero => simp [expE]
    | succ k =>
      by_cases hq : q = 0
      · rw [hq, expE_zero]; simp
      · rw [expE_succ hq]
        have hqp : 0 < q := by omega
        have r0 := Int.emod_nonneg p hq
        have r1 := Int.emod_lt_of_pos p hqp
        generalize p % q = r at *
        cases k with
        | zero => simp [expE]; omega
        | succ k =>
          by_cases hr : r = 0
          · rw [hr, expE_zero]; simp; omega
          · rw [expE_succ hr]
            have s0 := Int.emod_nonneg q hr
            have s1 := Int.emod_lt_of_pos q (by omega : 0 < r)
            have hdiv : 1 ≤ q / r := (Int.le_ediv_iff_mul_le (by omega)).2 (by omega)
            have hmul : r * 1 ≤ r * (q / r) := Int.mul_le_mul_of_nonneg_left hdiv (by omega)
            have heq := Int.emod_add_mul_ediv q r
            have hlt : q % r < 2 ^ m := by
              rw [Int.pow_succ] at h
              omega
            have ih := exp_short m k r (q % r) s0 hlt
            simp; omega

/-- All about the expansion of a cusp that is not infinity. -/
theorem exp_top {c : C2} (h0 : ccF c = 0) (hq : c.q ≠ 0) : ∃ x, (expandF c).2 = 0 ∧ convF (expandF c).1 = (x, 0) ∧ x.length = (expandF c).1.length ∧ 0 < x.length ∧ x.getD (x.length - 1) C2.zero = c ∧
    (∀ j, 1 ≤ j → j < x.length → ∃ s t : Int, 0 < s ∧ 0 ≤ t ∧ c.p = s * (x.getD j C2.zero).p + t * (x.getD (j - 1) C2.zero).p ∧ c.q = s * (x.getD j C2.zero).q + t * (x.getD (j - 1) C2.zero).q) := by
  have hu : expandF c = (expE (c.q.toNat + 1) c.p c.q, 0) := by simp [expandF, h0, hq]
  rw [hu]
  obtain ⟨h1, h2, h3, h4, h5⟩ := ccF_zero.1 h0
  have b1 := inB_iff.1 h1
  have b2 := inB_iff.1 h3
  have hqp : 0 < c.q := by omega
  obtain ⟨x, e1, e2, e3, e4, e5⟩ := exp_conv c.p c.q b1 b2.2 (c.q.toNat + 1) 0 c.p c.q ⟨0, 1⟩ ⟨1, 0⟩ (eu_start hqp) (by omega) (by simp) (by simp) b1
  have hlen := exp_short 31 (c.q.toNat + 1) c.p c.q h2 (by omega)
  have hpos : 0 < (expE (c.q.toNat + 1) c.p c.q).length := by rw [expE_succ hq]; simp
  have hlast := e5 h4 hqp (.inl hqp)
  have hxp : 0 < x.length := by omega
  refine ⟨x, rfl, ?_, e3, hxp, ?_, fun j hj1 hj2 => ?_⟩
  · unfold convF
    rw [if_neg (by simp only; omega), if_neg (by simp only; omega), if_pos e2, e1]
  · rw [List.getLast?_cons, List.getLast?_eq_getElem?, List.getElem?_eq_getElem (by omega)] at hlast
    simp only [Option.getD_some, Option.some.injEq] at hlast
    simp [show x.length - 1 < x.length by omega, hlast]
  · obtain ⟨s, t, hs, ht, f1, f2⟩ := e4 j hj2
    rw [if_neg (by omega)] at f1 f2
    exact ⟨s, t, hs, ht, f1, f2⟩

/-- Best approximation. -/
theorem best {b b' : C2} {p0 q0 S T r s : Int} (hS : 0 < S) (hT : 0 ≤ T) (hp : p0 = S * b'.p + T * b.p) (hq : q0 = S * b'.q + T * b.q) (hd : cross b' b = 1 ∨ cross b' b = -1) (hb : 0 ≤ b.q) (hs : 0 < s) (hs2 : s < b'.q) :
    (b.q * p0 - b.p * q0).natAbs ≤ (s * p0 - r * q0).natAbs := by
  obtain ⟨σ, hσ⟩ : ∃ σ, cross b' b = σ := ⟨_, rfl⟩
  have hσ2 : σ * σ = 1 := by rw [hσ] at hd; rcases hd with h | h <;> rw [h] <;> rfl
  obtain ⟨u, hu⟩ : ∃ u, σ * (b'.p * s - r * b'.q) = u := ⟨_, rfl⟩
  obtain ⟨v, hv⟩ : ∃ v, σ * (r * b.q - b.p * s) = v := ⟨_, rfl⟩
  simp only [cross] at hσ
  have e1 : s = u * b.q + v * b'.q := by grind
  have e3 : b.q * p0 - b.p * q0 = S * σ := by grind
  have e4 : s * p0 - r * q0 = σ * (u * S - v * T) := by grind
  rw [e3, e4]
  have hσ3 : σ.natAbs = 1 := by simp only [cross] at hd; rw [hσ] at hd; omega
  rw [Int.natAbs_mul, Int.natAbs_mul, hσ3, Nat.mul_one, Nat.one_mul]
  have hb'p : 0 < b'.q := by omega
  rcases Int.lt_trichotomy v 0 with hv0 | hv0 | hv0
  · have h1 : v * b'.q < 0 := Int.mul_neg_of_neg_of_pos hv0 hb'p
    have h2 : 0 < u * b.q := by omega
    have hu1 : 1 ≤ u := by
      rcases Int.lt_or_le u 1 with h | h
      · have : u * b.q ≤ 0 * b.q := Int.mul_le_mul_of_nonneg_right (by omega) hb
        omega
      · exact h
    have h3 : 1 * S ≤ u * S := Int.mul_le_mul_of_nonneg_right hu1 (by omega)
    have h4 : v * T ≤ 0 * T := Int.mul_le_mul_of_nonneg_right (by omega) hT
    omega
  · rw [hv0] at e1 ⊢
    have h2 : 0 < u * b.q := by omega
    have hu1 : 1 ≤ u := by
      rcases Int.lt_or_le u 1 with h | h
      · have : u * b.q ≤ 0 * b.q := Int.mul_le_mul_of_nonneg_right (by omega) hb
        omega
      · exact h
    have h3 : 1 * S ≤ u * S := Int.mul_le_mul_of_nonneg_right hu1 (by omega)
    omega
  · have h1 : 1 * b'.q ≤ v * b'.q := Int.mul_le_mul_of_nonneg_right (by omega) (by omega)
    have h2 : u * b.q < 0 := by omega
    have hu1 : u ≤ -1 := by
      rcases Int.lt_or_le (-1) u with h | h
      · have : 0 * b.q ≤ u * b.q := Int.mul_le_mul_of_nonneg_right (by omega) hb
        omega
      · exact h
    have h3 : u * S ≤ -1 * S := Int.mul_le_mul_of_nonneg_right hu1 (by omega)
    have h4 : 0 * T ≤ v * T := Int.mul_le_mul_of_nonneg_right (by omega) hT
    omega
end Go.Proofs.Ytfjlecphjahahaa
