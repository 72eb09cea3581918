/- Plain law: the class that Abelian computes is the polynomial modulo 12, so that of a product is the sum. -/
import Derived.Test.YtkjcdiolimajdaaPlF
namespace Go.Proofs.Ytkjcdiolimajdaa
open Go.RowKit

theorem step_eq {m : M2} (hc : m.c ≠ 0) : M2.times ⟨nearQ m.a m.c, -1, 1, 0⟩ m.next = m := by
  obtain ⟨h1, -⟩ := near_spec m.a m.c hc
  obtain ⟨a, b, c, d⟩ := m
  simp only [M2.times, M2.next, M2.mk.injEq] at *
  refine ⟨?_, ?_, ?_, ?_⟩ <;> grind
theorem chi_step {m : M2} (hc : m.c ≠ 0) (hd : m.det = 1) : m.chi % 12 = (nearQ m.a m.c + 9 + m.next.chi) % 12 := by
  have h := chi_mul (x := ⟨nearQ m.a m.c, -1, 1, 0⟩) (y := m.next) (by simp [M2.det]) (next_det hc hd)
  rw [step_eq hc] at h
  have e : M2.chi ⟨nearQ m.a m.c, -1, 1, 0⟩ = nearQ m.a m.c - 3 := by simp [M2.chi, chi]
  rw [e] at h
  omega
theorem unit_of {a d : Int} (h : a * d = 1) : (a = 1 ∧ d = 1) ∨ (a = -1 ∧ d = -1) := by
  have h1 : a.natAbs * d.natAbs = 1 := by rw [← Int.natAbs_mul, h]; rfl
  have h2 : a.natAbs = 1 := Nat.eq_one_of_mul_eq_one_right h1
  have : a = 1 ∨ a = -1 := by omega
  rcases this with rfl | rfl <;> omega
theorem tmod12 (n : Int) : ∃ k, n.tmod 12 = n - 12 * k ∧ -12 < n.tmod 12 ∧ n.tmod 12 < 12 := by
  have h : (n.tmod 12).natAbs < 12 := by rw [Int.natAbs_tmod]; exact Nat.mod_lt _ (by decide)
  exact ⟨n.tdiv 12, Int.tmod_def n 12, by omega, by omega⟩
theorem chi_end {u : M2} (hc : u.c = 0) (hd : u.det = 1) : u.chi % 12 = (u.a * u.b + (if u.a < 0 then 6 else 0)) % 12 := by
  obtain ⟨a, b, c, d⟩ := u
  simp only [M2.det, M2.chi, chi] at *
  subst hc
  have h1 : a * d = 1 := by omega
  rcases unit_of h1 with ⟨rfl, rfl⟩ | ⟨rfl, rfl⟩
  · simp
    omega
  · simp
    omega
theorem facL_chi : ∀ (n : Nat) (m : M2), m.det = 1 → m.chi % 12 = ((facL n m).1.sum + 9 * (facL n m).1.length + (facL n m).2.chi) % 12
  | 0, m, _ => by simp [facL]
  | n + 1, m, hd => by
    unfold facL
    split
    · simp
    · rename_i hc
      have h := facL_chi n m.next (next_det hc hd)
      have h2 := chi_step hc hd
      simp only [List.sum_cons, List.length_cons]
      omega
theorem sumMod_mod : ∀ l : List Int, sumMod l % 12 = l.sum % 12
  | [] => rfl
  | n :: l => by
    have h := sumMod_mod l
    simp only [sumMod, List.map_cons, List.sum_cons] at *
    obtain ⟨k, hk, _⟩ := tmod12 n
    omega
theorem abW_eq (w : W2) : abW w = (9 * ((w.exps.length : Int) - 1) + w.exps.sum + (if w.neg then 6 else 0)) % 12 := by
  have h := sumMod_mod w.exps
  unfold abW
  generalize sumMod w.exps = s at *
  generalize w.exps.sum = t at *
  generalize hx : (9 * ((w.exps.length : Int) - 1) + s + (if w.neg then 6 else 0)) = x
  obtain ⟨k, hk, k1, k2⟩ := tmod12 x
  rw [Int.tmod_eq_emod_of_nonneg (by omega)]
  omega
theorem abW_chi {m : M2} (hf : m.fits = true) (hd : m.det = 1) : abW (facW m) = m.chi % 12 := by
  have h1 := facL_chi 31 m hd
  have hc : (facL 31 m).2.c = 0 := facL_end 31 m (by have := fits_bd hf; omega)
  have hk := (facL_keeps 31 m hf hd).2
  have h2 := chi_end hc hk
  rw [abW_eq]
  simp only [facW, List.length_append, List.length_cons, List.length_nil, List.sum_append, List.sum_cons, List.sum_nil]
  generalize (facL 31 m).2.a * (facL 31 m).2.b = ab at *
  by_cases hn : (facL 31 m).2.a < 0
  · simp only [hn, decide_true, if_true] at *; omega
  · simp only [hn, decide_false, if_false] at *; simp; omega
theorem ab_mul {x y m : M2} {a c : Int} (h1 : abF x = (a, 0)) (h2 : abF y = (c, 0)) (h3 : mulF x y = (m, 0)) : abF m = ((a + c).tmod 12, 0) := by
  have g1 : checkF x = 0 ∧ a = abW (facW x) := by
    unfold abF at h1; split at h1
    · exact ⟨by assumption, (Prod.mk.inj h1).1.symm⟩
    · rename_i h; exact absurd (Prod.mk.inj h1).2 h
  have g2 : checkF y = 0 ∧ c = abW (facW y) := by
    unfold abF at h2; split at h2
    · exact ⟨by assumption, (Prod.mk.inj h2).1.symm⟩
    · rename_i h; exact absurd (Prod.mk.inj h2).2 h
  obtain ⟨x1, x2⟩ := checkF_zero.1 g1.1
  obtain ⟨y1, y2⟩ := checkF_zero.1 g2.1
  rw [mulF_ok x1 y1] at h3
  split at h3
  · rename_i hf
    obtain ⟨rfl, -⟩ := Prod.mk.inj h3
    have hd : (x.times y).det = 1 := by
      have : (x.times y).det = x.det * y.det := by
        obtain ⟨a, b, c, d⟩ := x; obtain ⟨p, q, r, s⟩ := y
        simp only [M2.det, M2.times]; grind
      rw [this, x2, y2]; rfl
    have hc := checkF_zero.2 ⟨hf, hd⟩
    unfold abF
    rw [if_pos hc, abW_chi hf hd, chi_mul x2 y2, g1.2, g2.2, abW_chi x1 x2, abW_chi y1 y2]
    rw [Int.tmod_eq_emod_of_nonneg (by omega)]
    congr 1
    omega
  · simp at h3
theorem abF_bd (m : M2) : 0 ≤ (abF m).1 ∧ (abF m).1 ≤ 11 := by
  unfold abF
  split
  · show 0 ≤ abW (facW m) ∧ abW (facW m) ≤ 11
    rw [abW_eq]; omega
  · exact ⟨Int.le_refl 0, (by decide : (0 : Int) ≤ 11)⟩
end Go.Proofs.Ytkjcdiolimajdaa
