/- Plain definitions for words: the nearest quotient, the steps of Factor, and that they stay within the limits. -/
import Derived.Test.YtfjlecphjahahaaPlB
namespace Go.Proofs.Ytfjlecphjahahaa
open Go.RowKit

def nearR (a c : Int) : Int := if 2 * (a % c) > (c.natAbs : Int) then a % c - c.natAbs else a % c
def nearQ (a c : Int) : Int := (a - nearR a c) / c
theorem near_mod (a c : Int) (hc : c ≠ 0) : 0 ≤ a % c ∧ a % c < c.natAbs := by
  have h1 := Int.emod_nonneg a hc
  have h2 := Int.emod_lt a hc
  omega
theorem near_spec (a c : Int) (hc : c ≠ 0) : nearQ a c * c + nearR a c = a ∧ -(c.natAbs : Int) < 2 * nearR a c ∧ 2 * nearR a c ≤ c.natAbs := by
  obtain ⟨h1, h2⟩ := near_mod a c hc
  have hd : c ∣ a - nearR a c := by
    unfold nearR
    have h3 : c ∣ a - a % c := Int.dvd_self_sub_emod
    split
    · have : a - (a % c - (c.natAbs : Int)) = (a - a % c) + c.natAbs := by omega
      rw [this]
      exact Int.dvd_add h3 (Int.dvd_natAbs_self)
    · exact h3
  refine ⟨?_, ?_⟩
  · unfold nearQ
    rw [Int.ediv_mul_cancel hd]; omega
  · unfold nearR
    split <;> omega

def M2.next (m : M2) : M2 := ⟨m.c, m.d, -(nearR m.a m.c), nearQ m.a m.c * m.d - m.b⟩
def facL : Nat → M2 → List Int × M2
  | 0, m => ([], m)
  | n + 1, m => if m.c = 0 then ([], m) else (nearQ m.a m.c :: (facL n m.next).1, (facL n m.next).2)
structure W2 where
  neg : Bool
  exps : List Int
def facW (m : M2) : W2 := ⟨decide ((facL 31 m).2.a < 0), (facL 31 m).1 ++ [(facL 31 m).2.a * (facL 31 m).2.b]⟩
def facF (m : M2) : W2 × Int := if checkF m = 0 then (facW m, 0) else (⟨false, []⟩, checkF m)

theorem next_det {m : M2} (hc : m.c ≠ 0) (hd : m.det = 1) : m.next.det = 1 := by
  obtain ⟨h1, _⟩ := near_spec m.a m.c hc
  generalize hq : nearQ m.a m.c = q at *
  generalize hr : nearR m.a m.c = r at *
  simp only [M2.det, M2.next, hq, hr] at *
  rw [← h1, Int.add_mul, Int.mul_assoc] at hd
  rw [Int.mul_sub, Int.mul_neg, Int.mul_comm m.c (q * m.d), Int.mul_assoc, Int.mul_comm m.d m.c, Int.mul_comm m.d r, Int.mul_comm m.c m.b]
  omega
theorem near_q_bd {a c : Int} (hc : c ≠ 0) (ha : inB a = true) (hc' : inB c = true) : inB (nearQ a c) = true := by
  obtain ⟨h1, h2, h3⟩ := near_spec a c hc
  obtain ⟨a1, a2⟩ := inB_iff.1 ha
  have hq : (nearQ a c * c).natAbs ≤ 1073741824 + c.natAbs / 2 := by omega
  rw [Int.natAbs_mul] at hq
  by_cases h4 : c.natAbs ≤ 1
  · have h5 : c.natAbs = 1 := by omega
    rw [h5] at hq
    exact inB_iff.2 (by omega)
  · have h6 : (nearQ a c).natAbs * 2 ≤ (nearQ a c).natAbs * c.natAbs := Nat.mul_le_mul_left _ (by omega)
    obtain ⟨c1, c2⟩ := inB_iff.1 hc'
    refine inB_iff.2 ?_
    omega
theorem next_fits {m : M2} (hm : m.fits = true) (hc : m.c ≠ 0) (hd : m.det = 1) : m.next.fits = true := by
  obtain ⟨⟨b1, b2⟩, ⟨b3, b4⟩, ⟨b5, b6⟩, b7, b8⟩ := fits_bd hm
  obtain ⟨h1, h2, h3⟩ := near_spec m.a m.c hc
  have hn := next_det hc hd
  simp only [M2.det, M2.next] at hn
  generalize hx : nearQ m.a m.c * m.d - m.b = x at *
  generalize hr : nearR m.a m.c = r at *
  have e1 : m.c * x = 1 - r * m.d := by rw [Int.mul_neg, Int.mul_comm m.d r] at hn; omega
  have e2 : m.c.natAbs * x.natAbs ≤ 1 + r.natAbs * m.d.natAbs := by rw [← Int.natAbs_mul, ← Int.natAbs_mul]; omega
  have e3 : 2 * (r.natAbs * m.d.natAbs) ≤ m.c.natAbs * m.d.natAbs := by rw [← Nat.mul_assoc]; exact Nat.mul_le_mul_right _ (by omega)
  have e4 : 2 * x.natAbs ≤ m.d.natAbs + 2 := by
    by_cases h : 2 * x.natAbs ≤ m.d.natAbs + 2
    · exact h
    · have h5 : m.c.natAbs * (m.d.natAbs + 3) ≤ m.c.natAbs * (2 * x.natAbs) := Nat.mul_le_mul_left _ (by omega)
      rw [Nat.mul_add, Nat.mul_left_comm] at h5
      omega
  simp only [M2.fits, M2.next, hx, hr]
  refine fitsB_iff.2 ⟨inB_iff.2 (by omega), inB_iff.2 (by omega), inB_iff.2 (by omega), inB_iff.2 (by omega)⟩
theorem next_small {m : M2} (hc : m.c ≠ 0) : 2 * m.next.c.natAbs ≤ m.c.natAbs := by
  obtain ⟨h1, h2, h3⟩ := near_spec m.a m.c hc
  simp only [M2.next]
  omega
theorem facL_end : ∀ (n : Nat) (m : M2), m.c.natAbs < 2 ^ n → (facL n m).2.c = 0
  | 0, m, h => by simp [facL]; simp at h; exact h
  | n + 1, m, h => by
    unfold facL
    split
    · assumption
    · rename_i hc
      have := next_small hc
      exact facL_end n _ (by rw [Nat.pow_succ] at h; omega)
theorem facL_len : ∀ (n : Nat) (m : M2), (facL n m).1.length ≤ n
  | 0, m => by simp [facL]
  | n + 1, m => by
    unfold facL
    split
    · simp
    · simp; exact facL_len n _
theorem facL_done {n : Nat} {m : M2} (h : m.c = 0) : facL n m = ([], m) := by cases n <;> simp [facL, h]
theorem facL_keeps : ∀ (n : Nat) (m : M2), m.fits = true → m.det = 1 → (facL n m).2.fits = true ∧ (facL n m).2.det = 1
  | 0, m, h, k => by simp [facL, h, k]
  | n + 1, m, h, k => by
    unfold facL
    split
    · exact ⟨h, k⟩
    · rename_i hc
      exact facL_keeps n _ (next_fits h hc k) (next_det hc k)
end Go.Proofs.Ytfjlecphjahahaa
