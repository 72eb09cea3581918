/- Plain definitions for Cremona's matrices: the floor, the next matrix, the turns, the whole list. No program here. -/
import Derived.Test.YtalidpojcpmcbaaMtY
namespace Go.Proofs.Ytalidpojcpmcbaa

def flF (a b : Int) : Int := if b < 0 then (-a) / (-b) else a / b
theorem fl_of {a b q r : Int} (hb : 0 < b) (h : r + b * q = a) (h1 : 0 ≤ r) (h2 : r < b) : a / b = q := ((Int.ediv_emod_unique hb).2 ⟨h, h1, h2⟩).1
/-- What the program's floor computes. -/
theorem fl_prog {a b : Int} (hb : b ≠ 0) : flF a b = if a.tmod b ≠ 0 ∧ decide (a < 0) ≠ decide (b < 0) then a.tdiv b - 1 else a.tdiv b := by
  have h := Int.tmod_add_mul_tdiv a b
  have hn : (a.tmod b).natAbs < b.natAbs := by rw [Int.natAbs_tmod]; exact Nat.mod_lt _ (by omega)
  have hs1 : 0 ≤ a → 0 ≤ a.tmod b := fun h => Int.tmod_nonneg _ h
  have hs2 : a ≤ 0 → a.tmod b ≤ 0 := fun h => by
    have := Int.tmod_nonneg b (a := -a) (by omega)
    rw [Int.neg_tmod] at this; omega
  generalize a.tmod b = m at *
  generalize a.tdiv b = t at *
  unfold flF
  by_cases hb0 : b < 0
  · rw [if_pos hb0]
    by_cases ha : a < 0
    · rw [if_neg (by simp [ha, hb0])]
      refine fl_of (r := -m) (by omega) ?_ (by have := hs2 (by omega); omega) (by omega)
      rw [Int.neg_mul]; omega
    · by_cases hm : m = 0
      · rw [if_neg (by simp [hm])]
        refine fl_of (r := 0) (by omega) ?_ (by omega) (by omega)
        rw [Int.neg_mul]; omega
      · rw [if_pos ⟨hm, by simp [ha, hb0]⟩]
        refine fl_of (r := -b - m) (by omega) ?_ (by have := hs1 (by omega); omega) (by have := hs1 (by omega); omega)
        rw [Int.neg_mul, Int.mul_sub]; omega
  · rw [if_neg hb0]
    by_cases ha : a < 0
    · by_cases hm : m = 0
      · rw [if_neg (by simp [hm])]
        exact fl_of (r := 0) (by omega) (by omega) (by omega) (by omega)
      · rw [if_pos ⟨hm, by simp [ha, hb0]⟩]
        refine fl_of (r := b + m) (by omega) ?_ (by have := hs2 (by omega); omega) (by have := hs2 (by omega); omega)
        rw [Int.mul_sub]; omega
    · rw [if_neg (by simp [ha, hb0])]
      exact fl_of (r := m) (by omega) h (hs1 (by omega)) (by omega)
def nxF (m : M2) (q : Int) : M2 := ⟨m.b, q * m.b - m.a, m.d, q * m.d - m.c⟩
def smM (m : M2) : Bool := decide (-100000 ≤ m.a) && decide (m.a ≤ 100000) && decide (-100000 ≤ m.b) && decide (m.b ≤ 100000) && decide (-100000 ≤ m.c) && decide (m.c ≤ 100000) && decide (-100000 ≤ m.d) && decide (m.d ≤ 100000)
def crT : Nat → M2 → Int → Int → List M2
  | 0, _, _, _ => []
  | f + 1, m, s, t => if t = 0 then [] else nxF m (flF (2 * s + t) (2 * t)) :: crT f (nxF m (flF (2 * s + t) (2 * t))) (-t) (s - flF (2 * s + t) (2 * t) * t)
/-- The turns end in time, and all numbers stay small. -/
def crOk : Nat → M2 → Int → Int → Bool
  | 0, _, _, _ => false
  | f + 1, m, s, t => smM m && decide (-1000 ≤ s) && decide (s ≤ 1000) && decide (-1000 ≤ t) && decide (t ≤ 1000) && (decide (t = 0) || crOk f (nxF m (flF (2 * s + t) (2 * t))) (-t) (s - flF (2 * s + t) (2 * t) * t))
def crR : Nat → Int → Int → List M2
  | 0, _, _ => []
  | f + 1, p, r => if r ≤ (p - 1).tdiv 2 then ⟨p, -r, 0, 1⟩ :: (crT 40 ⟨p, -r, 0, 1⟩ (-p) r ++ crR f p (r + 1)) else []
def crROk : Nat → Int → Int → Bool
  | 0, _, _ => false
  | f + 1, p, r => decide (-100 ≤ r) && decide (r ≤ 100) && (if r ≤ (p - 1).tdiv 2 then crOk 40 ⟨p, -r, 0, 1⟩ (-p) r && crROk f p (r + 1) else true)
def crF (p : Int) : List M2 := ⟨1, 0, 0, p⟩ :: crR 200 p ((-(p - 1)).tdiv 2)
def crAll : Nat → Bool
  | 0 => true
  | k + 1 => crROk 200 (Int.ofNat (k + 1)) ((-(Int.ofNat (k + 1) - 1)).tdiv 2) && crAll k
theorem cr_table : crAll 128 = true := by decide +kernel
theorem cr_ex : crF 3 = [⟨1, 0, 0, 3⟩, ⟨3, 1, 0, 1⟩, ⟨1, 0, 1, 3⟩, ⟨3, 0, 0, 1⟩, ⟨3, -1, 0, 1⟩, ⟨-1, 0, 1, -3⟩] := by decide +kernel
end Go.Proofs.Ytalidpojcpmcbaa
