/- Plain definitions for continued fractions: the expansion, the convergents, the path, the chain. No program here. -/
import Derived.Test.YtcgiancmponmgaaPlB
namespace Go.Proofs.Ytcgiancmponmgaa

/-- The expansion, with fuel. -/
def expE : Nat → Int → Int → List Int
  | 0, _, _ => []
  | k + 1, p, q => if q = 0 then [] else p / q :: expE k q (p % q)
def expandF (c : C2) : List Int × Int := if ccF c = 0 then (if c.q = 0 then ([], 5) else (expE (c.q.toNat + 1) c.p c.q, 0)) else ([], ccF c)
/-- What a list of quotients makes of two convergents; none when one is too large. -/
def convR : List Int → C2 → C2 → Option (List C2)
  | [], _, _ => some []
  | n :: l, a, b => if inB (n * b.p + a.p) && inB (n * b.q + a.q) then (convR l b ⟨n * b.p + a.p, n * b.q + a.q⟩).map (⟨n * b.p + a.p, n * b.q + a.q⟩ :: ·) else none
def okCE (i : Nat) (n : Int) : Bool := inB n && (decide (i = 0) || decide (1 ≤ n))
def okL : Nat → List Int → Bool
  | _, [] => true
  | i, n :: l => okCE i n && okL (i + 1) l
def convF (l : List Int) : List C2 × Int :=
  if l.length = 0 then ([], 3) else if 64 < l.length then ([], 2) else if okL 0 l then
    match convR l ⟨0, 1⟩ ⟨1, 0⟩ with
    | none => ([], 7)
    | some x => (x, 0)
  else ([], 2)
def pathF (c : C2) : List C2 × Int :=
  if (expandF c).2 = 5 then ([⟨1, 0⟩], 0) else if (expandF c).2 = 0 then (⟨1, 0⟩ :: (convF (expandF c).1).1, 0) else ([], (expandF c).2)
def eqC (a b : C2) : Bool := decide (a.p = b.p) && decide (a.q = b.q)
/-- How many leading cusps two lists have in common. -/
def comF : List C2 → List C2 → Nat
  | a :: x, b :: y => if eqC a b then comF x y + 1 else 0
  | _, _ => 0
def chainOf (x y : List C2) : List C2 := (x.drop (comF x y - 1)).reverse ++ y.drop (comF x y)
def chainF (a b : C2) : List C2 × Int :=
  if (pathF a).2 = 0 then (if (pathF b).2 = 0 then (chainOf (pathF a).1 (pathF b).1, 0) else ([], (pathF b).2)) else ([], (pathF a).2)

theorem eqC_iff {a b : C2} : eqC a b = true ↔ a = b := by
  cases a; cases b; simp [eqC]
theorem div_step {p q : Int} (hq : 0 < q) : (p - p % q).tdiv q = p / q := by
  have h1 : p - p % q = q * (p / q) := by have := Int.emod_add_mul_ediv p q; omega
  rw [h1, Int.mul_tdiv_cancel_left _ (by omega)]
theorem rem_step {p q : Int} (hq : 0 < q) : (if p.tmod q < 0 then p.tmod q + q else p.tmod q) = p % q := by
  have h1 := Int.tmod_lt_of_pos p hq
  have h2 := Int.lt_tmod_of_pos p hq
  have h3 : p.tmod q = p - q * p.tdiv q := by have := Int.tmod_add_mul_tdiv p q; omega
  have key : ∀ r k : Int, p = r + q * k → 0 ≤ r → r < q → r = p % q := by
    intro r k h h1 h2
    rw [h, Int.add_mul_emod_self_left, Int.emod_eq_of_lt h1 h2]
  split
  · refine key _ (p.tdiv q - 1) ?_ (by omega) (by omega)
    rw [Int.mul_sub]; omega
  · exact key _ (p.tdiv q) (by omega) (by omega) (by omega)
theorem expE_zero (k : Nat) (p : Int) : expE k p 0 = [] := by cases k <;> simp [expE]
theorem expE_succ {k : Nat} {p q : Int} (h : q ≠ 0) : expE (k + 1) p q = p / q :: expE k q (p % q) := by simp [expE, h]
theorem quo_bd {p q : Int} (h : 0 < q) (B : Int) (h1 : -B ≤ p) (h2 : p ≤ B) (hB : 0 ≤ B) : -B ≤ p / q ∧ p / q ≤ B := by
  constructor
  · rw [Int.le_ediv_iff_mul_le h]
    have : B * 1 ≤ B * q := Int.mul_le_mul_of_nonneg_left (by omega) hB
    rw [Int.neg_mul]; omega
  · have : p / q < B + 1 := by
      rw [Int.ediv_lt_iff_lt_mul h]
      have : (B + 1) * 1 ≤ (B + 1) * q := Int.mul_le_mul_of_nonneg_left (by omega) (by omega)
      omega
    omega
end Go.Proofs.Ytcgiancmponmgaa
