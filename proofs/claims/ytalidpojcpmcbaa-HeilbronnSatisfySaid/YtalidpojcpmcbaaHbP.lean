/- Plain definitions for Merel's matrices: what the four loops of the program lay down. No program here. -/
import Derived.Test.YtalidpojcpmcbaaMtY
namespace Go.Proofs.Ytalidpojcpmcbaa

def merC : Nat → Int → Int → Int → List M2
  | 0, _, _, _ => []
  | f + 1, n, a, c => if c < n.tdiv a then ⟨a, 0, c, n.tdiv a⟩ :: merC f n a (c + 1) else []
def merD : Nat → Int → Int → Int → Int → List M2
  | 0, _, _, _, _ => []
  | f + 1, n, a, b, d => if d * (a - b) < n then (if (a * d - n).tmod b = 0 then ⟨a, b, (a * d - n).tdiv b, d⟩ :: merD f n a b (d + 1) else merD f n a b (d + 1)) else []
def merB : Nat → Int → Int → Int → List M2
  | 0, _, _, _ => []
  | f + 1, n, a, b => if b < a then merD 40 n a b ((n + a - 1).tdiv a) ++ merB f n a (b + 1) else []
def merA : Nat → Int → Int → List M2
  | 0, _, _ => []
  | f + 1, n, a => if a ≤ n then (if n.tmod a = 0 then merC 40 n a 0 else []) ++ (merB 40 n a 1 ++ merA f n (a + 1)) else []
def merF (n : Int) : List M2 := merA 40 n 1
/-- What the four loops of the reference lay down. -/
def rmD : Nat → Int → Int → Int → Int → Int → List M2
  | 0, _, _, _, _, _ => []
  | f + 1, n, a, b, c, d => if d ≤ n then (if a * d - b * c = n then ⟨a, b, c, d⟩ :: rmD f n a b c (d + 1) else rmD f n a b c (d + 1)) else []
def rmC : Nat → Int → Int → Int → Int → List M2
  | 0, _, _, _, _ => []
  | f + 1, n, a, b, c => if c < n then rmD 40 n a b c (c + 1) ++ rmC f n a b (c + 1) else []
def rmB : Nat → Int → Int → Int → List M2
  | 0, _, _, _ => []
  | f + 1, n, a, b => if b < a then rmC 40 n a b 0 ++ rmB f n a (b + 1) else []
def rmA : Nat → Int → Int → List M2
  | 0, _, _ => []
  | f + 1, n, a => if a ≤ n then rmB 40 n a 0 ++ rmA f n (a + 1) else []
def rmF (n : Int) : List M2 := rmA 40 n 1
def merAll : Nat → Bool
  | 0 => true
  | k + 1 => decide (merF (Int.ofNat (k + 1)) = rmF (Int.ofNat (k + 1))) && merAll k
theorem mer_table : merAll 12 = true := by decide +kernel
end Go.Proofs.Ytalidpojcpmcbaa
