/- Plain definitions for the Farey sequence: the program's walk from one fraction to the next, and the table of all fractions with denominators to 60. No program here. -/
import Derived.Test.YtfjlecphjahahaaCfI
import Derived.Test.YtfjlecphjahahaaPlP
namespace Go.Proofs.Ytfjlecphjahahaa

def farN (n : Int) (a b : C2) : C2 := ⟨(n + a.q).tdiv b.q * b.p - a.p, (n + a.q).tdiv b.q * b.q - a.q⟩
def farL : Nat → Int → C2 → C2 → List C2
  | 0, _, _, _ => []
  | f + 1, n, a, b => if a.p < a.q then b :: farL f n b (farN n a b) else []
def smallB (c : C2) : Bool := decide (0 ≤ c.p) && decide (c.p ≤ c.q) && decide (1 ≤ c.q) && decide (c.q ≤ 60)
def farOk : Nat → Int → C2 → C2 → Bool
  | 0, _, _, _ => false
  | f + 1, n, a, b => if a.p < a.q then smallB a && smallB b && farOk f n b (farN n a b) else true
def farF (n : Int) : List C2 := ⟨0, 1⟩ :: farL 1200 n ⟨0, 1⟩ ⟨1, n⟩
/-- The table. -/
def farM : List C2 := farF 60
def nbB : List C2 → Bool
  | a :: b :: l => decide (a.p * b.q - b.p * a.q = -1) && nbB (b :: l)
  | _ => true
def nats : Nat → List Nat
  | 0 => []
  | k + 1 => nats k ++ [k]
def chkT (k : Nat) : Bool := farOk 1200 (Int.ofNat k) ⟨0, 1⟩ ⟨1, Int.ofNat k⟩ && decide (farF (Int.ofNat k) = farM.filter (fun c => decide (c.q ≤ Int.ofNat k))) && nbB (farF (Int.ofNat k)) && (farF (Int.ofNat k)).all smallB
def chkR (k : Nat) : Bool := decide ((farM.filter (fun c => decide (c.q = Int.ofNat k))).map C2.p = ((nats (k + 1)).filter (fun p => decide (Nat.gcd p k = 1))).map Int.ofNat)
theorem far_table : (nats 60).all (fun k => chkT (k + 1)) = true := by decide +kernel
theorem far_rows : (nats 60).all (fun k => chkR (k + 1)) = true := by decide +kernel
end Go.Proofs.Ytfjlecphjahahaa
