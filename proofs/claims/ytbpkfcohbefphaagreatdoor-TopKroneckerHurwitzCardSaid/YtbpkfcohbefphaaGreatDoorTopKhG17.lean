/- Lemmas, plain laws and walks that the statement LwKronecker leans on (texts KhY), conditions as each theorem says. -/
import Derived.Test.YtbpkfcohbefphaaGreatDoorTopKhG16

namespace Go.Proofs.YtbpkfcohbefphaaGreatDoor
/-- The sum over t = 1 .. k. -/
def khS (n k : Nat) : Nat := Nat.rec (motive := fun _ => Nat) 0 (fun j acc => acc + hwA (4 * n - (j + 1) * (j + 1))) k
/-- The sum over the divisors up to k. -/
def khW (n k : Nat) : Nat := Nat.rec (motive := fun _ => Nat) 0 (fun j acc => acc + cond (Nat.beq (n % (j + 1)) 0) (2 * (j + 1) - cond (Nat.ble (j + 1) (n / (j + 1))) (j + 1) (n / (j + 1))) 0) k
set_option maxHeartbeats 80000000 in
theorem kh_tab : ∀ n : Nat, n < 1001 → Nat.beq (2 * hwA (4 * n) + 4 * khS n (sqN (4 * n))) (12 * khW n n + cond (Nat.beq (sqN (4 * n) * sqN (4 * n)) (4 * n)) (cond (Nat.beq n 0) 0 2) 0) = true := by decide +kernel
end Go.Proofs.YtbpkfcohbefphaaGreatDoor
