/- Lemmas, plain laws and walks that the statement LwKronecker leans on (texts KhW1), conditions as each theorem says. -/
import Derived.Test.YtbpkfcohbefphaaGreatDoorTopKhG07

namespace Go.Proofs.YtbpkfcohbefphaaGreatDoor
set_option maxHeartbeats 80000000 in
theorem hwt1 : ∀ m : Nat, m < 500 → Nat.beq (hw6G (m + 500) (sqN (m + 500))) (hwA (m + 500)) = true := by decide +kernel
end Go.Proofs.YtbpkfcohbefphaaGreatDoor
