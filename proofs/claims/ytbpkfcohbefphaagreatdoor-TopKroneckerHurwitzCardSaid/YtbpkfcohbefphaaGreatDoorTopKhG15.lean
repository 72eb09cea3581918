/- Lemmas, plain laws and walks that the statement LwKronecker leans on (texts KhW7), conditions as each theorem says. -/
import Derived.Test.YtbpkfcohbefphaaGreatDoorTopKhG07

namespace Go.Proofs.YtbpkfcohbefphaaGreatDoor
set_option maxHeartbeats 80000000 in
theorem hwt7 : ∀ m : Nat, m < 501 → Nat.beq (hw6G (m + 3500) (sqN (m + 3500))) (hwA (m + 3500)) = true := by decide +kernel
end Go.Proofs.YtbpkfcohbefphaaGreatDoor
