/- Lemmas, plain laws and walks that the statement LwKronecker leans on (texts KhW0), conditions as each theorem says. -/
import Derived.Test.YtbpkfcohbefphaaGreatDoorTopKhG07

namespace Go.Proofs.YtbpkfcohbefphaaGreatDoor
set_option maxHeartbeats 80000000 in
theorem hwt0 : ∀ m : Nat, m < 500 → Nat.beq (hw6G (m + 0) (sqN (m + 0))) (hwA (m + 0)) = true := by decide +kernel
end Go.Proofs.YtbpkfcohbefphaaGreatDoor
