/- Lemmas, plain laws and walks that the statement LwKronecker leans on (texts KhW2), conditions as each theorem says. -/
import Derived.Test.YtbpkfcohbefphaaGreatDoorTopKhG07

namespace Go.Proofs.YtbpkfcohbefphaaGreatDoor
set_option maxHeartbeats 80000000 in
theorem hwt2 : ∀ m : Nat, m < 500 → Nat.beq (hw6G (m + 1000) (sqN (m + 1000))) (hwA (m + 1000)) = true := by decide +kernel
end Go.Proofs.YtbpkfcohbefphaaGreatDoor
