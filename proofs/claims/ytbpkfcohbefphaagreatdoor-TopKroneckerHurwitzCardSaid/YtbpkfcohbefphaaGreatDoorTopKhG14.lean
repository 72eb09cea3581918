/- Lemmas, plain laws and walks that the statement LwKronecker leans on (texts KhW6), conditions as each theorem says. -/
import Derived.Test.YtbpkfcohbefphaaGreatDoorTopKhG07

namespace Go.Proofs.YtbpkfcohbefphaaGreatDoor
set_option maxHeartbeats 80000000 in
theorem hwt6 : ∀ m : Nat, m < 500 → Nat.beq (hw6G (m + 3000) (sqN (m + 3000))) (hwA (m + 3000)) = true := by decide +kernel
end Go.Proofs.YtbpkfcohbefphaaGreatDoor
