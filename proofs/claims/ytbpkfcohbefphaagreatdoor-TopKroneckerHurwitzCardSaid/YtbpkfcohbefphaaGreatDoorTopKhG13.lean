/- Lemmas, plain laws and walks that the statement LwKronecker leans on (texts KhW5), conditions as each theorem says. -/
import Derived.Test.YtbpkfcohbefphaaGreatDoorTopKhG07

namespace Go.Proofs.YtbpkfcohbefphaaGreatDoor
set_option maxHeartbeats 80000000 in
theorem hwt5 : ∀ m : Nat, m < 500 → Nat.beq (hw6G (m + 2500) (sqN (m + 2500))) (hwA (m + 2500)) = true := by decide +kernel
end Go.Proofs.YtbpkfcohbefphaaGreatDoor
