/- Lemmas, plain laws and walks that the statement LwKronecker leans on (texts KhX), conditions as each theorem says. -/
import Derived.Test.YtbpkfcohbefphaaGreatDoorTopKhG08
import Derived.Test.YtbpkfcohbefphaaGreatDoorTopKhG09
import Derived.Test.YtbpkfcohbefphaaGreatDoorTopKhG10
import Derived.Test.YtbpkfcohbefphaaGreatDoorTopKhG11
import Derived.Test.YtbpkfcohbefphaaGreatDoorTopKhG12
import Derived.Test.YtbpkfcohbefphaaGreatDoorTopKhG13
import Derived.Test.YtbpkfcohbefphaaGreatDoorTopKhG14
import Derived.Test.YtbpkfcohbefphaaGreatDoorTopKhG15

namespace Go.Proofs.YtbpkfcohbefphaaGreatDoor
theorem hw_at {lo c : Nat} (h : ∀ m : Nat, m < c → Nat.beq (hw6G (m + lo) (sqN (m + lo))) (hwA (m + lo)) = true) (m : Nat) (h1 : lo ≤ m) (h2 : m < lo + c) : hwN m = hwA m := by
  have h3 := Nat.eq_of_beq_eq_true (h (m - lo) (by omega))
  rw [show m - lo + lo = m by omega] at h3
  rw [hwG_eq]; exact h3
theorem hwN_tab (m : Nat) (h : m ≤ 4000) : hwN m = hwA m := by
  rcases (show m < 500 ∨ (500 ≤ m ∧ m < 1000) ∨ (1000 ≤ m ∧ m < 1500) ∨ (1500 ≤ m ∧ m < 2000) ∨ (2000 ≤ m ∧ m < 2500) ∨ (2500 ≤ m ∧ m < 3000) ∨ (3000 ≤ m ∧ m < 3500) ∨ 3500 ≤ m by omega) with h1 | ⟨h1, h2⟩ | ⟨h1, h2⟩ | ⟨h1, h2⟩ | ⟨h1, h2⟩ | ⟨h1, h2⟩ | ⟨h1, h2⟩ | h1
  · exact hw_at hwt0 m (by omega) (by omega)
  · exact hw_at hwt1 m (by omega) (by omega)
  · exact hw_at hwt2 m (by omega) (by omega)
  · exact hw_at hwt3 m (by omega) (by omega)
  · exact hw_at hwt4 m (by omega) (by omega)
  · exact hw_at hwt5 m (by omega) (by omega)
  · exact hw_at hwt6 m (by omega) (by omega)
  · exact hw_at hwt7 m (by omega) (by omega)
end Go.Proofs.YtbpkfcohbefphaaGreatDoor
