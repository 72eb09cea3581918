/- Tables: Merel's lists to 24, and lengths. No program here. -/
import Derived.Test.YtalidpojcpmcbaaHbP
import Derived.Test.YtalidpojcpmcbaaHbQ
namespace Go.Proofs.Ytalidpojcpmcbaa
theorem mer_table24 : merAll 24 = true := by decide +kernel
theorem merAll_at : ∀ (m k : Nat), merAll m = true → 1 ≤ k → k ≤ m → merF (k : Nat) = rmF (k : Nat)
  | 0, k, _, h1, h2 => by omega
  | m + 1, k, h, h1, h2 => by
    simp only [merAll, Bool.and_eq_true, decide_eq_true_eq] at h
    by_cases hk : k = m + 1
    · subst hk; exact h.1
    · exact merAll_at m k h.2 h1 (by omega)
def lenAll (f : Int → List M2) : Nat → Bool
  | 0 => true
  | k + 1 => decide ((f (Int.ofNat (k + 1))).length ≤ 100000) && lenAll f k
theorem lenAll_at (f : Int → List M2) : ∀ (m k : Nat), lenAll f m = true → 1 ≤ k → k ≤ m → (f (k : Nat)).length ≤ 100000
  | 0, k, _, h1, h2 => by omega
  | m + 1, k, h, h1, h2 => by
    simp only [lenAll, Bool.and_eq_true, decide_eq_true_eq] at h
    by_cases hk : k = m + 1
    · subst hk; exact h.1
    · exact lenAll_at f m k h.2 h1 (by omega)
theorem merLen : lenAll merF 24 = true := by decide +kernel
theorem crLen : lenAll crF 128 = true := by decide +kernel
theorem mer_eq {n : Int} (h1 : 1 ≤ n) (h2 : n ≤ 24) : merF n = rmF n ∧ (merF n).length ≤ 100000 := by
  obtain ⟨k, rfl⟩ : ∃ k : Nat, n = k := ⟨n.toNat, by omega⟩
  exact ⟨merAll_at 24 k mer_table24 (by omega) (by omega), lenAll_at merF 24 k merLen (by omega) (by omega)⟩
theorem cr_len {n : Int} (h1 : 1 ≤ n) (h2 : n ≤ 128) : (crF n).length ≤ 100000 := by
  obtain ⟨k, rfl⟩ : ∃ k : Nat, n = k := ⟨n.toNat, by omega⟩
  exact lenAll_at crF 128 k crLen (by omega) (by omega)
end Go.Proofs.Ytalidpojcpmcbaa
