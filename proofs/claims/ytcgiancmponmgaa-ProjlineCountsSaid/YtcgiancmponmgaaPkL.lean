/- The length of the list is the number of the table. No program here. -/
import Derived.Test.YtcgiancmponmgaaPkK
namespace Go.Proofs.Ytcgiancmponmgaa

theorem unN_mem {n : Nat} : ∀ (k s : Nat), s ∈ unN n k ↔ (1 ≤ s ∧ s ≤ k ∧ Nat.gcd s n = 1)
  | 0, s => by simp [unN]; omega
  | k + 1, s => by
    unfold unN
    by_cases h : Nat.gcd (k + 1) n = 1
    · rw [if_pos h, List.mem_cons, unN_mem k s]
      constructor
      · rintro (rfl | ⟨a, b, c⟩)
        · exact ⟨by omega, by omega, h⟩
        · exact ⟨a, by omega, c⟩
      · rintro ⟨a, b, c⟩
        by_cases e : s = k + 1
        · exact .inl e
        · exact .inr ⟨a, by omega, c⟩
    · rw [if_neg h, unN_mem k s]
      constructor
      · rintro ⟨a, b, c⟩; exact ⟨a, by omega, c⟩
      · rintro ⟨a, b, c⟩
        have : s ≠ k + 1 := fun e => h (e ▸ c)
        exact ⟨a, by omega, c⟩
theorem okP_nat {n u v : Nat} (h1 : 1 ≤ n) (h2 : n ≤ 120) (hu : u < n) (hv : v < n) : okP (n : Int) (u : Int) (v : Int) = (okRow (unN n n) n u && okV (stab (unN n n) n u) n u v) := by
  rw [Bool.eq_iff_iff, okP_iff (by omega) (by omega) (by omega) (by omega) (by omega) (by omega)]
  have cast : ∀ s z : Nat, ((s : Int) * (z : Int)) % (n : Int) = ((s * z % n : Nat) : Int) := fun s z => by simp
  simp only [okRow, okV, stab, Bool.and_eq_true, List.all_eq_true, Nat.ble_eq, Nat.beq_eq, List.mem_filter]
  have e1 : ((1 : Int) * (u : Int)) % (n : Int) = (u : Int) := by rw [Int.one_mul]; exact Int.emod_eq_of_lt (by omega) (by omega)
  have e2 : ((1 : Int) * (v : Int)) % (n : Int) = (v : Int) := by rw [Int.one_mul]; exact Int.emod_eq_of_lt (by omega) (by omega)
  constructor
  · rintro ⟨hg, hl⟩
    have hle : ∀ s ∈ unN n n, u < s * u % n ∨ (u = s * u % n ∧ v ≤ s * v % n) := fun s hs => by
      obtain ⟨a, b, c⟩ := (unN_mem n s).1 hs
      have := hl.least (s : Int) (by omega) (by omega) c
      simp only [cast] at this
      omega
    refine ⟨fun s hs => ?_, hg, fun s hs => ?_⟩
    · have := hle s hs; omega
    · have := hle s hs.1
      have e := hs.2
      omega
  · rintro ⟨ha, hg, hb⟩
    refine ⟨hg, by show (1 : Int) ≤ 1; omega, by show (1 : Int) ≤ (n : Int); omega, Int.gcd_one_left _, e1.symm, e2.symm, fun s g1 g2 g3 => ?_⟩
    obtain ⟨S, rfl⟩ := Int.eq_ofNat_of_zero_le (show 0 ≤ s by omega)
    have hm : S ∈ unN n n := (unN_mem n S).2 ⟨by omega, by omega, g3⟩
    show (u : Int) < (S : Int) * (u : Int) % (n : Int) ∨ ((u : Int) = (S : Int) * (u : Int) % (n : Int) ∧ (v : Int) ≤ (S : Int) * (v : Int) % (n : Int))
    rw [cast, cast]
    have h3 := ha S hm
    by_cases e : S * u % n = u
    · have h4 := hb S ⟨hm, e⟩
      omega
    · omega
theorem lsA_row {n u : Nat} (h1 : 1 ≤ n) (h2 : n ≤ 120) (hu : u < n) (h0 : (lsA (n : Int) (u * n)).length = cC (unN n n) n u) : ∀ v, v ≤ n → (lsA (n : Int) (u * n + v)).length = cC (unN n n) n u + bif okRow (unN n n) n u then cR (stab (unN n n) n u) n u v else 0
  | 0, _ => by rw [Nat.add_zero, h0]; cases okRow (unN n n) n u <;> simp [cR]
  | v + 1, hv => by
    have ih := lsA_row h1 h2 hu h0 v (by omega)
    obtain ⟨d1, d2⟩ := key_div (n := (n : Int)) (u := (u : Int)) (v := (v : Int)) (by omega) (by omega) (by omega)
    have e : ((u * n + v : Nat) : Int) = (u : Int) * (n : Int) + (v : Int) := by simp
    rw [show u * n + (v + 1) = (u * n + v) + 1 by omega, lsA, List.length_append, ih, e, d1, d2, okP_nat h1 h2 hu (by omega)]
    cases okRow (unN n n) n u
    · simp
    · cases hk : okV (stab (unN n n) n u) n u v
      · simp [cR, hk]
      · simp [cR, hk]; omega
theorem lsA_rows {n : Nat} (h1 : 1 ≤ n) (h2 : n ≤ 120) : ∀ u, u ≤ n → (lsA (n : Int) (u * n)).length = cC (unN n n) n u
  | 0, _ => by simp [lsA, cC]
  | u + 1, hu => by
    have ih := lsA_rows h1 h2 u (by omega)
    have := lsA_row h1 h2 (u := u) (by omega) ih n (Nat.le_refl _)
    rw [Nat.add_mul, Nat.one_mul, this, cC]
theorem lsF_count {n : Nat} (h1 : 1 ≤ n) (h2 : n ≤ 120) : (lsF (n : Int)).length = cC (unN n n) n n := by
  unfold lsF
  rw [Int.toNat_natCast]
  exact lsA_rows h1 h2 n (Nat.le_refl _)
theorem tab_parts {n : Nat} (h1 : 1 ≤ n) (h2 : n ≤ 120) : psOk n 130 2 n = true ∧ fcOk 30 n 2 1 = true ∧ fcL 30 n 2 1 = psL n 130 2 n ∧ (lsF (n : Int)).length = psL n 130 2 n := by
  have h := tab n h1 h2
  unfold tabB at h
  simp only [Bool.and_eq_true, Nat.beq_eq] at h
  obtain ⟨⟨⟨a, b⟩, c⟩, d⟩ := h
  exact ⟨a, b, by simpa using c, by rw [lsF_count h1 h2]; simpa using d⟩
end Go.Proofs.Ytcgiancmponmgaa
