/- Plain law: powers with a sum of exponents are products. No program in sight. -/
import Derived.Test.YtkjcdiolimajdaaPlD
namespace Go.Proofs.Ytkjcdiolimajdaa
theorem h_assoc (x y z : M2) : (x.times y).times z = x.times (y.times z) := by
  simp only [M2.times, M2.mk.injEq]
  refine ⟨?_, ?_, ?_, ?_⟩ <;> grind
theorem h_one (x : M2) : M2.one.times x = x := by simp [M2.times, M2.one]
theorem h_left {x : M2} (h : x.det = 1) : x.times x.back = M2.one := by
  obtain ⟨a, b, c, d⟩ := x
  simp only [M2.det] at h
  simp only [M2.times, M2.back, M2.one, M2.mk.injEq]
  refine ⟨?_, ?_, ?_, ?_⟩ <;> grind
theorem h_right {x : M2} (h : x.det = 1) : x.back.times x = M2.one := by
  obtain ⟨a, b, c, d⟩ := x
  simp only [M2.det] at h
  simp only [M2.times, M2.back, M2.one, M2.mk.injEq]
  refine ⟨?_, ?_, ?_, ?_⟩ <;> grind
def npw (m : M2) : Nat → M2
  | 0 => M2.one
  | k + 1 => m.times (npw m k)
def zpw (m : M2) (n : Int) : M2 := npw (if n < 0 then m.back else m) n.natAbs
theorem powR_npw (m : M2) : ∀ (k : Nat) (u v : M2), powR k m u = some v → v = u.times (npw m k)
  | 0, u, v, h => by
    simp only [powR, Option.some.injEq] at h
    simp [npw, ← h, M2.times, M2.one]
  | k + 1, u, v, h => by
    simp only [powR] at h
    split at h
    · rw [powR_npw m k _ v h, h_assoc]; rfl
    · exact absurd h (by simp)
theorem powF_zpw {m a : M2} {n : Int} (h : powF m n = (a, 0)) : checkF m = 0 ∧ -1000 ≤ n ∧ n ≤ 1000 ∧ a = zpw m n := by
  unfold powF at h
  split at h
  · rename_i hc
    split at h
    · rename_i hn
      refine ⟨hc, hn.1, hn.2, ?_⟩
      generalize hr : powR n.natAbs (if n < 0 then m.back else m) M2.one = r at h
      cases r with
      | none => simp at h
      | some u =>
        simp only [Prod.mk.injEq, and_true] at h
        have := powR_npw _ _ _ _ hr
        rw [h_one] at this
        rw [← h, this]; rfl
    · simp at h
  · rename_i hc
    exact absurd (congrArg Prod.snd h) hc
theorem zpw_succ {m : M2} (hd : m.det = 1) (n : Int) : zpw m (n + 1) = m.times (zpw m n) := by
  by_cases h : n < 0
  · obtain ⟨k, rfl⟩ : ∃ k : Nat, n = -((k : Int) + 1) := ⟨(-n - 1).toNat, by omega⟩
    have e1 : zpw m (-((k : Int) + 1)) = m.back.times (npw m.back k) := by
      unfold zpw
      rw [if_pos h, show (-((k : Int) + 1)).natAbs = k + 1 by omega]; rfl
    rw [e1, ← h_assoc, h_left hd, h_one]
    unfold zpw
    by_cases hk : k = 0
    · subst hk; rfl
    · rw [if_pos (by omega), show (-((k : Int) + 1) + 1).natAbs = k by omega]
  · unfold zpw
    rw [if_neg h, if_neg (by omega), show (n + 1).natAbs = n.natAbs + 1 by omega]; rfl
theorem zpw_add {m : M2} (hd : m.det = 1) (n k : Int) : zpw m (n + k) = (zpw m n).times (zpw m k) := by
  have up : ∀ (j : Nat) (n : Int), zpw m (n + k) = (zpw m n).times (zpw m k) → zpw m (n + j + k) = (zpw m (n + j)).times (zpw m k) := by
    intro j
    induction j with
    | zero => intro n h; simpa using h
    | succ j ih =>
      intro n h
      have h1 := ih n h
      rw [show n + ((j + 1 : Nat) : Int) + k = (n + j + k) + 1 by omega, show n + ((j + 1 : Nat) : Int) = (n + j) + 1 by omega, zpw_succ hd, zpw_succ hd, h1, h_assoc]
  have z0 : zpw m (0 + k) = (zpw m 0).times (zpw m k) := by
    rw [show zpw m 0 = M2.one from rfl, h_one, Int.zero_add]
  have down : ∀ (j : Nat) (n : Int), zpw m (n + k) = (zpw m n).times (zpw m k) → zpw m (n - j + k) = (zpw m (n - j)).times (zpw m k) := by
    intro j
    induction j with
    | zero => intro n h; simpa using h
    | succ j ih =>
      intro n h
      have h1 := ih n h
      have s1 := zpw_succ hd (n - ((j + 1 : Nat) : Int) + k)
      have s2 := zpw_succ hd (n - ((j + 1 : Nat) : Int))
      rw [show n - ((j + 1 : Nat) : Int) + k + 1 = n - j + k by omega] at s1
      rw [show n - ((j + 1 : Nat) : Int) + 1 = n - j by omega] at s2
      have h2 : m.times (zpw m (n - ((j + 1 : Nat) : Int) + k)) = m.times ((zpw m (n - ((j + 1 : Nat) : Int))).times (zpw m k)) := by
        rw [← s1, h1, s2, h_assoc]
      have h3 := congrArg (fun t => m.back.times t) h2
      simp only [← h_assoc, h_right hd, h_one] at h3
      exact h3
  by_cases h : 0 ≤ n
  · have := up n.toNat 0 z0
    rwa [show (0 : Int) + ((n.toNat : Nat) : Int) = n by omega] at this
  · have := down (-n).toNat 0 z0
    rwa [show (0 : Int) - (((-n).toNat : Nat) : Int) = n by omega] at this
theorem pow_mul {m a c d x : M2} {n k : Int} (h1 : powF m n = (a, 0)) (h2 : powF m k = (c, 0)) (h3 : powF m (n + k) = (d, 0)) (h4 : mulF a c = (x, 0)) : x = d := by
  obtain ⟨hc, -, -, rfl⟩ := powF_zpw h1
  obtain ⟨-, -, -, rfl⟩ := powF_zpw h2
  obtain ⟨-, -, -, rfl⟩ := powF_zpw h3
  rw [zpw_add (checkF_zero.1 hc).2]
  unfold mulF at h4
  split at h4
  · split at h4
    · exact (congrArg Prod.fst h4).symm
    · simp at h4
  · simp at h4
end Go.Proofs.Ytkjcdiolimajdaa
