/- Plain model of the projective line: normal forms and units. No program here. -/
import Derived.Test.YtcgiancmponmgaaPlA
namespace Go.Proofs.Ytcgiancmponmgaa

structure P3 where
  u : Int
  v : Int
  t : Int
def P3.zero : P3 := ⟨0, 0, 0⟩
instance : DecidableEq P3 := fun x y => decidable_of_iff (x.u = y.u ∧ x.v = y.v ∧ x.t = y.t) (by cases x; cases y; simp)
def stN (n c d s : Int) (x : P3) : P3 := if (Int.gcd s n : Int) = 1 ∧ ((s * c).tmod n < x.u ∨ ((s * c).tmod n = x.u ∧ (s * d).tmod n < x.v)) then ⟨(s * c).tmod n, (s * d).tmod n, s⟩ else x
def nmL (n c d : Int) : Nat → Int → P3 → P3
  | 0, _, x => x
  | f + 1, s, x => if s < n then nmL n c d f (s + 1) (stN n c d s x) else x
def nmX (n c d : Int) : P3 := nmL n c d 130 2 ⟨c, d, 1⟩
def rlL (n c d : Int) : Nat → Int → P3 → P3
  | 0, _, x => x
  | f + 1, s, x => if s ≤ n then rlL n c d f (s + 1) (stN n c d s x) else x
def rlX (n c d : Int) : P3 := rlL n c d 130 1 ⟨n, n, 0⟩
def invS (n s : Int) : Nat → Int → Int
  | 0, _ => s
  | f + 1, t => if t ≤ n then (if (t * s).tmod n = (1 : Int).tmod n then t else invS n s f (t + 1)) else s
def normF (n c d : Int) : P3 := ⟨(nmX n c d).u, (nmX n c d).v, invS n (nmX n c d).t 130 1⟩
theorem nmL_end {n c d : Int} {s : Int} {x : P3} (h : ¬ s < n) : ∀ f, nmL n c d f s x = x
  | 0 => rfl
  | f + 1 => by unfold nmL; rw [if_neg h]
theorem rlL_end {n c d : Int} {s : Int} {x : P3} (h : ¬ s ≤ n) : ∀ f, rlL n c d f s x = x
  | 0 => rfl
  | f + 1 => by unfold rlL; rw [if_neg h]
theorem rl_nm {n c d : Int} : ∀ (f f' : Nat) (s : Int) (x : P3), 2 ≤ s → n + 1 - s ≤ f → n - s ≤ f' → rlL n c d f s x = nmL n c d f' s x
  | 0, f', s, x, h2, h, h' => by rw [nmL_end (by omega)]; rfl
  | f + 1, f', s, x, h2, h, h' => by
    by_cases hs : s < n
    · obtain ⟨g, rfl⟩ : ∃ g, f' = g + 1 := ⟨f' - 1, by omega⟩
      unfold rlL nmL
      rw [if_pos hs, if_pos (by omega)]
      exact rl_nm f g (s + 1) _ (by omega) (by omega) (by omega)
    · rw [nmL_end hs]
      by_cases he : s = n
      · subst he
        unfold rlL
        rw [if_pos (Int.le_refl _), rlL_end (by omega)]
        unfold stN
        rw [if_neg]
        rintro ⟨h1, -⟩
        rw [Int.gcd_self] at h1
        omega
      · rw [rlL_end (by omega)]
theorem rl_eq {n c d : Int} (h1 : 1 ≤ n) (h2 : n ≤ 120) (hc : 0 ≤ c) (hcn : c < n) (hd : 0 ≤ d) (hdn : d < n) : rlX n c d = nmX n c d := by
  unfold rlX nmX
  have e : rlL n c d 130 1 ⟨n, n, 0⟩ = rlL n c d 129 2 (stN n c d 1 ⟨n, n, 0⟩) := by
    rw [rlL, if_pos h1]; rfl
  have e2 : stN n c d 1 ⟨n, n, 0⟩ = ⟨c, d, 1⟩ := by
    have g1 : (1 * c).tmod n = c := by rw [Int.one_mul]; exact Int.tmod_eq_of_lt hc hcn
    have g2 : (1 * d).tmod n = d := by rw [Int.one_mul]; exact Int.tmod_eq_of_lt hd hdn
    unfold stN
    rw [g1, g2, if_pos]
    exact ⟨by rw [Int.gcd_one_left]; rfl, .inl hcn⟩
  rw [e, e2]
  exact rl_nm 129 130 2 _ (by omega) (by omega) (by omega)
/-- The least pair of the orbit, and the unit that leads to it. -/
structure Lst (n c d : Int) (x : P3) : Prop where
  t1 : 1 ≤ x.t
  tn : x.t ≤ n
  cop : Int.gcd x.t n = 1
  eu : x.u = (x.t * c) % n
  ev : x.v = (x.t * d) % n
  least : ∀ s, 1 ≤ s → s ≤ n → Int.gcd s n = 1 → x.u < (s * c) % n ∨ (x.u = (s * c) % n ∧ x.v ≤ (s * d) % n)
theorem nmL_spec {n c d : Int} (hc : 0 ≤ c) (hd : 0 ≤ d) : ∀ (f : Nat) (s : Int) (x : P3), n - s ≤ f → 2 ≤ s →
    (1 ≤ x.t ∧ x.t ≤ n ∧ Int.gcd x.t n = 1 ∧ x.u = (x.t * c) % n ∧ x.v = (x.t * d) % n) → (∀ s', 1 ≤ s' → s' < s → Int.gcd s' n = 1 → x.u < (s' * c) % n ∨ (x.u = (s' * c) % n ∧ x.v ≤ (s' * d) % n)) →
    Lst n c d (nmL n c d f s x) := by
  have fin : ∀ (s : Int) (x : P3), ¬ s < n → 2 ≤ s → (1 ≤ x.t ∧ x.t ≤ n ∧ Int.gcd x.t n = 1 ∧ x.u = (x.t * c) % n ∧ x.v = (x.t * d) % n) → (∀ s', 1 ≤ s' → s' < s → Int.gcd s' n = 1 → x.u < (s' * c) % n ∨ (x.u = (s' * c) % n ∧ x.v ≤ (s' * d) % n)) → Lst n c d x := by
    intro s x hs h2 hx hl
    refine ⟨hx.1, hx.2.1, hx.2.2.1, hx.2.2.2.1, hx.2.2.2.2, fun s' g1 g2 g3 => ?_⟩
    by_cases g : s' < s
    · exact hl s' g1 g g3
    · exfalso
      have e : s' = n := by omega
      rw [e, Int.gcd_self] at g3
      omega
  intro f
  induction f with
  | zero =>
    intro s x hf h2 hx hl
    exact fin s x (by omega) h2 hx hl
  | succ f ih =>
    intro s x hf h2 hx hl
    unfold nmL
    by_cases hs : s < n
    · rw [if_pos hs]
      have k1 : (s * c).tmod n = (s * c) % n := Int.tmod_eq_emod_of_nonneg (Int.mul_nonneg (by omega) hc)
      have k2 : (s * d).tmod n = (s * d) % n := Int.tmod_eq_emod_of_nonneg (Int.mul_nonneg (by omega) hd)
      unfold stN
      rw [k1, k2]
      split
      · rename_i hb
        refine ih (s + 1) _ (by omega) (by omega) ⟨by show 1 ≤ s; omega, by show s ≤ n; omega, by show Int.gcd s n = 1; have := hb.1; omega, rfl, rfl⟩ (fun s' g1 g2 g3 => ?_)
        show s * c % n < s' * c % n ∨ (s * c % n = s' * c % n ∧ s * d % n ≤ s' * d % n)
        by_cases g : s' = s
        · subst g; exact .inr ⟨rfl, Int.le_refl _⟩
        · rcases hl s' g1 (by omega) g3 with h | h <;> rcases hb.2 with h' | h' <;> omega
      · rename_i hb
        refine ih (s + 1) x (by omega) (by omega) hx (fun s' g1 g2 g3 => ?_)
        by_cases g : s' = s
        · subst g
          have hb2 : ¬ (s' * c % n < x.u ∨ (s' * c % n = x.u ∧ s' * d % n < x.v)) := fun h => hb ⟨by omega, h⟩
          omega
        · exact hl s' g1 (by omega) g3
    · rw [if_neg hs]
      exact fin s x hs h2 hx hl
theorem nmX_spec {n c d : Int} (h1 : 1 ≤ n) (h2 : n ≤ 120) (hc : 0 ≤ c) (hcn : c < n) (hd : 0 ≤ d) (hdn : d < n) : Lst n c d (nmX n c d) := by
  have e1 : (1 * c) % n = c := by rw [Int.one_mul]; exact Int.emod_eq_of_lt hc hcn
  have e2 : (1 * d) % n = d := by rw [Int.one_mul]; exact Int.emod_eq_of_lt hd hdn
  refine nmL_spec hc hd 130 2 ⟨c, d, 1⟩ (by omega) (by omega) ⟨by show (1 : Int) ≤ 1; omega, by show (1 : Int) ≤ n; omega, Int.gcd_one_left _, e1.symm, e2.symm⟩ (fun s' g1 g2 g3 => ?_)
  have e : s' = 1 := by omega
  subst e
  exact .inr ⟨e1.symm, by show d ≤ _; omega⟩
theorem invS_find {n s u : Int} (hu : u ≤ n) (he : (u * s).tmod n = (1 : Int).tmod n) : ∀ (f : Nat) (t : Int), u - t < f → t ≤ u → (∀ t', t ≤ t' → t' < u → (t' * s).tmod n ≠ (1 : Int).tmod n) → invS n s f t = u
  | 0, t, h, _, _ => by omega
  | f + 1, t, h, htu, hn => by
    unfold invS
    rw [if_pos (by omega)]
    by_cases e : t = u
    · subst e; rw [if_pos he]
    · rw [if_neg (hn t (Int.le_refl _) (by omega))]
      exact invS_find hu he f (t + 1) (by omega) (by omega) (fun t' g1 g2 => hn t' (by omega) g2)
end Go.Proofs.Ytcgiancmponmgaa
