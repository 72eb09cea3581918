/- Plain laws of units modulo n, and of the least pair of an orbit. No program here. -/
import Derived.Test.YtcgiancmponmgaaPjA
namespace Go.Proofs.Ytcgiancmponmgaa

theorem gcd_tm (x y : Int) : Int.gcd y (x.tmod y) = Int.gcd x y := by
  simp only [Int.gcd, Int.natAbs_tmod]
  rw [Nat.gcd_comm x.natAbs y.natAbs, Nat.gcd_rec y.natAbs x.natAbs, Nat.gcd_comm]
theorem bez : ∀ (k : Nat) (a b : Int), b.natAbs ≤ k → ∃ u v : Int, u * a + v * b = Int.gcd a b
  | 0, a, b, h => by
    have hb : b = 0 := by omega
    subst hb
    rw [Int.gcd_zero_right]
    by_cases ha : 0 ≤ a
    · exact ⟨1, 0, by omega⟩
    · exact ⟨-1, 0, by omega⟩
  | k + 1, a, b, h => by
    by_cases hb : b = 0
    · subst hb
      rw [Int.gcd_zero_right]
      by_cases ha : 0 ≤ a
      · exact ⟨1, 0, by omega⟩
      · exact ⟨-1, 0, by omega⟩
    · have hlt : (a.tmod b).natAbs < b.natAbs := by
        rw [Int.natAbs_tmod]
        exact Nat.mod_lt _ (by omega)
      obtain ⟨u, v, huv⟩ := bez k b (a.tmod b) (by omega)
      rw [gcd_tm] at huv
      have e := Int.tmod_add_mul_tdiv a b
      refine ⟨v, u - v * a.tdiv b, ?_⟩
      rw [← huv]
      have e2 : a.tmod b = a - b * a.tdiv b := by omega
      rw [e2]
      grind
theorem bez1 {a b : Int} (h : Int.gcd a b = 1) : ∃ u v : Int, u * a + v * b = 1 := by
  obtain ⟨u, v, huv⟩ := bez b.natAbs a b (Nat.le_refl _)
  exact ⟨u, v, by rw [huv, h]; rfl⟩
theorem cop_of {a n u v : Int} (h : u * a + v * n = 1) : Int.gcd a n = 1 := by
  have h1 : ((Int.gcd a n : Nat) : Int) ∣ a := Int.gcd_dvd_left ..
  have h2 : ((Int.gcd a n : Nat) : Int) ∣ n := Int.gcd_dvd_right ..
  have h3 : ((Int.gcd a n : Nat) : Int) ∣ 1 := by
    rw [← h]
    exact Int.dvd_add (Int.dvd_mul_of_dvd_right h1) (Int.dvd_mul_of_dvd_right h2)
  have h4 := Int.natAbs_dvd_natAbs.2 h3
  simpa using h4
/-- Equal modulo n. -/
def eqN (n x y : Int) : Prop := n ∣ x - y
theorem eqN.refl (n x : Int) : eqN n x x := by unfold eqN; simp
theorem eqN.symm {n x y : Int} (h : eqN n x y) : eqN n y x := by
  obtain ⟨k, hk⟩ := h
  exact ⟨-k, by rw [Int.mul_neg]; omega⟩
theorem eqN.trans {n x y z : Int} (h : eqN n x y) (h' : eqN n y z) : eqN n x z := by
  obtain ⟨k, hk⟩ := h
  obtain ⟨j, hj⟩ := h'
  exact ⟨k + j, by rw [Int.mul_add]; omega⟩
theorem eqN.mul {n x y : Int} (h : eqN n x y) (a : Int) : eqN n (a * x) (a * y) := by
  obtain ⟨k, hk⟩ := h
  exact ⟨a * k, by rw [← Int.mul_sub, hk]; grind⟩
theorem eqN.add {n x y x' y' : Int} (h : eqN n x y) (h' : eqN n x' y') : eqN n (x + x') (y + y') := by
  obtain ⟨k, hk⟩ := h
  obtain ⟨j, hj⟩ := h'
  exact ⟨k + j, by rw [Int.mul_add]; omega⟩
theorem eqN.of_mod (n x : Int) : eqN n (x % n) x := ⟨-(x / n), by have := Int.emod_add_mul_ediv x n; rw [Int.mul_neg]; omega⟩
theorem eqN.mod {n x y : Int} (h : eqN n x y) : x % n = y % n := by
  obtain ⟨k, hk⟩ := h
  have e : x = y + n * k := by omega
  rw [e, Int.add_mul_emod_self_left]
theorem eqN.iff {n x y : Int} : eqN n x y ↔ x % n = y % n := ⟨eqN.mod, fun h => (eqN.of_mod n x).symm.trans (h ▸ eqN.of_mod n y)⟩
/-- A unit modulo n: with an inverse. -/
theorem unit_inv {n s : Int} (h : Int.gcd s n = 1) : ∃ t, eqN n (t * s) 1 := by
  obtain ⟨u, v, huv⟩ := bez1 h
  exact ⟨u, -v, by rw [Int.mul_neg, Int.mul_comm n v]; omega⟩
theorem unit_of {n s t : Int} (h : eqN n (t * s) 1) : Int.gcd s n = 1 := by
  obtain ⟨k, hk⟩ := h
  exact cop_of (u := t) (v := -k) (by rw [Int.neg_mul, Int.mul_comm k n]; omega)
theorem unit_eq {n s s' : Int} (h : Int.gcd s n = 1) (e : eqN n s s') : Int.gcd s' n = 1 := by
  obtain ⟨t, ht⟩ := unit_inv h
  exact unit_of ((e.symm.mul t).trans ht)
theorem unit_mul {n s s' : Int} (h : Int.gcd s n = 1) (h' : Int.gcd s' n = 1) : Int.gcd (s * s') n = 1 := by
  obtain ⟨t, ht⟩ := unit_inv h
  obtain ⟨t', ht'⟩ := unit_inv h'
  refine unit_of (t := t * t') ?_
  have e1 := (ht.mul (t' * s'))
  have e2 : t * t' * (s * s') = t' * s' * (t * s) := by grind
  rw [e2]
  rw [Int.mul_one] at e1
  exact e1.trans ht'
/-- The number from 1 to n that equals s modulo n. -/
def rep (n s : Int) : Int := if s % n = 0 then n else s % n
theorem rep_spec {n : Int} (h1 : 1 ≤ n) (s : Int) : 1 ≤ rep n s ∧ rep n s ≤ n ∧ eqN n (rep n s) s := by
  have g1 := Int.emod_nonneg s (b := n) (by omega)
  have g2 := Int.emod_lt_of_pos s (b := n) (by omega)
  unfold rep
  split
  · rename_i h
    refine ⟨h1, Int.le_refl _, ?_⟩
    exact eqN.iff.2 (by rw [h]; simp)
  · exact ⟨by omega, by omega, eqN.of_mod n s⟩
/-- Every multiple by a unit is no less than the least pair. -/
theorem Lst.le {n c d : Int} {x : P3} (h : Lst n c d x) (h1 : 1 ≤ n) {s : Int} (hs : Int.gcd s n = 1) : x.u < (s * c) % n ∨ (x.u = (s * c) % n ∧ x.v ≤ (s * d) % n) := by
  obtain ⟨r1, r2, r3⟩ := rep_spec h1 s
  have hr := h.least (rep n s) r1 r2 (unit_eq hs r3.symm)
  have e1 : (rep n s * c) % n = (s * c) % n := by
    have := r3.mul c
    rw [Int.mul_comm c, Int.mul_comm c] at this
    exact this.mod
  have e2 : (rep n s * d) % n = (s * d) % n := by
    have := r3.mul d
    rw [Int.mul_comm d, Int.mul_comm d] at this
    exact this.mod
  rw [e1, e2] at hr
  exact hr
/-- Two pairs that a unit leads to each other have the same least pair. -/
theorem Lst.same {n c d c' d' r : Int} {x y : P3} (h1 : 1 ≤ n) (hx : Lst n c d x) (hy : Lst n c' d' y) (hr : Int.gcd r n = 1) (ec : eqN n c' (r * c)) (ed : eqN n d' (r * d)) : y.u = x.u ∧ y.v = x.v := by
  obtain ⟨r', hr'⟩ := unit_inv hr
  have ur' : Int.gcd r' n = 1 := unit_of (t := r) (by rw [Int.mul_comm]; exact hr')
  have back : ∀ z z', eqN n z' (r * z) → eqN n z (r' * z') := fun z z' e => by
    have e1 := e.mul r'
    have e2 := hr'.mul z
    rw [Int.mul_one] at e2
    have e3 : r' * (r * z) = z * (r' * r) := by grind
    rw [e3] at e1
    exact (e1.trans e2).symm
  have key : ∀ {c d c' d' r : Int} {x y : P3}, Lst n c d x → Lst n c' d' y → Int.gcd r n = 1 → eqN n c' (r * c) → eqN n d' (r * d) → x.u < y.u ∨ (x.u = y.u ∧ x.v ≤ y.v) := by
    intro c d c' d' r x y hx hy hr ec ed
    have h := hx.le h1 (unit_mul hy.cop hr)
    have e1 : (y.t * r * c) % n = y.u := by
      rw [hy.eu, Int.mul_assoc]
      exact (ec.mul y.t).symm.mod
    have e2 : (y.t * r * d) % n = y.v := by
      rw [hy.ev, Int.mul_assoc]
      exact (ed.mul y.t).symm.mod
    rw [e1, e2] at h
    exact h
  have k1 := key hx hy hr ec ed
  have k2 := key hy hx ur' (back _ _ ec) (back _ _ ed)
  omega
theorem invS_eq {n s u : Int} (h1 : 1 ≤ n) (h2 : n ≤ 120) (hs : 0 ≤ s) (hu1 : 1 ≤ u) (hun : u ≤ n) (he : eqN n (u * s) 1) : invS n s 130 1 = u := by
  have tm : ∀ x, 0 ≤ x → x.tmod n = x % n := fun x hx => Int.tmod_eq_emod_of_nonneg hx
  refine invS_find hun ?_ 130 1 (by omega) hu1 (fun t' g1 g2 e => ?_)
  · rw [tm _ (Int.mul_nonneg (by omega) hs), tm _ (by omega)]
    exact he.mod
  · rw [tm _ (Int.mul_nonneg (by omega) hs), tm _ (by omega)] at e
    have e2 := eqN.iff.2 e
    have hus : Int.gcd u n = 1 := unit_of (t := s) (by rw [Int.mul_comm]; exact he)
    -- t' = t' (u s) = (t' s) u = u
    have e3 := he.mul t'
    have e4 := e2.mul u
    rw [Int.mul_one] at e3 e4
    have e5 : t' * (u * s) = u * (t' * s) := by grind
    rw [e5] at e3
    have e6 : eqN n u t' := e4.symm.trans e3
    obtain ⟨k, hk⟩ := e6
    have hk0 : 0 < k := by
      rcases Int.lt_trichotomy k 0 with h | h | h
      · have : n * k ≤ n * (-1) := Int.mul_le_mul_of_nonneg_left (by omega) (by omega)
        omega
      · subst h; omega
      · exact h
    have : n * 1 ≤ n * k := Int.mul_le_mul_of_nonneg_left (by omega) (by omega)
    omega
end Go.Proofs.Ytcgiancmponmgaa
