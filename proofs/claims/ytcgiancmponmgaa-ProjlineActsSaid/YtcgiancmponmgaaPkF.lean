/- Plain law of units of the projective line. -/
import Derived.Test.YtcgiancmponmgaaPjP
namespace Go.Proofs.Ytcgiancmponmgaa

theorem g3_cancel {n a b k : Int} (h : Int.gcd ((Int.gcd a b : Nat) : Int) n = 1) (ha : n ∣ k * a) (hb : n ∣ k * b) : n ∣ k := by
  obtain ⟨x, y, z, e⟩ := g3_iff.1 h
  obtain ⟨p, hp⟩ := ha
  obtain ⟨q, hq⟩ := hb
  refine ⟨x * p + y * q + z * k, ?_⟩
  have e1 : k = x * (k * a) + y * (k * b) + z * k * n := by
    have e2 : k * (x * a + y * b + z * n) = k := by rw [e, Int.mul_one]
    grind
  rw [hp, hq] at e1
  exact e1.trans (by grind)
/-- What the normal form of a pair is: its least pair, and the unit that leads back. -/
theorem normF_spec {n c d : Int} (h1 : 1 ≤ n) (h2 : n ≤ 120) (hc : 0 ≤ c) (hcn : c < n) (hd : 0 ≤ d) (hdn : d < n) :
    ∃ X : P3, Lst n c d X ∧ (normF n c d).u = X.u ∧ (normF n c d).v = X.v ∧ 1 ≤ (normF n c d).t ∧ (normF n c d).t ≤ n ∧ eqN n ((normF n c d).t * X.t) 1 ∧ Int.gcd (normF n c d).t n = 1 := by
  have hx := nmX_spec h1 h2 hc hcn hd hdn
  refine ⟨nmX n c d, hx, rfl, rfl, ?_⟩
  obtain ⟨t, ht⟩ := unit_inv hx.cop
  obtain ⟨p1, p2, p3⟩ := rep_spec h1 t
  have e : eqN n (rep n t * (nmX n c d).t) 1 := by
    have := p3.mul (nmX n c d).t
    rw [Int.mul_comm _ (rep n t), Int.mul_comm _ t] at this
    exact this.trans ht
  have hu : (normF n c d).t = rep n t := invS_eq h1 h2 (by have := hx.t1; omega) p1 p2 e
  rw [hu]
  exact ⟨p1, p2, e, unit_of (t := (nmX n c d).t) (by rw [Int.mul_comm]; exact e)⟩
theorem g3_mod {n c d : Int} (h : Int.gcd ((Int.gcd c d : Nat) : Int) n = 1) : Int.gcd ((Int.gcd (c % n) (d % n) : Nat) : Int) n = 1 :=
  g3_move (s := 1) (Int.gcd_one_left _) (by rw [Int.one_mul]; exact eqN.of_mod n c) (by rw [Int.one_mul]; exact eqN.of_mod n d) h
theorem nmR_ok {n c d : Int} (h1 : 1 ≤ n ∧ n ≤ 120) (hc : inB c = true) (hd : inB d = true) (hg : Int.gcd ((Int.gcd c d : Nat) : Int) n = 1) : nmR n c d = (normF n (c % n) (d % n), 0) := by
  unfold nmR
  rw [lvE_ok h1, if_neg (by simp), hc, hd, if_neg (by simp), if_neg (by simp [hg])]
theorem nmR_cases (n c d : Int) : (∃ er, nmR n c d = (P3.zero, er) ∧ er ≠ 0) ∨ (1 ≤ n ∧ n ≤ 120 ∧ inB c = true ∧ inB d = true ∧ Int.gcd ((Int.gcd c d : Nat) : Int) n = 1 ∧ nmR n c d = (normF n (c % n) (d % n), 0)) := by
  by_cases h : 1 ≤ n ∧ n ≤ 120
  · by_cases hb : (inB c && inB d) = false
    · left
      refine ⟨2, ?_, by omega⟩
      unfold nmR
      rw [lvE_ok h, if_neg (by simp), if_pos hb]
    · by_cases hg : Int.gcd ((Int.gcd c d : Nat) : Int) n = 1
      · have hcd : inB c = true ∧ inB d = true := by simpa using hb
        exact .inr ⟨h.1, h.2, hcd.1, hcd.2, hg, nmR_ok h hcd.1 hcd.2 hg⟩
      · left
        refine ⟨9, ?_, by omega⟩
        unfold nmR
        rw [lvE_ok h, if_neg (by simp), if_neg hb, if_pos hg]
  · left
    refine ⟨2, ?_, by omega⟩
    unfold nmR
    rw [lvE_bad h, if_pos (by simp)]
/-- A pair is its unit times its normal form; a multiple by a unit has the same normal form, and that unit. -/
theorem units_law {n c d : Int} (h1 : 1 ≤ n) (h2 : n ≤ 120) (hg : Int.gcd ((Int.gcd c d : Nat) : Int) n = 1) {x : P3} (hx : normF n (c % n) (d % n) = x) :
    (0 ≤ x.u ∧ x.u < n ∧ 0 ≤ x.v ∧ x.v < n ∧ 1 ≤ x.t ∧ x.t ≤ n) ∧ n ∣ x.t * x.u - c ∧ n ∣ x.t * x.v - d ∧
    ∀ s : Int, -32768 ≤ s → s ≤ 32767 → Int.gcd s n = 1 → ∃ y : P3, nmR n (s * x.u) (s * x.v) = (y, 0) ∧ y.u = x.u ∧ y.v = x.v ∧ 1 ≤ y.t ∧ y.t ≤ n ∧ n ∣ y.t - s := by
  have c0 := Int.emod_nonneg c (b := n) (by omega)
  have c1 := Int.emod_lt_of_pos c (b := n) (by omega)
  have d0 := Int.emod_nonneg d (b := n) (by omega)
  have d1 := Int.emod_lt_of_pos d (b := n) (by omega)
  obtain ⟨X, hX, eu, ev, t1, t2, et, ct⟩ := normF_spec h1 h2 c0 c1 d0 d1
  rw [hx] at eu ev t1 t2 et ct
  obtain ⟨r1, r2, r3, r4⟩ := hX.rng h1
  rw [← eu] at r1 r2
  rw [← ev] at r3 r4
  have qu : eqN n x.u (X.t * (c % n)) := by rw [eu, hX.eu]; exact eqN.of_mod n _
  have qv : eqN n x.v (X.t * (d % n)) := by rw [ev, hX.ev]; exact eqN.of_mod n _
  have back : ∀ z a : Int, eqN n z (X.t * (a % n)) → n ∣ x.t * z - a := fun z a h => by
    have e1 := h.mul x.t
    have e2 := et.mul (a % n)
    rw [Int.mul_one] at e2
    have e3 : x.t * (X.t * (a % n)) = a % n * (x.t * X.t) := by grind
    rw [e3] at e1
    exact (e1.trans e2).trans (eqN.of_mod n a)
  have hgm := g3_mod hg
  have hgx : Int.gcd ((Int.gcd x.u x.v : Nat) : Int) n = 1 := g3_move hX.cop qu qv hgm
  refine ⟨⟨r1, r2, r3, r4, t1, t2⟩, back _ _ qu, back _ _ qv, fun s s0 s1 hs => ?_⟩
  have bd : ∀ z : Int, 0 ≤ z → z < n → inB (s * z) = true := fun z z0 z1 => by
    rw [inB_iff]
    have e1 := Int.natAbs_mul s z
    have e2 : s.natAbs * z.natAbs ≤ 32768 * z.natAbs := Nat.mul_le_mul_right _ (by omega)
    generalize s * z = q at *
    generalize s.natAbs * z.natAbs = r at *
    omega
  have hgs : Int.gcd ((Int.gcd (s * x.u) (s * x.v) : Nat) : Int) n = 1 := g3_move hs (eqN.refl n _) (eqN.refl n _) hgx
  refine ⟨_, nmR_ok ⟨h1, h2⟩ (bd _ r1 r2) (bd _ r3 r4) hgs, ?_⟩
  have a0 := Int.emod_nonneg (s * x.u) (b := n) (by omega)
  have a1 := Int.emod_lt_of_pos (s * x.u) (b := n) (by omega)
  have b0 := Int.emod_nonneg (s * x.v) (b := n) (by omega)
  have b1 := Int.emod_lt_of_pos (s * x.v) (b := n) (by omega)
  obtain ⟨Y, hY, fu, fv, g1, g2, gt, -⟩ := normF_spec h1 h2 a0 a1 b0 b1
  have lead : ∀ z a : Int, eqN n z (X.t * a) → eqN n ((s * z) % n) (s * X.t * a) := fun z a h => by
    have := (eqN.of_mod n (s * z)).trans (h.mul s)
    rw [← Int.mul_assoc] at this
    exact this
  obtain ⟨k1, k2⟩ := Lst.same h1 hX hY (unit_mul hs hX.cop) (lead _ _ qu) (lead _ _ qv)
  refine ⟨fu.trans (k1.trans eu.symm), fv.trans (k2.trans ev.symm), g1, g2, ?_⟩
  -- the unit
  have kk : ∀ z : Int, 0 ≤ z → z < n → z = (Y.t * ((s * z) % n)) % n → n ∣ (Y.t * s - 1) * z := fun z z0 z1 h => by
    have e1 : eqN n z (Y.t * (s * z)) := by
      have e2 : eqN n z (Y.t * ((s * z) % n)) := eqN.iff.2 (by rw [Int.emod_eq_of_lt z0 z1]; exact h)
      exact e2.trans ((eqN.of_mod n (s * z)).mul Y.t)
    obtain ⟨j, hj⟩ := e1.symm
    exact ⟨j, by rw [← hj]; grind⟩
  have e5 := g3_cancel hgx (kk _ r1 r2 (by rw [← hY.eu, k1, eu])) (kk _ r3 r4 (by rw [← hY.ev, k2, ev]))
  have e6 : eqN n (Y.t * s) 1 := e5
  have e7 := e6.mul (normF n (s * x.u % n) (s * x.v % n)).t
  have e8 := gt.mul s
  have e9 : (normF n (s * x.u % n) (s * x.v % n)).t * (Y.t * s) = s * ((normF n (s * x.u % n) (s * x.v % n)).t * Y.t) := by grind
  rw [e9, Int.mul_one] at e7
  rw [Int.mul_one] at e8
  exact e7.symm.trans e8
end Go.Proofs.Ytcgiancmponmgaa
