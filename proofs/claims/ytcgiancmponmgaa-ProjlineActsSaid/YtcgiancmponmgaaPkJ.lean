/- Plain laws of the action: products, the stabilizer, the lift. -/
import Derived.Test.YtcgiancmponmgaaPkH
namespace Go.Proofs.Ytcgiancmponmgaa

theorem normF_same {n c d c' d' r : Int} (h1 : 1 ≤ n) (h2 : n ≤ 120) (hr : Int.gcd r n = 1) (ec : eqN n c' (r * c)) (ed : eqN n d' (r * d)) :
    (normF n (c' % n) (d' % n)).u = (normF n (c % n) (d % n)).u ∧ (normF n (c' % n) (d' % n)).v = (normF n (c % n) (d % n)).v := by
  have nn : ∀ z : Int, 0 ≤ z % n ∧ z % n < n := fun z => ⟨Int.emod_nonneg z (by omega), Int.emod_lt_of_pos z (by omega)⟩
  obtain ⟨X, hX, eu, ev, -⟩ := normF_spec h1 h2 (nn c).1 (nn c).2 (nn d).1 (nn d).2
  obtain ⟨Y, hY, fu, fv, -⟩ := normF_spec h1 h2 (nn c').1 (nn c').2 (nn d').1 (nn d').2
  have up : ∀ z z' : Int, eqN n z' (r * z) → eqN n (z' % n) (r * (z % n)) := fun z z' h => ((eqN.of_mod n z').trans h).trans ((eqN.of_mod n z).symm.mul r)
  obtain ⟨k1, k2⟩ := Lst.same h1 hX hY hr (up _ _ ec) (up _ _ ed)
  exact ⟨by rw [fu, k1, eu], by rw [fv, k2, ev]⟩
theorem normF_orb {n : Int} (h1 : 1 ≤ n) (h2 : n ≤ 120) (c d : Int) : ∃ r, Int.gcd r n = 1 ∧ eqN n (normF n (c % n) (d % n)).u (r * c) ∧ eqN n (normF n (c % n) (d % n)).v (r * d) := by
  have nn : ∀ z : Int, 0 ≤ z % n ∧ z % n < n := fun z => ⟨Int.emod_nonneg z (by omega), Int.emod_lt_of_pos z (by omega)⟩
  obtain ⟨X, hX, eu, ev, -⟩ := normF_spec h1 h2 (nn c).1 (nn c).2 (nn d).1 (nn d).2
  refine ⟨X.t, hX.cop, ?_, ?_⟩
  · rw [eu, hX.eu]; exact (eqN.of_mod n _).trans ((eqN.of_mod n c).mul X.t)
  · rw [ev, hX.ev]; exact (eqN.of_mod n _).trans ((eqN.of_mod n d).mul X.t)
theorem norm_self2 {n : Int} (h1 : 1 ≤ n) (h2 : n ≤ 120) {x : P3} (h : InL n x) : (normF n (x.u % n) (x.v % n)).u = x.u ∧ (normF n (x.u % n) (x.v % n)).v = x.v := by
  have hs := norm_self h1 h2 h
  obtain ⟨r1, r2, r3, r4, -⟩ := h
  rw [Int.emod_eq_of_lt r1 r2, Int.emod_eq_of_lt r3 r4]
  exact hs.2
/-- A pair that a unit leads from a point of the list has this point as normal form. -/
theorem norm_to {n c d r : Int} (h1 : 1 ≤ n) (h2 : n ≤ 120) {x : P3} (h : InL n x) (hr : Int.gcd r n = 1) (ec : eqN n c (r * x.u)) (ed : eqN n d (r * x.v)) : (normF n (c % n) (d % n)).u = x.u ∧ (normF n (c % n) (d % n)).v = x.v := by
  obtain ⟨a, b⟩ := normF_same h1 h2 hr ec ed
  obtain ⟨e, f⟩ := norm_self2 h1 h2 h
  exact ⟨a.trans e, b.trans f⟩
theorem ptR_ix {n : Int} (h1 : 1 ≤ n) (h2 : n ≤ 120) {y : P3} (h : InL n y) : ptR n (ixF n y : Int) = (⟨y.u, y.v, 1⟩, 0) := by
  obtain ⟨a, b, -⟩ := ix_spec h1 h
  rw [ptR_ok ⟨h1, h2⟩ a, b]
theorem gcd_mul_unit {n a b : Int} (ha : Int.gcd a n = 1) : Int.gcd (a * b) n = 1 ↔ Int.gcd b n = 1 := by
  constructor
  · intro h
    obtain ⟨u, v, e⟩ := bez1 h
    exact cop_of (u := u * a) (v := v) (by rw [Int.mul_assoc]; exact e)
  · exact fun h => unit_mul ha h
theorem det_times (x y : M2) : (x.times y).det = x.det * y.det := by
  obtain ⟨a, b, c, d⟩ := x
  obtain ⟨e, f, g, h⟩ := y
  simp only [M2.times, M2.det]
  grind
theorem ixF_inj {n : Int} (h1 : 1 ≤ n) {x y : P3} (hx : InL n x) (hy : InL n y) (h : ixF n x = ixF n y) : x.u = y.u ∧ x.v = y.v := by
  obtain ⟨-, a, -⟩ := ix_spec h1 hx
  obtain ⟨-, b, -⟩ := ix_spec h1 hy
  rw [h, b] at a
  have e1 := congrArg P3.u a
  have e2 := congrArg P3.v a
  exact ⟨e1.symm, e2.symm⟩
/-- The unit matrix moves no point. -/
theorem act_one {n i : Int} (h : (ptR n i).2 = 0) : actR n i ⟨1, 0, 0, 1⟩ = (i, 0) := by
  rcases ptR_cases n i with hb | ⟨h1, h2, j, rfl, -, x, hx, -, hin, hix⟩
  · rw [hb] at h; simp at h
  · rw [actR_ok hx (by decide) (by simp [M2.det])]
    have e1 : actU x ⟨1, 0, 0, 1⟩ = x.u := by simp [actU]
    have e2 : actV x ⟨1, 0, 0, 1⟩ = x.v := by simp [actV]
    rw [e1, e2]
    obtain ⟨a, b⟩ := norm_self2 h1 h2 hin
    rw [ixF_uv n a b, hix]
theorem ptR_of_act {n i : Int} {m : M2} (h : (actR n i m).2 = 0) : (ptR n i).2 = 0 ∧ m.fits = true ∧ Int.gcd m.det n = 1 := by
  unfold actR at h
  by_cases h0 : (ptR n i).2 = 0
  · rw [if_neg (by simpa using h0)] at h
    by_cases hf : m.fits = false
    · rw [if_pos hf] at h; simp at h
    · rw [if_neg hf] at h
      by_cases hd : Int.gcd m.det n = 1
      · exact ⟨h0, by simpa using hf, hd⟩
      · rw [if_pos hd] at h; simp at h
  · rw [if_pos h0] at h; simp at h
/-- Acting by a product is acting by the first matrix and then by the second one. -/
theorem act_prod {n i : Int} {m0 m1 : M2} (h : (actR n i m0).2 = 0) (hf1 : m1.fits = true) (hfp : (m0.times m1).fits = true) : actR n (actR n i m0).1 m1 = actR n i (m0.times m1) := by
  obtain ⟨h0, hf0, hd0⟩ := ptR_of_act h
  rcases ptR_cases n i with hb | ⟨h1, h2, j, rfl, -, x, hx, -, hin, -⟩
  · rw [hb] at h0; simp at h0
  · have hin1 := inL_act h1 h2 hin hd0
    rw [actR_ok hx hf0 hd0]
    obtain ⟨r, hr, ru, rv⟩ := normF_orb h1 h2 (actU x m0) (actV x m0)
    obtain ⟨y, hy⟩ : ∃ y, normF n (actU x m0 % n) (actV x m0 % n) = y := ⟨_, rfl⟩
    rw [hy] at hin1 ru rv ⊢
    have hpt := ptR_ix h1 h2 hin1
    have hdp : Int.gcd (m0.times m1).det n = 1 ↔ Int.gcd m1.det n = 1 := by rw [det_times]; exact gcd_mul_unit hd0
    by_cases hd1 : Int.gcd m1.det n = 1
    · rw [actR_ok hpt hf1 hd1, actR_ok hx hfp (hdp.2 hd1)]
      have eu : eqN n (actU ⟨y.u, y.v, 1⟩ m1) (r * actU x (m0.times m1)) := by
        have e1 := (ru.mul m1.a).add (rv.mul m1.c)
        have e2 : m1.a * y.u + m1.c * y.v = actU ⟨y.u, y.v, 1⟩ m1 := by simp only [actU]; grind
        have e3 : m1.a * (r * actU x m0) + m1.c * (r * actV x m0) = r * actU x (m0.times m1) := by simp only [actU, actV, M2.times]; grind
        rw [e2, e3] at e1
        exact e1
      have ev : eqN n (actV ⟨y.u, y.v, 1⟩ m1) (r * actV x (m0.times m1)) := by
        have e1 := (ru.mul m1.b).add (rv.mul m1.d)
        have e2 : m1.b * y.u + m1.d * y.v = actV ⟨y.u, y.v, 1⟩ m1 := by simp only [actV]; grind
        have e3 : m1.b * (r * actU x m0) + m1.d * (r * actV x m0) = r * actV x (m0.times m1) := by simp only [actU, actV, M2.times]; grind
        rw [e2, e3] at e1
        exact e1
      obtain ⟨a, b⟩ := normF_same h1 h2 hr eu ev
      rw [ixF_uv n a b]
    · rw [actR_cop hpt hf1 hd1, actR_cop hx hfp (fun h => hd1 (hdp.1 h))]
/-- The normal form of (0 : 1). -/
def nm01 (n : Int) : P3 := normF n (0 % n) (1 % n)
theorem ixR_01 {n : Int} (h1 : 1 ≤ n) (h2 : n ≤ 120) : ixR n 0 1 = ((ixF n (nm01 n) : Int), 0) := by
  have hr := nmR_ok (n := n) (c := 0) (d := 1) ⟨h1, h2⟩ (by decide) (by decide) (by simp)
  unfold ixR
  rw [hr, if_neg (by simp)]
  rfl
theorem ixR_01_bad {n : Int} (h : ¬ (1 ≤ n ∧ n ≤ 120)) : ixR n 0 1 = (0, 2) := by
  unfold ixR nmR
  rw [lvE_bad h, if_pos (by simp), if_pos (by simp)]
theorem inL_01 {n : Int} (h1 : 1 ≤ n) (h2 : n ≤ 120) : InL n (nm01 n) := inL_norm h1 h2 (by simp)
/-- The image of (0 : 1): the lower row, up to a unit. -/
theorem act_01 {n : Int} (h1 : 1 ≤ n) (h2 : n ≤ 120) (m : M2) : ∃ r, Int.gcd r n = 1 ∧ eqN n (actU ⟨(nm01 n).u, (nm01 n).v, 1⟩ m) (r * m.c) ∧ eqN n (actV ⟨(nm01 n).u, (nm01 n).v, 1⟩ m) (r * m.d) ∧ eqN n (nm01 n).u 0 ∧ eqN n (nm01 n).v r := by
  obtain ⟨r, hr, ru, rv⟩ := normF_orb h1 h2 0 1
  have ru2 : eqN n (nm01 n).u (r * 0) := ru
  have rv2 : eqN n (nm01 n).v (r * 1) := rv
  rw [Int.mul_zero] at ru2
  rw [Int.mul_one] at rv2
  refine ⟨r, hr, ?_, ?_, ru2, rv2⟩
  · have e1 := (ru2.mul m.a).add (rv2.mul m.c)
    have e2 : m.a * (nm01 n).u + m.c * (nm01 n).v = actU ⟨(nm01 n).u, (nm01 n).v, 1⟩ m := by simp only [actU]; grind
    have e3 : m.a * 0 + m.c * r = r * m.c := by grind
    rw [e2, e3] at e1
    exact e1
  · have e1 := (ru2.mul m.b).add (rv2.mul m.d)
    have e2 : m.b * (nm01 n).u + m.d * (nm01 n).v = actV ⟨(nm01 n).u, (nm01 n).v, 1⟩ m := by simp only [actV]; grind
    have e3 : m.b * 0 + m.d * r = r * m.d := by grind
    rw [e2, e3] at e1
    exact e1
/-- The stabilizer of (0 : 1). -/
theorem act_stab {n : Int} (h1 : 1 ≤ n) (h2 : n ≤ 120) {m : M2} (hm : checkF m = 0) : ∃ k : Int, actR n (ixF n (nm01 n) : Int) m = (k, 0) ∧ (k = (ixF n (nm01 n) : Int) ↔ m.c % n = 0) := by
  obtain ⟨hf, hd⟩ := checkF_zero.1 hm
  have hin := inL_01 h1 h2
  have hpt := ptR_ix h1 h2 hin
  have hdn : Int.gcd m.det n = 1 := by rw [hd]; exact Int.gcd_one_left _
  refine ⟨_, actR_ok hpt hf hdn, ?_⟩
  have hin2 : InL n ⟨(nm01 n).u, (nm01 n).v, 1⟩ := hin
  have hinA := inL_act h1 h2 hin2 hdn
  obtain ⟨r, hr, ru, rv, zu, zv⟩ := act_01 h1 h2 m
  constructor
  · intro h
    obtain ⟨a, b⟩ := ixF_inj h1 hinA hin (by omega)
    obtain ⟨s, hs, su, -⟩ := normF_orb h1 h2 (actU ⟨(nm01 n).u, (nm01 n).v, 1⟩ m) (actV ⟨(nm01 n).u, (nm01 n).v, 1⟩ m)
    rw [a] at su
    have e1 : eqN n (s * (r * m.c)) 0 := ((ru.mul s).symm.trans su.symm).trans zu
    have e2 : eqN n ((s * r) * m.c) ((s * r) * 0) := by rw [Int.mul_assoc, Int.mul_zero]; exact e1
    obtain ⟨t, ht⟩ := unit_inv (unit_mul hs hr)
    have e3 := e2.mul t
    have e4 := ht.mul m.c
    have e5 : m.c * (t * (s * r)) = t * (s * r * m.c) := by grind
    rw [e5, Int.mul_one] at e4
    have e6 := (e4.symm.trans e3).mod
    simpa using e6
  · intro h
    have hc0 : eqN n m.c 0 := eqN.iff.2 (by simpa using h)
    -- d is a unit
    have hdd : Int.gcd m.d n = 1 := by
      obtain ⟨k, hk⟩ := hc0
      have hk2 : m.c = n * k := by omega
      refine cop_of (u := m.a) (v := -(m.b * k)) ?_
      have hd2 : m.a * m.d - m.b * m.c = 1 := hd
      rw [hk2] at hd2
      rw [← hd2]
      grind
    have eu : eqN n (actU ⟨(nm01 n).u, (nm01 n).v, 1⟩ m) (m.d * (nm01 n).u) := by
      have e1 := ru.trans (hc0.mul r)
      rw [Int.mul_zero] at e1
      have e2 := zu.mul m.d
      rw [Int.mul_zero] at e2
      exact e1.trans e2.symm
    have ev : eqN n (actV ⟨(nm01 n).u, (nm01 n).v, 1⟩ m) (m.d * (nm01 n).v) := by
      have e1 := zv.mul m.d
      rw [Int.mul_comm m.d r] at e1
      exact rv.trans e1.symm
    obtain ⟨a, b⟩ := norm_to h1 h2 hin hdd eu ev
    rw [ixF_uv n a b]
/-- The lift is in SL2(Z), and leads (0 : 1) to the point. -/
theorem lift_law {n : Int} (h1 : 1 ≤ n) (h2 : n ≤ 120) {x : P3} (hin : InL n x) : checkF (rsF n x.u x.v) = 0 ∧ actR n (ixF n (nm01 n) : Int) (rsF n x.u x.v) = ((ixF n x : Int), 0) := by
  have hi := hin
  obtain ⟨r1, r2, r3, r4, hok⟩ := hi
  have hg3 := ((okP_iff h1 h2 r1 r2 r3 r4).1 hok).1
  have key : (rsF n x.u x.v).fits = true ∧ (rsF n x.u x.v).det = 1 ∧ ∃ s, Int.gcd s n = 1 ∧ eqN n (rsF n x.u x.v).c (s * x.u) ∧ eqN n (rsF n x.u x.v).d (s * x.v) := by
    by_cases hu : x.u = 0
    · have hr : rsF n x.u x.v = ⟨1, 0, 0, 1⟩ := by unfold rsF; rw [if_pos hu]
      rw [hr]
      refine ⟨by decide, by simp [M2.det], ?_⟩
      rw [hu, Int.gcd_zero_left] at hg3
      have hv : Int.gcd x.v n = 1 := by
        have e : ((x.v.natAbs : Nat) : Int) = x.v := by omega
        rwa [e] at hg3
      obtain ⟨t, ht⟩ := unit_inv hv
      refine ⟨t, unit_of (t := x.v) (by rw [Int.mul_comm]; exact ht), ?_, ?_⟩
      · rw [hu, Int.mul_zero]; exact eqN.refl n 0
      · exact ht.symm
    · have u1 : 1 ≤ x.u := by omega
      obtain ⟨p1, p2, p3⟩ := dI_spec h1 h2 u1 r2 r3 hg3
      have hr : rsF n x.u x.v = ⟨aI x.u (x.v + (dI n x.u x.v : Int) * n), ((aI x.u (x.v + (dI n x.u x.v : Int) * n) : Int) * (x.v + (dI n x.u x.v : Int) * n) - 1).tdiv x.u, x.u, x.v + (dI n x.u x.v : Int) * n⟩ := by unfold rsF; rw [if_neg hu]
      rw [hr]
      obtain ⟨P, hP⟩ : ∃ P, dI n x.u x.v = P := ⟨_, rfl⟩
      rw [hP] at p1 p2 ⊢
      obtain ⟨D, hD⟩ : ∃ D : Int, x.v + (P : Int) * n = D := ⟨_, rfl⟩
      rw [hD] at p1 ⊢
      have hPn0 : 0 ≤ (P : Int) * n := Int.mul_nonneg (by omega) (by omega)
      have hPn1 : (P : Int) * n ≤ 130 * 120 := Int.mul_le_mul (by omega) (by omega) (by omega) (by omega)
      have hD0 : 0 ≤ D := by omega
      have hD1 : D ≤ 20000 := by omega
      obtain ⟨q1, q2, -⟩ := aI_spec (d := D) u1 (by omega) p1
      obtain ⟨A, hA⟩ : ∃ A : Int, (aI x.u D : Int) = A := ⟨_, rfl⟩
      rw [hA] at q1 q2 ⊢
      have hA0 : 0 ≤ A := by omega
      have hAD0 : 0 ≤ A * D := Int.mul_nonneg hA0 hD0
      have hAD1 : A * D ≤ 120 * 20000 := Int.mul_le_mul (by omega) hD1 hD0 (by omega)
      obtain ⟨Q, hQ⟩ : ∃ Q, (A * D - 1).tdiv x.u = Q := ⟨_, rfl⟩
      have hQb : Q.natAbs ≤ 10000000 := by rw [← hQ, Int.natAbs_tdiv]; exact Nat.le_trans (Nat.div_le_self _ _) (by omega)
      have hex : A * D - 1 = x.u * Q := by
        have h := Int.tmod_add_mul_tdiv (A * D - 1) x.u
        rw [q1, hQ] at h
        omega
      rw [hQ]
      refine ⟨?_, ?_, 1, Int.gcd_one_left _, ?_, ?_⟩
      · exact fitsB_iff.2 ⟨(inB_iff (n := A)).2 (by omega), (inB_iff (n := Q)).2 (by omega), (inB_iff (n := x.u)).2 (by omega), (inB_iff (n := D)).2 (by omega)⟩
      · show A * D - Q * x.u = 1
        rw [Int.mul_comm Q]; omega
      · rw [Int.one_mul]; exact eqN.refl n _
      · rw [Int.one_mul, ← hD]
        exact ⟨(P : Int), by show x.v + (P : Int) * n - x.v = n * (P : Int); rw [Int.mul_comm n]; omega⟩
  obtain ⟨hf, hd, s, hs, eu, ev⟩ := key
  refine ⟨checkF_zero.2 ⟨hf, hd⟩, ?_⟩
  have hin0 := inL_01 h1 h2
  have hpt := ptR_ix h1 h2 hin0
  rw [actR_ok hpt hf (by rw [hd]; exact Int.gcd_one_left _)]
  obtain ⟨r, hr, ru, rv, -, -⟩ := act_01 h1 h2 (rsF n x.u x.v)
  have e1 := ru.trans (eu.mul r)
  have e2 := rv.trans (ev.mul r)
  rw [← Int.mul_assoc] at e1 e2
  obtain ⟨a, b⟩ := norm_to h1 h2 hin (unit_mul hr hs) e1 e2
  rw [ixF_uv n a b]
end Go.Proofs.Ytcgiancmponmgaa
