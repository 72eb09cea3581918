/- Walk: Parents of the reference. -/
import Derived.Test.YtfjlecphjahahaaCfC
import Derived.Test.YtfjlecphjahahaaCfD
import Derived.Test.YtfjlecphjahahaaPlM
import Derived.Test.YtfjlecphjahahaaPlS
namespace Go.Proofs.Ytfjlecphjahahaa
open Go Go.RowKit

theorem refpar_err (c : C2) (L : List Int) (er : Int) (h5 : er ≠ 5) (h0 : er ≠ 0) (X : Hid (∀ w, Calls Try.prog 23 #[.agg #[.int .i64 c.p, .int .i64 c.q]] w fun e w' => ∃ v, e = .returned (.tuple #[v, .int .i64 er]) ∧ OwnInts w' w.heap.size v L ∧ Grow w w')) (w : World) :
    Calls Try.prog 32 #[.agg #[.int .i64 c.p, .int .i64 c.q]] w fun e w' => e = .returned (.tuple #[.agg #[.int .i64 0, .int .i64 0], .agg #[.int .i64 0, .int .i64 0], .int .i64 er]) ∧ Grow w w' := by
  have k1 : (er == 5) = false := by simpa using h5
  have k2 : (er == 0) = false := by simpa using h0
  have k3 : (er != 0) = true := by simpa using h0
  clear h5 h0
  go_enter Try.func32, Try.ntmps32
  go_wp2_with fail
  go_at_call 23
  refine (X.out _).mono ?_
  rintro e w1 ⟨v1, rfl, ho1, hb1⟩
  have hc1 := hb1.cells
  have hf1 := hb1.frees
  have hz1 := hb1.size
  simp at hz1
  have z1 : w.heap.size < w1.heap.size := by omega
  have z2 : w.heap.size + 1 < w1.heap.size := by omega
  have z3 : w.heap.size + 1 + 1 < w1.heap.size := by omega
  clear ho1
  go_wp2_with fail
  exact bodyPost_ret (v := .tuple #[.agg #[.int .i64 0, .int .i64 0], .agg #[.int .i64 0, .int .i64 0], .int .i64 er]) (by simp only [results, Try.results32]; go_simp) rfl ⟨rfl, by (repeat (first | with_reducible exact Grow.refl _ | with_reducible refine Grow.alloc ?_ _ | with_reducible refine Grow.drew ?_ | with_reducible refine Grow.drewN ?_ _ | (with_reducible refine Grow.setCell ?_ ?hp _; (case hp => (simp; try omega))) | with_reducible refine Grow.trans ?_ (by assumption)))⟩
theorem refpar_low (c : C2) (L : List Int) (er : Int) (n : Nat) (hn : Hid (L.length = n)) (h : er = 5 ∨ (er = 0 ∧ n = 1)) (X : Hid (∀ w, Calls Try.prog 23 #[.agg #[.int .i64 c.p, .int .i64 c.q]] w fun e w' => ∃ v, e = .returned (.tuple #[v, .int .i64 er]) ∧ OwnInts w' w.heap.size v L ∧ Grow w w')) (w : World) :
    Calls Try.prog 32 #[.agg #[.int .i64 c.p, .int .i64 c.q]] w fun e w' => e = .returned (.tuple #[.agg #[.int .i64 0, .int .i64 0], .agg #[.int .i64 0, .int .i64 0], .int .i64 3]) ∧ Grow w w' := by
  go_enter Try.func32, Try.ntmps32
  go_wp2_with fail
  go_at_call 23
  refine (X.out _).mono ?_
  rintro e w1 ⟨v1, rfl, ho1, hb1⟩
  obtain ⟨ao, cc, rfl⟩ := ho1.rd.form
  rw [hn.out]
  have hc1 := hb1.cells
  have hf1 := hb1.frees
  have hz1 := hb1.size
  simp at hz1
  have z1 : w.heap.size < w1.heap.size := by omega
  have z2 : w.heap.size + 1 < w1.heap.size := by omega
  have z3 : w.heap.size + 1 + 1 < w1.heap.size := by omega
  clear ho1 X hn
  rcases h with rfl | ⟨rfl, rfl⟩
  · go_wp2_with fail
    exact bodyPost_ret (v := .tuple #[.agg #[.int .i64 0, .int .i64 0], .agg #[.int .i64 0, .int .i64 0], .int .i64 3]) (by simp only [results, Try.results32]; go_simp) rfl ⟨rfl, by (repeat (first | with_reducible exact Grow.refl _ | with_reducible refine Grow.alloc ?_ _ | with_reducible refine Grow.drew ?_ | with_reducible refine Grow.drewN ?_ _ | (with_reducible refine Grow.setCell ?_ ?hp _; (case hp => (simp; try omega))) | with_reducible refine Grow.trans ?_ (by assumption)))⟩
  · go_wp2_with fail
    exact bodyPost_ret (v := .tuple #[.agg #[.int .i64 0, .int .i64 0], .agg #[.int .i64 0, .int .i64 0], .int .i64 3]) (by simp only [results, Try.results32]; go_simp) rfl ⟨rfl, by (repeat (first | with_reducible exact Grow.refl _ | with_reducible refine Grow.alloc ?_ _ | with_reducible refine Grow.drew ?_ | with_reducible refine Grow.drewN ?_ _ | (with_reducible refine Grow.setCell ?_ ?hp _; (case hp => (simp; try omega))) | with_reducible refine Grow.trans ?_ (by assumption)))⟩

set_option maxHeartbeats 2000000 in
theorem refpar_core (c u : C2) (L : List Int) (x : List C2) (n : Nat) (hn : Hid (L.length = n)) (hx : Hid (x.length = n)) (hn2 : 2 ≤ n) (hn3 : n ≤ 64) (hu : Hid (x.getD (n - 2) C2.zero = u)) (hcc : inB c.p = true ∧ inB c.q = true) (huu : inB u.p = true ∧ inB u.q = true) (hsw : Hid (cross c u = 1 ∨ cross c u = -1))
    (hC : Hid (convF L = (x, 0))) (X : Hid (∀ w, Calls Try.prog 23 #[.agg #[.int .i64 c.p, .int .i64 c.q]] w fun e w' => ∃ v, e = .returned (.tuple #[v, .int .i64 0]) ∧ OwnInts w' w.heap.size v L ∧ Grow w w')) (w : World) :
    Calls Try.prog 32 #[.agg #[.int .i64 c.p, .int .i64 c.q]] w fun e w' => ∃ t : C2, e = .returned (.tuple #[.agg #[.int .i64 t.p, .int .i64 t.q], .agg #[.int .i64 (c.p - t.p), .int .i64 (c.q - t.q)], .int .i64 0]) ∧ ((cross c u = 1 ∧ t = u) ∨ (cross c u = -1 ∧ t = ⟨c.p - u.p, c.q - u.q⟩)) ∧ Grow w w' := by
  obtain ⟨s, hs⟩ : ∃ s : Nat, n - 2 = s := ⟨_, rfl⟩
  have hs2 : (n : Int) - 2 = s := by omega
  have y0 : IntKind.i64.wrap (s : Int) = s := IntWalk.i64_in _ (by omega)
  have f3 : (0 : Int) ≤ s := by omega
  have f4 : (s : Int) < n := by omega
  have hn1 : ((n : Int) == 1) = false := by simp; omega
  obtain ⟨a1, a2⟩ := inB_iff.1 hcc.1
  obtain ⟨a3, a4⟩ := inB_iff.1 hcc.2
  obtain ⟨b1, b2⟩ := inB_iff.1 huu.1
  obtain ⟨b3, b4⟩ := inB_iff.1 huu.2
  have y1 : IntKind.i64.wrap (c.p - u.p) = c.p - u.p := IntWalk.i64_in _ (by omega)
  have y2 : IntKind.i64.wrap (c.q - u.q) = c.q - u.q := IntWalk.i64_in _ (by omega)
  obtain ⟨p1, p2⟩ := mul_bd (a := u.p) (x := c.q - u.q) 2147483648 2147483648 (by omega) (by omega) (by omega) (by omega)
  obtain ⟨p3, p4⟩ := mul_bd (a := c.p - u.p) (x := u.q) 2147483648 2147483648 (by omega) (by omega) (by omega) (by omega)
  have y3 : IntKind.i64.wrap (u.p * (c.q - u.q)) = u.p * (c.q - u.q) := IntWalk.i64_in _ (by omega)
  have y4 : IntKind.i64.wrap ((c.p - u.p) * u.q) = (c.p - u.p) * u.q := IntWalk.i64_in _ (by omega)
  have hdiff : (c.p - u.p) * u.q - u.p * (c.q - u.q) = cross c u := by simp only [cross]; grind
  have HD := Lib.hid hdiff
  clear p1 p2 p3 p4 hdiff hcc huu
  go_enter Try.func32, Try.ntmps32
  go_wp2_with fail
  go_at_call 23
  refine (X.out _).mono ?_
  rintro e w1 ⟨v1, rfl, ho1, hb1⟩
  have HC := Lib.hid (refConv_any L v1 (by have := hn.out; omega) w1 ho1.rd)
  rw [hC.out] at HC
  obtain ⟨ao, cc, rfl⟩ := ho1.rd.form
  rw [hn.out] at HC ⊢
  have hc1 := hb1.cells
  have hf1 := hb1.frees
  have hz1 := hb1.size
  simp at hz1
  have z1 : w.heap.size < w1.heap.size := by omega
  have z2 : w.heap.size + 1 < w1.heap.size := by omega
  have z3 : w.heap.size + 1 + 1 < w1.heap.size := by omega
  have c0 : w1.cell? ⟨w.heap.size, 0, none⟩ = some (.int .i64 c.p) := by rw [hc1 _ _ (by simp; try omega)]; go_simp
  have c1 : w1.cell? ⟨w.heap.size, 1, none⟩ = some (.int .i64 c.q) := by rw [hc1 _ _ (by simp; try omega)]; go_simp
  have d0 : w1.cell? ⟨w.heap.size + 1, 0, none⟩ = some (.int .i64 0) := by rw [hc1 _ _ (by simp; try omega)]; go_simp
  have d1 : w1.cell? ⟨w.heap.size + 1, 1, none⟩ = some (.int .i64 0) := by rw [hc1 _ _ (by simp; try omega)]; go_simp
  have d2 : w1.cell? ⟨w.heap.size + 1 + 1, 0, none⟩ = some (.int .i64 0) := by rw [hc1 _ _ (by simp; try omega)]; go_simp
  have d3 : w1.cell? ⟨w.heap.size + 1 + 1, 1, none⟩ = some (.int .i64 0) := by rw [hc1 _ _ (by simp; try omega)]; go_simp
  have e0 : ∀ o, w1.frozen? ⟨w.heap.size + 1, o, none⟩ = false := by intro o; rw [hf1 _ _ (by simp; try omega)]; go_simp
  have e1 : ∀ o, w1.frozen? ⟨w.heap.size + 1 + 1, o, none⟩ = false := by intro o; rw [hf1 _ _ (by simp; try omega)]; go_simp
  have hG1 : Grow w w1 := by (repeat (first | with_reducible exact Grow.refl _ | with_reducible refine Grow.alloc ?_ _ | with_reducible refine Grow.drew ?_ | with_reducible refine Grow.drewN ?_ _ | (with_reducible refine Grow.setCell ?_ ?hp _; (case hp => (simp; try omega))) | with_reducible refine Grow.trans ?_ (by assumption)))
  clear ho1 hb1 hc1 hf1 X
  go_wp2_with fail
  go_at_call 26
  refine HC.out.mono ?_
  rintro e w2 ⟨v2, rfl, ho2, hb2⟩
  obtain ⟨g, k2, rfl, -, row2, -⟩ := RowAt.of_own ho2 (by rw [hx.out]; omega)
  rw [hx.out]
  obtain ⟨r0, r1⟩ := row2.cells (n - 2) (by rw [hx.out]; omega)
  rw [hu.out, hs] at r0 r1
  simp only [Nat.zero_add] at r0 r1
  have zg := row2.lt
  have q0 := (hb2.cells _ 0 z1).trans c0
  have q1 := (hb2.cells _ 1 z1).trans c1
  have q2 := (hb2.cells _ 0 z2).trans d0
  have q3 := (hb2.cells _ 1 z2).trans d1
  have q4 := (hb2.cells _ 0 z3).trans d2
  have q5 := (hb2.cells _ 1 z3).trans d3
  have j0 : ∀ o, w2.frozen? ⟨w.heap.size + 1, o, none⟩ = false := fun o => (hb2.frees _ o z2).trans (e0 o)
  have j1 : ∀ o, w2.frozen? ⟨w.heap.size + 1 + 1, o, none⟩ = false := fun o => (hb2.frees _ o z3).trans (e1 o)
  have hz2 := hb2.size
  have k1 : w.heap.size < w2.heap.size := by omega
  have k3 : w.heap.size + 1 < w2.heap.size := by omega
  have k4 : w.heap.size + 1 + 1 < w2.heap.size := by omega
  have hG2 := hG1.trans hb2
  clear ho2 row2 hb2 c0 c1 d0 d1 d2 d3 e0 e1 z1 z2 z3 hz1 hz2 HC hs hG1
  rcases hsw.out with hx1 | hx1
  · have hlt : ¬ (c.p - u.p) * u.q < u.p * (c.q - u.q) := by have := HD.out; omega
    have HX1 := Lib.hid hx1
    clear hx1
    go_wp2_with fail
    go_region
    go_wp2
    refine bodyPost_ret (v := .tuple #[.agg #[.int .i64 u.p, .int .i64 u.q], .agg #[.int .i64 (c.p - u.p), .int .i64 (c.q - u.q)], .int .i64 0]) (by simp only [results, Try.results32]; go_simp) rfl ⟨u, rfl, .inl ⟨HX1.out, rfl⟩, ?_⟩
    (repeat (first | with_reducible exact Grow.refl _ | with_reducible refine Grow.alloc ?_ _ | with_reducible refine Grow.drew ?_ | with_reducible refine Grow.drewN ?_ _ | (with_reducible refine Grow.setCell ?_ ?hp _; (case hp => (simp; try omega))) | with_reducible refine Grow.trans ?_ (by assumption)))
  · have hlt : (c.p - u.p) * u.q < u.p * (c.q - u.q) := by have := HD.out; omega
    have HX1 := Lib.hid hx1
    clear hx1
    go_wp2_with fail
    go_region
    go_wp2
    refine bodyPost_ret (v := .tuple #[.agg #[.int .i64 (c.p - u.p), .int .i64 (c.q - u.q)], .agg #[.int .i64 u.p, .int .i64 u.q], .int .i64 0]) (by simp only [results, Try.results32]; go_simp) rfl ⟨⟨c.p - u.p, c.q - u.q⟩, ?_, .inr ⟨HX1.out, rfl⟩, ?_⟩
    · simp only
      rw [show c.p - (c.p - u.p) = u.p by omega, show c.q - (c.q - u.q) = u.q by omega]
    · (repeat (first | with_reducible exact Grow.refl _ | with_reducible refine Grow.alloc ?_ _ | with_reducible refine Grow.drew ?_ | with_reducible refine Grow.drewN ?_ _ | (with_reducible refine Grow.setCell ?_ ?hp _; (case hp => (simp; try omega))) | with_reducible refine Grow.trans ?_ (by assumption)))

theorem exp_one {c : C2} (h0 : ccF c = 0) (hq : c.q = 1) : (expandF c).1.length = 1 ∧ (expandF c).2 = 0 := by
  have hu : expandF c = (expE (c.q.toNat + 1) c.p c.q, 0) := by simp [expandF, h0, hq]
  rw [hu, hq]
  simp [expE]
theorem exp_two {c : C2} {x : List C2} (hq : 2 ≤ c.q) (hC : convF (expandF c).1 = (x, 0)) (hl : x.getD (x.length - 1) C2.zero = c) : 2 ≤ x.length := by
  obtain ⟨h1, h2, h3, h4⟩ := convF_some hC
  cases hL : (expandF c).1 with
  | nil => rw [hL] at h4; simp at h4
  | cons n l =>
    rw [hL] at h1
    obtain ⟨y, rfl, hy, -, -⟩ := convR_cons h1
    cases y with
    | nil => simp at hl; rw [← hl] at hq; simp at hq
    | cons z y => simp
theorem par_lt {c u : C2} (hq : 2 ≤ c.q) (hmo : u.q ≤ c.q) (hsw : cross c u = 1 ∨ cross c u = -1) : u.q < c.q := by
  rcases Int.lt_or_eq_of_le hmo with h | h
  · exact h
  · exfalso
    have hd : c.q ∣ cross c u := by
      simp only [cross]
      rw [h]
      exact Int.dvd_sub (Int.dvd_mul_left _ _) (Int.dvd_mul_left _ _)
    have h1 : c.q ∣ 1 := by
      rcases hsw with h2 | h2
      · rwa [h2] at hd
      · rw [h2] at hd; exact (Int.dvd_neg).1 hd
    have := Int.eq_one_of_dvd_one (by omega) h1
    omega
theorem par_exists {c : C2} (h0 : ccF c = 0) (hq : 2 ≤ c.q) : ∃ t, ParSpec c t := by
  obtain ⟨x, e1, e2, e3, e4, e5, e6⟩ := exp_top h0 (by omega)
  have hn2 := exp_two hq e2 e5
  obtain ⟨hs1, hs2⟩ := conv_spec e2
  obtain ⟨hcr, hmo⟩ := hs1 (x.length - 1) (by omega) (by omega)
  rw [e5, show x.length - 1 - 1 = x.length - 2 by omega] at hcr hmo
  obtain ⟨-, -, u3⟩ := hs2 (x.length - 2) (by omega)
  generalize x.getD (x.length - 2) C2.zero = u at *
  have hsw : cross c u = 1 ∨ cross c u = -1 := by omega
  have hlt : u.q < c.q := par_lt hq hmo hsw
  rcases hsw with h1 | h1
  · exact ⟨u, by omega, hlt, by simp only [cross] at h1; exact h1⟩
  · refine ⟨⟨c.p - u.p, c.q - u.q⟩, by simp only; omega, by simp only; omega, ?_⟩
    simp only [cross] at h1 ⊢
    grind
theorem refparents_any (c : C2) (h0 : ccF c = 0) (hq : 2 ≤ c.q) (w : World) :
    Calls Try.prog 32 #[.agg #[.int .i64 c.p, .int .i64 c.q]] w fun e w' => ∃ t : C2, e = .returned (.tuple #[.agg #[.int .i64 t.p, .int .i64 t.q], .agg #[.int .i64 (c.p - t.p), .int .i64 (c.q - t.q)], .int .i64 0]) ∧ ParSpec c t ∧ Grow w w' := by
  obtain ⟨x, e1, e2, e3, e4, e5, e6⟩ := exp_top h0 (by omega)
  have hn2 := exp_two hq e2 e5
  have hl := convF_some e2
  obtain ⟨hs1, hs2⟩ := conv_spec e2
  obtain ⟨hcr, hmo⟩ := hs1 (x.length - 1) (by omega) (by omega)
  rw [e5, show x.length - 1 - 1 = x.length - 2 by omega] at hcr hmo
  obtain ⟨u1, u2, u3⟩ := hs2 (x.length - 2) (by omega)
  obtain ⟨g1, g2, g3, g4, -⟩ := ccF_zero.1 h0
  obtain ⟨u, hu⟩ : ∃ u, x.getD (x.length - 2) C2.zero = u := ⟨_, rfl⟩
  rw [hu] at hcr hmo u1 u2 u3
  have hsw : cross c u = 1 ∨ cross c u = -1 := by omega
  have hlt : u.q < c.q := par_lt hq hmo hsw
  have X := Lib.hid (fun w => refExpand_any c w)
  rw [e1] at X
  refine (refpar_core c u (expandF c).1 x x.length e3.symm rfl hn2 (by omega) hu ⟨g1, g3⟩ ⟨u1, u2⟩ hsw e2 X w).mono ?_
  rintro e w' ⟨t, rfl, ht, hg⟩
  refine ⟨t, rfl, ?_, hg⟩
  rcases ht with ⟨h1, rfl⟩ | ⟨h1, rfl⟩
  · exact ⟨by omega, hlt, by simp only [cross] at h1; exact h1⟩
  · refine ⟨by simp only; omega, by simp only; omega, ?_⟩
    simp only [cross] at h1 ⊢
    grind
end Go.Proofs.Ytfjlecphjahahaa
