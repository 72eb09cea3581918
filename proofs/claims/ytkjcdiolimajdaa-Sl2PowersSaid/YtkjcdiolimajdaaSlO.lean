/- Walk: Power of the reference. -/
import Derived.Test.YtkjcdiolimajdaaSlP
import Derived.Test.YtkjcdiolimajdaaPlD
import Derived.Deep.LoopGhost
import Derived.Deep.DeepCutAuto
import Derived.Test.YtkjcdiolimajdaaSlF
namespace Go.Proofs.Ytkjcdiolimajdaa
open Go.RowKit

theorem refPower_bad (m : M2) (n x : Int) (he : (x != 0) = true) (I : Hid (∀ w, Calls Try.prog 26 #[.agg #[.int .i64 m.a, .int .i64 m.b, .int .i64 m.c, .int .i64 m.d]] w fun ex w' => ex = .returned (.int .i64 x) ∧ Grow w w')) (w : World) :
    Calls Try.prog 35 #[.agg #[.int .i64 m.a, .int .i64 m.b, .int .i64 m.c, .int .i64 m.d], .int .i64 n] w fun ex w' => ex = .returned (.tuple #[.agg #[.int .i64 0, .int .i64 0, .int .i64 0, .int .i64 0], .int .i64 x]) ∧ Grow w w' := by
  go_enter Try.func35, Try.ntmps35
  go_wp2_with fail
  (go_at_call 26; refine (I.out _).mono ?_; rintro e w1 ⟨rfl, hb1⟩; have hc1 := hb1.cells; have hf1 := hb1.frees; have hz1 := hb1.size; (try simp at hz1))
  have zw1_0 : w.heap.size < w1.heap.size := (by omega); have zw1_1 : w.heap.size + 1 < w1.heap.size := (by omega)
  go_wp2_with fail
  exact bodyPost_ret (v := .tuple #[.agg #[.int .i64 0, .int .i64 0, .int .i64 0, .int .i64 0], .int .i64 x]) (by simp only [results, Try.results35]; go_simp) rfl ⟨rfl, by (repeat (first | with_reducible exact Grow.refl _ | with_reducible refine Grow.alloc ?_ _ | with_reducible refine Grow.drew ?_ | with_reducible refine Grow.drewN ?_ _ | (with_reducible refine Grow.setCell ?_ ?hp _; (case hp => (simp; try omega))) | with_reducible refine Grow.trans ?_ (by assumption)))⟩
theorem refPower_out (m : M2) (n : Int) (hn : n < -1000 ∨ 1000 < n) (I : Hid (∀ w, Calls Try.prog 26 #[.agg #[.int .i64 m.a, .int .i64 m.b, .int .i64 m.c, .int .i64 m.d]] w fun ex w' => ex = .returned (.int .i64 0) ∧ Grow w w')) (w : World) :
    Calls Try.prog 35 #[.agg #[.int .i64 m.a, .int .i64 m.b, .int .i64 m.c, .int .i64 m.d], .int .i64 n] w fun ex w' => ex = .returned (.tuple #[.agg #[.int .i64 0, .int .i64 0, .int .i64 0, .int .i64 0], .int .i64 2]) ∧ Grow w w' := by
  rcases hn with hn | hn
  · go_enter Try.func35, Try.ntmps35
    go_wp2_with fail
    (go_at_call 26; refine (I.out _).mono ?_; rintro e w1 ⟨rfl, hb1⟩; have hc1 := hb1.cells; have hf1 := hb1.frees; have hz1 := hb1.size; (try simp at hz1))
    have zw1_0 : w.heap.size < w1.heap.size := (by omega); have zw1_1 : w.heap.size + 1 < w1.heap.size := (by omega)
    go_wp2_with fail
    exact bodyPost_ret (v := .tuple #[.agg #[.int .i64 0, .int .i64 0, .int .i64 0, .int .i64 0], .int .i64 2]) (by simp only [results, Try.results35]; go_simp) rfl ⟨rfl, by (repeat (first | with_reducible exact Grow.refl _ | with_reducible refine Grow.alloc ?_ _ | with_reducible refine Grow.drew ?_ | with_reducible refine Grow.drewN ?_ _ | (with_reducible refine Grow.setCell ?_ ?hp _; (case hp => (simp; try omega))) | with_reducible refine Grow.trans ?_ (by assumption)))⟩
  · have hn1 : ¬ n < -1000 := by omega
    go_enter Try.func35, Try.ntmps35
    go_wp2_with fail
    (go_at_call 26; refine (I.out _).mono ?_; rintro e w1 ⟨rfl, hb1⟩; have hc1 := hb1.cells; have hf1 := hb1.frees; have hz1 := hb1.size; (try simp at hz1))
    have zw1_0 : w.heap.size < w1.heap.size := (by omega); have zw1_1 : w.heap.size + 1 < w1.heap.size := (by omega)
    go_wp2_with fail
    exact bodyPost_ret (v := .tuple #[.agg #[.int .i64 0, .int .i64 0, .int .i64 0, .int .i64 0], .int .i64 2]) (by simp only [results, Try.results35]; go_simp) rfl ⟨rfl, by (repeat (first | with_reducible exact Grow.refl _ | with_reducible refine Grow.alloc ?_ _ | with_reducible refine Grow.drew ?_ | with_reducible refine Grow.drewN ?_ _ | (with_reducible refine Grow.setCell ?_ ?hp _; (case hp => (simp; try omega))) | with_reducible refine Grow.trans ?_ (by assumption)))⟩

set_option maxHeartbeats 2000000 in
theorem refPower_pos (m M : M2) (N : Nat) (n : Int) (hNn : (N : Int) = n) (hN : N ≤ 1000) (hM : Hid (m = M)) (_hfm : m.fits = true) (hfM : M.fits = true) (R : Option M2) (HR : Hid (powR N M M2.one = R)) (r : M2) (er : Int)
    (HV : Hid (powOut R = (r, er)))
    (I : Hid (∀ w, Calls Try.prog 26 #[.agg #[.int .i64 m.a, .int .i64 m.b, .int .i64 m.c, .int .i64 m.d]] w fun ex w' => ex = .returned (.int .i64 0) ∧ Grow w w')) (w : World) :
    Calls Try.prog 35 #[.agg #[.int .i64 m.a, .int .i64 m.b, .int .i64 m.c, .int .i64 m.d], .int .i64 (n)] w fun ex w' => ex = .returned (.tuple #[.agg #[.int .i64 r.a, .int .i64 r.b, .int .i64 r.c, .int .i64 r.d], .int .i64 er]) ∧ Grow w w' := by
  have n2 : ¬ n < 0 := by omega
  have n3 : ¬ n < -1000 := by omega
  have n4 : ¬ (1000 : Int) < n := by omega
  go_enter Try.func35, Try.ntmps35
  go_wp2_with fail
  (go_at_call 26; refine (I.out _).mono ?_; rintro e w1 ⟨rfl, hb1⟩; have hc1 := hb1.cells; have hf1 := hb1.frees; have hz1 := hb1.size; (try simp at hz1))
  have zw1_0 : w.heap.size < w1.heap.size := (by omega); have zw1_1 : w.heap.size + 1 < w1.heap.size := (by omega)
  have hM := hM.out
  subst hM
  have c0 : w1.cell? ⟨w.heap.size, 0, none⟩ = some (.int .i64 m.a) := by rw [hc1 _ _ (by simp; try omega)]; go_simp
  have c1 : w1.cell? ⟨w.heap.size, 1, none⟩ = some (.int .i64 m.b) := by rw [hc1 _ _ (by simp; try omega)]; go_simp
  have c2 : w1.cell? ⟨w.heap.size, 2, none⟩ = some (.int .i64 m.c) := by rw [hc1 _ _ (by simp; try omega)]; go_simp
  have c3 : w1.cell? ⟨w.heap.size, 3, none⟩ = some (.int .i64 m.d) := by rw [hc1 _ _ (by simp; try omega)]; go_simp
  have d0 : w1.cell? ⟨w.heap.size + 1, 0, none⟩ = some (.int .i64 0) := by rw [hc1 _ _ (by simp; try omega)]; go_simp
  have d1 : w1.cell? ⟨w.heap.size + 1, 1, none⟩ = some (.int .i64 0) := by rw [hc1 _ _ (by simp; try omega)]; go_simp
  have d2 : w1.cell? ⟨w.heap.size + 1, 2, none⟩ = some (.int .i64 0) := by rw [hc1 _ _ (by simp; try omega)]; go_simp
  have d3 : w1.cell? ⟨w.heap.size + 1, 3, none⟩ = some (.int .i64 0) := by rw [hc1 _ _ (by simp; try omega)]; go_simp
  have e0 : ∀ o, w1.frozen? ⟨w.heap.size, o, none⟩ = false := by intro o; rw [hf1 _ _ (by simp; try omega)]; go_simp
  have e1 : ∀ o, w1.frozen? ⟨w.heap.size + 1, o, none⟩ = false := by intro o; rw [hf1 _ _ (by simp; try omega)]; go_simp
  have hb1' : Grow w w1 := by (repeat (first | with_reducible exact Grow.refl _ | with_reducible refine Grow.alloc ?_ _ | with_reducible refine Grow.drew ?_ | with_reducible refine Grow.drewN ?_ _ | (with_reducible refine Grow.setCell ?_ ?hp _; (case hp => (simp; try omega))) | with_reducible refine Grow.trans ?_ (by assumption)))
  clear hc1 hf1 hz1 hb1
  go_wp2_with fail
  (go_at_call 50; refine (refOne_any _).mono ?_; rintro e w3 ⟨rfl, hb3⟩; have hc3 := hb3.cells; have hf3 := hb3.frees; have hz3 := hb3.size; (try simp at hz3))
  have zw3_0 : w.heap.size < w3.heap.size := (by omega); have zw3_1 : w.heap.size + 1 < w3.heap.size := (by omega)
  go_wp2_with fail
  go_loopg [8] N (fun k i wr => ∃ (j : Nat) (u : M2), i = .int .i64 j ∧ Hid (u.fits = true ∧ j + k = N ∧ powR k m u = R) ∧ PowMem w.heap.size (w.heap.size + 1) w3.heap.size w m u wr)
  case atStart =>
    refine ⟨0, M2.one, rfl, ⟨one_fits, by omega, HR.out⟩, ?_⟩
    refine ⟨?_, ?_, ?_, ?_, ?_, ?_, ?_, ?_, ?_, ?_, ?_, ?_, ?_, ?_, ?_, ?_⟩
    all_goals try simp only [M2.one]
    all_goals try (first | (go_simp; done) | (intro o; go_simp; done))
    (repeat (first | with_reducible exact Grow.refl _ | with_reducible refine Grow.alloc ?_ _ | with_reducible refine Grow.drew ?_ | with_reducible refine Grow.drewN ?_ _ | (with_reducible refine Grow.setCell ?_ ?hp _; (case hp => (simp; try omega))) | with_reducible refine Grow.trans ?_ (by assumption)))
  case round =>
    obtain ⟨j, u, rfl, hm, m0, m1, m2, m3, r0, r1, r2, r3, u0, u1, u2, u3, f1, f2, hg, hB⟩ := hrel
    have HG := Lib.hid hg
    have z1 : w.heap.size < wr.heap.size := by omega
    have z2 : w.heap.size + 1 < wr.heap.size := by omega
    have hjk : j + gk ≤ N := by have := hm.out.2.1; omega
    have hjk2 : N ≤ j + gk := by have := hm.out.2.1; omega
    have HB := Lib.hid hB
    clear hg I c0 c1 c2 c3 d0 d1 d2 d3 e0 e1 hb1'
    by_cases hlt : j < N
    · obtain ⟨g', hgk⟩ : ∃ g', gk = g' + 1 := ⟨gk - 1, by omega⟩
      have hj1 : (j : Int) < n := by omega
      have hj0 : (0 : Int) ≤ j := by omega
      obtain ⟨x, hx⟩ : ∃ x, u.times (m) = x := ⟨_, rfl⟩
      have hmul := mulF_ok hm.out.1 hfM
      have hp := hm.out.2.2
      rw [hgk] at hp
      simp only [powR] at hp
      rw [hx] at hp hmul
      have MU : Hid (∀ w, _) := fun w => refMul_any u (m) w
      by_cases hfx : x.fits = true
      · rw [if_pos hfx] at hp hmul
        rw [hmul] at MU
        have HP := Lib.hid hp
        have HX := Lib.hid hfx
        clear hp hmul hfx hx
        go_wp2_with fail
        (go_at_call 24; refine (MU.out _).mono ?_; rintro e w5 ⟨rfl, hb5⟩; have hc5 := hb5.cells; have hf5 := hb5.frees; have hz5 := hb5.size; (try simp at hz5))
        have v1 : w.heap.size < w5.heap.size := by omega
        have v2 : w.heap.size + 1 < w5.heap.size := by omega
        have v4 : w3.heap.size < w5.heap.size := by have := HB.out; omega
        go_wp2_with fail
        go_roundg g'
        case measure => omega
        case rel =>
          refine ⟨j + 1, x, by go_num, ⟨HX.out, by omega, HP.out⟩, ?_⟩
          refine ⟨?_, ?_, ?_, ?_, ?_, ?_, ?_, ?_, ?_, ?_, ?_, ?_, ?_, ?_, ?_, ?_⟩
          all_goals clear hm
          all_goals try (first | (go_simp; done) | (intro o; go_simp; done))
          have hg := HG.out
          (repeat (first | with_reducible exact Grow.refl _ | with_reducible refine Grow.alloc ?_ _ | with_reducible refine Grow.drew ?_ | with_reducible refine Grow.drewN ?_ _ | (with_reducible refine Grow.setCell ?_ ?hp _; (case hp => (simp; try omega))) | with_reducible refine Grow.trans ?_ (by assumption)))
      · rw [if_neg hfx] at hp hmul
        rw [hmul] at MU
        have hv : (r, er) = (M2.zero, 7) := by have h3 := HV.out; rw [← hp] at h3; exact h3.symm
        obtain ⟨rfl, rfl⟩ := Prod.mk.inj hv
        clear hp hmul hfx hx hv
        go_wp2_with fail
        (go_at_call 24; refine (MU.out _).mono ?_; rintro e w5 ⟨rfl, hb5⟩; have hc5 := hb5.cells; have hf5 := hb5.frees; have hz5 := hb5.size; (try simp at hz5))
        have v1 : w.heap.size < w5.heap.size := by omega
        have v2 : w.heap.size + 1 < w5.heap.size := by omega
        have v4 : w3.heap.size < w5.heap.size := by have := HB.out; omega
        go_wp2_with fail
        have hg := HG.out
        exact bodyPost_ret (v := .tuple #[.agg #[.int .i64 0, .int .i64 0, .int .i64 0, .int .i64 0], .int .i64 7]) (by simp only [results, Try.results35]; go_simp) rfl ⟨rfl, by (repeat (first | with_reducible exact Grow.refl _ | with_reducible refine Grow.alloc ?_ _ | with_reducible refine Grow.drew ?_ | with_reducible refine Grow.drewN ?_ _ | (with_reducible refine Grow.setCell ?_ ?hp _; (case hp => (simp; try omega))) | with_reducible refine Grow.trans ?_ (by assumption)))⟩
    · have hgk : gk = 0 := by omega
      have hp := hm.out.2.2
      rw [hgk] at hp
      simp only [powR] at hp
      have hv : (r, er) = (u, 0) := by have h3 := HV.out; rw [← hp] at h3; exact h3.symm
      obtain ⟨rfl, rfl⟩ := Prod.mk.inj hv
      have hj1 : ¬ (j : Int) < n := by omega
      clear hp hv
      go_wp2_with fail
      have hg := HG.out
      exact bodyPost_ret (v := .tuple #[.agg #[.int .i64 r.a, .int .i64 r.b, .int .i64 r.c, .int .i64 r.d], .int .i64 0]) (by simp only [results, Try.results35]; go_simp) rfl ⟨rfl, by (repeat (first | with_reducible exact Grow.refl _ | with_reducible refine Grow.alloc ?_ _ | with_reducible refine Grow.drew ?_ | with_reducible refine Grow.drewN ?_ _ | (with_reducible refine Grow.setCell ?_ ?hp _; (case hp => (simp; try omega))) | with_reducible refine Grow.trans ?_ (by assumption)))⟩

set_option maxHeartbeats 2000000 in
theorem refPower_neg (m M : M2) (N : Nat) (n : Int) (hNn : (N : Int) = -n) (hN0 : 0 < N) (hN : N ≤ 1000) (hM : Hid (m.back = M)) (_hfm : m.fits = true) (hfM : M.fits = true) (R : Option M2) (HR : Hid (powR N M M2.one = R)) (r : M2) (er : Int)
    (HV : Hid (powOut R = (r, er)))
    (I : Hid (∀ w, Calls Try.prog 26 #[.agg #[.int .i64 m.a, .int .i64 m.b, .int .i64 m.c, .int .i64 m.d]] w fun ex w' => ex = .returned (.int .i64 0) ∧ Grow w w')) (w : World) :
    Calls Try.prog 35 #[.agg #[.int .i64 m.a, .int .i64 m.b, .int .i64 m.c, .int .i64 m.d], .int .i64 (n)] w fun ex w' => ex = .returned (.tuple #[.agg #[.int .i64 r.a, .int .i64 r.b, .int .i64 r.c, .int .i64 r.d], .int .i64 er]) ∧ Grow w w' := by
  have n2 : n < 0 := by omega
  have n6 : IntKind.i64.wrap (-n) = -n := IntWalk.i64_in _ (by omega)
  have n3 : ¬ n < -1000 := by omega
  have n4 : ¬ (1000 : Int) < n := by omega
  go_enter Try.func35, Try.ntmps35
  go_wp2_with fail
  (go_at_call 26; refine (I.out _).mono ?_; rintro e w1 ⟨rfl, hb1⟩; have hc1 := hb1.cells; have hf1 := hb1.frees; have hz1 := hb1.size; (try simp at hz1))
  have zw1_0 : w.heap.size < w1.heap.size := (by omega); have zw1_1 : w.heap.size + 1 < w1.heap.size := (by omega)
  have hM := hM.out
  subst hM
  have c0 : w1.cell? ⟨w.heap.size, 0, none⟩ = some (.int .i64 m.a) := by rw [hc1 _ _ (by simp; try omega)]; go_simp
  have c1 : w1.cell? ⟨w.heap.size, 1, none⟩ = some (.int .i64 m.b) := by rw [hc1 _ _ (by simp; try omega)]; go_simp
  have c2 : w1.cell? ⟨w.heap.size, 2, none⟩ = some (.int .i64 m.c) := by rw [hc1 _ _ (by simp; try omega)]; go_simp
  have c3 : w1.cell? ⟨w.heap.size, 3, none⟩ = some (.int .i64 m.d) := by rw [hc1 _ _ (by simp; try omega)]; go_simp
  have d0 : w1.cell? ⟨w.heap.size + 1, 0, none⟩ = some (.int .i64 0) := by rw [hc1 _ _ (by simp; try omega)]; go_simp
  have d1 : w1.cell? ⟨w.heap.size + 1, 1, none⟩ = some (.int .i64 0) := by rw [hc1 _ _ (by simp; try omega)]; go_simp
  have d2 : w1.cell? ⟨w.heap.size + 1, 2, none⟩ = some (.int .i64 0) := by rw [hc1 _ _ (by simp; try omega)]; go_simp
  have d3 : w1.cell? ⟨w.heap.size + 1, 3, none⟩ = some (.int .i64 0) := by rw [hc1 _ _ (by simp; try omega)]; go_simp
  have e0 : ∀ o, w1.frozen? ⟨w.heap.size, o, none⟩ = false := by intro o; rw [hf1 _ _ (by simp; try omega)]; go_simp
  have e1 : ∀ o, w1.frozen? ⟨w.heap.size + 1, o, none⟩ = false := by intro o; rw [hf1 _ _ (by simp; try omega)]; go_simp
  have hb1' : Grow w w1 := by (repeat (first | with_reducible exact Grow.refl _ | with_reducible refine Grow.alloc ?_ _ | with_reducible refine Grow.drew ?_ | with_reducible refine Grow.drewN ?_ _ | (with_reducible refine Grow.setCell ?_ ?hp _; (case hp => (simp; try omega))) | with_reducible refine Grow.trans ?_ (by assumption)))
  clear hc1 hf1 hz1 hb1
  go_wp2_with fail
  (go_at_call 27; refine (back_any m _hfm _).mono ?_; rintro e w2 ⟨rfl, hb2⟩; have hc2 := hb2.cells; have hf2 := hb2.frees; have hz2 := hb2.size; (try simp at hz2))
  have zw2_0 : w.heap.size < w2.heap.size := (by omega); have zw2_1 : w.heap.size + 1 < w2.heap.size := (by omega)
  have x1 : w.heap.size < w2.heap.size := by omega
  have c0 : w2.cell? ⟨w.heap.size, 0, none⟩ = some (.int .i64 m.a) := (hc2 _ _ (by omega)).trans c0
  have c1 : w2.cell? ⟨w.heap.size, 1, none⟩ = some (.int .i64 m.b) := (hc2 _ _ (by omega)).trans c1
  have c2 : w2.cell? ⟨w.heap.size, 2, none⟩ = some (.int .i64 m.c) := (hc2 _ _ (by omega)).trans c2
  have c3 : w2.cell? ⟨w.heap.size, 3, none⟩ = some (.int .i64 m.d) := (hc2 _ _ (by omega)).trans c3
  have d0 : w2.cell? ⟨w.heap.size + 1, 0, none⟩ = some (.int .i64 0) := (hc2 _ _ (by omega)).trans d0
  have d1 : w2.cell? ⟨w.heap.size + 1, 1, none⟩ = some (.int .i64 0) := (hc2 _ _ (by omega)).trans d1
  have d2 : w2.cell? ⟨w.heap.size + 1, 2, none⟩ = some (.int .i64 0) := (hc2 _ _ (by omega)).trans d2
  have d3 : w2.cell? ⟨w.heap.size + 1, 3, none⟩ = some (.int .i64 0) := (hc2 _ _ (by omega)).trans d3
  have e0 : ∀ o, w2.frozen? ⟨w.heap.size, o, none⟩ = false := fun o => (hf2 _ _ (by omega)).trans (e0 o)
  have e1 : ∀ o, w2.frozen? ⟨w.heap.size + 1, o, none⟩ = false := fun o => (hf2 _ _ (by omega)).trans (e1 o)
  have hb1' : Grow w w2 := Grow.trans hb1' hb2
  clear hc2 hf2 hz2 hb2
  go_wp2_with fail
  (go_at_call 50; refine (refOne_any _).mono ?_; rintro e w3 ⟨rfl, hb3⟩; have hc3 := hb3.cells; have hf3 := hb3.frees; have hz3 := hb3.size; (try simp at hz3))
  have zw3_0 : w.heap.size < w3.heap.size := (by omega); have zw3_1 : w.heap.size + 1 < w3.heap.size := (by omega)
  go_wp2_with fail
  go_loopg [8] N (fun k i wr => ∃ (j : Nat) (u : M2), i = .int .i64 j ∧ Hid (u.fits = true ∧ j + k = N ∧ powR k m.back u = R) ∧ PowMem w.heap.size (w.heap.size + 1) w3.heap.size w m.back u wr)
  case atStart =>
    refine ⟨0, M2.one, rfl, ⟨one_fits, by omega, HR.out⟩, ?_⟩
    refine ⟨?_, ?_, ?_, ?_, ?_, ?_, ?_, ?_, ?_, ?_, ?_, ?_, ?_, ?_, ?_, ?_⟩
    all_goals try simp only [M2.one]
    all_goals try (first | (go_simp; done) | (intro o; go_simp; done))
    (repeat (first | with_reducible exact Grow.refl _ | with_reducible refine Grow.alloc ?_ _ | with_reducible refine Grow.drew ?_ | with_reducible refine Grow.drewN ?_ _ | (with_reducible refine Grow.setCell ?_ ?hp _; (case hp => (simp; try omega))) | with_reducible refine Grow.trans ?_ (by assumption)))
  case round =>
    obtain ⟨j, u, rfl, hm, m0, m1, m2, m3, r0, r1, r2, r3, u0, u1, u2, u3, f1, f2, hg, hB⟩ := hrel
    have HG := Lib.hid hg
    have z1 : w.heap.size < wr.heap.size := by omega
    have z2 : w.heap.size + 1 < wr.heap.size := by omega
    have hjk : j + gk ≤ N := by have := hm.out.2.1; omega
    have hjk2 : N ≤ j + gk := by have := hm.out.2.1; omega
    have HB := Lib.hid hB
    clear hg I c0 c1 c2 c3 d0 d1 d2 d3 e0 e1 hb1'
    by_cases hlt : j < N
    · obtain ⟨g', hgk⟩ : ∃ g', gk = g' + 1 := ⟨gk - 1, by omega⟩
      have hj1 : (j : Int) < -n := by omega
      have hj0 : (0 : Int) ≤ j := by omega
      obtain ⟨x, hx⟩ : ∃ x, u.times (m.back) = x := ⟨_, rfl⟩
      have hmul := mulF_ok hm.out.1 hfM
      have hp := hm.out.2.2
      rw [hgk] at hp
      simp only [powR] at hp
      rw [hx] at hp hmul
      have MU : Hid (∀ w, _) := fun w => refMul_any u (m.back) w
      by_cases hfx : x.fits = true
      · rw [if_pos hfx] at hp hmul
        rw [hmul] at MU
        have HP := Lib.hid hp
        have HX := Lib.hid hfx
        clear hp hmul hfx hx
        go_wp2_with fail
        (go_at_call 24; refine (MU.out _).mono ?_; rintro e w5 ⟨rfl, hb5⟩; have hc5 := hb5.cells; have hf5 := hb5.frees; have hz5 := hb5.size; (try simp at hz5))
        have v1 : w.heap.size < w5.heap.size := by omega
        have v2 : w.heap.size + 1 < w5.heap.size := by omega
        have v4 : w3.heap.size < w5.heap.size := by have := HB.out; omega
        go_wp2_with fail
        go_roundg g'
        case measure => omega
        case rel =>
          refine ⟨j + 1, x, by go_num, ⟨HX.out, by omega, HP.out⟩, ?_⟩
          refine ⟨?_, ?_, ?_, ?_, ?_, ?_, ?_, ?_, ?_, ?_, ?_, ?_, ?_, ?_, ?_, ?_⟩
          all_goals clear hm
          all_goals try (first | (go_simp; done) | (intro o; go_simp; done))
          have hg := HG.out
          (repeat (first | with_reducible exact Grow.refl _ | with_reducible refine Grow.alloc ?_ _ | with_reducible refine Grow.drew ?_ | with_reducible refine Grow.drewN ?_ _ | (with_reducible refine Grow.setCell ?_ ?hp _; (case hp => (simp; try omega))) | with_reducible refine Grow.trans ?_ (by assumption)))
      · rw [if_neg hfx] at hp hmul
        rw [hmul] at MU
        have hv : (r, er) = (M2.zero, 7) := by have h3 := HV.out; rw [← hp] at h3; exact h3.symm
        obtain ⟨rfl, rfl⟩ := Prod.mk.inj hv
        clear hp hmul hfx hx hv
        go_wp2_with fail
        (go_at_call 24; refine (MU.out _).mono ?_; rintro e w5 ⟨rfl, hb5⟩; have hc5 := hb5.cells; have hf5 := hb5.frees; have hz5 := hb5.size; (try simp at hz5))
        have v1 : w.heap.size < w5.heap.size := by omega
        have v2 : w.heap.size + 1 < w5.heap.size := by omega
        have v4 : w3.heap.size < w5.heap.size := by have := HB.out; omega
        go_wp2_with fail
        have hg := HG.out
        exact bodyPost_ret (v := .tuple #[.agg #[.int .i64 0, .int .i64 0, .int .i64 0, .int .i64 0], .int .i64 7]) (by simp only [results, Try.results35]; go_simp) rfl ⟨rfl, by (repeat (first | with_reducible exact Grow.refl _ | with_reducible refine Grow.alloc ?_ _ | with_reducible refine Grow.drew ?_ | with_reducible refine Grow.drewN ?_ _ | (with_reducible refine Grow.setCell ?_ ?hp _; (case hp => (simp; try omega))) | with_reducible refine Grow.trans ?_ (by assumption)))⟩
    · have hgk : gk = 0 := by omega
      have hp := hm.out.2.2
      rw [hgk] at hp
      simp only [powR] at hp
      have hv : (r, er) = (u, 0) := by have h3 := HV.out; rw [← hp] at h3; exact h3.symm
      obtain ⟨rfl, rfl⟩ := Prod.mk.inj hv
      have hj1 : ¬ (j : Int) < -n := by omega
      clear hp hv
      go_wp2_with fail
      have hg := HG.out
      exact bodyPost_ret (v := .tuple #[.agg #[.int .i64 r.a, .int .i64 r.b, .int .i64 r.c, .int .i64 r.d], .int .i64 0]) (by simp only [results, Try.results35]; go_simp) rfl ⟨rfl, by (repeat (first | with_reducible exact Grow.refl _ | with_reducible refine Grow.alloc ?_ _ | with_reducible refine Grow.drew ?_ | with_reducible refine Grow.drewN ?_ _ | (with_reducible refine Grow.setCell ?_ ?hp _; (case hp => (simp; try omega))) | with_reducible refine Grow.trans ?_ (by assumption)))⟩

theorem refPower_any (m : M2) (n : Int) (w : World) :
    Calls Try.prog 35 #[.agg #[.int .i64 m.a, .int .i64 m.b, .int .i64 m.c, .int .i64 m.d], .int .i64 n] w fun ex w' => ex = .returned (.tuple #[.agg #[.int .i64 (powF m n).1.a, .int .i64 (powF m n).1.b, .int .i64 (powF m n).1.c, .int .i64 (powF m n).1.d], .int .i64 (powF m n).2]) ∧ Grow w w' := by
  have I : Hid (∀ w, _) := fun w => refCheck_any m w
  by_cases hc : checkF m = 0
  · rw [hc] at I
    have hf := check0 hc
    by_cases h1 : -1000 ≤ n ∧ n ≤ 1000
    · have hv := powF_at hc h1.1 h1.2
      obtain ⟨⟨r, er⟩, hre⟩ : ∃ r, powF m n = r := ⟨_, rfl⟩
      rw [hre] at hv ⊢
      by_cases h2 : n < 0
      · rw [if_pos h2] at hv
        exact refPower_neg m _ n.natAbs n (by omega) (by omega) (by omega) rfl hf (back_fits hf) _ rfl r er hv.symm I w
      · rw [if_neg h2] at hv
        exact refPower_pos m _ n.natAbs n (by omega) (by omega) rfl hf hf _ rfl r er hv.symm I w
    · have hp : powF m n = (M2.zero, 2) := by unfold powF; rw [if_pos hc, if_neg h1]
      rw [hp]
      exact refPower_out m n (by omega) I w
  · have hp : powF m n = (M2.zero, checkF m) := by unfold powF; rw [if_neg hc]
    rw [hp]
    exact refPower_bad m n _ (by simpa using hc) I w
end Go.Proofs.Ytkjcdiolimajdaa
