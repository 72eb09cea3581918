/- Walks: Reduce, Image, Apply; the program's and the reference's. -/
import Derived.Test.YtfjlecphjahahaaSlD
namespace Go.Proofs.Ytfjlecphjahahaa
open Go.RowKit

theorem img_bd {m : M2} {c : C2} (hm : m.fits = true) (hp : inB c.p = true) (hq : inB c.q = true) :
    (-1152921504606846976 ≤ m.a * c.p ∧ m.a * c.p ≤ 1152921504606846976) ∧ (-1152921504606846976 ≤ m.b * c.q ∧ m.b * c.q ≤ 1152921504606846976) ∧
    (-1152921504606846976 ≤ m.c * c.p ∧ m.c * c.p ≤ 1152921504606846976) ∧ (-1152921504606846976 ≤ m.d * c.q ∧ m.d * c.q ≤ 1152921504606846976) := by
  obtain ⟨h1, h2, h3, h4⟩ := fitsB_iff.1 hm
  exact ⟨mul_in h1 hp, mul_in h2 hq, mul_in h3 hp, mul_in h4 hq⟩
theorem img_ne {m : M2} {c : C2} (hd : m.det ≠ 0) (hc : ¬ (c.p = 0 ∧ c.q = 0)) : ¬ (m.a * c.p + m.b * c.q = 0 ∧ m.c * c.p + m.d * c.q = 0) := by
  rintro ⟨h1, h2⟩
  have e1 : m.det * c.p = m.d * (m.a * c.p + m.b * c.q) - m.b * (m.c * c.p + m.d * c.q) := by
    simp only [M2.det, Int.mul_add, Int.sub_mul, ← Int.mul_assoc, Int.mul_comm m.d m.a, Int.mul_comm m.d m.b]; omega
  have e2 : m.det * c.q = m.a * (m.c * c.p + m.d * c.q) - m.c * (m.a * c.p + m.b * c.q) := by
    simp only [M2.det, Int.mul_add, Int.sub_mul, ← Int.mul_assoc, Int.mul_comm m.c m.a, Int.mul_comm m.c m.b]; omega
  rw [h1, h2, Int.mul_zero, Int.mul_zero] at e1 e2
  have e3 := (Int.mul_eq_zero.1 (e1.trans (by omega))).resolve_left hd
  have e4 := (Int.mul_eq_zero.1 (e2.trans (by omega))).resolve_left hd
  exact hc ⟨e3, e4⟩
theorem cc_ne {c : C2} (h : ccF c = 0) : ¬ (c.p = 0 ∧ c.q = 0) := by
  rintro ⟨h1, h2⟩
  have := (ccF_zero.1 h).2.2.2.2 h2
  omega

set_option maxHeartbeats 4000000 in
theorem apply_any (m : M2) (c : C2) (w : World) :
    Calls Try.prog 35 #[.agg #[.int .i64 m.a, .int .i64 m.b, .int .i64 m.c, .int .i64 m.d], .agg #[.int .i64 c.p, .int .i64 c.q]] w fun e w' => e = .returned (.tuple #[.agg #[.int .i64 (applyF m c).1.p, .int .i64 (applyF m c).1.q], .int .i64 (applyF m c).2]) ∧ Grow w w' := by
  by_cases h1 : m.fits = true
  · have hd : detF m = (m.det, 0) := by simp [detF, h1]
    by_cases h2 : m.det = 0
    · have hu : applyF m c = (C2.zero, 11) := by simp [applyF, h1, h2]
      rw [hu]
      have d1 : (m.det == 0) = true := by simpa using h2
      clear hu h1 h2
      go_enter Try.func35, Try.ntmps35
      go_wp2_with fail
      (go_at_call 48; refine (det_any _ _).mono ?_; rintro e w1 ⟨rfl, hb1⟩; have hc1 := hb1.cells; have hf1 := hb1.frees; have hz1 := hb1.size; (try simp at hz1))
      have zw1_0 : w.heap.size < w1.heap.size := (by omega); have zw1_1 : w.heap.size + 1 < w1.heap.size := (by omega); have zw1_2 : w.heap.size + 1 + 1 < w1.heap.size := (by omega)
      go_wp2_with fail
      exact bodyPost_ret (v := .tuple #[.agg #[.int .i64 0, .int .i64 0], .int .i64 11]) (by simp only [results, Try.results35]; go_simp) rfl ⟨rfl, by (repeat (first | with_reducible exact Grow.refl _ | with_reducible refine Grow.alloc ?_ _ | with_reducible refine Grow.drew ?_ | with_reducible refine Grow.drewN ?_ _ | (with_reducible refine Grow.setCell ?_ ?hp _; (case hp => (simp; try omega))) | with_reducible refine Grow.trans ?_ (by assumption)))⟩
    · have d1 : (m.det == 0) = false := by simpa using h2
      by_cases h3 : ccF c = 0
      · have k1 : (ccF c == 0) = true := by simpa using h3
        have k2 : (ccF c != 0) = false := by simpa using h3
        obtain ⟨⟨x1, x2⟩, ⟨x3, x4⟩, ⟨x5, x6⟩, x7, x8⟩ := img_bd h1 (ccF_zero.1 h3).1 (ccF_zero.1 h3).2.2.1
        have y1 : IntKind.i64.wrap (m.a * c.p) = m.a * c.p := IntWalk.i64_in _ (by omega)
        have y2 : IntKind.i64.wrap (m.b * c.q) = m.b * c.q := IntWalk.i64_in _ (by omega)
        have y3 : IntKind.i64.wrap (m.c * c.p) = m.c * c.p := IntWalk.i64_in _ (by omega)
        have y4 : IntKind.i64.wrap (m.d * c.q) = m.d * c.q := IntWalk.i64_in _ (by omega)
        have y5 : IntKind.i64.wrap (m.a * c.p + m.b * c.q) = m.a * c.p + m.b * c.q := IntWalk.i64_in _ (by omega)
        have y6 : IntKind.i64.wrap (m.c * c.p + m.d * c.q) = m.c * c.p + m.d * c.q := IntWalk.i64_in _ (by omega)
        have L := Lib.hid (fun w => lowest_any (m.a * c.p + m.b * c.q) (m.c * c.p + m.d * c.q) (by omega) (by omega) (by omega) (by omega) (img_ne h2 (cc_ne h3)) w)
        by_cases h4 : inB (m.img c).p = true
        · by_cases h5 : inB (m.img c).q = true
          · have hu : applyF m c = (m.img c, 0) := by simp [applyF, h1, h2, h3, h4, h5]
            rw [hu]
            clear hu h1 h2 h3
            unfold M2.img at *
            generalize lowF (m.a * c.p + m.b * c.q) (m.c * c.p + m.d * c.q) = u at *
            go_enter Try.func35, Try.ntmps35
            go_wp2_with fail
            (go_at_call 48; refine (det_any _ _).mono ?_; rintro e w1 ⟨rfl, hb1⟩; have hc1 := hb1.cells; have hf1 := hb1.frees; have hz1 := hb1.size; (try simp at hz1))
            have zw1_0 : w.heap.size < w1.heap.size := (by omega); have zw1_1 : w.heap.size + 1 < w1.heap.size := (by omega); have zw1_2 : w.heap.size + 1 + 1 < w1.heap.size := (by omega)
            go_wp2_with fail
            (go_at_call 15; refine (checkCusp_any _ _).mono ?_; rintro e w2 ⟨rfl, hb2⟩; have hc2 := hb2.cells; have hf2 := hb2.frees; have hz2 := hb2.size; (try simp at hz2))
            have zw2_0 : w.heap.size < w2.heap.size := (by omega); have zw2_1 : w.heap.size + 1 < w2.heap.size := (by omega); have zw2_2 : w.heap.size + 1 + 1 < w2.heap.size := (by omega)
            go_wp2_with fail
            (go_at_call 49; refine (L.out _).mono ?_; rintro e w3 ⟨rfl, hb3⟩; have hc3 := hb3.cells; have hf3 := hb3.frees; have hz3 := hb3.size; (try simp at hz3))
            have zw3_0 : w.heap.size < w3.heap.size := (by omega); have zw3_1 : w.heap.size + 1 < w3.heap.size := (by omega); have zw3_2 : w.heap.size + 1 + 1 < w3.heap.size := (by omega)
            go_wp2_with (go_at_call 38; refine (in_any _ _).mono ?_; rintro e w4 ⟨rfl, rfl⟩)
            exact bodyPost_ret (v := .tuple #[.agg #[.int .i64 u.p, .int .i64 u.q], .int .i64 0]) (by simp only [results, Try.results35]; go_simp) rfl ⟨rfl, by (repeat (first | with_reducible exact Grow.refl _ | with_reducible refine Grow.alloc ?_ _ | with_reducible refine Grow.drew ?_ | with_reducible refine Grow.drewN ?_ _ | (with_reducible refine Grow.setCell ?_ ?hp _; (case hp => (simp; try omega))) | with_reducible refine Grow.trans ?_ (by assumption)))⟩
          · have hu : applyF m c = (C2.zero, 7) := by simp [applyF, h1, h2, h3, h5]
            rw [hu]
            have h5' : inB (m.img c).q = false := eq_false_of_ne_true h5
            clear hu h1 h2 h3 h5
            unfold M2.img at *
            generalize lowF (m.a * c.p + m.b * c.q) (m.c * c.p + m.d * c.q) = u at *
            go_enter Try.func35, Try.ntmps35
            go_wp2_with fail
            (go_at_call 48; refine (det_any _ _).mono ?_; rintro e w1 ⟨rfl, hb1⟩; have hc1 := hb1.cells; have hf1 := hb1.frees; have hz1 := hb1.size; (try simp at hz1))
            have zw1_0 : w.heap.size < w1.heap.size := (by omega); have zw1_1 : w.heap.size + 1 < w1.heap.size := (by omega); have zw1_2 : w.heap.size + 1 + 1 < w1.heap.size := (by omega)
            go_wp2_with fail
            (go_at_call 15; refine (checkCusp_any _ _).mono ?_; rintro e w2 ⟨rfl, hb2⟩; have hc2 := hb2.cells; have hf2 := hb2.frees; have hz2 := hb2.size; (try simp at hz2))
            have zw2_0 : w.heap.size < w2.heap.size := (by omega); have zw2_1 : w.heap.size + 1 < w2.heap.size := (by omega); have zw2_2 : w.heap.size + 1 + 1 < w2.heap.size := (by omega)
            go_wp2_with fail
            (go_at_call 49; refine (L.out _).mono ?_; rintro e w3 ⟨rfl, hb3⟩; have hc3 := hb3.cells; have hf3 := hb3.frees; have hz3 := hb3.size; (try simp at hz3))
            have zw3_0 : w.heap.size < w3.heap.size := (by omega); have zw3_1 : w.heap.size + 1 < w3.heap.size := (by omega); have zw3_2 : w.heap.size + 1 + 1 < w3.heap.size := (by omega)
            go_wp2_with (go_at_call 38; refine (in_any _ _).mono ?_; rintro e w4 ⟨rfl, rfl⟩)
            exact bodyPost_ret (v := .tuple #[.agg #[.int .i64 0, .int .i64 0], .int .i64 7]) (by simp only [results, Try.results35]; go_simp) rfl ⟨rfl, by (repeat (first | with_reducible exact Grow.refl _ | with_reducible refine Grow.alloc ?_ _ | with_reducible refine Grow.drew ?_ | with_reducible refine Grow.drewN ?_ _ | (with_reducible refine Grow.setCell ?_ ?hp _; (case hp => (simp; try omega))) | with_reducible refine Grow.trans ?_ (by assumption)))⟩
        · have hu : applyF m c = (C2.zero, 7) := by simp [applyF, h1, h2, h3, h4]
          rw [hu]
          have h4' : inB (m.img c).p = false := eq_false_of_ne_true h4
          clear hu h1 h2 h3 h4
          unfold M2.img at *
          generalize lowF (m.a * c.p + m.b * c.q) (m.c * c.p + m.d * c.q) = u at *
          go_enter Try.func35, Try.ntmps35
          go_wp2_with fail
          (go_at_call 48; refine (det_any _ _).mono ?_; rintro e w1 ⟨rfl, hb1⟩; have hc1 := hb1.cells; have hf1 := hb1.frees; have hz1 := hb1.size; (try simp at hz1))
          have zw1_0 : w.heap.size < w1.heap.size := (by omega); have zw1_1 : w.heap.size + 1 < w1.heap.size := (by omega); have zw1_2 : w.heap.size + 1 + 1 < w1.heap.size := (by omega)
          go_wp2_with fail
          (go_at_call 15; refine (checkCusp_any _ _).mono ?_; rintro e w2 ⟨rfl, hb2⟩; have hc2 := hb2.cells; have hf2 := hb2.frees; have hz2 := hb2.size; (try simp at hz2))
          have zw2_0 : w.heap.size < w2.heap.size := (by omega); have zw2_1 : w.heap.size + 1 < w2.heap.size := (by omega); have zw2_2 : w.heap.size + 1 + 1 < w2.heap.size := (by omega)
          go_wp2_with fail
          (go_at_call 49; refine (L.out _).mono ?_; rintro e w3 ⟨rfl, hb3⟩; have hc3 := hb3.cells; have hf3 := hb3.frees; have hz3 := hb3.size; (try simp at hz3))
          have zw3_0 : w.heap.size < w3.heap.size := (by omega); have zw3_1 : w.heap.size + 1 < w3.heap.size := (by omega); have zw3_2 : w.heap.size + 1 + 1 < w3.heap.size := (by omega)
          go_wp2_with (go_at_call 38; refine (in_any _ _).mono ?_; rintro e w4 ⟨rfl, rfl⟩)
          exact bodyPost_ret (v := .tuple #[.agg #[.int .i64 0, .int .i64 0], .int .i64 7]) (by simp only [results, Try.results35]; go_simp) rfl ⟨rfl, by (repeat (first | with_reducible exact Grow.refl _ | with_reducible refine Grow.alloc ?_ _ | with_reducible refine Grow.drew ?_ | with_reducible refine Grow.drewN ?_ _ | (with_reducible refine Grow.setCell ?_ ?hp _; (case hp => (simp; try omega))) | with_reducible refine Grow.trans ?_ (by assumption)))⟩
      · have hu : applyF m c = (C2.zero, ccF c) := by simp [applyF, h1, h2, h3]
        rw [hu]
        have k1 : (ccF c == 0) = false := by simpa using h3
        have k2 : (ccF c != 0) = true := by simpa using h3
        clear hu h1 h2 h3
        go_enter Try.func35, Try.ntmps35
        go_wp2_with fail
        (go_at_call 48; refine (det_any _ _).mono ?_; rintro e w1 ⟨rfl, hb1⟩; have hc1 := hb1.cells; have hf1 := hb1.frees; have hz1 := hb1.size; (try simp at hz1))
        have zw1_0 : w.heap.size < w1.heap.size := (by omega); have zw1_1 : w.heap.size + 1 < w1.heap.size := (by omega); have zw1_2 : w.heap.size + 1 + 1 < w1.heap.size := (by omega)
        go_wp2_with fail
        (go_at_call 15; refine (checkCusp_any _ _).mono ?_; rintro e w2 ⟨rfl, hb2⟩; have hc2 := hb2.cells; have hf2 := hb2.frees; have hz2 := hb2.size; (try simp at hz2))
        have zw2_0 : w.heap.size < w2.heap.size := (by omega); have zw2_1 : w.heap.size + 1 < w2.heap.size := (by omega); have zw2_2 : w.heap.size + 1 + 1 < w2.heap.size := (by omega)
        go_wp2_with fail
        exact bodyPost_ret (v := .tuple #[.agg #[.int .i64 0, .int .i64 0], .int .i64 (ccF c)]) (by simp only [results, Try.results35]; go_simp) rfl ⟨rfl, by (repeat (first | with_reducible exact Grow.refl _ | with_reducible refine Grow.alloc ?_ _ | with_reducible refine Grow.drew ?_ | with_reducible refine Grow.drewN ?_ _ | (with_reducible refine Grow.setCell ?_ ?hp _; (case hp => (simp; try omega))) | with_reducible refine Grow.trans ?_ (by assumption)))⟩
  · have hu : applyF m c = (C2.zero, 2) := by simp [applyF, h1]
    rw [hu]
    have hd : detF m = (0, 2) := by simp [detF, h1]
    clear hu h1
    go_enter Try.func35, Try.ntmps35
    go_wp2_with fail
    (go_at_call 48; refine (det_any _ _).mono ?_; rintro e w1 ⟨rfl, hb1⟩; have hc1 := hb1.cells; have hf1 := hb1.frees; have hz1 := hb1.size; (try simp at hz1))
    have zw1_0 : w.heap.size < w1.heap.size := (by omega); have zw1_1 : w.heap.size + 1 < w1.heap.size := (by omega); have zw1_2 : w.heap.size + 1 + 1 < w1.heap.size := (by omega)
    go_wp2_with fail
    exact bodyPost_ret (v := .tuple #[.agg #[.int .i64 0, .int .i64 0], .int .i64 2]) (by simp only [results, Try.results35]; go_simp) rfl ⟨rfl, by (repeat (first | with_reducible exact Grow.refl _ | with_reducible refine Grow.alloc ?_ _ | with_reducible refine Grow.drew ?_ | with_reducible refine Grow.drewN ?_ _ | (with_reducible refine Grow.setCell ?_ ?hp _; (case hp => (simp; try omega))) | with_reducible refine Grow.trans ?_ (by assumption)))⟩


end Go.Proofs.Ytfjlecphjahahaa
