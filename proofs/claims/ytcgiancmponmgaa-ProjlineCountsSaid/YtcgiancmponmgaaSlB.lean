/- Walks of the small functions of sl2 and of its reference: Det, Check, Mul, Inverse. -/
import Derived.Test.YtcgiancmponmgaaProg
import Derived.Test.YtcgiancmponmgaaSlA
import Derived.WalkKit
import Derived.WalkSpells
import Derived.WalkLawsBesides
import Derived.Lib.Hide
namespace Go.Proofs.Ytcgiancmponmgaa
open Go.RowKit


theorem det_bd {m : M2} (hm : m.fits = true) : -2305843009213693952 ≤ m.a * m.d - m.b * m.c ∧ m.a * m.d - m.b * m.c ≤ 2305843009213693952 := by
  obtain ⟨h1, h2, h3, h4⟩ := fitsB_iff.1 hm
  have := mul_in h1 h4
  have := mul_in h2 h3
  omega

set_option maxHeartbeats 400000 in
theorem det_any (m : M2) (w : World) :
    Calls Try.prog 46 #[.agg #[.int .i64 m.a, .int .i64 m.b, .int .i64 m.c, .int .i64 m.d]] w fun e w' =>
      e = .returned (.tuple #[.int .i64 (detF m).1, .int .i64 (detF m).2]) ∧ Grow w w' := by
  by_cases hf : m.fits = true
  · have hd : detF m = (m.a * m.d - m.b * m.c, 0) := by simp [detF, hf, M2.det]
    rw [hd]
    have hf' : fitsB m.a m.b m.c m.d = true := hf
    obtain ⟨p1, p1u⟩ := mul_in (fitsB_iff.1 hf).1 (fitsB_iff.1 hf).2.2.2
    obtain ⟨p2, p2u⟩ := mul_in (fitsB_iff.1 hf).2.1 (fitsB_iff.1 hf).2.2.1
    clear hd hf
    go_enter Try.func46, Try.ntmps46
    go_wp2_with (go_at_call 44; refine (fits_any _ _ _ _ _).mono ?_; rintro e w1 ⟨rfl, hb⟩; have hc := hb.cells; have hf := hb.frees)
    go_ret2
    exact ⟨rfl, by (repeat (first | with_reducible exact Grow.refl _ | with_reducible refine Grow.alloc ?_ _ | with_reducible refine Grow.drew ?_ | with_reducible refine Grow.drewN ?_ _ | (with_reducible refine Grow.setCell ?_ ?hp _; (case hp => (simp; try omega))) | with_reducible refine Grow.trans ?_ (by assumption)))⟩
  · have hd : detF m = (0, 2) := by simp [detF, hf]
    rw [hd]
    have hf' : fitsB m.a m.b m.c m.d = false := eq_false_of_ne_true hf
    clear hd hf
    go_enter Try.func46, Try.ntmps46
    go_wp2_with (go_at_call 44; refine (fits_any _ _ _ _ _).mono ?_; rintro e w1 ⟨rfl, hb⟩; have hc := hb.cells; have hf := hb.frees)
    go_ret2
    exact ⟨rfl, by (repeat (first | with_reducible exact Grow.refl _ | with_reducible refine Grow.alloc ?_ _ | with_reducible refine Grow.drew ?_ | with_reducible refine Grow.drewN ?_ _ | (with_reducible refine Grow.setCell ?_ ?hp _; (case hp => (simp; try omega))) | with_reducible refine Grow.trans ?_ (by assumption)))⟩

set_option maxHeartbeats 400000 in
theorem check_any (m : M2) (w : World) :
    Calls Try.prog 26 #[.agg #[.int .i64 m.a, .int .i64 m.b, .int .i64 m.c, .int .i64 m.d]] w fun e w' =>
      e = .returned (.int .i64 (checkF m)) ∧ Grow w w' := by
  by_cases hf : m.fits = true
  · have hd : detF m = (m.det, 0) := by simp [detF, hf]
    by_cases h1 : m.det = 1
    · have hc : checkF m = 0 := by simp [checkF, hf, h1]
      rw [hc]
      rw [h1] at hd
      clear hf h1 hc
      go_enter Try.func26, Try.ntmps26
      go_wp2_with (go_at_call 46; refine (det_any _ _).mono ?_; rintro e w1 ⟨rfl, hb⟩; have hc := hb.cells; have hf := hb.frees)
      go_ret
      exact ⟨rfl, by (repeat (first | with_reducible exact Grow.refl _ | with_reducible refine Grow.alloc ?_ _ | with_reducible refine Grow.drew ?_ | with_reducible refine Grow.drewN ?_ _ | (with_reducible refine Grow.setCell ?_ ?hp _; (case hp => (simp; try omega))) | with_reducible refine Grow.trans ?_ (by assumption)))⟩
    · have hc : checkF m = 12 := by simp [checkF, hf, h1]
      rw [hc]
      have h1 : (m.det == 1) = false := by simpa using h1
      have h2 : (m.det != 1) = true := by simpa using h1
      clear hf hc
      go_enter Try.func26, Try.ntmps26
      go_wp2_with (go_at_call 46; refine (det_any _ _).mono ?_; rintro e w1 ⟨rfl, hb⟩; have hc := hb.cells; have hf := hb.frees)
      go_ret
      exact ⟨rfl, by (repeat (first | with_reducible exact Grow.refl _ | with_reducible refine Grow.alloc ?_ _ | with_reducible refine Grow.drew ?_ | with_reducible refine Grow.drewN ?_ _ | (with_reducible refine Grow.setCell ?_ ?hp _; (case hp => (simp; try omega))) | with_reducible refine Grow.trans ?_ (by assumption)))⟩
  · have hd : detF m = (0, 2) := by simp [detF, hf]
    have hc : checkF m = 2 := by simp [checkF, hf]
    rw [hc]
    clear hf hc
    go_enter Try.func26, Try.ntmps26
    go_wp2_with (go_at_call 46; refine (det_any _ _).mono ?_; rintro e w1 ⟨rfl, hb⟩; have hc := hb.cells; have hf := hb.frees)
    go_ret
    exact ⟨rfl, by (repeat (first | with_reducible exact Grow.refl _ | with_reducible refine Grow.alloc ?_ _ | with_reducible refine Grow.drew ?_ | with_reducible refine Grow.drewN ?_ _ | (with_reducible refine Grow.setCell ?_ ?hp _; (case hp => (simp; try omega))) | with_reducible refine Grow.trans ?_ (by assumption)))⟩

set_option maxHeartbeats 2000000 in
theorem mul_any (x y : M2) (w : World) :
    Calls Try.prog 25 #[.agg #[.int .i64 x.a, .int .i64 x.b, .int .i64 x.c, .int .i64 x.d], .agg #[.int .i64 y.a, .int .i64 y.b, .int .i64 y.c, .int .i64 y.d]] w fun e w' =>
      e = .returned (.tuple #[.agg #[.int .i64 (mulF x y).1.a, .int .i64 (mulF x y).1.b, .int .i64 (mulF x y).1.c, .int .i64 (mulF x y).1.d], .int .i64 (mulF x y).2]) ∧ Grow w w' := by
  by_cases hx : x.fits = true
  · have hx' : fitsB x.a x.b x.c x.d = true := hx
    by_cases hy : y.fits = true
    · have hy' : fitsB y.a y.b y.c y.d = true := hy
      have HX := Lib.hid hx
      have HY := Lib.hid hy
      by_cases hf : (x.times y).fits = true
      · have hu : mulF x y = (x.times y, 0) := by simp [mulF, hx, hy, hf]
        rw [hu]
        have hf' : fitsB (x.times y).a (x.times y).b (x.times y).c (x.times y).d = true := hf
        clear hf hx hy hu
        go_enter Try.func25, Try.ntmps25
        go_wp2_with fail
        (go_at_call 44; refine (fits_any _ _ _ _ _).mono ?_; rintro e w1 ⟨rfl, hb1⟩; have hc1 := hb1.cells; have hf1 := hb1.frees; have hz1 := hb1.size; (try simp at hz1))
        have zw1_0 : w.heap.size < w1.heap.size := (by omega); have zw1_1 : w.heap.size + 1 < w1.heap.size := (by omega); have zw1_2 : w.heap.size + 1 + 1 < w1.heap.size := (by omega)
        go_wp2_with fail
        (go_at_call 44; refine (fits_any _ _ _ _ _).mono ?_; rintro e w2 ⟨rfl, hb2⟩; have hc2 := hb2.cells; have hf2 := hb2.frees; have hz2 := hb2.size; (try simp at hz2))
        have zw2_0 : w.heap.size < w2.heap.size := (by omega); have zw2_1 : w.heap.size + 1 < w2.heap.size := (by omega); have zw2_2 : w.heap.size + 1 + 1 < w2.heap.size := (by omega)
        go_wp2_with fail
        (go_at_call 45; refine (times_any x y HX.out HY.out _).mono ?_; rintro e w3 ⟨rfl, hb3⟩; have hc3 := hb3.cells; have hf3 := hb3.frees; have hz3 := hb3.size; (try simp at hz3))
        have zw3_0 : w.heap.size < w3.heap.size := (by omega); have zw3_1 : w.heap.size + 1 < w3.heap.size := (by omega); have zw3_2 : w.heap.size + 1 + 1 < w3.heap.size := (by omega)
        go_wp2_with fail
        (go_at_call 44; refine (fits_any _ _ _ _ _).mono ?_; rintro e w4 ⟨rfl, hb4⟩; have hc4 := hb4.cells; have hf4 := hb4.frees; have hz4 := hb4.size; (try simp at hz4))
        have zw4_0 : w.heap.size < w4.heap.size := (by omega); have zw4_1 : w.heap.size + 1 < w4.heap.size := (by omega); have zw4_2 : w.heap.size + 1 + 1 < w4.heap.size := (by omega)
        go_wp2_with fail
        exact bodyPost_ret (v := .tuple #[.agg #[.int .i64 (x.times y).a, .int .i64 (x.times y).b, .int .i64 (x.times y).c, .int .i64 (x.times y).d], .int .i64 0]) (by simp only [results, Try.results25]; go_simp) rfl ⟨rfl, by (repeat (first | with_reducible exact Grow.refl _ | with_reducible refine Grow.alloc ?_ _ | with_reducible refine Grow.drew ?_ | with_reducible refine Grow.drewN ?_ _ | (with_reducible refine Grow.setCell ?_ ?hp _; (case hp => (simp; try omega))) | with_reducible refine Grow.trans ?_ (by assumption)))⟩
      · have hu : mulF x y = (M2.zero, 7) := by simp [mulF, hx, hy, hf]
        rw [hu]
        have hf' : fitsB (x.times y).a (x.times y).b (x.times y).c (x.times y).d = false := eq_false_of_ne_true hf
        clear hf hx hy hu
        go_enter Try.func25, Try.ntmps25
        go_wp2_with fail
        (go_at_call 44; refine (fits_any _ _ _ _ _).mono ?_; rintro e w1 ⟨rfl, hb1⟩; have hc1 := hb1.cells; have hf1 := hb1.frees; have hz1 := hb1.size; (try simp at hz1))
        have zw1_0 : w.heap.size < w1.heap.size := (by omega); have zw1_1 : w.heap.size + 1 < w1.heap.size := (by omega); have zw1_2 : w.heap.size + 1 + 1 < w1.heap.size := (by omega)
        go_wp2_with fail
        (go_at_call 44; refine (fits_any _ _ _ _ _).mono ?_; rintro e w2 ⟨rfl, hb2⟩; have hc2 := hb2.cells; have hf2 := hb2.frees; have hz2 := hb2.size; (try simp at hz2))
        have zw2_0 : w.heap.size < w2.heap.size := (by omega); have zw2_1 : w.heap.size + 1 < w2.heap.size := (by omega); have zw2_2 : w.heap.size + 1 + 1 < w2.heap.size := (by omega)
        go_wp2_with fail
        (go_at_call 45; refine (times_any x y HX.out HY.out _).mono ?_; rintro e w3 ⟨rfl, hb3⟩; have hc3 := hb3.cells; have hf3 := hb3.frees; have hz3 := hb3.size; (try simp at hz3))
        have zw3_0 : w.heap.size < w3.heap.size := (by omega); have zw3_1 : w.heap.size + 1 < w3.heap.size := (by omega); have zw3_2 : w.heap.size + 1 + 1 < w3.heap.size := (by omega)
        go_wp2_with fail
        (go_at_call 44; refine (fits_any _ _ _ _ _).mono ?_; rintro e w4 ⟨rfl, hb4⟩; have hc4 := hb4.cells; have hf4 := hb4.frees; have hz4 := hb4.size; (try simp at hz4))
        have zw4_0 : w.heap.size < w4.heap.size := (by omega); have zw4_1 : w.heap.size + 1 < w4.heap.size := (by omega); have zw4_2 : w.heap.size + 1 + 1 < w4.heap.size := (by omega)
        go_wp2_with fail
        exact bodyPost_ret (v := .tuple #[.agg #[.int .i64 0, .int .i64 0, .int .i64 0, .int .i64 0], .int .i64 7]) (by simp only [results, Try.results25]; go_simp) rfl ⟨rfl, by (repeat (first | with_reducible exact Grow.refl _ | with_reducible refine Grow.alloc ?_ _ | with_reducible refine Grow.drew ?_ | with_reducible refine Grow.drewN ?_ _ | (with_reducible refine Grow.setCell ?_ ?hp _; (case hp => (simp; try omega))) | with_reducible refine Grow.trans ?_ (by assumption)))⟩
    · have hu : mulF x y = (M2.zero, 2) := by simp [mulF, hy]
      rw [hu]
      have hy' : fitsB y.a y.b y.c y.d = false := eq_false_of_ne_true hy
      clear hy hu hx
      go_enter Try.func25, Try.ntmps25
      go_wp2_with fail
      (go_at_call 44; refine (fits_any _ _ _ _ _).mono ?_; rintro e w1 ⟨rfl, hb1⟩; have hc1 := hb1.cells; have hf1 := hb1.frees; have hz1 := hb1.size; (try simp at hz1))
      have zw1_0 : w.heap.size < w1.heap.size := (by omega); have zw1_1 : w.heap.size + 1 < w1.heap.size := (by omega); have zw1_2 : w.heap.size + 1 + 1 < w1.heap.size := (by omega)
      go_wp2_with fail
      (go_at_call 44; refine (fits_any _ _ _ _ _).mono ?_; rintro e w2 ⟨rfl, hb2⟩; have hc2 := hb2.cells; have hf2 := hb2.frees; have hz2 := hb2.size; (try simp at hz2))
      have zw2_0 : w.heap.size < w2.heap.size := (by omega); have zw2_1 : w.heap.size + 1 < w2.heap.size := (by omega); have zw2_2 : w.heap.size + 1 + 1 < w2.heap.size := (by omega)
      go_wp2_with fail
      exact bodyPost_ret (v := .tuple #[.agg #[.int .i64 0, .int .i64 0, .int .i64 0, .int .i64 0], .int .i64 2]) (by simp only [results, Try.results25]; go_simp) rfl ⟨rfl, by (repeat (first | with_reducible exact Grow.refl _ | with_reducible refine Grow.alloc ?_ _ | with_reducible refine Grow.drew ?_ | with_reducible refine Grow.drewN ?_ _ | (with_reducible refine Grow.setCell ?_ ?hp _; (case hp => (simp; try omega))) | with_reducible refine Grow.trans ?_ (by assumption)))⟩
  · have hu : mulF x y = (M2.zero, 2) := by simp [mulF, hx]
    rw [hu]
    have hx' : fitsB x.a x.b x.c x.d = false := eq_false_of_ne_true hx
    clear hu hx
    go_enter Try.func25, Try.ntmps25
    go_wp2_with fail
    (go_at_call 44; refine (fits_any _ _ _ _ _).mono ?_; rintro e w1 ⟨rfl, hb1⟩; have hc1 := hb1.cells; have hf1 := hb1.frees; have hz1 := hb1.size; (try simp at hz1))
    have zw1_0 : w.heap.size < w1.heap.size := (by omega); have zw1_1 : w.heap.size + 1 < w1.heap.size := (by omega); have zw1_2 : w.heap.size + 1 + 1 < w1.heap.size := (by omega)
    go_wp2_with fail
    exact bodyPost_ret (v := .tuple #[.agg #[.int .i64 0, .int .i64 0, .int .i64 0, .int .i64 0], .int .i64 2]) (by simp only [results, Try.results25]; go_simp) rfl ⟨rfl, by (repeat (first | with_reducible exact Grow.refl _ | with_reducible refine Grow.alloc ?_ _ | with_reducible refine Grow.drew ?_ | with_reducible refine Grow.drewN ?_ _ | (with_reducible refine Grow.setCell ?_ ?hp _; (case hp => (simp; try omega))) | with_reducible refine Grow.trans ?_ (by assumption)))⟩

end Go.Proofs.Ytcgiancmponmgaa
