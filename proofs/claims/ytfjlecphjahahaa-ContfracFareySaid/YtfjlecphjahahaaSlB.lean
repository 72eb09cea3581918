/- Walks of the small functions of sl2 and of its reference: Det, Check, Mul, Inverse. -/
import Derived.Test.YtfjlecphjahahaaProg
import Derived.Test.YtfjlecphjahahaaSlA
import Derived.WalkKit
import Derived.WalkSpells
import Derived.WalkLawsBesides
import Derived.Lib.Hide
namespace Go.Proofs.Ytfjlecphjahahaa
open Go.RowKit


theorem det_bd {m : M2} (hm : m.fits = true) : -2305843009213693952 ≤ m.a * m.d - m.b * m.c ∧ m.a * m.d - m.b * m.c ≤ 2305843009213693952 := by
  obtain ⟨h1, h2, h3, h4⟩ := fitsB_iff.1 hm
  have := mul_in h1 h4
  have := mul_in h2 h3
  omega

set_option maxHeartbeats 400000 in
theorem det_any (m : M2) (w : World) :
    Calls Try.prog 48 #[.agg #[.int .i64 m.a, .int .i64 m.b, .int .i64 m.c, .int .i64 m.d]] w fun e w' =>
      e = .returned (.tuple #[.int .i64 (detF m).1, .int .i64 (detF m).2]) ∧ Grow w w' := by
  by_cases hf : m.fits = true
  · have hd : detF m = (m.a * m.d - m.b * m.c, 0) := by simp [detF, hf, M2.det]
    rw [hd]
    have hf' : fitsB m.a m.b m.c m.d = true := hf
    obtain ⟨p1, p1u⟩ := mul_in (fitsB_iff.1 hf).1 (fitsB_iff.1 hf).2.2.2
    obtain ⟨p2, p2u⟩ := mul_in (fitsB_iff.1 hf).2.1 (fitsB_iff.1 hf).2.2.1
    clear hd hf
    go_enter Try.func48, Try.ntmps48
    go_wp2_with (go_at_call 53; refine (fits_any _ _ _ _ _).mono ?_; rintro e w1 ⟨rfl, hb⟩; have hc := hb.cells; have hf := hb.frees)
    go_ret2
    exact ⟨rfl, by (repeat (first | with_reducible exact Grow.refl _ | with_reducible refine Grow.alloc ?_ _ | with_reducible refine Grow.drew ?_ | with_reducible refine Grow.drewN ?_ _ | (with_reducible refine Grow.setCell ?_ ?hp _; (case hp => (simp; try omega))) | with_reducible refine Grow.trans ?_ (by assumption)))⟩
  · have hd : detF m = (0, 2) := by simp [detF, hf]
    rw [hd]
    have hf' : fitsB m.a m.b m.c m.d = false := eq_false_of_ne_true hf
    clear hd hf
    go_enter Try.func48, Try.ntmps48
    go_wp2_with (go_at_call 53; refine (fits_any _ _ _ _ _).mono ?_; rintro e w1 ⟨rfl, hb⟩; have hc := hb.cells; have hf := hb.frees)
    go_ret2
    exact ⟨rfl, by (repeat (first | with_reducible exact Grow.refl _ | with_reducible refine Grow.alloc ?_ _ | with_reducible refine Grow.drew ?_ | with_reducible refine Grow.drewN ?_ _ | (with_reducible refine Grow.setCell ?_ ?hp _; (case hp => (simp; try omega))) | with_reducible refine Grow.trans ?_ (by assumption)))⟩

set_option maxHeartbeats 400000 in
theorem check_any (m : M2) (w : World) :
    Calls Try.prog 36 #[.agg #[.int .i64 m.a, .int .i64 m.b, .int .i64 m.c, .int .i64 m.d]] w fun e w' =>
      e = .returned (.int .i64 (checkF m)) ∧ Grow w w' := by
  by_cases hf : m.fits = true
  · have hd : detF m = (m.det, 0) := by simp [detF, hf]
    by_cases h1 : m.det = 1
    · have hc : checkF m = 0 := by simp [checkF, hf, h1]
      rw [hc]
      rw [h1] at hd
      clear hf h1 hc
      go_enter Try.func36, Try.ntmps36
      go_wp2_with (go_at_call 48; refine (det_any _ _).mono ?_; rintro e w1 ⟨rfl, hb⟩; have hc := hb.cells; have hf := hb.frees)
      go_ret
      exact ⟨rfl, by (repeat (first | with_reducible exact Grow.refl _ | with_reducible refine Grow.alloc ?_ _ | with_reducible refine Grow.drew ?_ | with_reducible refine Grow.drewN ?_ _ | (with_reducible refine Grow.setCell ?_ ?hp _; (case hp => (simp; try omega))) | with_reducible refine Grow.trans ?_ (by assumption)))⟩
    · have hc : checkF m = 12 := by simp [checkF, hf, h1]
      rw [hc]
      have h1 : (m.det == 1) = false := by simpa using h1
      have h2 : (m.det != 1) = true := by simpa using h1
      clear hf hc
      go_enter Try.func36, Try.ntmps36
      go_wp2_with (go_at_call 48; refine (det_any _ _).mono ?_; rintro e w1 ⟨rfl, hb⟩; have hc := hb.cells; have hf := hb.frees)
      go_ret
      exact ⟨rfl, by (repeat (first | with_reducible exact Grow.refl _ | with_reducible refine Grow.alloc ?_ _ | with_reducible refine Grow.drew ?_ | with_reducible refine Grow.drewN ?_ _ | (with_reducible refine Grow.setCell ?_ ?hp _; (case hp => (simp; try omega))) | with_reducible refine Grow.trans ?_ (by assumption)))⟩
  · have hd : detF m = (0, 2) := by simp [detF, hf]
    have hc : checkF m = 2 := by simp [checkF, hf]
    rw [hc]
    clear hf hc
    go_enter Try.func36, Try.ntmps36
    go_wp2_with (go_at_call 48; refine (det_any _ _).mono ?_; rintro e w1 ⟨rfl, hb⟩; have hc := hb.cells; have hf := hb.frees)
    go_ret
    exact ⟨rfl, by (repeat (first | with_reducible exact Grow.refl _ | with_reducible refine Grow.alloc ?_ _ | with_reducible refine Grow.drew ?_ | with_reducible refine Grow.drewN ?_ _ | (with_reducible refine Grow.setCell ?_ ?hp _; (case hp => (simp; try omega))) | with_reducible refine Grow.trans ?_ (by assumption)))⟩

end Go.Proofs.Ytfjlecphjahahaa
