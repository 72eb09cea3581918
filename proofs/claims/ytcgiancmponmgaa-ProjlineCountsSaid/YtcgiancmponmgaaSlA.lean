/- Walks of the small functions of sl2 and of its reference: in, fits, times, Det, Check, Mul, Inverse. -/
import Derived.Test.YtcgiancmponmgaaProg
import Derived.Test.YtcgiancmponmgaaPlA
import Derived.WalkKit
import Derived.WalkSpells
import Derived.WalkLawsBesides
import Derived.Lib.Hide
namespace Go.Proofs.Ytcgiancmponmgaa
open Go.RowKit

set_option maxHeartbeats 400000 in
theorem in_any (n : Int) (w : World) :
    Calls Try.prog 54 #[.int .i64 n] w fun e w' => e = .returned (.bool (inB n)) ∧ w = w' := by
  by_cases h : -1073741824 ≤ n
  · go_enter Try.func54, Try.ntmps54
    go_wp2
    go_ret
    exact ⟨by simp [inB, h], rfl⟩
  · have h' : n < -1073741824 := by omega
    go_enter Try.func54, Try.ntmps54
    go_wp2
    go_ret
    exact ⟨by simp [inB]; omega, rfl⟩
set_option maxHeartbeats 400000 in
theorem refIn_any (n : Int) (w : World) :
    Calls Try.prog 36 #[.int .i64 n] w fun e w' => e = .returned (.bool (inB n)) ∧ w = w' := by
  by_cases h : -1073741824 ≤ n
  · go_enter Try.func36, Try.ntmps36
    go_wp2
    go_ret
    exact ⟨by simp [inB, h], rfl⟩
  · have h' : n < -1073741824 := by omega
    go_enter Try.func36, Try.ntmps36
    go_wp2
    go_ret
    exact ⟨by simp [inB]; omega, rfl⟩

set_option maxHeartbeats 400000 in
theorem fits_any (a b c d : Int) (w : World) :
    Calls Try.prog 44 #[.agg #[.int .i64 a, .int .i64 b, .int .i64 c, .int .i64 d]] w fun e w' => e = .returned (.bool (fitsB a b c d)) ∧ Grow w w' := by
  go_enter Try.func44, Try.ntmps44
  go_wp2_with (go_at_call 54; refine (in_any _ _).mono ?_; rintro e w' ⟨rfl, rfl⟩)
  all_goals go_ret
  all_goals refine ⟨by simp [fitsB, *], ?_⟩
  all_goals exact (Grow.refl _).alloc _
set_option maxHeartbeats 400000 in
theorem refFits_any (a b c d : Int) (w : World) :
    Calls Try.prog 42 #[.agg #[.int .i64 a, .int .i64 b, .int .i64 c, .int .i64 d]] w fun e w' => e = .returned (.bool (fitsB a b c d)) ∧ Grow w w' := by
  go_enter Try.func42, Try.ntmps42
  go_wp2_with (go_at_call 36; refine (refIn_any _ _).mono ?_; rintro e w' ⟨rfl, rfl⟩)
  all_goals go_ret
  all_goals refine ⟨by simp [fitsB, *], ?_⟩
  all_goals exact (Grow.refl _).alloc _

set_option maxHeartbeats 1000000 in
theorem times_any (m n : M2) (hm : m.fits = true) (hn : n.fits = true) (w : World) :
    Calls Try.prog 45 #[.agg #[.int .i64 m.a, .int .i64 m.b, .int .i64 m.c, .int .i64 m.d], .agg #[.int .i64 n.a, .int .i64 n.b, .int .i64 n.c, .int .i64 n.d]] w fun e w' =>
      e = .returned (.agg #[.int .i64 (m.times n).a, .int .i64 (m.times n).b, .int .i64 (m.times n).c, .int .i64 (m.times n).d]) ∧ Grow w w' := by
  obtain ⟨a, b, c, d⟩ := m
  obtain ⟨x, y, z, t⟩ := n
  obtain ⟨h1, h2, h3, h4⟩ := fitsB_iff.1 hm
  obtain ⟨k1, k2, k3, k4⟩ := fitsB_iff.1 hn
  clear hm hn
  obtain ⟨p1, p1u⟩ := mul_in h1 k1
  obtain ⟨p2, p2u⟩ := mul_in h2 k3
  obtain ⟨p3, p3u⟩ := mul_in h1 k2
  obtain ⟨p4, p4u⟩ := mul_in h2 k4
  obtain ⟨p5, p5u⟩ := mul_in h3 k1
  obtain ⟨p6, p6u⟩ := mul_in h4 k3
  obtain ⟨p7, p7u⟩ := mul_in h3 k2
  obtain ⟨p8, p8u⟩ := mul_in h4 k4
  clear h1 h2 h3 h4 k1 k2 k3 k4
  simp only [M2.times]
  go_enter Try.func45, Try.ntmps45
  go_wp2
  exact bodyPost_ret (v := .agg #[.int .i64 (a * x + b * z), .int .i64 (a * y + b * t), .int .i64 (c * x + d * z), .int .i64 (c * y + d * t)]) (by simp [results, Try.results45, go_sem]; unfold wrap64; omega) rfl ⟨rfl, (((Grow.refl _).alloc _).alloc _).alloc _⟩
end Go.Proofs.Ytcgiancmponmgaa
