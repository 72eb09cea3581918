/- Walks of the small functions of sl2 and of its reference: in, fits, times, Det, Check, Mul, Inverse. -/
import Derived.Test.YtfjlecphjahahaaProg
import Derived.Test.YtfjlecphjahahaaPlA
import Derived.WalkKit
import Derived.WalkSpells
import Derived.WalkLawsBesides
import Derived.Lib.Hide
namespace Go.Proofs.Ytfjlecphjahahaa
open Go.RowKit

set_option maxHeartbeats 400000 in
theorem in_any (n : Int) (w : World) :
    Calls Try.prog 38 #[.int .i64 n] w fun e w' => e = .returned (.bool (inB n)) ∧ w = w' := by
  by_cases h : -1073741824 ≤ n
  · go_enter Try.func38, Try.ntmps38
    go_wp2
    go_ret
    exact ⟨by simp [inB, h], rfl⟩
  · have h' : n < -1073741824 := by omega
    go_enter Try.func38, Try.ntmps38
    go_wp2
    go_ret
    exact ⟨by simp [inB]; omega, rfl⟩
set_option maxHeartbeats 400000 in
theorem refIn_any (n : Int) (w : World) :
    Calls Try.prog 42 #[.int .i64 n] w fun e w' => e = .returned (.bool (inB n)) ∧ w = w' := by
  by_cases h : -1073741824 ≤ n
  · go_enter Try.func42, Try.ntmps42
    go_wp2
    go_ret
    exact ⟨by simp [inB, h], rfl⟩
  · have h' : n < -1073741824 := by omega
    go_enter Try.func42, Try.ntmps42
    go_wp2
    go_ret
    exact ⟨by simp [inB]; omega, rfl⟩

set_option maxHeartbeats 400000 in
theorem fits_any (a b c d : Int) (w : World) :
    Calls Try.prog 53 #[.agg #[.int .i64 a, .int .i64 b, .int .i64 c, .int .i64 d]] w fun e w' => e = .returned (.bool (fitsB a b c d)) ∧ Grow w w' := by
  go_enter Try.func53, Try.ntmps53
  go_wp2_with (go_at_call 38; refine (in_any _ _).mono ?_; rintro e w' ⟨rfl, rfl⟩)
  all_goals go_ret
  all_goals refine ⟨by simp [fitsB, *], ?_⟩
  all_goals exact (Grow.refl _).alloc _
end Go.Proofs.Ytfjlecphjahahaa
