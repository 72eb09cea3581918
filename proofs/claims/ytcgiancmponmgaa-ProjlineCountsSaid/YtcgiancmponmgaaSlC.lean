/- Walks: the two Gcd. -/
import Derived.Test.YtcgiancmponmgaaSlB
import Derived.Deep.QuietTactic
import Derived.BigQuiet
namespace Go.Proofs.Ytcgiancmponmgaa
open Go.RowKit

theorem gcd_step (x y : Int) : Int.gcd y (x.tmod y) = Int.gcd x y := by
  simp only [Int.gcd, Int.natAbs_tmod]
  rw [Nat.gcd_comm x.natAbs y.natAbs, Nat.gcd_rec y.natAbs x.natAbs, Nat.gcd_comm]
theorem tmod_lt (x y : Int) (h : y ≠ 0) : (x.tmod y).natAbs < y.natAbs := by
  rw [Int.natAbs_tmod]
  exact Nat.mod_lt _ (by omega)
theorem tmod_bd (x y : Int) (h : y ≠ 0) (B : Int) (h1 : -B ≤ y) (h2 : y ≤ B) : -B ≤ x.tmod y ∧ x.tmod y ≤ B := by
  have := tmod_lt x y h
  omega

set_option maxHeartbeats 1000000 in
theorem gcd_quiet (a b : Int) (ha : -4611686018427387904 ≤ a) (ha' : a ≤ 4611686018427387904) (hb : -4611686018427387904 ≤ b) (hb' : b ≤ 4611686018427387904) (w : World) :
    Calls Try.prog 32 #[.int .i64 a, .int .i64 b] w fun e w' => e = .returned (.int .i64 (Int.gcd a b)) ∧ ∃ n, w' = w.drewN n := by
  go_enter Try.func32, Try.ntmps32
  go_wp2
  go_loopw [0, 1] (fun u v wr => ∃ x y : Int, u = .int .i64 x ∧ v = .int .i64 y ∧ -4611686018427387904 ≤ x ∧ x ≤ 4611686018427387904 ∧ -4611686018427387904 ≤ y ∧ y ≤ 4611686018427387904 ∧ Hid (Int.gcd x y = Int.gcd a b) ∧ ∃ n, wr = w.drewN n) (fun _ v _ => (intOf v).natAbs)
  case atStart => exact ⟨a, b, rfl, rfl, ha, ha', hb, hb', rfl, 0, rfl⟩
  case round =>
    obtain ⟨x, y, rfl, rfl, h1, h2, h3, h4, hg, n, rfl⟩ := hrel
    by_cases hy : y = 0
    · subst hy
      have hx : (x.natAbs : Int) = Int.gcd a b := by rw [← hg.out]; simp
      have HX := Lib.hid hx
      clear hx
      go_wp2
      all_goals
        go_ret
        exact ⟨congrArg (fun z => Ending.returned (Value.int .i64 z)) (by rw [← HX.out]; omega), _, rfl⟩
    · have hy1 : (y == 0) = false := by simpa using hy
      have hy2 : (y != 0) = true := by simpa using hy
      have hr := gcd_step x y
      have hl := tmod_lt x y hy
      obtain ⟨t1, t2⟩ := tmod_bd x y hy 4611686018427387904 h3 h4
      have HR := Lib.hid hr
      clear hr
      go_wp2
      go_quiet (fail)
      go_wp2
      go_roundw
      case rel => exact ⟨y, x.tmod y, rfl, rfl, h3, h4, t1, t2, HR.out.trans hg.out, n + nq, by rw [World.drewN_drewN]⟩
      case measure => simp only [intOf]; exact hl
theorem gcd_any (a b : Int) (ha : -4611686018427387904 ≤ a) (ha' : a ≤ 4611686018427387904) (hb : -4611686018427387904 ≤ b) (hb' : b ≤ 4611686018427387904) (w : World) :
    Calls Try.prog 32 #[.int .i64 a, .int .i64 b] w fun e w' => e = .returned (.int .i64 (Int.gcd a b)) ∧ Grow w w' :=
  (gcd_quiet a b ha ha' hb hb' w).mono fun _ _ ⟨he, n, hn⟩ => ⟨he, by rw [hn]; exact (Grow.refl _).drewN n⟩


set_option maxHeartbeats 1000000 in
theorem refGcd_quiet (a b : Int) (ha : -4611686018427387904 ≤ a) (ha' : a ≤ 4611686018427387904) (hb : -4611686018427387904 ≤ b) (hb' : b ≤ 4611686018427387904) (w : World) :
    Calls Try.prog 15 #[.int .i64 a, .int .i64 b] w fun e w' => e = .returned (.int .i64 (Int.gcd a b)) ∧ ∃ n, w' = w.drewN n := by
  go_enter Try.func15, Try.ntmps15
  go_wp2
  go_loopw [0, 1] (fun u v wr => ∃ x y : Int, u = .int .i64 x ∧ v = .int .i64 y ∧ -4611686018427387904 ≤ x ∧ x ≤ 4611686018427387904 ∧ -4611686018427387904 ≤ y ∧ y ≤ 4611686018427387904 ∧ Hid (Int.gcd x y = Int.gcd a b) ∧ ∃ n, wr = w.drewN n) (fun _ v _ => (intOf v).natAbs)
  case atStart => exact ⟨a, b, rfl, rfl, ha, ha', hb, hb', rfl, 0, rfl⟩
  case round =>
    obtain ⟨x, y, rfl, rfl, h1, h2, h3, h4, hg, n, rfl⟩ := hrel
    by_cases hy : y = 0
    · subst hy
      have hx : (x.natAbs : Int) = Int.gcd a b := by rw [← hg.out]; simp
      have HX := Lib.hid hx
      clear hx
      go_wp2
      all_goals
        go_ret
        exact ⟨congrArg (fun z => Ending.returned (Value.int .i64 z)) (by rw [← HX.out]; omega), _, rfl⟩
    · have hy1 : (y == 0) = false := by simpa using hy
      have hy2 : (y != 0) = true := by simpa using hy
      have hr := gcd_step x y
      have hl := tmod_lt x y hy
      obtain ⟨t1, t2⟩ := tmod_bd x y hy 4611686018427387904 h3 h4
      have HR := Lib.hid hr
      clear hr
      go_wp2
      go_quiet (fail)
      go_wp2
      go_roundw
      case rel => exact ⟨y, x.tmod y, rfl, rfl, h3, h4, t1, t2, HR.out.trans hg.out, n + nq, by rw [World.drewN_drewN]⟩
      case measure => simp only [intOf]; exact hl
theorem refGcd_any (a b : Int) (ha : -4611686018427387904 ≤ a) (ha' : a ≤ 4611686018427387904) (hb : -4611686018427387904 ≤ b) (hb' : b ≤ 4611686018427387904) (w : World) :
    Calls Try.prog 15 #[.int .i64 a, .int .i64 b] w fun e w' => e = .returned (.int .i64 (Int.gcd a b)) ∧ Grow w w' :=
  (refGcd_quiet a b ha ha' hb hb' w).mono fun _ _ ⟨he, n, hn⟩ => ⟨he, by rw [hn]; exact (Grow.refl _).drewN n⟩

end Go.Proofs.Ytcgiancmponmgaa
