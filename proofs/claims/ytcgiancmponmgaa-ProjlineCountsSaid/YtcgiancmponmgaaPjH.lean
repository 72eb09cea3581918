/- Walks: Inverse of arith at a unit. -/
import Derived.Test.YtcgiancmponmgaaPlK
import Derived.Test.YtcgiancmponmgaaSpA
import Derived.Deep.LoopGhost
import Derived.BigQuiet
import Derived.BigRegion
namespace Go.Proofs.Ytcgiancmponmgaa
open Go Go.RowKit

theorem residue_any (a m : Int) (hm : 0 < m) (hm' : m ≤ 4611686018427387904) (w : World) :
    Calls Try.prog 57 #[.int .i64 a, .int .i64 m] w fun e w' => e = .returned (.int .i64 (a % m)) ∧ w = w' := by
  have e0 : ¬ m = 0 := by omega
  have e1 : (m == 0) = false := by simpa using e0
  have t1 := Int.tmod_lt_of_pos a hm
  have t2 := Int.lt_tmod_of_pos a hm
  have HR := Lib.hid (rem_step (p := a) hm)
  by_cases hr : a.tmod m < 0
  · have hs := HR.out
    rw [if_pos hr] at hs
    have y1 : IntKind.i64.wrap (a.tmod m + m) = a.tmod m + m := IntWalk.i64_in _ (by omega)
    have HS := Lib.hid hs
    clear hs
    go_enter Try.func57, Try.ntmps57
    go_wp2_with fail
    go_ret
    exact ⟨congrArg (fun z => Ending.returned (Value.int .i64 z)) HS.out, rfl⟩
  · have hs := HR.out
    rw [if_neg hr] at hs
    have HS := Lib.hid hs
    clear hs
    go_enter Try.func57, Try.ntmps57
    go_wp2_with fail
    go_ret
    exact ⟨congrArg (fun z => Ending.returned (Value.int .i64 z)) HS.out, rfl⟩
theorem inRange_any (n : Int) (h1 : 1 ≤ n) (h2 : n ≤ 2147483647) (w : World) :
    Calls Try.prog 55 #[.int .i64 n] w fun e w' => e = .returned (.bool true) ∧ w = w' := by
  go_enter Try.func55, Try.ntmps55
  go_wp2
  go_ret
  exact ⟨rfl, rfl⟩

set_option maxHeartbeats 1000000 in
theorem xgcd_unit (a m : Int) (ha : 0 < a) (ham : a < m) (hm : m ≤ 1073741824) (hg : Hid (Int.gcd a m = 1)) (w : World) :
    Calls Try.prog 56 #[.int .i64 a, .int .i64 m] w fun e w' => (∃ u v : Int, e = .returned (.tuple #[.int .i64 1, .int .i64 u, .int .i64 v, .int .i64 0]) ∧ 0 ≤ u ∧ u < m ∧ m ∣ u * a - 1) ∧ ∃ n, w' = w.drewN n := by
  have k1 : ¬ a < -2147483647 := by omega
  have k2 : ¬ 2147483647 < a := by omega
  have k3 : ¬ m < -2147483647 := by omega
  have k4 : ¬ 2147483647 < m := by omega
  have k5 : (m == 0) = false := by simp; omega
  go_enter Try.func56, Try.ntmps56
  go_wp2_with fail
  go_loopg [4, 5, 8, 9] (m.toNat + 1) (fun k t4 t5 t8 t9 wr => ∃ g u next rest : Int, t4 = .int .i64 g ∧ t5 = .int .i64 u ∧ t8 = .int .i64 next ∧ t9 = .int .i64 rest ∧ rest < k ∧ Hid (XSt a m g rest u next) ∧ ∃ n, wr = w.drewN n)
  case atStart => exact ⟨a, 1, 0, m, rfl, rfl, rfl, rfl, by omega, xst_start ha ham hg.out, 0, rfl⟩
  case round =>
    obtain ⟨g, u, next, rest, rfl, rfl, rfl, rfl, hk, hst, n, rfl⟩ := hrel
    obtain ⟨b1, b2, b3, b4, b5, b6, b7, b8⟩ := xst_bd hst.out
    by_cases hr : rest = 0
    · subst hr
      obtain ⟨hg1, hdv⟩ := xst_end hst.out
      subst hg1
      have HD := Lib.hid hdv
      clear hdv hst hk
      have c1 : 0 ≤ u % m := Int.emod_nonneg _ (by omega)
      have c2 : u % m < m := Int.emod_lt_of_pos _ (by omega)
      have hdv2 : m ∣ u % m * a - 1 := by
        have e : u % m * a - 1 = -(1 - u * a) - m * (u / m * a) := by
          have h := Int.emod_add_mul_ediv u m
          have h2 : u % m = u - m * (u / m) := by omega
          rw [h2, Int.sub_mul, Int.mul_assoc]; omega
        rw [e]
        exact Int.dvd_sub (Int.dvd_neg.2 HD.out) (Int.dvd_mul_right _ _)
      obtain ⟨z1, z2⟩ := mul_bd (a := u % m) (x := a) 1073741824 1073741824 (by omega) (by omega) (by omega) (by omega)
      have RES := Lib.hid (fun w => residue_any u m (by omega) (by omega) w)
      have HD2 := Lib.hid hdv2
      clear hdv2 HD
      generalize hu : u % m = r at *
      have HU := Lib.hid hu
      clear hu
      have y1 : IntKind.i64.wrap (r * a) = r * a := IntWalk.i64_in _ (by omega)
      have y2 : IntKind.i64.wrap (1 - r * a) = 1 - r * a := IntWalk.i64_in _ (by omega)
      have y3 : IntKind.i64.wrap (-m) = -m := IntWalk.i64_in _ (by omega)
      have hmx : (if m < -m then -m else m) = m := by rw [if_neg (by omega)]
      have hmne : ¬ m = 0 := by omega
      have hd1 : m.tdiv 1 = m := Int.tdiv_one m
      have y4 : IntKind.i64.wrap m = m := IntWalk.i64_in _ (by omega)
      have ty := tdiv_bd (1 - r * a) m 4611686018427387904 (by omega) (by omega)
      obtain ⟨ty1, ty2⟩ := ty
      have y5 : IntKind.i64.wrap ((1 - r * a).tdiv m) = (1 - r * a).tdiv m := IntWalk.i64_in _ (by omega)
      go_wp2_with (go_at_call 57; refine (RES.out _).mono ?_; rintro e w1 ⟨rfl, rfl⟩)
      go_quiet (fail)
      go_wp2
      refine bodyPost_ret (v := .tuple #[.int .i64 1, .int .i64 r, .int .i64 ((1 - r * a).tdiv m), .int .i64 0]) (by simp only [results, Try.results56]; go_simp) rfl ⟨⟨_, _, rfl, c1, c2, HD2.out⟩, _, (by simp only [World.drewN_drewN]; rfl)⟩
    · have e1 : (rest == 0) = false := by simpa using hr
      have e2 : (rest != 0) = true := by simpa using hr
      obtain ⟨hst2, ⟨q1, q2⟩, ⟨q3, q4⟩, ⟨q5, q6⟩, q7, q8⟩ := xst_step hst.out hr
      have HS2 := Lib.hid hst2
      clear hst2 hst
      obtain ⟨g', hgk⟩ : ∃ g', gk = g' + 1 := ⟨gk - 1, by omega⟩
      have y0 : IntKind.i64.wrap (g.tdiv rest) = g.tdiv rest := IntWalk.i64_in _ (by omega)
      have y1 : IntKind.i64.wrap (g.tdiv rest * rest) = g.tdiv rest * rest := IntWalk.i64_in _ (by omega)
      have y2 : IntKind.i64.wrap (g - g.tdiv rest * rest) = g - g.tdiv rest * rest := IntWalk.i64_in _ (by omega)
      have y3 : IntKind.i64.wrap (g.tdiv rest * next) = g.tdiv rest * next := IntWalk.i64_in _ (by omega)
      have y4 : IntKind.i64.wrap (u - g.tdiv rest * next) = u - g.tdiv rest * next := IntWalk.i64_in _ (by omega)
      go_wp2_with fail
      go_roundg g'
      case measure => omega
      case rel => exact ⟨rest, next, _, _, rfl, rfl, rfl, rfl, by omega, HS2.out, n, rfl⟩

theorem dvd_mod {u a m : Int} (h : m ∣ u * (a % m) - 1) : m ∣ u * a - 1 := by
  have e : u * a - 1 = (u * (a % m) - 1) + m * (u * (a / m)) := by
    have h1 := Int.emod_add_mul_ediv a m
    have h2 : u * a = u * (a % m) + u * (m * (a / m)) := by rw [← Int.mul_add, h1]
    have h3 : u * (m * (a / m)) = m * (u * (a / m)) := by rw [← Int.mul_assoc, ← Int.mul_assoc, Int.mul_comm u m]
    omega
  rw [e]
  exact Int.dvd_add h (Int.dvd_mul_right _ _)

set_option maxHeartbeats 1000000 in
theorem inverse_unit (p m : Int) (hm2 : 2 ≤ m) (hm : m ≤ 1073741824) (hg : Int.gcd p m = 1) (w : World) :
    Calls Try.prog 47 #[.int .i64 p, .int .i64 m] w fun e w' => (∃ u : Int, e = .returned (.tuple #[.int .i64 u, .int .i64 0]) ∧ 0 ≤ u ∧ u < m ∧ m ∣ u * p - 1) ∧ ∃ n, w' = w.drewN n := by
  have hg2 : Int.gcd (p % m) m = 1 := by
    have h := Int.gcd_add_mul_left_left m (p % m) (p / m)
    rw [Int.emod_add_mul_ediv, hg] at h
    exact h.symm
  have h0 : 0 < p % m := by
    have h1 : 0 ≤ p % m := Int.emod_nonneg _ (by omega)
    by_cases h2 : p % m = 0
    · rw [h2, Int.gcd_zero_left] at hg2; omega
    · omega
  have h1 : p % m < m := Int.emod_lt_of_pos _ (by omega)
  have RES := Lib.hid (fun w => residue_any p m (by omega) (by omega) w)
  have XG := Lib.hid (fun w => xgcd_unit (p % m) m h0 h1 hm (Lib.hid hg2) w)
  clear hg hg2 h0 h1
  obtain ⟨r, hr⟩ : ∃ r, p % m = r := ⟨_, rfl⟩
  rw [hr] at RES XG
  have HR := Lib.hid hr
  clear hr
  go_enter Try.func47, Try.ntmps47
  go_wp2_with (first | (go_at_call 57; refine (RES.out _).mono ?_; rintro e w1 ⟨rfl, rfl⟩) | (go_at_call 55; refine (inRange_any _ (by omega) (by omega) _).mono ?_; rintro e w1 ⟨rfl, rfl⟩) | (go_at_call 56; refine (XG.out _).mono ?_; rintro e w1 ⟨⟨u, v, rfl, hu1, hu2, hu3⟩, n, rfl⟩; have HU := Lib.hid hu3; clear hu3))
  refine bodyPost_ret (v := .tuple #[.int .i64 u, .int .i64 0]) (by simp only [results, Try.results47]; go_simp) rfl ⟨⟨_, rfl, hu1, hu2, ?_⟩, _, rfl⟩
  have h := HU.out
  rw [← HR.out] at h
  exact dvd_mod h
theorem xgcd_01 (w : World) : Calls Try.prog 56 #[.int .i64 0, .int .i64 1] w fun e w' => e = .returned (.tuple #[.int .i64 1, .int .i64 0, .int .i64 1, .int .i64 0]) ∧ ∃ n, w' = w.drewN n := by
  have RES := Lib.hid (fun w => residue_any 0 1 (by omega) (by omega) w)
  go_enter Try.func56, Try.ntmps56
  go_wp2_with fail
  go_loopg [4, 5, 8, 9] 1 (fun k t4 t5 t8 t9 wr => ((k = 1 ∧ t4 = .int .i64 0 ∧ t5 = .int .i64 1 ∧ t8 = .int .i64 0 ∧ t9 = .int .i64 1) ∨ (k = 0 ∧ t4 = .int .i64 1 ∧ t5 = .int .i64 0 ∧ t8 = .int .i64 1 ∧ t9 = .int .i64 0)) ∧ wr = w)
  case atStart => exact ⟨.inl ⟨rfl, rfl, rfl, rfl, rfl⟩, rfl⟩
  case round =>
    obtain ⟨⟨hk, rfl, rfl, rfl, rfl⟩ | ⟨hk, rfl, rfl, rfl, rfl⟩, rfl⟩ := hrel
    · go_wp2_with fail
      go_roundg 0
      case measure => omega
      case rel => exact ⟨.inr ⟨rfl, rfl, rfl, rfl, rfl⟩, by first | trivial | rfl⟩
    · go_wp2_with (go_at_call 57; refine (RES.out _).mono ?_; rintro e w1 ⟨rfl, rfl⟩)
      go_quiet (fail)
      go_wp2
      refine bodyPost_ret (v := .tuple #[.int .i64 1, .int .i64 0, .int .i64 1, .int .i64 0]) (by simp only [results, Try.results56]; go_simp) rfl ⟨rfl, _, rfl⟩
theorem inverse_one (w : World) : Calls Try.prog 47 #[.int .i64 1, .int .i64 1] w fun e w' => e = .returned (.tuple #[.int .i64 0, .int .i64 0]) ∧ ∃ n, w' = w.drewN n := by
  have RES := Lib.hid (fun w => residue_any 1 1 (by omega) (by omega) w)
  go_enter Try.func47, Try.ntmps47
  go_wp2_with (first | (go_at_call 57; refine (RES.out _).mono ?_; rintro e w1 ⟨rfl, rfl⟩) | (go_at_call 55; refine (inRange_any _ (by omega) (by omega) _).mono ?_; rintro e w1 ⟨rfl, rfl⟩) | (go_at_call 56; refine (xgcd_01 _).mono ?_; rintro e w1 ⟨rfl, n, rfl⟩))
  refine bodyPost_ret (v := .tuple #[.int .i64 0, .int .i64 0]) (by simp only [results, Try.results47]; go_simp) rfl ⟨rfl, _, rfl⟩
end Go.Proofs.Ytcgiancmponmgaa
