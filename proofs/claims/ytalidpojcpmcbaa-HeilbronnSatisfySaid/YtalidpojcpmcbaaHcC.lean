/- Walks of the reference: floor and Mod at wide bounds, gcd, cusp, Class. -/
import Derived.Test.YtalidpojcpmcbaaHcB
namespace Go.Proofs.Ytalidpojcpmcbaa
open Go Go.RowKit

theorem mod_wide (a b : Int) (hb : 0 < b) (hb' : b ≤ 1099511627776) (w : World) :
    Calls Try.prog 35 #[.int .i64 a, .int .i64 b] w fun e w' => e = .returned (.int .i64 (a % b)) ∧ w = w' := by
  have e0 : ¬ b = 0 := by omega
  have e1 : (b == 0) = false := by simpa using e0
  have t1 := Int.tmod_lt_of_pos a hb
  have t2 := Int.lt_tmod_of_pos a hb
  have HR := Lib.hid (remB_step (p := a) hb)
  by_cases hr : a.tmod b < 0
  · have hs := HR.out
    rw [if_pos hr] at hs
    have y1 : IntKind.i64.wrap (a.tmod b + b) = a.tmod b + b := IntWalk.i64_in _ (by omega)
    have HS := Lib.hid hs
    clear hs
    go_enter Try.func35, Try.ntmps35
    go_wp2_with fail
    go_ret
    exact ⟨congrArg (fun z => Ending.returned (Value.int .i64 z)) HS.out, rfl⟩
  · have hs := HR.out
    rw [if_neg hr] at hs
    have HS := Lib.hid hs
    clear hs
    go_enter Try.func35, Try.ntmps35
    go_wp2_with fail
    go_ret
    exact ⟨congrArg (fun z => Ending.returned (Value.int .i64 z)) HS.out, rfl⟩
set_option maxHeartbeats 1000000 in
theorem refFloor_wide (a b : Int) (ha : -1099511627776 ≤ a) (ha' : a ≤ 1099511627776) (hb : -1099511627776 ≤ b) (hb' : b ≤ 1099511627776) (h0 : b ≠ 0) (w : World) :
    Calls Try.prog 27 #[.int .i64 a, .int .i64 b] w fun e w' => e = .returned (.int .i64 (flF a b)) ∧ w = w' := by
  by_cases hb0 : b < 0
  · have hu : flF a b = (-a) / (-b) := by unfold flF; rw [if_pos hb0]
    rw [hu]
    have y1 : IntKind.i64.wrap (-a) = -a := IntWalk.i64_in _ (by omega)
    have y2 : IntKind.i64.wrap (-b) = -b := IntWalk.i64_in _ (by omega)
    obtain ⟨A, hA⟩ : ∃ A, -a = A := ⟨_, rfl⟩
    obtain ⟨B, hB⟩ : ∃ B, -b = B := ⟨_, rfl⟩
    have hBp : 0 < B := by omega
    have MD := Lib.hid (fun w => mod_wide A B hBp (by omega) w)
    have r0 := Int.emod_nonneg A (by omega : B ≠ 0)
    have r1 := Int.emod_lt_of_pos A hBp
    have hdv := divB_step (p := A) hBp
    have hBne : ¬ B = 0 := by omega
    have hBneb : (B == 0) = false := by simpa using hBne
    obtain ⟨r, hr⟩ : ∃ r, A % B = r := ⟨_, rfl⟩
    rw [hr] at MD r0 r1 hdv
    have hq : ((A - r).tdiv B).natAbs ≤ (A - r).natAbs := by rw [Int.natAbs_tdiv]; exact Nat.div_le_self _ _
    rw [hdv] at hq
    obtain ⟨F, hF⟩ : ∃ F, A / B = F := ⟨_, rfl⟩
    rw [hA, hB, hF]
    rw [hF] at hdv hq
    rw [hA] at y1
    rw [hB] at y2
    have y3 : IntKind.i64.wrap (A - r) = A - r := IntWalk.i64_in _ (by omega)
    have y4 : IntKind.i64.wrap F = F := IntWalk.i64_in _ (by omega)
    clear hF hr hq
    go_enter Try.func27, Try.ntmps27
    go_wp2_with (go_at_call 35; refine (MD.out _).mono ?_; rintro e w1 ⟨rfl, rfl⟩)
    go_ret
    exact ⟨rfl, rfl⟩
  · have hu : flF a b = a / b := by unfold flF; rw [if_neg hb0]
    rw [hu]
    have hbp : 0 < b := by omega
    have MD := Lib.hid (fun w => mod_wide a b hbp (by omega) w)
    have r0 := Int.emod_nonneg a h0
    have r1 := Int.emod_lt_of_pos a hbp
    have hdv := divB_step (p := a) hbp
    have hbneb : (b == 0) = false := by simpa using h0
    obtain ⟨r, hr⟩ : ∃ r, a % b = r := ⟨_, rfl⟩
    rw [hr] at MD r0 r1 hdv
    have hq : ((a - r).tdiv b).natAbs ≤ (a - r).natAbs := by rw [Int.natAbs_tdiv]; exact Nat.div_le_self _ _
    rw [hdv] at hq
    obtain ⟨F, hF⟩ : ∃ F, a / b = F := ⟨_, rfl⟩
    rw [hF]
    rw [hF] at hdv hq
    have y3 : IntKind.i64.wrap (a - r) = a - r := IntWalk.i64_in _ (by omega)
    have y4 : IntKind.i64.wrap F = F := IntWalk.i64_in _ (by omega)
    clear hF hr hq
    go_enter Try.func27, Try.ntmps27
    go_wp2_with (go_at_call 35; refine (MD.out _).mono ?_; rintro e w1 ⟨rfl, rfl⟩)
    go_ret
    exact ⟨rfl, rfl⟩

theorem fl_abs {a b : Int} (hb : b ≠ 0) : (flF a b).natAbs ≤ a.natAbs + 1 := by
  rw [fl_prog hb]
  have h : (a.tdiv b).natAbs ≤ a.natAbs := by rw [Int.natAbs_tdiv]; exact Nat.div_le_self _ _
  split <;> omega
set_option maxHeartbeats 1000000 in
theorem rgcd_quiet (a b : Int) (ha : 0 ≤ a) (ha' : a ≤ 4611686018427387904) (hb : 0 ≤ b) (hb' : b ≤ 4611686018427387904) (w : World) :
    Calls Try.prog 39 #[.int .i64 a, .int .i64 b] w fun e w' => e = .returned (.int .i64 (Int.gcd a b)) ∧ ∃ n, w' = w.drewN n := by
  go_enter Try.func39, Try.ntmps39
  go_wp2
  go_loopw [0, 1] (fun u v wr => ∃ x y : Int, u = .int .i64 x ∧ v = .int .i64 y ∧ 0 ≤ x ∧ x ≤ 4611686018427387904 ∧ 0 ≤ y ∧ y ≤ 4611686018427387904 ∧ Hid (Int.gcd x y = Int.gcd a b) ∧ ∃ n, wr = w.drewN n) (fun _ v _ => (intOf v).natAbs)
  case atStart => exact ⟨a, b, rfl, rfl, ha, ha', hb, hb', rfl, 0, rfl⟩
  case round =>
    obtain ⟨x, y, rfl, rfl, h1, h2, h3, h4, hg, n, rfl⟩ := hrel
    by_cases hy : 0 < y
    · have hy0 : ¬ y = 0 := by omega
      have hy1 : (y == 0) = false := by simpa using hy0
      have hr := gcd_step x y
      have hl := tmod_lt x y hy0
      have t1 : 0 ≤ x.tmod y := Int.tmod_nonneg _ h1
      have t2 : x.tmod y < y := Int.tmod_lt_of_pos _ hy
      obtain ⟨t, ht⟩ : ∃ t, x.tmod y = t := ⟨_, rfl⟩
      rw [ht] at hr hl t1 t2
      have HR := Lib.hid hr
      clear hr
      have y1 : IntKind.i64.wrap t = t := IntWalk.i64_in _ (by omega)
      go_wp2
      go_quiet (fail)
      go_wp2
      go_roundw
      case rel => exact ⟨y, t, rfl, rfl, h3, h4, t1, by omega, HR.out.trans hg.out, n + nq, by rw [World.drewN_drewN]⟩
      case measure => simp only [intOf]; exact hl
    · have hy0 : y = 0 := by omega
      subst hy0
      have hx : x = Int.gcd a b := by rw [← hg.out]; simp; omega
      have HX := Lib.hid hx
      clear hx
      go_wp2
      go_ret
      exact ⟨congrArg (fun z => Ending.returned (Value.int .i64 z)) HX.out, _, rfl⟩
theorem max_abs (x : Int) : (if x < -x then -x else x) = x.natAbs := by split <;> omega
set_option maxHeartbeats 1000000 in
theorem refcusp_any (p q : Int) (hp : p.natAbs ≤ 1073741824) (hq : q.natAbs ≤ 1073741824) (h0 : ¬ (p = 0 ∧ q = 0)) (w : World) :
    Calls Try.prog 33 #[.int .i64 p, .int .i64 q] w fun e w' => e = .returned (.agg #[.int .i64 (cuF p q).p, .int .i64 (cuF p q).q]) ∧ Grow w w' := by
  have hg0 : Int.gcd p q ≠ 0 := fun h => h0 (Int.gcd_eq_zero_iff.1 h)
  obtain ⟨P, hP⟩ : ∃ P, (if p < -p then -p else p) = P := ⟨_, rfl⟩
  obtain ⟨Q, hQ⟩ : ∃ Q, (if q < -q then -q else q) = Q := ⟨_, rfl⟩
  have hP2 : P = p.natAbs := by rw [← hP]; exact max_abs p
  have hQ2 : Q = q.natAbs := by rw [← hQ]; exact max_abs q
  have GC := Lib.hid (fun w => rgcd_quiet P Q (by omega) (by omega) (by omega) (by omega) w)
  have hgg' : Int.gcd P Q = Int.gcd p q := by rw [hP2, hQ2]; simp [Int.gcd]
  rw [hgg'] at GC
  obtain ⟨z, hz⟩ : ∃ z : C2, cuF p q = z := ⟨_, rfl⟩
  rw [hz]
  unfold cuF at hz
  obtain ⟨g, hg⟩ : ∃ g : Int, (Int.gcd p q : Int) = g := ⟨_, rfl⟩
  have hgg : 1 ≤ g := by omega
  rw [hg] at GC hz
  obtain ⟨x, hx⟩ : ∃ x : Int, p.tdiv g = x := ⟨_, rfl⟩
  obtain ⟨y, hy⟩ : ∃ y : Int, q.tdiv g = y := ⟨_, rfl⟩
  have bx : x.natAbs ≤ p.natAbs := by rw [← hx, Int.natAbs_tdiv]; exact Nat.div_le_self _ _
  have bY : y.natAbs ≤ q.natAbs := by rw [← hy, Int.natAbs_tdiv]; exact Nat.div_le_self _ _
  rw [hx, hy] at hz
  have k1 : ¬ g = 0 := by omega
  have k2 : (g == 0) = false := by simpa using k1
  have y1 : IntKind.i64.wrap x = x := IntWalk.i64_in _ (by omega)
  have y2 : IntKind.i64.wrap y = y := IntWalk.i64_in _ (by omega)
  have y3 : IntKind.i64.wrap (-x) = -x := IntWalk.i64_in _ (by omega)
  have y4 : IntKind.i64.wrap (-y) = -y := IntWalk.i64_in _ (by omega)
  have y5 : IntKind.i64.wrap (-p) = -p := IntWalk.i64_in _ (by omega)
  have y6 : IntKind.i64.wrap (-q) = -q := IntWalk.i64_in _ (by omega)
  clear hg0 hg hgg h0 bx bY hp hq hP2 hQ2 hgg'
  go_enter Try.func33, Try.ntmps33
  go_wp2_with (go_at_call 39; with_reducible refine (GC.out _).mono ?_; rintro e w1 ⟨rfl, n1, rfl⟩)
  go_quiet (fail)
  by_cases hy0 : y < 0
  · rw [if_pos (.inl hy0)] at hz
    subst hz
    go_wp2_with fail
    exact bodyPost_ret (v := .agg #[.int .i64 (-x), .int .i64 (-y)]) (by simp only [results, Try.results33]; go_simp) rfl ⟨rfl, by (repeat (first | with_reducible exact Grow.refl _ | with_reducible refine Grow.alloc ?_ _ | with_reducible refine Grow.drew ?_ | with_reducible refine Grow.drewN ?_ _ | (with_reducible refine Grow.setCell ?_ ?hp _; (case hp => (simp; try omega))) | with_reducible refine Grow.trans ?_ (by assumption)))⟩
  · by_cases hye : y = 0
    · subst hye
      by_cases hx0 : x < 0
      · rw [if_pos (.inr ⟨rfl, hx0⟩)] at hz
        subst hz
        go_wp2_with fail
        exact bodyPost_ret (v := .agg #[.int .i64 (-x), .int .i64 0]) (by simp only [results, Try.results33]; go_simp) rfl ⟨rfl, by (repeat (first | with_reducible exact Grow.refl _ | with_reducible refine Grow.alloc ?_ _ | with_reducible refine Grow.drew ?_ | with_reducible refine Grow.drewN ?_ _ | (with_reducible refine Grow.setCell ?_ ?hp _; (case hp => (simp; try omega))) | with_reducible refine Grow.trans ?_ (by assumption)))⟩
      · rw [if_neg (by omega)] at hz
        subst hz
        go_wp2_with fail
        exact bodyPost_ret (v := .agg #[.int .i64 x, .int .i64 0]) (by simp only [results, Try.results33]; go_simp) rfl ⟨rfl, by (repeat (first | with_reducible exact Grow.refl _ | with_reducible refine Grow.alloc ?_ _ | with_reducible refine Grow.drew ?_ | with_reducible refine Grow.drewN ?_ _ | (with_reducible refine Grow.setCell ?_ ?hp _; (case hp => (simp; try omega))) | with_reducible refine Grow.trans ?_ (by assumption)))⟩
    · have hye2 : (y == 0) = false := by simpa using hye
      rw [if_neg (by omega)] at hz
      subst hz
      go_wp2_with fail
      exact bodyPost_ret (v := .agg #[.int .i64 x, .int .i64 y]) (by simp only [results, Try.results33]; go_simp) rfl ⟨rfl, by (repeat (first | with_reducible exact Grow.refl _ | with_reducible refine Grow.alloc ?_ _ | with_reducible refine Grow.drew ?_ | with_reducible refine Grow.drewN ?_ _ | (with_reducible refine Grow.setCell ?_ ?hp _; (case hp => (simp; try omega))) | with_reducible refine Grow.trans ?_ (by assumption)))⟩
end Go.Proofs.Ytalidpojcpmcbaa
