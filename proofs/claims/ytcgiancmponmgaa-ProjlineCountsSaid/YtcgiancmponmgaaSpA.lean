/- Walks of the small functions of projline and of its reference. -/
import Derived.Test.YtcgiancmponmgaaPjB
import Derived.Test.YtcgiancmponmgaaSlC
import Derived.Test.YtcgiancmponmgaaPlQ
import Derived.Test.YtcgiancmponmgaaPlW
import Derived.Deep.LoopGhost
import Derived.Deep.QuietTactic
import Derived.Deep.RegionHeld3
import Derived.BigQuiet
import Derived.BigRegion
namespace Go.Proofs.Ytcgiancmponmgaa
open Go Go.RowKit

def lvE (n : Int) : Int := if n < 1 ∨ 120 < n then 2 else 0
theorem level_any (n : Int) (w : World) : Calls Try.prog 30 #[.int .i64 n] w fun e w' => e = .returned (.int .i64 (lvE n)) ∧ w = w' := by
  by_cases h1 : n < 1
  · have e : lvE n = 2 := if_pos (.inl h1)
    rw [e]
    go_enter Try.func30, Try.ntmps30
    go_wp2_with fail
    go_ret
    exact ⟨rfl, rfl⟩
  · by_cases h2 : 120 < n
    · have e : lvE n = 2 := if_pos (.inr h2)
      rw [e]
      go_enter Try.func30, Try.ntmps30
      go_wp2_with fail
      go_ret
      exact ⟨rfl, rfl⟩
    · have e : lvE n = 0 := if_neg (by omega)
      rw [e]
      go_enter Try.func30, Try.ntmps30
      go_wp2_with fail
      go_ret
      exact ⟨rfl, rfl⟩
theorem err_any (n : Int) (w : World) : Calls Try.prog 35 #[.int .i64 n] w fun e w' => e = .returned (.int .i64 (lvE n)) ∧ w = w' := by
  by_cases h1 : n < 1
  · have e : lvE n = 2 := if_pos (.inl h1)
    rw [e]
    go_enter Try.func35, Try.ntmps35
    go_wp2_with fail
    go_ret
    exact ⟨rfl, rfl⟩
  · by_cases h2 : 120 < n
    · have e : lvE n = 2 := if_pos (.inr h2)
      rw [e]
      go_enter Try.func35, Try.ntmps35
      go_wp2_with fail
      go_ret
      exact ⟨rfl, rfl⟩
    · have e : lvE n = 0 := if_neg (by omega)
      rw [e]
      go_enter Try.func35, Try.ntmps35
      go_wp2_with fail
      go_ret
      exact ⟨rfl, rfl⟩
theorem pin_any (n : Int) (w : World) : Calls Try.prog 31 #[.int .i64 n] w fun e w' => e = .returned (.bool (inB n)) ∧ w = w' := by
  by_cases h1 : -1073741824 ≤ n
  · by_cases h2 : n ≤ 1073741824
    · have e : inB n = true := by simp [inB, h1, h2]
      rw [e]
      go_enter Try.func31, Try.ntmps31
      go_wp2_with fail
      go_ret
      exact ⟨rfl, rfl⟩
    · have e : inB n = false := by simp [inB, h2]
      rw [e]
      go_enter Try.func31, Try.ntmps31
      go_wp2_with fail
      go_ret
      exact ⟨rfl, rfl⟩
  · have e : inB n = false := by simp [inB, h1]
    rw [e]
    go_enter Try.func31, Try.ntmps31
    go_wp2_with fail
    go_ret
    exact ⟨rfl, rfl⟩
theorem rem_pos {p q : Int} (hq : 0 < q) : (if p.tmod q < 0 then p.tmod q + q else p.tmod q) = p % q := by
  have h1 := Int.tmod_lt_of_pos p hq
  have h2 := Int.lt_tmod_of_pos p hq
  have h3 : p.tmod q = p - q * p.tdiv q := by have := Int.tmod_add_mul_tdiv p q; omega
  have key : ∀ r k : Int, p = r + q * k → 0 ≤ r → r < q → r = p % q := by
    intro r k h h1 h2
    rw [h, Int.add_mul_emod_self_left, Int.emod_eq_of_lt h1 h2]
  split
  · refine key _ (p.tdiv q - 1) ?_ (by omega) (by omega)
    rw [Int.mul_sub]; omega
  · exact key _ (p.tdiv q) (by omega) (by omega) (by omega)
theorem res_any (a m : Int) (hm : 0 < m) (hm' : m ≤ 4611686018427387904) (w : World) : Calls Try.prog 34 #[.int .i64 a, .int .i64 m] w fun e w' => e = .returned (.int .i64 (a % m)) ∧ w = w' := by
  have e0 : ¬ m = 0 := by omega
  have e1 : (m == 0) = false := by simpa using e0
  have t1 := Int.tmod_lt_of_pos a hm
  have t2 := Int.lt_tmod_of_pos a hm
  have HR := Lib.hid (rem_pos (p := a) hm)
  obtain ⟨r, hr⟩ : ∃ r, a.tmod m = r := ⟨_, rfl⟩
  rw [hr] at HR t1 t2
  have y1 : IntKind.i64.wrap r = r := IntWalk.i64_in _ (by omega)
  by_cases hneg : r < 0
  · have y2 : IntKind.i64.wrap (r + m) = r + m := IntWalk.i64_in _ (by omega)
    have hh := HR.out
    rw [if_pos hneg] at hh
    rw [← hh]
    clear hh
    go_enter Try.func34, Try.ntmps34
    go_wp2_with fail
    go_ret
    exact ⟨rfl, rfl⟩
  · have hh := HR.out
    rw [if_neg hneg] at hh
    rw [← hh]
    clear hh
    go_enter Try.func34, Try.ntmps34
    go_wp2_with fail
    go_ret
    exact ⟨rfl, rfl⟩
def cmpI (a b : Int) : Int := if a < b then -1 else if b < a then 1 else 0
theorem nan_any (a : Int) (w : World) : Calls Try.prog 63 #[.int .i64 a] w fun e w' => e = .returned (.bool false) ∧ w = w' := by
  go_enter Try.func63, Try.ntmps63
  go_wp2_with fail
  go_ret
  exact ⟨by simp, rfl⟩
theorem cmpc_any (a b : Int) (w : World) : Calls Try.prog 60 #[.int .i64 a, .int .i64 b] w fun e w' => e = .returned (.int .i64 (cmpI a b)) ∧ w = w' := by
  by_cases h1 : a < b
  · have e : cmpI a b = -1 := if_pos h1
    rw [e]
    go_enter Try.func60, Try.ntmps60
    go_wp2_with (go_at_call 63; refine (nan_any _ _).mono ?_; rintro e w1 ⟨rfl, rfl⟩)
    go_ret
    exact ⟨rfl, rfl⟩
  · by_cases h2 : b < a
    · have e : cmpI a b = 1 := by unfold cmpI; rw [if_neg h1, if_pos h2]
      rw [e]
      go_enter Try.func60, Try.ntmps60
      go_wp2_with (go_at_call 63; refine (nan_any _ _).mono ?_; rintro e w1 ⟨rfl, rfl⟩)
      go_ret
      exact ⟨rfl, rfl⟩
    · have e : cmpI a b = 0 := by unfold cmpI; rw [if_neg h1, if_neg h2]
      rw [e]
      go_enter Try.func60, Try.ntmps60
      go_wp2_with (go_at_call 63; refine (nan_any _ _).mono ?_; rintro e w1 ⟨rfl, rfl⟩)
      go_ret
      exact ⟨rfl, rfl⟩
theorem pmod_any (a b : Int) (hb : 0 < b) (hb' : b ≤ 4611686018427387904) (w : World) :
    Calls Try.prog 27 #[.int .i64 a, .int .i64 b] w fun e w' => e = .returned (.int .i64 (a % b)) ∧ w = w' := by
  have e0 : ¬ b = 0 := by omega
  have e1 : (b == 0) = false := by simpa using e0
  have t1 := Int.tmod_lt_of_pos a hb
  have t2 := Int.lt_tmod_of_pos a hb
  have HR := Lib.hid (rem_pos (p := a) hb)
  obtain ⟨r, hr⟩ : ∃ r, a.tmod b = r := ⟨_, rfl⟩
  rw [hr] at HR t1 t2
  have y1 : IntKind.i64.wrap r = r := IntWalk.i64_in _ (by omega)
  by_cases hneg : r < 0
  · have y2 : IntKind.i64.wrap (r + b) = r + b := IntWalk.i64_in _ (by omega)
    have hh := HR.out
    rw [if_pos hneg] at hh
    rw [← hh]
    clear hh
    go_enter Try.func27, Try.ntmps27
    go_wp2_with fail
    go_ret
    exact ⟨rfl, rfl⟩
  · have hh := HR.out
    rw [if_neg hneg] at hh
    rw [← hh]
    clear hh
    go_enter Try.func27, Try.ntmps27
    go_wp2_with fail
    go_ret
    exact ⟨rfl, rfl⟩
def orI (a b : Int) : Int := if a = 0 then b else a
theorem or_any (a b : Int) (B o c : Nat) (w : World) (h0 : w.cell? ⟨B, o, none⟩ = some (.int .i64 a)) (h1 : w.cell? ⟨B, o + 1, none⟩ = some (.int .i64 b)) :
    Calls Try.prog 59 #[.slice (some ⟨B, o, none⟩) 2 c] w fun e w' => e = .returned (.int .i64 (orI a b)) ∧ w = w' := by
  obtain ⟨R, hR⟩ : ∃ R, orI a b = R := ⟨_, rfl⟩
  rw [hR]
  have HR := Lib.hid hR
  clear hR
  go_enter Try.func59, Try.ntmps59
  go_wp2_with fail
  go_loopw [8] (fun i wr => ∃ k : Nat, k ≤ 2 ∧ i = .int .i64 k ∧ Hid (0 < k → a = 0) ∧ Hid (1 < k → b = 0) ∧ wr = w) (fun i _ => 2 - (intOf i).toNat)
  case atStart => exact ⟨0, by omega, rfl, Lib.hid (fun h => by omega), Lib.hid (fun h => by omega), rfl⟩
  case round =>
    obtain ⟨k, hk, rfl, ha, hb, rfl⟩ := hrel
    rcases (by omega : k = 0 ∨ k = 1 ∨ k = 2) with rfl | rfl | rfl
    · by_cases h : a = 0
      · have e1 : (a == 0) = true := by simpa using h
        have e2 : (a != 0) = false := by simpa using h
        have HA := Lib.hid h
        clear h
        go_wp2_with fail
        go_roundw
        case measure => simp [intOf]
        case rel => exact ⟨1, by omega, rfl, Lib.hid (fun _ => HA.out), Lib.hid (fun h => by omega), by first | trivial | rfl⟩
      · have e1 : (a == 0) = false := by simpa using h
        have e2 : (a != 0) = true := by simpa using h
        have hr := HR.out
        unfold orI at hr
        rw [if_neg h] at hr
        subst hr
        clear h
        go_wp2_with fail
        go_ret
        exact ⟨rfl, rfl⟩
    · have ha0 := ha.out (by omega)
      have hr := HR.out
      unfold orI at hr
      rw [if_pos ha0] at hr
      subst hr
      by_cases h : b = 0
      · have e1 : (b == 0) = true := by simpa using h
        have e2 : (b != 0) = false := by simpa using h
        have HB := Lib.hid h
        clear h ha0
        go_wp2_with fail
        go_roundw
        case measure => simp [intOf]
        case rel => exact ⟨2, by omega, rfl, Lib.hid (fun _ => ha.out (by omega)), Lib.hid (fun _ => HB.out), by first | trivial | rfl⟩
      · have e1 : (b == 0) = false := by simpa using h
        have e2 : (b != 0) = true := by simpa using h
        clear h ha0
        go_wp2_with fail
        go_ret
        exact ⟨rfl, rfl⟩
    · have ha0 := ha.out (by omega)
      have hb0 := hb.out (by omega)
      have hr := HR.out
      unfold orI at hr
      rw [if_pos ha0, hb0] at hr
      subst hr
      go_wp2_with fail
      go_ret
      exact ⟨rfl, rfl⟩
def cmpP (x y : P3) : Int := orI (cmpI x.u y.u) (cmpI x.v y.v)
theorem cmpP_neg {x y : P3} : cmpP x y < 0 ↔ (x.u < y.u ∨ (x.u = y.u ∧ x.v < y.v)) := by
  unfold cmpP orI cmpI
  (repeat' split) <;> omega
set_option maxHeartbeats 1000000 in
theorem compare_any (x y : P3) (w : World) :
    Calls Try.prog 49 #[.agg #[.int .i64 x.u, .int .i64 x.v, .int .i64 x.t], .agg #[.int .i64 y.u, .int .i64 y.v, .int .i64 y.t]] w fun e w' => e = .returned (.int .i64 (cmpP x y)) ∧ Grow w w' := by
  go_enter Try.func49, Try.ntmps49
  go_wp2_with fail
  have c0 : ∀ u : World, Grow ((w.alloc (.cells #[.int .i64 x.u, .int .i64 x.v, .int .i64 x.t] 24)).alloc (.cells #[.int .i64 y.u, .int .i64 y.v, .int .i64 y.t] 24)) u → u.cell? ⟨w.heap.size, 0, none⟩ = some (.int .i64 x.u) ∧ u.cell? ⟨w.heap.size, 1, none⟩ = some (.int .i64 x.v) ∧ u.cell? ⟨w.heap.size + 1, 0, none⟩ = some (.int .i64 y.u) ∧ u.cell? ⟨w.heap.size + 1, 1, none⟩ = some (.int .i64 y.v) := by
    intro u hg
    refine ⟨(hg.cells _ _ (by simp; omega)).trans ?_, (hg.cells _ _ (by simp; omega)).trans ?_, (hg.cells _ _ (by simp)).trans ?_, (hg.cells _ _ (by simp)).trans ?_⟩ <;> go_simp
  have C0 := Lib.hid c0
  clear c0
  go_region_held3 (fun u => u.cell? ⟨w.heap.size, 0, none⟩ = some (.int .i64 x.u) ∧ u.cell? ⟨w.heap.size, 1, none⟩ = some (.int .i64 x.v) ∧ u.cell? ⟨w.heap.size + 1, 0, none⟩ = some (.int .i64 y.u) ∧ u.cell? ⟨w.heap.size + 1, 1, none⟩ = some (.int .i64 y.v))
    (exact C0.out _ (by (repeat (first | with_reducible exact Grow.refl _ | with_reducible refine Grow.alloc ?_ _ | with_reducible refine Grow.drew ?_ | with_reducible refine Grow.drewN ?_ _ | (with_reducible refine Grow.setCell ?_ ?hp _; (case hp => (simp; try omega))) | with_reducible refine Grow.trans ?_ (by assumption)))))
    (first
      | (go_at_call 60; with_reducible refine (cmpc_any x.u y.u _).mono ?_; rintro e w1 ⟨rfl, rfl⟩)
      | (go_at_call 60; with_reducible refine (cmpc_any x.v y.v _).mono ?_; rintro e w2 ⟨rfl, rfl⟩)
      | (go_at_call 59; with_reducible refine (or_any (cmpI x.u y.u) (cmpI x.v y.v) _ _ _ _ (by go_simp) (by go_simp)).mono ?_; rintro e w3 ⟨rfl, rfl⟩))
  all_goals go_wp2
  all_goals go_ret
  all_goals exact ⟨rfl, by (repeat (first | with_reducible exact Grow.refl _ | with_reducible refine Grow.alloc ?_ _ | with_reducible refine Grow.drew ?_ | with_reducible refine Grow.drewN ?_ _ | (with_reducible refine Grow.setCell ?_ ?hp _; (case hp => (simp; try omega))) | with_reducible refine Grow.trans ?_ (by assumption)))⟩
end Go.Proofs.Ytcgiancmponmgaa
