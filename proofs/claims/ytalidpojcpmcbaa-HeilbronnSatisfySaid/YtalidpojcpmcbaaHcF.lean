/- Walk: the closure of Chains, that chooses a quotient. -/
import Derived.Test.YtalidpojcpmcbaaHcE
import Derived.Test.YtalidpojcpmcbaaHbD
import Derived.Test.YtalidpojcpmcbaaHbF
import Derived.Deep.QuietTactic
import Derived.BigQuiet
namespace Go.Proofs.Ytalidpojcpmcbaa
open Go Go.RowKit

set_option maxHeartbeats 1000000 in
theorem choose_none (u : Nat) (x y : Int) (hx : x.natAbs ≤ 24) (hy : y ≠ 0) (a : Option Addr) (cap : Nat) (B3 B6 : Nat) (w : World) (h3 : w.cell? ⟨B3, 0, none⟩ = some (.slice a 0 cap)) :
    Calls Try.prog 34 #[.int .i64 x, .int .i64 y, .pointer (some ⟨B3, 0, none⟩), .pointer (some ⟨B6, 0, none⟩)] w fun e w' => e = .returned (.int .i64 (chQ [] u x y)) ∧ w = w' := by
  obtain ⟨q, hq⟩ : ∃ q, flF x y = q := ⟨_, rfl⟩
  have FL := Lib.hid (fun w => floor_any x y (by omega) (by omega) hy w)
  have hch : chQ [] u x y = q := by unfold chQ; rw [if_pos rfl]; exact hq
  rw [hch]
  rw [hq] at FL
  clear hch hq
  go_enter Try.func34, Try.ntmps34
  go_wp2_with (go_at_call 24; with_reducible refine (FL.out _).mono ?_; rintro e w1 ⟨rfl, rfl⟩)
  go_ret
  exact ⟨rfl, rfl⟩
set_option maxHeartbeats 1000000 in
theorem choose_some (l : List Int) (u : Nat) (x y : Int) (hl : l ≠ []) (hu : u ≤ 1000000) (hx : x.natAbs ≤ 24) (hy : y ≠ 0) (b off cap : Nat) (hlen : l.length ≤ 1152921504606846976) (B3 B6 : Nat) (w : World) (h3 : w.cell? ⟨B3, 0, none⟩ = some (.slice (some ⟨b, off, none⟩) l.length cap))
    (h6 : w.cell? ⟨B6, 0, none⟩ = some (.int .i64 u)) (hf6 : ∀ o, w.frozen? ⟨B6, o, none⟩ = false) (hrd : ∀ j, j < l.length → w.cell? ⟨b, off + j, none⟩ = some (.int .i64 (l.getD j 0))) :
    Calls Try.prog 34 #[.int .i64 x, .int .i64 y, .pointer (some ⟨B3, 0, none⟩), .pointer (some ⟨B6, 0, none⟩)] w fun e w' => e = .returned (.int .i64 (chQ l u x y)) ∧ ∃ d, w' = (w.drewN d).setCell ⟨B6, 0, none⟩ (.int .i64 (u + 1 : Nat)) := by
  have hl0 : 0 < l.length := by cases l with | nil => exact absurd rfl hl | cons a r => simp
  obtain ⟨k, hk⟩ : ∃ k, u % l.length = k := ⟨_, rfl⟩
  have hkl : k < l.length := by rw [← hk]; exact Nat.mod_lt _ hl0
  have hc := hrd k hkl
  obtain ⟨q, hq⟩ : ∃ q, flF x y = q := ⟨_, rfl⟩
  have hqb := fl_bd (a := x) (b := y) (by omega) (by omega) hy
  have FL := Lib.hid (fun w => floor_any x y (by omega) (by omega) hy w)
  obtain ⟨R, hR⟩ : ∃ R, chQ l u x y = R := ⟨_, rfl⟩
  rw [hR]
  unfold chQ at hR
  rw [if_neg hl, hk] at hR
  rw [hq] at FL hR hqb
  obtain ⟨c, hcc⟩ : ∃ c, l.getD k 0 = c := ⟨_, rfl⟩
  rw [hcc] at hc hR
  obtain ⟨t, ht⟩ : ∃ t, c.tmod 2 = t := ⟨_, rfl⟩
  have htb : t.natAbs ≤ 1 := by
    rw [← ht, Int.natAbs_tmod]
    have := Nat.mod_lt c.natAbs (show 0 < (2 : Int).natAbs by decide)
    have h2 : (2 : Int).natAbs = 2 := rfl
    omega
  obtain ⟨s, hs⟩ : ∃ s, x.tmod y = s := ⟨_, rfl⟩
  have hsb : s.natAbs ≤ 24 := by
    rw [← hs, Int.natAbs_tmod]
    exact Nat.le_trans (Nat.mod_le _ _) hx
  rw [ht, hs] at hR
  obtain ⟨n, hn⟩ : ∃ n, l.length = n := ⟨_, rfl⟩
  rw [hn] at h3 hl0 hkl hk hlen
  have hm1 : ((u : Int)).tmod (n : Int) = k := by rw [← hk]; exact (Int.ofNat_tmod u n).symm
  have hm2 : ((u : Int)) % (n : Int) = k := by rw [← hk]; exact (Int.natCast_emod u n).symm
  have z1 : ¬ (n : Int) = 0 := by omega
  have z2 : ((n : Int) == 0) = false := by simpa using z1
  have z3 : (0 : Int) ≤ k := by omega
  have z4 : (k : Int) < n := by omega
  have z5 : (y == 0) = false := by simpa using hy
  have y1 : IntKind.i64.wrap (k : Int) = k := IntWalk.i64_in _ (by omega)
  have y2 : IntKind.i64.wrap t = t := IntWalk.i64_in _ (by omega)
  have y3 : IntKind.i64.wrap s = s := IntWalk.i64_in _ (by omega)
  have y4 : IntKind.i64.wrap ((u : Int) + 1) = (u + 1 : Nat) := (IntWalk.i64_in _ (by omega)).trans (by omega)
  have y5 : IntKind.i64.wrap (q + 1) = q + 1 := IntWalk.i64_in _ (by omega)
  have HHR := Lib.hid hR
  clear hR hq hcc hk hrd hl htb hsb hqb hx hn
  by_cases ht0 : t = 0
  · have e1 : (t == 0) = true := by simpa using ht0
    have e2 : (t != 0) = false := by simpa using ht0
    have hr := HHR.out
    rw [if_neg (fun h => h.1 ht0)] at hr
    subst hr
    clear ht0
    go_enter Try.func34, Try.ntmps34
    go_wp2_with (go_at_call 24; with_reducible refine (FL.out _).mono ?_; rintro e w1 ⟨rfl, rfl⟩)
    go_quiet (fail)
    go_wp2_with fail
    go_ret
    exact ⟨rfl, _, rfl⟩
  · have e1 : (t == 0) = false := by simpa using ht0
    have e2 : (t != 0) = true := by simpa using ht0
    by_cases hs0 : s = 0
    · have e3 : (s == 0) = true := by simpa using hs0
      have e4 : (s != 0) = false := by simpa using hs0
      have hr := HHR.out
      rw [if_neg (fun h => h.2 hs0)] at hr
      subst hr
      clear ht0 hs0
      go_enter Try.func34, Try.ntmps34
      go_wp2_with (go_at_call 24; with_reducible refine (FL.out _).mono ?_; rintro e w1 ⟨rfl, rfl⟩)
      go_quiet (fail)
      go_wp2_with fail
      go_ret
      exact ⟨rfl, _, rfl⟩
    · have e3 : (s == 0) = false := by simpa using hs0
      have e4 : (s != 0) = true := by simpa using hs0
      have hr := HHR.out
      rw [if_pos ⟨ht0, hs0⟩] at hr
      subst hr
      clear ht0 hs0
      go_enter Try.func34, Try.ntmps34
      go_wp2_with (go_at_call 24; with_reducible refine (FL.out _).mono ?_; rintro e w1 ⟨rfl, rfl⟩)
      go_quiet (fail)
      go_wp2_with fail
      go_ret
      exact ⟨rfl, _, rfl⟩
end Go.Proofs.Ytalidpojcpmcbaa
