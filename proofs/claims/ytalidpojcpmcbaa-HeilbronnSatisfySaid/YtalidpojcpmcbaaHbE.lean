/- Walks: prime, IsPrime; the program's and the reference's. -/
import Derived.Test.YtalidpojcpmcbaaHbD
namespace Go.Proofs.Ytalidpojcpmcbaa
open Go Go.RowKit

set_option maxHeartbeats 1000000 in
theorem prime_any (n : Int) (h1 : 1 ≤ n) (h2 : n ≤ 128) (w : World) :
    Calls Try.prog 36 #[.int .i64 n] w fun e w' => e = .returned (.bool (prF n)) ∧ Grow w w' := by
  by_cases hn : n < 2
  · have hu : prF n = false := by unfold prF; rw [if_pos hn]
    rw [hu]
    go_enter Try.func36, Try.ntmps36
    go_wp2_with fail
    go_ret
    exact ⟨rfl, by (repeat (first | with_reducible exact Grow.refl _ | with_reducible refine Grow.alloc ?_ _ | with_reducible refine Grow.drew ?_ | with_reducible refine Grow.drewN ?_ _ | (with_reducible refine Grow.setCell ?_ ?hp _; (case hp => (simp; try omega))) | with_reducible refine Grow.trans ?_ (by assumption)))⟩
  · obtain ⟨R, hR⟩ : ∃ R, prP 140 n 2 = R := ⟨_, rfl⟩
    have hu : prF n = R := by unfold prF; rw [if_neg hn]; exact hR
    rw [hu]
    have HR := Lib.hid hR
    clear hu hR
    go_enter Try.func36, Try.ntmps36
    go_wp2_with fail
    go_loopg [3] 140 (fun k t3 wr => ∃ d : Int, t3 = .int .i64 d ∧ 2 ≤ d ∧ d ≤ 130 ∧ Hid (d + k = 142) ∧ Hid (prP k n d = R) ∧ Hid (Grow w wr))
    case atStart => exact ⟨2, rfl, by omega, by omega, by show (2 : Int) + (140 : Nat) = 142; omega, HR.out, Grow.refl _⟩
    case round =>
      obtain ⟨d, rfl, hd1, hd2, hdk, hp, hgr⟩ := hrel
      have hp2 := hp.out
      obtain ⟨m1, m2⟩ := mul_bd (a := d) (x := d) 200 200 (by omega) (by omega) (by omega) (by omega)
      have y1 : IntKind.i64.wrap (d * d) = d * d := IntWalk.i64_in _ (by omega)
      have hdne : ¬ d = 0 := by omega
      have hdneb : (d == 0) = false := by simpa using hdne
      clear hn
      by_cases hle : d * d ≤ n
      · have hdn : d ≤ 128 := by
          have : d * 1 ≤ d * d := Int.mul_le_mul_of_nonneg_left (by omega) (by omega)
          omega
        obtain ⟨g1, hgk⟩ : ∃ g1, gk = g1 + 1 := ⟨gk - 1, by have := hdk.out; omega⟩
        rw [hgk] at hp2
        simp only [prP] at hp2
        rw [if_pos hle] at hp2
        obtain ⟨t, ht⟩ : ∃ t, n.tmod d = t := ⟨_, rfl⟩
        rw [ht] at hp2
        have ht0 : t.natAbs ≤ n.natAbs := by rw [← ht, Int.natAbs_tmod]; exact Nat.mod_le _ _
        have y2 : IntKind.i64.wrap t = t := IntWalk.i64_in _ (by omega)
        clear m1 m2 hp ht0
        by_cases hz : t = 0
        · have e1 : (t == 0) = true := by simpa using hz
          rw [if_pos hz] at hp2
          subst hp2
          clear hz
          go_wp2_with fail
          go_ret
          exact ⟨rfl, hgr.out⟩
        · have e1 : (t == 0) = false := by simpa using hz
          rw [if_neg hz] at hp2
          have HP := Lib.hid hp2
          clear hz hp2
          go_wp2_with fail
          go_roundg g1
          case measure => omega
          case rel => exact ⟨d + 1, rfl, by omega, by omega, by show d + 1 + (g1 : Int) = 142; have := hdk.out; omega, HP.out, hgr.out⟩
      · have hRt : true = R := by
          rw [← hp2]
          cases gk <;> simp [prP, hle]
        subst hRt
        clear hp hp2 m1 m2
        go_wp2_with fail
        go_ret
        exact ⟨rfl, hgr.out⟩
theorem isPrime_any (n : Int) (h1 : 1 ≤ n) (h2 : n ≤ 128) (w : World) :
    Calls Try.prog 23 #[.int .i64 n] w fun e w' => e = .returned (.tuple #[.bool (prF n), .int .i64 0]) ∧ Grow w w' := by
  have k : ¬ 2147483647 < n := by omega
  have P := Lib.hid (fun w => prime_any n h1 h2 w)
  generalize prF n = B at *
  go_enter Try.func23, Try.ntmps23
  go_wp2_with fail
  (go_at_call 36; refine (P.out _).mono ?_; rintro e w1 ⟨rfl, hb1⟩; have hc1 := hb1.cells; have hf1 := hb1.frees; have hz1 := hb1.size; (try simp at hz1))
  go_wp2_with fail
  exact bodyPost_ret (v := .tuple #[.bool B, .int .i64 0]) (by simp only [results, Try.results23]; go_simp) rfl ⟨rfl, by (repeat (first | with_reducible exact Grow.refl _ | with_reducible refine Grow.alloc ?_ _ | with_reducible refine Grow.drew ?_ | with_reducible refine Grow.drewN ?_ _ | (with_reducible refine Grow.setCell ?_ ?hp _; (case hp => (simp; try omega))) | with_reducible refine Grow.trans ?_ (by assumption)))⟩

set_option maxHeartbeats 1000000 in
theorem refPrime_any (n : Int) (h1 : 1 ≤ n) (h2 : n ≤ 128) (w : World) :
    Calls Try.prog 26 #[.int .i64 n] w fun e w' => e = .returned (.bool (prR 140 n 2)) ∧ Grow w w' := by
  obtain ⟨R, hR⟩ : ∃ R, prR 140 n 2 = R := ⟨_, rfl⟩
  rw [hR]
  have HR := Lib.hid hR
  clear hR
  go_enter Try.func26, Try.ntmps26
  go_wp2_with fail
  go_loopg [3] 140 (fun k t3 wr => ∃ d : Int, t3 = .int .i64 d ∧ 2 ≤ d ∧ d ≤ 130 ∧ Hid (d + k = 142) ∧ Hid (prR k n d = R) ∧ Hid (Grow w wr))
  case atStart => exact ⟨2, rfl, by omega, by omega, by show (2 : Int) + (140 : Nat) = 142; omega, HR.out, Grow.refl _⟩
  case round =>
    obtain ⟨d, rfl, hd1, hd2, hdk, hp, hgr⟩ := hrel
    have hp2 := hp.out
    have hdne : ¬ d = 0 := by omega
    have hdneb : (d == 0) = false := by simpa using hdne
    by_cases hle : d < n
    · obtain ⟨g1, hgk⟩ : ∃ g1, gk = g1 + 1 := ⟨gk - 1, by have := hdk.out; omega⟩
      rw [hgk] at hp2
      simp only [prR] at hp2
      rw [if_pos hle] at hp2
      obtain ⟨t, ht⟩ : ∃ t, n.tmod d = t := ⟨_, rfl⟩
      rw [ht] at hp2
      have ht0 : t.natAbs ≤ n.natAbs := by rw [← ht, Int.natAbs_tmod]; exact Nat.mod_le _ _
      have y2 : IntKind.i64.wrap t = t := IntWalk.i64_in _ (by omega)
      clear hp ht0
      by_cases hz : t = 0
      · have e1 : (t == 0) = true := by simpa using hz
        rw [if_pos hz] at hp2
        subst hp2
        clear hz
        go_wp2_with fail
        go_ret
        exact ⟨rfl, hgr.out⟩
      · have e1 : (t == 0) = false := by simpa using hz
        rw [if_neg hz] at hp2
        have HP := Lib.hid hp2
        clear hz hp2
        go_wp2_with fail
        go_roundg g1
        case measure => omega
        case rel => exact ⟨d + 1, rfl, by omega, by omega, by show d + 1 + (g1 : Int) = 142; have := hdk.out; omega, HP.out, hgr.out⟩
    · have hRt : decide (1 < n) = R := by
        rw [← hp2]
        obtain ⟨g1, hgk⟩ : ∃ g1, gk = g1 + 1 := ⟨gk - 1, by have := hdk.out; omega⟩
        rw [hgk]; simp [prR, hle]
      have HRt := Lib.hid hRt
      clear hp hp2 hRt
      go_wp2_with fail
      go_ret
      exact ⟨congrArg (fun b => Ending.returned (Value.bool b)) HRt.out, hgr.out⟩
end Go.Proofs.Ytalidpojcpmcbaa
