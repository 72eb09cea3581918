/- The number of points is n times the product of 1 + 1/p. No condition: every number. -/
import Derived.Test.YtcgiancmponmgaaPkN
import Derived.Test.YtcgiancmponmgaaPlZ
namespace Go.Proofs.Ytcgiancmponmgaa.counts
open Go Go.RowKit Go.ChangeShapes Go.WideShapes Go.ChangeAt

set_option maxRecDepth 20000 in
set_option maxHeartbeats 4000000 in
theorem walk (n : Int) (_hn : -9223372036854775808 ≤ n ∧ n ≤ 9223372036854775807) (w : World) :
    Calls Try.prog 8 #[.int .i64 n] w fun e w' => e = .returned (.bool true) ∧ Grow w w' := by
  clear _hn
  by_cases h : 1 ≤ n ∧ n ≤ 120
  · obtain ⟨N, rfl⟩ := Int.eq_ofNat_of_zero_le (show 0 ≤ n by omega)
    obtain ⟨t1, t2, t3, t4⟩ := tab_parts (n := N) (by omega) (by omega)
    have CN := Lib.hid (fun u => count_any N (by omega) (by omega) t2 u)
    have RP := Lib.hid (fun u => refPsi_any N (by omega) t1 u)
    have LS := Lib.hid (fun u => list_core (N : Int) h.1 h.2 u)
    rw [t3] at CN
    obtain ⟨R, hR⟩ : ∃ R, psL N 130 2 N = R := ⟨_, rfl⟩
    rw [hR] at CN RP t4
    obtain ⟨l, hl⟩ : ∃ l, lsF (N : Int) = l := ⟨_, rfl⟩
    rw [hl] at LS t4
    have HL := Lib.hid t4
    have n1 : ¬ (N : Int) < 1 := by omega
    have n2 : ¬ (120 : Int) < (N : Int) := by omega
    clear t1 t2 t3 t4 hR hl
    go_enter Try.func8, Try.ntmps8
    go_wp2_with fail
    go_at_call 12
    with_reducible refine (awake21_any _).mono ?_
    rintro e w1 ⟨rfl, hb1⟩
    go_wp2_with fail
    go_at_call 23
    refine (CN.out _).mono ?_
    rintro e w2 ⟨rfl, hb2⟩
    go_wp2_with fail
    go_at_call 16
    with_reducible refine (LS.out _).mono ?_
    rintro e w3 ⟨v, rfl, hown, hb3⟩
    obtain ⟨ao, cap, rfl⟩ := hown.rd.form
    rw [HL.out]
    clear hown
    go_wp2_with (go_at_call 24; (refine (RP.out _).mono ?_); (rintro e w4 ⟨rfl, hb4⟩))
    go_ret
    exact ⟨rfl, ((hb1.trans hb2).trans hb3).trans hb4⟩
  · have CN := Lib.hid (fun u => count_bad n h u)
    have LS := Lib.hid (fun u => list_bad n h u)
    by_cases hn1 : n < 1
    · have d1 : decide (n < 1) = true := decide_eq_true hn1
      clear h
      go_enter Try.func8, Try.ntmps8
      go_wp2_with fail
      go_at_call 12
      with_reducible refine (awake21_any _).mono ?_
      rintro e w1 ⟨rfl, hb1⟩
      go_wp2_with fail
      go_at_call 23
      refine (CN.out _).mono ?_
      rintro e w2 ⟨rfl, hb2⟩
      go_wp2_with fail
      go_at_call 16
      refine (LS.out _).mono ?_
      rintro e w3 ⟨rfl, hb3⟩
      go_wp2_with fail
      go_ret
      exact ⟨rfl, (hb1.trans hb2).trans hb3⟩
    · have hn2 : 120 < n := by omega
      clear h
      go_enter Try.func8, Try.ntmps8
      go_wp2_with fail
      go_at_call 12
      with_reducible refine (awake21_any _).mono ?_
      rintro e w1 ⟨rfl, hb1⟩
      go_wp2_with fail
      go_at_call 23
      refine (CN.out _).mono ?_
      rintro e w2 ⟨rfl, hb2⟩
      go_wp2_with fail
      go_at_call 16
      refine (LS.out _).mono ?_
      rintro e w3 ⟨rfl, hb3⟩
      go_wp2_with fail
      go_ret
      exact ⟨rfl, (hb1.trans hb2).trans hb3⟩

set_option maxRecDepth 100000 in
theorem lifted (os : Os) (started : os.Started) (H : Type) (enc : TypeId × Value → H) :
    ReturnsInHanded {} Try.checked os 8 .any (Rows.projlineCountsSpec.pre6 enc Try.prog Try.f8 Rows.projlineCountsRow.domain false) (Rows.projlineCountsSpec.post enc Try.prog Try.f8 false true false false) := by
  refine returnsInHanded_of_change (C := Try.checked) own started (by kernel_rfl) Try.func8
    (ChangeSpec.witness6 (enc := enc) (C := Try.checked) false ⟨#[], #[.int .i64 0], []⟩ 8 (by kernel_rfl) (by kernel_rfl) (by kernel_rfl) (by kernel_rfl)) ?_
  intro W base args ds gs before hval0 hW hcnd _
  have hval : ∀ (j : Nat) t v, Try.f8.params[j]? = some t → args[j]? = some v → Value.okWide Try.prog W .any base t v := hval0
  have hW' := hW
  obtain ⟨p, q, hA0, hV, rfl, -, -⟩ := hW
  have hA : DataW.TrodAll enc Try.prog W 0 (fun _ => true) true Try.f8.params.toList args.toList ds p := hA0
  rw [Try.params8] at hA hval
  obtain ⟨v0, vs0, d0, ds0, p0, q0, hargs, rfl, rfl, h0, r0⟩ := trodAll_cons hA
  obtain ⟨rfl, rfl, rfl⟩ := trodAll_nil r0
  obtain rfl : args = #[v0] := by cases args; simp_all
  obtain ⟨rfl, rfl⟩ := trodVars_none hV
  obtain ⟨a0, rfl, rfl, -, b0⟩ := open_int Try.underlying3 (hval 0 3 v0 rfl rfl) h0
  have c0 := bounds_i64 b0
  clear hA0 hval0
  refine (walk a0 c0 W).mono fun e W' ⟨he, hg⟩ => ?_
  subst he
  exact ⟨_, rfl, law_post 4 rfl Try.underlying4 laidOut (of_decide_eq_true (by kernel_rfl)) rfl hW' rfl hg⟩

theorem over : Rows.projlineCountsRow.holds Try.pinned (OpenSpec.ofChange Rows.projlineCountsSpec) :=
  OpenClaim.holds_of_wide 8 Try.f8 rfl rfl rfl rfl rfl rfl rfl ⟨rfl, rfl, rfl, rfl, rfl⟩ rfl rfl rfl rfl rfl (by kernel_rfl) Try.func8 (by kernel_rfl)
    (of_decide_eq_true (by kernel_rfl)) (by unfold Func.isWrapper; rw [if_neg (by decide +kernel)]; exact ⟨rfl, rfl⟩)
    (fun os started H enc _ => lifted os started H enc)

theorem proved : Rows.ProjlineCountsSaid := over
end Go.Proofs.Ytcgiancmponmgaa.counts
