/- The chains with any choices are as specified (determinants of at most 24). No condition: every number, every list. -/
import Derived.Test.YtalidpojcpmcbaaHcJ
import Derived.Test.YtalidpojcpmcbaaHcK
namespace Go.Proofs.Ytalidpojcpmcbaa.chains
open Go Go.RowKit Go.ChangeShapes Go.WideShapes Go.ChangeAt

set_option maxHeartbeats 1000000 in
theorem walk_any (n : Int) (l : List Int) (a : Option Addr) (len cap : Nat) (M : List M2) (er : Int) (hM : M.length ≤ 100000) (hf : decide (24 < n ∧ n ≤ 128) = false) (hl : l.length ≤ 17592186044416)
    (X : Hid (∀ w v, RdInts w v l → Calls Try.prog 20 #[.int .i64 n, v] w fun e w' => ∃ v, e = .returned (.tuple #[v, .int .i64 er]) ∧ RdMats w' v M ∧ Grow w w'))
    (Y : Hid (∀ w v, RdInts w v l → Calls Try.prog 21 #[.int .i64 n, v] w fun e w' => ∃ v, e = .returned (.tuple #[v, .int .i64 er]) ∧ RdMats w' v M ∧ Grow w w')) (w : World) (hv : Hid (RdInts w (.slice a len cap) l)) :
    Calls Try.prog 6 #[.int .i64 n, .slice a len cap] w fun ex w' => ex = .returned (.bool true) ∧ Grow w w' := by
  obtain ⟨i0, hi0, iz0, iz1, iz2⟩ := info_parts info_int
  have FA := Lib.hid (fun w => far_any n w)
  rw [hf] at FA
  have HL := Lib.hid hl
  clear hf hl
  go_enter Try.func6, Try.ntmps6
  go_wp2_with fail
  go_at_call 11
  refine (awake44_any _).mono ?_
  rintro e w1 ⟨rfl, hb1⟩
  have HG1 := Lib.hid hb1
  clear hb1
  go_wp2_with fail
  go_at_call 12
  with_reducible refine (FA.out _).mono ?_
  rintro e w5 ⟨rfl, hb5⟩
  have HG5 := Lib.hid (HG1.out.trans hb5)
  have HV5 := Lib.hid (hv.out.grow HG5.out)
  clear hb5 HG1
  go_wp2_with (at_builtin; refine wpList_append_copy _ rfl _ _ 32 rfl i0 (.int .i64 0) Try.underlying32 hi0 iz0 iz1 iz2 rfl _ _ l rfl rfl ?rd ?len ?_)
  case rd => exact HV5.out.grow (by (repeat (first | with_reducible exact Grow.refl _ | with_reducible refine Grow.alloc ?_ _ | with_reducible refine Grow.drew ?_ | with_reducible refine Grow.drewN ?_ _ | (with_reducible refine Grow.setCell ?_ ?hp _; (case hp => (simp; try omega))) | with_reducible refine Grow.trans ?_ (by assumption))))
  case len => exact HL.out
  intro v6 w6 hr6 hg6
  have HG6 := Lib.hid (HG5.out.trans (Grow.trans ((Grow.refl _).alloc _) hg6))
  have HR6 := Lib.hid hr6
  clear hr6 hg6 HG5 HV5
  go_wp2_with fail
  go_at_call 20
  refine (X.out _ _ HR6.out).mono ?_
  rintro e w2 ⟨v2, rfl, hr2, hb2⟩
  have HG2 := Lib.hid (HG6.out.trans hb2)
  have HR2 := Lib.hid hr2
  clear hb2 hr2 HG6 HR6
  go_wp2_with fail
  go_at_call 21
  refine (Y.out _ _ (hv.out.grow HG2.out)).mono ?_
  rintro e w3 ⟨v3, rfl, hr3, hb3⟩
  have HS := Lib.hid (sameM_same M _ _ (by omega) w3 (HR2.out.grow hb3) hr3)
  have HG3 := Lib.hid (HG2.out.trans hb3)
  clear hb3 hr3 HR2 HG2
  go_wp2_with fail
  go_at_call 15
  with_reducible refine HS.out.mono ?_
  rintro e w4 ⟨rfl, hb4⟩
  have HG4 := Lib.hid (HG3.out.trans hb4)
  clear hb4
  go_wp2_with fail
  go_ret
  exact ⟨rfl, HG4.out⟩
theorem walk_far (n : Int) (h1 : 24 < n) (h2 : n ≤ 128) (a : Option Addr) (len cap : Nat) (w : World) :
    Calls Try.prog 6 #[.int .i64 n, .slice a len cap] w fun ex w' => ex = .returned (.bool true) ∧ Grow w w' := by
  have FA := Lib.hid (fun w => far_any n w)
  have hf : decide (24 < n ∧ n ≤ 128) = true := by simp [h1, h2]
  rw [hf] at FA
  clear hf
  go_enter Try.func6, Try.ntmps6
  go_wp2_with fail
  go_at_call 11
  refine (awake44_any _).mono ?_
  rintro e w1 ⟨rfl, hb1⟩
  have HG1 := Lib.hid hb1
  clear hb1
  go_wp2_with fail
  go_at_call 12
  with_reducible refine (FA.out _).mono ?_
  rintro e w5 ⟨rfl, hb5⟩
  have HG5 := Lib.hid (HG1.out.trans hb5)
  clear hb5 HG1
  go_wp2_with fail
  go_ret
  exact ⟨rfl, HG5.out⟩
theorem walk (n : Int) (_ : -9223372036854775808 ≤ n ∧ n ≤ 9223372036854775807) (l : List Int) (v : Value) (hl : l.length ≤ 17592186044416) (w : World) (hv : RdInts w v l) : Calls Try.prog 6 #[.int .i64 n, v] w fun ex w' => ex = .returned (.bool true) ∧ Grow w w' := by
  obtain ⟨a, cap, rfl⟩ := hv.form
  by_cases h : n < 1 ∨ 128 < n
  · refine walk_any n l a _ cap [] 2 (by decide) (by simp; omega) hl (Lib.hid fun w v hr => ?_) (Lib.hid fun w v hr => ?_) w (Lib.hid hv)
    · obtain ⟨a, c, rfl⟩ := hr.form
      exact (chains_err n h a _ c w).mono fun _ w' hh => ⟨_, hh.1, nil_rd w', hh.2⟩
    · obtain ⟨a, c, rfl⟩ := hr.form
      exact (refChains_err n h a _ c w).mono fun _ w' hh => ⟨_, hh.1, nil_rd w', hh.2⟩
  · by_cases h2 : 24 < n
    · exact walk_far n h2 (by omega) a _ cap w
    · refine walk_any n l a _ cap (chF l n) 0 (chF_len l n) (by simp; omega) hl (Lib.hid fun w v hr => ?_) (Lib.hid fun w v hr => ?_) w (Lib.hid hv)
      · exact (chains_core n l v (by omega) (by omega) _ (Lib.hid rfl) (chF_len l n) (by omega) w hr).mono fun _ _ hh => by obtain ⟨v, h1, h2, h3⟩ := hh; exact ⟨v, h1, h2.rd, h3⟩
      · exact (refChains_core n l v (by omega) (by omega) _ (Lib.hid rfl) (chF_len l n) (by omega) w hr).mono fun _ _ hh => by obtain ⟨v, h1, h2, h3⟩ := hh; exact ⟨v, h1, h2.rd, h3⟩

set_option maxRecDepth 100000 in
theorem lifted (os : Os) (started : os.Started) (H : Type) (enc : TypeId × Value → H) :
    ReturnsInHanded {} Try.checked os 6 .any (Rows.heilbronnChainsSpec.pre6 enc Try.prog Try.f6 Rows.heilbronnChainsRow.domain false) (Rows.heilbronnChainsSpec.post enc Try.prog Try.f6 false true false false) := by
  refine returnsInHanded_of_change_sized (C := Try.checked) own started (by kernel_rfl) Try.func6
    (ChangeSpec.witness6 (enc := enc) (C := Try.checked) false ⟨#[], #[.int .i64 0, .slice none 0 0], []⟩ 8 (by kernel_rfl) (by kernel_rfl) (by kernel_rfl) (by kernel_rfl)) ?_
  intro W base args ds gs before hval0 hW hcnd hsz0 _
  have hval : ∀ (j : Nat) t v, Try.f6.params[j]? = some t → args[j]? = some v → Value.okWide Try.prog W .any base t v := hval0
  have hW' := hW
  obtain ⟨p, q, hA0, hV, rfl, -, -⟩ := hW
  have hA : DataW.TrodAll enc Try.prog W 0 (fun _ => true) true Try.f6.params.toList args.toList ds p := hA0
  have hsz : (DataW.weightsEach Try.prog (Try.f6.params.toList ++ Rows.heilbronnChainsSpec.plain.varTypes Try.prog) (ds ++ gs)).all (· ≤ reachBytes) = true := hsz0
  rw [Try.params6] at hA hval hsz
  obtain ⟨v0, vs0, d0, ds0, p0, q0, hargs, rfl, rfl, h0, r0⟩ := trodAll_cons hA
  obtain ⟨v1, vs1, d1, ds1, p1, q1, rfl, rfl, rfl, h1, r1⟩ := trodAll_cons r0
  obtain ⟨rfl, rfl, rfl⟩ := trodAll_nil r1
  obtain rfl : args = #[v0, v1] := by cases args; simp_all
  obtain ⟨rfl, rfl⟩ := trodVars_none hV
  obtain ⟨a0, rfl, rfl, -, b0⟩ := open_int Try.underlying3 (hval 0 3 v0 rfl rfl) h0
  have c0 := bounds_i64 b0
  obtain ⟨l1, c1, b1⟩ := open_list_sized (fun el sp e => sized_slice hsz (j := 1) rfl (by rw [e]; rfl) Try.underlying32) (hval 1 32 v1 rfl rfl) h1
  clear hA0 hval0
  refine (walk a0 c0 l1 v1 b1 W c1).mono fun e W' ⟨he, hg⟩ => ?_
  subst he
  exact ⟨_, rfl, law_post 4 rfl Try.underlying4 laidOut (of_decide_eq_true (by kernel_rfl)) rfl hW' rfl hg⟩

theorem over : Rows.heilbronnChainsRow.holds Try.pinned (OpenSpec.ofChange Rows.heilbronnChainsSpec) :=
  OpenClaim.holds_of_wide 6 Try.f6 rfl rfl rfl rfl rfl rfl rfl ⟨rfl, rfl, rfl, rfl, rfl⟩ rfl rfl rfl rfl rfl (by kernel_rfl) Try.func6 (by kernel_rfl)
    (of_decide_eq_true (by kernel_rfl)) (by unfold Func.isWrapper; rw [if_neg (by decide +kernel)]; exact ⟨rfl, rfl⟩)
    (fun os started H enc _ => lifted os started H enc)

theorem proved : Rows.HeilbronnChainsSaid := over
end Go.Proofs.Ytalidpojcpmcbaa.chains
