/- Merel's matrices are as specified (determinants of at most 24). No condition: every number. -/
import Derived.Test.YtalidpojcpmcbaaPlZ
import Derived.Test.YtalidpojcpmcbaaHcB
namespace Go.Proofs.Ytalidpojcpmcbaa.merel
open Go Go.RowKit Go.ChangeShapes Go.WideShapes Go.ChangeAt

set_option maxHeartbeats 1000000 in
theorem walk_any (n : Int) (M : List M2) (er : Int) (hM : M.length ≤ 100000) (hf : decide (24 < n ∧ n ≤ 128) = false)
    (X : Hid (∀ w, Calls Try.prog 13 #[.int .i64 n] w fun e w' => ∃ v, e = .returned (.tuple #[v, .int .i64 er]) ∧ RdMats w' v M ∧ Grow w w'))
    (Y : Hid (∀ w, Calls Try.prog 14 #[.int .i64 n] w fun e w' => ∃ v, e = .returned (.tuple #[v, .int .i64 er]) ∧ RdMats w' v M ∧ Grow w w')) (w : World) :
    Calls Try.prog 3 #[.int .i64 n] w fun ex w' => ex = .returned (.bool true) ∧ Grow w w' := by
  have FA := Lib.hid (fun w => far_any n w)
  rw [hf] at FA
  clear hf
  go_enter Try.func3, Try.ntmps3
  go_wp2_with fail
  go_at_call 11
  refine (awake44_any _).mono ?_
  rintro e w1 ⟨rfl, hb1⟩
  have HG1 := Lib.hid hb1
  clear hb1
  go_wp2_with fail
  go_at_call 12
  with_reducible refine (FA.out _).mono ?_
  rintro e w5 ⟨rfl, hb5⟩
  have HG5 := Lib.hid (HG1.out.trans hb5)
  clear hb5 HG1
  go_wp2_with fail
  go_at_call 13
  with_reducible refine (X.out _).mono ?_
  rintro e w2 ⟨v2, rfl, hr2, hb2⟩
  have HG2 := Lib.hid (HG5.out.trans hb2)
  have HR2 := Lib.hid hr2
  clear hb2 hr2 HG5
  go_wp2_with fail
  go_at_call 14
  with_reducible refine (Y.out _).mono ?_
  rintro e w3 ⟨v3, rfl, hr3, hb3⟩
  have HS := Lib.hid (sameM_same M _ _ (by omega) w3 (HR2.out.grow hb3) hr3)
  have HG3 := Lib.hid (HG2.out.trans hb3)
  clear hb3 hr3 HR2 HG2
  go_wp2_with fail
  go_at_call 15
  with_reducible refine HS.out.mono ?_
  rintro e w4 ⟨rfl, hb4⟩
  have HG4 := Lib.hid (HG3.out.trans hb4)
  clear hb4
  go_wp2_with fail
  go_ret
  exact ⟨rfl, HG4.out⟩
theorem walk_far (n : Int) (h1 : 24 < n) (h2 : n ≤ 128) (w : World) :
    Calls Try.prog 3 #[.int .i64 n] w fun ex w' => ex = .returned (.bool true) ∧ Grow w w' := by
  have FA := Lib.hid (fun w => far_any n w)
  have hf : decide (24 < n ∧ n ≤ 128) = true := by simp [h1, h2]
  rw [hf] at FA
  clear hf
  go_enter Try.func3, Try.ntmps3
  go_wp2_with fail
  go_at_call 11
  refine (awake44_any _).mono ?_
  rintro e w1 ⟨rfl, hb1⟩
  have HG1 := Lib.hid hb1
  clear hb1
  go_wp2_with fail
  go_at_call 12
  with_reducible refine (FA.out _).mono ?_
  rintro e w5 ⟨rfl, hb5⟩
  have HG5 := Lib.hid (HG1.out.trans hb5)
  clear hb5 HG1
  go_wp2_with fail
  go_ret
  exact ⟨rfl, HG5.out⟩
theorem nil_rd (w : World) : RdMats w (.slice none 0 0) [] := .inl ⟨none, 0, rfl, rfl⟩
theorem of_err {f : Nat} {n er : Int} (h : ∀ w, Calls Try.prog f #[.int .i64 n] w fun e w' => e = .returned (.tuple #[.slice none 0 0, .int .i64 er]) ∧ Grow w w') (w : World) :
    Calls Try.prog f #[.int .i64 n] w fun e w' => ∃ v, e = .returned (.tuple #[v, .int .i64 er]) ∧ RdMats w' v [] ∧ Grow w w' :=
  (h w).mono fun _ w' hh => ⟨_, hh.1, nil_rd w', hh.2⟩
theorem of_ok {f : Nat} {n er : Int} {M : List M2} (h : ∀ w, Calls Try.prog f #[.int .i64 n] w fun e w' => ∃ v, e = .returned (.tuple #[v, .int .i64 er]) ∧ OwnMats w' w.heap.size v M ∧ Grow w w') (w : World) :
    Calls Try.prog f #[.int .i64 n] w fun e w' => ∃ v, e = .returned (.tuple #[v, .int .i64 er]) ∧ RdMats w' v M ∧ Grow w w' :=
  (h w).mono fun _ _ hh => by obtain ⟨v, h1, h2, h3⟩ := hh; exact ⟨v, h1, h2.rd, h3⟩
theorem walk (n : Int) (_ : -9223372036854775808 ≤ n ∧ n ≤ 9223372036854775807) (w : World) : Calls Try.prog 3 #[.int .i64 n] w fun ex w' => ex = .returned (.bool true) ∧ Grow w w' := by
  by_cases h : n < 1 ∨ 128 < n
  · exact walk_any n [] 2 (by decide) (by simp; omega) (Lib.hid (of_err (merel_err n h))) (Lib.hid (of_err (refMerel_err n h))) w
  · by_cases h2 : 24 < n
    · exact walk_far n h2 (by omega) w
    · obtain ⟨e1, e2⟩ := mer_eq (n := n) (by omega) (by omega)
      exact walk_any n (merF n) 0 e2 (by simp; omega) (Lib.hid (of_ok (merel_core n (by omega) (by omega) _ (Lib.hid rfl) e2))) (Lib.hid (of_ok (refMerel_core n (by omega) (by omega) _ (Lib.hid e1.symm) e2))) w

set_option maxRecDepth 100000 in
theorem lifted (os : Os) (started : os.Started) (H : Type) (enc : TypeId × Value → H) :
    ReturnsInHanded {} Try.checked os 3 .any (Rows.heilbronnMerelSpec.pre6 enc Try.prog Try.f3 Rows.heilbronnMerelRow.domain false) (Rows.heilbronnMerelSpec.post enc Try.prog Try.f3 false true false false) := by
  refine returnsInHanded_of_change (C := Try.checked) own started (by kernel_rfl) Try.func3
    (ChangeSpec.witness6 (enc := enc) (C := Try.checked) false ⟨#[], #[.int .i64 0], []⟩ 8 (by kernel_rfl) (by kernel_rfl) (by kernel_rfl) (by kernel_rfl)) ?_
  intro W base args ds gs before hval0 hW hcnd _
  have hval : ∀ (j : Nat) t v, Try.f3.params[j]? = some t → args[j]? = some v → Value.okWide Try.prog W .any base t v := hval0
  have hW' := hW
  obtain ⟨p, q, hA0, hV, rfl, -, -⟩ := hW
  have hA : DataW.TrodAll enc Try.prog W 0 (fun _ => true) true Try.f3.params.toList args.toList ds p := hA0
  rw [Try.params3] at hA hval
  obtain ⟨v0, vs0, d0, ds0, p0, q0, hargs, rfl, rfl, h0, r0⟩ := trodAll_cons hA
  obtain ⟨rfl, rfl, rfl⟩ := trodAll_nil r0
  obtain rfl : args = #[v0] := by cases args; simp_all
  obtain ⟨rfl, rfl⟩ := trodVars_none hV
  obtain ⟨a0, rfl, rfl, -, b0⟩ := open_int Try.underlying3 (hval 0 3 v0 rfl rfl) h0
  have c0 := bounds_i64 b0
  clear hA0 hval0
  refine (walk a0 c0 W).mono fun e W' ⟨he, hg⟩ => ?_
  subst he
  exact ⟨_, rfl, law_post 4 rfl Try.underlying4 laidOut (of_decide_eq_true (by kernel_rfl)) rfl hW' rfl hg⟩

theorem over : Rows.heilbronnMerelRow.holds Try.pinned (OpenSpec.ofChange Rows.heilbronnMerelSpec) :=
  OpenClaim.holds_of_wide 3 Try.f3 rfl rfl rfl rfl rfl rfl rfl ⟨rfl, rfl, rfl, rfl, rfl⟩ rfl rfl rfl rfl rfl (by kernel_rfl) Try.func3 (by kernel_rfl)
    (of_decide_eq_true (by kernel_rfl)) (by unfold Func.isWrapper; rw [if_neg (by decide +kernel)]; exact ⟨rfl, rfl⟩)
    (fun os started H enc _ => lifted os started H enc)

theorem proved : Rows.HeilbronnMerelSaid := over
end Go.Proofs.Ytalidpojcpmcbaa.merel
