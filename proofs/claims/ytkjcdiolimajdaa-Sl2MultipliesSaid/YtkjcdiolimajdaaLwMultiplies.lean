/- Determinants, the check, products and inverses of the program are those of the reference. No condition: every input. -/
import Derived.Test.YtkjcdiolimajdaaPlZ
import Derived.Test.YtkjcdiolimajdaaSlK
import Derived.Test.YtkjcdiolimajdaaSlE
import Derived.Test.YtkjcdiolimajdaaPlQ
namespace Go.Proofs.Ytkjcdiolimajdaa.multiplies
open Go Go.RowKit Go.ChangeShapes Go.WideShapes Go.ChangeAt

set_option maxHeartbeats 4000000 in
theorem walk (x : M2) (_hx : (-9223372036854775808 ≤ x.a ∧ x.a ≤ 9223372036854775807) ∧ (-9223372036854775808 ≤ x.b ∧ x.b ≤ 9223372036854775807) ∧ (-9223372036854775808 ≤ x.c ∧ x.c ≤ 9223372036854775807) ∧ (-9223372036854775808 ≤ x.d ∧ x.d ≤ 9223372036854775807)) (y : M2) (_hy : (-9223372036854775808 ≤ y.a ∧ y.a ≤ 9223372036854775807) ∧ (-9223372036854775808 ≤ y.b ∧ y.b ≤ 9223372036854775807) ∧ (-9223372036854775808 ≤ y.c ∧ y.c ≤ 9223372036854775807) ∧ (-9223372036854775808 ≤ y.d ∧ y.d ≤ 9223372036854775807)) (w : World) :
    Calls Try.prog 7 #[.agg #[.int .i64 x.a, .int .i64 x.b, .int .i64 x.c, .int .i64 x.d], .agg #[.int .i64 y.a, .int .i64 y.b, .int .i64 y.c, .int .i64 y.d]] w fun e w' => e = .returned (.bool true) ∧ Grow w w' := by
  clear _hx _hy
  have D := Lib.hid (fun w => det_any x w)
  have DR := Lib.hid (fun w => refDet_any x w)
  have M := Lib.hid (fun w => mul_any x y w)
  have MR := Lib.hid (fun w => refMul_any x y w)
  have CK := Lib.hid (fun w => check_any x w)
  have CR := Lib.hid (fun w => refCheck_any x w)
  generalize mulF x y = u at *
  generalize detF x = d at *
  by_cases h0 : checkF x = 0
  · have k1 : (checkF x == 0) = true := by simpa using h0
    have I : Hid (∀ w, Calls Try.prog 25 #[.agg #[.int .i64 x.a, .int .i64 x.b, .int .i64 x.c, .int .i64 x.d]] w fun e w' => e = .returned (.tuple #[.agg #[.int .i64 x.back.a, .int .i64 x.back.b, .int .i64 x.back.c, .int .i64 x.back.d], .int .i64 (checkF x)]) ∧ Grow w w') := by
      intro w; have h := inverse_any x w; rw [show invF x = (x.back, checkF x) by simp [invF, h0]] at h; exact h
    have B := Lib.hid (fun w => back_any x (checkF_zero.1 h0).1 w)
    clear h0
    generalize x.back = b at *
    go_enter Try.func7, Try.ntmps7
    go_wp2_with fail
    (go_at_call 12; refine (awake18_any _).mono ?_; rintro e w1 ⟨rfl, hb1⟩; have hc1 := hb1.cells; have hf1 := hb1.frees; have hz1 := hb1.size; (try simp at hz1))
    have zw1_0 : w.heap.size < w1.heap.size := (by omega); have zw1_1 : w.heap.size + 1 < w1.heap.size := (by omega)
    go_wp2_with fail
    (go_at_call 22; refine (D.out _).mono ?_; rintro e w2 ⟨rfl, hb2⟩; have hc2 := hb2.cells; have hf2 := hb2.frees; have hz2 := hb2.size; (try simp at hz2))
    have zw2_0 : w.heap.size < w2.heap.size := (by omega); have zw2_1 : w.heap.size + 1 < w2.heap.size := (by omega)
    go_wp2_with fail
    (go_at_call 23; refine (DR.out _).mono ?_; rintro e w3 ⟨rfl, hb3⟩; have hc3 := hb3.cells; have hf3 := hb3.frees; have hz3 := hb3.size; (try simp at hz3))
    have zw3_0 : w.heap.size < w3.heap.size := (by omega); have zw3_1 : w.heap.size + 1 < w3.heap.size := (by omega)
    go_wp2_with fail
    (go_at_call 19; refine (M.out _).mono ?_; rintro e w4 ⟨rfl, hb4⟩; have hc4 := hb4.cells; have hf4 := hb4.frees; have hz4 := hb4.size; (try simp at hz4))
    have zw4_0 : w.heap.size < w4.heap.size := (by omega); have zw4_1 : w.heap.size + 1 < w4.heap.size := (by omega)
    go_wp2_with fail
    (go_at_call 24; refine (MR.out _).mono ?_; rintro e w5 ⟨rfl, hb5⟩; have hc5 := hb5.cells; have hf5 := hb5.frees; have hz5 := hb5.size; (try simp at hz5))
    have zw5_0 : w.heap.size < w5.heap.size := (by omega); have zw5_1 : w.heap.size + 1 < w5.heap.size := (by omega); have zw5_2 : w4.heap.size < w5.heap.size := (by omega)
    go_wp2_with fail
    (go_at_call 25; refine (I.out _).mono ?_; rintro e w6 ⟨rfl, hb6⟩; have hc6 := hb6.cells; have hf6 := hb6.frees; have hz6 := hb6.size; (try simp at hz6))
    have zw6_0 : w.heap.size < w6.heap.size := (by omega); have zw6_1 : w.heap.size + 1 < w6.heap.size := (by omega); have zw6_2 : w4.heap.size < w6.heap.size := (by omega); have zw6_3 : w5.heap.size < w6.heap.size := (by omega)
    have zq6_1_0 : w.heap.size < w6.heap.size + 2 := (by omega); have zq6_1_1 : w.heap.size + 1 < w6.heap.size + 2 := (by omega); have zq6_1_2 : w4.heap.size < w6.heap.size + 2 := (by omega); have zq6_1_3 : w5.heap.size < w6.heap.size + 2 := (by omega)
    go_wp2_with fail
    (go_at_call 26; refine (CR.out _).mono ?_; rintro e w7 ⟨rfl, hb7⟩; have hc7 := hb7.cells; have hf7 := hb7.frees; have hz7 := hb7.size; (try simp at hz7))
    have zw7_0 : w.heap.size < w7.heap.size := (by omega); have zw7_1 : w.heap.size + 1 < w7.heap.size := (by omega); have zw7_2 : w4.heap.size < w7.heap.size := (by omega); have zw7_3 : w5.heap.size < w7.heap.size := (by omega); have zw7_4 : w6.heap.size < w7.heap.size := (by omega); have zw7_5 : w6.heap.size + 1 < w7.heap.size := (by omega)
    go_wp2_with fail
    (go_at_call 27; refine (B.out _).mono ?_; rintro e w8 ⟨rfl, hb8⟩; have hc8 := hb8.cells; have hf8 := hb8.frees; have hz8 := hb8.size; (try simp at hz8))
    have zw8_0 : w.heap.size < w8.heap.size := (by omega); have zw8_1 : w.heap.size + 1 < w8.heap.size := (by omega); have zw8_2 : w4.heap.size < w8.heap.size := (by omega); have zw8_3 : w5.heap.size < w8.heap.size := (by omega); have zw8_4 : w6.heap.size < w8.heap.size := (by omega); have zw8_5 : w6.heap.size + 1 < w8.heap.size := (by omega)
    go_wp2_with fail
    refine region_grow (by kernel_rfl) (by kernel_rfl) ?_
    intro X F hF
    have hFc := hF.cells
    haveI hFn := hF.ne
    repeat (go_big_quiet_step ((first | (go_at_call 26; with_reducible exact hF.call (CR.out _)) | (go_at_call 28; with_reducible exact hF.call (CK.out _)))))
    refine wpQuiet_nil ?_
    rintro _ ⟨x9, rfl⟩
    have hb9 := hF.grow x9
    clear hFc hFn hF
    generalize F x9 = w9 at *
    have hc9 := hb9.cells
    have hf9 := hb9.frees
    have hz9 := hb9.size
    (try simp at hz9)
    go_wp2
    go_ret
    exact ⟨rfl, by (repeat (first | with_reducible exact Grow.refl _ | with_reducible refine Grow.alloc ?_ _ | with_reducible refine Grow.drew ?_ | with_reducible refine Grow.drewN ?_ _ | (with_reducible refine Grow.setCell ?_ ?hp _; (case hp => (simp; try omega))) | with_reducible refine Grow.trans ?_ (by assumption)))⟩
  · have k1 : (checkF x == 0) = false := by simpa using h0
    have I : Hid (∀ w, Calls Try.prog 25 #[.agg #[.int .i64 x.a, .int .i64 x.b, .int .i64 x.c, .int .i64 x.d]] w fun e w' => e = .returned (.tuple #[.agg #[.int .i64 0, .int .i64 0, .int .i64 0, .int .i64 0], .int .i64 (checkF x)]) ∧ Grow w w') := by
      intro w; have h := inverse_any x w; rw [show invF x = (M2.zero, checkF x) by simp [invF, h0]] at h; exact h
    clear h0
    go_enter Try.func7, Try.ntmps7
    go_wp2_with fail
    (go_at_call 12; refine (awake18_any _).mono ?_; rintro e w1 ⟨rfl, hb1⟩; have hc1 := hb1.cells; have hf1 := hb1.frees; have hz1 := hb1.size; (try simp at hz1))
    have zw1_0 : w.heap.size < w1.heap.size := (by omega); have zw1_1 : w.heap.size + 1 < w1.heap.size := (by omega)
    go_wp2_with fail
    (go_at_call 22; refine (D.out _).mono ?_; rintro e w2 ⟨rfl, hb2⟩; have hc2 := hb2.cells; have hf2 := hb2.frees; have hz2 := hb2.size; (try simp at hz2))
    have zw2_0 : w.heap.size < w2.heap.size := (by omega); have zw2_1 : w.heap.size + 1 < w2.heap.size := (by omega)
    go_wp2_with fail
    (go_at_call 23; refine (DR.out _).mono ?_; rintro e w3 ⟨rfl, hb3⟩; have hc3 := hb3.cells; have hf3 := hb3.frees; have hz3 := hb3.size; (try simp at hz3))
    have zw3_0 : w.heap.size < w3.heap.size := (by omega); have zw3_1 : w.heap.size + 1 < w3.heap.size := (by omega)
    go_wp2_with fail
    (go_at_call 19; refine (M.out _).mono ?_; rintro e w4 ⟨rfl, hb4⟩; have hc4 := hb4.cells; have hf4 := hb4.frees; have hz4 := hb4.size; (try simp at hz4))
    have zw4_0 : w.heap.size < w4.heap.size := (by omega); have zw4_1 : w.heap.size + 1 < w4.heap.size := (by omega)
    go_wp2_with fail
    (go_at_call 24; refine (MR.out _).mono ?_; rintro e w5 ⟨rfl, hb5⟩; have hc5 := hb5.cells; have hf5 := hb5.frees; have hz5 := hb5.size; (try simp at hz5))
    have zw5_0 : w.heap.size < w5.heap.size := (by omega); have zw5_1 : w.heap.size + 1 < w5.heap.size := (by omega); have zw5_2 : w4.heap.size < w5.heap.size := (by omega)
    go_wp2_with fail
    (go_at_call 25; refine (I.out _).mono ?_; rintro e w6 ⟨rfl, hb6⟩; have hc6 := hb6.cells; have hf6 := hb6.frees; have hz6 := hb6.size; (try simp at hz6))
    have zw6_0 : w.heap.size < w6.heap.size := (by omega); have zw6_1 : w.heap.size + 1 < w6.heap.size := (by omega); have zw6_2 : w4.heap.size < w6.heap.size := (by omega); have zw6_3 : w5.heap.size < w6.heap.size := (by omega)
    have zq6_1_0 : w.heap.size < w6.heap.size + 2 := (by omega); have zq6_1_1 : w.heap.size + 1 < w6.heap.size + 2 := (by omega); have zq6_1_2 : w4.heap.size < w6.heap.size + 2 := (by omega); have zq6_1_3 : w5.heap.size < w6.heap.size + 2 := (by omega)
    go_wp2_with fail
    (go_at_call 26; refine (CR.out _).mono ?_; rintro e w7 ⟨rfl, hb7⟩; have hc7 := hb7.cells; have hf7 := hb7.frees; have hz7 := hb7.size; (try simp at hz7))
    have zw7_0 : w.heap.size < w7.heap.size := (by omega); have zw7_1 : w.heap.size + 1 < w7.heap.size := (by omega); have zw7_2 : w4.heap.size < w7.heap.size := (by omega); have zw7_3 : w5.heap.size < w7.heap.size := (by omega); have zw7_4 : w6.heap.size < w7.heap.size := (by omega); have zw7_5 : w6.heap.size + 1 < w7.heap.size := (by omega)
    go_wp2_with fail
    refine region_grow (by kernel_rfl) (by kernel_rfl) ?_
    intro X F hF
    have hFc := hF.cells
    haveI hFn := hF.ne
    repeat (go_big_quiet_step ((first | (go_at_call 26; with_reducible exact hF.call (CR.out _)) | (go_at_call 28; with_reducible exact hF.call (CK.out _)))))
    refine wpQuiet_nil ?_
    rintro _ ⟨x9, rfl⟩
    have hb9 := hF.grow x9
    clear hFc hFn hF
    generalize F x9 = w9 at *
    have hc9 := hb9.cells
    have hf9 := hb9.frees
    have hz9 := hb9.size
    (try simp at hz9)
    go_wp2
    go_ret
    exact ⟨rfl, by (repeat (first | with_reducible exact Grow.refl _ | with_reducible refine Grow.alloc ?_ _ | with_reducible refine Grow.drew ?_ | with_reducible refine Grow.drewN ?_ _ | (with_reducible refine Grow.setCell ?_ ?hp _; (case hp => (simp; try omega))) | with_reducible refine Grow.trans ?_ (by assumption)))⟩

set_option maxRecDepth 100000 in
theorem lifted (os : Os) (started : os.Started) (H : Type) (enc : TypeId × Value → H) :
    ReturnsInHanded {} Try.checked os 7 .any (Rows.sl2MultipliesSpec.pre6 enc Try.prog Try.f7 Rows.sl2MultipliesRow.domain false) (Rows.sl2MultipliesSpec.post enc Try.prog Try.f7 false true false false) := by
  refine returnsInHanded_of_change (C := Try.checked) own started (by kernel_rfl) Try.func7
    (ChangeSpec.witness6 (enc := enc) (C := Try.checked) false ⟨#[], #[.agg #[.int .i64 0, .int .i64 0, .int .i64 0, .int .i64 0], .agg #[.int .i64 0, .int .i64 0, .int .i64 0, .int .i64 0]], []⟩ 8 (by kernel_rfl) (by kernel_rfl) (by kernel_rfl) (by kernel_rfl)) ?_
  intro W base args ds gs before hval0 hW hcnd _
  have hval : ∀ (j : Nat) t v, Try.f7.params[j]? = some t → args[j]? = some v → Value.okWide Try.prog W .any base t v := hval0
  have hW' := hW
  obtain ⟨p, q, hA0, hV, rfl, -, -⟩ := hW
  have hA : DataW.TrodAll enc Try.prog W 0 (fun _ => true) true Try.f7.params.toList args.toList ds p := hA0
  rw [Try.params7] at hA hval
  obtain ⟨v0, vs0, d0, ds0, p0, q0, hargs, rfl, rfl, h0, r0⟩ := trodAll_cons hA
  obtain ⟨v1, vs1, d1, ds1, p1, q1, rfl, rfl, rfl, h1, r1⟩ := trodAll_cons r0
  obtain ⟨rfl, rfl, rfl⟩ := trodAll_nil r1
  obtain rfl : args = #[v0, v1] := by cases args; simp_all
  obtain ⟨rfl, rfl⟩ := trodVars_none hV
  obtain ⟨a0, rfl, c0⟩ := open_mat (hval 0 23 v0 rfl rfl) h0
  obtain ⟨a1, rfl, c1⟩ := open_mat (hval 1 23 v1 rfl rfl) h1
  clear hA0 hval0
  refine (walk a0 c0 a1 c1 W).mono fun e W' ⟨he, hg⟩ => ?_
  subst he
  exact ⟨_, rfl, law_post 4 rfl Try.underlying4 laidOut (of_decide_eq_true (by kernel_rfl)) rfl hW' rfl hg⟩

theorem over : Rows.sl2MultipliesRow.holds Try.pinned (OpenSpec.ofChange Rows.sl2MultipliesSpec) :=
  OpenClaim.holds_of_wide 7 Try.f7 rfl rfl rfl rfl rfl rfl rfl ⟨rfl, rfl, rfl, rfl, rfl⟩ rfl rfl rfl rfl rfl (by kernel_rfl) Try.func7 (by kernel_rfl)
    (of_decide_eq_true (by kernel_rfl)) (by unfold Func.isWrapper; rw [if_neg (by decide +kernel)]; exact ⟨rfl, rfl⟩)
    (fun os started H enc _ => lifted os started H enc)

theorem proved : Rows.Sl2MultipliesSaid := over
end Go.Proofs.Ytkjcdiolimajdaa.multiplies
