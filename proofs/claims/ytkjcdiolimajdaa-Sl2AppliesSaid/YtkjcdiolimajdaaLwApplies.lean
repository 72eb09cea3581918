/- Cusps are checked and mapped by the program as by the reference. No condition: every input. -/
import Derived.Test.YtkjcdiolimajdaaPlZ
import Derived.Test.YtkjcdiolimajdaaSlK
import Derived.Test.YtkjcdiolimajdaaSlE
import Derived.Test.YtkjcdiolimajdaaPlQ
namespace Go.Proofs.Ytkjcdiolimajdaa.applies
open Go Go.RowKit Go.ChangeShapes Go.WideShapes Go.ChangeAt

set_option maxHeartbeats 2000000 in
theorem walk (m : M2) (_hm : (-9223372036854775808 ≤ m.a ∧ m.a ≤ 9223372036854775807) ∧ (-9223372036854775808 ≤ m.b ∧ m.b ≤ 9223372036854775807) ∧ (-9223372036854775808 ≤ m.c ∧ m.c ≤ 9223372036854775807) ∧ (-9223372036854775808 ≤ m.d ∧ m.d ≤ 9223372036854775807))
    (c : C2) (_hc : (-9223372036854775808 ≤ c.p ∧ c.p ≤ 9223372036854775807) ∧ (-9223372036854775808 ≤ c.q ∧ c.q ≤ 9223372036854775807)) (w : World) :
    Calls Try.prog 3 #[.agg #[.int .i64 m.a, .int .i64 m.b, .int .i64 m.c, .int .i64 m.d], .agg #[.int .i64 c.p, .int .i64 c.q]] w fun e w' => e = .returned (.bool true) ∧ Grow w w' := by
  clear _hm _hc
  have R := Lib.hid (fun w => apply_any m c w)
  have S := Lib.hid (fun w => refApply_any m c w)
  generalize applyF m c = u at *
  go_enter Try.func3, Try.ntmps3
  go_wp2_with fail
  (go_at_call 12; refine (awake18_any _).mono ?_; rintro e w1 ⟨rfl, hb1⟩; have hc1 := hb1.cells; have hf1 := hb1.frees; have hz1 := hb1.size; (try simp at hz1))
  have zw1_0 : w.heap.size < w1.heap.size := (by omega); have zw1_1 : w.heap.size + 1 < w1.heap.size := (by omega)
  go_wp2_with fail
  (go_at_call 13; refine (R.out _).mono ?_; rintro e w2 ⟨rfl, hb2⟩; have hc2 := hb2.cells; have hf2 := hb2.frees; have hz2 := hb2.size; (try simp at hz2))
  have zw2_0 : w.heap.size < w2.heap.size := (by omega); have zw2_1 : w.heap.size + 1 < w2.heap.size := (by omega)
  go_wp2_with fail
  (go_at_call 14; refine (S.out _).mono ?_; rintro e w3 ⟨rfl, hb3⟩; have hc3 := hb3.cells; have hf3 := hb3.frees; have hz3 := hb3.size; (try simp at hz3))
  have zw3_0 : w.heap.size < w3.heap.size := (by omega); have zw3_1 : w.heap.size + 1 < w3.heap.size := (by omega); have zw3_2 : w2.heap.size < w3.heap.size := (by omega)
  go_wp2_with fail
  refine region_grow (by kernel_rfl) (by kernel_rfl) ?_
  intro X F hF
  have hFc := hF.cells
  haveI hFn := hF.ne
  repeat (go_big_quiet_step ((first | (go_at_call 15; with_reducible exact hF.call (checkCusp_any c _)) | (go_at_call 16; with_reducible exact hF.call (refCheckCusp_any c _)))))
  refine wpQuiet_nil ?_
  rintro _ ⟨x9, rfl⟩
  have hb4 := hF.grow x9
  clear hFc hFn hF
  generalize F x9 = w4 at *
  have hc4 := hb4.cells
  have hf4 := hb4.frees
  have hz4 := hb4.size
  (try simp at hz4)
  go_wp2
  go_ret
  exact ⟨rfl, by (repeat (first | with_reducible exact Grow.refl _ | with_reducible refine Grow.alloc ?_ _ | with_reducible refine Grow.drew ?_ | with_reducible refine Grow.drewN ?_ _ | (with_reducible refine Grow.setCell ?_ ?hp _; (case hp => (simp; try omega))) | with_reducible refine Grow.trans ?_ (by assumption)))⟩

set_option maxRecDepth 100000 in
theorem lifted (os : Os) (started : os.Started) (H : Type) (enc : TypeId × Value → H) :
    ReturnsInHanded {} Try.checked os 3 .any (Rows.sl2AppliesSpec.pre6 enc Try.prog Try.f3 Rows.sl2AppliesRow.domain false) (Rows.sl2AppliesSpec.post enc Try.prog Try.f3 false true false false) := by
  refine returnsInHanded_of_change (C := Try.checked) own started (by kernel_rfl) Try.func3
    (ChangeSpec.witness6 (enc := enc) (C := Try.checked) false ⟨#[], #[.agg #[.int .i64 0, .int .i64 0, .int .i64 0, .int .i64 0], .agg #[.int .i64 0, .int .i64 0]], []⟩ 8 (by kernel_rfl) (by kernel_rfl) (by kernel_rfl) (by kernel_rfl)) ?_
  intro W base args ds gs before hval0 hW hcnd _
  have hval : ∀ (j : Nat) t v, Try.f3.params[j]? = some t → args[j]? = some v → Value.okWide Try.prog W .any base t v := hval0
  have hW' := hW
  obtain ⟨p, q, hA0, hV, rfl, -, -⟩ := hW
  have hA : DataW.TrodAll enc Try.prog W 0 (fun _ => true) true Try.f3.params.toList args.toList ds p := hA0
  rw [Try.params3] at hA hval
  obtain ⟨v0, vs0, d0, ds0, p0, q0, hargs, rfl, rfl, h0, r0⟩ := trodAll_cons hA
  obtain ⟨v1, vs1, d1, ds1, p1, q1, rfl, rfl, rfl, h1, r1⟩ := trodAll_cons r0
  obtain ⟨rfl, rfl, rfl⟩ := trodAll_nil r1
  obtain rfl : args = #[v0, v1] := by cases args; simp_all
  obtain ⟨rfl, rfl⟩ := trodVars_none hV
  obtain ⟨a0, rfl, c0⟩ := open_mat (hval 0 23 v0 rfl rfl) h0
  obtain ⟨a1, rfl, c1⟩ := open_cusp (hval 1 25 v1 rfl rfl) h1
  clear hA0 hval0
  refine (walk a0 c0 a1 c1 W).mono fun e W' ⟨he, hg⟩ => ?_
  subst he
  exact ⟨_, rfl, law_post 4 rfl Try.underlying4 laidOut (of_decide_eq_true (by kernel_rfl)) rfl hW' rfl hg⟩

theorem over : Rows.sl2AppliesRow.holds Try.pinned (OpenSpec.ofChange Rows.sl2AppliesSpec) :=
  OpenClaim.holds_of_wide 3 Try.f3 rfl rfl rfl rfl rfl rfl rfl ⟨rfl, rfl, rfl, rfl, rfl⟩ rfl rfl rfl rfl rfl (by kernel_rfl) Try.func3 (by kernel_rfl)
    (of_decide_eq_true (by kernel_rfl)) (by unfold Func.isWrapper; rw [if_neg (by decide +kernel)]; exact ⟨rfl, rfl⟩)
    (fun os started H enc _ => lifted os started H enc)

theorem proved : Rows.Sl2AppliesSaid := over
end Go.Proofs.Ytkjcdiolimajdaa.applies
