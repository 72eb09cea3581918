/- Reduce of the program gives what Reduce of the reference gives, and a cusp. No condition: every input. -/
import Derived.Test.YtkjcdiolimajdaaPlZ
import Derived.Test.YtkjcdiolimajdaaSlK
import Derived.Test.YtkjcdiolimajdaaSlE
import Derived.Test.YtkjcdiolimajdaaPlE
namespace Go.Proofs.Ytkjcdiolimajdaa.reduces
open Go Go.RowKit Go.ChangeShapes Go.WideShapes Go.ChangeAt

set_option maxHeartbeats 2000000 in
theorem walk (p : Int) (_hp : -9223372036854775808 ≤ p) (_hp' : p ≤ 9223372036854775807) (q : Int) (_hq : -9223372036854775808 ≤ q) (_hq' : q ≤ 9223372036854775807) (w : World) :
    Calls Try.prog 4 #[.int .i64 p, .int .i64 q] w fun e w' => e = .returned (.bool true) ∧ Grow w w' := by
  obtain ⟨⟨u, r⟩, hu⟩ : ∃ x, redF p q = x := ⟨_, rfl⟩
  have R := Lib.hid (fun w => reduce_any p q w)
  have S := Lib.hid (fun w => refReduce_any p q w)
  rw [hu] at R S
  have HU := Lib.hid hu
  clear hu
  by_cases hr : r = 0
  · subst hr
    obtain ⟨h1, h2, h3, h4, h5, h6⟩ := red_spec HU.out
    have k1 : (ccF u == 0) = true := by simpa using h1
    obtain ⟨x1, x2⟩ := mul_in h5 h4
    obtain ⟨x3, x4⟩ := mul_in h6 h3
    have y1 : IntKind.i64.wrap (u.p * q) = u.p * q := IntWalk.i64_in _ (by omega)
    have y2 : IntKind.i64.wrap (u.q * p) = u.q * p := IntWalk.i64_in _ (by omega)
    have y3 : (u.p * q == u.q * p) = true := by simpa using h2
    clear h1 h2 h3 h4 h5 h6
    go_enter Try.func4, Try.ntmps4
    go_wp2_with fail
    (go_at_call 12; refine (awake18_any _).mono ?_; rintro e w1 ⟨rfl, hb1⟩; have hc1 := hb1.cells; have hf1 := hb1.frees; have hz1 := hb1.size; (try simp at hz1))
    go_wp2_with fail
    (go_at_call 17; refine (R.out _).mono ?_; rintro e w2 ⟨rfl, hb2⟩; have hc2 := hb2.cells; have hf2 := hb2.frees; have hz2 := hb2.size; (try simp at hz2))
    go_wp2_with fail
    (go_at_call 18; refine (S.out _).mono ?_; rintro e w3 ⟨rfl, hb3⟩; have hc3 := hb3.cells; have hf3 := hb3.frees; have hz3 := hb3.size; (try simp at hz3))
    have z1 : w2.heap.size < w3.heap.size := by omega
    go_wp2_with fail
    (go_at_call 15; refine (checkCusp_any u _).mono ?_; rintro e w4 ⟨rfl, hb4⟩; have hc4 := hb4.cells; have hf4 := hb4.frees; have hz4 := hb4.size; (try simp at hz4))
    have z2 : w2.heap.size < w4.heap.size := by omega
    go_wp2_with fail
    go_ret
    exact ⟨rfl, by (repeat (first | with_reducible exact Grow.refl _ | with_reducible refine Grow.alloc ?_ _ | with_reducible refine Grow.drew ?_ | with_reducible refine Grow.drewN ?_ _ | (with_reducible refine Grow.setCell ?_ ?hp _; (case hp => (simp; try omega))) | with_reducible refine Grow.trans ?_ (by assumption)))⟩
  · have k1 : (r == 0) = false := by simpa using hr
    have k2 : (r != 0) = true := by simpa using hr
    clear hr
    go_enter Try.func4, Try.ntmps4
    go_wp2_with fail
    (go_at_call 12; refine (awake18_any _).mono ?_; rintro e w1 ⟨rfl, hb1⟩; have hc1 := hb1.cells; have hf1 := hb1.frees; have hz1 := hb1.size; (try simp at hz1))
    go_wp2_with fail
    (go_at_call 17; refine (R.out _).mono ?_; rintro e w2 ⟨rfl, hb2⟩; have hc2 := hb2.cells; have hf2 := hb2.frees; have hz2 := hb2.size; (try simp at hz2))
    go_wp2_with fail
    (go_at_call 18; refine (S.out _).mono ?_; rintro e w3 ⟨rfl, hb3⟩; have hc3 := hb3.cells; have hf3 := hb3.frees; have hz3 := hb3.size; (try simp at hz3))
    have z1 : w2.heap.size < w3.heap.size := by omega
    go_wp2_with fail
    go_ret
    exact ⟨rfl, by (repeat (first | with_reducible exact Grow.refl _ | with_reducible refine Grow.alloc ?_ _ | with_reducible refine Grow.drew ?_ | with_reducible refine Grow.drewN ?_ _ | (with_reducible refine Grow.setCell ?_ ?hp _; (case hp => (simp; try omega))) | with_reducible refine Grow.trans ?_ (by assumption)))⟩

set_option maxRecDepth 100000 in
theorem lifted (os : Os) (started : os.Started) (H : Type) (enc : TypeId × Value → H) :
    ReturnsInHanded {} Try.checked os 4 .any (Rows.sl2ReducesSpec.pre6 enc Try.prog Try.f4 Rows.sl2ReducesRow.domain false) (Rows.sl2ReducesSpec.post enc Try.prog Try.f4 false true false false) := by
  refine returnsInHanded_of_change (C := Try.checked) own started (by kernel_rfl) Try.func4
    (ChangeSpec.witness6 (enc := enc) (C := Try.checked) false ⟨#[], #[.int .i64 0, .int .i64 0], []⟩ 8 (by kernel_rfl) (by kernel_rfl) (by kernel_rfl) (by kernel_rfl)) ?_
  intro W base args ds gs before hval0 hW hcnd _
  have hval : ∀ (j : Nat) t v, Try.f4.params[j]? = some t → args[j]? = some v → Value.okWide Try.prog W .any base t v := hval0
  have hW' := hW
  obtain ⟨p, q, hA0, hV, rfl, -, -⟩ := hW
  have hA : DataW.TrodAll enc Try.prog W 0 (fun _ => true) true Try.f4.params.toList args.toList ds p := hA0
  rw [Try.params4] at hA hval
  obtain ⟨v0, vs0, d0, ds0, p0, q0, hargs, rfl, rfl, h0, r0⟩ := trodAll_cons hA
  obtain ⟨v1, vs1, d1, ds1, p1, q1, rfl, rfl, rfl, h1, r1⟩ := trodAll_cons r0
  obtain ⟨rfl, rfl, rfl⟩ := trodAll_nil r1
  obtain rfl : args = #[v0, v1] := by cases args; simp_all
  obtain ⟨rfl, rfl⟩ := trodVars_none hV
  obtain ⟨a0, rfl, rfl, -, b0⟩ := open_int Try.underlying3 (hval 0 3 v0 rfl rfl) h0
  have c0 := bounds_i64 b0
  obtain ⟨a1, rfl, rfl, -, b1⟩ := open_int Try.underlying3 (hval 1 3 v1 rfl rfl) h1
  have c1 := bounds_i64 b1
  clear hA0 hval0
  refine (walk a0 c0.1 c0.2 a1 c1.1 c1.2 W).mono fun e W' ⟨he, hg⟩ => ?_
  subst he
  exact ⟨_, rfl, law_post 4 rfl Try.underlying4 laidOut (of_decide_eq_true (by kernel_rfl)) rfl hW' rfl hg⟩

theorem over : Rows.sl2ReducesRow.holds Try.pinned (OpenSpec.ofChange Rows.sl2ReducesSpec) :=
  OpenClaim.holds_of_wide 4 Try.f4 rfl rfl rfl rfl rfl rfl rfl ⟨rfl, rfl, rfl, rfl, rfl⟩ rfl rfl rfl rfl rfl (by kernel_rfl) Try.func4 (by kernel_rfl)
    (of_decide_eq_true (by kernel_rfl)) (by unfold Func.isWrapper; rw [if_neg (by decide +kernel)]; exact ⟨rfl, rfl⟩)
    (fun os started H enc _ => lifted os started H enc)

theorem proved : Rows.Sl2ReducesSaid := over
end Go.Proofs.Ytkjcdiolimajdaa.reduces
