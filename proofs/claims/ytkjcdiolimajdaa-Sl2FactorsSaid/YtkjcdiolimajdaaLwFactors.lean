/- The word of a matrix is that of the reference, it is short, and its value is the matrix. No condition: every input. -/
import Derived.Test.YtkjcdiolimajdaaPlZ
import Derived.Test.YtkjcdiolimajdaaSlK
import Derived.Test.YtkjcdiolimajdaaSlU
import Derived.Test.YtkjcdiolimajdaaSlR
import Derived.Test.YtkjcdiolimajdaaSlH
import Derived.Test.YtkjcdiolimajdaaPlI
namespace Go.Proofs.Ytkjcdiolimajdaa.factors
open Go Go.RowKit Go.ChangeShapes Go.WideShapes Go.ChangeAt

set_option maxHeartbeats 1000000 in
theorem walk_err (m : M2) (ng : Bool) (l : List Int) (n : Nat) (hn : Hid (l.length = n)) (hl : Hid (l.length ≤ 1152921504606846976)) (er : Int) (he : (er != 0) = true) (A : Hid (∀ w, Calls Try.prog 29 #[.agg #[.int .i64 m.a, .int .i64 m.b, .int .i64 m.c, .int .i64 m.d]] w fun ex w' => ∃ v, ex = .returned (.tuple #[.agg #[.bool ng, v], .int .i64 er]) ∧ RdInts w' v l ∧ Grow w w')) (AR : Hid (∀ w, Calls Try.prog 30 #[.agg #[.int .i64 m.a, .int .i64 m.b, .int .i64 m.c, .int .i64 m.d]] w fun ex w' => ∃ v, ex = .returned (.tuple #[.agg #[.bool ng, v], .int .i64 er]) ∧ RdInts w' v l ∧ Grow w w')) (w : World) :
    Calls Try.prog 9 #[.agg #[.int .i64 m.a, .int .i64 m.b, .int .i64 m.c, .int .i64 m.d]] w fun ex w' => ex = .returned (.bool true) ∧ Grow w w' := by
  go_enter Try.func9, Try.ntmps9
  go_wp2_with fail
  (go_at_call 12; refine (awake18_any _).mono ?_; rintro e w1 ⟨rfl, hb1⟩; have hc1 := hb1.cells; have hf1 := hb1.frees; have hz1 := hb1.size; (try simp at hz1))
  have zw1_0 : w.heap.size < w1.heap.size := (by omega)
  go_wp2_with fail
  go_at_call 29
  refine (A.out _).mono ?_
  rintro e w2 ⟨v2, rfl, hr2, hb2⟩
  obtain ⟨a2, c2, rfl⟩ := hr2.form
  rw [hn.out] at hr2 ⊢
  have HR2 := Lib.hid hr2
  clear hr2
  have hc2 := hb2.cells
  have hf2 := hb2.frees
  have hz2 := hb2.size
  (try simp at hz2)
  have zw2_0 : w.heap.size < w2.heap.size := (by omega)
  go_wp2_with fail
  go_at_call 30
  refine (AR.out _).mono ?_
  rintro e w3 ⟨v3, rfl, hr3, hb3⟩
  obtain ⟨a3, c3, rfl⟩ := hr3.form
  rw [hn.out] at hr3 ⊢
  have HR3 := Lib.hid hr3
  clear hr3
  have hc3 := hb3.cells
  have hf3 := hb3.frees
  have hz3 := hb3.size
  (try simp at hz3)
  have zw3_0 : w.heap.size < w3.heap.size := (by omega); have zw3_1 : w2.heap.size < w3.heap.size := (by omega)
  go_wp2_with fail
  go_at_call 31
  refine (ints_same l _ _ hl.out _ (HR2.out.grow (by (repeat (first | with_reducible exact Grow.refl _ | with_reducible refine Grow.alloc ?_ _ | with_reducible refine Grow.drew ?_ | with_reducible refine Grow.drewN ?_ _ | (with_reducible refine Grow.setCell ?_ ?hp _; (case hp => (simp; try omega))) | with_reducible refine Grow.trans ?_ (by assumption))))) (HR3.out.grow (by (repeat (first | with_reducible exact Grow.refl _ | with_reducible refine Grow.alloc ?_ _ | with_reducible refine Grow.drew ?_ | with_reducible refine Grow.drewN ?_ _ | (with_reducible refine Grow.setCell ?_ ?hp _; (case hp => (simp; try omega))) | with_reducible refine Grow.trans ?_ (by assumption)))))).mono ?_
  rintro e w4 ⟨rfl, hb4⟩
  have hc4 := hb4.cells
  have hf4 := hb4.frees
  have hz4 := hb4.size
  (try simp at hz4)
  have zw4_0 : w.heap.size < w4.heap.size := (by omega); have zw4_1 : w2.heap.size < w4.heap.size := (by omega); have zw4_2 : w3.heap.size < w4.heap.size := (by omega)
  go_wp2_with fail
  go_ret
  exact ⟨rfl, by (repeat (first | with_reducible exact Grow.refl _ | with_reducible refine Grow.alloc ?_ _ | with_reducible refine Grow.drew ?_ | with_reducible refine Grow.drewN ?_ _ | (with_reducible refine Grow.setCell ?_ ?hp _; (case hp => (simp; try omega))) | with_reducible refine Grow.trans ?_ (by assumption)))⟩
set_option maxHeartbeats 1000000 in
theorem walk_ok (m : M2) (ng : Bool) (l : List Int) (n : Nat) (hn : Hid (l.length = n)) (hl : Hid (l.length ≤ 1152921504606846976)) (er : Int) (he : er = 0) (hn33 : n ≤ 33) (A : Hid (∀ w, Calls Try.prog 29 #[.agg #[.int .i64 m.a, .int .i64 m.b, .int .i64 m.c, .int .i64 m.d]] w fun ex w' => ∃ v, ex = .returned (.tuple #[.agg #[.bool ng, v], .int .i64 er]) ∧ RdInts w' v l ∧ Grow w w')) (AR : Hid (∀ w, Calls Try.prog 30 #[.agg #[.int .i64 m.a, .int .i64 m.b, .int .i64 m.c, .int .i64 m.d]] w fun ex w' => ∃ v, ex = .returned (.tuple #[.agg #[.bool ng, v], .int .i64 er]) ∧ RdInts w' v l ∧ Grow w w'))
    (V : Hid (∀ w v, RdInts w v l → Calls Try.prog 32 #[.agg #[.bool ng, v]] w fun ex w' => ex = .returned (.tuple #[.agg #[.int .i64 m.a, .int .i64 m.b, .int .i64 m.c, .int .i64 m.d], .int .i64 0]) ∧ Grow w w')) (w : World) :
    Calls Try.prog 9 #[.agg #[.int .i64 m.a, .int .i64 m.b, .int .i64 m.c, .int .i64 m.d]] w fun ex w' => ex = .returned (.bool true) ∧ Grow w w' := by
  subst he
  have hn1 : (n : Int) ≤ 33 := by omega
  go_enter Try.func9, Try.ntmps9
  go_wp2_with fail
  (go_at_call 12; refine (awake18_any _).mono ?_; rintro e w1 ⟨rfl, hb1⟩; have hc1 := hb1.cells; have hf1 := hb1.frees; have hz1 := hb1.size; (try simp at hz1))
  have zw1_0 : w.heap.size < w1.heap.size := (by omega)
  go_wp2_with fail
  go_at_call 29
  refine (A.out _).mono ?_
  rintro e w2 ⟨v2, rfl, hr2, hb2⟩
  obtain ⟨a2, c2, rfl⟩ := hr2.form
  rw [hn.out] at hr2 ⊢
  have HR2 := Lib.hid hr2
  clear hr2
  have hc2 := hb2.cells
  have hf2 := hb2.frees
  have hz2 := hb2.size
  (try simp at hz2)
  have zw2_0 : w.heap.size < w2.heap.size := (by omega)
  go_wp2_with fail
  go_at_call 30
  refine (AR.out _).mono ?_
  rintro e w3 ⟨v3, rfl, hr3, hb3⟩
  obtain ⟨a3, c3, rfl⟩ := hr3.form
  rw [hn.out] at hr3 ⊢
  have HR3 := Lib.hid hr3
  clear hr3
  have hc3 := hb3.cells
  have hf3 := hb3.frees
  have hz3 := hb3.size
  (try simp at hz3)
  have zw3_0 : w.heap.size < w3.heap.size := (by omega); have zw3_1 : w2.heap.size < w3.heap.size := (by omega)
  go_wp2_with fail
  go_at_call 31
  refine (ints_same l _ _ hl.out _ (HR2.out.grow (by (repeat (first | with_reducible exact Grow.refl _ | with_reducible refine Grow.alloc ?_ _ | with_reducible refine Grow.drew ?_ | with_reducible refine Grow.drewN ?_ _ | (with_reducible refine Grow.setCell ?_ ?hp _; (case hp => (simp; try omega))) | with_reducible refine Grow.trans ?_ (by assumption))))) (HR3.out.grow (by (repeat (first | with_reducible exact Grow.refl _ | with_reducible refine Grow.alloc ?_ _ | with_reducible refine Grow.drew ?_ | with_reducible refine Grow.drewN ?_ _ | (with_reducible refine Grow.setCell ?_ ?hp _; (case hp => (simp; try omega))) | with_reducible refine Grow.trans ?_ (by assumption)))))).mono ?_
  rintro e w4 ⟨rfl, hb4⟩
  have hc4 := hb4.cells
  have hf4 := hb4.frees
  have hz4 := hb4.size
  (try simp at hz4)
  have zw4_0 : w.heap.size < w4.heap.size := (by omega); have zw4_1 : w2.heap.size < w4.heap.size := (by omega); have zw4_2 : w3.heap.size < w4.heap.size := (by omega)
  go_wp2_with fail
  go_at_call 32
  refine (V.out _ _ (HR2.out.grow (by (repeat (first | with_reducible exact Grow.refl _ | with_reducible refine Grow.alloc ?_ _ | with_reducible refine Grow.drew ?_ | with_reducible refine Grow.drewN ?_ _ | (with_reducible refine Grow.setCell ?_ ?hp _; (case hp => (simp; try omega))) | with_reducible refine Grow.trans ?_ (by assumption)))))).mono ?_
  rintro e w5 ⟨rfl, hb5⟩
  have hc5 := hb5.cells
  have hf5 := hb5.frees
  have hz5 := hb5.size
  (try simp at hz5)
  have zw5_0 : w.heap.size < w5.heap.size := (by omega); have zw5_1 : w2.heap.size < w5.heap.size := (by omega); have zw5_2 : w3.heap.size < w5.heap.size := (by omega)
  go_wp2_with fail
  go_ret
  exact ⟨rfl, by (repeat (first | with_reducible exact Grow.refl _ | with_reducible refine Grow.alloc ?_ _ | with_reducible refine Grow.drew ?_ | with_reducible refine Grow.drewN ?_ _ | (with_reducible refine Grow.setCell ?_ ?hp _; (case hp => (simp; try omega))) | with_reducible refine Grow.trans ?_ (by assumption)))⟩

theorem walk (m : M2) (_hm : (-9223372036854775808 ≤ m.a ∧ m.a ≤ 9223372036854775807) ∧ (-9223372036854775808 ≤ m.b ∧ m.b ≤ 9223372036854775807) ∧ (-9223372036854775808 ≤ m.c ∧ m.c ≤ 9223372036854775807) ∧ (-9223372036854775808 ≤ m.d ∧ m.d ≤ 9223372036854775807)) (w : World) :
    Calls Try.prog 9 #[.agg #[.int .i64 m.a, .int .i64 m.b, .int .i64 m.c, .int .i64 m.d]] w fun ex w' => ex = .returned (.bool true) ∧ Grow w w' := by
  by_cases h0 : checkF m = 0
  · have hu : facF m = (facW m, 0) := by simp [facF, h0]
    have hl := fac_len m
    have hv := val_fac h0
    refine walk_ok m (facW m).neg (facW m).exps _ rfl (by show _ ≤ _; omega) 0 rfl (by omega) ?_ ?_ ?_ w
    · intro w
      have h := factor_any m w
      rw [hu] at h
      exact h.mono fun e w' ⟨v, h1, h2, h3⟩ => ⟨v, h1, h2.rd, h3⟩
    · intro w
      have h := refFactor_any m w
      rw [hu] at h
      exact h.mono fun e w' ⟨v, h1, h2, h3⟩ => ⟨v, h1, h2.rd, h3⟩
    · intro w v hr
      have h := value_any (facW m).neg (facW m).exps v (by omega) w hr
      have e : valF ⟨(facW m).neg, (facW m).exps⟩ = (m, 0) := hv
      rw [e] at h
      exact h
  · refine walk_err m false [] 0 rfl (by show _ ≤ _; simp) (checkF m) (by simpa using h0) ?_ ?_ w
    · intro w
      exact (factor_err m h0 w).mono fun e w' ⟨h1, h3⟩ => ⟨_, h1, .inl ⟨none, 0, rfl, rfl⟩, h3⟩
    · intro w
      exact (refFactor_err m h0 w).mono fun e w' ⟨h1, h3⟩ => ⟨_, h1, .inl ⟨none, 0, rfl, rfl⟩, h3⟩

set_option maxRecDepth 100000 in
theorem lifted (os : Os) (started : os.Started) (H : Type) (enc : TypeId × Value → H) :
    ReturnsInHanded {} Try.checked os 9 .any (Rows.sl2FactorsSpec.pre6 enc Try.prog Try.f9 Rows.sl2FactorsRow.domain false) (Rows.sl2FactorsSpec.post enc Try.prog Try.f9 false true false false) := by
  refine returnsInHanded_of_change (C := Try.checked) own started (by kernel_rfl) Try.func9
    (ChangeSpec.witness6 (enc := enc) (C := Try.checked) false ⟨#[], #[.agg #[.int .i64 0, .int .i64 0, .int .i64 0, .int .i64 0]], []⟩ 8 (by kernel_rfl) (by kernel_rfl) (by kernel_rfl) (by kernel_rfl)) ?_
  intro W base args ds gs before hval0 hW hcnd _
  have hval : ∀ (j : Nat) t v, Try.f9.params[j]? = some t → args[j]? = some v → Value.okWide Try.prog W .any base t v := hval0
  have hW' := hW
  obtain ⟨p, q, hA0, hV, rfl, -, -⟩ := hW
  have hA : DataW.TrodAll enc Try.prog W 0 (fun _ => true) true Try.f9.params.toList args.toList ds p := hA0
  rw [Try.params9] at hA hval
  obtain ⟨v0, vs0, d0, ds0, p0, q0, hargs, rfl, rfl, h0, r0⟩ := trodAll_cons hA
  obtain ⟨rfl, rfl, rfl⟩ := trodAll_nil r0
  obtain rfl : args = #[v0] := by cases args; simp_all
  obtain ⟨rfl, rfl⟩ := trodVars_none hV
  obtain ⟨a0, rfl, c0⟩ := open_mat (hval 0 23 v0 rfl rfl) h0
  clear hA0 hval0
  refine (walk a0 c0 W).mono fun e W' ⟨he, hg⟩ => ?_
  subst he
  exact ⟨_, rfl, law_post 4 rfl Try.underlying4 laidOut (of_decide_eq_true (by kernel_rfl)) rfl hW' rfl hg⟩

theorem over : Rows.sl2FactorsRow.holds Try.pinned (OpenSpec.ofChange Rows.sl2FactorsSpec) :=
  OpenClaim.holds_of_wide 9 Try.f9 rfl rfl rfl rfl rfl rfl rfl ⟨rfl, rfl, rfl, rfl, rfl⟩ rfl rfl rfl rfl rfl (by kernel_rfl) Try.func9 (by kernel_rfl)
    (of_decide_eq_true (by kernel_rfl)) (by unfold Func.isWrapper; rw [if_neg (by decide +kernel)]; exact ⟨rfl, rfl⟩)
    (fun os started H enc _ => lifted os started H enc)

theorem proved : Rows.Sl2FactorsSaid := over
end Go.Proofs.Ytkjcdiolimajdaa.factors
