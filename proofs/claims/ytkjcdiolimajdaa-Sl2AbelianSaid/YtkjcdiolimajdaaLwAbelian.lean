/- The abelian class of the program is that of the reference; that of a product is the sum modulo 12. No condition: every input. -/
import Derived.Test.YtkjcdiolimajdaaPlZ
import Derived.Test.YtkjcdiolimajdaaSlK
import Derived.Test.YtkjcdiolimajdaaPlG
namespace Go.Proofs.Ytkjcdiolimajdaa.abelian
open Go Go.RowKit Go.ChangeShapes Go.WideShapes Go.ChangeAt

set_option maxHeartbeats 4000000 in
theorem walk_ok (x y m : M2) (a c ee eg eh : Int) (ha : 0 ≤ a) (ha' : a ≤ 11) (hc : 0 ≤ c) (hc' : c ≤ 11) (he : ee = 0) (hg : eg = 0) (hh : eh = 0)
    (A : Hid (∀ w, Calls Try.prog 20 #[.agg #[.int .i64 x.a, .int .i64 x.b, .int .i64 x.c, .int .i64 x.d]] w fun e w' => e = .returned (.tuple #[.int .i64 a, .int .i64 ee]) ∧ Grow w w')) (AR : Hid (∀ w, Calls Try.prog 21 #[.agg #[.int .i64 x.a, .int .i64 x.b, .int .i64 x.c, .int .i64 x.d]] w fun e w' => e = .returned (.tuple #[.int .i64 a, .int .i64 ee]) ∧ Grow w w')) (B : Hid (∀ w, Calls Try.prog 20 #[.agg #[.int .i64 y.a, .int .i64 y.b, .int .i64 y.c, .int .i64 y.d]] w fun e w' => e = .returned (.tuple #[.int .i64 c, .int .i64 eg]) ∧ Grow w w'))
    (M : Hid (∀ w, Calls Try.prog 19 #[.agg #[.int .i64 x.a, .int .i64 x.b, .int .i64 x.c, .int .i64 x.d], .agg #[.int .i64 y.a, .int .i64 y.b, .int .i64 y.c, .int .i64 y.d]] w fun e w' => e = .returned (.tuple #[.agg #[.int .i64 m.a, .int .i64 m.b, .int .i64 m.c, .int .i64 m.d], .int .i64 eh]) ∧ Grow w w')) (D : Hid (∀ w, Calls Try.prog 20 #[.agg #[.int .i64 m.a, .int .i64 m.b, .int .i64 m.c, .int .i64 m.d]] w fun e w' => e = .returned (.tuple #[.int .i64 ((a + c).tmod 12), .int .i64 0]) ∧ Grow w w')) (w : World) :
    Calls Try.prog 6 #[.agg #[.int .i64 x.a, .int .i64 x.b, .int .i64 x.c, .int .i64 x.d], .agg #[.int .i64 y.a, .int .i64 y.b, .int .i64 y.c, .int .i64 y.d]] w fun e w' => e = .returned (.bool true) ∧ Grow w w' := by
  subst he hg hh
  go_enter Try.func6, Try.ntmps6
  go_wp2_with fail
  (go_at_call 12; refine (awake18_any _).mono ?_; rintro e w1 ⟨rfl, hb1⟩; have hc1 := hb1.cells; have hf1 := hb1.frees; have hz1 := hb1.size; (try simp at hz1))
  have zw1_0 : w.heap.size < w1.heap.size := (by omega); have zw1_1 : w.heap.size + 1 < w1.heap.size := (by omega)
  go_wp2_with fail
  (go_at_call 20; refine (A.out _).mono ?_; rintro e w2 ⟨rfl, hb2⟩; have hc2 := hb2.cells; have hf2 := hb2.frees; have hz2 := hb2.size; (try simp at hz2))
  have zw2_0 : w.heap.size < w2.heap.size := (by omega); have zw2_1 : w.heap.size + 1 < w2.heap.size := (by omega)
  go_wp2_with fail
  (go_at_call 21; refine (AR.out _).mono ?_; rintro e w3 ⟨rfl, hb3⟩; have hc3 := hb3.cells; have hf3 := hb3.frees; have hz3 := hb3.size; (try simp at hz3))
  have zw3_0 : w.heap.size < w3.heap.size := (by omega); have zw3_1 : w.heap.size + 1 < w3.heap.size := (by omega)
  go_wp2_with fail
  (go_at_call 20; refine (B.out _).mono ?_; rintro e w4 ⟨rfl, hb4⟩; have hc4 := hb4.cells; have hf4 := hb4.frees; have hz4 := hb4.size; (try simp at hz4))
  have zw4_0 : w.heap.size < w4.heap.size := (by omega); have zw4_1 : w.heap.size + 1 < w4.heap.size := (by omega)
  go_wp2_with fail
  (go_at_call 19; refine (M.out _).mono ?_; rintro e w5 ⟨rfl, hb5⟩; have hc5 := hb5.cells; have hf5 := hb5.frees; have hz5 := hb5.size; (try simp at hz5))
  have zw5_0 : w.heap.size < w5.heap.size := (by omega); have zw5_1 : w.heap.size + 1 < w5.heap.size := (by omega)
  go_wp2_with fail
  (go_at_call 20; refine (D.out _).mono ?_; rintro e w6 ⟨rfl, hb6⟩; have hc6 := hb6.cells; have hf6 := hb6.frees; have hz6 := hb6.size; (try simp at hz6))
  have zw6_0 : w.heap.size < w6.heap.size := (by omega); have zw6_1 : w.heap.size + 1 < w6.heap.size := (by omega); have zw6_2 : w5.heap.size < w6.heap.size := (by omega)
  go_wp2_with fail
  go_ret
  exact ⟨rfl, by (repeat (first | with_reducible exact Grow.refl _ | with_reducible refine Grow.alloc ?_ _ | with_reducible refine Grow.drew ?_ | with_reducible refine Grow.drewN ?_ _ | (with_reducible refine Grow.setCell ?_ ?hp _; (case hp => (simp; try omega))) | with_reducible refine Grow.trans ?_ (by assumption)))⟩

set_option maxHeartbeats 4000000 in
theorem walk_err (x y m : M2) (a c ee eg eh : Int) (h : ¬ (ee = 0 ∧ eg = 0 ∧ eh = 0))
    (A : Hid (∀ w, Calls Try.prog 20 #[.agg #[.int .i64 x.a, .int .i64 x.b, .int .i64 x.c, .int .i64 x.d]] w fun e w' => e = .returned (.tuple #[.int .i64 a, .int .i64 ee]) ∧ Grow w w')) (AR : Hid (∀ w, Calls Try.prog 21 #[.agg #[.int .i64 x.a, .int .i64 x.b, .int .i64 x.c, .int .i64 x.d]] w fun e w' => e = .returned (.tuple #[.int .i64 a, .int .i64 ee]) ∧ Grow w w')) (B : Hid (∀ w, Calls Try.prog 20 #[.agg #[.int .i64 y.a, .int .i64 y.b, .int .i64 y.c, .int .i64 y.d]] w fun e w' => e = .returned (.tuple #[.int .i64 c, .int .i64 eg]) ∧ Grow w w'))
    (M : Hid (∀ w, Calls Try.prog 19 #[.agg #[.int .i64 x.a, .int .i64 x.b, .int .i64 x.c, .int .i64 x.d], .agg #[.int .i64 y.a, .int .i64 y.b, .int .i64 y.c, .int .i64 y.d]] w fun e w' => e = .returned (.tuple #[.agg #[.int .i64 m.a, .int .i64 m.b, .int .i64 m.c, .int .i64 m.d], .int .i64 eh]) ∧ Grow w w')) (w : World) :
    Calls Try.prog 6 #[.agg #[.int .i64 x.a, .int .i64 x.b, .int .i64 x.c, .int .i64 x.d], .agg #[.int .i64 y.a, .int .i64 y.b, .int .i64 y.c, .int .i64 y.d]] w fun e w' => e = .returned (.bool true) ∧ Grow w w' := by
  have HH := Lib.hid h
  clear h
  by_cases h1 : ee = 0
  · have k1 : (ee != 0) = false := by simpa using h1
    by_cases h2 : eg = 0
    · have k2 : (eg != 0) = false := by simpa using h2
      have k3 : (eh != 0) = true := by have := HH.out; rw [bne_iff_ne]; omega
      clear h1 h2
      go_enter Try.func6, Try.ntmps6
      go_wp2_with fail
      (go_at_call 12; refine (awake18_any _).mono ?_; rintro e w1 ⟨rfl, hb1⟩; have hc1 := hb1.cells; have hf1 := hb1.frees; have hz1 := hb1.size; (try simp at hz1))
      have zw1_0 : w.heap.size < w1.heap.size := (by omega); have zw1_1 : w.heap.size + 1 < w1.heap.size := (by omega)
      go_wp2_with fail
      (go_at_call 20; refine (A.out _).mono ?_; rintro e w2 ⟨rfl, hb2⟩; have hc2 := hb2.cells; have hf2 := hb2.frees; have hz2 := hb2.size; (try simp at hz2))
      have zw2_0 : w.heap.size < w2.heap.size := (by omega); have zw2_1 : w.heap.size + 1 < w2.heap.size := (by omega)
      go_wp2_with fail
      (go_at_call 21; refine (AR.out _).mono ?_; rintro e w3 ⟨rfl, hb3⟩; have hc3 := hb3.cells; have hf3 := hb3.frees; have hz3 := hb3.size; (try simp at hz3))
      have zw3_0 : w.heap.size < w3.heap.size := (by omega); have zw3_1 : w.heap.size + 1 < w3.heap.size := (by omega)
      go_wp2_with fail
      (go_at_call 20; refine (B.out _).mono ?_; rintro e w4 ⟨rfl, hb4⟩; have hc4 := hb4.cells; have hf4 := hb4.frees; have hz4 := hb4.size; (try simp at hz4))
      have zw4_0 : w.heap.size < w4.heap.size := (by omega); have zw4_1 : w.heap.size + 1 < w4.heap.size := (by omega)
      go_wp2_with fail
      (go_at_call 19; refine (M.out _).mono ?_; rintro e w5 ⟨rfl, hb5⟩; have hc5 := hb5.cells; have hf5 := hb5.frees; have hz5 := hb5.size; (try simp at hz5))
      have zw5_0 : w.heap.size < w5.heap.size := (by omega); have zw5_1 : w.heap.size + 1 < w5.heap.size := (by omega)
      go_wp2_with fail
      go_ret
      exact ⟨rfl, by (repeat (first | with_reducible exact Grow.refl _ | with_reducible refine Grow.alloc ?_ _ | with_reducible refine Grow.drew ?_ | with_reducible refine Grow.drewN ?_ _ | (with_reducible refine Grow.setCell ?_ ?hp _; (case hp => (simp; try omega))) | with_reducible refine Grow.trans ?_ (by assumption)))⟩
    · have k2 : (eg != 0) = true := by simpa using h2
      clear h1 h2
      go_enter Try.func6, Try.ntmps6
      go_wp2_with fail
      (go_at_call 12; refine (awake18_any _).mono ?_; rintro e w1 ⟨rfl, hb1⟩; have hc1 := hb1.cells; have hf1 := hb1.frees; have hz1 := hb1.size; (try simp at hz1))
      have zw1_0 : w.heap.size < w1.heap.size := (by omega); have zw1_1 : w.heap.size + 1 < w1.heap.size := (by omega)
      go_wp2_with fail
      (go_at_call 20; refine (A.out _).mono ?_; rintro e w2 ⟨rfl, hb2⟩; have hc2 := hb2.cells; have hf2 := hb2.frees; have hz2 := hb2.size; (try simp at hz2))
      have zw2_0 : w.heap.size < w2.heap.size := (by omega); have zw2_1 : w.heap.size + 1 < w2.heap.size := (by omega)
      go_wp2_with fail
      (go_at_call 21; refine (AR.out _).mono ?_; rintro e w3 ⟨rfl, hb3⟩; have hc3 := hb3.cells; have hf3 := hb3.frees; have hz3 := hb3.size; (try simp at hz3))
      have zw3_0 : w.heap.size < w3.heap.size := (by omega); have zw3_1 : w.heap.size + 1 < w3.heap.size := (by omega)
      go_wp2_with fail
      (go_at_call 20; refine (B.out _).mono ?_; rintro e w4 ⟨rfl, hb4⟩; have hc4 := hb4.cells; have hf4 := hb4.frees; have hz4 := hb4.size; (try simp at hz4))
      have zw4_0 : w.heap.size < w4.heap.size := (by omega); have zw4_1 : w.heap.size + 1 < w4.heap.size := (by omega)
      go_wp2_with fail
      (go_at_call 19; refine (M.out _).mono ?_; rintro e w5 ⟨rfl, hb5⟩; have hc5 := hb5.cells; have hf5 := hb5.frees; have hz5 := hb5.size; (try simp at hz5))
      have zw5_0 : w.heap.size < w5.heap.size := (by omega); have zw5_1 : w.heap.size + 1 < w5.heap.size := (by omega)
      go_wp2_with fail
      go_ret
      exact ⟨rfl, by (repeat (first | with_reducible exact Grow.refl _ | with_reducible refine Grow.alloc ?_ _ | with_reducible refine Grow.drew ?_ | with_reducible refine Grow.drewN ?_ _ | (with_reducible refine Grow.setCell ?_ ?hp _; (case hp => (simp; try omega))) | with_reducible refine Grow.trans ?_ (by assumption)))⟩
  · have k1 : (ee != 0) = true := by simpa using h1
    clear h1
    go_enter Try.func6, Try.ntmps6
    go_wp2_with fail
    (go_at_call 12; refine (awake18_any _).mono ?_; rintro e w1 ⟨rfl, hb1⟩; have hc1 := hb1.cells; have hf1 := hb1.frees; have hz1 := hb1.size; (try simp at hz1))
    have zw1_0 : w.heap.size < w1.heap.size := (by omega); have zw1_1 : w.heap.size + 1 < w1.heap.size := (by omega)
    go_wp2_with fail
    (go_at_call 20; refine (A.out _).mono ?_; rintro e w2 ⟨rfl, hb2⟩; have hc2 := hb2.cells; have hf2 := hb2.frees; have hz2 := hb2.size; (try simp at hz2))
    have zw2_0 : w.heap.size < w2.heap.size := (by omega); have zw2_1 : w.heap.size + 1 < w2.heap.size := (by omega)
    go_wp2_with fail
    (go_at_call 21; refine (AR.out _).mono ?_; rintro e w3 ⟨rfl, hb3⟩; have hc3 := hb3.cells; have hf3 := hb3.frees; have hz3 := hb3.size; (try simp at hz3))
    have zw3_0 : w.heap.size < w3.heap.size := (by omega); have zw3_1 : w.heap.size + 1 < w3.heap.size := (by omega)
    go_wp2_with fail
    (go_at_call 20; refine (B.out _).mono ?_; rintro e w4 ⟨rfl, hb4⟩; have hc4 := hb4.cells; have hf4 := hb4.frees; have hz4 := hb4.size; (try simp at hz4))
    have zw4_0 : w.heap.size < w4.heap.size := (by omega); have zw4_1 : w.heap.size + 1 < w4.heap.size := (by omega)
    go_wp2_with fail
    (go_at_call 19; refine (M.out _).mono ?_; rintro e w5 ⟨rfl, hb5⟩; have hc5 := hb5.cells; have hf5 := hb5.frees; have hz5 := hb5.size; (try simp at hz5))
    have zw5_0 : w.heap.size < w5.heap.size := (by omega); have zw5_1 : w.heap.size + 1 < w5.heap.size := (by omega)
    go_wp2_with fail
    go_ret
    exact ⟨rfl, by (repeat (first | with_reducible exact Grow.refl _ | with_reducible refine Grow.alloc ?_ _ | with_reducible refine Grow.drew ?_ | with_reducible refine Grow.drewN ?_ _ | (with_reducible refine Grow.setCell ?_ ?hp _; (case hp => (simp; try omega))) | with_reducible refine Grow.trans ?_ (by assumption)))⟩

theorem walk (x : M2) (_hx : (-9223372036854775808 ≤ x.a ∧ x.a ≤ 9223372036854775807) ∧ (-9223372036854775808 ≤ x.b ∧ x.b ≤ 9223372036854775807) ∧ (-9223372036854775808 ≤ x.c ∧ x.c ≤ 9223372036854775807) ∧ (-9223372036854775808 ≤ x.d ∧ x.d ≤ 9223372036854775807)) (y : M2) (_hy : (-9223372036854775808 ≤ y.a ∧ y.a ≤ 9223372036854775807) ∧ (-9223372036854775808 ≤ y.b ∧ y.b ≤ 9223372036854775807) ∧ (-9223372036854775808 ≤ y.c ∧ y.c ≤ 9223372036854775807) ∧ (-9223372036854775808 ≤ y.d ∧ y.d ≤ 9223372036854775807)) (w : World) :
    Calls Try.prog 6 #[.agg #[.int .i64 x.a, .int .i64 x.b, .int .i64 x.c, .int .i64 x.d], .agg #[.int .i64 y.a, .int .i64 y.b, .int .i64 y.c, .int .i64 y.d]] w fun e w' => e = .returned (.bool true) ∧ Grow w w' := by
  obtain ⟨⟨a, e1⟩, h1⟩ : ∃ u, abF x = u := ⟨_, rfl⟩
  obtain ⟨⟨c, e2⟩, h2⟩ : ∃ u, abF y = u := ⟨_, rfl⟩
  obtain ⟨⟨m, e3⟩, h3⟩ : ∃ u, mulF x y = u := ⟨_, rfl⟩
  have A : Hid (∀ w, _) := fun w => abelian_any x w
  have AR : Hid (∀ w, _) := fun w => refAbelian_any x w
  have B : Hid (∀ w, _) := fun w => abelian_any y w
  have M : Hid (∀ w, _) := fun w => mul_any x y w
  have ba := abF_bd x
  have bc := abF_bd y
  rw [h1] at A AR ba
  rw [h2] at B bc
  rw [h3] at M
  by_cases hh : e1 = 0 ∧ e2 = 0 ∧ e3 = 0
  · obtain ⟨rfl, rfl, rfl⟩ := hh
    have D : Hid (∀ w, _) := fun w => abelian_any m w
    rw [ab_mul h1 h2 h3] at D
    exact walk_ok x y m a c 0 0 0 ba.1 ba.2 bc.1 bc.2 rfl rfl rfl A AR B M D w
  · exact walk_err x y m a c e1 e2 e3 hh A AR B M w

set_option maxRecDepth 100000 in
theorem lifted (os : Os) (started : os.Started) (H : Type) (enc : TypeId × Value → H) :
    ReturnsInHanded {} Try.checked os 6 .any (Rows.sl2AbelianSpec.pre6 enc Try.prog Try.f6 Rows.sl2AbelianRow.domain false) (Rows.sl2AbelianSpec.post enc Try.prog Try.f6 false true false false) := by
  refine returnsInHanded_of_change (C := Try.checked) own started (by kernel_rfl) Try.func6
    (ChangeSpec.witness6 (enc := enc) (C := Try.checked) false ⟨#[], #[.agg #[.int .i64 0, .int .i64 0, .int .i64 0, .int .i64 0], .agg #[.int .i64 0, .int .i64 0, .int .i64 0, .int .i64 0]], []⟩ 8 (by kernel_rfl) (by kernel_rfl) (by kernel_rfl) (by kernel_rfl)) ?_
  intro W base args ds gs before hval0 hW hcnd _
  have hval : ∀ (j : Nat) t v, Try.f6.params[j]? = some t → args[j]? = some v → Value.okWide Try.prog W .any base t v := hval0
  have hW' := hW
  obtain ⟨p, q, hA0, hV, rfl, -, -⟩ := hW
  have hA : DataW.TrodAll enc Try.prog W 0 (fun _ => true) true Try.f6.params.toList args.toList ds p := hA0
  rw [Try.params6] at hA hval
  obtain ⟨v0, vs0, d0, ds0, p0, q0, hargs, rfl, rfl, h0, r0⟩ := trodAll_cons hA
  obtain ⟨v1, vs1, d1, ds1, p1, q1, rfl, rfl, rfl, h1, r1⟩ := trodAll_cons r0
  obtain ⟨rfl, rfl, rfl⟩ := trodAll_nil r1
  obtain rfl : args = #[v0, v1] := by cases args; simp_all
  obtain ⟨rfl, rfl⟩ := trodVars_none hV
  obtain ⟨a0, rfl, c0⟩ := open_mat (hval 0 23 v0 rfl rfl) h0
  obtain ⟨a1, rfl, c1⟩ := open_mat (hval 1 23 v1 rfl rfl) h1
  clear hA0 hval0
  refine (walk a0 c0 a1 c1 W).mono fun e W' ⟨he, hg⟩ => ?_
  subst he
  exact ⟨_, rfl, law_post 4 rfl Try.underlying4 laidOut (of_decide_eq_true (by kernel_rfl)) rfl hW' rfl hg⟩

theorem over : Rows.sl2AbelianRow.holds Try.pinned (OpenSpec.ofChange Rows.sl2AbelianSpec) :=
  OpenClaim.holds_of_wide 6 Try.f6 rfl rfl rfl rfl rfl rfl rfl ⟨rfl, rfl, rfl, rfl, rfl⟩ rfl rfl rfl rfl rfl (by kernel_rfl) Try.func6 (by kernel_rfl)
    (of_decide_eq_true (by kernel_rfl)) (by unfold Func.isWrapper; rw [if_neg (by decide +kernel)]; exact ⟨rfl, rfl⟩)
    (fun os started H enc _ => lifted os started H enc)

theorem proved : Rows.Sl2AbelianSaid := over
end Go.Proofs.Ytkjcdiolimajdaa.abelian
