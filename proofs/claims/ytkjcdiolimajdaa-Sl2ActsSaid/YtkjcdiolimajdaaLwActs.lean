/- Applying a product is applying the second matrix and then the first one. No condition: every input. -/
import Derived.Test.YtkjcdiolimajdaaPlZ
import Derived.Test.YtkjcdiolimajdaaSlK
import Derived.Test.YtkjcdiolimajdaaSlE
import Derived.Test.YtkjcdiolimajdaaPlE
namespace Go.Proofs.Ytkjcdiolimajdaa.acts
open Go Go.RowKit Go.ChangeShapes Go.WideShapes Go.ChangeAt

theorem det_mul (x y : M2) : (x.times y).det = x.det * y.det := by
  obtain ⟨a, b, c, d⟩ := x
  obtain ⟨p, q, r, s⟩ := y
  simp only [M2.det, M2.times]
  grind
theorem img_img {x y : M2} {c : C2} (hx : x.det ≠ 0) (hy : y.det ≠ 0) (hc : ¬ (c.p = 0 ∧ c.q = 0)) : x.img (y.img c) = (x.times y).img c := by
  have n1 := img_ne hy hc
  have n2 : (x.times y).det ≠ 0 := by rw [det_mul]; exact Int.mul_ne_zero hx hy
  have n3 := img_ne n2 hc
  obtain ⟨t, ht, e1, e2, hn⟩ := low_spec n1
  have hb : ¬ ((y.img c).p = 0 ∧ (y.img c).q = 0) := by
    rintro ⟨h1, h2⟩
    have : (y.img c).p = 1 := hn.2.2 h2
    omega
  have n4 := img_ne (m := x) (c := y.img c) hx hb
  refine (low_eq n3 (low_norm n4) ?_).symm
  have h5 := low_cross n4
  have e3 : (x.times y).a * c.p + (x.times y).b * c.q = t * (x.a * (y.img c).p + x.b * (y.img c).q) := by
    have : t * (x.a * (y.img c).p + x.b * (y.img c).q) = x.a * (t * (y.img c).p) + x.b * (t * (y.img c).q) := by grind
    rw [this]
    show _ = x.a * (t * (lowF (y.a * c.p + y.b * c.q) (y.c * c.p + y.d * c.q)).p) + x.b * (t * (lowF (y.a * c.p + y.b * c.q) (y.c * c.p + y.d * c.q)).q)
    rw [← e1, ← e2]
    simp only [M2.times]
    grind
  have e4 : (x.times y).c * c.p + (x.times y).d * c.q = t * (x.c * (y.img c).p + x.d * (y.img c).q) := by
    have : t * (x.c * (y.img c).p + x.d * (y.img c).q) = x.c * (t * (y.img c).p) + x.d * (t * (y.img c).q) := by grind
    rw [this]
    show _ = x.c * (t * (lowF (y.a * c.p + y.b * c.q) (y.c * c.p + y.d * c.q)).p) + x.d * (t * (lowF (y.a * c.p + y.b * c.q) (y.c * c.p + y.d * c.q)).q)
    rw [← e1, ← e2]
    simp only [M2.times]
    grind
  rw [e3, e4]
  grind
theorem acts {x y : M2} {c b : C2} {m : M2} (h1 : applyF y c = (b, 0)) (h2 : mulF x y = (m, 0)) : applyF x b = applyF m c := by
  have hx : x.fits = true ∧ y.fits = true ∧ m = x.times y ∧ m.fits = true := by
    unfold mulF at h2
    by_cases h : (x.fits && y.fits) = true
    · rw [if_pos h] at h2
      by_cases h' : (x.times y).fits = true
      · rw [if_pos h'] at h2
        obtain ⟨rfl, -⟩ := Prod.mk.inj h2
        simp only [Bool.and_eq_true] at h
        exact ⟨h.1, h.2, rfl, h'⟩
      · rw [if_neg h'] at h2; simp at h2
    · rw [if_neg h] at h2; simp at h2
  obtain ⟨fx, fy, rfl, fm⟩ := hx
  unfold applyF at h1
  rw [if_pos fy] at h1
  by_cases hy : y.det = 0
  · rw [if_pos hy] at h1; simp at h1
  rw [if_neg hy] at h1
  have hc : ccF c = 0 := by
    by_cases hc : ccF c = 0
    · exact hc
    · rw [if_neg hc] at h1; exact absurd (Prod.mk.inj h1).2 hc
  rw [if_pos hc] at h1
  have hi : (inB (y.img c).p && inB (y.img c).q) = true := by
    by_cases hi : (inB (y.img c).p && inB (y.img c).q) = true
    · exact hi
    · rw [if_neg hi] at h1; simp at h1
  rw [if_pos hi] at h1
  obtain ⟨rfl, -⟩ := Prod.mk.inj h1
  have hb : ccF (y.img c) = 0 := by
    simp only [Bool.and_eq_true] at hi
    exact cc_norm.2 ⟨hi.1, hi.2, low_norm (img_ne hy (cc_ne hc))⟩
  unfold applyF
  rw [if_pos fx, if_pos fm, if_pos hb, if_pos hc]
  by_cases hd : x.det = 0
  · have : (x.times y).det = 0 := by rw [det_mul, hd, Int.zero_mul]
    rw [if_pos hd, if_pos this]
  · have : (x.times y).det ≠ 0 := by rw [det_mul]; exact Int.mul_ne_zero hd hy
    rw [if_neg hd, if_neg this, img_img hd hy (cc_ne hc)]

set_option maxHeartbeats 4000000 in
theorem walk (x : M2) (_hx : (-9223372036854775808 ≤ x.a ∧ x.a ≤ 9223372036854775807) ∧ (-9223372036854775808 ≤ x.b ∧ x.b ≤ 9223372036854775807) ∧ (-9223372036854775808 ≤ x.c ∧ x.c ≤ 9223372036854775807) ∧ (-9223372036854775808 ≤ x.d ∧ x.d ≤ 9223372036854775807)) (y : M2) (_hy : (-9223372036854775808 ≤ y.a ∧ y.a ≤ 9223372036854775807) ∧ (-9223372036854775808 ≤ y.b ∧ y.b ≤ 9223372036854775807) ∧ (-9223372036854775808 ≤ y.c ∧ y.c ≤ 9223372036854775807) ∧ (-9223372036854775808 ≤ y.d ∧ y.d ≤ 9223372036854775807)) (c : C2) (_hc : (-9223372036854775808 ≤ c.p ∧ c.p ≤ 9223372036854775807) ∧ (-9223372036854775808 ≤ c.q ∧ c.q ≤ 9223372036854775807)) (w : World) :
    Calls Try.prog 5 #[.agg #[.int .i64 x.a, .int .i64 x.b, .int .i64 x.c, .int .i64 x.d], .agg #[.int .i64 y.a, .int .i64 y.b, .int .i64 y.c, .int .i64 y.d], .agg #[.int .i64 c.p, .int .i64 c.q]] w fun e w' => e = .returned (.bool true) ∧ Grow w w' := by
  clear _hx _hy _hc
  obtain ⟨⟨b, e1⟩, hb⟩ : ∃ u, applyF y c = u := ⟨_, rfl⟩
  obtain ⟨⟨m, e2⟩, hm⟩ : ∃ u, mulF x y = u := ⟨_, rfl⟩
  have A1 := Lib.hid (fun w => apply_any y c w)
  have A2 := Lib.hid (fun w => mul_any x y w)
  rw [hb] at A1
  rw [hm] at A2
  by_cases h1 : e1 = 0
  · by_cases h2 : e2 = 0
    · subst h1
      subst h2
      have hE := acts hb hm
      have A3 := Lib.hid (fun w => apply_any x b w)
      have A4 := Lib.hid (fun w => apply_any m c w)
      rw [hE] at A3
      clear hE hb hm
      generalize applyF m c = u at *
      go_enter Try.func5, Try.ntmps5
      go_wp2_with fail
      (go_at_call 12; refine (awake18_any _).mono ?_; rintro e w1 ⟨rfl, hb1⟩; have hc1 := hb1.cells; have hf1 := hb1.frees; have hz1 := hb1.size; (try simp at hz1))
      have zw1_0 : w.heap.size < w1.heap.size := (by omega); have zw1_1 : w.heap.size + 1 < w1.heap.size := (by omega); have zw1_2 : w.heap.size + 1 + 1 < w1.heap.size := (by omega)
      go_wp2_with fail
      (go_at_call 13; refine (A1.out _).mono ?_; rintro e w2 ⟨rfl, hb2⟩; have hc2 := hb2.cells; have hf2 := hb2.frees; have hz2 := hb2.size; (try simp at hz2))
      have zw2_0 : w.heap.size < w2.heap.size := (by omega); have zw2_1 : w.heap.size + 1 < w2.heap.size := (by omega); have zw2_2 : w.heap.size + 1 + 1 < w2.heap.size := (by omega)
      go_wp2_with fail
      (go_at_call 19; refine (A2.out _).mono ?_; rintro e w3 ⟨rfl, hb3⟩; have hc3 := hb3.cells; have hf3 := hb3.frees; have hz3 := hb3.size; (try simp at hz3))
      have zw3_0 : w.heap.size < w3.heap.size := (by omega); have zw3_1 : w.heap.size + 1 < w3.heap.size := (by omega); have zw3_2 : w.heap.size + 1 + 1 < w3.heap.size := (by omega); have zw3_3 : w2.heap.size < w3.heap.size := (by omega)
      go_wp2_with fail
      (go_at_call 13; refine (A3.out _).mono ?_; rintro e w4 ⟨rfl, hb4⟩; have hc4 := hb4.cells; have hf4 := hb4.frees; have hz4 := hb4.size; (try simp at hz4))
      have zw4_0 : w.heap.size < w4.heap.size := (by omega); have zw4_1 : w.heap.size + 1 < w4.heap.size := (by omega); have zw4_2 : w.heap.size + 1 + 1 < w4.heap.size := (by omega); have zw4_3 : w2.heap.size < w4.heap.size := (by omega); have zw4_4 : w3.heap.size < w4.heap.size := (by omega)
      go_wp2_with fail
      (go_at_call 13; refine (A4.out _).mono ?_; rintro e w5 ⟨rfl, hb5⟩; have hc5 := hb5.cells; have hf5 := hb5.frees; have hz5 := hb5.size; (try simp at hz5))
      have zw5_0 : w.heap.size < w5.heap.size := (by omega); have zw5_1 : w.heap.size + 1 < w5.heap.size := (by omega); have zw5_2 : w.heap.size + 1 + 1 < w5.heap.size := (by omega); have zw5_3 : w2.heap.size < w5.heap.size := (by omega); have zw5_4 : w3.heap.size < w5.heap.size := (by omega); have zw5_5 : w4.heap.size < w5.heap.size := (by omega)
      go_wp2_with fail
      go_ret
      exact ⟨rfl, by (repeat (first | with_reducible exact Grow.refl _ | with_reducible refine Grow.alloc ?_ _ | with_reducible refine Grow.drew ?_ | with_reducible refine Grow.drewN ?_ _ | (with_reducible refine Grow.setCell ?_ ?hp _; (case hp => (simp; try omega))) | with_reducible refine Grow.trans ?_ (by assumption)))⟩
    · have k2 : (e2 != 0) = true := by simpa using h2
      subst h1
      clear h2 hb hm
      go_enter Try.func5, Try.ntmps5
      go_wp2_with fail
      (go_at_call 12; refine (awake18_any _).mono ?_; rintro e w1 ⟨rfl, hb1⟩; have hc1 := hb1.cells; have hf1 := hb1.frees; have hz1 := hb1.size; (try simp at hz1))
      have zw1_0 : w.heap.size < w1.heap.size := (by omega); have zw1_1 : w.heap.size + 1 < w1.heap.size := (by omega); have zw1_2 : w.heap.size + 1 + 1 < w1.heap.size := (by omega)
      go_wp2_with fail
      (go_at_call 13; refine (A1.out _).mono ?_; rintro e w2 ⟨rfl, hb2⟩; have hc2 := hb2.cells; have hf2 := hb2.frees; have hz2 := hb2.size; (try simp at hz2))
      have zw2_0 : w.heap.size < w2.heap.size := (by omega); have zw2_1 : w.heap.size + 1 < w2.heap.size := (by omega); have zw2_2 : w.heap.size + 1 + 1 < w2.heap.size := (by omega)
      go_wp2_with fail
      (go_at_call 19; refine (A2.out _).mono ?_; rintro e w3 ⟨rfl, hb3⟩; have hc3 := hb3.cells; have hf3 := hb3.frees; have hz3 := hb3.size; (try simp at hz3))
      have zw3_0 : w.heap.size < w3.heap.size := (by omega); have zw3_1 : w.heap.size + 1 < w3.heap.size := (by omega); have zw3_2 : w.heap.size + 1 + 1 < w3.heap.size := (by omega); have zw3_3 : w2.heap.size < w3.heap.size := (by omega)
      go_wp2_with fail
      go_ret
      exact ⟨rfl, by (repeat (first | with_reducible exact Grow.refl _ | with_reducible refine Grow.alloc ?_ _ | with_reducible refine Grow.drew ?_ | with_reducible refine Grow.drewN ?_ _ | (with_reducible refine Grow.setCell ?_ ?hp _; (case hp => (simp; try omega))) | with_reducible refine Grow.trans ?_ (by assumption)))⟩
  · have k1 : (e1 != 0) = true := by simpa using h1
    clear h1 hb hm
    go_enter Try.func5, Try.ntmps5
    go_wp2_with fail
    (go_at_call 12; refine (awake18_any _).mono ?_; rintro e w1 ⟨rfl, hb1⟩; have hc1 := hb1.cells; have hf1 := hb1.frees; have hz1 := hb1.size; (try simp at hz1))
    have zw1_0 : w.heap.size < w1.heap.size := (by omega); have zw1_1 : w.heap.size + 1 < w1.heap.size := (by omega); have zw1_2 : w.heap.size + 1 + 1 < w1.heap.size := (by omega)
    go_wp2_with fail
    (go_at_call 13; refine (A1.out _).mono ?_; rintro e w2 ⟨rfl, hb2⟩; have hc2 := hb2.cells; have hf2 := hb2.frees; have hz2 := hb2.size; (try simp at hz2))
    have zw2_0 : w.heap.size < w2.heap.size := (by omega); have zw2_1 : w.heap.size + 1 < w2.heap.size := (by omega); have zw2_2 : w.heap.size + 1 + 1 < w2.heap.size := (by omega)
    go_wp2_with fail
    (go_at_call 19; refine (A2.out _).mono ?_; rintro e w3 ⟨rfl, hb3⟩; have hc3 := hb3.cells; have hf3 := hb3.frees; have hz3 := hb3.size; (try simp at hz3))
    have zw3_0 : w.heap.size < w3.heap.size := (by omega); have zw3_1 : w.heap.size + 1 < w3.heap.size := (by omega); have zw3_2 : w.heap.size + 1 + 1 < w3.heap.size := (by omega); have zw3_3 : w2.heap.size < w3.heap.size := (by omega)
    go_wp2_with fail
    go_ret
    exact ⟨rfl, by (repeat (first | with_reducible exact Grow.refl _ | with_reducible refine Grow.alloc ?_ _ | with_reducible refine Grow.drew ?_ | with_reducible refine Grow.drewN ?_ _ | (with_reducible refine Grow.setCell ?_ ?hp _; (case hp => (simp; try omega))) | with_reducible refine Grow.trans ?_ (by assumption)))⟩

set_option maxRecDepth 100000 in
theorem lifted (os : Os) (started : os.Started) (H : Type) (enc : TypeId × Value → H) :
    ReturnsInHanded {} Try.checked os 5 .any (Rows.sl2ActsSpec.pre6 enc Try.prog Try.f5 Rows.sl2ActsRow.domain false) (Rows.sl2ActsSpec.post enc Try.prog Try.f5 false true false false) := by
  refine returnsInHanded_of_change (C := Try.checked) own started (by kernel_rfl) Try.func5
    (ChangeSpec.witness6 (enc := enc) (C := Try.checked) false ⟨#[], #[.agg #[.int .i64 0, .int .i64 0, .int .i64 0, .int .i64 0], .agg #[.int .i64 0, .int .i64 0, .int .i64 0, .int .i64 0], .agg #[.int .i64 0, .int .i64 0]], []⟩ 8 (by kernel_rfl) (by kernel_rfl) (by kernel_rfl) (by kernel_rfl)) ?_
  intro W base args ds gs before hval0 hW hcnd _
  have hval : ∀ (j : Nat) t v, Try.f5.params[j]? = some t → args[j]? = some v → Value.okWide Try.prog W .any base t v := hval0
  have hW' := hW
  obtain ⟨p, q, hA0, hV, rfl, -, -⟩ := hW
  have hA : DataW.TrodAll enc Try.prog W 0 (fun _ => true) true Try.f5.params.toList args.toList ds p := hA0
  rw [Try.params5] at hA hval
  obtain ⟨v0, vs0, d0, ds0, p0, q0, hargs, rfl, rfl, h0, r0⟩ := trodAll_cons hA
  obtain ⟨v1, vs1, d1, ds1, p1, q1, rfl, rfl, rfl, h1, r1⟩ := trodAll_cons r0
  obtain ⟨v2, vs2, d2, ds2, p2, q2, rfl, rfl, rfl, h2, r2⟩ := trodAll_cons r1
  obtain ⟨rfl, rfl, rfl⟩ := trodAll_nil r2
  obtain rfl : args = #[v0, v1, v2] := by cases args; simp_all
  obtain ⟨rfl, rfl⟩ := trodVars_none hV
  obtain ⟨a0, rfl, c0⟩ := open_mat (hval 0 23 v0 rfl rfl) h0
  obtain ⟨a1, rfl, c1⟩ := open_mat (hval 1 23 v1 rfl rfl) h1
  obtain ⟨a2, rfl, c2⟩ := open_cusp (hval 2 25 v2 rfl rfl) h2
  clear hA0 hval0
  refine (walk a0 c0 a1 c1 a2 c2 W).mono fun e W' ⟨he, hg⟩ => ?_
  subst he
  exact ⟨_, rfl, law_post 4 rfl Try.underlying4 laidOut (of_decide_eq_true (by kernel_rfl)) rfl hW' rfl hg⟩

theorem over : Rows.sl2ActsRow.holds Try.pinned (OpenSpec.ofChange Rows.sl2ActsSpec) :=
  OpenClaim.holds_of_wide 5 Try.f5 rfl rfl rfl rfl rfl rfl rfl ⟨rfl, rfl, rfl, rfl, rfl⟩ rfl rfl rfl rfl rfl (by kernel_rfl) Try.func5 (by kernel_rfl)
    (of_decide_eq_true (by kernel_rfl)) (by unfold Func.isWrapper; rw [if_neg (by decide +kernel)]; exact ⟨rfl, rfl⟩)
    (fun os started H enc _ => lifted os started H enc)

theorem proved : Rows.Sl2ActsSaid := over
end Go.Proofs.Ytkjcdiolimajdaa.acts
