/- The convergents and the value of a list are those of the reference, or the errors are. No condition: every list. -/
import Derived.Test.YtfjlecphjahahaaCfZ
import Derived.Test.YtfjlecphjahahaaCfI
import Derived.Test.YtfjlecphjahahaaCfC
import Derived.Test.YtfjlecphjahahaaCfM
namespace Go.Proofs.Ytfjlecphjahahaa.converges
open Go Go.RowKit Go.ChangeShapes Go.WideShapes Go.ChangeAt

theorem walk_long (a : Option Addr) (n cap : Nat) (h : 100 < n) (w : World) :
    Calls Try.prog 8 #[.slice a n cap] w fun ex w' => ex = .returned (.bool true) ∧ Grow w w' := by
  have h1 : (100 : Int) < n := by omega
  go_enter Try.func8, Try.ntmps8
  go_wp2_with fail
  (go_at_call 13; refine (awake19_any _).mono ?_; rintro e w1 ⟨rfl, hb1⟩; have hc1 := hb1.cells; have hf1 := hb1.frees; have hz1 := hb1.size; (try simp at hz1))
  go_wp2_with fail
  go_ret
  exact ⟨rfl, hb1⟩

set_option maxHeartbeats 2000000 in
theorem walk_err (a : Option Addr) (l : List Int) (n cap : Nat) (h : n ≤ 100) (hn : Hid (l.length = n)) (er : Int) (he : er ≠ 0) (hC : Hid (convF l = ([], er))) (hLa : Hid (lastF l = (C2.zero, er))) (w : World) (hv : Hid (RdInts w (.slice a n cap) l)) :
    Calls Try.prog 8 #[.slice a n cap] w fun ex w' => ex = .returned (.bool true) ∧ Grow w w' := by
  have k1 : (er == 0) = false := by simpa using he
  have k2 : (er != 0) = true := by simpa using he
  clear he
  obtain ⟨i0, hi0, iz0, iz1, iz2⟩ := info_parts info_int
  have h1 : ¬ (100 : Int) < n := by omega
  go_enter Try.func8, Try.ntmps8
  go_wp2_with fail
  (go_at_call 13; refine (awake19_any _).mono ?_; rintro e w1 ⟨rfl, hb1⟩; have hc1 := hb1.cells; have hf1 := hb1.frees; have hz1 := hb1.size; (try simp at hz1))
  have HV1 := Lib.hid (hv.out.grow hb1)
  have HB1 := Lib.hid hb1
  clear hb1 hc1 hf1
  go_wp2_with (at_builtin; refine wpList_append_copy _ rfl _ _ 22 rfl i0 (.int .i64 0) Try.underlying22 hi0 iz0 iz1 iz2 rfl _ _ l rfl rfl ?rd ?len ?_)
  case rd => exact HV1.out.grow (by (repeat (first | with_reducible exact Grow.refl _ | with_reducible refine Grow.alloc ?_ _ | with_reducible refine Grow.drew ?_ | with_reducible refine Grow.drewN ?_ _ | (with_reducible refine Grow.setCell ?_ ?hp _; (case hp => (simp; try omega))) | with_reducible refine Grow.trans ?_ (by assumption))))
  case len => have := hn.out; omega
  intro v2 w2 hr2 hg2
  have hG12 : Grow w1 w2 := Grow.trans ((Grow.refl _).alloc _) hg2
  have HC := Lib.hid (conv_any l v2 (by have := hn.out; omega) w2 hr2)
  rw [hC.out] at HC
  clear hr2 hg2
  go_wp2_with fail
  go_at_call 14
  refine HC.out.mono ?_
  rintro e w3 ⟨v3, rfl, ho3, hb3⟩
  have hG13 := hG12.trans hb3
  have HR3 := Lib.hid ho3.rd
  have HC2 := Lib.hid (refConv_any l _ (by have := hn.out; omega) w3 (HV1.out.grow hG13))
  rw [hC.out] at HC2
  have HV3 := Lib.hid (HV1.out.grow hG13)
  have HG3 := Lib.hid (HB1.out.trans hG13)
  clear ho3 hb3 hG12 hG13 HC HV1 HB1 hz1 iz1 iz0 iz2
  obtain ⟨i0, hi0, iz0, iz1, iz2⟩ := info_parts info_int
  go_wp2_with fail
  go_at_call 26
  refine HC2.out.mono ?_
  rintro e w4 ⟨v4, rfl, ho4, hb4⟩
  have HR4 := Lib.hid (HR3.out.grow hb4)
  have HV4 := Lib.hid (HV3.out.grow hb4)
  have HG4 := Lib.hid (HG3.out.trans hb4)
  have HO4 := Lib.hid ho4
  clear ho4 hb4 HR3 HV3 HG3 HC2
  go_wp2_with (at_builtin; refine wpList_append_copy _ rfl _ _ 22 rfl i0 (.int .i64 0) Try.underlying22 hi0 iz0 iz1 iz2 rfl _ _ l rfl rfl ?rd ?len ?_)
  case rd => exact HV4.out.grow (by (repeat (first | with_reducible exact Grow.refl _ | with_reducible refine Grow.alloc ?_ _ | with_reducible refine Grow.drew ?_ | with_reducible refine Grow.drewN ?_ _ | (with_reducible refine Grow.setCell ?_ ?hp _; (case hp => (simp; try omega))) | with_reducible refine Grow.trans ?_ (by assumption))))
  case len => have := hn.out; omega
  intro v5 w5 hr5 hg5
  have hG45 : Grow w4 w5 := Grow.trans ((Grow.refl _).alloc _) hg5
  have HC5 := Lib.hid (cvalue_any l v5 (by have := hn.out; omega) w5 hr5)
  rw [hLa.out] at HC5
  clear hr5 hg5
  go_wp2_with fail
  go_at_call 25
  refine HC5.out.mono ?_
  rintro e w6 ⟨rfl, hb6⟩
  have hG46 := hG45.trans hb6
  have HG6 := Lib.hid (HG4.out.trans hG46)
  have HR6 := Lib.hid (HR4.out.grow hG46)
  have HO6 := Lib.hid (HO4.out.into hG46)
  clear hb6 hG45 hG46 HC5 HG4 HR4 HO4 HV4 iz0 iz1 iz2
  have HRd6 := Lib.hid HO6.out.rd
  clear HO6
  go_wp2_with (go_at_call 19; refine (same_same [] _ _ (by simp) _ (HR6.out.grow (by (repeat (first | with_reducible exact Grow.refl _ | with_reducible refine Grow.alloc ?_ _ | with_reducible refine Grow.drew ?_ | with_reducible refine Grow.drewN ?_ _ | (with_reducible refine Grow.setCell ?_ ?hp _; (case hp => (simp; try omega))) | with_reducible refine Grow.trans ?_ (by assumption))))) (HRd6.out.grow (by (repeat (first | with_reducible exact Grow.refl _ | with_reducible refine Grow.alloc ?_ _ | with_reducible refine Grow.drew ?_ | with_reducible refine Grow.drewN ?_ _ | (with_reducible refine Grow.setCell ?_ ?hp _; (case hp => (simp; try omega))) | with_reducible refine Grow.trans ?_ (by assumption)))))).mono ?_; rintro e w7 ⟨rfl, hb7⟩; have hc7 := hb7.cells; have hf7 := hb7.frees; have hz7 := hb7.size; (simp at hz7); have za : w6.heap.size < w7.heap.size := (by omega); have zb : w6.heap.size + 1 < w7.heap.size := (by omega))
  have hG67 : Grow w6 w7 := by (repeat (first | with_reducible exact Grow.refl _ | with_reducible refine Grow.alloc ?_ _ | with_reducible refine Grow.drew ?_ | with_reducible refine Grow.drewN ?_ _ | (with_reducible refine Grow.setCell ?_ ?hp _; (case hp => (simp; try omega))) | with_reducible refine Grow.trans ?_ (by assumption)))
  go_ret
  exact ⟨rfl, HG6.out.trans hG67⟩

set_option maxHeartbeats 2000000 in
theorem walk_ok (a : Option Addr) (l : List Int) (n cap : Nat) (h : n ≤ 100) (hn : Hid (l.length = n)) (x : List C2) (m : Nat) (hm : Hid (x.length = m)) (hm0 : 0 < m) (hm1 : m ≤ 100) (c : C2) (hc : Hid (x.getD (m - 1) C2.zero = c)) (hC : Hid (convF l = (x, 0))) (hLa : Hid (lastF l = (c, 0))) (w : World) (hv : Hid (RdInts w (.slice a n cap) l)) :
    Calls Try.prog 8 #[.slice a n cap] w fun ex w' => ex = .returned (.bool true) ∧ Grow w w' := by
  obtain ⟨s, hs⟩ : ∃ s : Nat, m - 1 = s := ⟨_, rfl⟩
  have hs2 : (m : Int) - 1 = s := by omega
  have y5 : IntKind.i64.wrap (s : Int) = s := IntWalk.i64_in _ (by omega)
  have f3 : (0 : Int) ≤ s := by omega
  have f4 : (s : Int) < m := by omega
  obtain ⟨i0, hi0, iz0, iz1, iz2⟩ := info_parts info_int
  have h1 : ¬ (100 : Int) < n := by omega
  go_enter Try.func8, Try.ntmps8
  go_wp2_with fail
  (go_at_call 13; refine (awake19_any _).mono ?_; rintro e w1 ⟨rfl, hb1⟩; have hc1 := hb1.cells; have hf1 := hb1.frees; have hz1 := hb1.size; (try simp at hz1))
  have HV1 := Lib.hid (hv.out.grow hb1)
  have HB1 := Lib.hid hb1
  clear hb1 hc1 hf1
  go_wp2_with (at_builtin; refine wpList_append_copy _ rfl _ _ 22 rfl i0 (.int .i64 0) Try.underlying22 hi0 iz0 iz1 iz2 rfl _ _ l rfl rfl ?rd ?len ?_)
  case rd => exact HV1.out.grow (by (repeat (first | with_reducible exact Grow.refl _ | with_reducible refine Grow.alloc ?_ _ | with_reducible refine Grow.drew ?_ | with_reducible refine Grow.drewN ?_ _ | (with_reducible refine Grow.setCell ?_ ?hp _; (case hp => (simp; try omega))) | with_reducible refine Grow.trans ?_ (by assumption))))
  case len => have := hn.out; omega
  intro v2 w2 hr2 hg2
  have hG12 : Grow w1 w2 := Grow.trans ((Grow.refl _).alloc _) hg2
  have HC := Lib.hid (conv_any l v2 (by have := hn.out; omega) w2 hr2)
  rw [hC.out] at HC
  clear hr2 hg2
  go_wp2_with fail
  go_at_call 14
  refine HC.out.mono ?_
  rintro e w3 ⟨v3, rfl, ho3, hb3⟩
  have hG13 := hG12.trans hb3
  have HR3 := Lib.hid ho3.rd
  have HC2 := Lib.hid (refConv_any l _ (by have := hn.out; omega) w3 (HV1.out.grow hG13))
  rw [hC.out] at HC2
  have HV3 := Lib.hid (HV1.out.grow hG13)
  have HG3 := Lib.hid (HB1.out.trans hG13)
  clear ho3 hb3 hG12 hG13 HC HV1 HB1 hz1 iz1 iz0 iz2
  obtain ⟨i0, hi0, iz0, iz1, iz2⟩ := info_parts info_int
  go_wp2_with fail
  go_at_call 26
  refine HC2.out.mono ?_
  rintro e w4 ⟨v4, rfl, ho4, hb4⟩
  have HR4 := Lib.hid (HR3.out.grow hb4)
  have HV4 := Lib.hid (HV3.out.grow hb4)
  have HG4 := Lib.hid (HG3.out.trans hb4)
  have HO4 := Lib.hid ho4
  clear ho4 hb4 HR3 HV3 HG3 HC2
  go_wp2_with (at_builtin; refine wpList_append_copy _ rfl _ _ 22 rfl i0 (.int .i64 0) Try.underlying22 hi0 iz0 iz1 iz2 rfl _ _ l rfl rfl ?rd ?len ?_)
  case rd => exact HV4.out.grow (by (repeat (first | with_reducible exact Grow.refl _ | with_reducible refine Grow.alloc ?_ _ | with_reducible refine Grow.drew ?_ | with_reducible refine Grow.drewN ?_ _ | (with_reducible refine Grow.setCell ?_ ?hp _; (case hp => (simp; try omega))) | with_reducible refine Grow.trans ?_ (by assumption))))
  case len => have := hn.out; omega
  intro v5 w5 hr5 hg5
  have hG45 : Grow w4 w5 := Grow.trans ((Grow.refl _).alloc _) hg5
  have HC5 := Lib.hid (cvalue_any l v5 (by have := hn.out; omega) w5 hr5)
  rw [hLa.out] at HC5
  clear hr5 hg5
  go_wp2_with fail
  go_at_call 25
  refine HC5.out.mono ?_
  rintro e w6 ⟨rfl, hb6⟩
  have hG46 := hG45.trans hb6
  have HG6 := Lib.hid (HG4.out.trans hG46)
  have HR6 := Lib.hid (HR4.out.grow hG46)
  have HO6 := Lib.hid (HO4.out.into hG46)
  clear hb6 hG45 hG46 HC5 HG4 HR4 HO4 HV4 iz0 iz1 iz2
  obtain ⟨g, k4, rfl, -, row6, -⟩ := RowAt.of_own HO6.out (by rw [hm.out]; exact hm0)
  rw [hm.out]
  obtain ⟨d3, d4⟩ := row6.cells (m - 1) (by rw [hm.out]; omega)
  rw [hc.out, hs] at d3 d4
  simp only [Nat.zero_add] at d3 d4
  have zg := row6.lt
  have hrd6 := row6.rd
  rw [hm.out] at hrd6
  have HRd6 := Lib.hid hrd6
  clear HO6 row6 hrd6 hs
  go_wp2_with (go_at_call 19; refine (same_same x _ _ (by have := hm.out; omega) _ (HR6.out.grow (by (repeat (first | with_reducible exact Grow.refl _ | with_reducible refine Grow.alloc ?_ _ | with_reducible refine Grow.drew ?_ | with_reducible refine Grow.drewN ?_ _ | (with_reducible refine Grow.setCell ?_ ?hp _; (case hp => (simp; try omega))) | with_reducible refine Grow.trans ?_ (by assumption))))) (HRd6.out.grow (by (repeat (first | with_reducible exact Grow.refl _ | with_reducible refine Grow.alloc ?_ _ | with_reducible refine Grow.drew ?_ | with_reducible refine Grow.drewN ?_ _ | (with_reducible refine Grow.setCell ?_ ?hp _; (case hp => (simp; try omega))) | with_reducible refine Grow.trans ?_ (by assumption)))))).mono ?_; rintro e w7 ⟨rfl, hb7⟩; have hc7 := hb7.cells; have hf7 := hb7.frees; have hz7 := hb7.size; (simp at hz7); have za : w6.heap.size < w7.heap.size := (by omega); have zb : w6.heap.size + 1 < w7.heap.size := (by omega))
  have hG67 : Grow w6 w7 := by (repeat (first | with_reducible exact Grow.refl _ | with_reducible refine Grow.alloc ?_ _ | with_reducible refine Grow.drew ?_ | with_reducible refine Grow.drewN ?_ _ | (with_reducible refine Grow.setCell ?_ ?hp _; (case hp => (simp; try omega))) | with_reducible refine Grow.trans ?_ (by assumption)))
  go_ret
  exact ⟨rfl, HG6.out.trans hG67⟩

theorem walk (l : List Int) (v : Value) (w : World) (hv : RdInts w v l) :
    Calls Try.prog 8 #[v] w fun ex w' => ex = .returned (.bool true) ∧ Grow w w' := by
  obtain ⟨ao, cap, rfl⟩ := hv.form
  by_cases h : 100 < l.length
  · exact walk_long ao _ cap h w
  · obtain ⟨x, er, he⟩ : ∃ x er, convF l = (x, er) := ⟨_, _, rfl⟩
    by_cases h0 : er = 0
    · subst h0
      obtain ⟨h1, h2, h3, h4⟩ := convF_some he
      have hlen := convR_len l _ _ x h1
      exact walk_ok ao l _ cap (by omega) (Lib.hid rfl) x _ (Lib.hid rfl) (by omega) (by omega) _ (Lib.hid rfl) (Lib.hid he) (Lib.hid (by unfold lastF; rw [he]; simp)) w hv
    · have h1 := convF_err (l := l) (by rw [he]; exact h0)
      rw [he] at h1
      simp only at h1
      subst h1
      exact walk_err ao l _ cap (by omega) (Lib.hid rfl) er h0 (Lib.hid he) (Lib.hid (by unfold lastF; rw [he, if_neg h0])) w hv

set_option maxRecDepth 100000 in
theorem lifted (os : Os) (started : os.Started) (H : Type) (enc : TypeId × Value → H) :
    ReturnsInHanded {} Try.checked os 8 .any (Rows.contfracConvergesSpec.pre6 enc Try.prog Try.f8 Rows.contfracConvergesRow.domain false) (Rows.contfracConvergesSpec.post enc Try.prog Try.f8 false true false false) := by
  refine returnsInHanded_of_change (C := Try.checked) own started (by kernel_rfl) Try.func8
    (ChangeSpec.witness6 (enc := enc) (C := Try.checked) false ⟨#[], #[.slice none 0 0], []⟩ 8 (by kernel_rfl) (by kernel_rfl) (by kernel_rfl) (by kernel_rfl)) ?_
  intro W base args ds gs before hval0 hW hcnd _
  have hval : ∀ (j : Nat) t v, Try.f8.params[j]? = some t → args[j]? = some v → Value.okWide Try.prog W .any base t v := hval0
  have hW' := hW
  obtain ⟨p, q, hA0, hV, rfl, -, -⟩ := hW
  have hA : DataW.TrodAll enc Try.prog W 0 (fun _ => true) true Try.f8.params.toList args.toList ds p := hA0
  rw [Try.params8] at hA hval
  obtain ⟨v0, vs0, d0, ds0, p0, q0, hargs, rfl, rfl, h0, r0⟩ := trodAll_cons hA
  obtain ⟨rfl, rfl, rfl⟩ := trodAll_nil r0
  obtain rfl : args = #[v0] := by cases args; simp_all
  obtain ⟨rfl, rfl⟩ := trodVars_none hV
  obtain ⟨l0, c0⟩ := open_list (hval 0 22 v0 rfl rfl) h0
  clear hA0 hval0
  refine (walk l0 v0 W c0).mono fun e W' ⟨he, hg⟩ => ?_
  subst he
  exact ⟨_, rfl, law_post 4 rfl Try.underlying4 laidOut (of_decide_eq_true (by kernel_rfl)) rfl hW' rfl hg⟩

theorem over : Rows.contfracConvergesRow.holds Try.pinned (OpenSpec.ofChange Rows.contfracConvergesSpec) :=
  OpenClaim.holds_of_wide 8 Try.f8 rfl rfl rfl rfl rfl rfl rfl ⟨rfl, rfl, rfl, rfl, rfl⟩ rfl rfl rfl rfl rfl (by kernel_rfl) Try.func8 (by kernel_rfl)
    (of_decide_eq_true (by kernel_rfl)) (by unfold Func.isWrapper; rw [if_neg (by decide +kernel)]; exact ⟨rfl, rfl⟩)
    (fun os started H enc _ => lifted os started H enc)

theorem proved : Rows.ContfracConvergesSaid := over
end Go.Proofs.Ytfjlecphjahahaa.converges
