/- The determinants of consecutive convergents are 1 and -1 by turns, and the denominators do not decrease. No condition: every list. -/
import Derived.Test.YtfjlecphjahahaaCfZ
import Derived.Test.YtfjlecphjahahaaCfI
import Derived.Test.YtfjlecphjahahaaPlL
namespace Go.Proofs.Ytfjlecphjahahaa.determinants
open Go Go.RowKit Go.ChangeShapes Go.WideShapes Go.ChangeAt

theorem walk_long (a : Option Addr) (n cap : Nat) (h : 100 < n) (w : World) :
    Calls Try.prog 3 #[.slice a n cap] w fun ex w' => ex = .returned (.bool true) ∧ Grow w w' := by
  have h1 : (100 : Int) < n := by omega
  go_enter Try.func3, Try.ntmps3
  go_wp2_with fail
  (go_at_call 13; refine (awake19_any _).mono ?_; rintro e w1 ⟨rfl, hb1⟩; have hc1 := hb1.cells; have hf1 := hb1.frees; have hz1 := hb1.size; (try simp at hz1))
  go_wp2_with fail
  go_ret
  exact ⟨rfl, hb1⟩

set_option maxHeartbeats 1000000 in
theorem walk_err (a : Option Addr) (l : List Int) (n cap : Nat) (h : n ≤ 100) (hn : Hid (l.length = n)) (er : Int) (he : er ≠ 0) (hC : Hid (convF l = ([], er))) (w : World) (hv : Hid (RdInts w (.slice a n cap) l)) :
    Calls Try.prog 3 #[.slice a n cap] w fun ex w' => ex = .returned (.bool true) ∧ Grow w w' := by
  obtain ⟨i0, hi0, iz0, iz1, iz2⟩ := info_parts info_int
  have h1 : ¬ (100 : Int) < n := by omega
  have e1 : (er == 0) = false := by simpa using he
  have e2 : (er != 0) = true := by simpa using he
  clear he
  go_enter Try.func3, Try.ntmps3
  go_wp2_with fail
  (go_at_call 13; refine (awake19_any _).mono ?_; rintro e w1 ⟨rfl, hb1⟩; have hc1 := hb1.cells; have hf1 := hb1.frees; have hz1 := hb1.size; (try simp at hz1))
  have HV1 := Lib.hid (hv.out.grow hb1)
  have HB1 := Lib.hid hb1
  clear hb1 hc1 hf1
  go_wp2_with (at_builtin; refine wpList_append_copy _ rfl _ _ 22 rfl i0 (.int .i64 0) Try.underlying22 hi0 iz0 iz1 iz2 rfl _ _ l rfl rfl ?rd ?len ?_)
  case rd => exact HV1.out.grow (by (repeat (first | with_reducible exact Grow.refl _ | with_reducible refine Grow.alloc ?_ _ | with_reducible refine Grow.drew ?_ | with_reducible refine Grow.drewN ?_ _ | (with_reducible refine Grow.setCell ?_ ?hp _; (case hp => (simp; try omega))) | with_reducible refine Grow.trans ?_ (by assumption))))
  case len => have := hn.out; omega
  intro v2 w2 hr2 hg2
  have hG2 : Grow w w2 := HB1.out.trans (Grow.trans ((Grow.refl _).alloc _) hg2)
  have HC := Lib.hid (conv_any l v2 (by have := hn.out; omega) w2 hr2)
  rw [hC.out] at HC
  clear hr2 hg2
  go_wp2_with fail
  go_at_call 14
  refine HC.out.mono ?_
  rintro e w3 ⟨v3, rfl, ho3, hb3⟩
  have hG3 := hG2.trans hb3
  obtain ⟨ao, c3, rfl⟩ := ho3.rd.form
  clear ho3
  simp only [List.length_nil]
  go_wp2_with fail
  go_ret
  exact ⟨rfl, hG3⟩

set_option maxHeartbeats 2000000 in
theorem walk_ok (a : Option Addr) (l : List Int) (n cap : Nat) (h : n ≤ 100) (hn : Hid (l.length = n)) (x : List C2) (hC : Hid (convF l = (x, 0))) (hx : Hid (x.length = n)) (w : World) (hv : Hid (RdInts w (.slice a n cap) l)) :
    Calls Try.prog 3 #[.slice a n cap] w fun ex w' => ex = .returned (.bool true) ∧ Grow w w' := by
  obtain ⟨i0, hi0, iz0, iz1, iz2⟩ := info_parts info_int
  have h1 : ¬ (100 : Int) < n := by omega
  have hn0 : 0 < n := by have := (convF_some hC.out).2.2.2; have := hn.out; omega
  go_enter Try.func3, Try.ntmps3
  go_wp2_with fail
  (go_at_call 13; refine (awake19_any _).mono ?_; rintro e w1 ⟨rfl, hb1⟩; have hc1 := hb1.cells; have hf1 := hb1.frees; have hz1 := hb1.size; (try simp at hz1))
  have HV1 := Lib.hid (hv.out.grow hb1)
  have HB1 := Lib.hid hb1
  clear hb1 hc1 hf1
  go_wp2_with (at_builtin; refine wpList_append_copy _ rfl _ _ 22 rfl i0 (.int .i64 0) Try.underlying22 hi0 iz0 iz1 iz2 rfl _ _ l rfl rfl ?rd ?len ?_)
  case rd => exact HV1.out.grow (by (repeat (first | with_reducible exact Grow.refl _ | with_reducible refine Grow.alloc ?_ _ | with_reducible refine Grow.drew ?_ | with_reducible refine Grow.drewN ?_ _ | (with_reducible refine Grow.setCell ?_ ?hp _; (case hp => (simp; try omega))) | with_reducible refine Grow.trans ?_ (by assumption))))
  case len => have := hn.out; omega
  intro v2 w2 hr2 hg2
  have hG2 : Grow w w2 := HB1.out.trans (Grow.trans ((Grow.refl _).alloc _) hg2)
  have HC := Lib.hid (conv_any l v2 (by have := hn.out; omega) w2 hr2)
  rw [hC.out] at HC
  clear hr2 hg2
  go_wp2_with fail
  go_at_call 14
  refine HC.out.mono ?_
  rintro e w3 ⟨v3, rfl, ho3, hb3⟩
  have hG3 := hG2.trans hb3
  obtain ⟨g, c3, rfl, -, row3, -⟩ := RowAt.of_own ho3 (by rw [hx.out]; exact hn0)
  rw [hx.out]
  have Row3 := Lib.hid row3
  have HG3 := Lib.hid hG3
  have zg := row3.lt
  clear ho3 hb3 hG2 hG3 HC row3 HV1 HB1 hz1 iz1
  go_wp2_with fail
  go_loopg [5] n (fun f i wr => ∃ j : Nat, i = .int .i64 j ∧ 1 ≤ j ∧ j + f = n + 1 ∧ Hid (Grow w3 wr))
  case atStart => exact ⟨1, rfl, by omega, by omega, Grow.refl _⟩
  case round =>
    obtain ⟨j, rfl, hj1, hjf, hgr⟩ := hrel
    have zr : g < wr.heap.size := Nat.lt_of_lt_of_le zg hgr.out.size
    by_cases hlt : j < n
    · have hrow := Row3.out.grow hgr.out
      obtain ⟨d1, d2⟩ := hrow.cells j (by rw [hx.out]; exact hlt)
      obtain ⟨d3, d4⟩ := hrow.cells (j - 1) (by rw [hx.out]; omega)
      obtain ⟨hdet, hbds⟩ := conv_spec hC.out
      obtain ⟨hcr, hmo⟩ := hdet j hj1 (by rw [hx.out]; exact hlt)
      obtain ⟨b1, b2, -⟩ := hbds j (by rw [hx.out]; exact hlt)
      obtain ⟨b3, b4, -⟩ := hbds (j - 1) (by rw [hx.out]; omega)
      have hcc := conv_cc hC.out hj1 (by rw [hx.out]; exact hlt)
      obtain ⟨s, hs⟩ : ∃ s : Nat, j - 1 = s := ⟨_, rfl⟩
      have hs2 : (j : Int) - 1 = s := by omega
      rw [hs] at d3 d4 hcr hmo b3 b4
      obtain ⟨u, hu⟩ : ∃ u, x.getD j C2.zero = u := ⟨_, rfl⟩
      obtain ⟨v, hv⟩ : ∃ v, x.getD s C2.zero = v := ⟨_, rfl⟩
      rw [hu] at d1 d2 hcr hmo b1 b2 hcc
      rw [hv] at d3 d4 hcr hmo b3 b4
      have k1 : (ccF u == 0) = true := by simpa using hcc
      have k2 : (ccF u != 0) = false := by simpa using hcc
      simp only [Nat.zero_add] at d1 d2 d3 d4
      have hr : (j : Int).tmod 2 = (j : Int) % 2 := Int.tmod_eq_emod_of_nonneg (by omega)
      obtain ⟨r, hr2⟩ : ∃ r, (j : Int) % 2 = r := ⟨_, rfl⟩
      have hr3 : 0 ≤ r ∧ r ≤ 1 := by omega
      obtain ⟨r0, r1⟩ := hr3
      rw [hr2] at hr hcr
      simp only [cross] at hcr
      obtain ⟨p1, p2⟩ := mul_in b1 b4
      obtain ⟨p3, p4⟩ := mul_in b3 b2
      have y1 : IntKind.i64.wrap (u.p * v.q) = u.p * v.q := IntWalk.i64_in _ (by omega)
      have y2 : IntKind.i64.wrap (v.p * u.q) = v.p * u.q := IntWalk.i64_in _ (by omega)
      have y3 : IntKind.i64.wrap (2 * r - 1) = 2 * r - 1 := IntWalk.i64_in _ (by omega)
      have y4 : IntKind.i64.wrap (2 * r) = 2 * r := IntWalk.i64_in _ (by omega)
      have y5 : IntKind.i64.wrap (s : Int) = s := IntWalk.i64_in _ (by omega)
      have y6 : IntKind.i64.wrap r = r := IntWalk.i64_in _ (by omega)
      have m1 : decide (u.q < v.q) = false := by rw [decide_eq_false_iff_not]; omega
      have f1 : (0 : Int) ≤ j := by omega
      have f2 : (j : Int) < n := by omega
      have f3 : (0 : Int) ≤ s := by omega
      have f4 : (s : Int) < n := by omega
      obtain ⟨g', hgk⟩ : ∃ g', gk = g' + 1 := ⟨gk - 1, by omega⟩
      have CU := Lib.hid (fun w => checkCusp_any u w)
      have HJ := Lib.hid hjf
      clear hrow hs hu hv hcc hr2 p1 p2 p3 p4 b1 b2 b3 b4 hmo hdet hbds hjf
      go_wp2_with fail
      refine region_grow (by kernel_rfl) (by kernel_rfl) ?_
      intro X F hF
      have hFc := hF.cells
      haveI hFn := hF.ne
      repeat (go_big_quiet_step ((first | (go_at_call 15; with_reducible exact hF.call (CU.out _)))))
      refine wpQuiet_nil ?_
      rintro _ ⟨x9, rfl⟩
      have hb4 := hF.grow x9
      clear hFc hFn hF
      generalize F x9 = w4 at *
      have hc4 := hb4.cells
      have hf4 := hb4.frees
      have hz4 := hb4.size
      (try simp at hz4)
      go_wp2
      go_roundg g'
      case measure => omega
      case rel => exact ⟨j + 1, by go_num, by omega, by have := HJ.out; omega, hgr.out.trans hb4⟩
    · have hlt2 : ¬ (j : Int) < n := by omega
      go_wp2_with fail
      go_ret
      exact ⟨rfl, HG3.out.trans hgr.out⟩

theorem walk (l : List Int) (v : Value) (w : World) (hv : RdInts w v l) :
    Calls Try.prog 3 #[v] w fun ex w' => ex = .returned (.bool true) ∧ Grow w w' := by
  obtain ⟨ao, cap, rfl⟩ := hv.form
  by_cases h : 100 < l.length
  · exact walk_long ao _ cap h w
  · obtain ⟨x, er, he⟩ : ∃ x er, convF l = (x, er) := ⟨_, _, rfl⟩
    by_cases h0 : er = 0
    · subst h0
      obtain ⟨h1, h2, h3, h4⟩ := convF_some he
      exact walk_ok ao l _ cap (by omega) (Lib.hid rfl) x (Lib.hid he) (Lib.hid (convR_len l _ _ x h1)) w hv
    · have h1 := convF_err (l := l) (by rw [he]; exact h0)
      rw [he] at h1
      simp only at h1
      subst h1
      exact walk_err ao l _ cap (by omega) (Lib.hid rfl) er h0 (Lib.hid he) w hv

set_option maxRecDepth 100000 in
theorem lifted (os : Os) (started : os.Started) (H : Type) (enc : TypeId × Value → H) :
    ReturnsInHanded {} Try.checked os 3 .any (Rows.contfracDeterminantsSpec.pre6 enc Try.prog Try.f3 Rows.contfracDeterminantsRow.domain false) (Rows.contfracDeterminantsSpec.post enc Try.prog Try.f3 false true false false) := by
  refine returnsInHanded_of_change (C := Try.checked) own started (by kernel_rfl) Try.func3
    (ChangeSpec.witness6 (enc := enc) (C := Try.checked) false ⟨#[], #[.slice none 0 0], []⟩ 8 (by kernel_rfl) (by kernel_rfl) (by kernel_rfl) (by kernel_rfl)) ?_
  intro W base args ds gs before hval0 hW hcnd _
  have hval : ∀ (j : Nat) t v, Try.f3.params[j]? = some t → args[j]? = some v → Value.okWide Try.prog W .any base t v := hval0
  have hW' := hW
  obtain ⟨p, q, hA0, hV, rfl, -, -⟩ := hW
  have hA : DataW.TrodAll enc Try.prog W 0 (fun _ => true) true Try.f3.params.toList args.toList ds p := hA0
  rw [Try.params3] at hA hval
  obtain ⟨v0, vs0, d0, ds0, p0, q0, hargs, rfl, rfl, h0, r0⟩ := trodAll_cons hA
  obtain ⟨rfl, rfl, rfl⟩ := trodAll_nil r0
  obtain rfl : args = #[v0] := by cases args; simp_all
  obtain ⟨rfl, rfl⟩ := trodVars_none hV
  obtain ⟨l0, c0⟩ := open_list (hval 0 22 v0 rfl rfl) h0
  clear hA0 hval0
  refine (walk l0 v0 W c0).mono fun e W' ⟨he, hg⟩ => ?_
  subst he
  exact ⟨_, rfl, law_post 4 rfl Try.underlying4 laidOut (of_decide_eq_true (by kernel_rfl)) rfl hW' rfl hg⟩

theorem over : Rows.contfracDeterminantsRow.holds Try.pinned (OpenSpec.ofChange Rows.contfracDeterminantsSpec) :=
  OpenClaim.holds_of_wide 3 Try.f3 rfl rfl rfl rfl rfl rfl rfl ⟨rfl, rfl, rfl, rfl, rfl⟩ rfl rfl rfl rfl rfl (by kernel_rfl) Try.func3 (by kernel_rfl)
    (of_decide_eq_true (by kernel_rfl)) (by unfold Func.isWrapper; rw [if_neg (by decide +kernel)]; exact ⟨rfl, rfl⟩)
    (fun os started H enc _ => lifted os started H enc)

theorem proved : Rows.ContfracDeterminantsSaid := over
end Go.Proofs.Ytfjlecphjahahaa.determinants
