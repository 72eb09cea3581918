/- The path of a cusp is that of the reference, or the error is; it consists of Farey neighbours from infinity to the cusp. No condition: every cusp. -/
import Derived.Test.YtfjlecphjahahaaCfZ
import Derived.Test.YtfjlecphjahahaaCfI
import Derived.Test.YtfjlecphjahahaaCfK
import Derived.Test.YtfjlecphjahahaaCfL
import Derived.Test.YtfjlecphjahahaaPlM
namespace Go.Proofs.Ytfjlecphjahahaa.paths
open Go Go.RowKit Go.ChangeShapes Go.WideShapes Go.ChangeAt

set_option maxHeartbeats 1000000 in
theorem walk_err (c : C2) (er : Int) (he : er ≠ 0) (X : Hid (∀ w, Calls Try.prog 17 #[.agg #[.int .i64 c.p, .int .i64 c.q]] w fun e w' => ∃ v, e = .returned (.tuple #[v, .int .i64 er]) ∧ OwnCusps w' w.heap.size v [] ∧ Grow w w'))
    (Y : Hid (∀ w, Calls Try.prog 18 #[.agg #[.int .i64 c.p, .int .i64 c.q]] w fun e w' => ∃ v, e = .returned (.tuple #[v, .int .i64 er]) ∧ OwnCusps w' w.heap.size v [] ∧ Grow w w')) (w : World) :
    Calls Try.prog 5 #[.agg #[.int .i64 c.p, .int .i64 c.q]] w fun ex w' => ex = .returned (.bool true) ∧ Grow w w' := by
  have e1 : (er == 0) = false := by simpa using he
  have e2 : (er != 0) = true := by simpa using he
  clear he
  go_enter Try.func5, Try.ntmps5
  go_wp2_with fail
  (go_at_call 13; refine (awake19_any _).mono ?_; rintro e w1 ⟨rfl, hb1⟩; have hc1 := hb1.cells; have hf1 := hb1.frees; have hz1 := hb1.size; (try simp at hz1))
  have z1 : w.heap.size < w1.heap.size := by omega
  have c0 : w1.cell? ⟨w.heap.size, 0, none⟩ = some (.int .i64 c.p) := by rw [hc1 _ _ (by simp)]; go_simp
  have c1 : w1.cell? ⟨w.heap.size, 1, none⟩ = some (.int .i64 c.q) := by rw [hc1 _ _ (by simp)]; go_simp
  have hG1 : Grow w w1 := by (repeat (first | with_reducible exact Grow.refl _ | with_reducible refine Grow.alloc ?_ _ | with_reducible refine Grow.drew ?_ | with_reducible refine Grow.drewN ?_ _ | (with_reducible refine Grow.setCell ?_ ?hp _; (case hp => (simp; try omega))) | with_reducible refine Grow.trans ?_ (by assumption)))
  clear hc1 hf1 hb1
  go_wp2_with fail
  go_at_call 17
  refine (X.out _).mono ?_
  rintro e w2 ⟨v2, rfl, ho2, hb2⟩
  have d0 := (hb2.cells _ 0 z1).trans c0
  have d1 := (hb2.cells _ 1 z1).trans c1
  have z2 : w.heap.size < w2.heap.size := Nat.lt_of_lt_of_le z1 hb2.size
  have hG2 := hG1.trans hb2
  obtain ⟨ao2, k2, rfl⟩ := ho2.rd.form
  have HR2 := Lib.hid ho2.rd
  clear ho2 hb2 c0 c1 hG1
  go_wp2_with fail
  go_at_call 18
  refine (Y.out _).mono ?_
  rintro e w3 ⟨v3, rfl, ho3, hb3⟩
  have hG3 := hG2.trans hb3
  obtain ⟨ao3, k3, rfl⟩ := ho3.rd.form
  have HS := Lib.hid (same_same [] _ _ (by simp) w3 (HR2.out.grow hb3) ho3.rd)
  clear ho3 hb3 HR2 hG2 d0 d1
  simp only [List.length_nil] at HS ⊢
  have HG3 := Lib.hid hG3
  clear hG3
  go_wp2_with (go_at_call 19; refine HS.out.mono ?_; rintro e w4 ⟨rfl, hb4⟩)
  have HB4 := Lib.hid hb4
  clear hb4
  go_quiet (fail)
  go_wp2
  go_ret
  exact ⟨rfl, (HG3.out.trans HB4.out).drewN _⟩

set_option maxHeartbeats 1000000 in
theorem walk_core (c : C2) (y : List C2) (n : Nat) (hn : Hid (y.length = n)) (hn0 : 0 < n) (hn1 : n ≤ 1000) (hy0 : Hid (y.getD 0 C2.zero = ⟨1, 0⟩)) (hyl : Hid (y.getD (n - 1) C2.zero = c)) (hnb : Hid (Nb y))
    (X : Hid (∀ w, Calls Try.prog 17 #[.agg #[.int .i64 c.p, .int .i64 c.q]] w fun e w' => ∃ v, e = .returned (.tuple #[v, .int .i64 0]) ∧ OwnCusps w' w.heap.size v y ∧ Grow w w'))
    (Y : Hid (∀ w, Calls Try.prog 18 #[.agg #[.int .i64 c.p, .int .i64 c.q]] w fun e w' => ∃ v, e = .returned (.tuple #[v, .int .i64 0]) ∧ OwnCusps w' w.heap.size v y ∧ Grow w w')) (w : World) :
    Calls Try.prog 5 #[.agg #[.int .i64 c.p, .int .i64 c.q]] w fun ex w' => ex = .returned (.bool true) ∧ Grow w w' := by
  go_enter Try.func5, Try.ntmps5
  go_wp2_with fail
  (go_at_call 13; refine (awake19_any _).mono ?_; rintro e w1 ⟨rfl, hb1⟩; have hc1 := hb1.cells; have hf1 := hb1.frees; have hz1 := hb1.size; (try simp at hz1))
  have z1 : w.heap.size < w1.heap.size := by omega
  have c0 : w1.cell? ⟨w.heap.size, 0, none⟩ = some (.int .i64 c.p) := by rw [hc1 _ _ (by simp)]; go_simp
  have c1 : w1.cell? ⟨w.heap.size, 1, none⟩ = some (.int .i64 c.q) := by rw [hc1 _ _ (by simp)]; go_simp
  have hG1 : Grow w w1 := by (repeat (first | with_reducible exact Grow.refl _ | with_reducible refine Grow.alloc ?_ _ | with_reducible refine Grow.drew ?_ | with_reducible refine Grow.drewN ?_ _ | (with_reducible refine Grow.setCell ?_ ?hp _; (case hp => (simp; try omega))) | with_reducible refine Grow.trans ?_ (by assumption)))
  clear hc1 hf1 hb1
  go_wp2_with fail
  go_at_call 17
  refine (X.out _).mono ?_
  rintro e w2 ⟨v2, rfl, ho2, hb2⟩
  have d0 := (hb2.cells _ 0 z1).trans c0
  have d1 := (hb2.cells _ 1 z1).trans c1
  have z2 : w.heap.size < w2.heap.size := Nat.lt_of_lt_of_le z1 hb2.size
  have hG2 := hG1.trans hb2
  obtain ⟨g, k2, rfl, -, row2, -⟩ := RowAt.of_own ho2 (by rw [hn.out]; exact hn0)
  rw [hn.out]
  have Row2 := Lib.hid row2
  clear ho2 hb2 c0 c1 hG1 row2
  go_wp2_with fail
  go_at_call 18
  refine (Y.out _).mono ?_
  rintro e w3 ⟨v3, rfl, ho3, hb3⟩
  have hG3 := hG2.trans hb3
  have e0 := (hb3.cells _ 0 z2).trans d0
  have e1 := (hb3.cells _ 1 z2).trans d1
  have Row3 := Lib.hid (Row2.out.grow hb3)
  have hrd := Row3.out.rd
  rw [hn.out] at hrd
  have HS := Lib.hid (same_same y _ _ (by have := hn.out; omega) w3 hrd ho3.rd)
  have z3 : w.heap.size < w3.heap.size := Nat.lt_of_lt_of_le z2 hb3.size
  clear ho3 hb3 Row2 hG2 d0 d1 hrd
  have HG3 := Lib.hid hG3
  clear hG3
  go_wp2_with (go_at_call 19; refine HS.out.mono ?_; rintro e w4 ⟨rfl, hb4⟩)
  have HG4 := Lib.hid (HG3.out.trans hb4)
  have r0 := (hb4.cells _ 0 z3).trans e0
  have r1 := (hb4.cells _ 1 z3).trans e1
  have hrow4 := Row3.out.grow hb4
  have hrd4 := hrow4.rd
  rw [hn.out] at hrd4
  have HR4 := Lib.hid hrd4
  obtain ⟨d1, d2⟩ := hrow4.cells 0 (by rw [hn.out]; exact hn0)
  obtain ⟨d3, d4⟩ := hrow4.cells (n - 1) (by rw [hn.out]; omega)
  rw [hy0.out] at d1 d2
  rw [hyl.out] at d3 d4
  simp only [Nat.zero_add, Nat.zero_mul] at d1 d2 d3 d4
  obtain ⟨s, hs⟩ : ∃ s : Nat, n - 1 = s := ⟨_, rfl⟩
  have hs2 : (n : Int) - 1 = s := by omega
  rw [hs] at d3 d4
  have y5 : IntKind.i64.wrap (s : Int) = s := IntWalk.i64_in _ (by omega)
  have f0 : (0 : Int) < n := by omega
  have f3 : (0 : Int) ≤ s := by omega
  have f4 : (s : Int) < n := by omega
  have zg := hrow4.lt
  have z4 : w.heap.size < w4.heap.size := Nat.lt_of_lt_of_le z3 hb4.size
  have hlen : y.length ≤ 1152921504606846976 := by have := hn.out; omega
  have HL := Lib.hid hlen
  clear hb4 e0 e1 hrow4 hrd4 hs Row3 HG3 HS X Y hlen
  refine region_grow (by kernel_rfl) (by kernel_rfl) ?_
  intro X F hF
  have hFc := hF.cells
  haveI hFn := hF.ne
  repeat (go_big_quiet_step ((first | (go_at_call 20; with_reducible exact hF.call (nb_any y _ HL.out hnb.out _ (HR4.out.grow (hF.grow _)))))))
  refine wpQuiet_nil ?_
  rintro _ ⟨x9, rfl⟩
  have hb5 := hF.grow x9
  clear hFc hFn hF
  generalize F x9 = w5 at *
  have hc5 := hb5.cells
  have hf5 := hb5.frees
  have hz5 := hb5.size
  (try simp at hz5)
  go_wp2
  go_ret
  exact ⟨rfl, HG4.out.trans hb5⟩

theorem path_spec {c : C2} (h : (pathF c).2 = 0) : 0 < (pathF c).1.length ∧ (pathF c).1.getD 0 C2.zero = ⟨1, 0⟩ ∧ (pathF c).1.getD ((pathF c).1.length - 1) C2.zero = c ∧ Nb (pathF c).1 := by
  unfold pathF at h ⊢
  by_cases h5 : (expandF c).2 = 5
  · rw [if_pos h5]
    have hc : c = ⟨1, 0⟩ := by
      unfold expandF at h5
      by_cases h0 : ccF c = 0
      · rw [if_pos h0] at h5
        by_cases hq : c.q = 0
        · have := (ccF_zero.1 h0).2.2.2.2 hq
          cases c; simp_all
        · rw [if_neg hq] at h5; simp at h5
      · rw [if_neg h0] at h5
        simp only at h5
        unfold ccF at h5
        split at h5
        · split at h5 <;> simp at h5
        · simp at h5
    refine ⟨by simp, by simp, by simp [hc], fun j hj => ?_, fun j hj1 hj2 => ?_⟩
    · have : j = 0 := by simp at hj; omega
      subst this
      simp; decide
    · simp at hj2; omega
  · rw [if_neg h5] at h ⊢
    by_cases h0 : (expandF c).2 = 0
    · rw [if_pos h0] at h ⊢
      have hcc : ccF c = 0 ∧ c.q ≠ 0 := by
        unfold expandF at h0 h5
        by_cases h1 : ccF c = 0
        · refine ⟨h1, fun hq => ?_⟩
          rw [if_pos h1, if_pos hq] at h5; simp at h5
        · rw [if_neg h1] at h0; exact absurd h0 h1
      obtain ⟨x, e1, e2, e3, e4, e5, e6⟩ := exp_top hcc.1 hcc.2
      rw [e2]
      refine ⟨by simp, by simp, ?_, conv_nb e2⟩
      simp only [List.length_cons, Nat.add_sub_cancel]
      obtain ⟨k, hk⟩ : ∃ k, x.length = k + 1 := ⟨x.length - 1, by omega⟩
      rw [hk] at e5 ⊢
      simpa using e5
    · rw [if_neg h0] at h; exact absurd h h0
theorem path_nil {c : C2} (h : (pathF c).2 ≠ 0) : (pathF c).1 = [] := by
  unfold pathF at h ⊢
  by_cases h5 : (expandF c).2 = 5
  · rw [if_pos h5] at h; simp at h
  · rw [if_neg h5] at h ⊢
    by_cases h0 : (expandF c).2 = 0
    · rw [if_pos h0] at h; simp at h
    · rw [if_neg h0]

theorem walk (c : C2) (w : World) : Calls Try.prog 5 #[.agg #[.int .i64 c.p, .int .i64 c.q]] w fun ex w' => ex = .returned (.bool true) ∧ Grow w w' := by
  have X := Lib.hid (fun w => path_any c w)
  have Y := Lib.hid (fun w => refPath_any c w)
  by_cases h : (pathF c).2 = 0
  · obtain ⟨h1, h2, h3, h4⟩ := path_spec h
    rw [h] at X Y
    exact walk_core c _ _ (Lib.hid rfl) h1 (by have := pathF_len c; omega) (Lib.hid h2) (Lib.hid h3) (Lib.hid h4) X Y w
  · rw [path_nil h] at X Y
    exact walk_err c _ h X Y w

set_option maxRecDepth 100000 in
theorem lifted (os : Os) (started : os.Started) (H : Type) (enc : TypeId × Value → H) :
    ReturnsInHanded {} Try.checked os 5 .any (Rows.contfracPathsSpec.pre6 enc Try.prog Try.f5 Rows.contfracPathsRow.domain false) (Rows.contfracPathsSpec.post enc Try.prog Try.f5 false true false false) := by
  refine returnsInHanded_of_change (C := Try.checked) own started (by kernel_rfl) Try.func5
    (ChangeSpec.witness6 (enc := enc) (C := Try.checked) false ⟨#[], #[.agg #[.int .i64 0, .int .i64 0]], []⟩ 8 (by kernel_rfl) (by kernel_rfl) (by kernel_rfl) (by kernel_rfl)) ?_
  intro W base args ds gs before hval0 hW hcnd _
  have hval : ∀ (j : Nat) t v, Try.f5.params[j]? = some t → args[j]? = some v → Value.okWide Try.prog W .any base t v := hval0
  have hW' := hW
  obtain ⟨p, q, hA0, hV, rfl, -, -⟩ := hW
  have hA : DataW.TrodAll enc Try.prog W 0 (fun _ => true) true Try.f5.params.toList args.toList ds p := hA0
  rw [Try.params5] at hA hval
  obtain ⟨v0, vs0, d0, ds0, p0, q0, hargs, rfl, rfl, h0, r0⟩ := trodAll_cons hA
  obtain ⟨rfl, rfl, rfl⟩ := trodAll_nil r0
  obtain rfl : args = #[v0] := by cases args; simp_all
  obtain ⟨rfl, rfl⟩ := trodVars_none hV
  obtain ⟨a0, rfl, c0⟩ := open_cusp (hval 0 29 v0 rfl rfl) h0
  clear hA0 hval0
  refine (walk a0 W).mono fun e W' ⟨he, hg⟩ => ?_
  subst he
  exact ⟨_, rfl, law_post 4 rfl Try.underlying4 laidOut (of_decide_eq_true (by kernel_rfl)) rfl hW' rfl hg⟩

theorem over : Rows.contfracPathsRow.holds Try.pinned (OpenSpec.ofChange Rows.contfracPathsSpec) :=
  OpenClaim.holds_of_wide 5 Try.f5 rfl rfl rfl rfl rfl rfl rfl ⟨rfl, rfl, rfl, rfl, rfl⟩ rfl rfl rfl rfl rfl (by kernel_rfl) Try.func5 (by kernel_rfl)
    (of_decide_eq_true (by kernel_rfl)) (by unfold Func.isWrapper; rw [if_neg (by decide +kernel)]; exact ⟨rfl, rfl⟩)
    (fun os started H enc _ => lifted os started H enc)

theorem proved : Rows.ContfracPathsSaid := over
end Go.Proofs.Ytfjlecphjahahaa.paths
