/- The expansion of a cusp is that of the reference, or the error is; and its value is the number. No condition: every cusp. -/
import Derived.Test.YtfjlecphjahahaaCfZ
import Derived.Test.YtfjlecphjahahaaCfI
import Derived.Test.YtfjlecphjahahaaCfM
import Derived.Test.YtfjlecphjahahaaPlM
namespace Go.Proofs.Ytfjlecphjahahaa.expands
open Go Go.RowKit Go.ChangeShapes Go.WideShapes Go.ChangeAt

set_option maxHeartbeats 1000000 in
theorem walk_all (c : C2) (L : List Int) (hL : L.length ≤ 1152921504606846976) (er : Int) (he : er ≠ 0 ∨ (er = 0 ∧ lastF L = (c, 0))) (X : Hid (∀ w, Calls Try.prog 16 #[.agg #[.int .i64 c.p, .int .i64 c.q]] w fun e w' => ∃ v, e = .returned (.tuple #[v, .int .i64 er]) ∧ OwnInts w' w.heap.size v L ∧ Grow w w'))
    (Y : Hid (∀ w, Calls Try.prog 23 #[.agg #[.int .i64 c.p, .int .i64 c.q]] w fun e w' => ∃ v, e = .returned (.tuple #[v, .int .i64 er]) ∧ OwnInts w' w.heap.size v L ∧ Grow w w')) (w : World) :
    Calls Try.prog 7 #[.agg #[.int .i64 c.p, .int .i64 c.q]] w fun ex w' => ex = .returned (.bool true) ∧ Grow w w' := by
  go_enter Try.func7, Try.ntmps7
  go_wp2_with fail
  (go_at_call 13; refine (awake19_any _).mono ?_; rintro e w1 ⟨rfl, hb1⟩; have hc1 := hb1.cells; have hf1 := hb1.frees; have hz1 := hb1.size; (try simp at hz1))
  have z1 : w.heap.size < w1.heap.size := by omega
  have c0 : w1.cell? ⟨w.heap.size, 0, none⟩ = some (.int .i64 c.p) := by rw [hc1 _ _ (by simp)]; go_simp
  have c1 : w1.cell? ⟨w.heap.size, 1, none⟩ = some (.int .i64 c.q) := by rw [hc1 _ _ (by simp)]; go_simp
  have hG1 : Grow w w1 := by (repeat (first | with_reducible exact Grow.refl _ | with_reducible refine Grow.alloc ?_ _ | with_reducible refine Grow.drew ?_ | with_reducible refine Grow.drewN ?_ _ | (with_reducible refine Grow.setCell ?_ ?hp _; (case hp => (simp; try omega))) | with_reducible refine Grow.trans ?_ (by assumption)))
  clear hc1 hf1 hb1
  go_wp2_with fail
  go_at_call 16
  refine (X.out _).mono ?_
  rintro e w2 ⟨v2, rfl, ho2, hb2⟩
  have d0 := (hb2.cells _ 0 z1).trans c0
  have d1 := (hb2.cells _ 1 z1).trans c1
  have z2 : w.heap.size < w2.heap.size := Nat.lt_of_lt_of_le z1 hb2.size
  have hG2 := hG1.trans hb2
  have HR2 := Lib.hid ho2.rd
  clear ho2 hb2 c0 c1 hG1
  go_wp2_with fail
  go_at_call 23
  refine (Y.out _).mono ?_
  rintro e w3 ⟨v3, rfl, ho3, hb3⟩
  have e0 := (hb3.cells _ 0 z2).trans d0
  have e1 := (hb3.cells _ 1 z2).trans d1
  have z3 : w.heap.size < w3.heap.size := Nat.lt_of_lt_of_le z2 hb3.size
  have hG3 := hG2.trans hb3
  have HR3 := Lib.hid (HR2.out.grow hb3)
  have HS := Lib.hid (ints_same L _ _ hL w3 HR3.out ho3.rd)
  have HG3 := Lib.hid hG3
  clear ho3 hb3 HR2 hG2 hG3 d0 d1
  rcases he with he | ⟨rfl, hlast⟩
  · have k1 : (er == 0) = false := by simpa using he
    have k2 : (er != 0) = true := by simpa using he
    clear he
    go_wp2_with (go_at_call 24; refine HS.out.mono ?_; rintro e w4 ⟨rfl, hb4⟩)
    go_ret
    exact ⟨rfl, HG3.out.trans hb4⟩
  · have HLa := Lib.hid hlast
    clear hlast
    go_wp2_with (go_at_call 24; refine HS.out.mono ?_; rintro e w4 ⟨rfl, hb4⟩)
    have a0 := (hb4.cells _ 0 z3).trans e0
    have a1 := (hb4.cells _ 1 z3).trans e1
    have z4 : w.heap.size < w4.heap.size := Nat.lt_of_lt_of_le z3 hb4.size
    have HG4 := Lib.hid (HG3.out.trans hb4)
    have HV := Lib.hid (cvalue_any L v2 hL w4 (HR3.out.grow hb4))
    rw [HLa.out] at HV
    clear hb4 e0 e1 HS HR3
    go_at_call 25
    refine HV.out.mono ?_
    rintro e w5 ⟨rfl, hb5⟩
    have b0 := (hb5.cells _ 0 z4).trans a0
    have b1 := (hb5.cells _ 1 z4).trans a1
    have z5 : w.heap.size < w5.heap.size := Nat.lt_of_lt_of_le z4 hb5.size
    have HG5 := Lib.hid (HG4.out.trans hb5)
    clear hb5 a0 a1 HV
    go_wp2
    go_ret
    exact ⟨rfl, HG5.out.alloc _⟩

theorem walk (c : C2) (w : World) : Calls Try.prog 7 #[.agg #[.int .i64 c.p, .int .i64 c.q]] w fun ex w' => ex = .returned (.bool true) ∧ Grow w w' := by
  have X := Lib.hid (fun w => expand_any c w)
  have Y := Lib.hid (fun w => refExpand_any c w)
  have hl := expandF_len c
  by_cases h : (expandF c).2 = 0
  · have hcc : ccF c = 0 ∧ c.q ≠ 0 := by
      unfold expandF at h
      by_cases h1 : ccF c = 0
      · refine ⟨h1, fun hq => ?_⟩
        rw [if_pos h1, if_pos hq] at h; simp at h
      · rw [if_neg h1] at h; exact absurd h h1
    obtain ⟨x, e1, e2, e3, e4, e5, e6⟩ := exp_top hcc.1 hcc.2
    exact walk_all c _ (by omega) _ (.inr ⟨h, by unfold lastF; rw [e2]; simp only [if_true]; rw [e5]⟩) X Y w
  · exact walk_all c _ (by omega) _ (.inl h) X Y w

set_option maxRecDepth 100000 in
theorem lifted (os : Os) (started : os.Started) (H : Type) (enc : TypeId × Value → H) :
    ReturnsInHanded {} Try.checked os 7 .any (Rows.contfracExpandsSpec.pre6 enc Try.prog Try.f7 Rows.contfracExpandsRow.domain false) (Rows.contfracExpandsSpec.post enc Try.prog Try.f7 false true false false) := by
  refine returnsInHanded_of_change (C := Try.checked) own started (by kernel_rfl) Try.func7
    (ChangeSpec.witness6 (enc := enc) (C := Try.checked) false ⟨#[], #[.agg #[.int .i64 0, .int .i64 0]], []⟩ 8 (by kernel_rfl) (by kernel_rfl) (by kernel_rfl) (by kernel_rfl)) ?_
  intro W base args ds gs before hval0 hW hcnd _
  have hval : ∀ (j : Nat) t v, Try.f7.params[j]? = some t → args[j]? = some v → Value.okWide Try.prog W .any base t v := hval0
  have hW' := hW
  obtain ⟨p, q, hA0, hV, rfl, -, -⟩ := hW
  have hA : DataW.TrodAll enc Try.prog W 0 (fun _ => true) true Try.f7.params.toList args.toList ds p := hA0
  rw [Try.params7] at hA hval
  obtain ⟨v0, vs0, d0, ds0, p0, q0, hargs, rfl, rfl, h0, r0⟩ := trodAll_cons hA
  obtain ⟨rfl, rfl, rfl⟩ := trodAll_nil r0
  obtain rfl : args = #[v0] := by cases args; simp_all
  obtain ⟨rfl, rfl⟩ := trodVars_none hV
  obtain ⟨a0, rfl, c0⟩ := open_cusp (hval 0 29 v0 rfl rfl) h0
  clear hA0 hval0
  refine (walk a0 W).mono fun e W' ⟨he, hg⟩ => ?_
  subst he
  exact ⟨_, rfl, law_post 4 rfl Try.underlying4 laidOut (of_decide_eq_true (by kernel_rfl)) rfl hW' rfl hg⟩

theorem over : Rows.contfracExpandsRow.holds Try.pinned (OpenSpec.ofChange Rows.contfracExpandsSpec) :=
  OpenClaim.holds_of_wide 7 Try.f7 rfl rfl rfl rfl rfl rfl rfl ⟨rfl, rfl, rfl, rfl, rfl⟩ rfl rfl rfl rfl rfl (by kernel_rfl) Try.func7 (by kernel_rfl)
    (of_decide_eq_true (by kernel_rfl)) (by unfold Func.isWrapper; rw [if_neg (by decide +kernel)]; exact ⟨rfl, rfl⟩)
    (fun os started H enc _ => lifted os started H enc)

theorem proved : Rows.ContfracExpandsSaid := over
end Go.Proofs.Ytfjlecphjahahaa.expands
