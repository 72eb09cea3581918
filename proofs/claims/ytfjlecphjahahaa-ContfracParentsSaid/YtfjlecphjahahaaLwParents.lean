/- The parents of a cusp are those of the reference, or the error is; the cusp is their mediant. No condition: every cusp. -/
import Derived.Test.YtfjlecphjahahaaCfZ
import Derived.Test.YtfjlecphjahahaaCfI
import Derived.Test.YtfjlecphjahahaaCfP
import Derived.Test.YtfjlecphjahahaaCfQ
namespace Go.Proofs.Ytfjlecphjahahaa.parents
open Go Go.RowKit Go.ChangeShapes Go.WideShapes Go.ChangeAt

set_option maxHeartbeats 2000000 in
theorem walk_err (c x y : C2) (er : Int) (he : er ≠ 0)
    (X : Hid (∀ w, Calls Try.prog 31 #[.agg #[.int .i64 c.p, .int .i64 c.q]] w fun e w' => e = .returned (.tuple #[.agg #[.int .i64 x.p, .int .i64 x.q], .agg #[.int .i64 y.p, .int .i64 y.q], .int .i64 er]) ∧ Grow w w'))
    (Y : Hid (∀ w, Calls Try.prog 32 #[.agg #[.int .i64 c.p, .int .i64 c.q]] w fun e w' => e = .returned (.tuple #[.agg #[.int .i64 x.p, .int .i64 x.q], .agg #[.int .i64 y.p, .int .i64 y.q], .int .i64 er]) ∧ Grow w w')) (w : World) :
    Calls Try.prog 11 #[.agg #[.int .i64 c.p, .int .i64 c.q]] w fun ex w' => ex = .returned (.bool true) ∧ Grow w w' := by
  have k1 : (er == 0) = false := by simpa using he
  have k2 : (er != 0) = true := by simpa using he
  clear he
  go_enter Try.func11, Try.ntmps11
  go_wp2_with fail
  (go_at_call 13; refine (awake19_any _).mono ?_; rintro e w1 ⟨rfl, hb1⟩; have hc1 := hb1.cells; have hf1 := hb1.frees; have hz1 := hb1.size; (try simp at hz1))
  have z1a : w.heap.size < w1.heap.size := by omega
  have c0 : w1.cell? ⟨w.heap.size, 0, none⟩ = some (.int .i64 c.p) := by rw [hc1 _ _ (by simp; try omega)]; go_simp
  have c1 : w1.cell? ⟨w.heap.size, 1, none⟩ = some (.int .i64 c.q) := by rw [hc1 _ _ (by simp; try omega)]; go_simp
  have hG1 : Grow w w1 := by (repeat (first | with_reducible exact Grow.refl _ | with_reducible refine Grow.alloc ?_ _ | with_reducible refine Grow.drew ?_ | with_reducible refine Grow.drewN ?_ _ | (with_reducible refine Grow.setCell ?_ ?hp _; (case hp => (simp; try omega))) | with_reducible refine Grow.trans ?_ (by assumption)))
  clear hc1 hf1 hb1 hz1
  go_wp2_with fail
  (go_at_call 31; refine (X.out _).mono ?_; rintro e w2 ⟨rfl, hb2⟩; have hc2 := hb2.cells; have hf2 := hb2.frees; have hz2 := hb2.size; (try simp at hz2))
  have z2a : w.heap.size < w2.heap.size := by omega
  have z2b : w.heap.size < w2.heap.size + 1 + 1 := by omega
  go_wp2_with fail
  (go_at_call 32; refine (Y.out _).mono ?_; rintro e w3 ⟨rfl, hb3⟩; have hc3 := hb3.cells; have hf3 := hb3.frees; have hz3 := hb3.size; (try simp at hz3))
  have z3a : w.heap.size < w3.heap.size := by omega
  have z3b : w2.heap.size < w3.heap.size := by omega
  have z3c : w2.heap.size + 1 < w3.heap.size := by omega
  have z3d : w.heap.size < w3.heap.size + 1 + 1 := by omega
  have z3e : w2.heap.size < w3.heap.size + 1 + 1 := by omega
  have z3f : w2.heap.size + 1 < w3.heap.size + 1 + 1 := by omega
  have hG2 := hG1.trans hb2
  have hG3 : Grow w w3 := by clear hb2; (repeat (first | with_reducible exact Grow.refl _ | with_reducible refine Grow.alloc ?_ _ | with_reducible refine Grow.drew ?_ | with_reducible refine Grow.drewN ?_ _ | (with_reducible refine Grow.setCell ?_ ?hp _; (case hp => (simp; try omega))) | with_reducible refine Grow.trans ?_ (by assumption)))
  go_wp2_with fail
  go_ret
  exact ⟨rfl, (hG3.alloc _).alloc _⟩

set_option maxHeartbeats 2000000 in
theorem walk_ok (c x y : C2) (l1 : x.q < c.q) (l2 : y.q < c.q)
    (X : Hid (∀ w, Calls Try.prog 31 #[.agg #[.int .i64 c.p, .int .i64 c.q]] w fun e w' => e = .returned (.tuple #[.agg #[.int .i64 x.p, .int .i64 x.q], .agg #[.int .i64 y.p, .int .i64 y.q], .int .i64 0]) ∧ Grow w w'))
    (Y : Hid (∀ w, Calls Try.prog 32 #[.agg #[.int .i64 c.p, .int .i64 c.q]] w fun e w' => e = .returned (.tuple #[.agg #[.int .i64 x.p, .int .i64 x.q], .agg #[.int .i64 y.p, .int .i64 y.q], .int .i64 0]) ∧ Grow w w'))
    (M : Hid (∀ w, Calls Try.prog 29 #[.agg #[.int .i64 x.p, .int .i64 x.q], .agg #[.int .i64 y.p, .int .i64 y.q]] w fun e w' => e = .returned (.tuple #[.agg #[.int .i64 c.p, .int .i64 c.q], .int .i64 0]) ∧ Grow w w')) (w : World) :
    Calls Try.prog 11 #[.agg #[.int .i64 c.p, .int .i64 c.q]] w fun ex w' => ex = .returned (.bool true) ∧ Grow w w' := by
  go_enter Try.func11, Try.ntmps11
  go_wp2_with fail
  (go_at_call 13; refine (awake19_any _).mono ?_; rintro e w1 ⟨rfl, hb1⟩; have hc1 := hb1.cells; have hf1 := hb1.frees; have hz1 := hb1.size; (try simp at hz1))
  have z1a : w.heap.size < w1.heap.size := by omega
  have c0 : w1.cell? ⟨w.heap.size, 0, none⟩ = some (.int .i64 c.p) := by rw [hc1 _ _ (by simp; try omega)]; go_simp
  have c1 : w1.cell? ⟨w.heap.size, 1, none⟩ = some (.int .i64 c.q) := by rw [hc1 _ _ (by simp; try omega)]; go_simp
  have hG1 : Grow w w1 := by (repeat (first | with_reducible exact Grow.refl _ | with_reducible refine Grow.alloc ?_ _ | with_reducible refine Grow.drew ?_ | with_reducible refine Grow.drewN ?_ _ | (with_reducible refine Grow.setCell ?_ ?hp _; (case hp => (simp; try omega))) | with_reducible refine Grow.trans ?_ (by assumption)))
  clear hc1 hf1 hb1 hz1
  go_wp2_with fail
  (go_at_call 31; refine (X.out _).mono ?_; rintro e w2 ⟨rfl, hb2⟩; have hc2 := hb2.cells; have hf2 := hb2.frees; have hz2 := hb2.size; (try simp at hz2))
  have z2a : w.heap.size < w2.heap.size := by omega
  have z2b : w.heap.size < w2.heap.size + 1 + 1 := by omega
  go_wp2_with fail
  (go_at_call 32; refine (Y.out _).mono ?_; rintro e w3 ⟨rfl, hb3⟩; have hc3 := hb3.cells; have hf3 := hb3.frees; have hz3 := hb3.size; (try simp at hz3))
  have z3a : w.heap.size < w3.heap.size := by omega
  have z3b : w2.heap.size < w3.heap.size := by omega
  have z3c : w2.heap.size + 1 < w3.heap.size := by omega
  have z3d : w.heap.size < w3.heap.size + 1 + 1 := by omega
  have z3e : w2.heap.size < w3.heap.size + 1 + 1 := by omega
  have z3f : w2.heap.size + 1 < w3.heap.size + 1 + 1 := by omega
  have hG2 := hG1.trans hb2
  have hG3 : Grow w w3 := by clear hb2; (repeat (first | with_reducible exact Grow.refl _ | with_reducible refine Grow.alloc ?_ _ | with_reducible refine Grow.drew ?_ | with_reducible refine Grow.drewN ?_ _ | (with_reducible refine Grow.setCell ?_ ?hp _; (case hp => (simp; try omega))) | with_reducible refine Grow.trans ?_ (by assumption)))
  go_wp2_with fail
  (go_at_call 29; refine (M.out _).mono ?_; rintro e w4 ⟨rfl, hb4⟩; have hc4 := hb4.cells; have hf4 := hb4.frees; have hz4 := hb4.size; (try simp at hz4))
  have z4a : w.heap.size < w4.heap.size := by omega
  have z4b : w2.heap.size < w4.heap.size := by omega
  have z4c : w2.heap.size + 1 < w4.heap.size := by omega
  have hG4 : Grow w w4 := Grow.trans ((hG3.alloc _).alloc _) hb4
  go_wp2_with fail
  go_ret
  exact ⟨rfl, hG4.alloc _⟩

theorem walk (c : C2) (w : World) : Calls Try.prog 11 #[.agg #[.int .i64 c.p, .int .i64 c.q]] w fun ex w' => ex = .returned (.bool true) ∧ Grow w w' := by
  by_cases h0 : ccF c = 0
  · by_cases hq : 2 ≤ c.q
    · obtain ⟨t, ht⟩ : ∃ t, ParSpec c t := by
        exact par_exists h0 hq
      obtain ⟨m1, m2⟩ := par_med h0 hq ht
      have hg := (ccF_zero.1 h0).2.2.2.1
      refine walk_ok c t ⟨c.p - t.p, c.q - t.q⟩ ht.2.1 m2 ?_ ?_ ?_ w
      · intro w
        refine (parents_any c h0 hq w).mono ?_
        rintro e w' ⟨s, rfl, hs, hgr⟩
        rw [par_unique hg hs ht]
        exact ⟨rfl, hgr⟩
      · intro w
        refine (refparents_any c h0 hq w).mono ?_
        rintro e w' ⟨s, rfl, hs, hgr⟩
        rw [par_unique hg hs ht]
        exact ⟨rfl, hgr⟩
      · intro w
        have h := med_any t ⟨c.p - t.p, c.q - t.q⟩ w
        rw [m1] at h
        exact h
    · refine walk_err c C2.zero C2.zero 3 (by decide) (fun w => parents_low c h0 (by omega) w) ?_ w
      intro w
      have X := Lib.hid (fun w => refExpand_any c w)
      by_cases hq0 : c.q = 0
      · have e : expandF c = ([], 5) := by simp [expandF, h0, hq0]
        rw [e] at X
        exact refpar_low c [] 5 0 rfl (.inl rfl) X w
      · have hq1 : c.q = 1 := by have := (ccF_zero.1 h0).2.1; omega
        obtain ⟨e1, e2⟩ := exp_one h0 hq1
        rw [e2] at X
        exact refpar_low c _ 0 1 e1 (.inr ⟨rfl, rfl⟩) X w
  · refine walk_err c C2.zero C2.zero (ccF c) h0 (fun w => parents_err c h0 w) ?_ w
    intro w
    have X := Lib.hid (fun w => refExpand_any c w)
    have e : expandF c = ([], ccF c) := by simp [expandF, h0]
    rw [e] at X
    refine refpar_err c [] (ccF c) ?_ h0 X w
    unfold ccF
    split
    · split <;> simp
    · simp

set_option maxRecDepth 100000 in
theorem lifted (os : Os) (started : os.Started) (H : Type) (enc : TypeId × Value → H) :
    ReturnsInHanded {} Try.checked os 11 .any (Rows.contfracParentsSpec.pre6 enc Try.prog Try.f11 Rows.contfracParentsRow.domain false) (Rows.contfracParentsSpec.post enc Try.prog Try.f11 false true false false) := by
  refine returnsInHanded_of_change (C := Try.checked) own started (by kernel_rfl) Try.func11
    (ChangeSpec.witness6 (enc := enc) (C := Try.checked) false ⟨#[], #[.agg #[.int .i64 0, .int .i64 0]], []⟩ 8 (by kernel_rfl) (by kernel_rfl) (by kernel_rfl) (by kernel_rfl)) ?_
  intro W base args ds gs before hval0 hW hcnd _
  have hval : ∀ (j : Nat) t v, Try.f11.params[j]? = some t → args[j]? = some v → Value.okWide Try.prog W .any base t v := hval0
  have hW' := hW
  obtain ⟨p, q, hA0, hV, rfl, -, -⟩ := hW
  have hA : DataW.TrodAll enc Try.prog W 0 (fun _ => true) true Try.f11.params.toList args.toList ds p := hA0
  rw [Try.params11] at hA hval
  obtain ⟨v0, vs0, d0, ds0, p0, q0, hargs, rfl, rfl, h0, r0⟩ := trodAll_cons hA
  obtain ⟨rfl, rfl, rfl⟩ := trodAll_nil r0
  obtain rfl : args = #[v0] := by cases args; simp_all
  obtain ⟨rfl, rfl⟩ := trodVars_none hV
  obtain ⟨a0, rfl, c0⟩ := open_cusp (hval 0 29 v0 rfl rfl) h0
  clear hA0 hval0
  refine (walk a0 W).mono fun e W' ⟨he, hg⟩ => ?_
  subst he
  exact ⟨_, rfl, law_post 4 rfl Try.underlying4 laidOut (of_decide_eq_true (by kernel_rfl)) rfl hW' rfl hg⟩

theorem over : Rows.contfracParentsRow.holds Try.pinned (OpenSpec.ofChange Rows.contfracParentsSpec) :=
  OpenClaim.holds_of_wide 11 Try.f11 rfl rfl rfl rfl rfl rfl rfl ⟨rfl, rfl, rfl, rfl, rfl⟩ rfl rfl rfl rfl rfl (by kernel_rfl) Try.func11 (by kernel_rfl)
    (of_decide_eq_true (by kernel_rfl)) (by unfold Func.isWrapper; rw [if_neg (by decide +kernel)]; exact ⟨rfl, rfl⟩)
    (fun os started H enc _ => lifted os started H enc)

theorem proved : Rows.ContfracParentsSaid := over
end Go.Proofs.Ytfjlecphjahahaa.parents
