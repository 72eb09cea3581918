/- Lemmas, plain laws and walks that the statement LwValence leans on (texts BiR, RwB, RwC, RwT, RwD, RwE, RwF, RwG, RwI), conditions as each theorem says. -/
import Derived.StillTail
import Derived.Deep.RegionHeld3
import Derived.OwnWalk
import Derived.Laws.OwnMore
import Derived.Test.YtbpkfcohbefphaaGreatTopValG01
import Derived.Test.YtbpkfcohbefphaaGreatTopValG06

namespace Go.Proofs.YtbpkfcohbefphaaGreat
open Go Go.RowKit
set_option maxRecDepth 20000 in
set_option maxHeartbeats 8000000 in
theorem subQ (x : Rat) (y : Rat) (v1 v2 : Value) (hb : AddB x (-y)) (w : World) (h1 : RatR w v1 x) (h2 : RatR w v2 y) :
    Calls Tryz.prog 9 #[v1, v2] w fun e w' => ∃ v, e = .returned v ∧ RatR w' v (x - y) ∧ Grow w w' := by
  obtain ⟨s1, a1, l1, c1, t1, b1, k1, e1, rfl⟩ := h1.form
  have HX1 := Lib.hid h1
  obtain ⟨s2, a2, l2, c2, t2, b2, k2, e2, rfl⟩ := h2.form
  have HX2 := Lib.hid h2
  have NG := Lib.hid (fun u hu => negQ _ _ u (h2.grow hu))
  have AD := Lib.hid (fun u v hv hu => addQ x (-y) _ v hb u (h1.grow hu) hv)
  rw [← Rat.sub_eq_add_neg] at AD
  clear h1 h2 hb
  go_enter Tryz.func9, Tryz.ntmps9
  go_wp2_with fail
  have c0 : ∀ u : World, Grow (((w.alloc (.cells #[.bool s1, .slice a1 l1 c1, .bool t1, .slice b1 k1 e1] 36)).alloc (.cells #[.bool s2, .slice a2 l2 c2, .bool t2, .slice b2 k2 e2] 36)).alloc (.cells #[.bool false, .slice none 0 0, .bool false, .slice none 0 0] 36)) u → u.cell? ⟨w.heap.size, 0, none⟩ = some (.bool s1) ∧ u.cell? ⟨w.heap.size, 1, none⟩ = some (.slice a1 l1 c1) ∧ u.cell? ⟨w.heap.size, 2, none⟩ = some (.bool t1) ∧ u.cell? ⟨w.heap.size, 3, none⟩ = some (.slice b1 k1 e1) ∧ u.cell? ⟨w.heap.size + 1, 0, none⟩ = some (.bool s2) ∧ u.cell? ⟨w.heap.size + 1, 1, none⟩ = some (.slice a2 l2 c2) ∧ u.cell? ⟨w.heap.size + 1, 2, none⟩ = some (.bool t2) ∧ u.cell? ⟨w.heap.size + 1, 3, none⟩ = some (.slice b2 k2 e2) := by
    intro u hg
    refine ⟨(hg.cells _ _ (by (try simp); try omega)).trans ?_, (hg.cells _ _ (by (try simp); try omega)).trans ?_, (hg.cells _ _ (by (try simp); try omega)).trans ?_, (hg.cells _ _ (by (try simp); try omega)).trans ?_, (hg.cells _ _ (by (try simp); try omega)).trans ?_, (hg.cells _ _ (by (try simp); try omega)).trans ?_, (hg.cells _ _ (by (try simp); try omega)).trans ?_, (hg.cells _ _ (by (try simp); try omega)).trans ?_⟩ <;> go_simp
  have C0 := Lib.hid c0
  clear c0
  have r0 : ∀ u : World, Grow (((w.alloc (.cells #[.bool s1, .slice a1 l1 c1, .bool t1, .slice b1 k1 e1] 36)).alloc (.cells #[.bool s2, .slice a2 l2 c2, .bool t2, .slice b2 k2 e2] 36)).alloc (.cells #[.bool false, .slice none 0 0, .bool false, .slice none 0 0] 36)) u → u.cell? ⟨w.heap.size + 1 + 1, 0, none⟩ = some (.bool false) ∧ u.cell? ⟨w.heap.size + 1 + 1, 1, none⟩ = some (.slice none 0 0) ∧ u.cell? ⟨w.heap.size + 1 + 1, 2, none⟩ = some (.bool false) ∧ u.cell? ⟨w.heap.size + 1 + 1, 3, none⟩ = some (.slice none 0 0) ∧ (∀ o, u.frozen? ⟨w.heap.size + 1 + 1, o, none⟩ = false) ∧ NoU u (w.heap.size + 1 + 1) ∧ w.heap.size + 1 + 1 < u.heap.size ∧ Grow w u := by
    intro u hg
    have hz := hg.size
    simp at hz
    refine ⟨(hg.cells _ _ (by simp)).trans ?_, (hg.cells _ _ (by simp)).trans ?_, (hg.cells _ _ (by simp)).trans ?_, (hg.cells _ _ (by simp)).trans ?_, fun o => (hg.frees _ _ (by simp)).trans ?_, ?_, by omega, Grow.trans (by (repeat (first | with_reducible exact Grow.refl _ | with_reducible refine Grow.alloc ?_ _ | with_reducible refine Grow.drew ?_ | with_reducible refine Grow.drewN ?_ _ | (with_reducible refine Grow.setCell ?_ ?hp _; (case hp => (simp; try omega))) | with_reducible refine Grow.trans ?_ (by assumption)))) hg⟩
    · go_simp
    · go_simp
    · go_simp
    · go_simp
    · go_simp
    · have h := NoU.alloc ((w.alloc (.cells #[.bool s1, .slice a1 l1 c1, .bool t1, .slice b1 k1 e1] 36)).alloc (.cells #[.bool s2, .slice a2 l2 c2, .bool t2, .slice b2 k2 e2] 36)) _ 36 (noU4 false false none none 0 0 0 0)
      (try simp at h)
      exact h.grow (by simp) hg
  have R0 := Lib.hid r0
  clear r0
  go_region_held3 (fun u => u.cell? ⟨w.heap.size, 0, none⟩ = some (.bool s1) ∧ u.cell? ⟨w.heap.size, 1, none⟩ = some (.slice a1 l1 c1) ∧ u.cell? ⟨w.heap.size, 2, none⟩ = some (.bool t1) ∧ u.cell? ⟨w.heap.size, 3, none⟩ = some (.slice b1 k1 e1) ∧ u.cell? ⟨w.heap.size + 1, 0, none⟩ = some (.bool s2) ∧ u.cell? ⟨w.heap.size + 1, 1, none⟩ = some (.slice a2 l2 c2) ∧ u.cell? ⟨w.heap.size + 1, 2, none⟩ = some (.bool t2) ∧ u.cell? ⟨w.heap.size + 1, 3, none⟩ = some (.slice b2 k2 e2))
    (first | (refine ⟨?_, ?_, ?_, ?_, ?_, ?_, ?_, ?_⟩ <;> (go_simp; done)) | exact C0.out _ (by (repeat (first | with_reducible exact Grow.refl _ | with_reducible refine Grow.alloc ?_ _ | with_reducible refine Grow.drew ?_ | with_reducible refine Grow.drewN ?_ _ | (with_reducible refine Grow.setCell ?_ ?hp _; (case hp => (simp; try omega))) | with_reducible refine Grow.trans ?_ (by assumption)))))
    (first
      | (go_at_call 36; (with_reducible refine (NG.out _ (by (repeat (first | with_reducible exact Grow.refl _ | with_reducible refine Grow.alloc ?_ _ | with_reducible refine Grow.drew ?_ | with_reducible refine Grow.drewN ?_ _ | (with_reducible refine Grow.setCell ?_ ?hp _; (case hp => (simp; try omega))) | with_reducible refine Grow.trans ?_ (by assumption))))).mono ?_); (rintro e u6 ⟨v6, rfl, hv6, hb6⟩; obtain ⟨s6, a6, l6, c6, t6, b6, k6, e6, rfl⟩ := hv6.form; have HV6 := Lib.hid hv6; clear hv6; obtain ⟨f0_6, f1_6, f2_6, f3_6, f4_6, f5_6, f6_6, f7_6⟩ := C0.out u6 (by (repeat (first | with_reducible exact Grow.refl _ | with_reducible refine Grow.alloc ?_ _ | with_reducible refine Grow.drew ?_ | with_reducible refine Grow.drewN ?_ _ | (with_reducible refine Grow.setCell ?_ ?hp _; (case hp => (simp; try omega))) | with_reducible refine Grow.trans ?_ (by assumption)))); obtain ⟨q0_6, q1_6, q2_6, q3_6, qf6, NU6, hz6, HB6⟩ := R0.out u6 (by (repeat (first | with_reducible exact Grow.refl _ | with_reducible refine Grow.alloc ?_ _ | with_reducible refine Grow.drew ?_ | with_reducible refine Grow.drewN ?_ _ | (with_reducible refine Grow.setCell ?_ ?hp _; (case hp => (simp; try omega))) | with_reducible refine Grow.trans ?_ (by assumption)))); have NUH6 := Lib.hid NU6; have HBH6 := Lib.hid HB6; clear NU6 HB6))
      | (go_at_call 21; (with_reducible refine (AD.out _ _ (HV6.out.grow (by (repeat (first | with_reducible exact Grow.refl _ | with_reducible refine Grow.alloc ?_ _ | with_reducible refine Grow.drew ?_ | with_reducible refine Grow.drewN ?_ _ | (with_reducible refine Grow.setCell ?_ ?hp _; (case hp => (simp; try omega))) | with_reducible refine Grow.trans ?_ (by assumption))))) (by (repeat (first | with_reducible exact Grow.refl _ | with_reducible refine Grow.alloc ?_ _ | with_reducible refine Grow.drew ?_ | with_reducible refine Grow.drewN ?_ _ | (with_reducible refine Grow.setCell ?_ ?hp _; (case hp => (simp; try omega))) | with_reducible refine Grow.trans ?_ (by assumption))))).mono ?_); (rintro e u7 ⟨v7, rfl, hv7, hb7⟩; obtain ⟨s7, a7, l7, c7, t7, b7, k7, e7, rfl⟩ := hv7.form; have HV7 := Lib.hid hv7; clear hv7; obtain ⟨f0_7, f1_7, f2_7, f3_7, f4_7, f5_7, f6_7, f7_7⟩ := C0.out u7 (by (repeat (first | with_reducible exact Grow.refl _ | with_reducible refine Grow.alloc ?_ _ | with_reducible refine Grow.drew ?_ | with_reducible refine Grow.drewN ?_ _ | (with_reducible refine Grow.setCell ?_ ?hp _; (case hp => (simp; try omega))) | with_reducible refine Grow.trans ?_ (by assumption)))); obtain ⟨q0_7, q1_7, q2_7, q3_7, qf7, NU7, hz7, HB7⟩ := R0.out u7 (by (repeat (first | with_reducible exact Grow.refl _ | with_reducible refine Grow.alloc ?_ _ | with_reducible refine Grow.drew ?_ | with_reducible refine Grow.drewN ?_ _ | (with_reducible refine Grow.setCell ?_ ?hp _; (case hp => (simp; try omega))) | with_reducible refine Grow.trans ?_ (by assumption)))); have NUH7 := Lib.hid NU7; have HBH7 := Lib.hid HB7; clear NU7 HB7)))
  all_goals (try simp only [Exit.then])
  all_goals go_wp2_with fail
  all_goals refine bodyPost_ret (v := .agg #[.bool s7, .slice a7 l7 c7, .bool t7, .slice b7 k7 e7]) (by rw [results_one rfl]; go_simp) rfl ⟨_, rfl, HV7.out.set4 NUH7.out _ _ _ _ _ _ _ _, by have h9 := HBH7.out; (repeat (first | with_reducible exact Grow.refl _ | with_reducible refine Grow.alloc ?_ _ | with_reducible refine Grow.drew ?_ | with_reducible refine Grow.drewN ?_ _ | (with_reducible refine Grow.setCell ?_ ?hp _; (case hp => (simp; try omega))) | with_reducible refine Grow.trans ?_ (by assumption)))⟩
set_option maxRecDepth 20000 in
set_option maxHeartbeats 8000000 in
theorem cmpQ (x : Rat) (y : Rat) (v1 v2 : Value) (hb : AddB x (-y)) (w : World) (h1 : RatR w v1 x) (h2 : RatR w v2 y) :
    Calls Tryz.prog 23 #[v1, v2] w fun e w' => e = .returned (.int .i64 (sgI (x - y).num)) ∧ Grow w w' := by
  obtain ⟨s1, a1, l1, c1, t1, b1, k1, e1, rfl⟩ := h1.form
  have HX1 := Lib.hid h1
  obtain ⟨s2, a2, l2, c2, t2, b2, k2, e2, rfl⟩ := h2.form
  have HX2 := Lib.hid h2
  have SB := Lib.hid (fun u hu => subQ x y _ _ hb u (h1.grow hu) (h2.grow hu))
  have SG := Lib.hid (fun u v hv => signQ (x - y) v u hv)
  clear h1 h2 hb
  go_enter Tryz.func23, Tryz.ntmps23
  go_wp2_with fail
  have c0 : ∀ u : World, Grow ((w.alloc (.cells #[.bool s1, .slice a1 l1 c1, .bool t1, .slice b1 k1 e1] 36)).alloc (.cells #[.bool s2, .slice a2 l2 c2, .bool t2, .slice b2 k2 e2] 36)) u → u.cell? ⟨w.heap.size, 0, none⟩ = some (.bool s1) ∧ u.cell? ⟨w.heap.size, 1, none⟩ = some (.slice a1 l1 c1) ∧ u.cell? ⟨w.heap.size, 2, none⟩ = some (.bool t1) ∧ u.cell? ⟨w.heap.size, 3, none⟩ = some (.slice b1 k1 e1) ∧ u.cell? ⟨w.heap.size + 1, 0, none⟩ = some (.bool s2) ∧ u.cell? ⟨w.heap.size + 1, 1, none⟩ = some (.slice a2 l2 c2) ∧ u.cell? ⟨w.heap.size + 1, 2, none⟩ = some (.bool t2) ∧ u.cell? ⟨w.heap.size + 1, 3, none⟩ = some (.slice b2 k2 e2) := by
    intro u hg
    refine ⟨(hg.cells _ _ (by (try simp); try omega)).trans ?_, (hg.cells _ _ (by (try simp); try omega)).trans ?_, (hg.cells _ _ (by (try simp); try omega)).trans ?_, (hg.cells _ _ (by (try simp); try omega)).trans ?_, (hg.cells _ _ (by (try simp); try omega)).trans ?_, (hg.cells _ _ (by (try simp); try omega)).trans ?_, (hg.cells _ _ (by (try simp); try omega)).trans ?_, (hg.cells _ _ (by (try simp); try omega)).trans ?_⟩ <;> go_simp
  have C0 := Lib.hid c0
  clear c0
  go_wp2_with (first | (go_at_call 9; (with_reducible refine (SB.out _ (by (repeat (first | with_reducible exact Grow.refl _ | with_reducible refine Grow.alloc ?_ _ | with_reducible refine Grow.drew ?_ | with_reducible refine Grow.drewN ?_ _ | (with_reducible refine Grow.setCell ?_ ?hp _; (case hp => (simp; try omega))) | with_reducible refine Grow.trans ?_ (by assumption))))).mono ?_); (rintro e u6 ⟨v6, rfl, hv6, hb6⟩; obtain ⟨s6, a6, l6, c6, t6, b6, k6, e6, rfl⟩ := hv6.form; have HV6 := Lib.hid hv6; clear hv6; obtain ⟨f0_6, f1_6, f2_6, f3_6, f4_6, f5_6, f6_6, f7_6⟩ := C0.out u6 (by (repeat (first | with_reducible exact Grow.refl _ | with_reducible refine Grow.alloc ?_ _ | with_reducible refine Grow.drew ?_ | with_reducible refine Grow.drewN ?_ _ | (with_reducible refine Grow.setCell ?_ ?hp _; (case hp => (simp; try omega))) | with_reducible refine Grow.trans ?_ (by assumption)))))) | (go_at_call 22; (with_reducible refine (SG.out _ _ (HV6.out.grow (by (repeat (first | with_reducible exact Grow.refl _ | with_reducible refine Grow.alloc ?_ _ | with_reducible refine Grow.drew ?_ | with_reducible refine Grow.drewN ?_ _ | (with_reducible refine Grow.setCell ?_ ?hp _; (case hp => (simp; try omega))) | with_reducible refine Grow.trans ?_ (by assumption)))))).mono ?_); (rintro e u7 ⟨rfl, hb7⟩; obtain ⟨f0_7, f1_7, f2_7, f3_7, f4_7, f5_7, f6_7, f7_7⟩ := C0.out u7 (by (repeat (first | with_reducible exact Grow.refl _ | with_reducible refine Grow.alloc ?_ _ | with_reducible refine Grow.drew ?_ | with_reducible refine Grow.drewN ?_ _ | (with_reducible refine Grow.setCell ?_ ?hp _; (case hp => (simp; try omega))) | with_reducible refine Grow.trans ?_ (by assumption)))))))
  go_ret
  exact ⟨rfl, by (repeat (first | with_reducible exact Grow.refl _ | with_reducible refine Grow.alloc ?_ _ | with_reducible refine Grow.drew ?_ | with_reducible refine Grow.drewN ?_ _ | (with_reducible refine Grow.setCell ?_ ?hp _; (case hp => (simp; try omega))) | with_reducible refine Grow.trans ?_ (by assumption)))⟩
set_option maxRecDepth 20000 in
set_option maxHeartbeats 8000000 in
theorem floorQ (x : Rat) (v1 : Value) (w : World) (h1 : RatR w v1 x) :
    Calls Tryz.prog 89 #[v1] w fun e w' => ∃ v, e = .returned v ∧ IntR w' v (x.num / (x.den : Int)) ∧ Grow w w' := by
  obtain ⟨s1, a1, l1, c1, t1, b1, k1, e1, rfl⟩ := h1.form
  have HX1 := Lib.hid h1
  have NQ := Lib.hid (fun u hu => normalQ _ _ u (h1.grow hu))
  have DM := Lib.hid (fun u v v' hv hv' => divmodV x.num (x.den : Int) v v' (by have := x.den_nz; omega) u hv hv')
  clear h1
  go_enter Tryz.func89, Tryz.ntmps89
  go_wp2_with fail
  have c0 : ∀ u : World, Grow ((w.alloc (.cells #[.bool s1, .slice a1 l1 c1, .bool t1, .slice b1 k1 e1] 36)).alloc (.cells #[.bool false, .slice none 0 0] 34)) u → u.cell? ⟨w.heap.size, 0, none⟩ = some (.bool s1) ∧ u.cell? ⟨w.heap.size, 1, none⟩ = some (.slice a1 l1 c1) ∧ u.cell? ⟨w.heap.size, 2, none⟩ = some (.bool t1) ∧ u.cell? ⟨w.heap.size, 3, none⟩ = some (.slice b1 k1 e1) := by
    intro u hg
    refine ⟨(hg.cells _ _ (by (try simp); try omega)).trans ?_, (hg.cells _ _ (by (try simp); try omega)).trans ?_, (hg.cells _ _ (by (try simp); try omega)).trans ?_, (hg.cells _ _ (by (try simp); try omega)).trans ?_⟩ <;> go_simp
  have C0 := Lib.hid c0
  clear c0
  have r0 : ∀ u : World, Grow ((w.alloc (.cells #[.bool s1, .slice a1 l1 c1, .bool t1, .slice b1 k1 e1] 36)).alloc (.cells #[.bool false, .slice none 0 0] 34)) u → u.cell? ⟨w.heap.size + 1, 0, none⟩ = some (.bool false) ∧ u.cell? ⟨w.heap.size + 1, 1, none⟩ = some (.slice none 0 0) ∧ (∀ o, u.frozen? ⟨w.heap.size + 1, o, none⟩ = false) ∧ NoU u (w.heap.size + 1) ∧ w.heap.size + 1 < u.heap.size ∧ Grow w u := by
    intro u hg
    have hz := hg.size
    simp at hz
    refine ⟨(hg.cells _ _ (by simp)).trans ?_, (hg.cells _ _ (by simp)).trans ?_, fun o => (hg.frees _ _ (by simp)).trans ?_, ?_, by omega, Grow.trans (by (repeat (first | with_reducible exact Grow.refl _ | with_reducible refine Grow.alloc ?_ _ | with_reducible refine Grow.drew ?_ | with_reducible refine Grow.drewN ?_ _ | (with_reducible refine Grow.setCell ?_ ?hp _; (case hp => (simp; try omega))) | with_reducible refine Grow.trans ?_ (by assumption)))) hg⟩
    · go_simp
    · go_simp
    · go_simp
    · have h := NoU.alloc (w.alloc (.cells #[.bool s1, .slice a1 l1 c1, .bool t1, .slice b1 k1 e1] 36)) _ 34 (noU2 false none 0 0)
      (try simp at h)
      exact h.grow (by simp) hg
  have R0 := Lib.hid r0
  clear r0
  have b0 : ∀ u : World, Grow ((w.alloc (.cells #[.bool s1, .slice a1 l1 c1, .bool t1, .slice b1 k1 e1] 36)).alloc (.cells #[.bool false, .slice none 0 0] 34)) u → (∀ o, u.frozen? ⟨w.heap.size, o, none⟩ = false) ∧ NoU u w.heap.size := by
    intro u hg
    refine ⟨fun o => (hg.frees _ _ (by simp; try omega)).trans ?_, ?_⟩
    · go_simp
    · have h := (NoU.alloc w #[.bool s1, .slice a1 l1 c1, .bool t1, .slice b1 k1 e1] 36 (noU4 _ _ _ _ _ _ _ _)).grow (by simp) ((Grow.refl _).alloc (.cells #[.bool false, .slice none 0 0] 34))
      exact h.grow (by simp; try omega) hg
  have B0 := Lib.hid b0
  clear b0
  go_wp2_with (first | (go_at_call 31; (with_reducible refine (NQ.out _ (by (repeat (first | with_reducible exact Grow.refl _ | with_reducible refine Grow.alloc ?_ _ | with_reducible refine Grow.drew ?_ | with_reducible refine Grow.drewN ?_ _ | (with_reducible refine Grow.setCell ?_ ?hp _; (case hp => (simp; try omega))) | with_reducible refine Grow.trans ?_ (by assumption))))).mono ?_); (rintro e u5 ⟨v5, rfl, hv5, hb5⟩; obtain ⟨s5, a5, l5, c5, t5, b5, k5, e5, rfl⟩ := hv5.form; have HV5 := Lib.hid hv5; clear hv5; obtain ⟨f0_5, f1_5, f2_5, f3_5⟩ := C0.out u5 (by (repeat (first | with_reducible exact Grow.refl _ | with_reducible refine Grow.alloc ?_ _ | with_reducible refine Grow.drew ?_ | with_reducible refine Grow.drewN ?_ _ | (with_reducible refine Grow.setCell ?_ ?hp _; (case hp => (simp; try omega))) | with_reducible refine Grow.trans ?_ (by assumption)))); obtain ⟨q0_5, q1_5, qf5, NU5, hz5, HB5⟩ := R0.out u5 (by (repeat (first | with_reducible exact Grow.refl _ | with_reducible refine Grow.alloc ?_ _ | with_reducible refine Grow.drew ?_ | with_reducible refine Grow.drewN ?_ _ | (with_reducible refine Grow.setCell ?_ ?hp _; (case hp => (simp; try omega))) | with_reducible refine Grow.trans ?_ (by assumption)))); have NUH5 := Lib.hid NU5; have HBH5 := Lib.hid HB5; clear NU5 HB5; obtain ⟨bf5, bn5⟩ := B0.out u5 (by (repeat (first | with_reducible exact Grow.refl _ | with_reducible refine Grow.alloc ?_ _ | with_reducible refine Grow.drew ?_ | with_reducible refine Grow.drewN ?_ _ | (with_reducible refine Grow.setCell ?_ ?hp _; (case hp => (simp; try omega))) | with_reducible refine Grow.trans ?_ (by assumption)))); have BN5 := Lib.hid bn5; clear bn5; have NR5 := Lib.hid ((NUH5.out.off (B := w.heap.size) (by omega) 0 1 (.bool s5) (.slice a5 l5 c5)).off (B := w.heap.size) (by omega) 2 3 (.bool t5) (.slice b5 k5 e5)))) | (go_at_call 103; (with_reducible refine (DM.out _ _ _ (HV5.out.num.set4 BN5.out _ _ _ _ _ _ _ _) (HV5.out.den.set4 BN5.out _ _ _ _ _ _ _ _)).mono ?_); (rintro e u6 ⟨v6, v7, rfl, hv6, hv7, hb6⟩; obtain ⟨s6, a6, l6, c6, rfl⟩ := hv6.form; have HV6 := Lib.hid hv6; clear hv6; obtain ⟨s7, a7, l7, c7, rfl⟩ := hv7.form; have HV7 := Lib.hid hv7; clear hv7; have q0_6 : u6.cell? ⟨w.heap.size + 1, 0, none⟩ = some (.bool false) := (hb6.cells _ _ (by (try simp); omega)).trans (by go_simp); have q1_6 : u6.cell? ⟨w.heap.size + 1, 1, none⟩ = some (.slice none 0 0) := (hb6.cells _ _ (by (try simp); omega)).trans (by go_simp); have qf6 : ∀ o, u6.frozen? ⟨w.heap.size + 1, o, none⟩ = false := (fun o => (hb6.frees _ _ (by (try simp); omega)).trans (by go_simp)); have hs6 := hb6.size; (try simp at hs6); have hz6 : w.heap.size + 1 < u6.heap.size := (by omega); have hz6b : w.heap.size + 1 < u6.heap.size + 1 := (by omega); have NR6 := Lib.hid (NR5.out.grow (by (try simp); omega) hb6))))
  refine bodyPost_ret (v := .agg #[.bool s6, .slice a6 l6 c6]) (by rw [results_one rfl]; go_simp) rfl ⟨_, rfl, (HV6.out.set2 NR6.out _ _ _ _).grow (by (repeat (first | with_reducible exact Grow.refl _ | with_reducible refine Grow.alloc ?_ _ | with_reducible refine Grow.drew ?_ | with_reducible refine Grow.drewN ?_ _ | (with_reducible refine Grow.setCell ?_ ?hp _; (case hp => (simp; try omega))) | with_reducible refine Grow.trans ?_ (by assumption)))), by have h9 := HBH5.out; (repeat (first | with_reducible exact Grow.refl _ | with_reducible refine Grow.alloc ?_ _ | with_reducible refine Grow.drew ?_ | with_reducible refine Grow.drewN ?_ _ | (with_reducible refine Grow.setCell ?_ ?hp _; (case hp => (simp; try omega))) | with_reducible refine Grow.trans ?_ (by assumption)))⟩
end Go.Proofs.YtbpkfcohbefphaaGreat
namespace Go.Proofs.YtbpkfcohbefphaaGreat
open Go Go.RowKit
/-- The world has grown; of the old blocks only those of X may have changed, and no number in them. -/
structure But (X : Nat → Prop) (w w' : World) : Prop where
  os : w'.os = w.os
  tape : w'.tape = w.tape
  output : w'.output = w.output
  size : w.heap.size ≤ w'.heap.size
  block : ∀ b, b < w.heap.size → ¬ X b → w'.heap[b]? = w.heap[b]?
  frees : ∀ b o, b < w.heap.size → w'.frozen? ⟨b, o, none⟩ = w.frozen? ⟨b, o, none⟩
  num : ∀ b o x, b < w.heap.size → w.cell? ⟨b, o, none⟩ = some (.int .u32 x) → w'.cell? ⟨b, o, none⟩ = some (.int .u32 x)
theorem But.cells {X : Nat → Prop} {w w' : World} (h : But X w w') : ∀ b o, b < w.heap.size → ¬ X b → w'.cell? ⟨b, o, none⟩ = w.cell? ⟨b, o, none⟩ := fun b _ hb hx => World.cell?_of_block (h.block b hb hx)
theorem But.refl (X : Nat → Prop) (w : World) : But X w w := ⟨rfl, rfl, rfl, Nat.le_refl _, fun _ _ _ => rfl, fun _ _ _ => rfl, fun _ _ _ _ h => h⟩
theorem Grow.but {w w' : World} (h : Grow w w') (X : Nat → Prop) : But X w w' :=
  ⟨h.os, h.tape, h.output, h.size, fun b hb _ => Below.block h b hb, fun b o hb => h.frees b o hb, fun b o _ hb hc => (h.cells b o hb).trans hc⟩
theorem But.trans {X : Nat → Prop} {w w1 w2 : World} (h : But X w w1) (h' : But X w1 w2) : But X w w2 :=
  ⟨h'.os.trans h.os, h'.tape.trans h.tape, h'.output.trans h.output, Nat.le_trans h.size h'.size, fun b hb hx => (h'.block b (Nat.lt_of_lt_of_le hb h.size) hx).trans (h.block b hb hx),
    fun b o hb => (h'.frees b o (Nat.lt_of_lt_of_le hb h.size)).trans (h.frees b o hb), fun b o x hb hc => h'.num b o x (Nat.lt_of_lt_of_le hb h.size) (h.num b o x hb hc)⟩
theorem But.grow {X : Nat → Prop} {w w1 w2 : World} (h : But X w w1) (h' : Grow w1 w2) : But X w w2 := h.trans (h'.but X)
theorem But.mono {X Y : Nat → Prop} {w w1 : World} (h : But X w w1) (hxy : ∀ b, X b → Y b) : But Y w w1 :=
  ⟨h.os, h.tape, h.output, h.size, fun b hb hy => h.block b hb (fun hx => hy (hxy b hx)), h.frees, h.num⟩
/-- Blocks that did not stand yet may change. -/
theorem But.late {X Y : Nat → Prop} {w w1 w2 : World} (h : But X w w1) (h' : But Y w1 w2) (hxy : ∀ b, b < w.heap.size → Y b → X b) : But X w w2 :=
  ⟨h'.os.trans h.os, h'.tape.trans h.tape, h'.output.trans h.output, Nat.le_trans h.size h'.size, fun b hb hx => (h'.block b (Nat.lt_of_lt_of_le hb h.size) (fun hy => hx (hxy b hb hy))).trans (h.block b hb hx),
    fun b o hb => (h'.frees b o (Nat.lt_of_lt_of_le hb h.size)).trans (h.frees b o hb), fun b o x hb hc => h'.num b o x (Nat.lt_of_lt_of_le hb h.size) (h.num b o x hb hc)⟩
/-- If all that may have changed is new, the world has grown. -/
theorem But.asGrow {X : Nat → Prop} {w w' : World} (h : But X w w') (hx : ∀ b, X b → w.heap.size ≤ b) : Grow w w' :=
  ⟨h.os, h.tape, h.output, h.size, fun b hb => h.block b hb (fun hb' => by have := hx b hb'; omega)⟩
theorem But.set {X : Nat → Prop} {w u : World} (h : But X w u) {B o : Nat} (v : Value) (hX : w.heap.size ≤ B ∨ X B) (hn : ∀ x, u.cell? ⟨B, o, none⟩ ≠ some (.int .u32 x)) : But X w (u.setCell ⟨B, o, none⟩ v) := by
  refine ⟨h.os, h.tape, h.output, by simpa [World.setCell] using h.size, fun b hb hx => ?_, fun b o' hb => by simpa using h.frees b o' hb, fun b o' x hb hc => ?_⟩
  · have hne : B ≠ b := by
      rintro rfl
      rcases hX with h1 | h1
      · omega
      · exact hx h1
    have h2 : (u.setCell ⟨B, o, none⟩ v).heap[b]? = u.heap[b]? := by
      simp only [World.setCell, Array.getElem?_modify]
      rw [if_neg hne]
    exact h2.trans (h.block b hb hx)
  · have h1 := h.num b o' x hb hc
    by_cases hpo : (⟨B, o, none⟩ : Addr) = ⟨b, o', none⟩
    · rw [← hpo] at h1
      exact absurd h1 (hn _)
    · rw [World.cell?_setCell_other _ _ _ _ hpo]
      exact h1
theorem But.alloc {X : Nat → Prop} {w u : World} (h : But X w u) (o : Obj) : But X w (u.alloc o) := h.grow ((Grow.refl u).alloc o)
theorem But.drew {X : Nat → Prop} {w u : World} (h : But X w u) : But X w u.drew := h.grow ((Grow.refl u).drew)
theorem But.drewN {X : Nat → Prop} {w u : World} (h : But X w u) (n : Nat) : But X w (u.drewN n) := h.grow ((Grow.refl u).drewN n)
theorem MagR.but {X : Nat → Prop} {w w' : World} {m : Value} {n : Nat} (h : MagR w m n) (hg : But X w w') : MagR w' m n := by
  rcases h with h | ⟨h0, h1, b, off, cap, hm, hk, hb, hc⟩
  · exact .inl h
  · exact .inr ⟨h0, h1, b, off, cap, hm, hk, Nat.lt_of_lt_of_le hb hg.size, hg.num _ _ _ hb hc⟩
theorem IntR.but {X : Nat → Prop} {w w' : World} {v : Value} {z : Int} (h : IntR w v z) (hg : But X w w') : IntR w' v z := by
  obtain ⟨m, hv, h⟩ := h
  exact ⟨m, hv, h.but hg⟩
theorem RatR.but {X : Nat → Prop} {w w' : World} {v : Value} {x : Rat} (h : RatR w v x) (hg : But X w w') : RatR w' v x := by
  obtain ⟨m1, m2, hv, h1, h2⟩ := h
  exact ⟨m1, m2, hv, h1.but hg, h2.but hg⟩
/-- Four cells from o on, as a fraction's value. -/
def Q4 (f : Nat → Option Value) (o : Nat) (s : Bool) (a : Option Addr) (l c : Nat) (t : Bool) (b : Option Addr) (k e : Nat) : Prop :=
  f o = some (.bool s) ∧ f (o + 1) = some (.slice a l c) ∧ f (o + 2) = some (.bool t) ∧ f (o + 3) = some (.slice b k e)
/-- Block B holds m fractions from off on; r names those that are known. -/
structure RowP (w : World) (B off m : Nat) (r : Nat → Option Rat) : Prop where
  lt : B < w.heap.size
  free : ∀ o, w.frozen? ⟨B, o, none⟩ = false
  at4 : ∀ j, j < m → ∃ s a l c t b k e, Q4 (fun i => w.cell? ⟨B, i, none⟩) (off + j * 4) s a l c t b k e ∧ ∀ x, r j = some x → RatR w (.agg #[.bool s, .slice a l c, .bool t, .slice b k e]) x
theorem RowP.but {X : Nat → Prop} {w w' : World} {B off m : Nat} {r : Nat → Option Rat} (h : RowP w B off m r) (hX : ¬ X B) (hg : But X w w') : RowP w' B off m r := by
  refine ⟨Nat.lt_of_lt_of_le h.lt hg.size, fun o => (hg.frees _ _ h.lt).trans (h.free o), fun j hj => ?_⟩
  obtain ⟨s, a, l, c, t, b, k, e, ⟨h1, h2, h3, h4⟩, hr⟩ := h.at4 j hj
  exact ⟨s, a, l, c, t, b, k, e, ⟨(hg.cells _ _ h.lt hX).trans h1, (hg.cells _ _ h.lt hX).trans h2, (hg.cells _ _ h.lt hX).trans h3, (hg.cells _ _ h.lt hX).trans h4⟩, fun x hx => (hr x hx).but hg⟩
theorem RowP.grow {w w' : World} {B off m : Nat} {r : Nat → Option Rat} (h : RowP w B off m r) (hg : Grow w w') : RowP w' B off m r := h.but (X := fun _ => False) (fun h => h) (hg.but _)
theorem RowP.mono {w : World} {B off m m' : Nat} {r r' : Nat → Option Rat} (h : RowP w B off m r) (hm : m' ≤ m) (hr : ∀ j x, j < m' → r' j = some x → r j = some x) : RowP w B off m' r' := by
  refine ⟨h.lt, h.free, fun j hj => ?_⟩
  obtain ⟨s, a, l, c, t, b, k, e, h1, h2⟩ := h.at4 j (by omega)
  exact ⟨s, a, l, c, t, b, k, e, h1, fun x hx => h2 x (hr j x hj hx)⟩
/-- The tail of a row. -/
theorem RowP.tail {w : World} {B off m : Nat} {r : Nat → Option Rat} (h : RowP w B off m r) (k : Nat) (hk : k ≤ m) : RowP w B (off + k * 4) (m - k) (fun j => r (k + j)) := by
  refine ⟨h.lt, h.free, fun j hj => ?_⟩
  obtain ⟨s, a, l, c, t, b, k', e, h1, h2⟩ := h.at4 (k + j) (by omega)
  exact ⟨s, a, l, c, t, b, k', e, (by rw [show off + k * 4 + j * 4 = off + (k + j) * 4 by omega]; exact h1), h2⟩
/-- The four stores of a fraction. -/
def st4 (u : World) (B o : Nat) (v1 v2 v3 v4 : Value) : World := (((u.setCell ⟨B, o, none⟩ v1).setCell ⟨B, o + 1, none⟩ v2).setCell ⟨B, o + 2, none⟩ v3).setCell ⟨B, o + 3, none⟩ v4
theorem But.st4 {X : Nat → Prop} {w u : World} (h : But X w u) {B o : Nat} (hX : w.heap.size ≤ B ∨ X B) (hq : ∃ s a l c t b k e, Q4 (fun i => u.cell? ⟨B, i, none⟩) o s a l c t b k e) (s : Bool) (a : Option Addr) (l c : Nat) (t : Bool) (b : Option Addr) (k e : Nat) :
    But X w (st4 u B o (.bool s) (.slice a l c) (.bool t) (.slice b k e)) := by
  obtain ⟨s', a', l', c', t', b', k', e', h1, h2, h3, h4⟩ := hq
  simp only at h1 h2 h3 h4
  unfold Go.Proofs.YtbpkfcohbefphaaGreat.st4
  refine (((h.set _ hX ?_).set _ hX ?_).set _ hX ?_).set _ hX ?_
  · intro x; rw [h1]; simp
  · intro x
    rw [World.cell?_setCell_other _ _ _ _ (by simp), h2]; simp
  · intro x
    rw [World.cell?_setCell_other _ _ _ _ (by simp), World.cell?_setCell_other _ _ _ _ (by simp), h3]; simp
  · intro x
    rw [World.cell?_setCell_other _ _ _ _ (by simp), World.cell?_setCell_other _ _ _ _ (by simp), World.cell?_setCell_other _ _ _ _ (by simp), h4]; simp
theorem RowP.q4 {w : World} {B off m : Nat} {r : Nat → Option Rat} (h : RowP w B off m r) {j : Nat} (hj : j < m) : ∃ s a l c t b k e, Q4 (fun i => w.cell? ⟨B, i, none⟩) (off + j * 4) s a l c t b k e := by
  obtain ⟨s, a, l, c, t, b, k, e, h1, h2⟩ := h.at4 j hj
  exact ⟨s, a, l, c, t, b, k, e, h1⟩
theorem RowP.set {u : World} {B off m : Nat} {r : Nat → Option Rat} (h : RowP u B off m r) {j : Nat} (hj : j < m) {s : Bool} {a : Option Addr} {l c : Nat} {t : Bool} {b : Option Addr} {k e : Nat} {x : Rat}
    (hx : RatR u (.agg #[.bool s, .slice a l c, .bool t, .slice b k e]) x) : RowP (Go.Proofs.YtbpkfcohbefphaaGreat.st4 u B (off + j * 4) (.bool s) (.slice a l c) (.bool t) (.slice b k e)) B off m (fun i => if i = j then some x else r i) := by
  have hb : But (fun b => b = B) u (Go.Proofs.YtbpkfcohbefphaaGreat.st4 u B (off + j * 4) (.bool s) (.slice a l c) (.bool t) (.slice b k e)) := But.st4 (X := fun b => b = B) (But.refl _ u) (.inr rfl) (h.q4 hj) _ _ _ _ _ _ _ _
  refine ⟨Nat.lt_of_lt_of_le h.lt hb.size, fun o => (hb.frees _ _ h.lt).trans (h.free o), fun i hi => ?_⟩
  · obtain ⟨s', a', l', c', t', b', k', e', ⟨h1, h2, h3, h4⟩, hr⟩ := h.at4 i hi
    by_cases hij : i = j
    · subst hij
      refine ⟨s, a, l, c, t, b, k, e, ⟨?_, ?_, ?_, ?_⟩, fun y hy => ?_⟩
      · simp only [Go.Proofs.YtbpkfcohbefphaaGreat.st4]
        rw [World.cell?_setCell_other _ _ _ _ (by simp), World.cell?_setCell_other _ _ _ _ (by simp), World.cell?_setCell_other _ _ _ _ (by simp), World.cell?_setCell_same _ _ _ h1]
      · simp only [Go.Proofs.YtbpkfcohbefphaaGreat.st4]
        rw [World.cell?_setCell_other _ _ _ _ (by simp), World.cell?_setCell_other _ _ _ _ (by simp)]
        refine World.cell?_setCell_same (u := .slice a' l' c') _ _ _ ?_
        rw [World.cell?_setCell_other _ _ _ _ (by simp)]; exact h2
      · simp only [Go.Proofs.YtbpkfcohbefphaaGreat.st4]
        rw [World.cell?_setCell_other _ _ _ _ (by simp)]
        refine World.cell?_setCell_same (u := .bool t') _ _ _ ?_
        rw [World.cell?_setCell_other _ _ _ _ (by simp), World.cell?_setCell_other _ _ _ _ (by simp)]; exact h3
      · simp only [Go.Proofs.YtbpkfcohbefphaaGreat.st4]
        refine World.cell?_setCell_same (u := .slice b' k' e') _ _ _ ?_
        rw [World.cell?_setCell_other _ _ _ _ (by simp), World.cell?_setCell_other _ _ _ _ (by simp), World.cell?_setCell_other _ _ _ _ (by simp)]; exact h4
      · rw [if_pos rfl] at hy
        injection hy with hy
        subst hy
        exact hx.but hb
    · have far : ∀ o, o < 4 → (Go.Proofs.YtbpkfcohbefphaaGreat.st4 u B (off + j * 4) (.bool s) (.slice a l c) (.bool t) (.slice b k e)).cell? ⟨B, off + i * 4 + o, none⟩ = u.cell? ⟨B, off + i * 4 + o, none⟩ := fun o ho => by
        simp only [Go.Proofs.YtbpkfcohbefphaaGreat.st4]
        rw [World.cell?_setCell_other _ _ _ _ (by simp; try omega), World.cell?_setCell_other _ _ _ _ (by simp; try omega), World.cell?_setCell_other _ _ _ _ (by simp; try omega), World.cell?_setCell_other _ _ _ _ (by simp; try omega)]
      refine ⟨s', a', l', c', t', b', k', e', ⟨(far 0 (by omega)).trans h1, (far 1 (by omega)).trans h2, (far 2 (by omega)).trans h3, (far 3 (by omega)).trans h4⟩, fun y hy => ?_⟩
      rw [if_neg hij] at hy
      exact (hr y hy).but hb
/-- A row all of whose fractions are known. -/
def RowQ (w : World) (B off m : Nat) (r : Nat → Rat) : Prop := RowP w B off m (fun j => some (r j))
theorem RowQ.at4 {w : World} {B off m : Nat} {r : Nat → Rat} (h : RowQ w B off m r) {j : Nat} (hj : j < m) : ∃ s a l c t b k e, Q4 (fun i => w.cell? ⟨B, i, none⟩) (off + j * 4) s a l c t b k e ∧ RatR w (.agg #[.bool s, .slice a l c, .bool t, .slice b k e]) (r j) := by
  obtain ⟨s, a, l, c, t, b, k, e, h1, h2⟩ := RowP.at4 h j hj
  exact ⟨s, a, l, c, t, b, k, e, h1, h2 _ rfl⟩
theorem RowQ.set {u : World} {B off m : Nat} {r : Nat → Rat} (h : RowQ u B off m r) {j : Nat} (hj : j < m) {s : Bool} {a : Option Addr} {l c : Nat} {t : Bool} {b : Option Addr} {k e : Nat} {x : Rat}
    (hx : RatR u (.agg #[.bool s, .slice a l c, .bool t, .slice b k e]) x) : RowQ (Go.Proofs.YtbpkfcohbefphaaGreat.st4 u B (off + j * 4) (.bool s) (.slice a l c) (.bool t) (.slice b k e)) B off m (fun i => if i = j then x else r i) :=
  (RowP.set h hj hx).mono (Nat.le_refl _) (fun i y _ hy => by
    show (if i = j then some x else some (r i)) = some y
    simp only at hy
    by_cases e : i = j
    · rw [if_pos e] at hy ⊢; exact hy
    · rw [if_neg e] at hy ⊢; exact hy)
theorem RowQ.cong {w : World} {B off m : Nat} {r r' : Nat → Rat} (h : RowQ w B off m r) (hr : ∀ j, j < m → r' j = r j) : RowQ w B off m r' :=
  RowP.mono h (Nat.le_refl _) (fun j x hj hx => by rw [← hr j hj]; exact hx)
end Go.Proofs.YtbpkfcohbefphaaGreat
namespace Go.Proofs.YtbpkfcohbefphaaGreat
open Go Go.RowKit
theorem sgI_num (x : Rat) : (sgI x.num == 0) = decide (x = 0) := by
  have h : (x.num = 0) ↔ x = 0 := Rat.num_eq_zero
  unfold sgI
  by_cases hx : x = 0
  · have h0 := h.2 hx
    simp [hx]
  · have h0 : x.num ≠ 0 := fun e => hx (h.1 e)
    simp [hx]
    split <;> (try omega)
    all_goals (try (split <;> simp <;> omega))
end Go.Proofs.YtbpkfcohbefphaaGreat
namespace Go.Proofs.YtbpkfcohbefphaaGreat
open Go
section
variable {P : Program} {ops : Array Oper} {md : Region.Mode} {Q : Exit → Act → World → Prop} {S : World → Prop}
/-- The list of what has come up is closed under what each operation waits for. -/
structure Clo (md : Region.Mode) (ops : Array Oper) (listed : Array Bool) : Prop where
  size : listed.size = ops.size
  closed : ∀ j oj, ops[j]? = some oj → listed.getD j false = true → ∀ e ∈ oj.after, Region.binds md e = true → listed.getD e.on false = true
theorem Clo.set {i : Nat} {listed : Array Bool} (inv : Clo md ops listed) (hi : i ∈ Region.ready md ops listed) : Clo md ops (listed.setIfInBounds i true) := by
  obtain ⟨_, oi, hoi, hall⟩ := mem_ready.1 hi
  refine ⟨by simp [inv.size], fun j oj hj hl e he hb => ?_⟩
  by_cases hij : i = j
  · subst hij
    have : oj = oi := Option.some.inj (hj.symm.trans hoi)
    subst this
    exact getD_set_true (hall e he hb)
  · rw [getD_set_ne false hij] at hl
    exact getD_set_true (inv.closed j oj hj hl e he hb)
/-- Operation t waits, by way of others, for operation i. -/
def anc (md : Region.Mode) (ops : Array Oper) : Nat → Nat → Nat → Bool
  | 0, _, _ => false
  | f + 1, i, t => Region.waitsFor md ops t i || (List.range ops.size).any (fun j => Region.waitsFor md ops j i && anc md ops f j t)
theorem anc_listed {listed : Array Bool} (inv : Clo md ops listed) : ∀ (f i t : Nat), anc md ops f i t = true → (listed.getD t false = true ∨ t ∈ Region.ready md ops listed) → listed.getD i false = true
  | 0, _, _, h, _ => by cases h
  | f + 1, i, t, h, ht => by
    have one : ∀ j, (listed.getD j false = true ∨ j ∈ Region.ready md ops listed) → Region.waitsFor md ops j i = true → listed.getD i false = true := by
      intro j hj hw
      obtain ⟨oj, hoj, e, he, hb, hon⟩ := Region.waitsFor_spec hw
      rw [← hon]
      rcases hj with hj | hj
      · exact inv.closed j oj hoj hj e he hb
      · obtain ⟨_, o', ho', hall⟩ := mem_ready.1 hj
        have : o' = oj := Option.some.inj (ho'.symm.trans hoj)
        subst this
        exact hall e he hb
    simp only [anc, Bool.or_eq_true] at h
    rcases h with h | h
    · exact one t ht h
    · obtain ⟨j, _, hj⟩ := List.any_eq_true.1 h
      simp only [Bool.and_eq_true] at hj
      exact one j (.inl (anc_listed inv f j t hj.2 ht)) hj.1
/-- Whatever order is picked; each operation that kp names leaves S as it was. -/
def heldTo (P : Program) (md : Region.Mode) (ops : Array Oper) (Q : Exit → Act → World → Prop) (S : World → Prop) (kp : Nat → Bool) : Nat → Array Bool → Act → World → Prop
  | 0, listed, a, w => Region.ready md ops listed = [] ∧ Q .normal a w
  | f + 1, listed, a, w =>
    (Region.ready md ops listed = [] → Q .normal a w) ∧
    ∀ i ∈ Region.ready md ops listed, wpOp P ops Q i (fun a' w' => (kp i = true → S w → S w') ∧ heldTo P md ops Q S kp f (listed.setIfInBounds i true) a' w') a w
theorem any_of_heldTo {kp : Nat → Bool} : ∀ (f : Nat) (listed : Array Bool) (a : Act) (w : World), heldTo P md ops Q S kp f listed a w → wpAny P md ops Q f listed a w
  | 0, _, _, _, h => h
  | f + 1, _, _, _, h => ⟨h.1, fun i hi => wpOp_mono (fun a' w' h' => any_of_heldTo f _ a' w' h'.2) (h.2 i hi)⟩
theorem heldTo_first {kp : Nat → Bool} {i : Nat} {oi : Oper} {v : Value} {T : World → Prop} (hi : ops[i]? = some oi) (hsel : ∀ (j : Nat) (o : Oper) cs b, ops[j]? = some o → o.op ≠ .select cs b)
    (hQ : ∀ c a w, Q (.panic c) (a.put oi.dst v) w → Q (.panic c) a w)
    (hT : (∀ w, T w) ∨ (T = S ∧ ∀ t, t < ops.size → kp t = false → ∃ f, anc md ops f i t = true)) :
    ∀ (fuel : Nat) (listed : Array Bool) (a : Act) (w : World), Clo md ops listed →
      (∀ j oj, ops[j]? = some oj → j ≠ i → listed.getD j true = false → (∀ e ∈ oj.after, Region.binds md e = true → e.on ≠ i) → oi.apart ops oj = true) →
      i ∈ Region.ready md ops listed → YieldsIf P ops T oi v a → T w →
      heldTo P md ops Q S kp fuel (listed.setIfInBounds i true) (a.put oi.dst v) w → heldTo P md ops Q S kp (fuel + 1) listed a w := by
  intro fuel
  induction fuel with
  | zero =>
    intro listed a w inv _ hr hy hTw H
    refine ⟨fun h => (by rw [h] at hr; cases hr), fun j hj => ?_⟩
    by_cases hji : j = i
    · subst hji; exact hy.wpOp hi hTw ⟨fun _ h => h, H⟩
    · have := ready_mono hj hji
      rw [H.1] at this
      cases this
  | succ fuel ih =>
    intro listed a w inv hfree hr hy hTw H
    refine ⟨fun h => (by rw [h] at hr; cases hr), fun j hj => ?_⟩
    by_cases hji : j = i
    · subst hji; exact hy.wpOp hi hTw ⟨fun _ h => h, H⟩
    · have h1 := H.2 j (ready_mono hj hji)
      obtain ⟨hjun, oj, hoj, hall⟩ := mem_ready.1 hj
      have hnot : ∀ e ∈ oj.after, Region.binds md e = true → e.on ≠ i := fun e he hb heq => by
        have h1 := hall e he hb
        rw [heq, getD_both (mem_ready.1 hr).1] at h1
        cases h1
      have hjs : j < ops.size := (Array.getElem?_eq_some_iff.1 hoj).1
      have hTj : ∀ w', (kp j = true → S w → S w') → T w' := by
        intro w' hw'
        rcases hT with hT | ⟨hT, ha⟩
        · exact hT w'
        · subst hT
          cases hk : kp j with
          | true => exact hw' hk hTw
          | false =>
            obtain ⟨f, hf⟩ := ha j hjs hk
            have := anc_listed inv f i j hf (.inr hj)
            rw [getD_both (mem_ready.1 hr).1] at this
            cases this
      have h2 := wpOp_putIf hoj (hfree j oj hoj hji hjun hnot) (fun cs b => hsel i oi cs b hi) (fun cs b => hsel j oj cs b hoj) hQ hy h1
      have hfree' : ∀ k ok, ops[k]? = some ok → k ≠ i → (listed.setIfInBounds j true).getD k true = false →
          (∀ e ∈ ok.after, Region.binds md e = true → e.on ≠ i) → oi.apart ops ok = true := fun k ok hk hki hun hno => by
        refine hfree k ok hk hki ?_ hno
        by_cases hjk : j = k
        · subst hjk; exact hjun
        · rw [getD_set_ne true hjk] at hun; exact hun
      refine wpOp_mono (fun a' w' h3 => ⟨h3.2.1, ih (listed.setIfInBounds j true) a' w' (inv.set hj) hfree' (ready_mono hr (Ne.symm hji)) h3.1 (hTj w' h3.2.1) ?_⟩) h2
      rw [Array.setIfInBounds_comm _ _ hji]
      exact h3.2.2
/-- The kinds: 0 a read that needs no world, 1 a read under S, 2 what is carried out and keeps S, 3 what is carried out last. -/
def heldB (md : Region.Mode) (ops : Array Oper) (kd : Nat → Nat) : List Nat → Array Bool → Bool
  | [], listed => (Region.ready md ops listed).isEmpty
  | i :: rest, listed =>
    (Region.ready md ops listed).contains i &&
    (if kd i ≤ 1 then Region.free md ops listed i && (kd i == 0 || (List.range ops.size).all (fun t => kd t != 3 || anc md ops ops.size i t)) else Region.ready md ops listed == [i]) &&
    heldB md ops kd rest (listed.setIfInBounds i true)
/-- The walk of one order. -/
def wpHeld (P : Program) (ops : Array Oper) (Q : Exit → Act → World → Prop) (S : World → Prop) (kd : Nat → Nat) : List Nat → Act → World → Prop
  | [], a, w => Q .normal a w
  | i :: rest, a, w =>
    match kd i with
    | 0 => ∃ o v, ops[i]? = some o ∧ YieldsIf P ops (fun _ => True) o v a ∧ wpHeld P ops Q S kd rest (a.put o.dst v) w
    | 1 => ∃ o v, ops[i]? = some o ∧ YieldsIf P ops S o v a ∧ wpHeld P ops Q S kd rest (a.put o.dst v) w
    | _ => wpOp P ops Q i (fun a' w' => (kd i ≠ 3 → S w') ∧ wpHeld P ops Q S kd rest a' w') a w
theorem heldTo_of_walk {kd : Nat → Nat} (hsel : Region.noSelect ops = true) (hQ : ∀ c a d v w, Q (.panic c) (a.put d v) w → Q (.panic c) a w) :
    ∀ (order : List Nat) (listed : Array Bool) (a : Act) (w : World), Clo md ops listed → heldB md ops kd order listed = true → ((∀ t, kd t = 3 → listed.getD t false = false) → S w) → (∀ t, kd t = 3 → t < ops.size) →
      wpHeld P ops Q S kd order a w → heldTo P md ops Q S (fun t => kd t != 3) order.length listed a w
  | [], listed, a, w, inv, hB, hS, hk, h => ⟨by simpa [heldB] using hB, h⟩
  | i :: rest, listed, a, w, inv, hB, hS, hk, h => by
    simp only [heldB, Bool.and_eq_true] at hB
    obtain ⟨⟨hr, hf⟩, hB'⟩ := hB
    have hr' : i ∈ Region.ready md ops listed := by simpa using hr
    have hun := getD_both (mem_ready.1 hr').1
    rw [List.length_cons]
    unfold wpHeld at h
    have back : ∀ t, (listed.setIfInBounds i true).getD t false = false → listed.getD t false = false := fun t ht => by
      cases hh : listed.getD t false with
      | false => rfl
      | true => rw [getD_set_true hh] at ht; cases ht
    split at h
    · rename_i hk0
      rw [if_pos (by omega)] at hf
      simp only [Bool.and_eq_true] at hf
      obtain ⟨o, v, ho, hy, h⟩ := h
      exact heldTo_first ho (Region.noSelect_spec hsel) (fun c a w => hQ c a _ _ w) (.inl fun _ => trivial) _ listed a w inv (Region.free_spec ho hf.1) hr' hy trivial
        (heldTo_of_walk hsel hQ rest _ _ w (inv.set hr') hB' (fun ht => hS fun t h3 => back t (ht t h3)) hk h)
    · rename_i hk1
      rw [if_pos (by omega)] at hf
      simp only [Bool.and_eq_true, Bool.or_eq_true, beq_iff_eq, hk1, Nat.succ_ne_zero, false_or, List.all_eq_true, List.mem_range, bne_iff_ne, ne_eq] at hf
      obtain ⟨o, v, ho, hy, h⟩ := h
      have ha : ∀ t, t < ops.size → kd t = 3 → anc md ops ops.size i t = true := fun t ht h3 => by
        rcases hf.2 t ht with h4 | h4
        · exact absurd h3 h4
        · exact h4
      have hSw : S w := hS fun t h3 => by
        cases hh : listed.getD t false with
        | false => rfl
        | true =>
          have := anc_listed inv _ i t (ha t (hk t h3) h3) (.inl hh)
          rw [hun] at this
          cases this
      exact heldTo_first ho (Region.noSelect_spec hsel) (fun c a w => hQ c a _ _ w) (.inr ⟨rfl, fun t ht h3 => ⟨_, ha t ht (by simpa using h3)⟩⟩) _ listed a w inv (Region.free_spec ho hf.1) hr' hy hSw
        (heldTo_of_walk hsel hQ rest _ _ w (inv.set hr') hB' (fun ht => hS fun t h3 => back t (ht t h3)) hk h)
    · rename_i hk0 hk1
      have h2 : ¬ kd i ≤ 1 := by
        intro hle
        rcases Nat.le_one_iff_eq_zero_or_eq_one.1 hle with h | h
        · exact hk0 h
        · exact hk1 h
      rw [if_neg h2] at hf
      have hf' : Region.ready md ops listed = [i] := by simpa using hf
      refine ⟨fun h0 => (by rw [hf'] at h0; cases h0), fun j hj => ?_⟩
      rw [hf'] at hj
      obtain rfl : j = i := by simpa using hj
      refine wpOp_mono (fun a' w' h3 => ⟨fun hne _ => h3.1 (by simpa using hne), heldTo_of_walk hsel hQ rest _ a' w' (inv.set hr') hB' (fun ht => h3.1 fun h4 => ?_) hk h3.2⟩) h
      have h5 := ht j h4
      have h6 : j < listed.size := by rw [inv.size]; exact hk j h4
      simp [h6] at h5
/-- A region by one order: the kinds as heldB has them; S is shown behind each operation of kind 2. -/
theorem region_held {id : Nat} {a : Act} {w : World} {l : List Oper} (S : World → Prop) (order : List Nat) (kd : Nat → Nat) (hm : P.follows .mixedOrders = true)
    (hB : (Region.noSelect l.toArray && decide (order.length = l.length) && heldB .any l.toArray kd order (Array.replicate l.toArray.size false)) = true)
    (hk : ∀ t, kd t = 3 → t < l.toArray.size) (hS : S w.drew)
    (h : wpHeld P l.toArray (NoPanic Q) S kd order a w.drew) : (Code.region id l.toArray true).wp P Q a w := by
  refine wp_region_noPanic ?_
  simp only [Bool.and_eq_true, decide_eq_true_eq] at hB
  obtain ⟨⟨hsel, hlen⟩, hB⟩ := hB
  refine wp_region_any hm ?_
  have H := heldTo_of_walk (md := .any) (Q := NoPanic Q) hsel (fun _ _ _ _ _ h => h) order _ a w.drew ⟨by simp, fun j oj _ hl => (by rw [getD_replicate_false] at hl; cases hl)⟩ hB (fun _ => hS) hk h
  have := any_of_heldTo _ _ _ _ H
  rw [hlen] at this
  exact this
/-- The kinds as a list. -/
def kdL (l : List Nat) (t : Nat) : Nat := l.getD t 0
theorem kdL_lt (l : List Nat) (t : Nat) (h : kdL l t = 3) : t < l.length := by
  rcases Nat.lt_or_ge t l.length with h1 | h1
  · exact h1
  · simp [kdL, List.getElem?_eq_none h1] at h
/-- The steps of that walk. -/
theorem held_quiet {l : List Oper} {kd : Nat → Nat} {i : Nat} {rest : List Nat} {o : Oper} {v : Value} {a : Act} {w : World} (hk : kd i = 0) (ho : l[i]? = some o)
    (hy : YieldsIf P l.toArray (fun _ => True) o v a) (h : wpHeld P l.toArray Q S kd rest (a.put o.dst v) w) : wpHeld P l.toArray Q S kd (i :: rest) a w := by
  unfold wpHeld; rw [hk]; exact ⟨o, v, by simpa using ho, hy, h⟩
theorem held_read {l : List Oper} {kd : Nat → Nat} {i : Nat} {rest : List Nat} {o : Oper} {v : Value} {a : Act} {w : World} (hk : kd i = 1) (ho : l[i]? = some o)
    (hy : YieldsIf P l.toArray S o v a) (h : wpHeld P l.toArray Q S kd rest (a.put o.dst v) w) : wpHeld P l.toArray Q S kd (i :: rest) a w := by
  unfold wpHeld; rw [hk]; exact ⟨o, v, by simpa using ho, hy, h⟩
theorem held_op {l : List Oper} {kd : Nat → Nat} {i : Nat} {rest : List Nat} {o : Oper} {a : Act} {w : World} (hk : kd i = 2) (ho : l[i]? = some o)
    (h : ∀ K' : Act → World → Prop, Shut (∀ a w, S w → wpHeld P l.toArray Q S kd rest a w → K' a w) → if Region.wanted o (yielded l.toArray a.tmps) = true then Oper.wp P o a w K' Q else K' (a.put o.dst undef) w) : wpHeld P l.toArray Q S kd (i :: rest) a w := by
  unfold wpHeld; rw [hk]
  exact wpOp_step (by simpa using ho) (fun K' hK => h K' (fun a w hS hW => hK a w ⟨fun _ => hS, hW⟩))
theorem held_last {l : List Oper} {kd : Nat → Nat} {i : Nat} {rest : List Nat} {o : Oper} {a : Act} {w : World} (hk : kd i = 3) (ho : l[i]? = some o)
    (h : ∀ K' : Act → World → Prop, Shut (∀ a w, wpHeld P l.toArray Q S kd rest a w → K' a w) → if Region.wanted o (yielded l.toArray a.tmps) = true then Oper.wp P o a w K' Q else K' (a.put o.dst undef) w) : wpHeld P l.toArray Q S kd (i :: rest) a w := by
  unfold wpHeld; rw [hk]
  exact wpOp_step (by simpa using ho) (fun K' hK => h K' (fun a w hW => hK a w ⟨fun h => absurd rfl h, hW⟩))
theorem held_done {l : List Oper} {kd : Nat → Nat} {a : Act} {w : World} (h : Q .normal a w) : wpHeld P l.toArray (NoPanic Q) S kd [] a w := h
end
end Go.Proofs.YtbpkfcohbefphaaGreat
namespace Go.Proofs.YtbpkfcohbefphaaGreat
open Go Go.RowKit
/-- The product of two fractions stays in one digit. -/
def MulB (x y : Rat) : Prop := (x.num * y.num).natAbs < 4294967296 ∧ ((x.den : Int) * (y.den : Int)).natAbs < 4294967296
end Go.Proofs.YtbpkfcohbefphaaGreat
namespace Go.Proofs.YtbpkfcohbefphaaGreat
open Go Go.RowKit
/-- The quotient of two fractions stays in one digit. -/
def QuoB (x y : Rat) : Prop := (x.num * (y.den : Int)).natAbs < 4294967296 ∧ ((x.den : Int) * y.num).natAbs < 4294967296
end Go.Proofs.YtbpkfcohbefphaaGreat
namespace Go.Proofs.YtbpkfcohbefphaaGreat
open Go Go.RowKit
/-- A function changed at one place. -/
def upd {α : Type} (f : Nat → α) (k : Nat) (x : α) : Nat → α := fun i => if i = k then x else f i
theorem upd_same {α : Type} (f : Nat → α) (k : Nat) (x : α) : upd f k x k = x := by simp [upd]
theorem upd_other {α : Type} (f : Nat → α) {k i : Nat} (x : α) (h : i ≠ k) : upd f k x i = f i := by simp [upd, h]
/-- Block G holds n slices. -/
structure SlG (w : World) (G n : Nat) : Prop where
  lt : G < w.heap.size
  free : ∀ o, w.frozen? ⟨G, o, none⟩ = false
  cell : ∀ i, i < n → ∃ a l c, w.cell? ⟨G, i, none⟩ = some (.slice a l c)
theorem SlG.but {X : Nat → Prop} {w w' : World} {G n : Nat} (h : SlG w G n) (hX : ¬ X G) (hg : But X w w') : SlG w' G n :=
  ⟨Nat.lt_of_lt_of_le h.lt hg.size, fun o => (hg.frees _ _ h.lt).trans (h.free o), fun i hi => by rw [hg.cells _ _ h.lt hX]; exact h.cell i hi⟩
theorem SlG.grow {w w' : World} {G n : Nat} (h : SlG w G n) (hg : Grow w w') : SlG w' G n := h.but (X := fun _ => False) (fun h => h) (hg.but _)
theorem SlG.set {w : World} {G n : Nat} (h : SlG w G n) {k : Nat} (hk : k < n) (a : Option Addr) (l c : Nat) : SlG (w.setCell ⟨G, k, none⟩ (.slice a l c)) G n := by
  refine ⟨by simpa [World.setCell] using h.lt, fun o => by simpa using h.free o, fun i hi => ?_⟩
  by_cases hik : i = k
  · subst hik
    obtain ⟨a', l', c', hc⟩ := h.cell i hi
    exact ⟨a, l, c, World.cell?_setCell_same _ _ _ hc⟩
  · rw [World.cell?_setCell_other _ _ _ _ (by simp; try omega)]
    exact h.cell i hi
/-- A store of a slice into a cell of such a block changes no number. -/
theorem SlG.but_set {X : Nat → Prop} {w u : World} {G n k : Nat} (h : SlG u G n) (hk : k < n) (hX : w.heap.size ≤ G ∨ X G) (hb : But X w u) (v : Value) : But X w (u.setCell ⟨G, k, none⟩ v) := by
  obtain ⟨a, l, c, hc⟩ := h.cell k hk
  exact hb.set _ hX (fun x => by rw [hc]; simp)
/-- A grid: block G holds n slices of m fractions; row i lies in block R i from O i on. -/
structure GridQ (w : World) (G n : Nat) (R O C : Nat → Nat) (m : Nat) (M : Nat → Nat → Rat) : Prop where
  lt : G < w.heap.size
  free : ∀ o, w.frozen? ⟨G, o, none⟩ = false
  cell : ∀ i, i < n → w.cell? ⟨G, i, none⟩ = some (.slice (some ⟨R i, O i, none⟩) m (C i))
  cap : ∀ i, i < n → m ≤ C i
  row : ∀ i, i < n → RowQ w (R i) (O i) m (M i)
  far : ∀ i, i < n → R i ≠ G
  inj : ∀ i k, i < n → k < n → R i = R k → i = k
theorem GridQ.but {X : Nat → Prop} {w w' : World} {G n m : Nat} {R O C : Nat → Nat} {M : Nat → Nat → Rat} (h : GridQ w G n R O C m M) (hX : ¬ X G) (hR : ∀ i, i < n → ¬ X (R i)) (hg : But X w w') : GridQ w' G n R O C m M :=
  ⟨Nat.lt_of_lt_of_le h.lt hg.size, fun o => (hg.frees _ _ h.lt).trans (h.free o), fun i hi => by rw [hg.cells _ _ h.lt hX]; exact h.cell i hi, h.cap, fun i hi => RowP.but (h.row i hi) (hR i hi) hg, h.far, h.inj⟩
theorem GridQ.grow {w w' : World} {G n m : Nat} {R O C : Nat → Nat} {M : Nat → Nat → Rat} (h : GridQ w G n R O C m M) (hg : Grow w w') : GridQ w' G n R O C m M := h.but (X := fun _ => False) (fun h => h) (fun _ _ h => h) (hg.but _)
theorem GridQ.cong {w : World} {G n m : Nat} {R O C : Nat → Nat} {M M' : Nat → Nat → Rat} (h : GridQ w G n R O C m M) (hM : ∀ i j, i < n → j < m → M' i j = M i j) : GridQ w G n R O C m M' :=
  ⟨h.lt, h.free, h.cell, h.cap, fun i hi => RowQ.cong (h.row i hi) (fun j hj => hM i j hi hj), h.far, h.inj⟩
/-- One row changed in place. -/
theorem GridQ.row_set {w w' : World} {G n m : Nat} {R O C : Nat → Nat} {M : Nat → Nat → Rat} (h : GridQ w G n R O C m M) {j : Nat} (hj : j < n) {r : Nat → Rat} (hb : But (fun b => b = R j) w w') (hr : RowQ w' (R j) (O j) m r) : GridQ w' G n R O C m (upd M j r) := by
  refine ⟨Nat.lt_of_lt_of_le h.lt hb.size, fun o => (hb.frees _ _ h.lt).trans (h.free o), fun i hi => by rw [hb.cells _ _ h.lt (fun e => h.far j hj e.symm)]; exact h.cell i hi, h.cap, fun i hi => ?_, h.far, h.inj⟩
  by_cases hij : i = j
  · subst hij; rw [upd_same]; exact hr
  · rw [upd_other _ _ hij]
    exact RowP.but (h.row i hi) (fun e => hij (h.inj i j hi hj e)) hb
/-- A grid of n rows, all of whose blocks are from base on. -/
def GridE (w : World) (base G n m : Nat) (M : Nat → Nat → Rat) : Prop := base ≤ G ∧ ∃ R O C, GridQ w G n R O C m M ∧ ∀ i, i < n → base ≤ R i
theorem GridE.grow {w w' : World} {base G n m : Nat} {M : Nat → Nat → Rat} (h : GridE w base G n m M) (hg : Grow w w') : GridE w' base G n m M := by
  obtain ⟨hb, R, O, C, h1, h2⟩ := h
  exact ⟨hb, R, O, C, h1.grow hg, h2⟩
theorem GridE.cong {w : World} {base G n m : Nat} {M M' : Nat → Nat → Rat} (h : GridE w base G n m M) (hM : ∀ i j, i < n → j < m → M' i j = M i j) : GridE w base G n m M' := by
  obtain ⟨hb, R, O, C, h1, h2⟩ := h
  exact ⟨hb, R, O, C, h1.cong hM, h2⟩
theorem GridE.base {w : World} {base base' G n m : Nat} {M : Nat → Nat → Rat} (h : GridE w base G n m M) (hb : base' ≤ base) : GridE w base' G n m M := by
  obtain ⟨hb', R, O, C, h1, h2⟩ := h
  exact ⟨by omega, R, O, C, h1, fun i hi => by have := h2 i hi; omega⟩
theorem own_cells {w : World} {base g n cap size : Nat} {t : TypeId} {xs : List Value} (h : w.ownsRow base t size (.slice (some ⟨g, 0, none⟩) n cap) n xs) :
    g < w.heap.size ∧ base ≤ g ∧ n ≤ cap ∧ (∀ o, w.frozen? ⟨g, o, none⟩ = false) ∧ ∀ i v, xs[i]? = some v → w.cell? ⟨g, i, none⟩ = some v := by
  rcases h.2 with ⟨hv, -⟩ | ⟨g', cap', cur, hv, hb, hh, hle, hr⟩
  · cases hv
  · simp only [Value.slice.injEq, Option.some.injEq, Addr.mk.injEq] at hv
    obtain ⟨⟨rfl, -⟩, -, rfl⟩ := hv
    refine ⟨(Array.getElem?_eq_some_iff.1 hh).1, hb, hle, fun o => ?_, fun i v hi => ?_⟩
    · unfold World.frozen?
      simp only [hh]
      simp
    · have h1 := World.ownsRow.cells h (g := g) rfl i v hi
      rw [Addr.add_lit, Nat.zero_add] at h1
      exact h1
end Go.Proofs.YtbpkfcohbefphaaGreat
namespace Go.Proofs.YtbpkfcohbefphaaGreat
open Go Go.RowKit
theorem infoRat : (Tryz.prog.info? 36).map (fun i => (i.zero, i.size, i.bytes)) = some (some (.agg #[.bool false, .slice none 0 0, .bool false, .slice none 0 0]), 4, 64) := by kernel_rfl
end Go.Proofs.YtbpkfcohbefphaaGreat
namespace Go.Proofs.YtbpkfcohbefphaaGreat
open Go Go.RowKit
theorem SlG.far {w : World} {G n : Nat} (h : SlG w G n) : G < w.heap.size := h.lt
/-- A store into a cell behind the prefix. -/
theorem GridQ.keep {w : World} {G k n k' m : Nat} {R O C : Nat → Nat} {M : Nat → Nat → Rat} (h : GridQ w G k R O C m M) (hs : SlG w G n) (hk : k ≤ k') (hk' : k' < n) (v : Value) : GridQ (w.setCell ⟨G, k', none⟩ v) G k R O C m M := by
  have hbut : But (fun b => b = G) w (w.setCell ⟨G, k', none⟩ v) := SlG.but_set (X := fun b => b = G) hs hk' (.inr rfl) (But.refl _ w) v
  refine ⟨by simpa [World.setCell] using h.lt, fun o => by simpa using h.free o, fun i hi => ?_, h.cap, fun i hi => RowP.but (h.row i hi) (h.far i hi) hbut, h.far, h.inj⟩
  rw [World.cell?_setCell_other _ _ _ _ (by simp; try omega)]
  exact h.cell i hi
/-- A row more, whose slice stands there already. -/
theorem GridQ.add {w : World} {G k m : Nat} {R O C : Nat → Nat} {M : Nat → Nat → Rat} (h : GridQ w G k R O C m M) {r o c : Nat} {x : Nat → Rat} (hcell : w.cell? ⟨G, k, none⟩ = some (.slice (some ⟨r, o, none⟩) m c)) (hr : RowQ w r o m x) (hc : m ≤ c) (hrG : r ≠ G) (hnew : ∀ i, i < k → R i ≠ r) :
    GridQ w G (k + 1) (upd R k r) (upd O k o) (upd C k c) m (upd M k x) := by
  refine ⟨h.lt, h.free, fun i hi => ?_, fun i hi => ?_, fun i hi => ?_, fun i hi => ?_, fun i j hi hj e => ?_⟩
  · by_cases hik : i = k
    · subst hik; rw [upd_same, upd_same, upd_same]; exact hcell
    · rw [upd_other _ _ hik, upd_other _ _ hik, upd_other _ _ hik]; exact h.cell i (by omega)
  · by_cases hik : i = k
    · subst hik; rw [upd_same]; exact hc
    · rw [upd_other _ _ hik]; exact h.cap i (by omega)
  · by_cases hik : i = k
    · subst hik; rw [upd_same, upd_same, upd_same]; exact hr
    · rw [upd_other _ _ hik, upd_other _ _ hik, upd_other _ _ hik]; exact h.row i (by omega)
  · by_cases hik : i = k
    · subst hik; rw [upd_same]; exact hrG
    · rw [upd_other _ _ hik]; exact h.far i (by omega)
  · by_cases hik : i = k
    · by_cases hjk : j = k
      · omega
      · subst hik
        rw [upd_same, upd_other _ _ hjk] at e
        exact absurd e.symm (hnew j (by omega))
    · by_cases hjk : j = k
      · subst hjk
        rw [upd_same, upd_other _ _ hik] at e
        exact absurd e (hnew i (by omega))
      · rw [upd_other _ _ hik, upd_other _ _ hjk] at e
        exact h.inj i j (by omega) (by omega) e
end Go.Proofs.YtbpkfcohbefphaaGreat
