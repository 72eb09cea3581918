/- Lemmas, plain laws and walks that the statement LwThreeSquares leans on (texts BiJ, BiK, BiL), conditions as each theorem says. -/
import Derived.Deep.DeepCutAuto
import Derived.Deep.CutBlock
import Derived.Test.YtbpkfcohbefphaaGreatTopThreeSquaresG03

/- Walks over integers: DivMod, Exact. -/
namespace Go.Proofs.YtbpkfcohbefphaaGreat
open Go Go.RowKit

theorem results_cct {fn : Func} {p q u : Tmp} {ty ty' : TypeId} (h : fn.results = #[.cell p ty, .cell q ty', .tmp u]) (tmps : Array Value) (P : Program) (w : World) :
    (results fn tmps).run P w = ((asAddr (tmps.getD p undef)).run P w).andThen fun a w₁ => ((loadVar ty a).run P w₁).andThen fun v w₂ => ((asAddr (tmps.getD q undef)).run P w₂).andThen fun b w₃ => ((loadVar ty' b).run P w₃).andThen fun v' w₄ => .ok (.tuple #[v, v', tmps.getD u undef]) w₄ := by
  simp only [results, h]
  simp [Sem.run_bind, Result.andThen]
theorem MagR.pad {w : World} {m : Value} {n : Nat} (h : MagR w m n) : PadR w m n := .inl h
theorem MagR.set22 {w : World} {m : Value} {n B1 B2 : Nat} (h : MagR w m n) (h1 : NoU w B1) (h2 : NoU w B2) (o1 o2 o3 o4 : Nat) (v1 v2 v3 v4 : Value) : MagR ((((w.setCell ⟨B1, o1, none⟩ v1).setCell ⟨B1, o2, none⟩ v2).setCell ⟨B2, o3, none⟩ v3).setCell ⟨B2, o4, none⟩ v4) m n := by
  rcases h with h | ⟨h0, hl, b, off, cap, hm, hk, hb, hcc⟩
  · exact .inl h
  · have e1 : b ≠ B1 := fun e => by subst e; exact h1 _ _ _ hcc
    have e2 : b ≠ B2 := fun e => by subst e; exact h2 _ _ _ hcc
    refine .inr ⟨h0, hl, b, off, cap, hm, hk, by simpa [World.setCell] using hb, ?_⟩
    rw [World.cell?_of_block (Below.heap_setCell _ _ _ _ e2), World.cell?_of_block (Below.heap_setCell _ _ _ _ e2), World.cell?_of_block (Below.heap_setCell _ _ _ _ e1), World.cell?_of_block (Below.heap_setCell _ _ _ _ e1)]
    exact hcc
set_option maxRecDepth 20000 in
set_option maxHeartbeats 4000000 in
theorem dm_pos (s2 : Bool) (n1 n2 : Nat) (m1 m2 : Value) (hn2 : 0 < n2)  (w : World) (h1 : MagR w m1 n1) (h2 : MagR w m2 n2) :
    Calls Tryz.prog 103 #[.agg #[.bool false, m1], .agg #[.bool s2, m2]] w fun e w' => ∃ q r, e = .returned (.tuple #[.agg #[.bool (s2 && decide (n1 / n2 ≠ 0)), q], .agg #[.bool false, r], .int .i64 0]) ∧ MagR w' q (n1 / n2) ∧ MagR w' r (n1 % n2) ∧ Grow w w' := by
  have hl1 := h1.lt
  have hl2 := h2.lt
  have hq1 : n1 / n2 ≤ n1 := Nat.div_le_self _ _
  have hr1 : n1 % n2 < n2 := Nat.mod_lt _ hn2
  have DV := Lib.hid (fun u hu => divide_any m1 m2 n1 n2 hn2 u (h1.grow hu) (h2.grow hu))
  have T1 := Lib.hid (fun u hu => trimmed_mag m1 n1 u (h1.grow hu))
  have T2 := Lib.hid (fun u hu => trimmed_mag m2 n2 u (h2.grow hu))
  obtain ⟨Q, hQ⟩ : ∃ Q, n1 / n2 = Q := ⟨_, rfl⟩
  obtain ⟨R, hR⟩ : ∃ R, n1 % n2 = R := ⟨_, rfl⟩
  rw [hQ, hR] at DV ⊢
  rw [hQ] at hq1
  rw [hR] at hr1
  have SQ := Lib.hid (fun m u hu => signed_any s2 m Q u hu)
  have SR := Lib.hid (fun m u hu => signed_any false m R u hu)
  simp only [Bool.false_and] at SR
  obtain ⟨D, hD⟩ : ∃ D, (s2 && decide (Q ≠ 0)) = D := ⟨_, rfl⟩
  rw [hD] at SQ ⊢
  obtain ⟨a1, c1, rfl⟩ := h1.form
  obtain ⟨a2, c2, rfl⟩ := h2.form
  rw [if_neg (show ¬ n2 = 0 by omega)] at *
  generalize (if n1 = 0 then 0 else 1) = l1 at *
  clear hD hQ hR hl1 hl2 hq1 hr1 h1 h2
  go_enter Tryz.func103, Tryz.ntmps103
  go_wp2_with fail
  have c0 : ∀ u : World, Grow ((((w.alloc (.cells #[.bool false, .slice a1 l1 c1] 34)).alloc (.cells #[.bool s2, .slice a2 1 c2] 34)).alloc (.cells #[.bool false, .slice none 0 0] 34)).alloc (.cells #[.bool false, .slice none 0 0] 34)) u → u.cell? ⟨w.heap.size, 0, none⟩ = some (.bool false) ∧ u.cell? ⟨w.heap.size, 1, none⟩ = some (.slice a1 l1 c1) ∧ u.cell? ⟨w.heap.size + 1, 0, none⟩ = some (.bool s2) ∧ u.cell? ⟨w.heap.size + 1, 1, none⟩ = some (.slice a2 1 c2) := by
    intro u hg
    refine ⟨(hg.cells _ _ (by (try simp); try omega)).trans ?_, (hg.cells _ _ (by (try simp); try omega)).trans ?_, (hg.cells _ _ (by (try simp); try omega)).trans ?_, (hg.cells _ _ (by (try simp); try omega)).trans ?_⟩ <;> go_simp
  have C0 := Lib.hid c0
  have r0 : ∀ u : World, Grow ((((w.alloc (.cells #[.bool false, .slice a1 l1 c1] 34)).alloc (.cells #[.bool s2, .slice a2 1 c2] 34)).alloc (.cells #[.bool false, .slice none 0 0] 34)).alloc (.cells #[.bool false, .slice none 0 0] 34)) u → (u.cell? ⟨w.heap.size + 1 + 1, 0, none⟩ = some (.bool false) ∧ u.cell? ⟨w.heap.size + 1 + 1, 1, none⟩ = some (.slice none 0 0) ∧ (∀ o, u.frozen? ⟨w.heap.size + 1 + 1, o, none⟩ = false) ∧ u.cell? ⟨w.heap.size + 1 + 1 + 1, 0, none⟩ = some (.bool false) ∧ u.cell? ⟨w.heap.size + 1 + 1 + 1, 1, none⟩ = some (.slice none 0 0) ∧ (∀ o, u.frozen? ⟨w.heap.size + 1 + 1 + 1, o, none⟩ = false)) ∧ NoU u (w.heap.size + 1 + 1) ∧ NoU u (w.heap.size + 1 + 1 + 1) ∧ w.heap.size + 1 + 1 + 1 < u.heap.size ∧ Grow w u := by
    intro u hg
    have hz := hg.size
    simp at hz
    refine ⟨⟨(hg.cells _ _ (by (try simp); try omega)).trans ?_, (hg.cells _ _ (by (try simp); try omega)).trans ?_, fun o => (hg.frees _ _ (by (try simp); try omega)).trans ?_, (hg.cells _ _ (by (try simp); try omega)).trans ?_, (hg.cells _ _ (by (try simp); try omega)).trans ?_, fun o => (hg.frees _ _ (by (try simp); try omega)).trans ?_⟩, ?_, ?_, by omega, Grow.trans (by (repeat (first | with_reducible exact Grow.refl _ | with_reducible refine Grow.alloc ?_ _ | with_reducible refine Grow.drew ?_ | with_reducible refine Grow.drewN ?_ _ | (with_reducible refine Grow.setCell ?_ ?hp _; (case hp => (simp; try omega))) | with_reducible refine Grow.trans ?_ (by assumption)))) hg⟩
    · go_simp
    · go_simp
    · go_simp
    · go_simp
    · go_simp
    · go_simp
    · have h := (NoU.alloc ((w.alloc (.cells #[.bool false, .slice a1 l1 c1] 34)).alloc (.cells #[.bool s2, .slice a2 1 c2] 34)) _ 34 (noU2 false none 0 0)).grow (by simp) ((Grow.refl _).alloc (.cells #[.bool false, .slice none 0 0] 34))
      simp at h
      exact h.grow (by (try simp); try omega) hg
    · have h := NoU.alloc (((w.alloc (.cells #[.bool false, .slice a1 l1 c1] 34)).alloc (.cells #[.bool s2, .slice a2 1 c2] 34)).alloc (.cells #[.bool false, .slice none 0 0] 34)) _ 34 (noU2 false none 0 0)
      simp at h
      exact h.grow (by (try simp); try omega) hg
  have R0 := Lib.hid r0
  clear c0 r0
  go_wp2_with (first
    | (go_at_call 78; first | ((with_reducible refine (T1.out _ (by (repeat (first | with_reducible exact Grow.refl _ | with_reducible refine Grow.alloc ?_ _ | with_reducible refine Grow.drew ?_ | with_reducible refine Grow.drewN ?_ _ | (with_reducible refine Grow.setCell ?_ ?hp _; (case hp => (simp; try omega))) | with_reducible refine Grow.trans ?_ (by assumption))))).mono ?_); (rintro e w2 ⟨rfl, rfl⟩)) | ((with_reducible refine (T2.out _ (by (repeat (first | with_reducible exact Grow.refl _ | with_reducible refine Grow.alloc ?_ _ | with_reducible refine Grow.drew ?_ | with_reducible refine Grow.drewN ?_ _ | (with_reducible refine Grow.setCell ?_ ?hp _; (case hp => (simp; try omega))) | with_reducible refine Grow.trans ?_ (by assumption))))).mono ?_); (rintro e w2 ⟨rfl, rfl⟩)))
    | (go_at_call 117; (with_reducible refine (DV.out _ (by (repeat (first | with_reducible exact Grow.refl _ | with_reducible refine Grow.alloc ?_ _ | with_reducible refine Grow.drew ?_ | with_reducible refine Grow.drewN ?_ _ | (with_reducible refine Grow.setCell ?_ ?hp _; (case hp => (simp; try omega))) | with_reducible refine Grow.trans ?_ (by assumption))))).mono ?_); (rintro e w3 ⟨mq, mr, rfl, hmq, hmr, hb3⟩; obtain ⟨d0, d1, d2, d3⟩ := C0.out w3 (by (repeat (first | with_reducible exact Grow.refl _ | with_reducible refine Grow.alloc ?_ _ | with_reducible refine Grow.drew ?_ | with_reducible refine Grow.drewN ?_ _ | (with_reducible refine Grow.setCell ?_ ?hp _; (case hp => (simp; try omega))) | with_reducible refine Grow.trans ?_ (by assumption)))); have hz3 := hb3.size; (try simp at hz3); have hz3b : w.heap.size + 1 < w3.heap.size := (by omega); have hz3c : w.heap.size < w3.heap.size := (by omega); obtain ⟨a9, c9, rfl⟩ := hmr.form; generalize (if R = 0 then 0 else 1) = lr at hmr ⊢))
    | (go_at_call 68; (with_reducible refine (SQ.out _ _ hmq.pad).mono ?_); (rintro e w7 ⟨m7, rfl, hm7, hb7⟩; obtain ⟨a7, c7, rfl⟩ := hm7.form; generalize (if Q = 0 then 0 else 1) = l7 at hm7 ⊢; have HM7 := Lib.hid hm7; clear hm7))
    | (go_at_call 68; (with_reducible refine (SR.out _ _ (hmr.grow hb7).pad).mono ?_); (rintro e w8 ⟨m8, rfl, hm8, hb8⟩; obtain ⟨a8, c8, rfl⟩ := hm8.form; generalize (if R = 0 then 0 else 1) = l8 at hm8 ⊢; have HM8 := Lib.hid hm8; clear hm8; obtain ⟨⟨q0, q1, qf, q2, q3, qg⟩, NA, NB, hz8, HB8⟩ := R0.out w8 (by (repeat (first | with_reducible exact Grow.refl _ | with_reducible refine Grow.alloc ?_ _ | with_reducible refine Grow.drew ?_ | with_reducible refine Grow.drewN ?_ _ | (with_reducible refine Grow.setCell ?_ ?hp _; (case hp => (simp; try omega))) | with_reducible refine Grow.trans ?_ (by assumption)))); have NU1 := Lib.hid NA; have NU2 := Lib.hid NB; have HB := Lib.hid HB8; have HM9 := Lib.hid (HM7.out.grow hb8); have hz8a : w.heap.size + 1 + 1 < w8.heap.size := (by omega); clear NA NB HB8)))
  (try simp only [Exit.inBlock, Exit.then])
  refine bodyPost_ret (v := .tuple #[.agg #[.bool D, .slice a7 l7 c7], .agg #[.bool false, .slice a8 l8 c8], .int .i64 0]) (by rw [results_cct rfl]; go_simp) rfl ⟨_, _, rfl, HM9.out.set22 NU1.out NU2.out _ _ _ _ _ _ _ _, HM8.out.set22 NU1.out NU2.out _ _ _ _ _ _ _ _, by have h9 := HB.out; (repeat (first | with_reducible exact Grow.refl _ | with_reducible refine Grow.alloc ?_ _ | with_reducible refine Grow.drew ?_ | with_reducible refine Grow.drewN ?_ _ | (with_reducible refine Grow.setCell ?_ ?hp _; (case hp => (simp; try omega))) | with_reducible refine Grow.trans ?_ (by assumption)))⟩
set_option maxRecDepth 20000 in
set_option maxHeartbeats 4000000 in
theorem dm_zero (s2 : Bool) (n1 n2 : Nat) (m1 m2 : Value) (hn2 : 0 < n2) (hR0 : n1 % n2 = 0) (w : World) (h1 : MagR w m1 n1) (h2 : MagR w m2 n2) :
    Calls Tryz.prog 103 #[.agg #[.bool true, m1], .agg #[.bool s2, m2]] w fun e w' => ∃ q r, e = .returned (.tuple #[.agg #[.bool ((!s2) && decide (n1 / n2 ≠ 0)), q], .agg #[.bool false, r], .int .i64 0]) ∧ MagR w' q (n1 / n2) ∧ MagR w' r (n1 % n2) ∧ Grow w w' := by
  have hl1 := h1.lt
  have hl2 := h2.lt
  have hq1 : n1 / n2 ≤ n1 := Nat.div_le_self _ _
  have hr1 : n1 % n2 < n2 := Nat.mod_lt _ hn2
  have DV := Lib.hid (fun u hu => divide_any m1 m2 n1 n2 hn2 u (h1.grow hu) (h2.grow hu))
  have T1 := Lib.hid (fun u hu => trimmed_mag m1 n1 u (h1.grow hu))
  have T2 := Lib.hid (fun u hu => trimmed_mag m2 n2 u (h2.grow hu))
  obtain ⟨Q, hQ⟩ : ∃ Q, n1 / n2 = Q := ⟨_, rfl⟩
  obtain ⟨R, hR⟩ : ∃ R, n1 % n2 = R := ⟨_, rfl⟩
  rw [hQ, hR] at DV ⊢
  rw [hQ] at hq1
  rw [hR] at hr1 hR0
  have SQ := Lib.hid (fun m u hu => signed_any (!s2) m Q u hu)
  have SR := Lib.hid (fun m u hu => signed_any false m R u hu)
  simp only [Bool.false_and] at SR
  obtain ⟨D, hD⟩ : ∃ D, ((!s2) && decide (Q ≠ 0)) = D := ⟨_, rfl⟩
  rw [hD] at SQ ⊢
  obtain ⟨a1, c1, rfl⟩ := h1.form
  obtain ⟨a2, c2, rfl⟩ := h2.form
  rw [if_neg (show ¬ n2 = 0 by omega)] at *
  generalize (if n1 = 0 then 0 else 1) = l1 at *
  clear hD hQ hR hl1 hl2 hq1 hr1 h1 h2
  go_enter Tryz.func103, Tryz.ntmps103
  go_wp2_with fail
  have c0 : ∀ u : World, Grow ((((w.alloc (.cells #[.bool true, .slice a1 l1 c1] 34)).alloc (.cells #[.bool s2, .slice a2 1 c2] 34)).alloc (.cells #[.bool false, .slice none 0 0] 34)).alloc (.cells #[.bool false, .slice none 0 0] 34)) u → u.cell? ⟨w.heap.size, 0, none⟩ = some (.bool true) ∧ u.cell? ⟨w.heap.size, 1, none⟩ = some (.slice a1 l1 c1) ∧ u.cell? ⟨w.heap.size + 1, 0, none⟩ = some (.bool s2) ∧ u.cell? ⟨w.heap.size + 1, 1, none⟩ = some (.slice a2 1 c2) := by
    intro u hg
    refine ⟨(hg.cells _ _ (by (try simp); try omega)).trans ?_, (hg.cells _ _ (by (try simp); try omega)).trans ?_, (hg.cells _ _ (by (try simp); try omega)).trans ?_, (hg.cells _ _ (by (try simp); try omega)).trans ?_⟩ <;> go_simp
  have C0 := Lib.hid c0
  have r0 : ∀ u : World, Grow ((((w.alloc (.cells #[.bool true, .slice a1 l1 c1] 34)).alloc (.cells #[.bool s2, .slice a2 1 c2] 34)).alloc (.cells #[.bool false, .slice none 0 0] 34)).alloc (.cells #[.bool false, .slice none 0 0] 34)) u → (u.cell? ⟨w.heap.size + 1 + 1, 0, none⟩ = some (.bool false) ∧ u.cell? ⟨w.heap.size + 1 + 1, 1, none⟩ = some (.slice none 0 0) ∧ (∀ o, u.frozen? ⟨w.heap.size + 1 + 1, o, none⟩ = false) ∧ u.cell? ⟨w.heap.size + 1 + 1 + 1, 0, none⟩ = some (.bool false) ∧ u.cell? ⟨w.heap.size + 1 + 1 + 1, 1, none⟩ = some (.slice none 0 0) ∧ (∀ o, u.frozen? ⟨w.heap.size + 1 + 1 + 1, o, none⟩ = false)) ∧ NoU u (w.heap.size + 1 + 1) ∧ NoU u (w.heap.size + 1 + 1 + 1) ∧ w.heap.size + 1 + 1 + 1 < u.heap.size ∧ Grow w u := by
    intro u hg
    have hz := hg.size
    simp at hz
    refine ⟨⟨(hg.cells _ _ (by (try simp); try omega)).trans ?_, (hg.cells _ _ (by (try simp); try omega)).trans ?_, fun o => (hg.frees _ _ (by (try simp); try omega)).trans ?_, (hg.cells _ _ (by (try simp); try omega)).trans ?_, (hg.cells _ _ (by (try simp); try omega)).trans ?_, fun o => (hg.frees _ _ (by (try simp); try omega)).trans ?_⟩, ?_, ?_, by omega, Grow.trans (by (repeat (first | with_reducible exact Grow.refl _ | with_reducible refine Grow.alloc ?_ _ | with_reducible refine Grow.drew ?_ | with_reducible refine Grow.drewN ?_ _ | (with_reducible refine Grow.setCell ?_ ?hp _; (case hp => (simp; try omega))) | with_reducible refine Grow.trans ?_ (by assumption)))) hg⟩
    · go_simp
    · go_simp
    · go_simp
    · go_simp
    · go_simp
    · go_simp
    · have h := (NoU.alloc ((w.alloc (.cells #[.bool true, .slice a1 l1 c1] 34)).alloc (.cells #[.bool s2, .slice a2 1 c2] 34)) _ 34 (noU2 false none 0 0)).grow (by simp) ((Grow.refl _).alloc (.cells #[.bool false, .slice none 0 0] 34))
      simp at h
      exact h.grow (by (try simp); try omega) hg
    · have h := NoU.alloc (((w.alloc (.cells #[.bool true, .slice a1 l1 c1] 34)).alloc (.cells #[.bool s2, .slice a2 1 c2] 34)).alloc (.cells #[.bool false, .slice none 0 0] 34)) _ 34 (noU2 false none 0 0)
      simp at h
      exact h.grow (by (try simp); try omega) hg
  have R0 := Lib.hid r0
  clear c0 r0
  go_wp2_with (first
    | (go_at_call 78; first | ((with_reducible refine (T1.out _ (by (repeat (first | with_reducible exact Grow.refl _ | with_reducible refine Grow.alloc ?_ _ | with_reducible refine Grow.drew ?_ | with_reducible refine Grow.drewN ?_ _ | (with_reducible refine Grow.setCell ?_ ?hp _; (case hp => (simp; try omega))) | with_reducible refine Grow.trans ?_ (by assumption))))).mono ?_); (rintro e w2 ⟨rfl, rfl⟩)) | ((with_reducible refine (T2.out _ (by (repeat (first | with_reducible exact Grow.refl _ | with_reducible refine Grow.alloc ?_ _ | with_reducible refine Grow.drew ?_ | with_reducible refine Grow.drewN ?_ _ | (with_reducible refine Grow.setCell ?_ ?hp _; (case hp => (simp; try omega))) | with_reducible refine Grow.trans ?_ (by assumption))))).mono ?_); (rintro e w2 ⟨rfl, rfl⟩)))
    | (go_at_call 117; (with_reducible refine (DV.out _ (by (repeat (first | with_reducible exact Grow.refl _ | with_reducible refine Grow.alloc ?_ _ | with_reducible refine Grow.drew ?_ | with_reducible refine Grow.drewN ?_ _ | (with_reducible refine Grow.setCell ?_ ?hp _; (case hp => (simp; try omega))) | with_reducible refine Grow.trans ?_ (by assumption))))).mono ?_); (rintro e w3 ⟨mq, mr, rfl, hmq, hmr, hb3⟩; obtain ⟨d0, d1, d2, d3⟩ := C0.out w3 (by (repeat (first | with_reducible exact Grow.refl _ | with_reducible refine Grow.alloc ?_ _ | with_reducible refine Grow.drew ?_ | with_reducible refine Grow.drewN ?_ _ | (with_reducible refine Grow.setCell ?_ ?hp _; (case hp => (simp; try omega))) | with_reducible refine Grow.trans ?_ (by assumption)))); have hz3 := hb3.size; (try simp at hz3); have hz3b : w.heap.size + 1 < w3.heap.size := (by omega); have hz3c : w.heap.size < w3.heap.size := (by omega); obtain ⟨a9, c9, rfl⟩ := hmr.form; rw [if_pos hR0] at hmr ⊢))
    | (go_at_call 68; (with_reducible refine (SQ.out _ _ hmq.pad).mono ?_); (rintro e w7 ⟨m7, rfl, hm7, hb7⟩; obtain ⟨a7, c7, rfl⟩ := hm7.form; generalize (if Q = 0 then 0 else 1) = l7 at hm7 ⊢; have HM7 := Lib.hid hm7; clear hm7))
    | (go_at_call 68; (with_reducible refine (SR.out _ _ (hmr.grow hb7).pad).mono ?_); (rintro e w8 ⟨m8, rfl, hm8, hb8⟩; obtain ⟨a8, c8, rfl⟩ := hm8.form; generalize (if R = 0 then 0 else 1) = l8 at hm8 ⊢; have HM8 := Lib.hid hm8; clear hm8; obtain ⟨⟨q0, q1, qf, q2, q3, qg⟩, NA, NB, hz8, HB8⟩ := R0.out w8 (by (repeat (first | with_reducible exact Grow.refl _ | with_reducible refine Grow.alloc ?_ _ | with_reducible refine Grow.drew ?_ | with_reducible refine Grow.drewN ?_ _ | (with_reducible refine Grow.setCell ?_ ?hp _; (case hp => (simp; try omega))) | with_reducible refine Grow.trans ?_ (by assumption)))); have NU1 := Lib.hid NA; have NU2 := Lib.hid NB; have HB := Lib.hid HB8; have HM9 := Lib.hid (HM7.out.grow hb8); have hz8a : w.heap.size + 1 + 1 < w8.heap.size := (by omega); clear NA NB HB8)))
  (try simp only [Exit.inBlock, Exit.then])
  refine bodyPost_ret (v := .tuple #[.agg #[.bool D, .slice a7 l7 c7], .agg #[.bool false, .slice a8 l8 c8], .int .i64 0]) (by rw [results_cct rfl]; go_simp) rfl ⟨_, _, rfl, HM9.out.set22 NU1.out NU2.out _ _ _ _ _ _ _ _, HM8.out.set22 NU1.out NU2.out _ _ _ _ _ _ _ _, by have h9 := HB.out; (repeat (first | with_reducible exact Grow.refl _ | with_reducible refine Grow.alloc ?_ _ | with_reducible refine Grow.drew ?_ | with_reducible refine Grow.drewN ?_ _ | (with_reducible refine Grow.setCell ?_ ?hp _; (case hp => (simp; try omega))) | with_reducible refine Grow.trans ?_ (by assumption)))⟩
set_option maxRecDepth 20000 in
set_option maxHeartbeats 4000000 in
theorem dm_low (s2 : Bool) (n1 n2 : Nat) (m1 m2 : Value) (hn2 : 0 < n2) (hR0 : ¬ n1 % n2 = 0) (w : World) (h1 : MagR w m1 n1) (h2 : MagR w m2 n2) :
    Calls Tryz.prog 103 #[.agg #[.bool true, m1], .agg #[.bool s2, m2]] w fun e w' => ∃ q r, e = .returned (.tuple #[.agg #[.bool ((!s2) && decide (n1 / n2 + 1 ≠ 0)), q], .agg #[.bool false, r], .int .i64 0]) ∧ MagR w' q (n1 / n2 + 1) ∧ MagR w' r (n2 - n1 % n2) ∧ Grow w w' := by
  have hl1 := h1.lt
  have hl2 := h2.lt
  have hq1 : n1 / n2 ≤ n1 := Nat.div_le_self _ _
  have hr1 : n1 % n2 < n2 := Nat.mod_lt _ hn2
  have hQs : n1 / n2 + 1 < 4294967296 := by
    rcases Nat.lt_or_ge n2 2 with h | h
    · have e : n2 = 1 := by omega
      subst e
      exact absurd (Nat.mod_one n1) hR0
    · have : n1 / n2 ≤ n1 / 2 := Nat.div_le_div_left h (by omega)
      omega
  have DV := Lib.hid (fun u hu => divide_any m1 m2 n1 n2 hn2 u (h1.grow hu) (h2.grow hu))
  have T1 := Lib.hid (fun u hu => trimmed_mag m1 n1 u (h1.grow hu))
  have T2 := Lib.hid (fun u hu => trimmed_mag m2 n2 u (h2.grow hu))
  obtain ⟨Q, hQ⟩ : ∃ Q, n1 / n2 = Q := ⟨_, rfl⟩
  obtain ⟨R, hR⟩ : ∃ R, n1 % n2 = R := ⟨_, rfl⟩
  rw [hQ, hR] at DV ⊢
  rw [hQ] at hq1 hQs
  rw [hR] at hr1 hR0
  have PL := Lib.hid (fun mq mo u hq ho => plus_any mq mo Q 1 hQs u hq ho)
  have LS := Lib.hid (fun mr u hu hr => less_any m2 mr n2 R (by omega) u (h2.grow hu) hr)
  obtain ⟨Q', hQ'⟩ : ∃ Q', Q + 1 = Q' := ⟨_, rfl⟩
  obtain ⟨R', hR'⟩ : ∃ R', n2 - R = R' := ⟨_, rfl⟩
  rw [hQ'] at PL
  rw [hR'] at LS
  rw [hQ', hR']
  have SQ := Lib.hid (fun m u hu => signed_any (!s2) m Q' u hu)
  have SR := Lib.hid (fun m u hu => signed_any false m R' u hu)
  simp only [Bool.false_and] at SR
  obtain ⟨D, hD⟩ : ∃ D, ((!s2) && decide (Q' ≠ 0)) = D := ⟨_, rfl⟩
  rw [hD] at SQ ⊢
  obtain ⟨a1, c1, rfl⟩ := h1.form
  obtain ⟨a2, c2, rfl⟩ := h2.form
  rw [if_neg (show ¬ n2 = 0 by omega)] at *
  generalize (if n1 = 0 then 0 else 1) = l1 at *
  clear hD hQ hR hl1 hl2 hq1 hr1 h1 h2 hQs hQ' hR'
  go_enter Tryz.func103, Tryz.ntmps103
  go_wp2_with fail
  have c0 : ∀ u : World, Grow ((((w.alloc (.cells #[.bool true, .slice a1 l1 c1] 34)).alloc (.cells #[.bool s2, .slice a2 1 c2] 34)).alloc (.cells #[.bool false, .slice none 0 0] 34)).alloc (.cells #[.bool false, .slice none 0 0] 34)) u → u.cell? ⟨w.heap.size, 0, none⟩ = some (.bool true) ∧ u.cell? ⟨w.heap.size, 1, none⟩ = some (.slice a1 l1 c1) ∧ u.cell? ⟨w.heap.size + 1, 0, none⟩ = some (.bool s2) ∧ u.cell? ⟨w.heap.size + 1, 1, none⟩ = some (.slice a2 1 c2) := by
    intro u hg
    refine ⟨(hg.cells _ _ (by (try simp); try omega)).trans ?_, (hg.cells _ _ (by (try simp); try omega)).trans ?_, (hg.cells _ _ (by (try simp); try omega)).trans ?_, (hg.cells _ _ (by (try simp); try omega)).trans ?_⟩ <;> go_simp
  have C0 := Lib.hid c0
  have r0 : ∀ u : World, Grow ((((w.alloc (.cells #[.bool true, .slice a1 l1 c1] 34)).alloc (.cells #[.bool s2, .slice a2 1 c2] 34)).alloc (.cells #[.bool false, .slice none 0 0] 34)).alloc (.cells #[.bool false, .slice none 0 0] 34)) u → (u.cell? ⟨w.heap.size + 1 + 1, 0, none⟩ = some (.bool false) ∧ u.cell? ⟨w.heap.size + 1 + 1, 1, none⟩ = some (.slice none 0 0) ∧ (∀ o, u.frozen? ⟨w.heap.size + 1 + 1, o, none⟩ = false) ∧ u.cell? ⟨w.heap.size + 1 + 1 + 1, 0, none⟩ = some (.bool false) ∧ u.cell? ⟨w.heap.size + 1 + 1 + 1, 1, none⟩ = some (.slice none 0 0) ∧ (∀ o, u.frozen? ⟨w.heap.size + 1 + 1 + 1, o, none⟩ = false)) ∧ NoU u (w.heap.size + 1 + 1) ∧ NoU u (w.heap.size + 1 + 1 + 1) ∧ w.heap.size + 1 + 1 + 1 < u.heap.size ∧ Grow w u := by
    intro u hg
    have hz := hg.size
    simp at hz
    refine ⟨⟨(hg.cells _ _ (by (try simp); try omega)).trans ?_, (hg.cells _ _ (by (try simp); try omega)).trans ?_, fun o => (hg.frees _ _ (by (try simp); try omega)).trans ?_, (hg.cells _ _ (by (try simp); try omega)).trans ?_, (hg.cells _ _ (by (try simp); try omega)).trans ?_, fun o => (hg.frees _ _ (by (try simp); try omega)).trans ?_⟩, ?_, ?_, by omega, Grow.trans (by (repeat (first | with_reducible exact Grow.refl _ | with_reducible refine Grow.alloc ?_ _ | with_reducible refine Grow.drew ?_ | with_reducible refine Grow.drewN ?_ _ | (with_reducible refine Grow.setCell ?_ ?hp _; (case hp => (simp; try omega))) | with_reducible refine Grow.trans ?_ (by assumption)))) hg⟩
    · go_simp
    · go_simp
    · go_simp
    · go_simp
    · go_simp
    · go_simp
    · have h := (NoU.alloc ((w.alloc (.cells #[.bool true, .slice a1 l1 c1] 34)).alloc (.cells #[.bool s2, .slice a2 1 c2] 34)) _ 34 (noU2 false none 0 0)).grow (by simp) ((Grow.refl _).alloc (.cells #[.bool false, .slice none 0 0] 34))
      simp at h
      exact h.grow (by (try simp); try omega) hg
    · have h := NoU.alloc (((w.alloc (.cells #[.bool true, .slice a1 l1 c1] 34)).alloc (.cells #[.bool s2, .slice a2 1 c2] 34)).alloc (.cells #[.bool false, .slice none 0 0] 34)) _ 34 (noU2 false none 0 0)
      simp at h
      exact h.grow (by (try simp); try omega) hg
  have R0 := Lib.hid r0
  clear c0 r0
  go_wp2_with (first
    | (go_at_call 78; first | ((with_reducible refine (T1.out _ (by (repeat (first | with_reducible exact Grow.refl _ | with_reducible refine Grow.alloc ?_ _ | with_reducible refine Grow.drew ?_ | with_reducible refine Grow.drewN ?_ _ | (with_reducible refine Grow.setCell ?_ ?hp _; (case hp => (simp; try omega))) | with_reducible refine Grow.trans ?_ (by assumption))))).mono ?_); (rintro e w2 ⟨rfl, rfl⟩)) | ((with_reducible refine (T2.out _ (by (repeat (first | with_reducible exact Grow.refl _ | with_reducible refine Grow.alloc ?_ _ | with_reducible refine Grow.drew ?_ | with_reducible refine Grow.drewN ?_ _ | (with_reducible refine Grow.setCell ?_ ?hp _; (case hp => (simp; try omega))) | with_reducible refine Grow.trans ?_ (by assumption))))).mono ?_); (rintro e w2 ⟨rfl, rfl⟩)))
    | (go_at_call 117; (with_reducible refine (DV.out _ (by (repeat (first | with_reducible exact Grow.refl _ | with_reducible refine Grow.alloc ?_ _ | with_reducible refine Grow.drew ?_ | with_reducible refine Grow.drewN ?_ _ | (with_reducible refine Grow.setCell ?_ ?hp _; (case hp => (simp; try omega))) | with_reducible refine Grow.trans ?_ (by assumption))))).mono ?_); (rintro e w3 ⟨mq, mr, rfl, hmq, hmr, hb3⟩; obtain ⟨d0, d1, d2, d3⟩ := C0.out w3 (by (repeat (first | with_reducible exact Grow.refl _ | with_reducible refine Grow.alloc ?_ _ | with_reducible refine Grow.drew ?_ | with_reducible refine Grow.drewN ?_ _ | (with_reducible refine Grow.setCell ?_ ?hp _; (case hp => (simp; try omega))) | with_reducible refine Grow.trans ?_ (by assumption)))); have hz3 := hb3.size; (try simp at hz3); have hz3b : w.heap.size + 1 < w3.heap.size := (by omega); have hz3c : w.heap.size < w3.heap.size := (by omega); obtain ⟨a9, c9, rfl⟩ := hmr.form; rw [if_neg hR0] at hmr ⊢))
    | (go_at_call 108; (refine (PL.out mq _ _ (hmq.grow (by (repeat (first | with_reducible exact Grow.refl _ | with_reducible refine Grow.alloc ?_ _ | with_reducible refine Grow.drew ?_ | with_reducible refine Grow.drewN ?_ _ | (with_reducible refine Grow.setCell ?_ ?hp _; (case hp => (simp; try omega))) | with_reducible refine Grow.trans ?_ (by assumption))))) (.inr ⟨by omega, by omega, w3.heap.size, 0, 1, rfl, by omega, by simp, by go_simp⟩)).mono ?_); (rintro e w4 ⟨mp, rfl, hmp, hb4⟩; have HR4 := Lib.hid (hmr.grow (Grow.trans (Grow.alloc (Grow.refl w3) _) hb4))))
    | (go_at_call 110; (with_reducible refine (LS.out _ _ (by (repeat (first | with_reducible exact Grow.refl _ | with_reducible refine Grow.alloc ?_ _ | with_reducible refine Grow.drew ?_ | with_reducible refine Grow.drewN ?_ _ | (with_reducible refine Grow.setCell ?_ ?hp _; (case hp => (simp; try omega))) | with_reducible refine Grow.trans ?_ (by assumption)))) HR4.out).mono ?_); (rintro e w5 ⟨ml, rfl, hml, hb5⟩; obtain ⟨d0, d1, d2, d3⟩ := C0.out w5 (by (repeat (first | with_reducible exact Grow.refl _ | with_reducible refine Grow.alloc ?_ _ | with_reducible refine Grow.drew ?_ | with_reducible refine Grow.drewN ?_ _ | (with_reducible refine Grow.setCell ?_ ?hp _; (case hp => (simp; try omega))) | with_reducible refine Grow.trans ?_ (by assumption)))); obtain ⟨-, -, -, hz5, -⟩ := R0.out w5 (by (repeat (first | with_reducible exact Grow.refl _ | with_reducible refine Grow.alloc ?_ _ | with_reducible refine Grow.drew ?_ | with_reducible refine Grow.drewN ?_ _ | (with_reducible refine Grow.setCell ?_ ?hp _; (case hp => (simp; try omega))) | with_reducible refine Grow.trans ?_ (by assumption)))); have hz5b : w.heap.size + 1 < w5.heap.size := (by omega); have hz5c : w.heap.size < w5.heap.size := (by omega)))
    | (go_at_call 68; (with_reducible refine (SQ.out _ _ (hmp.grow hb5)).mono ?_); (rintro e w7 ⟨m7, rfl, hm7, hb7⟩; obtain ⟨a7, c7, rfl⟩ := hm7.form; generalize (if Q' = 0 then 0 else 1) = l7 at hm7 ⊢; have HM7 := Lib.hid hm7; clear hm7))
    | (go_at_call 68; (with_reducible refine (SR.out _ _ (hml.grow hb7)).mono ?_); (rintro e w8 ⟨m8, rfl, hm8, hb8⟩; obtain ⟨a8, c8, rfl⟩ := hm8.form; generalize (if R' = 0 then 0 else 1) = l8 at hm8 ⊢; have HM8 := Lib.hid hm8; clear hm8; obtain ⟨⟨q0, q1, qf, q2, q3, qg⟩, NA, NB, hz8, HB8⟩ := R0.out w8 (by (repeat (first | with_reducible exact Grow.refl _ | with_reducible refine Grow.alloc ?_ _ | with_reducible refine Grow.drew ?_ | with_reducible refine Grow.drewN ?_ _ | (with_reducible refine Grow.setCell ?_ ?hp _; (case hp => (simp; try omega))) | with_reducible refine Grow.trans ?_ (by assumption)))); have NU1 := Lib.hid NA; have NU2 := Lib.hid NB; have HB := Lib.hid HB8; have HM9 := Lib.hid (HM7.out.grow hb8); have hz8a : w.heap.size + 1 + 1 < w8.heap.size := (by omega); clear NA NB HB8)))
  (try simp only [Exit.inBlock, Exit.then])
  refine bodyPost_ret (v := .tuple #[.agg #[.bool D, .slice a7 l7 c7], .agg #[.bool false, .slice a8 l8 c8], .int .i64 0]) (by rw [results_cct rfl]; go_simp) rfl ⟨_, _, rfl, HM9.out.set22 NU1.out NU2.out _ _ _ _ _ _ _ _, HM8.out.set22 NU1.out NU2.out _ _ _ _ _ _ _ _, by have h9 := HB.out; (repeat (first | with_reducible exact Grow.refl _ | with_reducible refine Grow.alloc ?_ _ | with_reducible refine Grow.drew ?_ | with_reducible refine Grow.drewN ?_ _ | (with_reducible refine Grow.setCell ?_ ?hp _; (case hp => (simp; try omega))) | with_reducible refine Grow.trans ?_ (by assumption)))⟩
end Go.Proofs.YtbpkfcohbefphaaGreat
/- Walks over integers: DivMod, Exact. -/
namespace Go.Proofs.YtbpkfcohbefphaaGreat
open Go Go.RowKit

theorem divmod_any (z1 z2 : Int) (m1 m2 : Value) (h0 : z2 ≠ 0) (w : World) (h1 : MagR w m1 z1.natAbs) (h2 : MagR w m2 z2.natAbs) :
    Calls Tryz.prog 103 #[.agg #[.bool (sgB z1), m1], .agg #[.bool (sgB z2), m2]] w fun e w' => ∃ q r, e = .returned (.tuple #[.agg #[.bool (sgB (z1 / z2)), q], .agg #[.bool false, r], .int .i64 0]) ∧ MagR w' q (z1 / z2).natAbs ∧ MagR w' r (z1 % z2).natAbs ∧ Grow w w' := by
  have hn : 0 < z2.natAbs := by omega
  by_cases hz : z1 < 0
  · have e1 : sgB z1 = true := by simp [sgB, hz]
    have e2 : (!(sgB z1 == sgB z2)) = !(sgB z2) := by rw [e1]; cases sgB z2 <;> rfl
    by_cases hR : z1.natAbs % z2.natAbs = 0
    · obtain ⟨f1, f2, f3⟩ := div_plain (z1 := z1) hn (fun h => h.2 hR)
      rw [e2] at f3
      have := dm_zero (sgB z2) _ _ m1 m2 hn hR w h1 h2
      rw [f3] at this
      rw [f1, f2, e1]
      exact this
    · obtain ⟨f1, f2, f3⟩ := div_low (z1 := z1) hn ⟨hz, hR⟩
      rw [e2] at f3
      have := dm_low (sgB z2) _ _ m1 m2 hn hR w h1 h2
      rw [f3] at this
      rw [f1, f2, e1]
      exact this
  · have e1 : sgB z1 = false := by simp [sgB]; omega
    have e2 : (!(sgB z1 == sgB z2)) = sgB z2 := by rw [e1]; cases sgB z2 <;> rfl
    obtain ⟨f1, f2, f3⟩ := div_plain (z1 := z1) hn (fun h => hz h.1)
    rw [e2] at f3
    have := dm_pos (sgB z2) _ _ m1 m2 hn w h1 h2
    rw [f3] at this
    rw [f1, f2, e1]
    exact this
set_option maxRecDepth 20000 in
set_option maxHeartbeats 4000000 in
theorem exact_any (z1 z2 : Int) (m1 m2 : Value) (h0 : z2 ≠ 0) (hd : z2 ∣ z1) (w : World) (h1 : MagR w m1 z1.natAbs) (h2 : MagR w m2 z2.natAbs) :
    Calls Tryz.prog 76 #[.agg #[.bool (sgB z1), m1], .agg #[.bool (sgB z2), m2]] w fun e w' => ∃ m, e = .returned (.tuple #[.agg #[.bool (sgB (z1 / z2)), m], .int .i64 0]) ∧ MagR w' m (z1 / z2).natAbs ∧ Grow w w' := by
  have DM := Lib.hid (fun u hu => divmod_any z1 z2 m1 m2 h0 u (h1.grow hu) (h2.grow hu))
  have hr : (z1 % z2).natAbs = 0 := by rw [Int.emod_eq_zero_of_dvd hd]; rfl
  rw [hr] at DM
  obtain ⟨s1, hs1⟩ : ∃ s1, sgB z1 = s1 := ⟨_, rfl⟩
  obtain ⟨s2, hs2⟩ : ∃ s2, sgB z2 = s2 := ⟨_, rfl⟩
  obtain ⟨D, hD⟩ : ∃ D, sgB (z1 / z2) = D := ⟨_, rfl⟩
  obtain ⟨n, hn⟩ : ∃ n, (z1 / z2).natAbs = n := ⟨_, rfl⟩
  rw [hs1, hs2, hD, hn] at DM
  rw [hs1, hs2, hD, hn]
  obtain ⟨a1, c1, rfl⟩ := h1.form
  obtain ⟨a2, c2, rfl⟩ := h2.form
  generalize (if z1.natAbs = 0 then 0 else 1) = l1 at *
  generalize (if z2.natAbs = 0 then 0 else 1) = l2 at *
  clear hs1 hs2 hD hn h1 h2 hr hd h0
  go_enter Tryz.func76, Tryz.ntmps76
  go_wp2_with fail
  have c0 : ∀ u : World, Grow (((w.alloc (.cells #[.bool s1, .slice a1 l1 c1] 34)).alloc (.cells #[.bool s2, .slice a2 l2 c2] 34)).alloc (.cells #[.bool false, .slice none 0 0] 34)) u → u.cell? ⟨w.heap.size, 0, none⟩ = some (.bool s1) ∧ u.cell? ⟨w.heap.size, 1, none⟩ = some (.slice a1 l1 c1) ∧ u.cell? ⟨w.heap.size + 1, 0, none⟩ = some (.bool s2) ∧ u.cell? ⟨w.heap.size + 1, 1, none⟩ = some (.slice a2 l2 c2) := by
    intro u hg
    refine ⟨(hg.cells _ _ (by (try simp); try omega)).trans ?_, (hg.cells _ _ (by (try simp); try omega)).trans ?_, (hg.cells _ _ (by (try simp); try omega)).trans ?_, (hg.cells _ _ (by (try simp); try omega)).trans ?_⟩ <;> go_simp
  have C0 := Lib.hid c0
  have r0 : ∀ u : World, Grow (((w.alloc (.cells #[.bool s1, .slice a1 l1 c1] 34)).alloc (.cells #[.bool s2, .slice a2 l2 c2] 34)).alloc (.cells #[.bool false, .slice none 0 0] 34)) u → u.cell? ⟨w.heap.size + 1 + 1, 0, none⟩ = some (.bool false) ∧ u.cell? ⟨w.heap.size + 1 + 1, 1, none⟩ = some (.slice none 0 0) ∧ (∀ o, u.frozen? ⟨w.heap.size + 1 + 1, o, none⟩ = false) ∧ NoU u (w.heap.size + 1 + 1) ∧ w.heap.size + 1 + 1 < u.heap.size ∧ Grow w u := by
    intro u hg
    have hz := hg.size
    simp at hz
    refine ⟨(hg.cells _ _ (by simp)).trans ?_, (hg.cells _ _ (by simp)).trans ?_, fun o => (hg.frees _ _ (by simp)).trans ?_, ?_, by omega, Grow.trans (by (repeat (first | with_reducible exact Grow.refl _ | with_reducible refine Grow.alloc ?_ _ | with_reducible refine Grow.drew ?_ | with_reducible refine Grow.drewN ?_ _ | (with_reducible refine Grow.setCell ?_ ?hp _; (case hp => (simp; try omega))) | with_reducible refine Grow.trans ?_ (by assumption)))) hg⟩
    · go_simp
    · go_simp
    · go_simp
    · have h := NoU.alloc ((w.alloc (.cells #[.bool s1, .slice a1 l1 c1] 34)).alloc (.cells #[.bool s2, .slice a2 l2 c2] 34)) _ 34 (noU2 false none 0 0)
      simp at h
      exact h.grow (by simp) hg
  have R0 := Lib.hid r0
  clear c0 r0
  go_wp2_with (go_at_call 103; (with_reducible refine (DM.out _ (by (repeat (first | with_reducible exact Grow.refl _ | with_reducible refine Grow.alloc ?_ _ | with_reducible refine Grow.drew ?_ | with_reducible refine Grow.drewN ?_ _ | (with_reducible refine Grow.setCell ?_ ?hp _; (case hp => (simp; try omega))) | with_reducible refine Grow.trans ?_ (by assumption))))).mono ?_); (rintro e w3 ⟨mq, mr, rfl, hmq, hmr, hb3⟩; obtain ⟨aq, cq, rfl⟩ := hmq.form; generalize (if n = 0 then 0 else 1) = lq at hmq ⊢; obtain ⟨ar, cr, rfl⟩ := hmr.form; rw [if_pos rfl]; obtain ⟨q0, q1, qf, NU7, hz7, HB7⟩ := R0.out w3 (by (repeat (first | with_reducible exact Grow.refl _ | with_reducible refine Grow.alloc ?_ _ | with_reducible refine Grow.drew ?_ | with_reducible refine Grow.drewN ?_ _ | (with_reducible refine Grow.setCell ?_ ?hp _; (case hp => (simp; try omega))) | with_reducible refine Grow.trans ?_ (by assumption)))); have NU := Lib.hid NU7; have HB := Lib.hid HB7; have HMQ := Lib.hid hmq; have hz7c : w.heap.size + 1 + 1 < w3.heap.size + 1 := (by omega); have hz7d : w.heap.size + 1 + 1 < w3.heap.size + 1 + 1 := (by omega); clear NU7 HB7 hmq hmr))
  (try simp only [Exit.inBlock, Exit.then])
  refine bodyPost_ret (v := .tuple #[.agg #[.bool D, .slice aq lq cq], .int .i64 0]) (by rw [results_cell_tmp rfl]; go_simp) rfl ⟨_, rfl, ?_, by have h9 := HB.out; (repeat (first | with_reducible exact Grow.refl _ | with_reducible refine Grow.alloc ?_ _ | with_reducible refine Grow.drew ?_ | with_reducible refine Grow.drewN ?_ _ | (with_reducible refine Grow.setCell ?_ ?hp _; (case hp => (simp; try omega))) | with_reducible refine Grow.trans ?_ (by assumption)))⟩
  exact (HMQ.out.set2 NU.out _ _ _ _).grow (Grow.alloc (Grow.alloc (Grow.refl _) _) _)
end Go.Proofs.YtbpkfcohbefphaaGreat
/- Walks over fractions: boxes of integers, one, over. -/
namespace Go.Proofs.YtbpkfcohbefphaaGreat
open Go Go.RowKit

set_option maxRecDepth 20000 in
set_option maxHeartbeats 4000000 in
theorem one_any (z : Int) (m : Value) (w : World) (h : MagR w m z.natAbs) :
    Calls Tryz.prog 57 #[.agg #[.bool (sgB z), m]] w fun e w' => e = .returned (.bool (decide (z = 1))) ∧ Grow w w' := by
  obtain ⟨R, hR⟩ : ∃ R, decide (z = 1) = R := ⟨_, rfl⟩
  obtain ⟨s, hs⟩ : ∃ s, sgB z = s := ⟨_, rfl⟩
  rw [hR, hs]
  rcases h with ⟨h0, a, c, rfl⟩ | ⟨h0, h1, b, off, cap, rfl, hk, hb, hc⟩
  · have e1 : R = false := by rw [← hR]; simp; omega
    subst e1
    clear hR hs h0
    go_enter Tryz.func57, Tryz.ntmps57
    go_wp2
    go_ret
    exact ⟨rfl, by (repeat (first | with_reducible exact Grow.refl _ | with_reducible refine Grow.alloc ?_ _ | with_reducible refine Grow.drew ?_ | with_reducible refine Grow.drewN ?_ _ | (with_reducible refine Grow.setCell ?_ ?hp _; (case hp => (simp; try omega))) | with_reducible refine Grow.trans ?_ (by assumption)))⟩
  · by_cases hn : z.natAbs = 1
    · rw [hn] at hc
      have e1 : R = !s := by rw [← hR, ← hs]; simp [sgB]; by_cases h : z < 0 <;> simp [h] <;> omega
      subst e1
      clear hR hs h0 h1 hn
      go_enter Tryz.func57, Tryz.ntmps57
      go_wp2
      go_ret
      exact ⟨rfl, by (repeat (first | with_reducible exact Grow.refl _ | with_reducible refine Grow.alloc ?_ _ | with_reducible refine Grow.drew ?_ | with_reducible refine Grow.drewN ?_ _ | (with_reducible refine Grow.setCell ?_ ?hp _; (case hp => (simp; try omega))) | with_reducible refine Grow.trans ?_ (by assumption)))⟩
    · have e1 : R = false := by rw [← hR]; simp; omega
      subst e1
      obtain ⟨n, hn'⟩ : ∃ n, z.natAbs = n := ⟨_, rfl⟩
      rw [hn'] at hc hn
      have e2 : ((n : Int) == 1) = false := by simp; omega
      clear hR hs h0 h1 hn hn'
      go_enter Tryz.func57, Tryz.ntmps57
      go_wp2
      go_ret
      exact ⟨rfl, by (repeat (first | with_reducible exact Grow.refl _ | with_reducible refine Grow.alloc ?_ _ | with_reducible refine Grow.drew ?_ | with_reducible refine Grow.drewN ?_ _ | (with_reducible refine Grow.setCell ?_ ?hp _; (case hp => (simp; try omega))) | with_reducible refine Grow.trans ?_ (by assumption)))⟩

/-- Two cells written. -/
def st2 (u : World) (b : Nat) (s : Bool) (m : Value) : World := (u.setCell ⟨b, 0, none⟩ (.bool s)).setCell ⟨b, 1, none⟩ m
theorem NoU.set {w : World} {B : Nat} (h : NoU w B) (p : Addr) (v : Value) (hv : ∀ k x, v ≠ .int k x) (hp : (w.cell? p).isSome = true) : NoU (w.setCell p v) B := fun o k x => by
  by_cases hpo : p = ⟨B, o, none⟩
  · subst hpo
    obtain ⟨y, hc⟩ := Option.isSome_iff_exists.1 hp
    rw [World.cell?_setCell_same _ _ _ hc]
    intro hx
    exact hv k x (by injection hx)
  · rw [World.cell?_setCell_other _ _ _ _ hpo]; exact h o k x
/-- The box b holds the integer z. -/
def BxV (u : World) (b : Nat) (z : Int) : Prop :=
  b < u.heap.size ∧ NoU u b ∧ (∀ o, u.frozen? ⟨b, o, none⟩ = false) ∧ ∃ a l c, u.cell? ⟨b, 0, none⟩ = some (.bool (sgB z)) ∧ u.cell? ⟨b, 1, none⟩ = some (.slice a l c) ∧ MagR u (.slice a l c) z.natAbs
theorem BxV.grow {u u' : World} {b : Nat} {z : Int} (h : BxV u b z) (hg : Grow u u') : BxV u' b z := by
  obtain ⟨h1, h2, h3, a, l, c, h4, h5, h6⟩ := h
  exact ⟨Nat.lt_of_lt_of_le h1 hg.size, h2.grow h1 hg, fun o => (hg.frees _ _ h1).trans (h3 o), a, l, c, (hg.cells _ _ h1).trans h4, (hg.cells _ _ h1).trans h5, h6.grow hg⟩
theorem BxV.put {u : World} {b : Nat} {z0 z : Int} {a l c} (h : BxV u b z0) (hm : MagR u (.slice a l c) z.natAbs) : BxV (st2 u b (sgB z) (.slice a l c)) b z := by
  obtain ⟨h1, h2, h3, a', l', c', h4, h5, -⟩ := h
  refine ⟨by simpa [st2, World.setCell] using h1, (h2.set _ _ (by simp) (by rw [h4]; rfl)).set _ _ (by simp) (by rw [World.cell?_setCell_other _ _ _ _ (by simp), h5]; rfl), fun o => by simpa [st2] using h3 o, a, l, c, ?_, ?_, hm.set2 h2 _ _ _ _⟩
  · unfold st2; rw [World.cell?_setCell_other _ _ _ _ (by simp), World.cell?_setCell_same _ _ _ h4]
  · unfold st2; exact World.cell?_setCell_same _ _ _ (by rw [World.cell?_setCell_other _ _ _ _ (by simp)]; exact h5)
theorem BxV.off {u : World} {b B : Nat} {z : Int} (s : Bool) (m : Value) (h : BxV u b z) (hB : NoU u B) (hne : B ≠ b) : BxV (st2 u B s m) b z := by
  obtain ⟨h1, h2, h3, a, l, c, h4, h5, h6⟩ := h
  have hc : ∀ o, (st2 u B s m).cell? ⟨b, o, none⟩ = u.cell? ⟨b, o, none⟩ := fun o => by
    unfold st2; rw [World.cell?_setCell_other _ _ _ _ (by simp), World.cell?_setCell_other _ _ _ _ (by simp)]
  exact ⟨by simpa [st2, World.setCell] using h1, fun o k x => by rw [hc]; exact h2 o k x, fun o => by simpa [st2] using h3 o, a, l, c, (hc _).trans h4, (hc _).trans h5, h6.set2 hB _ _ _ _⟩
theorem BxV.lay {w : World} {z : Int} {a l c} (h : MagR w (.slice a l c) z.natAbs) (t : TypeId) : BxV (w.alloc (.cells #[.bool (sgB z), .slice a l c] t)) w.heap.size z := by
  refine ⟨by simp, NoU.alloc w _ t (noU2 _ _ _ _), fun o => ?_, a, l, c, ?_, ?_, h.grow ((Grow.refl w).alloc _)⟩
  · go_simp
  · go_simp
  · go_simp
/-- The result's cell of type Rat, not yet written. -/
def R4 (u : World) (b : Nat) : Prop :=
  b < u.heap.size ∧ NoU u b ∧ (∀ o, u.frozen? ⟨b, o, none⟩ = false) ∧ u.cell? ⟨b, 0, none⟩ = some (.bool false) ∧ u.cell? ⟨b, 1, none⟩ = some (.slice none 0 0) ∧ u.cell? ⟨b, 2, none⟩ = some (.bool false) ∧ u.cell? ⟨b, 3, none⟩ = some (.slice none 0 0)
theorem R4.grow {u u' : World} {b : Nat} (h : R4 u b) (hg : Grow u u') : R4 u' b := by
  obtain ⟨h1, h2, h3, h4, h5, h6, h7⟩ := h
  exact ⟨Nat.lt_of_lt_of_le h1 hg.size, h2.grow h1 hg, fun o => (hg.frees _ _ h1).trans (h3 o), (hg.cells _ _ h1).trans h4, (hg.cells _ _ h1).trans h5, (hg.cells _ _ h1).trans h6, (hg.cells _ _ h1).trans h7⟩
theorem R4.off {u : World} {b B : Nat} (s : Bool) (m : Value) (h : R4 u b) (hne : B ≠ b) : R4 (st2 u B s m) b := by
  obtain ⟨h1, h2, h3, h4, h5, h6, h7⟩ := h
  have hc : ∀ o, (st2 u B s m).cell? ⟨b, o, none⟩ = u.cell? ⟨b, o, none⟩ := fun o => by
    unfold st2; rw [World.cell?_setCell_other _ _ _ _ (by simp), World.cell?_setCell_other _ _ _ _ (by simp)]
  exact ⟨by simpa [st2, World.setCell] using h1, fun o k x => by rw [hc]; exact h2 o k x, fun o => by simpa [st2] using h3 o, (hc _).trans h4, (hc _).trans h5, (hc _).trans h6, (hc _).trans h7⟩
theorem R4.lay (w : World) (t : TypeId) : R4 (w.alloc (.cells #[.bool false, .slice none 0 0, .bool false, .slice none 0 0] t)) w.heap.size := by
  refine ⟨by simp, NoU.alloc w _ t (noU4 _ _ _ _ _ _ _ _), fun o => ?_, ?_, ?_, ?_, ?_⟩ <;> go_simp
/-- over's memory. -/
def OvS (w : World) (n d : Int) (u : World) : Prop := Grow w u ∧ BxV u w.heap.size n ∧ BxV u (w.heap.size + 1) d ∧ R4 u (w.heap.size + 1 + 1)
theorem OvS.grow {w u u' : World} {n d : Int} (h : OvS w n d u) (hg : Grow u u') : OvS w n d u' := ⟨h.1.trans hg, h.2.1.grow hg, h.2.2.1.grow hg, h.2.2.2.grow hg⟩
theorem Grow.st2 {w u : World} (h : Grow w u) {b : Nat} (hb : w.heap.size ≤ b) (s : Bool) (m : Value) : Grow w (st2 u b s m) := Grow.setCell (Grow.setCell h hb _) hb _
theorem OvS.put1 {w u : World} {n0 d n : Int} {a l c} (h : OvS w n0 d u) (hm : MagR u (.slice a l c) n.natAbs) : OvS w n d (Go.Proofs.YtbpkfcohbefphaaGreat.st2 u w.heap.size (sgB n) (.slice a l c)) :=
  ⟨h.1.st2 (Nat.le_refl _) _ _, h.2.1.put hm, h.2.2.1.off _ _ h.2.1.2.1 (by omega), h.2.2.2.off _ _ (by omega)⟩
theorem OvS.put2 {w u : World} {n d0 d : Int} {a l c} (h : OvS w n d0 u) (hm : MagR u (.slice a l c) d.natAbs) : OvS w n d (Go.Proofs.YtbpkfcohbefphaaGreat.st2 u (w.heap.size + 1) (sgB d) (.slice a l c)) :=
  ⟨h.1.st2 (by omega) _ _, h.2.1.off _ _ h.2.2.1.2.1 (by omega), h.2.2.1.put hm, h.2.2.2.off _ _ (by omega)⟩
theorem OvS.put {w u : World} {n0 d0 n d : Int} {a l c a' l' c'} (h : OvS w n0 d0 u) (hm : MagR u (.slice a l c) n.natAbs) (hm' : MagR u (.slice a' l' c') d.natAbs) :
    OvS w n d ((((u.setCell ⟨w.heap.size, 0, none⟩ (.bool (sgB n))).setCell ⟨w.heap.size, 1, none⟩ (.slice a l c)).setCell ⟨w.heap.size + 1, 0, none⟩ (.bool (sgB d))).setCell ⟨w.heap.size + 1, 1, none⟩ (.slice a' l' c')) :=
  (h.put1 hm).put2 (hm'.set2 h.2.1.2.1 _ _ _ _)
theorem OvS.lay {w : World} {n d : Int} {a l c a' l' c'} (h : MagR w (.slice a l c) n.natAbs) (h' : MagR w (.slice a' l' c') d.natAbs) (t t' t'' : TypeId) :
    OvS w n d (((w.alloc (.cells #[.bool (sgB n), .slice a l c] t)).alloc (.cells #[.bool (sgB d), .slice a' l' c'] t')).alloc (.cells #[.bool false, .slice none 0 0, .bool false, .slice none 0 0] t'')) := by
  have g1 := (Grow.refl w).alloc (.cells #[.bool (sgB n), .slice a l c] t)
  have k1 := BxV.lay h t
  have k2 := BxV.lay (h'.grow g1) t'
  have k3 := R4.lay ((w.alloc (.cells #[.bool (sgB n), .slice a l c] t)).alloc (.cells #[.bool (sgB d), .slice a' l' c'] t')) t''
  simp only [World.size_alloc] at k2 k3
  have g2 := (Grow.refl (w.alloc (.cells #[.bool (sgB n), .slice a l c] t))).alloc (.cells #[.bool (sgB d), .slice a' l' c'] t')
  have g3 := (Grow.refl ((w.alloc (.cells #[.bool (sgB n), .slice a l c] t)).alloc (.cells #[.bool (sgB d), .slice a' l' c'] t'))).alloc (.cells #[.bool false, .slice none 0 0, .bool false, .slice none 0 0] t'')
  exact ⟨(g1.trans g2).trans g3, (k1.grow g2).grow g3, k2.grow g3, k3⟩
/-- What the walk reads of it, in every grown world. -/
def OvC (w : World) (s1 s2 : Bool) (a1 : Option Addr) (l1 c1 : Nat) (a2 : Option Addr) (l2 c2 : Nat) (u : World) : Prop :=
  u.cell? ⟨w.heap.size, 0, none⟩ = some (.bool s1) ∧ u.cell? ⟨w.heap.size, 1, none⟩ = some (.slice a1 l1 c1) ∧ u.cell? ⟨w.heap.size + 1, 0, none⟩ = some (.bool s2) ∧ u.cell? ⟨w.heap.size + 1, 1, none⟩ = some (.slice a2 l2 c2) ∧
  (∀ o, u.frozen? ⟨w.heap.size, o, none⟩ = false) ∧ (∀ o, u.frozen? ⟨w.heap.size + 1, o, none⟩ = false) ∧ (∀ o, u.frozen? ⟨w.heap.size + 1 + 1, o, none⟩ = false) ∧
  u.cell? ⟨w.heap.size + 1 + 1, 0, none⟩ = some (.bool false) ∧ u.cell? ⟨w.heap.size + 1 + 1, 1, none⟩ = some (.slice none 0 0) ∧ u.cell? ⟨w.heap.size + 1 + 1, 2, none⟩ = some (.bool false) ∧ u.cell? ⟨w.heap.size + 1 + 1, 3, none⟩ = some (.slice none 0 0) ∧ w.heap.size + 1 + 1 < u.heap.size
theorem OvS.read {w u : World} {n d : Int} (h : OvS w n d u) : ∃ a1 l1 c1 a2 l2 c2, MagR u (.slice a1 l1 c1) n.natAbs ∧ MagR u (.slice a2 l2 c2) d.natAbs ∧ ∀ u', Grow u u' → OvC w (sgB n) (sgB d) a1 l1 c1 a2 l2 c2 u' := by
  obtain ⟨h0, ⟨p1, -, p3, a1, l1, c1, p4, p5, p6⟩, ⟨q1, -, q3, a2, l2, c2, q4, q5, q6⟩, ⟨r1, -, r3, r4, r5, r6, r7⟩⟩ := h
  refine ⟨a1, l1, c1, a2, l2, c2, p6, q6, fun u' hg => ⟨(hg.cells _ _ p1).trans p4, (hg.cells _ _ p1).trans p5, (hg.cells _ _ q1).trans q4, (hg.cells _ _ q1).trans q5, fun o => (hg.frees _ _ p1).trans (p3 o), fun o => (hg.frees _ _ q1).trans (q3 o), fun o => (hg.frees _ _ r1).trans (r3 o), (hg.cells _ _ r1).trans r4, (hg.cells _ _ r1).trans r5, (hg.cells _ _ r1).trans r6, (hg.cells _ _ r1).trans r7, Nat.lt_of_lt_of_le r1 hg.size⟩⟩
theorem OvC.lay (w : World) (s1 s2 : Bool) (a1 : Option Addr) (l1 c1 : Nat) (a2 : Option Addr) (l2 c2 : Nat) (t t' t'' : TypeId) (u' : World)
    (hg : Grow (((w.alloc (.cells #[.bool s1, .slice a1 l1 c1] t)).alloc (.cells #[.bool s2, .slice a2 l2 c2] t')).alloc (.cells #[.bool false, .slice none 0 0, .bool false, .slice none 0 0] t'')) u') : OvC w s1 s2 a1 l1 c1 a2 l2 c2 u' := by
  have hz := hg.size
  simp at hz
  refine ⟨(hg.cells _ _ (by simp; try omega)).trans ?_, (hg.cells _ _ (by simp; try omega)).trans ?_, (hg.cells _ _ (by simp; try omega)).trans ?_, (hg.cells _ _ (by simp; try omega)).trans ?_, fun o => (hg.frees _ _ (by simp; try omega)).trans ?_, fun o => (hg.frees _ _ (by simp; try omega)).trans ?_, fun o => (hg.frees _ _ (by simp; try omega)).trans ?_, (hg.cells _ _ (by simp; try omega)).trans ?_, (hg.cells _ _ (by simp; try omega)).trans ?_, (hg.cells _ _ (by simp; try omega)).trans ?_, (hg.cells _ _ (by simp; try omega)).trans ?_, by omega⟩ <;> go_simp
theorem OvS.nou {w u u' : World} {n d : Int} (h : OvS w n d u) (hg : Grow u u') : NoU u' (w.heap.size + 1 + 1) := h.2.2.2.2.1.grow h.2.2.2.1 hg
theorem MagR.len0 {u : World} {a l c} (h : MagR u (.slice a l c) 0) : l = 0 := by
  rcases h with ⟨-, a', c', h⟩ | ⟨h, -⟩
  · injection h
  · omega
theorem MagR.len1 {u : World} {a l c n} (h : MagR u (.slice a l c) n) (hn : n ≠ 0) : l = 1 := by
  rcases h with ⟨h0, -⟩ | ⟨-, -, b, o, c', h, -⟩
  · exact absurd h0 hn
  · injection h
/-- The value v is the fraction x. -/
def RatR (w : World) (v : Value) (x : Rat) : Prop := ∃ m1 m2, v = .agg #[.bool (sgB x.num), m1, .bool false, m2] ∧ MagR w m1 x.num.natAbs ∧ MagR w m2 x.den
theorem RatR.grow {w w' : World} {v : Value} {x : Rat} (h : RatR w v x) (hg : Grow w w') : RatR w' v x := by
  obtain ⟨m1, m2, hv, h1, h2⟩ := h
  exact ⟨m1, m2, hv, h1.grow hg, h2.grow hg⟩
/-- A fraction's fields in lowest terms. -/
theorem divInt_low {n d : Int} (hd : 0 < d) : (Rat.divInt n d).num = n / (Int.gcd n d : Int) ∧ ((Rat.divInt n d).den : Int) = d / (Int.gcd n d : Int) := by
  constructor
  · rw [Rat.num_divInt, Int.sign_eq_one_of_pos hd, Int.one_mul, Int.gcd_comm]
  · rw [Rat.den_divInt, if_neg (by omega), Int.gcd_comm]
    have : (d.natAbs : Int) = d := by omega
    rw [Int.natCast_ediv, this]
theorem RatR.mk {w : World} {n d : Int} {X : Rat} {m1 m2 : Value} (g : Nat) (hd : 0 < d) (hX : Rat.divInt n d = X) (hg : Int.gcd n d = g) (h1 : MagR w m1 (n / (g : Int)).natAbs) (h2 : MagR w m2 (d / (g : Int)).natAbs) :
    RatR w (.agg #[.bool (sgB (n / (g : Int))), m1, .bool false, m2]) X := by
  obtain ⟨e1, e2⟩ := divInt_low (n := n) hd
  rw [hX, hg] at e1 e2
  have e3 : X.den = (d / (g : Int)).natAbs := by omega
  exact ⟨m1, m2, by rw [e1], by rw [e1]; exact h1, by rw [e3]; exact h2⟩
theorem OvC.grow {w : World} {s1 s2 : Bool} {a1 : Option Addr} {l1 c1 : Nat} {a2 : Option Addr} {l2 c2 : Nat} {u u' : World} (h : OvC w s1 s2 a1 l1 c1 a2 l2 c2 u) (hg : Grow u u') : OvC w s1 s2 a1 l1 c1 a2 l2 c2 u' := by
  obtain ⟨h1, h2, h3, h4, f1, f2, f3, r1, r2, r3, r4, hz⟩ := h
  have hs := hg.size
  exact ⟨(hg.cells _ _ (by omega)).trans h1, (hg.cells _ _ (by omega)).trans h2, (hg.cells _ _ (by omega)).trans h3, (hg.cells _ _ (by omega)).trans h4, fun o => (hg.frees _ _ (by omega)).trans (f1 o), fun o => (hg.frees _ _ (by omega)).trans (f2 o), fun o => (hg.frees _ _ (by omega)).trans (f3 o), (hg.cells _ _ (by omega)).trans r1, (hg.cells _ _ (by omega)).trans r2, (hg.cells _ _ (by omega)).trans r3, (hg.cells _ _ (by omega)).trans r4, by omega⟩
theorem OvC.put1 {w : World} {s1 s2 : Bool} {a1 : Option Addr} {l1 c1 : Nat} {a2 : Option Addr} {l2 c2 : Nat} {u : World} (h : OvC w s1 s2 a1 l1 c1 a2 l2 c2 u) (s : Bool) (a : Option Addr) (l c : Nat) :
    OvC w s s2 a l c a2 l2 c2 ((u.setCell ⟨w.heap.size, 0, none⟩ (.bool s)).setCell ⟨w.heap.size, 1, none⟩ (.slice a l c)) := by
  obtain ⟨h1, h2, h3, h4, f1, f2, f3, r1, r2, r3, r4, hz⟩ := h
  refine ⟨?_, ?_, ?_, ?_, fun o => ?_, fun o => ?_, fun o => ?_, ?_, ?_, ?_, ?_, ?_⟩ <;> go_simp
theorem OvC.put2 {w : World} {s1 s2 : Bool} {a1 : Option Addr} {l1 c1 : Nat} {a2 : Option Addr} {l2 c2 : Nat} {u : World} (h : OvC w s1 s2 a1 l1 c1 a2 l2 c2 u) (s : Bool) (a : Option Addr) (l c : Nat) :
    OvC w s1 s a1 l1 c1 a l c ((u.setCell ⟨w.heap.size + 1, 0, none⟩ (.bool s)).setCell ⟨w.heap.size + 1, 1, none⟩ (.slice a l c)) := by
  obtain ⟨h1, h2, h3, h4, f1, f2, f3, r1, r2, r3, r4, hz⟩ := h
  refine ⟨?_, ?_, ?_, ?_, fun o => ?_, fun o => ?_, fun o => ?_, ?_, ?_, ?_, ?_, ?_⟩ <;> go_simp
theorem gbx (u : World) (s : Bool) (a : Option Addr) (l c : Nat) (t : TypeId) (u' : World) (hg : Grow (u.alloc (.cells #[.bool s, .slice a l c] t)) u') :
    u'.cell? ⟨u.heap.size, 0, none⟩ = some (.bool s) ∧ u'.cell? ⟨u.heap.size, 1, none⟩ = some (.slice a l c) ∧ u.heap.size < u'.heap.size := by
  have hz := hg.size
  simp at hz
  refine ⟨(hg.cells _ _ (by simp)).trans ?_, (hg.cells _ _ (by simp)).trans ?_, by omega⟩ <;> go_simp
theorem NoU.off {u : World} {B b : Nat} (h : NoU u b) (hne : B ≠ b) (o1 o2 : Nat) (v1 v2 : Value) : NoU ((u.setCell ⟨B, o1, none⟩ v1).setCell ⟨B, o2, none⟩ v2) b := fun o k x => by
  rw [World.cell?_setCell_far _ _ _ _ hne, World.cell?_setCell_far _ _ _ _ hne]; exact h o k x
theorem OvS.nou1 {w u u' : World} {n d : Int} (h : OvS w n d u) (hg : Grow u u') : NoU u' w.heap.size := h.2.1.2.1.grow h.2.1.1 hg
theorem OvS.nou2 {w u u' : World} {n d : Int} (h : OvS w n d u) (hg : Grow u u') : NoU u' (w.heap.size + 1) := h.2.2.1.2.1.grow h.2.2.1.1 hg
end Go.Proofs.YtbpkfcohbefphaaGreat
