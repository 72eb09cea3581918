/- Lemmas, plain laws and walks that the statement LwKronecker leans on (texts BiG, BiH, BiI, BiJ), conditions as each theorem says. -/
import Derived.Test.YtbpkfcohbefphaaGreatDoorTopKhG02

namespace Go.Proofs.YtbpkfcohbefphaaGreatDoor
open Go Go.RowKit
set_option maxRecDepth 20000 in
set_option maxHeartbeats 4000000 in
theorem add_same (s1 s2 : Bool) (n1 n2 : Nat) (m1 m2 : Value) (hs : s1 = s2) (h : n1 + n2 < 4294967296) (w : World) (h1 : MagR w m1 n1) (h2 : MagR w m2 n2) :
    Calls Tryz.prog 46 #[.agg #[.bool s1, m1], .bool s2, m2] w fun e w' => ∃ m, e = .returned (.agg #[.bool (s2 && decide (n1 + n2 ≠ 0)), m]) ∧ MagR w' m (n1 + n2) ∧ Grow w w' := by
  have e1 : (s1 == s2) = true := by simp [hs]
  have PL := Lib.hid (fun u hu => plus_any m1 m2 n1 n2 h u (h1.grow hu) (h2.grow hu))
  obtain ⟨n, hn⟩ : ∃ n, n1 + n2 = n := ⟨_, rfl⟩
  rw [hn] at PL ⊢
  have SG := Lib.hid (fun m u hu => signed_any s2 m n u hu)
  obtain ⟨D, hD⟩ : ∃ D, (s2 && decide (n ≠ 0)) = D := ⟨_, rfl⟩
  rw [hD] at SG ⊢
  have T1 := Lib.hid (fun u hu => trimmed_mag m1 n1 u (h1.grow hu))
  obtain ⟨a1, c1, rfl⟩ := h1.form
  obtain ⟨a2, c2, rfl⟩ := h2.form
  generalize (if n1 = 0 then 0 else 1) = l1 at *
  generalize (if n2 = 0 then 0 else 1) = l2 at *
  clear hs h h1 h2 hn hD
  go_enter Tryz.func46, Tryz.ntmps46
  have c0 : ∀ u : World, Grow ((w.alloc (.cells #[.bool s1, .slice a1 l1 c1] 25)).alloc (.cells #[.bool false, .slice none 0 0] 25)) u → u.cell? ⟨w.heap.size, 0, none⟩ = some (.bool s1) ∧ u.cell? ⟨w.heap.size, 1, none⟩ = some (.slice a1 l1 c1) := by
    intro u hg
    refine ⟨(hg.cells _ _ (by (try simp); try omega)).trans ?_, (hg.cells _ _ (by (try simp); try omega)).trans ?_⟩ <;> go_simp
  have C0 := Lib.hid c0
  have r0 : ∀ u : World, Grow ((w.alloc (.cells #[.bool s1, .slice a1 l1 c1] 25)).alloc (.cells #[.bool false, .slice none 0 0] 25)) u → u.cell? ⟨w.heap.size + 1, 0, none⟩ = some (.bool false) ∧ u.cell? ⟨w.heap.size + 1, 1, none⟩ = some (.slice none 0 0) ∧ (∀ o, u.frozen? ⟨w.heap.size + 1, o, none⟩ = false) ∧ NoU u (w.heap.size + 1) ∧ w.heap.size + 1 < u.heap.size ∧ Grow w u := by
    intro u hg
    have hz := hg.size
    simp at hz
    refine ⟨(hg.cells _ _ (by simp)).trans ?_, (hg.cells _ _ (by simp)).trans ?_, fun o => (hg.frees _ _ (by simp)).trans ?_, ?_, by omega, Grow.trans (by (repeat (first | with_reducible exact Grow.refl _ | with_reducible refine Grow.alloc ?_ _ | with_reducible refine Grow.drew ?_ | with_reducible refine Grow.drewN ?_ _ | (with_reducible refine Grow.setCell ?_ ?hp _; (case hp => (simp; try omega))) | with_reducible refine Grow.trans ?_ (by assumption)))) hg⟩
    · go_simp
    · go_simp
    · go_simp
    · have h := NoU.alloc (w.alloc (.cells #[.bool s1, .slice a1 l1 c1] 25)) _ 25 (noU2 false none 0 0)
      simp at h
      exact h.grow (by simp) hg
  have R0 := Lib.hid r0
  clear c0 r0
  go_wp2_with (first
    | (go_at_call 45; (with_reducible refine (T1.out _ (by (repeat (first | with_reducible exact Grow.refl _ | with_reducible refine Grow.alloc ?_ _ | with_reducible refine Grow.drew ?_ | with_reducible refine Grow.drewN ?_ _ | (with_reducible refine Grow.setCell ?_ ?hp _; (case hp => (simp; try omega))) | with_reducible refine Grow.trans ?_ (by assumption))))).mono ?_); (rintro e w2 ⟨rfl, rfl⟩))
    | (go_at_call 73; (with_reducible refine (PL.out _ (by (repeat (first | with_reducible exact Grow.refl _ | with_reducible refine Grow.alloc ?_ _ | with_reducible refine Grow.drew ?_ | with_reducible refine Grow.drewN ?_ _ | (with_reducible refine Grow.setCell ?_ ?hp _; (case hp => (simp; try omega))) | with_reducible refine Grow.trans ?_ (by assumption))))).mono ?_); (rintro e w4 ⟨m4, rfl, hm4, hb4⟩))
    | (go_at_call 43; (with_reducible refine (SG.out _ _ hm4).mono ?_); (rintro e w7 ⟨m7, rfl, hm7, hb7⟩; obtain ⟨a7, c7, rfl⟩ := hm7.form; generalize (if n = 0 then 0 else 1) = l7 at hm7 ⊢; have HM7 := Lib.hid hm7; clear hm7; obtain ⟨e0, e1⟩ := C0.out w7 (by (repeat (first | with_reducible exact Grow.refl _ | with_reducible refine Grow.alloc ?_ _ | with_reducible refine Grow.drew ?_ | with_reducible refine Grow.drewN ?_ _ | (with_reducible refine Grow.setCell ?_ ?hp _; (case hp => (simp; try omega))) | with_reducible refine Grow.trans ?_ (by assumption)))); obtain ⟨q0, q1, qf, NU7, hz7, HB7⟩ := R0.out w7 (by (repeat (first | with_reducible exact Grow.refl _ | with_reducible refine Grow.alloc ?_ _ | with_reducible refine Grow.drew ?_ | with_reducible refine Grow.drewN ?_ _ | (with_reducible refine Grow.setCell ?_ ?hp _; (case hp => (simp; try omega))) | with_reducible refine Grow.trans ?_ (by assumption)))); have NU := Lib.hid NU7; have HB := Lib.hid HB7; clear NU7 HB7)))
  (try simp only [Exit.inBlock, Exit.then])
  refine bodyPost_ret (v := .agg #[.bool D, .slice a7 l7 c7]) (by rw [results_one rfl]; go_simp) rfl ⟨_, rfl, HM7.out.set2 NU.out _ _ _ _, by have h9 := HB.out; (repeat (first | with_reducible exact Grow.refl _ | with_reducible refine Grow.alloc ?_ _ | with_reducible refine Grow.drew ?_ | with_reducible refine Grow.drewN ?_ _ | (with_reducible refine Grow.setCell ?_ ?hp _; (case hp => (simp; try omega))) | with_reducible refine Grow.trans ?_ (by assumption)))⟩
set_option maxRecDepth 20000 in
set_option maxHeartbeats 4000000 in
theorem add_ge (s1 s2 : Bool) (n1 n2 : Nat) (m1 m2 : Value) (hs : s1 ≠ s2) (h : n2 ≤ n1) (w : World) (h1 : MagR w m1 n1) (h2 : MagR w m2 n2) :
    Calls Tryz.prog 46 #[.agg #[.bool s1, m1], .bool s2, m2] w fun e w' => ∃ m, e = .returned (.agg #[.bool (s1 && decide (n1 - n2 ≠ 0)), m]) ∧ MagR w' m (n1 - n2) ∧ Grow w w' := by
  have e1 : (s1 == s2) = false := by simp [hs]
  have CP := Lib.hid (fun u hu => compare_any m1 m2 n1 n2 u (h1.grow hu) (h2.grow hu))
  obtain ⟨C, hC⟩ : ∃ C, cmpN n1 n2 = C := ⟨_, rfl⟩
  rw [hC] at CP
  have hC2 : 0 ≤ C := by rw [← hC]; unfold cmpN; (repeat' split) <;> omega
  have LS := Lib.hid (fun u hu => less_any m1 m2 n1 n2 (by omega) u (h1.grow hu) (h2.grow hu))
  obtain ⟨n, hn⟩ : ∃ n, n1 - n2 = n := ⟨_, rfl⟩
  rw [hn] at LS ⊢
  have SG := Lib.hid (fun m u hu => signed_any s1 m n u hu)
  obtain ⟨D, hD⟩ : ∃ D, (s1 && decide (n ≠ 0)) = D := ⟨_, rfl⟩
  rw [hD] at SG ⊢
  have T1 := Lib.hid (fun u hu => trimmed_mag m1 n1 u (h1.grow hu))
  obtain ⟨a1, c1, rfl⟩ := h1.form
  obtain ⟨a2, c2, rfl⟩ := h2.form
  generalize (if n1 = 0 then 0 else 1) = l1 at *
  generalize (if n2 = 0 then 0 else 1) = l2 at *
  clear hs h h1 h2 hn hD hC
  go_enter Tryz.func46, Tryz.ntmps46
  have c0 : ∀ u : World, Grow ((w.alloc (.cells #[.bool s1, .slice a1 l1 c1] 25)).alloc (.cells #[.bool false, .slice none 0 0] 25)) u → u.cell? ⟨w.heap.size, 0, none⟩ = some (.bool s1) ∧ u.cell? ⟨w.heap.size, 1, none⟩ = some (.slice a1 l1 c1) := by
    intro u hg
    refine ⟨(hg.cells _ _ (by (try simp); try omega)).trans ?_, (hg.cells _ _ (by (try simp); try omega)).trans ?_⟩ <;> go_simp
  have C0 := Lib.hid c0
  have r0 : ∀ u : World, Grow ((w.alloc (.cells #[.bool s1, .slice a1 l1 c1] 25)).alloc (.cells #[.bool false, .slice none 0 0] 25)) u → u.cell? ⟨w.heap.size + 1, 0, none⟩ = some (.bool false) ∧ u.cell? ⟨w.heap.size + 1, 1, none⟩ = some (.slice none 0 0) ∧ (∀ o, u.frozen? ⟨w.heap.size + 1, o, none⟩ = false) ∧ NoU u (w.heap.size + 1) ∧ w.heap.size + 1 < u.heap.size ∧ Grow w u := by
    intro u hg
    have hz := hg.size
    simp at hz
    refine ⟨(hg.cells _ _ (by simp)).trans ?_, (hg.cells _ _ (by simp)).trans ?_, fun o => (hg.frees _ _ (by simp)).trans ?_, ?_, by omega, Grow.trans (by (repeat (first | with_reducible exact Grow.refl _ | with_reducible refine Grow.alloc ?_ _ | with_reducible refine Grow.drew ?_ | with_reducible refine Grow.drewN ?_ _ | (with_reducible refine Grow.setCell ?_ ?hp _; (case hp => (simp; try omega))) | with_reducible refine Grow.trans ?_ (by assumption)))) hg⟩
    · go_simp
    · go_simp
    · go_simp
    · have h := NoU.alloc (w.alloc (.cells #[.bool s1, .slice a1 l1 c1] 25)) _ 25 (noU2 false none 0 0)
      simp at h
      exact h.grow (by simp) hg
  have R0 := Lib.hid r0
  clear c0 r0
  go_wp2_with (first
    | (go_at_call 45; (with_reducible refine (T1.out _ (by (repeat (first | with_reducible exact Grow.refl _ | with_reducible refine Grow.alloc ?_ _ | with_reducible refine Grow.drew ?_ | with_reducible refine Grow.drewN ?_ _ | (with_reducible refine Grow.setCell ?_ ?hp _; (case hp => (simp; try omega))) | with_reducible refine Grow.trans ?_ (by assumption))))).mono ?_); (rintro e w2 ⟨rfl, rfl⟩))
    | (go_at_call 74; (with_reducible refine (CP.out _ (by (repeat (first | with_reducible exact Grow.refl _ | with_reducible refine Grow.alloc ?_ _ | with_reducible refine Grow.drew ?_ | with_reducible refine Grow.drewN ?_ _ | (with_reducible refine Grow.setCell ?_ ?hp _; (case hp => (simp; try omega))) | with_reducible refine Grow.trans ?_ (by assumption))))).mono ?_); (rintro e w3 ⟨rfl, hb3⟩; obtain ⟨d0, d1⟩ := C0.out w3 (by (repeat (first | with_reducible exact Grow.refl _ | with_reducible refine Grow.alloc ?_ _ | with_reducible refine Grow.drew ?_ | with_reducible refine Grow.drewN ?_ _ | (with_reducible refine Grow.setCell ?_ ?hp _; (case hp => (simp; try omega))) | with_reducible refine Grow.trans ?_ (by assumption)))); have hz3 := hb3.size; (try simp at hz3); have hz3b : w.heap.size < w3.heap.size := (by omega))))
  go_region_held3 (fun u => u.cell? ⟨w.heap.size, 0, none⟩ = some (.bool s1) ∧ u.cell? ⟨w.heap.size, 1, none⟩ = some (.slice a1 l1 c1))
    (first | (refine ⟨?_, ?_⟩ <;> (go_simp; done)) | exact C0.out _ (by (repeat (first | with_reducible exact Grow.refl _ | with_reducible refine Grow.alloc ?_ _ | with_reducible refine Grow.drew ?_ | with_reducible refine Grow.drewN ?_ _ | (with_reducible refine Grow.setCell ?_ ?hp _; (case hp => (simp; try omega))) | with_reducible refine Grow.trans ?_ (by assumption)))))
    (first
      | (go_at_call 75; (with_reducible refine (LS.out _ (by (repeat (first | with_reducible exact Grow.refl _ | with_reducible refine Grow.alloc ?_ _ | with_reducible refine Grow.drew ?_ | with_reducible refine Grow.drewN ?_ _ | (with_reducible refine Grow.setCell ?_ ?hp _; (case hp => (simp; try omega))) | with_reducible refine Grow.trans ?_ (by assumption))))).mono ?_); (rintro e w4 ⟨m4, rfl, hm4, hb4⟩))
      | (go_at_call 43; (with_reducible refine (SG.out _ _ hm4).mono ?_); (rintro e w7 ⟨m7, rfl, hm7, hb7⟩; obtain ⟨a7, c7, rfl⟩ := hm7.form; generalize (if n = 0 then 0 else 1) = l7 at hm7 ⊢; have HM7 := Lib.hid hm7; clear hm7; obtain ⟨e0, e1⟩ := C0.out w7 (by (repeat (first | with_reducible exact Grow.refl _ | with_reducible refine Grow.alloc ?_ _ | with_reducible refine Grow.drew ?_ | with_reducible refine Grow.drewN ?_ _ | (with_reducible refine Grow.setCell ?_ ?hp _; (case hp => (simp; try omega))) | with_reducible refine Grow.trans ?_ (by assumption)))); obtain ⟨q0, q1, qf, NU7, hz7, HB7⟩ := R0.out w7 (by (repeat (first | with_reducible exact Grow.refl _ | with_reducible refine Grow.alloc ?_ _ | with_reducible refine Grow.drew ?_ | with_reducible refine Grow.drewN ?_ _ | (with_reducible refine Grow.setCell ?_ ?hp _; (case hp => (simp; try omega))) | with_reducible refine Grow.trans ?_ (by assumption)))); have NU := Lib.hid NU7; have HB := Lib.hid HB7; clear NU7 HB7)))
  all_goals (try simp only [Exit.then])
  all_goals go_wp2_with fail
  all_goals refine bodyPost_ret (v := .agg #[.bool D, .slice a7 l7 c7]) (by rw [results_one rfl]; go_simp) rfl ⟨_, rfl, HM7.out.set2 NU.out _ _ _ _, by have h9 := HB.out; (repeat (first | with_reducible exact Grow.refl _ | with_reducible refine Grow.alloc ?_ _ | with_reducible refine Grow.drew ?_ | with_reducible refine Grow.drewN ?_ _ | (with_reducible refine Grow.setCell ?_ ?hp _; (case hp => (simp; try omega))) | with_reducible refine Grow.trans ?_ (by assumption)))⟩
set_option maxRecDepth 20000 in
set_option maxHeartbeats 4000000 in
theorem add_lt (s1 s2 : Bool) (n1 n2 : Nat) (m1 m2 : Value) (hs : s1 ≠ s2) (h : n1 < n2) (w : World) (h1 : MagR w m1 n1) (h2 : MagR w m2 n2) :
    Calls Tryz.prog 46 #[.agg #[.bool s1, m1], .bool s2, m2] w fun e w' => ∃ m, e = .returned (.agg #[.bool (s2 && decide (n2 - n1 ≠ 0)), m]) ∧ MagR w' m (n2 - n1) ∧ Grow w w' := by
  have e1 : (s1 == s2) = false := by simp [hs]
  have CP := Lib.hid (fun u hu => compare_any m1 m2 n1 n2 u (h1.grow hu) (h2.grow hu))
  obtain ⟨C, hC⟩ : ∃ C, cmpN n1 n2 = C := ⟨_, rfl⟩
  rw [hC] at CP
  have hC2 : ¬ 0 ≤ C := by rw [← hC]; unfold cmpN; (repeat' split) <;> omega
  have LS := Lib.hid (fun u hu => less_any m2 m1 n2 n1 (by omega) u (h2.grow hu) (h1.grow hu))
  obtain ⟨n, hn⟩ : ∃ n, n2 - n1 = n := ⟨_, rfl⟩
  rw [hn] at LS ⊢
  have SG := Lib.hid (fun m u hu => signed_any s2 m n u hu)
  obtain ⟨D, hD⟩ : ∃ D, (s2 && decide (n ≠ 0)) = D := ⟨_, rfl⟩
  rw [hD] at SG ⊢
  have T1 := Lib.hid (fun u hu => trimmed_mag m1 n1 u (h1.grow hu))
  obtain ⟨a1, c1, rfl⟩ := h1.form
  obtain ⟨a2, c2, rfl⟩ := h2.form
  generalize (if n1 = 0 then 0 else 1) = l1 at *
  generalize (if n2 = 0 then 0 else 1) = l2 at *
  clear hs h h1 h2 hn hD hC
  go_enter Tryz.func46, Tryz.ntmps46
  have c0 : ∀ u : World, Grow ((w.alloc (.cells #[.bool s1, .slice a1 l1 c1] 25)).alloc (.cells #[.bool false, .slice none 0 0] 25)) u → u.cell? ⟨w.heap.size, 0, none⟩ = some (.bool s1) ∧ u.cell? ⟨w.heap.size, 1, none⟩ = some (.slice a1 l1 c1) := by
    intro u hg
    refine ⟨(hg.cells _ _ (by (try simp); try omega)).trans ?_, (hg.cells _ _ (by (try simp); try omega)).trans ?_⟩ <;> go_simp
  have C0 := Lib.hid c0
  have r0 : ∀ u : World, Grow ((w.alloc (.cells #[.bool s1, .slice a1 l1 c1] 25)).alloc (.cells #[.bool false, .slice none 0 0] 25)) u → u.cell? ⟨w.heap.size + 1, 0, none⟩ = some (.bool false) ∧ u.cell? ⟨w.heap.size + 1, 1, none⟩ = some (.slice none 0 0) ∧ (∀ o, u.frozen? ⟨w.heap.size + 1, o, none⟩ = false) ∧ NoU u (w.heap.size + 1) ∧ w.heap.size + 1 < u.heap.size ∧ Grow w u := by
    intro u hg
    have hz := hg.size
    simp at hz
    refine ⟨(hg.cells _ _ (by simp)).trans ?_, (hg.cells _ _ (by simp)).trans ?_, fun o => (hg.frees _ _ (by simp)).trans ?_, ?_, by omega, Grow.trans (by (repeat (first | with_reducible exact Grow.refl _ | with_reducible refine Grow.alloc ?_ _ | with_reducible refine Grow.drew ?_ | with_reducible refine Grow.drewN ?_ _ | (with_reducible refine Grow.setCell ?_ ?hp _; (case hp => (simp; try omega))) | with_reducible refine Grow.trans ?_ (by assumption)))) hg⟩
    · go_simp
    · go_simp
    · go_simp
    · have h := NoU.alloc (w.alloc (.cells #[.bool s1, .slice a1 l1 c1] 25)) _ 25 (noU2 false none 0 0)
      simp at h
      exact h.grow (by simp) hg
  have R0 := Lib.hid r0
  clear c0 r0
  go_wp2_with (first
    | (go_at_call 45; (with_reducible refine (T1.out _ (by (repeat (first | with_reducible exact Grow.refl _ | with_reducible refine Grow.alloc ?_ _ | with_reducible refine Grow.drew ?_ | with_reducible refine Grow.drewN ?_ _ | (with_reducible refine Grow.setCell ?_ ?hp _; (case hp => (simp; try omega))) | with_reducible refine Grow.trans ?_ (by assumption))))).mono ?_); (rintro e w2 ⟨rfl, rfl⟩))
    | (go_at_call 74; (with_reducible refine (CP.out _ (by (repeat (first | with_reducible exact Grow.refl _ | with_reducible refine Grow.alloc ?_ _ | with_reducible refine Grow.drew ?_ | with_reducible refine Grow.drewN ?_ _ | (with_reducible refine Grow.setCell ?_ ?hp _; (case hp => (simp; try omega))) | with_reducible refine Grow.trans ?_ (by assumption))))).mono ?_); (rintro e w3 ⟨rfl, hb3⟩; obtain ⟨d0, d1⟩ := C0.out w3 (by (repeat (first | with_reducible exact Grow.refl _ | with_reducible refine Grow.alloc ?_ _ | with_reducible refine Grow.drew ?_ | with_reducible refine Grow.drewN ?_ _ | (with_reducible refine Grow.setCell ?_ ?hp _; (case hp => (simp; try omega))) | with_reducible refine Grow.trans ?_ (by assumption)))); have hz3 := hb3.size; (try simp at hz3); have hz3b : w.heap.size < w3.heap.size := (by omega)))
    | (go_at_call 75; (with_reducible refine (LS.out _ (by (repeat (first | with_reducible exact Grow.refl _ | with_reducible refine Grow.alloc ?_ _ | with_reducible refine Grow.drew ?_ | with_reducible refine Grow.drewN ?_ _ | (with_reducible refine Grow.setCell ?_ ?hp _; (case hp => (simp; try omega))) | with_reducible refine Grow.trans ?_ (by assumption))))).mono ?_); (rintro e w4 ⟨m4, rfl, hm4, hb4⟩))
    | (go_at_call 43; (with_reducible refine (SG.out _ _ hm4).mono ?_); (rintro e w7 ⟨m7, rfl, hm7, hb7⟩; obtain ⟨a7, c7, rfl⟩ := hm7.form; generalize (if n = 0 then 0 else 1) = l7 at hm7 ⊢; have HM7 := Lib.hid hm7; clear hm7; obtain ⟨e0, e1⟩ := C0.out w7 (by (repeat (first | with_reducible exact Grow.refl _ | with_reducible refine Grow.alloc ?_ _ | with_reducible refine Grow.drew ?_ | with_reducible refine Grow.drewN ?_ _ | (with_reducible refine Grow.setCell ?_ ?hp _; (case hp => (simp; try omega))) | with_reducible refine Grow.trans ?_ (by assumption)))); obtain ⟨q0, q1, qf, NU7, hz7, HB7⟩ := R0.out w7 (by (repeat (first | with_reducible exact Grow.refl _ | with_reducible refine Grow.alloc ?_ _ | with_reducible refine Grow.drew ?_ | with_reducible refine Grow.drewN ?_ _ | (with_reducible refine Grow.setCell ?_ ?hp _; (case hp => (simp; try omega))) | with_reducible refine Grow.trans ?_ (by assumption)))); have NU := Lib.hid NU7; have HB := Lib.hid HB7; clear NU7 HB7)))
  (try simp only [Exit.inBlock, Exit.then])
  refine bodyPost_ret (v := .agg #[.bool D, .slice a7 l7 c7]) (by rw [results_one rfl]; go_simp) rfl ⟨_, rfl, HM7.out.set2 NU.out _ _ _ _, by have h9 := HB.out; (repeat (first | with_reducible exact Grow.refl _ | with_reducible refine Grow.alloc ?_ _ | with_reducible refine Grow.drew ?_ | with_reducible refine Grow.drewN ?_ _ | (with_reducible refine Grow.setCell ?_ ?hp _; (case hp => (simp; try omega))) | with_reducible refine Grow.trans ?_ (by assumption)))⟩
end Go.Proofs.YtbpkfcohbefphaaGreatDoor
namespace Go.Proofs.YtbpkfcohbefphaaGreatDoor
open Go Go.RowKit
theorem sg_same {x y : Int} (h : sgB x = sgB y) : (x + y).natAbs = x.natAbs + y.natAbs ∧ (sgB y && decide (x.natAbs + y.natAbs ≠ 0)) = sgB (x + y) := by
  unfold sgB at *
  by_cases hy : y < 0
  · have hx : x < 0 := by rw [decide_eq_true hy] at h; exact of_decide_eq_true h
    have h3 : x + y < 0 := by omega
    have h4 : x.natAbs + y.natAbs ≠ 0 := by omega
    rw [decide_eq_true hy, decide_eq_true h3, decide_eq_true h4]
    exact ⟨by omega, rfl⟩
  · have hx : ¬ x < 0 := by rw [decide_eq_false hy] at h; exact of_decide_eq_false h
    have h3 : ¬ x + y < 0 := by omega
    rw [decide_eq_false hy, decide_eq_false h3]
    exact ⟨by omega, rfl⟩
theorem sg_diff {x y : Int} (h : sgB x ≠ sgB y) : (y.natAbs ≤ x.natAbs → (x + y).natAbs = x.natAbs - y.natAbs ∧ (sgB x && decide (x.natAbs - y.natAbs ≠ 0)) = sgB (x + y)) ∧ (x.natAbs < y.natAbs → (x + y).natAbs = y.natAbs - x.natAbs ∧ (sgB y && decide (y.natAbs - x.natAbs ≠ 0)) = sgB (x + y)) := by
  unfold sgB at *
  by_cases hx : x < 0
  · have hy : ¬ y < 0 := fun hy => h (by rw [decide_eq_true hx, decide_eq_true hy])
    rw [decide_eq_true hx, decide_eq_false hy]
    refine ⟨fun hn => ⟨by omega, ?_⟩, fun hn => ⟨by omega, ?_⟩⟩
    · rw [Bool.true_and]
      exact decide_eq_decide.2 (by omega)
    · rw [Bool.false_and]
      exact (decide_eq_false (by omega)).symm
  · have hy : y < 0 := by
      by_cases hy : y < 0
      · exact hy
      · exact absurd (by rw [decide_eq_false hx, decide_eq_false hy]) h
    rw [decide_eq_false hx, decide_eq_true hy]
    refine ⟨fun hn => ⟨by omega, ?_⟩, fun hn => ⟨by omega, ?_⟩⟩
    · rw [Bool.false_and]
      exact (decide_eq_false (by omega)).symm
    · rw [Bool.true_and]
      exact decide_eq_decide.2 (by omega)
theorem addc_any (x y : Int) (m1 m2 : Value) (h : (x + y).natAbs < 4294967296) (w : World) (h1 : MagR w m1 x.natAbs) (h2 : MagR w m2 y.natAbs) :
    Calls Tryz.prog 46 #[.agg #[.bool (sgB x), m1], .bool (sgB y), m2] w fun e w' => ∃ m, e = .returned (.agg #[.bool (sgB (x + y)), m]) ∧ MagR w' m (x + y).natAbs ∧ Grow w w' := by
  by_cases hs : sgB x = sgB y
  · obtain ⟨e1, e2⟩ := sg_same hs
    rw [e1] at h
    have := add_same (sgB x) (sgB y) _ _ m1 m2 hs h w h1 h2
    rw [e2] at this
    rw [e1]
    exact this
  · obtain ⟨e1, e2⟩ := sg_diff hs
    by_cases hn : y.natAbs ≤ x.natAbs
    · obtain ⟨f1, f2⟩ := e1 hn
      have := add_ge (sgB x) (sgB y) _ _ m1 m2 hs hn w h1 h2
      rw [f2] at this
      rw [f1]
      exact this
    · obtain ⟨f1, f2⟩ := e2 (by omega)
      have := add_lt (sgB x) (sgB y) _ _ m1 m2 hs (by omega) w h1 h2
      rw [f2] at this
      rw [f1]
      exact this
set_option maxRecDepth 20000 in
set_option maxHeartbeats 4000000 in
theorem addI_any (x y : Int) (m1 m2 : Value) (h : (x + y).natAbs < 4294967296) (w : World) (h1 : MagR w m1 x.natAbs) (h2 : MagR w m2 y.natAbs) :
    Calls Tryz.prog 24 #[.agg #[.bool (sgB x), m1], .agg #[.bool (sgB y), m2]] w fun e w' => ∃ m, e = .returned (.agg #[.bool (sgB (x + y)), m]) ∧ MagR w' m (x + y).natAbs ∧ Grow w w' := by
  have AD := Lib.hid (fun u hu => addc_any x y m1 m2 h u (h1.grow hu) (h2.grow hu))
  have T2 := Lib.hid (fun u hu => trimmed_mag m2 y.natAbs u (h2.grow hu))
  obtain ⟨s1, hs1⟩ : ∃ s1, sgB x = s1 := ⟨_, rfl⟩
  obtain ⟨s2, hs2⟩ : ∃ s2, sgB y = s2 := ⟨_, rfl⟩
  obtain ⟨D, hD⟩ : ∃ D, sgB (x + y) = D := ⟨_, rfl⟩
  obtain ⟨n, hn⟩ : ∃ n, (x + y).natAbs = n := ⟨_, rfl⟩
  rw [hs1, hs2, hD, hn] at AD
  rw [hs1, hs2, hD, hn]
  obtain ⟨a1, c1, rfl⟩ := h1.form
  obtain ⟨a2, c2, rfl⟩ := h2.form
  generalize (if x.natAbs = 0 then 0 else 1) = l1 at *
  generalize (if y.natAbs = 0 then 0 else 1) = l2 at *
  clear hs1 hs2 hD hn h h1 h2
  go_enter Tryz.func24, Tryz.ntmps24
  go_wp2_with fail
  have c0 : ∀ u : World, Grow (((w.alloc (.cells #[.bool s1, .slice a1 l1 c1] 25)).alloc (.cells #[.bool s2, .slice a2 l2 c2] 25)).alloc (.cells #[.bool false, .slice none 0 0] 25)) u → u.cell? ⟨w.heap.size, 0, none⟩ = some (.bool s1) ∧ u.cell? ⟨w.heap.size, 1, none⟩ = some (.slice a1 l1 c1) ∧ u.cell? ⟨w.heap.size + 1, 0, none⟩ = some (.bool s2) ∧ u.cell? ⟨w.heap.size + 1, 1, none⟩ = some (.slice a2 l2 c2) := by
    intro u hg
    refine ⟨(hg.cells _ _ (by (try simp); try omega)).trans ?_, (hg.cells _ _ (by (try simp); try omega)).trans ?_, (hg.cells _ _ (by (try simp); try omega)).trans ?_, (hg.cells _ _ (by (try simp); try omega)).trans ?_⟩ <;> go_simp
  have C0 := Lib.hid c0
  have r0 : ∀ u : World, Grow (((w.alloc (.cells #[.bool s1, .slice a1 l1 c1] 25)).alloc (.cells #[.bool s2, .slice a2 l2 c2] 25)).alloc (.cells #[.bool false, .slice none 0 0] 25)) u → u.cell? ⟨w.heap.size + 1 + 1, 0, none⟩ = some (.bool false) ∧ u.cell? ⟨w.heap.size + 1 + 1, 1, none⟩ = some (.slice none 0 0) ∧ (∀ o, u.frozen? ⟨w.heap.size + 1 + 1, o, none⟩ = false) ∧ NoU u (w.heap.size + 1 + 1) ∧ w.heap.size + 1 + 1 < u.heap.size ∧ Grow w u := by
    intro u hg
    have hz := hg.size
    simp at hz
    refine ⟨(hg.cells _ _ (by simp)).trans ?_, (hg.cells _ _ (by simp)).trans ?_, fun o => (hg.frees _ _ (by simp)).trans ?_, ?_, by omega, Grow.trans (by (repeat (first | with_reducible exact Grow.refl _ | with_reducible refine Grow.alloc ?_ _ | with_reducible refine Grow.drew ?_ | with_reducible refine Grow.drewN ?_ _ | (with_reducible refine Grow.setCell ?_ ?hp _; (case hp => (simp; try omega))) | with_reducible refine Grow.trans ?_ (by assumption)))) hg⟩
    · go_simp
    · go_simp
    · go_simp
    · have h := NoU.alloc ((w.alloc (.cells #[.bool s1, .slice a1 l1 c1] 25)).alloc (.cells #[.bool s2, .slice a2 l2 c2] 25)) _ 25 (noU2 false none 0 0)
      simp at h
      exact h.grow (by simp) hg
  have R0 := Lib.hid r0
  clear c0 r0
  go_region_held3 (fun u => u.cell? ⟨w.heap.size, 0, none⟩ = some (.bool s1) ∧ u.cell? ⟨w.heap.size, 1, none⟩ = some (.slice a1 l1 c1) ∧ u.cell? ⟨w.heap.size + 1, 0, none⟩ = some (.bool s2) ∧ u.cell? ⟨w.heap.size + 1, 1, none⟩ = some (.slice a2 l2 c2))
    (first | (refine ⟨?_, ?_, ?_, ?_⟩ <;> (go_simp; done)) | exact C0.out _ (by (repeat (first | with_reducible exact Grow.refl _ | with_reducible refine Grow.alloc ?_ _ | with_reducible refine Grow.drew ?_ | with_reducible refine Grow.drewN ?_ _ | (with_reducible refine Grow.setCell ?_ ?hp _; (case hp => (simp; try omega))) | with_reducible refine Grow.trans ?_ (by assumption)))))
    (first
      | (go_at_call 45; first | ((with_reducible refine (T2.out _ (by (repeat (first | with_reducible exact Grow.refl _ | with_reducible refine Grow.alloc ?_ _ | with_reducible refine Grow.drew ?_ | with_reducible refine Grow.drewN ?_ _ | (with_reducible refine Grow.setCell ?_ ?hp _; (case hp => (simp; try omega))) | with_reducible refine Grow.trans ?_ (by assumption))))).mono ?_); (rintro e w2 ⟨rfl, rfl⟩)))
      | (go_at_call 46; (with_reducible refine (AD.out _ (by (repeat (first | with_reducible exact Grow.refl _ | with_reducible refine Grow.alloc ?_ _ | with_reducible refine Grow.drew ?_ | with_reducible refine Grow.drewN ?_ _ | (with_reducible refine Grow.setCell ?_ ?hp _; (case hp => (simp; try omega))) | with_reducible refine Grow.trans ?_ (by assumption))))).mono ?_); (rintro e w7 ⟨m7, rfl, hm7, hb7⟩; obtain ⟨a7, c7, rfl⟩ := hm7.form; generalize (if n = 0 then 0 else 1) = l7 at hm7 ⊢; have HM7 := Lib.hid hm7; clear hm7; obtain ⟨e0, e1, e2, e3⟩ := C0.out w7 (by (repeat (first | with_reducible exact Grow.refl _ | with_reducible refine Grow.alloc ?_ _ | with_reducible refine Grow.drew ?_ | with_reducible refine Grow.drewN ?_ _ | (with_reducible refine Grow.setCell ?_ ?hp _; (case hp => (simp; try omega))) | with_reducible refine Grow.trans ?_ (by assumption)))); obtain ⟨q0, q1, qf, NU7, hz7, HB7⟩ := R0.out w7 (by (repeat (first | with_reducible exact Grow.refl _ | with_reducible refine Grow.alloc ?_ _ | with_reducible refine Grow.drew ?_ | with_reducible refine Grow.drewN ?_ _ | (with_reducible refine Grow.setCell ?_ ?hp _; (case hp => (simp; try omega))) | with_reducible refine Grow.trans ?_ (by assumption)))); have NU := Lib.hid NU7; have HB := Lib.hid HB7; clear NU7 HB7)))
  all_goals (try simp only [Exit.then])
  all_goals go_wp2_with fail
  all_goals refine bodyPost_ret (v := .agg #[.bool D, .slice a7 l7 c7]) (by rw [results_one rfl]; go_simp) rfl ⟨_, rfl, HM7.out.set2 NU.out _ _ _ _, by have h9 := HB.out; (repeat (first | with_reducible exact Grow.refl _ | with_reducible refine Grow.alloc ?_ _ | with_reducible refine Grow.drew ?_ | with_reducible refine Grow.drewN ?_ _ | (with_reducible refine Grow.setCell ?_ ?hp _; (case hp => (simp; try omega))) | with_reducible refine Grow.trans ?_ (by assumption)))⟩
end Go.Proofs.YtbpkfcohbefphaaGreatDoor
namespace Go.Proofs.YtbpkfcohbefphaaGreatDoor
open Go Go.RowKit
theorem ediv_pos {a b q r : Int} (hb : 0 < b) (h : a = b * q + r) (h0 : 0 ≤ r) (h1 : r < b) : a / b = q ∧ a % b = r := by
  have h2 := (Int.ediv_emod_unique (a := a) (b := b) (r := r) (q := q) hb).2 ⟨by omega, h0, h1⟩
  exact h2
/-- Where the remainder is 0, or the dividend is not negative. -/
theorem div_plain {z1 z2 : Int} (h2 : 0 < z2.natAbs) (h : ¬ (z1 < 0 ∧ z1.natAbs % z2.natAbs ≠ 0)) :
    (z1 / z2).natAbs = z1.natAbs / z2.natAbs ∧ (z1 % z2).natAbs = z1.natAbs % z2.natAbs ∧ ((!(sgB z1 == sgB z2)) && decide (z1.natAbs / z2.natAbs ≠ 0)) = sgB (z1 / z2) := by
  obtain ⟨n1, hn1⟩ : ∃ n1, z1.natAbs = n1 := ⟨_, rfl⟩
  obtain ⟨n2, hn2⟩ : ∃ n2, z2.natAbs = n2 := ⟨_, rfl⟩
  rw [hn1, hn2] at h ⊢
  rw [hn2] at h2
  have hdm := Nat.div_add_mod n1 n2
  have hml := Nat.mod_lt n1 h2
  have hd0 : 0 ≤ n1 / n2 := Nat.zero_le _
  obtain ⟨Q, hQ⟩ : ∃ Q, n1 / n2 = Q := ⟨_, rfl⟩
  obtain ⟨R, hR⟩ : ∃ R, n1 % n2 = R := ⟨_, rfl⟩
  rw [hQ, hR] at hdm
  rw [hR] at hml h
  rw [hQ, hR]
  have hdmI : (n2 : Int) * (Q : Int) + (R : Int) = (n1 : Int) := by rw [← hdm]; simp
  -- by the positive divisor
  have key : ∃ q r : Int, z1 / (n2 : Int) = q ∧ z1 % (n2 : Int) = r ∧ q.natAbs = Q ∧ r.natAbs = R ∧ (q < 0 ↔ z1 < 0 ∧ Q ≠ 0) := by
    by_cases hz : z1 < 0
    · have hR0 : R = 0 := by
        by_cases e : R = 0
        · exact e
        · exact absurd ⟨hz, e⟩ h
      obtain ⟨a, b⟩ := ediv_pos (a := z1) (b := (n2 : Int)) (q := -(Q : Int)) (r := 0) (by omega) (by rw [Int.mul_neg]; omega) (by omega) (by omega)
      exact ⟨_, _, a, b, by omega, by omega, by omega⟩
    · obtain ⟨a, b⟩ := ediv_pos (a := z1) (b := (n2 : Int)) (q := (Q : Int)) (r := (R : Int)) (by omega) (by omega) (by omega) (by omega)
      exact ⟨_, _, a, b, by omega, by omega, by omega⟩
  obtain ⟨q, r, k1, k2, k3, k4, k5⟩ := key
  have fin : ∀ q' : Int, q'.natAbs = Q → (q' < 0 ↔ (¬ (z1 < 0 ↔ z2 < 0)) ∧ Q ≠ 0) → ((!(sgB z1 == sgB z2)) && decide (Q ≠ 0)) = sgB q' := by
    intro q' e1 e2
    unfold sgB
    by_cases c1 : z1 < 0 <;> by_cases c2 : z2 < 0 <;> by_cases c3 : Q = 0 <;> simp [c1, c2, c3] at e2 ⊢ <;> omega
  by_cases hz2 : z2 < 0
  · have e2 : z2 = -(n2 : Int) := by omega
    rw [e2, Int.ediv_neg, Int.emod_neg, k1, k2]
    refine ⟨by omega, k4, ?_⟩
    rw [← e2]
    exact fin _ (by omega) (by omega)
  · have e2 : z2 = (n2 : Int) := by omega
    rw [e2, k1, k2]
    refine ⟨k3, k4, ?_⟩
    rw [← e2]
    exact fin _ k3 (by omega)
theorem div_low {z1 z2 : Int} (h2 : 0 < z2.natAbs) (h : z1 < 0 ∧ z1.natAbs % z2.natAbs ≠ 0) :
    (z1 / z2).natAbs = z1.natAbs / z2.natAbs + 1 ∧ (z1 % z2).natAbs = z2.natAbs - z1.natAbs % z2.natAbs ∧ ((!(sgB z1 == sgB z2)) && decide (z1.natAbs / z2.natAbs + 1 ≠ 0)) = sgB (z1 / z2) := by
  obtain ⟨n1, hn1⟩ : ∃ n1, z1.natAbs = n1 := ⟨_, rfl⟩
  obtain ⟨n2, hn2⟩ : ∃ n2, z2.natAbs = n2 := ⟨_, rfl⟩
  rw [hn1, hn2] at h ⊢
  rw [hn2] at h2
  have hdm := Nat.div_add_mod n1 n2
  have hml := Nat.mod_lt n1 h2
  obtain ⟨Q, hQ⟩ : ∃ Q, n1 / n2 = Q := ⟨_, rfl⟩
  obtain ⟨R, hR⟩ : ∃ R, n1 % n2 = R := ⟨_, rfl⟩
  rw [hQ, hR] at hdm
  rw [hR] at hml h
  rw [hQ, hR]
  obtain ⟨hz, hR0⟩ := h
  have hdmI : (n2 : Int) * (Q : Int) + (R : Int) = (n1 : Int) := by rw [← hdm]; simp
  obtain ⟨a, b⟩ := ediv_pos (a := z1) (b := (n2 : Int)) (q := -(Q : Int) - 1) (r := (n2 : Int) - (R : Int)) (by omega) (by rw [Int.mul_sub, Int.mul_neg, Int.mul_one]; omega) (by omega) (by omega)
  have fin : ∀ q' : Int, q'.natAbs = Q + 1 → (q' < 0 ↔ (¬ (z1 < 0 ↔ z2 < 0))) → ((!(sgB z1 == sgB z2)) && decide (Q + 1 ≠ 0)) = sgB q' := by
    intro q' e1 e2
    unfold sgB
    by_cases c2 : z2 < 0 <;> simp [hz, c2] at e2 ⊢ <;> omega
  by_cases hz2 : z2 < 0
  · have e2 : z2 = -(n2 : Int) := by omega
    rw [e2, Int.ediv_neg, Int.emod_neg, a, b]
    refine ⟨by omega, by omega, ?_⟩
    rw [← e2]
    exact fin _ (by omega) (by omega)
  · have e2 : z2 = (n2 : Int) := by omega
    rw [e2, a, b]
    refine ⟨by omega, by omega, ?_⟩
    rw [← e2]
    exact fin _ (by omega) (by omega)
end Go.Proofs.YtbpkfcohbefphaaGreatDoor
namespace Go.Proofs.YtbpkfcohbefphaaGreatDoor
open Go Go.RowKit
theorem results_cct {fn : Func} {p q u : Tmp} {ty ty' : TypeId} (h : fn.results = #[.cell p ty, .cell q ty', .tmp u]) (tmps : Array Value) (P : Program) (w : World) :
    (results fn tmps).run P w = ((asAddr (tmps.getD p undef)).run P w).andThen fun a w₁ => ((loadVar ty a).run P w₁).andThen fun v w₂ => ((asAddr (tmps.getD q undef)).run P w₂).andThen fun b w₃ => ((loadVar ty' b).run P w₃).andThen fun v' w₄ => .ok (.tuple #[v, v', tmps.getD u undef]) w₄ := by
  simp only [results, h]
  simp [Sem.run_bind, Result.andThen]
theorem MagR.pad {w : World} {m : Value} {n : Nat} (h : MagR w m n) : PadR w m n := .inl h
theorem MagR.set22 {w : World} {m : Value} {n B1 B2 : Nat} (h : MagR w m n) (h1 : NoU w B1) (h2 : NoU w B2) (o1 o2 o3 o4 : Nat) (v1 v2 v3 v4 : Value) : MagR ((((w.setCell ⟨B1, o1, none⟩ v1).setCell ⟨B1, o2, none⟩ v2).setCell ⟨B2, o3, none⟩ v3).setCell ⟨B2, o4, none⟩ v4) m n := by
  rcases h with h | ⟨h0, hl, b, off, cap, hm, hk, hb, hcc⟩
  · exact .inl h
  · have e1 : b ≠ B1 := fun e => by subst e; exact h1 _ _ _ hcc
    have e2 : b ≠ B2 := fun e => by subst e; exact h2 _ _ _ hcc
    refine .inr ⟨h0, hl, b, off, cap, hm, hk, by simpa [World.setCell] using hb, ?_⟩
    rw [World.cell?_of_block (Below.heap_setCell _ _ _ _ e2), World.cell?_of_block (Below.heap_setCell _ _ _ _ e2), World.cell?_of_block (Below.heap_setCell _ _ _ _ e1), World.cell?_of_block (Below.heap_setCell _ _ _ _ e1)]
    exact hcc
set_option maxRecDepth 20000 in
set_option maxHeartbeats 4000000 in
theorem dm_pos (s2 : Bool) (n1 n2 : Nat) (m1 m2 : Value) (hn2 : 0 < n2)  (w : World) (h1 : MagR w m1 n1) (h2 : MagR w m2 n2) :
    Calls Tryz.prog 77 #[.agg #[.bool false, m1], .agg #[.bool s2, m2]] w fun e w' => ∃ q r, e = .returned (.tuple #[.agg #[.bool (s2 && decide (n1 / n2 ≠ 0)), q], .agg #[.bool false, r], .int .i64 0]) ∧ MagR w' q (n1 / n2) ∧ MagR w' r (n1 % n2) ∧ Grow w w' := by
  have hl1 := h1.lt
  have hl2 := h2.lt
  have hq1 : n1 / n2 ≤ n1 := Nat.div_le_self _ _
  have hr1 : n1 % n2 < n2 := Nat.mod_lt _ hn2
  have DV := Lib.hid (fun u hu => divide_any m1 m2 n1 n2 hn2 u (h1.grow hu) (h2.grow hu))
  have T1 := Lib.hid (fun u hu => trimmed_mag m1 n1 u (h1.grow hu))
  have T2 := Lib.hid (fun u hu => trimmed_mag m2 n2 u (h2.grow hu))
  obtain ⟨Q, hQ⟩ : ∃ Q, n1 / n2 = Q := ⟨_, rfl⟩
  obtain ⟨R, hR⟩ : ∃ R, n1 % n2 = R := ⟨_, rfl⟩
  rw [hQ, hR] at DV ⊢
  rw [hQ] at hq1
  rw [hR] at hr1
  have SQ := Lib.hid (fun m u hu => signed_any s2 m Q u hu)
  have SR := Lib.hid (fun m u hu => signed_any false m R u hu)
  simp only [Bool.false_and] at SR
  obtain ⟨D, hD⟩ : ∃ D, (s2 && decide (Q ≠ 0)) = D := ⟨_, rfl⟩
  rw [hD] at SQ ⊢
  obtain ⟨a1, c1, rfl⟩ := h1.form
  obtain ⟨a2, c2, rfl⟩ := h2.form
  rw [if_neg (show ¬ n2 = 0 by omega)] at *
  generalize (if n1 = 0 then 0 else 1) = l1 at *
  clear hD hQ hR hl1 hl2 hq1 hr1 h1 h2
  go_enter Tryz.func77, Tryz.ntmps77
  go_wp2_with fail
  have c0 : ∀ u : World, Grow ((((w.alloc (.cells #[.bool false, .slice a1 l1 c1] 25)).alloc (.cells #[.bool s2, .slice a2 1 c2] 25)).alloc (.cells #[.bool false, .slice none 0 0] 25)).alloc (.cells #[.bool false, .slice none 0 0] 25)) u → u.cell? ⟨w.heap.size, 0, none⟩ = some (.bool false) ∧ u.cell? ⟨w.heap.size, 1, none⟩ = some (.slice a1 l1 c1) ∧ u.cell? ⟨w.heap.size + 1, 0, none⟩ = some (.bool s2) ∧ u.cell? ⟨w.heap.size + 1, 1, none⟩ = some (.slice a2 1 c2) := by
    intro u hg
    refine ⟨(hg.cells _ _ (by (try simp); try omega)).trans ?_, (hg.cells _ _ (by (try simp); try omega)).trans ?_, (hg.cells _ _ (by (try simp); try omega)).trans ?_, (hg.cells _ _ (by (try simp); try omega)).trans ?_⟩ <;> go_simp
  have C0 := Lib.hid c0
  have r0 : ∀ u : World, Grow ((((w.alloc (.cells #[.bool false, .slice a1 l1 c1] 25)).alloc (.cells #[.bool s2, .slice a2 1 c2] 25)).alloc (.cells #[.bool false, .slice none 0 0] 25)).alloc (.cells #[.bool false, .slice none 0 0] 25)) u → (u.cell? ⟨w.heap.size + 1 + 1, 0, none⟩ = some (.bool false) ∧ u.cell? ⟨w.heap.size + 1 + 1, 1, none⟩ = some (.slice none 0 0) ∧ (∀ o, u.frozen? ⟨w.heap.size + 1 + 1, o, none⟩ = false) ∧ u.cell? ⟨w.heap.size + 1 + 1 + 1, 0, none⟩ = some (.bool false) ∧ u.cell? ⟨w.heap.size + 1 + 1 + 1, 1, none⟩ = some (.slice none 0 0) ∧ (∀ o, u.frozen? ⟨w.heap.size + 1 + 1 + 1, o, none⟩ = false)) ∧ NoU u (w.heap.size + 1 + 1) ∧ NoU u (w.heap.size + 1 + 1 + 1) ∧ w.heap.size + 1 + 1 + 1 < u.heap.size ∧ Grow w u := by
    intro u hg
    have hz := hg.size
    simp at hz
    refine ⟨⟨(hg.cells _ _ (by (try simp); try omega)).trans ?_, (hg.cells _ _ (by (try simp); try omega)).trans ?_, fun o => (hg.frees _ _ (by (try simp); try omega)).trans ?_, (hg.cells _ _ (by (try simp); try omega)).trans ?_, (hg.cells _ _ (by (try simp); try omega)).trans ?_, fun o => (hg.frees _ _ (by (try simp); try omega)).trans ?_⟩, ?_, ?_, by omega, Grow.trans (by (repeat (first | with_reducible exact Grow.refl _ | with_reducible refine Grow.alloc ?_ _ | with_reducible refine Grow.drew ?_ | with_reducible refine Grow.drewN ?_ _ | (with_reducible refine Grow.setCell ?_ ?hp _; (case hp => (simp; try omega))) | with_reducible refine Grow.trans ?_ (by assumption)))) hg⟩
    · go_simp
    · go_simp
    · go_simp
    · go_simp
    · go_simp
    · go_simp
    · have h := (NoU.alloc ((w.alloc (.cells #[.bool false, .slice a1 l1 c1] 25)).alloc (.cells #[.bool s2, .slice a2 1 c2] 25)) _ 25 (noU2 false none 0 0)).grow (by simp) ((Grow.refl _).alloc (.cells #[.bool false, .slice none 0 0] 25))
      simp at h
      exact h.grow (by (try simp); try omega) hg
    · have h := NoU.alloc (((w.alloc (.cells #[.bool false, .slice a1 l1 c1] 25)).alloc (.cells #[.bool s2, .slice a2 1 c2] 25)).alloc (.cells #[.bool false, .slice none 0 0] 25)) _ 25 (noU2 false none 0 0)
      simp at h
      exact h.grow (by (try simp); try omega) hg
  have R0 := Lib.hid r0
  clear c0 r0
  go_wp2_with (first
    | (go_at_call 45; first | ((with_reducible refine (T1.out _ (by (repeat (first | with_reducible exact Grow.refl _ | with_reducible refine Grow.alloc ?_ _ | with_reducible refine Grow.drew ?_ | with_reducible refine Grow.drewN ?_ _ | (with_reducible refine Grow.setCell ?_ ?hp _; (case hp => (simp; try omega))) | with_reducible refine Grow.trans ?_ (by assumption))))).mono ?_); (rintro e w2 ⟨rfl, rfl⟩)) | ((with_reducible refine (T2.out _ (by (repeat (first | with_reducible exact Grow.refl _ | with_reducible refine Grow.alloc ?_ _ | with_reducible refine Grow.drew ?_ | with_reducible refine Grow.drewN ?_ _ | (with_reducible refine Grow.setCell ?_ ?hp _; (case hp => (simp; try omega))) | with_reducible refine Grow.trans ?_ (by assumption))))).mono ?_); (rintro e w2 ⟨rfl, rfl⟩)))
    | (go_at_call 105; (with_reducible refine (DV.out _ (by (repeat (first | with_reducible exact Grow.refl _ | with_reducible refine Grow.alloc ?_ _ | with_reducible refine Grow.drew ?_ | with_reducible refine Grow.drewN ?_ _ | (with_reducible refine Grow.setCell ?_ ?hp _; (case hp => (simp; try omega))) | with_reducible refine Grow.trans ?_ (by assumption))))).mono ?_); (rintro e w3 ⟨mq, mr, rfl, hmq, hmr, hb3⟩; obtain ⟨d0, d1, d2, d3⟩ := C0.out w3 (by (repeat (first | with_reducible exact Grow.refl _ | with_reducible refine Grow.alloc ?_ _ | with_reducible refine Grow.drew ?_ | with_reducible refine Grow.drewN ?_ _ | (with_reducible refine Grow.setCell ?_ ?hp _; (case hp => (simp; try omega))) | with_reducible refine Grow.trans ?_ (by assumption)))); have hz3 := hb3.size; (try simp at hz3); have hz3b : w.heap.size + 1 < w3.heap.size := (by omega); have hz3c : w.heap.size < w3.heap.size := (by omega); obtain ⟨a9, c9, rfl⟩ := hmr.form; generalize (if R = 0 then 0 else 1) = lr at hmr ⊢))
    | (go_at_call 43; (with_reducible refine (SQ.out _ _ hmq.pad).mono ?_); (rintro e w7 ⟨m7, rfl, hm7, hb7⟩; obtain ⟨a7, c7, rfl⟩ := hm7.form; generalize (if Q = 0 then 0 else 1) = l7 at hm7 ⊢; have HM7 := Lib.hid hm7; clear hm7))
    | (go_at_call 43; (with_reducible refine (SR.out _ _ (hmr.grow hb7).pad).mono ?_); (rintro e w8 ⟨m8, rfl, hm8, hb8⟩; obtain ⟨a8, c8, rfl⟩ := hm8.form; generalize (if R = 0 then 0 else 1) = l8 at hm8 ⊢; have HM8 := Lib.hid hm8; clear hm8; obtain ⟨⟨q0, q1, qf, q2, q3, qg⟩, NA, NB, hz8, HB8⟩ := R0.out w8 (by (repeat (first | with_reducible exact Grow.refl _ | with_reducible refine Grow.alloc ?_ _ | with_reducible refine Grow.drew ?_ | with_reducible refine Grow.drewN ?_ _ | (with_reducible refine Grow.setCell ?_ ?hp _; (case hp => (simp; try omega))) | with_reducible refine Grow.trans ?_ (by assumption)))); have NU1 := Lib.hid NA; have NU2 := Lib.hid NB; have HB := Lib.hid HB8; have HM9 := Lib.hid (HM7.out.grow hb8); have hz8a : w.heap.size + 1 + 1 < w8.heap.size := (by omega); clear NA NB HB8)))
  (try simp only [Exit.inBlock, Exit.then])
  refine bodyPost_ret (v := .tuple #[.agg #[.bool D, .slice a7 l7 c7], .agg #[.bool false, .slice a8 l8 c8], .int .i64 0]) (by rw [results_cct rfl]; go_simp) rfl ⟨_, _, rfl, HM9.out.set22 NU1.out NU2.out _ _ _ _ _ _ _ _, HM8.out.set22 NU1.out NU2.out _ _ _ _ _ _ _ _, by have h9 := HB.out; (repeat (first | with_reducible exact Grow.refl _ | with_reducible refine Grow.alloc ?_ _ | with_reducible refine Grow.drew ?_ | with_reducible refine Grow.drewN ?_ _ | (with_reducible refine Grow.setCell ?_ ?hp _; (case hp => (simp; try omega))) | with_reducible refine Grow.trans ?_ (by assumption)))⟩
set_option maxRecDepth 20000 in
set_option maxHeartbeats 4000000 in
theorem dm_zero (s2 : Bool) (n1 n2 : Nat) (m1 m2 : Value) (hn2 : 0 < n2) (hR0 : n1 % n2 = 0) (w : World) (h1 : MagR w m1 n1) (h2 : MagR w m2 n2) :
    Calls Tryz.prog 77 #[.agg #[.bool true, m1], .agg #[.bool s2, m2]] w fun e w' => ∃ q r, e = .returned (.tuple #[.agg #[.bool ((!s2) && decide (n1 / n2 ≠ 0)), q], .agg #[.bool false, r], .int .i64 0]) ∧ MagR w' q (n1 / n2) ∧ MagR w' r (n1 % n2) ∧ Grow w w' := by
  have hl1 := h1.lt
  have hl2 := h2.lt
  have hq1 : n1 / n2 ≤ n1 := Nat.div_le_self _ _
  have hr1 : n1 % n2 < n2 := Nat.mod_lt _ hn2
  have DV := Lib.hid (fun u hu => divide_any m1 m2 n1 n2 hn2 u (h1.grow hu) (h2.grow hu))
  have T1 := Lib.hid (fun u hu => trimmed_mag m1 n1 u (h1.grow hu))
  have T2 := Lib.hid (fun u hu => trimmed_mag m2 n2 u (h2.grow hu))
  obtain ⟨Q, hQ⟩ : ∃ Q, n1 / n2 = Q := ⟨_, rfl⟩
  obtain ⟨R, hR⟩ : ∃ R, n1 % n2 = R := ⟨_, rfl⟩
  rw [hQ, hR] at DV ⊢
  rw [hQ] at hq1
  rw [hR] at hr1 hR0
  have SQ := Lib.hid (fun m u hu => signed_any (!s2) m Q u hu)
  have SR := Lib.hid (fun m u hu => signed_any false m R u hu)
  simp only [Bool.false_and] at SR
  obtain ⟨D, hD⟩ : ∃ D, ((!s2) && decide (Q ≠ 0)) = D := ⟨_, rfl⟩
  rw [hD] at SQ ⊢
  obtain ⟨a1, c1, rfl⟩ := h1.form
  obtain ⟨a2, c2, rfl⟩ := h2.form
  rw [if_neg (show ¬ n2 = 0 by omega)] at *
  generalize (if n1 = 0 then 0 else 1) = l1 at *
  clear hD hQ hR hl1 hl2 hq1 hr1 h1 h2
  go_enter Tryz.func77, Tryz.ntmps77
  go_wp2_with fail
  have c0 : ∀ u : World, Grow ((((w.alloc (.cells #[.bool true, .slice a1 l1 c1] 25)).alloc (.cells #[.bool s2, .slice a2 1 c2] 25)).alloc (.cells #[.bool false, .slice none 0 0] 25)).alloc (.cells #[.bool false, .slice none 0 0] 25)) u → u.cell? ⟨w.heap.size, 0, none⟩ = some (.bool true) ∧ u.cell? ⟨w.heap.size, 1, none⟩ = some (.slice a1 l1 c1) ∧ u.cell? ⟨w.heap.size + 1, 0, none⟩ = some (.bool s2) ∧ u.cell? ⟨w.heap.size + 1, 1, none⟩ = some (.slice a2 1 c2) := by
    intro u hg
    refine ⟨(hg.cells _ _ (by (try simp); try omega)).trans ?_, (hg.cells _ _ (by (try simp); try omega)).trans ?_, (hg.cells _ _ (by (try simp); try omega)).trans ?_, (hg.cells _ _ (by (try simp); try omega)).trans ?_⟩ <;> go_simp
  have C0 := Lib.hid c0
  have r0 : ∀ u : World, Grow ((((w.alloc (.cells #[.bool true, .slice a1 l1 c1] 25)).alloc (.cells #[.bool s2, .slice a2 1 c2] 25)).alloc (.cells #[.bool false, .slice none 0 0] 25)).alloc (.cells #[.bool false, .slice none 0 0] 25)) u → (u.cell? ⟨w.heap.size + 1 + 1, 0, none⟩ = some (.bool false) ∧ u.cell? ⟨w.heap.size + 1 + 1, 1, none⟩ = some (.slice none 0 0) ∧ (∀ o, u.frozen? ⟨w.heap.size + 1 + 1, o, none⟩ = false) ∧ u.cell? ⟨w.heap.size + 1 + 1 + 1, 0, none⟩ = some (.bool false) ∧ u.cell? ⟨w.heap.size + 1 + 1 + 1, 1, none⟩ = some (.slice none 0 0) ∧ (∀ o, u.frozen? ⟨w.heap.size + 1 + 1 + 1, o, none⟩ = false)) ∧ NoU u (w.heap.size + 1 + 1) ∧ NoU u (w.heap.size + 1 + 1 + 1) ∧ w.heap.size + 1 + 1 + 1 < u.heap.size ∧ Grow w u := by
    intro u hg
    have hz := hg.size
    simp at hz
    refine ⟨⟨(hg.cells _ _ (by (try simp); try omega)).trans ?_, (hg.cells _ _ (by (try simp); try omega)).trans ?_, fun o => (hg.frees _ _ (by (try simp); try omega)).trans ?_, (hg.cells _ _ (by (try simp); try omega)).trans ?_, (hg.cells _ _ (by (try simp); try omega)).trans ?_, fun o => (hg.frees _ _ (by (try simp); try omega)).trans ?_⟩, ?_, ?_, by omega, Grow.trans (by (repeat (first | with_reducible exact Grow.refl _ | with_reducible refine Grow.alloc ?_ _ | with_reducible refine Grow.drew ?_ | with_reducible refine Grow.drewN ?_ _ | (with_reducible refine Grow.setCell ?_ ?hp _; (case hp => (simp; try omega))) | with_reducible refine Grow.trans ?_ (by assumption)))) hg⟩
    · go_simp
    · go_simp
    · go_simp
    · go_simp
    · go_simp
    · go_simp
    · have h := (NoU.alloc ((w.alloc (.cells #[.bool true, .slice a1 l1 c1] 25)).alloc (.cells #[.bool s2, .slice a2 1 c2] 25)) _ 25 (noU2 false none 0 0)).grow (by simp) ((Grow.refl _).alloc (.cells #[.bool false, .slice none 0 0] 25))
      simp at h
      exact h.grow (by (try simp); try omega) hg
    · have h := NoU.alloc (((w.alloc (.cells #[.bool true, .slice a1 l1 c1] 25)).alloc (.cells #[.bool s2, .slice a2 1 c2] 25)).alloc (.cells #[.bool false, .slice none 0 0] 25)) _ 25 (noU2 false none 0 0)
      simp at h
      exact h.grow (by (try simp); try omega) hg
  have R0 := Lib.hid r0
  clear c0 r0
  go_wp2_with (first
    | (go_at_call 45; first | ((with_reducible refine (T1.out _ (by (repeat (first | with_reducible exact Grow.refl _ | with_reducible refine Grow.alloc ?_ _ | with_reducible refine Grow.drew ?_ | with_reducible refine Grow.drewN ?_ _ | (with_reducible refine Grow.setCell ?_ ?hp _; (case hp => (simp; try omega))) | with_reducible refine Grow.trans ?_ (by assumption))))).mono ?_); (rintro e w2 ⟨rfl, rfl⟩)) | ((with_reducible refine (T2.out _ (by (repeat (first | with_reducible exact Grow.refl _ | with_reducible refine Grow.alloc ?_ _ | with_reducible refine Grow.drew ?_ | with_reducible refine Grow.drewN ?_ _ | (with_reducible refine Grow.setCell ?_ ?hp _; (case hp => (simp; try omega))) | with_reducible refine Grow.trans ?_ (by assumption))))).mono ?_); (rintro e w2 ⟨rfl, rfl⟩)))
    | (go_at_call 105; (with_reducible refine (DV.out _ (by (repeat (first | with_reducible exact Grow.refl _ | with_reducible refine Grow.alloc ?_ _ | with_reducible refine Grow.drew ?_ | with_reducible refine Grow.drewN ?_ _ | (with_reducible refine Grow.setCell ?_ ?hp _; (case hp => (simp; try omega))) | with_reducible refine Grow.trans ?_ (by assumption))))).mono ?_); (rintro e w3 ⟨mq, mr, rfl, hmq, hmr, hb3⟩; obtain ⟨d0, d1, d2, d3⟩ := C0.out w3 (by (repeat (first | with_reducible exact Grow.refl _ | with_reducible refine Grow.alloc ?_ _ | with_reducible refine Grow.drew ?_ | with_reducible refine Grow.drewN ?_ _ | (with_reducible refine Grow.setCell ?_ ?hp _; (case hp => (simp; try omega))) | with_reducible refine Grow.trans ?_ (by assumption)))); have hz3 := hb3.size; (try simp at hz3); have hz3b : w.heap.size + 1 < w3.heap.size := (by omega); have hz3c : w.heap.size < w3.heap.size := (by omega); obtain ⟨a9, c9, rfl⟩ := hmr.form; rw [if_pos hR0] at hmr ⊢))
    | (go_at_call 43; (with_reducible refine (SQ.out _ _ hmq.pad).mono ?_); (rintro e w7 ⟨m7, rfl, hm7, hb7⟩; obtain ⟨a7, c7, rfl⟩ := hm7.form; generalize (if Q = 0 then 0 else 1) = l7 at hm7 ⊢; have HM7 := Lib.hid hm7; clear hm7))
    | (go_at_call 43; (with_reducible refine (SR.out _ _ (hmr.grow hb7).pad).mono ?_); (rintro e w8 ⟨m8, rfl, hm8, hb8⟩; obtain ⟨a8, c8, rfl⟩ := hm8.form; generalize (if R = 0 then 0 else 1) = l8 at hm8 ⊢; have HM8 := Lib.hid hm8; clear hm8; obtain ⟨⟨q0, q1, qf, q2, q3, qg⟩, NA, NB, hz8, HB8⟩ := R0.out w8 (by (repeat (first | with_reducible exact Grow.refl _ | with_reducible refine Grow.alloc ?_ _ | with_reducible refine Grow.drew ?_ | with_reducible refine Grow.drewN ?_ _ | (with_reducible refine Grow.setCell ?_ ?hp _; (case hp => (simp; try omega))) | with_reducible refine Grow.trans ?_ (by assumption)))); have NU1 := Lib.hid NA; have NU2 := Lib.hid NB; have HB := Lib.hid HB8; have HM9 := Lib.hid (HM7.out.grow hb8); have hz8a : w.heap.size + 1 + 1 < w8.heap.size := (by omega); clear NA NB HB8)))
  (try simp only [Exit.inBlock, Exit.then])
  refine bodyPost_ret (v := .tuple #[.agg #[.bool D, .slice a7 l7 c7], .agg #[.bool false, .slice a8 l8 c8], .int .i64 0]) (by rw [results_cct rfl]; go_simp) rfl ⟨_, _, rfl, HM9.out.set22 NU1.out NU2.out _ _ _ _ _ _ _ _, HM8.out.set22 NU1.out NU2.out _ _ _ _ _ _ _ _, by have h9 := HB.out; (repeat (first | with_reducible exact Grow.refl _ | with_reducible refine Grow.alloc ?_ _ | with_reducible refine Grow.drew ?_ | with_reducible refine Grow.drewN ?_ _ | (with_reducible refine Grow.setCell ?_ ?hp _; (case hp => (simp; try omega))) | with_reducible refine Grow.trans ?_ (by assumption)))⟩
set_option maxRecDepth 20000 in
set_option maxHeartbeats 4000000 in
theorem dm_low (s2 : Bool) (n1 n2 : Nat) (m1 m2 : Value) (hn2 : 0 < n2) (hR0 : ¬ n1 % n2 = 0) (w : World) (h1 : MagR w m1 n1) (h2 : MagR w m2 n2) :
    Calls Tryz.prog 77 #[.agg #[.bool true, m1], .agg #[.bool s2, m2]] w fun e w' => ∃ q r, e = .returned (.tuple #[.agg #[.bool ((!s2) && decide (n1 / n2 + 1 ≠ 0)), q], .agg #[.bool false, r], .int .i64 0]) ∧ MagR w' q (n1 / n2 + 1) ∧ MagR w' r (n2 - n1 % n2) ∧ Grow w w' := by
  have hl1 := h1.lt
  have hl2 := h2.lt
  have hq1 : n1 / n2 ≤ n1 := Nat.div_le_self _ _
  have hr1 : n1 % n2 < n2 := Nat.mod_lt _ hn2
  have hQs : n1 / n2 + 1 < 4294967296 := by
    rcases Nat.lt_or_ge n2 2 with h | h
    · have e : n2 = 1 := by omega
      subst e
      exact absurd (Nat.mod_one n1) hR0
    · have : n1 / n2 ≤ n1 / 2 := Nat.div_le_div_left h (by omega)
      omega
  have DV := Lib.hid (fun u hu => divide_any m1 m2 n1 n2 hn2 u (h1.grow hu) (h2.grow hu))
  have T1 := Lib.hid (fun u hu => trimmed_mag m1 n1 u (h1.grow hu))
  have T2 := Lib.hid (fun u hu => trimmed_mag m2 n2 u (h2.grow hu))
  obtain ⟨Q, hQ⟩ : ∃ Q, n1 / n2 = Q := ⟨_, rfl⟩
  obtain ⟨R, hR⟩ : ∃ R, n1 % n2 = R := ⟨_, rfl⟩
  rw [hQ, hR] at DV ⊢
  rw [hQ] at hq1 hQs
  rw [hR] at hr1 hR0
  have PL := Lib.hid (fun mq mo u hq ho => plus_any mq mo Q 1 hQs u hq ho)
  have LS := Lib.hid (fun mr u hu hr => less_any m2 mr n2 R (by omega) u (h2.grow hu) hr)
  obtain ⟨Q', hQ'⟩ : ∃ Q', Q + 1 = Q' := ⟨_, rfl⟩
  obtain ⟨R', hR'⟩ : ∃ R', n2 - R = R' := ⟨_, rfl⟩
  rw [hQ'] at PL
  rw [hR'] at LS
  rw [hQ', hR']
  have SQ := Lib.hid (fun m u hu => signed_any (!s2) m Q' u hu)
  have SR := Lib.hid (fun m u hu => signed_any false m R' u hu)
  simp only [Bool.false_and] at SR
  obtain ⟨D, hD⟩ : ∃ D, ((!s2) && decide (Q' ≠ 0)) = D := ⟨_, rfl⟩
  rw [hD] at SQ ⊢
  obtain ⟨a1, c1, rfl⟩ := h1.form
  obtain ⟨a2, c2, rfl⟩ := h2.form
  rw [if_neg (show ¬ n2 = 0 by omega)] at *
  generalize (if n1 = 0 then 0 else 1) = l1 at *
  clear hD hQ hR hl1 hl2 hq1 hr1 h1 h2 hQs hQ' hR'
  go_enter Tryz.func77, Tryz.ntmps77
  go_wp2_with fail
  have c0 : ∀ u : World, Grow ((((w.alloc (.cells #[.bool true, .slice a1 l1 c1] 25)).alloc (.cells #[.bool s2, .slice a2 1 c2] 25)).alloc (.cells #[.bool false, .slice none 0 0] 25)).alloc (.cells #[.bool false, .slice none 0 0] 25)) u → u.cell? ⟨w.heap.size, 0, none⟩ = some (.bool true) ∧ u.cell? ⟨w.heap.size, 1, none⟩ = some (.slice a1 l1 c1) ∧ u.cell? ⟨w.heap.size + 1, 0, none⟩ = some (.bool s2) ∧ u.cell? ⟨w.heap.size + 1, 1, none⟩ = some (.slice a2 1 c2) := by
    intro u hg
    refine ⟨(hg.cells _ _ (by (try simp); try omega)).trans ?_, (hg.cells _ _ (by (try simp); try omega)).trans ?_, (hg.cells _ _ (by (try simp); try omega)).trans ?_, (hg.cells _ _ (by (try simp); try omega)).trans ?_⟩ <;> go_simp
  have C0 := Lib.hid c0
  have r0 : ∀ u : World, Grow ((((w.alloc (.cells #[.bool true, .slice a1 l1 c1] 25)).alloc (.cells #[.bool s2, .slice a2 1 c2] 25)).alloc (.cells #[.bool false, .slice none 0 0] 25)).alloc (.cells #[.bool false, .slice none 0 0] 25)) u → (u.cell? ⟨w.heap.size + 1 + 1, 0, none⟩ = some (.bool false) ∧ u.cell? ⟨w.heap.size + 1 + 1, 1, none⟩ = some (.slice none 0 0) ∧ (∀ o, u.frozen? ⟨w.heap.size + 1 + 1, o, none⟩ = false) ∧ u.cell? ⟨w.heap.size + 1 + 1 + 1, 0, none⟩ = some (.bool false) ∧ u.cell? ⟨w.heap.size + 1 + 1 + 1, 1, none⟩ = some (.slice none 0 0) ∧ (∀ o, u.frozen? ⟨w.heap.size + 1 + 1 + 1, o, none⟩ = false)) ∧ NoU u (w.heap.size + 1 + 1) ∧ NoU u (w.heap.size + 1 + 1 + 1) ∧ w.heap.size + 1 + 1 + 1 < u.heap.size ∧ Grow w u := by
    intro u hg
    have hz := hg.size
    simp at hz
    refine ⟨⟨(hg.cells _ _ (by (try simp); try omega)).trans ?_, (hg.cells _ _ (by (try simp); try omega)).trans ?_, fun o => (hg.frees _ _ (by (try simp); try omega)).trans ?_, (hg.cells _ _ (by (try simp); try omega)).trans ?_, (hg.cells _ _ (by (try simp); try omega)).trans ?_, fun o => (hg.frees _ _ (by (try simp); try omega)).trans ?_⟩, ?_, ?_, by omega, Grow.trans (by (repeat (first | with_reducible exact Grow.refl _ | with_reducible refine Grow.alloc ?_ _ | with_reducible refine Grow.drew ?_ | with_reducible refine Grow.drewN ?_ _ | (with_reducible refine Grow.setCell ?_ ?hp _; (case hp => (simp; try omega))) | with_reducible refine Grow.trans ?_ (by assumption)))) hg⟩
    · go_simp
    · go_simp
    · go_simp
    · go_simp
    · go_simp
    · go_simp
    · have h := (NoU.alloc ((w.alloc (.cells #[.bool true, .slice a1 l1 c1] 25)).alloc (.cells #[.bool s2, .slice a2 1 c2] 25)) _ 25 (noU2 false none 0 0)).grow (by simp) ((Grow.refl _).alloc (.cells #[.bool false, .slice none 0 0] 25))
      simp at h
      exact h.grow (by (try simp); try omega) hg
    · have h := NoU.alloc (((w.alloc (.cells #[.bool true, .slice a1 l1 c1] 25)).alloc (.cells #[.bool s2, .slice a2 1 c2] 25)).alloc (.cells #[.bool false, .slice none 0 0] 25)) _ 25 (noU2 false none 0 0)
      simp at h
      exact h.grow (by (try simp); try omega) hg
  have R0 := Lib.hid r0
  clear c0 r0
  go_wp2_with (first
    | (go_at_call 45; first | ((with_reducible refine (T1.out _ (by (repeat (first | with_reducible exact Grow.refl _ | with_reducible refine Grow.alloc ?_ _ | with_reducible refine Grow.drew ?_ | with_reducible refine Grow.drewN ?_ _ | (with_reducible refine Grow.setCell ?_ ?hp _; (case hp => (simp; try omega))) | with_reducible refine Grow.trans ?_ (by assumption))))).mono ?_); (rintro e w2 ⟨rfl, rfl⟩)) | ((with_reducible refine (T2.out _ (by (repeat (first | with_reducible exact Grow.refl _ | with_reducible refine Grow.alloc ?_ _ | with_reducible refine Grow.drew ?_ | with_reducible refine Grow.drewN ?_ _ | (with_reducible refine Grow.setCell ?_ ?hp _; (case hp => (simp; try omega))) | with_reducible refine Grow.trans ?_ (by assumption))))).mono ?_); (rintro e w2 ⟨rfl, rfl⟩)))
    | (go_at_call 105; (with_reducible refine (DV.out _ (by (repeat (first | with_reducible exact Grow.refl _ | with_reducible refine Grow.alloc ?_ _ | with_reducible refine Grow.drew ?_ | with_reducible refine Grow.drewN ?_ _ | (with_reducible refine Grow.setCell ?_ ?hp _; (case hp => (simp; try omega))) | with_reducible refine Grow.trans ?_ (by assumption))))).mono ?_); (rintro e w3 ⟨mq, mr, rfl, hmq, hmr, hb3⟩; obtain ⟨d0, d1, d2, d3⟩ := C0.out w3 (by (repeat (first | with_reducible exact Grow.refl _ | with_reducible refine Grow.alloc ?_ _ | with_reducible refine Grow.drew ?_ | with_reducible refine Grow.drewN ?_ _ | (with_reducible refine Grow.setCell ?_ ?hp _; (case hp => (simp; try omega))) | with_reducible refine Grow.trans ?_ (by assumption)))); have hz3 := hb3.size; (try simp at hz3); have hz3b : w.heap.size + 1 < w3.heap.size := (by omega); have hz3c : w.heap.size < w3.heap.size := (by omega); obtain ⟨a9, c9, rfl⟩ := hmr.form; rw [if_neg hR0] at hmr ⊢))
    | (go_at_call 73; (refine (PL.out mq _ _ (hmq.grow (by (repeat (first | with_reducible exact Grow.refl _ | with_reducible refine Grow.alloc ?_ _ | with_reducible refine Grow.drew ?_ | with_reducible refine Grow.drewN ?_ _ | (with_reducible refine Grow.setCell ?_ ?hp _; (case hp => (simp; try omega))) | with_reducible refine Grow.trans ?_ (by assumption))))) (.inr ⟨by omega, by omega, w3.heap.size, 0, 1, rfl, by omega, by simp, by go_simp⟩)).mono ?_); (rintro e w4 ⟨mp, rfl, hmp, hb4⟩; have HR4 := Lib.hid (hmr.grow (Grow.trans (Grow.alloc (Grow.refl w3) _) hb4))))
    | (go_at_call 75; (with_reducible refine (LS.out _ _ (by (repeat (first | with_reducible exact Grow.refl _ | with_reducible refine Grow.alloc ?_ _ | with_reducible refine Grow.drew ?_ | with_reducible refine Grow.drewN ?_ _ | (with_reducible refine Grow.setCell ?_ ?hp _; (case hp => (simp; try omega))) | with_reducible refine Grow.trans ?_ (by assumption)))) HR4.out).mono ?_); (rintro e w5 ⟨ml, rfl, hml, hb5⟩; obtain ⟨d0, d1, d2, d3⟩ := C0.out w5 (by (repeat (first | with_reducible exact Grow.refl _ | with_reducible refine Grow.alloc ?_ _ | with_reducible refine Grow.drew ?_ | with_reducible refine Grow.drewN ?_ _ | (with_reducible refine Grow.setCell ?_ ?hp _; (case hp => (simp; try omega))) | with_reducible refine Grow.trans ?_ (by assumption)))); obtain ⟨-, -, -, hz5, -⟩ := R0.out w5 (by (repeat (first | with_reducible exact Grow.refl _ | with_reducible refine Grow.alloc ?_ _ | with_reducible refine Grow.drew ?_ | with_reducible refine Grow.drewN ?_ _ | (with_reducible refine Grow.setCell ?_ ?hp _; (case hp => (simp; try omega))) | with_reducible refine Grow.trans ?_ (by assumption)))); have hz5b : w.heap.size + 1 < w5.heap.size := (by omega); have hz5c : w.heap.size < w5.heap.size := (by omega)))
    | (go_at_call 43; (with_reducible refine (SQ.out _ _ (hmp.grow hb5)).mono ?_); (rintro e w7 ⟨m7, rfl, hm7, hb7⟩; obtain ⟨a7, c7, rfl⟩ := hm7.form; generalize (if Q' = 0 then 0 else 1) = l7 at hm7 ⊢; have HM7 := Lib.hid hm7; clear hm7))
    | (go_at_call 43; (with_reducible refine (SR.out _ _ (hml.grow hb7)).mono ?_); (rintro e w8 ⟨m8, rfl, hm8, hb8⟩; obtain ⟨a8, c8, rfl⟩ := hm8.form; generalize (if R' = 0 then 0 else 1) = l8 at hm8 ⊢; have HM8 := Lib.hid hm8; clear hm8; obtain ⟨⟨q0, q1, qf, q2, q3, qg⟩, NA, NB, hz8, HB8⟩ := R0.out w8 (by (repeat (first | with_reducible exact Grow.refl _ | with_reducible refine Grow.alloc ?_ _ | with_reducible refine Grow.drew ?_ | with_reducible refine Grow.drewN ?_ _ | (with_reducible refine Grow.setCell ?_ ?hp _; (case hp => (simp; try omega))) | with_reducible refine Grow.trans ?_ (by assumption)))); have NU1 := Lib.hid NA; have NU2 := Lib.hid NB; have HB := Lib.hid HB8; have HM9 := Lib.hid (HM7.out.grow hb8); have hz8a : w.heap.size + 1 + 1 < w8.heap.size := (by omega); clear NA NB HB8)))
  (try simp only [Exit.inBlock, Exit.then])
  refine bodyPost_ret (v := .tuple #[.agg #[.bool D, .slice a7 l7 c7], .agg #[.bool false, .slice a8 l8 c8], .int .i64 0]) (by rw [results_cct rfl]; go_simp) rfl ⟨_, _, rfl, HM9.out.set22 NU1.out NU2.out _ _ _ _ _ _ _ _, HM8.out.set22 NU1.out NU2.out _ _ _ _ _ _ _ _, by have h9 := HB.out; (repeat (first | with_reducible exact Grow.refl _ | with_reducible refine Grow.alloc ?_ _ | with_reducible refine Grow.drew ?_ | with_reducible refine Grow.drewN ?_ _ | (with_reducible refine Grow.setCell ?_ ?hp _; (case hp => (simp; try omega))) | with_reducible refine Grow.trans ?_ (by assumption)))⟩
end Go.Proofs.YtbpkfcohbefphaaGreatDoor
