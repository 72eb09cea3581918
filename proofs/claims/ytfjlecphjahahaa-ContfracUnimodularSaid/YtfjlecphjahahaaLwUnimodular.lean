/- The matrix of two Farey neighbours is that of the reference, or the error is; it maps 0 and infinity to them. No condition: every two cusps. -/
import Derived.Test.YtfjlecphjahahaaCfZ
import Derived.Test.YtfjlecphjahahaaCfI
import Derived.Test.YtfjlecphjahahaaCfO
import Derived.Test.YtfjlecphjahahaaSlE
import Derived.Test.YtfjlecphjahahaaPlE
namespace Go.Proofs.Ytfjlecphjahahaa.unimodular
open Go Go.RowKit Go.ChangeShapes Go.WideShapes Go.ChangeAt

theorem uni_spec {a b : C2} (h : ckF a b = 0) (hd : cross b a = 1 ∨ cross b a = -1) (m : M2) (hm : m = ⟨b.p, cross b a * a.p, b.q, cross b a * a.q⟩) : applyF m ⟨0, 1⟩ = (a, 0) ∧ applyF m ⟨1, 0⟩ = (b, 0) ∧ checkF m = 0 := by
  obtain ⟨ha, hb⟩ := ckF_zero.1 h
  obtain ⟨a1, a2, na⟩ := cc_norm.1 ha
  obtain ⟨b1, b2, nb⟩ := cc_norm.1 hb
  have a3 := inB_iff.1 a1
  have a4 := inB_iff.1 a2
  obtain ⟨d, hdd⟩ : ∃ d, cross b a = d := ⟨_, rfl⟩
  rw [hdd] at hd hm
  simp only [cross] at hdd
  have hd2 : d * d = 1 := by rcases hd with h | h <;> rw [h] <;> rfl
  have hdet : m.det = 1 := by rw [hm]; simp only [M2.det]; grind
  have hfit : m.fits = true := by
    rw [hm]
    simp only [M2.fits]
    refine fitsB_iff.2 ⟨b1, ?_, b2, ?_⟩
    · rw [inB_iff]; rcases hd with h | h <;> rw [h] <;> omega
    · rw [inB_iff]; rcases hd with h | h <;> rw [h] <;> omega
  have hne0 : ¬ (a.p = 0 ∧ a.q = 0) := cc_ne ha
  have hne1 : ¬ (b.p = 0 ∧ b.q = 0) := cc_ne hb
  have i0 : m.img ⟨0, 1⟩ = a := by
    rw [hm]
    simp only [M2.img, Int.mul_zero, Int.mul_one, Int.zero_add]
    refine low_eq (fun h => hne0 ?_) na (by grind)
    rcases hd with h2 | h2 <;> rw [h2] at h <;> omega
  have i1 : m.img ⟨1, 0⟩ = b := by
    rw [hm]
    simp only [M2.img, Int.mul_zero, Int.mul_one, Int.add_zero]
    exact low_eq hne1 nb (by rw [Int.mul_comm])
  have q0 : ccF ⟨0, 1⟩ = 0 := by decide
  have q1 : ccF ⟨1, 0⟩ = 0 := by decide
  refine ⟨?_, ?_, checkF_zero.2 ⟨hfit, hdet⟩⟩
  · unfold applyF
    rw [if_pos hfit, if_neg (by rw [hdet]; omega), if_pos q0, i0, if_pos (by simp [a1, a2])]
  · unfold applyF
    rw [if_pos hfit, if_neg (by rw [hdet]; omega), if_pos q1, i1, if_pos (by simp [b1, b2])]

set_option maxHeartbeats 2000000 in
theorem walk_err (a b : C2) (m : M2) (er : Int) (he : er ≠ 0) (X : Hid (∀ w, Calls Try.prog 33 #[.agg #[.int .i64 a.p, .int .i64 a.q], .agg #[.int .i64 b.p, .int .i64 b.q]] w fun e w' => e = .returned (.tuple #[.agg #[.int .i64 m.a, .int .i64 m.b, .int .i64 m.c, .int .i64 m.d], .int .i64 er]) ∧ Grow w w'))
    (Y : Hid (∀ w, Calls Try.prog 34 #[.agg #[.int .i64 a.p, .int .i64 a.q], .agg #[.int .i64 b.p, .int .i64 b.q]] w fun e w' => e = .returned (.tuple #[.agg #[.int .i64 m.a, .int .i64 m.b, .int .i64 m.c, .int .i64 m.d], .int .i64 er]) ∧ Grow w w')) (w : World) :
    Calls Try.prog 12 #[.agg #[.int .i64 a.p, .int .i64 a.q], .agg #[.int .i64 b.p, .int .i64 b.q]] w fun ex w' => ex = .returned (.bool true) ∧ Grow w w' := by
  have k1 : (er == 0) = false := by simpa using he
  have k2 : (er != 0) = true := by simpa using he
  clear he
  go_enter Try.func12, Try.ntmps12
  go_wp2_with fail
  (go_at_call 13; refine (awake19_any _).mono ?_; rintro e w1 ⟨rfl, hb1⟩; have hc1 := hb1.cells; have hf1 := hb1.frees; have hz1 := hb1.size; (try simp at hz1))
  have z1a : w.heap.size < w1.heap.size := by omega
  have z1b : w.heap.size + 1 < w1.heap.size := by omega
  have c0 : w1.cell? ⟨w.heap.size, 0, none⟩ = some (.int .i64 a.p) := by rw [hc1 _ _ (by simp; try omega)]; go_simp
  have c1 : w1.cell? ⟨w.heap.size, 1, none⟩ = some (.int .i64 a.q) := by rw [hc1 _ _ (by simp; try omega)]; go_simp
  have c2 : w1.cell? ⟨w.heap.size + 1, 0, none⟩ = some (.int .i64 b.p) := by rw [hc1 _ _ (by simp; try omega)]; go_simp
  have c3 : w1.cell? ⟨w.heap.size + 1, 1, none⟩ = some (.int .i64 b.q) := by rw [hc1 _ _ (by simp; try omega)]; go_simp
  have hG1 : Grow w w1 := by (repeat (first | with_reducible exact Grow.refl _ | with_reducible refine Grow.alloc ?_ _ | with_reducible refine Grow.drew ?_ | with_reducible refine Grow.drewN ?_ _ | (with_reducible refine Grow.setCell ?_ ?hp _; (case hp => (simp; try omega))) | with_reducible refine Grow.trans ?_ (by assumption)))
  clear hc1 hf1 hb1 hz1
  go_wp2_with fail
  (go_at_call 33; refine (X.out _).mono ?_; rintro e w2 ⟨rfl, hb2⟩; have hc2 := hb2.cells; have hf2 := hb2.frees; have hz2 := hb2.size; (try simp at hz2))
  have z2a : w.heap.size < w2.heap.size := by omega
  have z2b : w.heap.size + 1 < w2.heap.size := by omega
  go_wp2_with fail
  (go_at_call 34; refine (Y.out _).mono ?_; rintro e w3 ⟨rfl, hb3⟩; have hc3 := hb3.cells; have hf3 := hb3.frees; have hz3 := hb3.size; (try simp at hz3))
  have z3a : w.heap.size < w3.heap.size := by omega
  have z3b : w.heap.size + 1 < w3.heap.size := by omega
  have z3c : w2.heap.size < w3.heap.size := by omega
  go_wp2_with fail
  go_ret
  have hG2 := hG1.trans hb2
  clear hb2
  exact ⟨rfl, by (repeat (first | with_reducible exact Grow.refl _ | with_reducible refine Grow.alloc ?_ _ | with_reducible refine Grow.drew ?_ | with_reducible refine Grow.drewN ?_ _ | (with_reducible refine Grow.setCell ?_ ?hp _; (case hp => (simp; try omega))) | with_reducible refine Grow.trans ?_ (by assumption)))⟩

set_option maxHeartbeats 2000000 in
theorem walk_ok (a b : C2) (m : M2) (X : Hid (∀ w, Calls Try.prog 33 #[.agg #[.int .i64 a.p, .int .i64 a.q], .agg #[.int .i64 b.p, .int .i64 b.q]] w fun e w' => e = .returned (.tuple #[.agg #[.int .i64 m.a, .int .i64 m.b, .int .i64 m.c, .int .i64 m.d], .int .i64 0]) ∧ Grow w w'))
    (Y : Hid (∀ w, Calls Try.prog 34 #[.agg #[.int .i64 a.p, .int .i64 a.q], .agg #[.int .i64 b.p, .int .i64 b.q]] w fun e w' => e = .returned (.tuple #[.agg #[.int .i64 m.a, .int .i64 m.b, .int .i64 m.c, .int .i64 m.d], .int .i64 0]) ∧ Grow w w'))
    (A0 : Hid (∀ w, Calls Try.prog 35 #[.agg #[.int .i64 m.a, .int .i64 m.b, .int .i64 m.c, .int .i64 m.d], .agg #[.int .i64 0, .int .i64 1]] w fun e w' => e = .returned (.tuple #[.agg #[.int .i64 a.p, .int .i64 a.q], .int .i64 0]) ∧ Grow w w'))
    (A1 : Hid (∀ w, Calls Try.prog 35 #[.agg #[.int .i64 m.a, .int .i64 m.b, .int .i64 m.c, .int .i64 m.d], .agg #[.int .i64 1, .int .i64 0]] w fun e w' => e = .returned (.tuple #[.agg #[.int .i64 b.p, .int .i64 b.q], .int .i64 0]) ∧ Grow w w'))
    (CK : Hid (∀ w, Calls Try.prog 36 #[.agg #[.int .i64 m.a, .int .i64 m.b, .int .i64 m.c, .int .i64 m.d]] w fun e w' => e = .returned (.int .i64 0) ∧ Grow w w')) (w : World) :
    Calls Try.prog 12 #[.agg #[.int .i64 a.p, .int .i64 a.q], .agg #[.int .i64 b.p, .int .i64 b.q]] w fun ex w' => ex = .returned (.bool true) ∧ Grow w w' := by
  go_enter Try.func12, Try.ntmps12
  go_wp2_with fail
  (go_at_call 13; refine (awake19_any _).mono ?_; rintro e w1 ⟨rfl, hb1⟩; have hc1 := hb1.cells; have hf1 := hb1.frees; have hz1 := hb1.size; (try simp at hz1))
  have z1a : w.heap.size < w1.heap.size := by omega
  have z1b : w.heap.size + 1 < w1.heap.size := by omega
  have c0 : w1.cell? ⟨w.heap.size, 0, none⟩ = some (.int .i64 a.p) := by rw [hc1 _ _ (by simp; try omega)]; go_simp
  have c1 : w1.cell? ⟨w.heap.size, 1, none⟩ = some (.int .i64 a.q) := by rw [hc1 _ _ (by simp; try omega)]; go_simp
  have c2 : w1.cell? ⟨w.heap.size + 1, 0, none⟩ = some (.int .i64 b.p) := by rw [hc1 _ _ (by simp; try omega)]; go_simp
  have c3 : w1.cell? ⟨w.heap.size + 1, 1, none⟩ = some (.int .i64 b.q) := by rw [hc1 _ _ (by simp; try omega)]; go_simp
  have hG1 : Grow w w1 := by (repeat (first | with_reducible exact Grow.refl _ | with_reducible refine Grow.alloc ?_ _ | with_reducible refine Grow.drew ?_ | with_reducible refine Grow.drewN ?_ _ | (with_reducible refine Grow.setCell ?_ ?hp _; (case hp => (simp; try omega))) | with_reducible refine Grow.trans ?_ (by assumption)))
  clear hc1 hf1 hb1 hz1
  go_wp2_with fail
  (go_at_call 33; refine (X.out _).mono ?_; rintro e w2 ⟨rfl, hb2⟩; have hc2 := hb2.cells; have hf2 := hb2.frees; have hz2 := hb2.size; (try simp at hz2))
  have z2a : w.heap.size < w2.heap.size := by omega
  have z2b : w.heap.size + 1 < w2.heap.size := by omega
  go_wp2_with fail
  (go_at_call 34; refine (Y.out _).mono ?_; rintro e w3 ⟨rfl, hb3⟩; have hc3 := hb3.cells; have hf3 := hb3.frees; have hz3 := hb3.size; (try simp at hz3))
  have z3a : w.heap.size < w3.heap.size := by omega
  have z3b : w.heap.size + 1 < w3.heap.size := by omega
  have z3c : w2.heap.size < w3.heap.size := by omega
  go_wp2_with fail
  (go_at_call 35; refine (A0.out _).mono ?_; rintro e w4 ⟨rfl, hb4⟩; have hc4 := hb4.cells; have hf4 := hb4.frees; have hz4 := hb4.size; (try simp at hz4))
  have z4a : w.heap.size < w4.heap.size := by omega
  have z4b : w.heap.size + 1 < w4.heap.size := by omega
  have z4c : w2.heap.size < w4.heap.size := by omega
  go_wp2_with fail
  (go_at_call 35; refine (A1.out _).mono ?_; rintro e w5 ⟨rfl, hb5⟩; have hc5 := hb5.cells; have hf5 := hb5.frees; have hz5 := hb5.size; (try simp at hz5))
  have z5a : w.heap.size < w5.heap.size := by omega
  have z5b : w.heap.size + 1 < w5.heap.size := by omega
  have z5c : w2.heap.size < w5.heap.size := by omega
  have z5d : w4.heap.size < w5.heap.size := by omega
  go_wp2_with (go_at_call 36; refine (CK.out _).mono ?_; rintro e w6 ⟨rfl, hb6⟩; have hc6 := hb6.cells; have hf6 := hb6.frees; have hz6 := hb6.size; (try simp at hz6); have z6a : w.heap.size < w6.heap.size := (by omega); have z6b : w.heap.size + 1 < w6.heap.size := (by omega); have z6d : w4.heap.size < w6.heap.size := (by omega); have z6e : w5.heap.size < w6.heap.size := (by omega))
  have hG2 := hG1.trans hb2
  have hG3 : Grow w w3 := by clear hb2; (repeat (first | with_reducible exact Grow.refl _ | with_reducible refine Grow.alloc ?_ _ | with_reducible refine Grow.drew ?_ | with_reducible refine Grow.drewN ?_ _ | (with_reducible refine Grow.setCell ?_ ?hp _; (case hp => (simp; try omega))) | with_reducible refine Grow.trans ?_ (by assumption)))
  have hG4 : Grow w w4 := by clear hb2 hb3 hG2; (repeat (first | with_reducible exact Grow.refl _ | with_reducible refine Grow.alloc ?_ _ | with_reducible refine Grow.drew ?_ | with_reducible refine Grow.drewN ?_ _ | (with_reducible refine Grow.setCell ?_ ?hp _; (case hp => (simp; try omega))) | with_reducible refine Grow.trans ?_ (by assumption)))
  have hG5 : Grow w w5 := by clear hb2 hb3 hG2 hb4 hG3; (repeat (first | with_reducible exact Grow.refl _ | with_reducible refine Grow.alloc ?_ _ | with_reducible refine Grow.drew ?_ | with_reducible refine Grow.drewN ?_ _ | (with_reducible refine Grow.setCell ?_ ?hp _; (case hp => (simp; try omega))) | with_reducible refine Grow.trans ?_ (by assumption)))
  have hG6 : Grow w w6 := by clear hb2 hb3 hG2 hb4 hG3 hb5 hG4; (repeat (first | with_reducible exact Grow.refl _ | with_reducible refine Grow.alloc ?_ _ | with_reducible refine Grow.drew ?_ | with_reducible refine Grow.drewN ?_ _ | (with_reducible refine Grow.setCell ?_ ?hp _; (case hp => (simp; try omega))) | with_reducible refine Grow.trans ?_ (by assumption)))
  go_ret
  exact ⟨rfl, hG6⟩

theorem walk (a b : C2) (w : World) : Calls Try.prog 12 #[.agg #[.int .i64 a.p, .int .i64 a.q], .agg #[.int .i64 b.p, .int .i64 b.q]] w fun ex w' => ex = .returned (.bool true) ∧ Grow w w' := by
  have X := Lib.hid (fun w => uni_any a b w)
  have Y := Lib.hid (fun w => refuni_any a b w)
  by_cases h : ckF a b = 0
  · by_cases hd : cross b a = 1 ∨ cross b a = -1
    · have e : uniF a b = (⟨b.p, cross b a * a.p, b.q, cross b a * a.q⟩, 0) := by unfold uniF; rw [if_pos h, if_pos hd]
      rw [e] at X Y
      obtain ⟨m, hm⟩ : ∃ m : M2, m = ⟨b.p, cross b a * a.p, b.q, cross b a * a.q⟩ := ⟨_, rfl⟩
      rw [← hm] at X Y
      obtain ⟨s1, s2, s3⟩ := uni_spec h hd m hm
      have A0 := Lib.hid (fun w => apply_any m ⟨0, 1⟩ w)
      have A1 := Lib.hid (fun w => apply_any m ⟨1, 0⟩ w)
      have CK := Lib.hid (fun w => check_any m w)
      rw [s1] at A0
      rw [s2] at A1
      rw [s3] at CK
      exact walk_ok a b m X Y A0 A1 CK w
    · have e : uniF a b = (M2.zero, 3) := by unfold uniF; rw [if_pos h, if_neg hd]
      rw [e] at X Y
      exact walk_err a b M2.zero 3 (by decide) X Y w
  · have e : uniF a b = (M2.zero, ckF a b) := by unfold uniF; rw [if_neg h]
    rw [e] at X Y
    exact walk_err a b M2.zero _ h X Y w

set_option maxRecDepth 100000 in
theorem lifted (os : Os) (started : os.Started) (H : Type) (enc : TypeId × Value → H) :
    ReturnsInHanded {} Try.checked os 12 .any (Rows.contfracUnimodularSpec.pre6 enc Try.prog Try.f12 Rows.contfracUnimodularRow.domain false) (Rows.contfracUnimodularSpec.post enc Try.prog Try.f12 false true false false) := by
  refine returnsInHanded_of_change (C := Try.checked) own started (by kernel_rfl) Try.func12
    (ChangeSpec.witness6 (enc := enc) (C := Try.checked) false ⟨#[], #[.agg #[.int .i64 0, .int .i64 0], .agg #[.int .i64 0, .int .i64 0]], []⟩ 8 (by kernel_rfl) (by kernel_rfl) (by kernel_rfl) (by kernel_rfl)) ?_
  intro W base args ds gs before hval0 hW hcnd _
  have hval : ∀ (j : Nat) t v, Try.f12.params[j]? = some t → args[j]? = some v → Value.okWide Try.prog W .any base t v := hval0
  have hW' := hW
  obtain ⟨p, q, hA0, hV, rfl, -, -⟩ := hW
  have hA : DataW.TrodAll enc Try.prog W 0 (fun _ => true) true Try.f12.params.toList args.toList ds p := hA0
  rw [Try.params12] at hA hval
  obtain ⟨v0, vs0, d0, ds0, p0, q0, hargs, rfl, rfl, h0, r0⟩ := trodAll_cons hA
  obtain ⟨v1, vs1, d1, ds1, p1, q1, rfl, rfl, rfl, h1, r1⟩ := trodAll_cons r0
  obtain ⟨rfl, rfl, rfl⟩ := trodAll_nil r1
  obtain rfl : args = #[v0, v1] := by cases args; simp_all
  obtain ⟨rfl, rfl⟩ := trodVars_none hV
  obtain ⟨a0, rfl, c0⟩ := open_cusp (hval 0 29 v0 rfl rfl) h0
  obtain ⟨a1, rfl, c1⟩ := open_cusp (hval 1 29 v1 rfl rfl) h1
  clear hA0 hval0
  refine (walk a0 a1 W).mono fun e W' ⟨he, hg⟩ => ?_
  subst he
  exact ⟨_, rfl, law_post 4 rfl Try.underlying4 laidOut (of_decide_eq_true (by kernel_rfl)) rfl hW' rfl hg⟩

theorem over : Rows.contfracUnimodularRow.holds Try.pinned (OpenSpec.ofChange Rows.contfracUnimodularSpec) :=
  OpenClaim.holds_of_wide 12 Try.f12 rfl rfl rfl rfl rfl rfl rfl ⟨rfl, rfl, rfl, rfl, rfl⟩ rfl rfl rfl rfl rfl (by kernel_rfl) Try.func12 (by kernel_rfl)
    (of_decide_eq_true (by kernel_rfl)) (by unfold Func.isWrapper; rw [if_neg (by decide +kernel)]; exact ⟨rfl, rfl⟩)
    (fun os started H enc _ => lifted os started H enc)

theorem proved : Rows.ContfracUnimodularSaid := over
end Go.Proofs.Ytfjlecphjahahaa.unimodular
