/- Lemmas, plain laws and walks that the statement LwClassNumber leans on (texts BnF, DvA, DvB, DvT, DvU, DvV), conditions as each theorem says. -/
import Derived.Test.YtbpkfcohbefphaaGreatDoorTopCnG14
import Derived.Test.YtbpkfcohbefphaaGreatDoorTopCnG16
import Derived.Test.YtbpkfcohbefphaaGreatDoorTopCnG17
import Derived.Test.YtbpkfcohbefphaaGreatDoorTopCnG18
import Derived.Test.YtbpkfcohbefphaaGreatDoorTopCnG23

namespace Go.Proofs.YtbpkfcohbefphaaGreatDoor
open Go Go.RowKit
/-- The summand at k + 1: the first Bernoulli polynomial at (k + 1) / f. -/
def suN (f k : Nat) : Rat := ((2 * ((k : Int) + 1) - (f : Int) : Int) : Rat) / ((2 * (f : Int) : Int) : Rat)
theorem su_eq (f k : Nat) (hf : 0 < f) : Rat.divInt ((k : Int) + 1) (f : Int) + mkRat (-1) 2 = suN f k := by
  have h1 : mkRat (-1) 2 = Rat.divInt (-1) 2 := rfl
  rw [h1, Rat.divInt_add_divInt _ _ (by omega) (by omega)]
  unfold suN
  rw [← Rat.divInt_eq_div]
  congr 1 <;> omega
theorem dq_mul (D : Int) (a b : Int) : ((a : Int) : Rat) * (((b : Int) : Rat) / ((D : Int) : Rat)) = ((a * b : Int) : Rat) / ((D : Int) : Rat) := by
  rw [Rat.intCast_mul, Rat.div_def, Rat.div_def, Rat.mul_assoc]
theorem dq_add (D : Int) (a b : Int) : ((a : Int) : Rat) / ((D : Int) : Rat) + ((b : Int) : Rat) / ((D : Int) : Rat) = ((a + b : Int) : Rat) / ((D : Int) : Rat) := by
  rw [Rat.intCast_add, Rat.div_def, Rat.div_def, Rat.div_def, Rat.add_mul]
theorem sm_dq (D a : Int) (n m : Nat) (hD : 0 < D) (ha : a.natAbs ≤ n) (hm : D ≤ (m : Int)) : Sm (((a : Int) : Rat) / ((D : Int) : Rat)) n m := (sm_frac a hD).mono ha (by omega)
set_option maxRecDepth 20000 in
set_option maxHeartbeats 8000000 in
theorem summandsQ (f : Nat) (hf : 1 ≤ f) (hf2 : f ≤ 60) (w : World) : Calls Tryz.prog 33 #[.int .i64 1, .int .i64 (f : Int)] w fun e w' => ∃ g c, e = .returned (.slice (some ⟨g, 0, none⟩) f c) ∧ RowQ w' g 0 f (suN f) ∧ Grow w w' ∧ w.heap.size ≤ g := by
  obtain ⟨ir, hir, irz0, irz1, irz2⟩ := info_parts infoRat
  have PO := Lib.hid (fun u => poly1Q u)
  have OFF := Lib.hid (fun u => ofQ (f : Int) (by omega) u)
  have PW := Lib.hid (fun (v : Value) (u : World) (h : RatR u v ((f : Int) : Rat)) => pow0Q _ v u h)
  have OI := Lib.hid (fun u => ofV (f : Int) (by omega) u)
  have m0 : IntKind.i64.wrap 0 = 0 := by decide
  go_enter Tryz.func33, Tryz.ntmps33
  go_upto_region 2 with (go_at_call 56; (with_reducible refine (PO.out _).mono ?_); (rintro e u2 ⟨G, rfl, hr2, hb2⟩; have HR2 := Lib.hid hr2; have HG2 := Lib.hid hb2; clear hr2 hb2))
  go_upto_region 3 with (first
    | (go_at_call 20; (with_reducible refine (OFF.out _).mono ?_); (rintro e u3 ⟨v3, rfl, hv3, hb3⟩; obtain ⟨s3, a3, l3, c3, t3, b3, k3, e3, rfl⟩ := hv3.form; have HV3 := Lib.hid hv3; have HG3 := Lib.hid hb3; clear hv3 hb3))
    | (go_at_call 57; (with_reducible refine (PW.out _ _ HV3.out).mono ?_); (rintro e u4 ⟨v4, rfl, hv4, hb4⟩; obtain ⟨s4, a4, l4, c4, t4, b4, k4, e4, rfl⟩ := hv4.form; have HV4 := Lib.hid hv4; have HG4 := Lib.hid hb4; clear hv4 hb4)))
  obtain ⟨W5, hW5⟩ : ∃ W5 : World, W5 = u4.alloc (.cells #[.bool s4, .slice a4 l4 c4, .bool t4, .slice b4 k4 e4] 27) := ⟨_, rfl⟩
  rw [← hW5]
  have HX5 := Lib.hid (rowq_lay hW5 HV4.out)
  have HR5 := Lib.hid (RowP.grow HR2.out (HG3.out.trans (HG4.out.trans (ag hW5))))
  have HG5 := Lib.hid (HG2.out.trans (HG3.out.trans (HG4.out.trans (ag hW5))))
  obtain ⟨X, hX⟩ : ∃ X, u4.heap.size = X := ⟨_, rfl⟩
  rw [hX] at HX5
  rw [hX]
  obtain ⟨B0, hB0⟩ : ∃ B0, W5.heap.size = B0 := ⟨_, rfl⟩
  have hB0w : w.heap.size ≤ B0 := by rw [← hB0]; exact HG5.out.size
  clear hW5 hX HR2 HG2 HV3 HG3 HV4 HG4 m0 PO OFF PW
  go_wp2_with fail
  go_loopg [8, 9] f (fun gk t8 t9 wr => ∃ (k : Nat) (a : Option Addr) (c : Nat) (xs : List Value), t8 = .slice a k c ∧ t9 = .int .i64 ((k + 1 : Nat) : Int) ∧ k ≤ f ∧ Hid (gk = f - k) ∧ Hid (OwnG wr B0 27 4 (.slice a k c) k xs) ∧ Hid (ListR wr xs k (suN f)) ∧ Hid (But (fun b => B0 ≤ b) W5 wr))
  case atStart => exact ⟨0, none, 0, [], rfl, rfl, Nat.zero_le _, Lib.hid rfl, Lib.hid (OwnG.nil _ _ _ _), Lib.hid (ListR.nil _ _), Lib.hid (But.refl _ _)⟩
  case round =>
    obtain ⟨k, a, c, xs, rfl, rfl, hk2, HGK, HO, HL, HB⟩ := hrel
    have hg5 : Grow W5 wr := HB.out.asGrow (fun b hb => by omega)
    have HG : Hid (Grow w wr) := Lib.hid (HG5.out.trans hg5)
    by_cases hk : k = f
    · subst hk
      obtain ⟨g, cap, hv, hg1, hg2⟩ := own_slice HO.out.own (by omega)
      injection hv with h1 h2 h3
      subst h1 h3
      have HRQ := Lib.hid (own_rowq HO.out.own HL.out)
      have HGB := Lib.hid (own_cells HO.out.own).2.1
      have y1 : decide (((k + 1 : Nat) : Int) ≤ (k : Int)) = false := by simp; omega
      have y1n : decide (k + 1 ≤ k) = false := by simp
      have y1c : decide ((k : Int) + 1 ≤ (k : Int)) = false := by simp; omega
      clear hg5
      go_wp2_with fail
      go_ret
      exact ⟨g, ⟨c, rfl⟩, HRQ.out, HG.out, Nat.le_trans hB0w HGB.out⟩
    · have y1 : decide (((k + 1 : Nat) : Int) ≤ (f : Int)) = true := by simp; omega
      have y1n : decide (k + 1 ≤ f) = true := by simp; omega
      have y1c : decide ((k : Int) + 1 ≤ (f : Int)) = true := by simp; omega
      have OK := Lib.hid (fun u => ofV ((k : Int) + 1) (by omega) u)
      have MK := Lib.hid (fun v1 v2 (u : World) h1 h2 => makeQ ((k : Int) + 1) (f : Int) v1 v2 (by omega) u h1 h2)
      have hsm : Sm (Rat.divInt ((k : Int) + 1) (f : Int)) 60 60 := by
        rw [Rat.divInt_eq_div]
        exact (sm_frac ((k : Int) + 1) (by omega)).mono (by omega) (by omega)
      have EV := Lib.hid (fun (v : Value) (c' : Nat) (u : World) (hu : Grow wr u) (hv : RatR u v (Rat.divInt ((k : Int) + 1) (f : Int))) => evalQ G c' _ v hsm u (RowP.grow HR5.out (hg5.trans hu)) hv)
      rw [su_eq f k (by omega)] at EV
      have MU := Lib.hid (fun v1 v2 (u : World) h1 h2 => mulQk ((1 : Int) : Rat) (suN f k) (suN f k) ⟨by rw [show ((1 : Int) : Rat) = 1 by decide +kernel, Rat.one_mul], ((sm_int 1).mulB (sm_dq (2 * (f : Int)) _ 120 120 (by omega) (by omega) (by omega)) (by decide) (by decide)).1, ((sm_int 1).mulB (sm_dq (2 * (f : Int)) _ 120 120 (by omega) (by omega) (by omega)) (by decide) (by decide)).2⟩ v1 v2 u h1 h2)
      have y4 : Hid (IntKind.i64.wrap ((k : Int) + 1 + 1) = ((k + 1 + 1 : Nat) : Int) ∧ wrap64 ((k : Int) + 1 + 1) = ((k + 1 + 1 : Nat) : Int)) := Lib.hid (by rw [show (k : Int) + 1 + 1 = ((k + 1 + 1 : Nat) : Int) by omega]; exact w64n (by omega))
      clear hsm
      go_upto_region 8 with (first
        | (go_at_call 19; (with_reducible refine (OK.out _).mono ?_); clear OK; (rintro e u6 ⟨v6, rfl, hv6, hb6⟩; obtain ⟨s6, a6, l6, c6, rfl⟩ := hv6.form; have HV6 := Lib.hid hv6; have HG6 := Lib.hid hb6; clear hv6 hb6))
        | (go_at_call 19; (with_reducible refine (OI.out _).mono ?_); (rintro e u7 ⟨v7, rfl, hv7, hb7⟩; obtain ⟨s7, a7, l7, c7, rfl⟩ := hv7.form; have HV7 := Lib.hid hv7; have HG7 := Lib.hid hb7; clear hv7 hb7))
        | (go_at_call 18; (with_reducible refine (MK.out _ _ _ (HV6.out.grow HG7.out) HV7.out).mono ?_); (rintro e u8 ⟨v8, rfl, hv8, hb8⟩; obtain ⟨s8, a8, l8, c8, t8, b8, k8, e8, rfl⟩ := hv8.form; have HV8 := Lib.hid hv8; have HG8 := Lib.hid hb8; clear hv8 hb8)))
      obtain ⟨W9, hW9⟩ : ∃ W9 : World, W9 = u8.alloc (.cells #[.bool s8, .slice a8 l8 c8, .bool t8, .slice b8 k8 e8] 27) := ⟨_, rfl⟩
      rw [← hW9]
      have hg9 : Grow wr W9 := HG6.out.trans (HG7.out.trans (HG8.out.trans (ag hW9)))
      have HG9 := Lib.hid hg9
      obtain ⟨sp, ap, lp, cp, tp, bp, kp, ep, hcP, hvP⟩ := RowQ.cell4 (RowP.grow HX5.out (hg5.trans hg9))
      have D0 := Lib.hid hcP
      have D1 := Lib.hid (ak4 hW9)
      have HVP := Lib.hid hvP
      have HVX := Lib.hid (HV8.out.grow (ag hW9))
      have EV2 := Lib.hid (fun v c' u (hu : Grow W9 u) hv => EV.out v c' u (hg9.trans hu) hv)
      have HO := Lib.hid (HO.out.grow hg9)
      have HL := Lib.hid (HL.out.grow hg9)
      have HBW : Hid (B0 ≤ W9.heap.size) := Lib.hid (by have h1 := hg5.size; have h2 := hg9.size; omega)
      clear EV hW9 hg9 hcP hvP OI MK HV6 HV7 HV8 HG6 HG7 HG8 y1 y1n y1c
      have EV := EV2
      clear EV2
      refine region_held (id := 8) (fun u => Grow W9 u) [0, 1, 2, 3, 4, 5, 6, 7, 8] (kdL [0, 1, 0, 1, 2, 2, 2, 3, 0]) (by kernel_rfl) (by kernel_rfl) (fun t ht => kdL_lt _ t ht) ?hS0q ?_
      case hS0q => ((try dsimp only); (repeat (first | with_reducible exact Grow.refl _ | with_reducible refine Grow.alloc ?_ _ | with_reducible refine Grow.drew ?_ | with_reducible refine Grow.drewN ?_ _ | (with_reducible refine Grow.setCell ?_ ?hp _; (case hp => (simp; try omega))) | with_reducible refine Grow.trans ?_ (by assumption))))
      refine held_quiet (v := ?vq0) rfl rfl (Or.inl ⟨by rfl, ?hyq0⟩) ?_
      case hyq0 => (intro u hu; go_simp; (try with_reducible rfl))
      (try simp only [Act.put, List.setIfInBounds_toArray, List.set_cons_zero, List.set_cons_succ])
      refine held_read (v := ?vq1) rfl rfl (Or.inl ⟨by rfl, ?hyq1⟩) ?_
      case hyq1 => (intro u hu; obtain ⟨d0, d1, d2, d3, d4, d5⟩ := D0.out u hu; obtain ⟨f0, f1, f2, f3, f4, f5⟩ := D1.out u hu; go_simp; (try with_reducible rfl))
      (try simp only [Act.put, List.setIfInBounds_toArray, List.set_cons_zero, List.set_cons_succ])
      refine held_quiet (v := ?vq2) rfl rfl (Or.inl ⟨by rfl, ?hyq2⟩) ?_
      case hyq2 => (intro u hu; go_simp; (try with_reducible rfl))
      (try simp only [Act.put, List.setIfInBounds_toArray, List.set_cons_zero, List.set_cons_succ])
      refine held_read (v := ?vq3) rfl rfl (Or.inl ⟨by rfl, ?hyq3⟩) ?_
      case hyq3 => (intro u hu; obtain ⟨d0, d1, d2, d3, d4, d5⟩ := D0.out u hu; obtain ⟨f0, f1, f2, f3, f4, f5⟩ := D1.out u hu; go_simp; (try with_reducible rfl))
      (try simp only [Act.put, List.setIfInBounds_toArray, List.set_cons_zero, List.set_cons_succ])
      refine held_op rfl rfl (fun K hK => ?_)
      go_simp
      (go_at_call 58; (with_reducible refine (EV.out _ _ _ (by (repeat (first | with_reducible exact Grow.refl _ | with_reducible refine Grow.alloc ?_ _ | with_reducible refine Grow.drew ?_ | with_reducible refine Grow.drewN ?_ _ | (with_reducible refine Grow.setCell ?_ ?hp _; (case hp => (simp; try omega))) | with_reducible refine Grow.trans ?_ (by assumption)))) (HVX.out.grow (by (repeat (first | with_reducible exact Grow.refl _ | with_reducible refine Grow.alloc ?_ _ | with_reducible refine Grow.drew ?_ | with_reducible refine Grow.drewN ?_ _ | (with_reducible refine Grow.setCell ?_ ?hp _; (case hp => (simp; try omega))) | with_reducible refine Grow.trans ?_ (by assumption)))))).mono ?_); (rintro x u25 ⟨v25, rfl, hv25, hb25⟩; obtain ⟨s25, a25, l25, c25, t25, b25, k25, e25, rfl⟩ := hv25.form; have HV25 := Lib.hid hv25; clear hv25))
      (try go_wp2_with fail)
      refine hK.out _ _ ?hSq4 ?_
      case hSq4 => ((try dsimp only); (repeat (first | with_reducible exact Grow.refl _ | with_reducible refine Grow.alloc ?_ _ | with_reducible refine Grow.drew ?_ | with_reducible refine Grow.drewN ?_ _ | (with_reducible refine Grow.setCell ?_ ?hp _; (case hp => (simp; try omega))) | with_reducible refine Grow.trans ?_ (by assumption))))
      clear hK K
      (try simp only [Act.put, List.setIfInBounds_toArray, List.set_cons_zero, List.set_cons_succ])
      refine held_op rfl rfl (fun K hK => ?_)
      go_simp
      (go_at_call 34; (with_reducible refine (MU.out _ _ _ (HVP.out.grow (by (repeat (first | with_reducible exact Grow.refl _ | with_reducible refine Grow.alloc ?_ _ | with_reducible refine Grow.drew ?_ | with_reducible refine Grow.drewN ?_ _ | (with_reducible refine Grow.setCell ?_ ?hp _; (case hp => (simp; try omega))) | with_reducible refine Grow.trans ?_ (by assumption))))) HV25.out).mono ?_); (rintro x u32 ⟨v32, rfl, hv32, hb32⟩; obtain ⟨s32, a32, l32, c32, t32, b32, k32, e32, rfl⟩ := hv32.form; have HV32 := Lib.hid hv32; clear hv32))
      (try go_wp2_with fail)
      refine hK.out _ _ ?hSq5 ?_
      case hSq5 => ((try dsimp only); (repeat (first | with_reducible exact Grow.refl _ | with_reducible refine Grow.alloc ?_ _ | with_reducible refine Grow.drew ?_ | with_reducible refine Grow.drewN ?_ _ | (with_reducible refine Grow.setCell ?_ ?hp _; (case hp => (simp; try omega))) | with_reducible refine Grow.trans ?_ (by assumption))))
      clear hK K
      (try simp only [Act.put, List.setIfInBounds_toArray, List.set_cons_zero, List.set_cons_succ])
      refine held_op rfl rfl (fun K hK => ?_)
      go_simp
      refine hK.out _ _ ?hSq6 ?_
      case hSq6 => ((try dsimp only); (repeat (first | with_reducible exact Grow.refl _ | with_reducible refine Grow.alloc ?_ _ | with_reducible refine Grow.drew ?_ | with_reducible refine Grow.drewN ?_ _ | (with_reducible refine Grow.setCell ?_ ?hp _; (case hp => (simp; try omega))) | with_reducible refine Grow.trans ?_ (by assumption))))
      clear hK K
      (try simp only [Act.put, List.setIfInBounds_toArray, List.set_cons_zero, List.set_cons_succ])
      refine held_last rfl rfl (fun K hK => ?_)
      (refine step_append_g (by rfl) _ _ _ (by rfl) 27 ir _ 4 64 Tryz.underlying57 hir irz0 irz1 irz2 rfl (by decide) rat_zero_nu (by decide) B0 _ k xs (by rfl) (HO.out.grow (by (repeat (first | with_reducible exact Grow.refl _ | with_reducible refine Grow.alloc ?_ _ | with_reducible refine Grow.drew ?_ | with_reducible refine Grow.drewN ?_ _ | (with_reducible refine Grow.setCell ?_ ?hp _; (case hp => (simp; try omega))) | with_reducible refine Grow.trans ?_ (by assumption))))) ⟨u32.heap.size, 0, none⟩ 1 [.bool s32, .slice a32 l32 c32, .bool t32, .slice b32 k32 e32] (by rfl) rfl (rat_news u32 s32 a32 l32 c32 t32 b32 k32 e32 27) (rat_one s32 a32 l32 c32 t32 b32 k32 e32) (rat_nu s32 a32 l32 c32 t32 b32 k32 e32) (by omega) (by have h1 := HBW.out; have h2 := (show Grow W9 u32 by (repeat (first | with_reducible exact Grow.refl _ | with_reducible refine Grow.alloc ?_ _ | with_reducible refine Grow.drew ?_ | with_reducible refine Grow.drewN ?_ _ | (with_reducible refine Grow.setCell ?_ ?hp _; (case hp => (simp; try omega))) | with_reducible refine Grow.trans ?_ (by assumption)))).size; simp; omega) ?_; intro v7 w7 hown7 hb7; obtain ⟨a7, c7, rfl⟩ := hown7.form)
      refine hK.out _ _ ?_
      clear hK K
      (try simp only [Act.put, List.setIfInBounds_toArray, List.set_cons_zero, List.set_cons_succ])
      refine held_quiet (v := ?vq8) rfl rfl (Or.inl ⟨by rfl, ?hyq8⟩) ?_
      case hyq8 => (intro u hu; go_simp; (try with_reducible rfl))
      (try simp only [Act.put, List.setIfInBounds_toArray, List.set_cons_zero, List.set_cons_succ])
      refine held_done ?_
      have hga : Grow W9 (u32.alloc (.cells #[.bool s32, .slice a32 l32 c32, .bool t32, .slice b32 k32 e32] 27)) := by (repeat (first | with_reducible exact Grow.refl _ | with_reducible refine Grow.alloc ?_ _ | with_reducible refine Grow.drew ?_ | with_reducible refine Grow.drewN ?_ _ | (with_reducible refine Grow.setCell ?_ ?hp _; (case hp => (simp; try omega))) | with_reducible refine Grow.trans ?_ (by assumption)))
      have hl7 := ((HL.out.grow hga).append ((listr_one HV32.out).grow (by (repeat (first | with_reducible exact Grow.refl _ | with_reducible refine Grow.alloc ?_ _ | with_reducible refine Grow.drew ?_ | with_reducible refine Grow.drewN ?_ _ | (with_reducible refine Grow.setCell ?_ ?hp _; (case hp => (simp; try omega))) | with_reducible refine Grow.trans ?_ (by assumption)))))).but hb7
      have HL7 := Lib.hid (hl7.cong (r' := suN f) (fun j hj => by
        by_cases hjk : j < k
        · rw [if_pos hjk]
        · rw [if_neg hjk, show j = k by omega]))
      have HO7 := Lib.hid hown7
      have HB7 := Lib.hid (((HB.out.trans ((HG9.out.trans hga).but _)).late hb7 (fun b hb hy => hy)))
      clear hl7 hown7 hb7 hga
      obtain ⟨e4, e4'⟩ := y4.out
      go_simp
      go_wp2_with fail
      clear e4 e4'
      go_roundg (f - (k + 1))
      case measure => have := HGK.out; omega
      case rel => exact ⟨k + 1, a7, c7, _, rfl, by first | rfl | simp, by omega, Lib.hid rfl, HO7, HL7, HB7⟩
/-- Twice f times the sum of the first k terms. -/
def bP (d : Int) (f : Nat) : Nat → Int
  | 0 => 0
  | k + 1 => bP d f k + krN d (k + 1) * (2 * ((k : Int) + 1) - (f : Int))
theorem tm_abs (d : Int) (f k : Nat) (hf : f ≤ 60) (hk : k < f) : (krN d (k + 1) * (2 * ((k : Int) + 1) - (f : Int))).natAbs ≤ 60 := by
  rw [Int.natAbs_mul]
  have h1 := krN_abs d (k + 1)
  have h2 : (2 * ((k : Int) + 1) - (f : Int)).natAbs ≤ 60 := by omega
  exact Nat.le_trans (Nat.mul_le_mul h1 h2) (by omega)
theorem bP_abs (d : Int) (f : Nat) (hf : f ≤ 60) : ∀ k, k ≤ f → (bP d f k).natAbs ≤ 60 * k
  | 0, _ => by simp [bP]
  | k + 1, hk => by
    have h1 := bP_abs d f hf k (by omega)
    have h2 := tm_abs d f k hf (by omega)
    unfold bP
    have := Int.natAbs_add_le (bP d f k) (krN d (k + 1) * (2 * ((k : Int) + 1) - (f : Int)))
    omega
/-- The value of bernoulli.Quadratic at 1. -/
def bqN (d : Int) : Rat := ((bP d d.natAbs d.natAbs : Int) : Rat) / ((2 * (d.natAbs : Int) : Int) : Rat)
set_option maxRecDepth 20000 in
set_option maxHeartbeats 8000000 in
theorem bquadQ (d : Int) (w : World) (hT : TabB w) : Calls Tryz.prog 11 #[.int .i64 1, .int .i64 d] w fun e w' => (∃ (v : Value) (z : Int), e = .returned (.tuple #[v, .int .i64 z]) ∧ (z = 0 ↔ QdOK d) ∧ (∃ s a l c t b k e, v = .agg #[.bool s, .slice a l c, .bool t, .slice b k e]) ∧ (QdOK d → RatR w' v (bqN d))) ∧ Grow w w' := by
  have O0 := Lib.hid (fun u => ofQ 0 (by decide) u)
  have QD := Lib.hid (fun (u : World) (hu : Grow w u) => quadraticQ d u (hT.grow hu))
  obtain ⟨W1, hW1⟩ : ∃ W1 : World, W1 = w.alloc (.cells #[.bool false, .slice none 0 0, .bool false, .slice none 0 0] 27) := ⟨_, rfl⟩
  have hg1 := ag hW1
  have K1 := Lib.hid (ak4 hW1)
  have RC : Hid (RowP W1 w.heap.size 0 1 (fun _ => none)) := Lib.hid (by rw [hW1]; exact rowp_alloc w _)
  have HW1 := Lib.hid hW1
  have HG1 := Lib.hid hg1
  have HT := Lib.hid hT
  clear hW1 hg1 hT
  go_enter Tryz.func11, Tryz.ntmps11
  go_upto_region 1 with fail
  rw [← HW1.out]
  go_upto_region 4 with (go_at_call 32; (with_reducible refine (QD.out _ (HG1.out.trans (by (repeat (first | with_reducible exact Grow.refl _ | with_reducible refine Grow.alloc ?_ _ | with_reducible refine Grow.drew ?_ | with_reducible refine Grow.drewN ?_ _ | (with_reducible refine Grow.setCell ?_ ?hp _; (case hp => (simp; try omega))) | with_reducible refine Grow.trans ?_ (by assumption)))))).mono ?_); (rintro e u2 ⟨⟨x2, a2, m2, c2, z, rfl, hz⟩, hb2⟩; have HZ := Lib.hid hz; have HG2 := Lib.hid hb2; clear hz hb2))
  obtain ⟨W3, hW3⟩ : ∃ W3 : World, W3 = u2.alloc (.cells #[.int .i64 x2, .slice a2 m2 c2] 54) := ⟨_, rfl⟩
  rw [← hW3]
  have HG3 := Lib.hid (HG2.out.trans (ag hW3))
  clear hW3 QD HW1
  by_cases hz0 : z = 0
  · subst hz0
    have hq : QdOK d := HZ.out.1 rfl
    obtain ⟨f, hf⟩ : ∃ f, d.natAbs = f := ⟨_, rfl⟩
    have hf1 : 1 ≤ f := by have := hq.1; omega
    have hf2 : f ≤ 60 := by have := hq.2.1; omega
    have hqn : bqN d = ((bP d f f : Int) : Rat) / ((2 * (f : Int) : Int) : Rat) := by unfold bqN; rw [hf]
    have HQN := Lib.hid hqn
    have HQ := Lib.hid hq
    have EN := Lib.hid (w64n (n := -d) (by omega))
    have hm1 : max d (-d) = (f : Int) := by omega
    have hm2 : (if -d > d then -d else d) = (f : Int) := by split <;> omega
    have SU := Lib.hid (fun u => summandsQ f hf1 hf2 u)
    have hd100 : d.natAbs ≤ 100 := by omega
    clear hqn hq hf
    obtain ⟨en, en'⟩ := EN.out
    go_upto_region 7 with (go_at_call 20; (with_reducible refine (O0.out _).mono ?_); (rintro e u4 ⟨v4, rfl, hv4, hb4⟩; obtain ⟨s4, a4, l4, c4, t4, b4, k4, e4, rfl⟩ := hv4.form; have HV4 := Lib.hid hv4; have HG4 := Lib.hid hb4; clear hv4 hb4))
    obtain ⟨W5, hW5⟩ : ∃ W5 : World, W5 = u4.alloc (.cells #[.bool s4, .slice a4 l4 c4, .bool t4, .slice b4 k4 e4] 27) := ⟨_, rfl⟩
    rw [← hW5]
    have HX5 := Lib.hid (rowq_lay hW5 HV4.out)
    have HG5 := Lib.hid (HG3.out.trans (HG4.out.trans (ag hW5)))
    have hzx : W1.heap.size ≤ u4.heap.size := (HG3.out.trans HG4.out).size
    have hz5 : W5.heap.size = u4.heap.size + 1 := by rw [hW5]; simp
    obtain ⟨X, hX⟩ : ∃ X, u4.heap.size = X := ⟨_, rfl⟩
    rw [hX] at HX5 hzx hz5
    rw [hX]
    have hw1 : w.heap.size + 1 ≤ W1.heap.size := by have := (K1.out W1 (Grow.refl _)).2.2.2.2.2; omega
    clear hW5 hX HV4 HG4 O0
    go_upto_region 8 with (go_at_call 33; (with_reducible refine (SU.out _).mono ?_); (rintro e u6 ⟨g, c, rfl, hr6, hb6, hg6⟩; have HR6 := Lib.hid hr6; have HG6 := Lib.hid hb6; clear hr6 hb6))
    clear en en' hm1 hm2 SU
    have HX6 := Lib.hid (RowP.grow HX5.out HG6.out)
    have HGW := Lib.hid (HG5.out.trans HG6.out)
    have hgX : ¬ g = X := by omega
    clear HX5
    go_loopg [35] f (fun gi t35 wr => ∃ k : Nat, t35 = .int .i64 (k : Int) ∧ k ≤ f ∧ Hid (gi = f - k) ∧ Hid (RowQ wr X 0 1 (fun _ => ((bP d f k : Int) : Rat) / ((2 * (f : Int) : Int) : Rat))) ∧ Hid (But (fun y => y = X) u6 wr))
    case atStart => exact ⟨0, rfl, Nat.zero_le _, Lib.hid rfl, Lib.hid (RowP.mono HX6.out (Nat.le_refl _) (fun j x _ hx => by rw [← hx]; congr 1; show ((0 : Int) : Rat) = ((0 : Int) : Rat) / _; rw [Rat.div_def, Rat.intCast_zero, Rat.zero_mul])), Lib.hid (But.refl _ _)⟩
    case round =>
      clear HX6
      obtain ⟨k, rfl, hk2, HGI, HX, HB⟩ := hrel
      have hgr : Grow W1 wr := ((HGW.out.but _).trans HB.out).asGrow (fun y hy => by omega)
      have HGR := Lib.hid hgr
      obtain ⟨sx, ax, lx, cx, tx, bx, kx, ex, hcX, hvX⟩ := RowQ.cell4 HX.out
      obtain ⟨x0, x1, x2', x3, x4, x5⟩ := hcX wr (Grow.refl _)
      by_cases hk : k = f
      · subst hk
        have y1 : decide ((k : Int) < (k : Int)) = false := by simp
        obtain ⟨q0, q1, q2, q3, qf, qz⟩ := K1.out wr hgr
        rw [← HQN.out] at hvX
        have HV := Lib.hid hvX
        clear hcX hvX
        go_wp2_with fail
        obtain ⟨h1, h2⟩ := rescell (w := w) (RC.out.grow HGR.out) (Nat.le_refl _) (HG1.out.trans HGR.out) HV.out
        exact bodyPost_ret (v := .tuple #[.agg #[.bool sx, .slice ax lx cx, .bool tx, .slice bx kx ex], .int .i64 0]) (by rw [results_cell_tmp rfl]; go_simp) rfl ⟨⟨_, 0, rfl, ⟨fun _ => HQ.out, fun _ => rfl⟩, ⟨sx, ax, lx, cx, tx, bx, kx, ex, rfl⟩, fun _ => h1⟩, h2⟩
      · have hk : k < f := by omega
        have y0 : (0 : Int) ≤ (k : Int) := by omega
        have y1 : decide ((k : Int) < (f : Int)) = true := by simp; omega
        have y1n : decide (k < f) = true := by simp; omega
        have y2 : (k : Int) < (f : Int) := by omega
        have HRI := Lib.hid (RowP.but HR6.out hgX HB.out)
        obtain ⟨s7, a7, l7, c7, t7, b7, k7, e7, hcg, hvg⟩ := RowQ.cellj HRI.out k hk
        obtain ⟨p0, p1, p2, p3⟩ := hcg wr (Grow.refl _)
        have KR : Hid (∀ u : World, Grow wr u → Calls Tryz.prog 35 #[.int .i64 d, .int .i64 ((k : Int) + 1)] u fun e w' => e = .returned (.int .i64 (krN d (k + 1))) ∧ u = w') := Lib.hid (fun (u : World) (hu : Grow wr u) => kroneckerQ d (k + 1) hd100 (by omega) (by omega) u (HT.out.grow (HG1.out.trans (HGR.out.trans hu))))
        have hka := krN_abs d (k + 1)
        have hbp := bP_abs d f hf2 k hk2
        have htm := tm_abs d f k hf2 hk
        have OF := Lib.hid (fun u => ofQ (krN d (k + 1)) (by omega) u)
        have MU := Lib.hid (fun v1 v2 (u : World) h1 h2 => mulQk ((krN d (k + 1) : Int) : Rat) (suN f k) (((krN d (k + 1) * (2 * ((k : Int) + 1) - (f : Int)) : Int) : Rat) / ((2 * (f : Int) : Int) : Rat)) ⟨dq_mul _ _ _, (((sm_int _).mono hka (Nat.le_refl 1)).mulB (sm_dq (2 * (f : Int)) _ 120 120 (by omega) (by omega) (by omega)) (by decide) (by decide)).1, (((sm_int _).mono hka (Nat.le_refl 1)).mulB (sm_dq (2 * (f : Int)) _ 120 120 (by omega) (by omega) (by omega)) (by decide) (by decide)).2⟩ v1 v2 u h1 h2)
        have AD := Lib.hid (fun v1 v2 (u : World) h1 h2 => addQk (((bP d f k : Int) : Rat) / ((2 * (f : Int) : Int) : Rat)) (((krN d (k + 1) * (2 * ((k : Int) + 1) - (f : Int)) : Int) : Rat) / ((2 * (f : Int) : Int) : Rat)) (((bP d f (k + 1) : Int) : Rat) / ((2 * (f : Int) : Int) : Rat)) ⟨dq_add _ _ _, (sm_dq (2 * (f : Int)) _ 3600 120 (by omega) (by omega) (by omega)).addB (sm_dq (2 * (f : Int)) _ 60 120 (by omega) htm (by omega)) (by decide) (by decide)⟩ v1 v2 u h1 h2)
        have E3 : Hid (IntKind.i64.wrap ((k : Int) + 1) = ((k + 1 : Nat) : Int) ∧ wrap64 ((k : Int) + 1) = ((k + 1 : Nat) : Int)) := Lib.hid (inc_wrap (i := k) (n := 100) (by omega) (by omega))
        clear hka hbp htm
        go_upto_region 10 with fail
        obtain ⟨W9, hW9⟩ : ∃ W9 : World, W9 = wr.alloc (.cells #[.bool s7, .slice a7 l7 c7, .bool t7, .slice b7 k7 e7] 27) := ⟨_, rfl⟩
        rw [← hW9]
        have hg9 : Grow wr W9 := ag hW9
        have HVE := Lib.hid (hvg.grow hg9)
        have HVB := Lib.hid (hvX.grow hg9)
        have D0 := Lib.hid (fun u (hu : Grow W9 u) => hcX u (hg9.trans hu))
        have D1 := Lib.hid (ak4 hW9)
        have KR2 := Lib.hid (fun u (hu : Grow W9 u) => KR.out u (hg9.trans hu))
        have HX9 := Lib.hid (RowP.grow HX.out hg9)
        have HB9 := Lib.hid (HB.out.grow hg9)
        clear hW9 hg9 hcg hvg hcX hvX p0 p1 p2 p3 KR y1 y1n hgr x0 x1 x2' x3 x4 x5
        have KR := KR2
        clear KR2
        obtain ⟨e3, e3'⟩ := E3.out
        refine region_held (id := 10) (fun u => Grow W9 u) [0, 1, 2, 3, 6, 4, 5, 7, 8, 9] (kdL [1, 0, 0, 0, 2, 2, 1, 2, 2, 3]) (by kernel_rfl) (by kernel_rfl) (fun t ht => kdL_lt _ t ht) ?hS0q ?_
        case hS0q => ((try dsimp only); (repeat (first | with_reducible exact Grow.refl _ | with_reducible refine Grow.alloc ?_ _ | with_reducible refine Grow.drew ?_ | with_reducible refine Grow.drewN ?_ _ | (with_reducible refine Grow.setCell ?_ ?hp _; (case hp => (simp; try omega))) | with_reducible refine Grow.trans ?_ (by assumption))))
        refine held_read (v := ?vq0) rfl rfl (Or.inl ⟨by rfl, ?hyq0⟩) ?_
        case hyq0 => (intro u hu; obtain ⟨d0, d1, d2, d3, d4, d5⟩ := D0.out u hu; obtain ⟨f0, f1, f2, f3, f4, f5⟩ := D1.out u hu; go_simp; (try with_reducible rfl))
        (try simp only [Act.put, List.setIfInBounds_toArray, List.set_cons_zero, List.set_cons_succ])
        refine held_quiet (v := ?vq1) rfl rfl (Or.inl ⟨by rfl, ?hyq1⟩) ?_
        case hyq1 => (intro u hu; go_simp; (try with_reducible rfl))
        (try simp only [Act.put, List.setIfInBounds_toArray, List.set_cons_zero, List.set_cons_succ])
        refine held_quiet (v := ?vq2) rfl rfl (Or.inl ⟨by rfl, ?hyq2⟩) ?_
        case hyq2 => (intro u hu; go_simp; (try with_reducible rfl))
        (try simp only [Act.put, List.setIfInBounds_toArray, List.set_cons_zero, List.set_cons_succ])
        refine held_quiet (v := ?vq3) rfl rfl (Or.inl ⟨by rfl, ?hyq3⟩) ?_
        case hyq3 => (intro u hu; go_simp; (try with_reducible rfl))
        (try simp only [Act.put, List.setIfInBounds_toArray, List.set_cons_zero, List.set_cons_succ])
        refine held_read (v := ?vq6) rfl rfl (Or.inl ⟨by rfl, ?hyq6⟩) ?_
        case hyq6 => (intro u hu; obtain ⟨d0, d1, d2, d3, d4, d5⟩ := D0.out u hu; obtain ⟨f0, f1, f2, f3, f4, f5⟩ := D1.out u hu; go_simp; (try with_reducible rfl))
        (try simp only [Act.put, List.setIfInBounds_toArray, List.set_cons_zero, List.set_cons_succ])
        refine held_op rfl rfl (fun K hK => ?_)
        go_simp
        (go_at_call 35; (with_reducible refine (KR.out _ (by (repeat (first | with_reducible exact Grow.refl _ | with_reducible refine Grow.alloc ?_ _ | with_reducible refine Grow.drew ?_ | with_reducible refine Grow.drewN ?_ _ | (with_reducible refine Grow.setCell ?_ ?hp _; (case hp => (simp; try omega))) | with_reducible refine Grow.trans ?_ (by assumption))))).mono ?_); (rintro x u24 ⟨rfl, rfl⟩))
        (try go_wp2_with fail)
        refine hK.out _ _ ?hSq4 ?_
        case hSq4 => ((try dsimp only); (repeat (first | with_reducible exact Grow.refl _ | with_reducible refine Grow.alloc ?_ _ | with_reducible refine Grow.drew ?_ | with_reducible refine Grow.drewN ?_ _ | (with_reducible refine Grow.setCell ?_ ?hp _; (case hp => (simp; try omega))) | with_reducible refine Grow.trans ?_ (by assumption))))
        clear hK K
        (try simp only [Act.put, List.setIfInBounds_toArray, List.set_cons_zero, List.set_cons_succ])
        refine held_op rfl rfl (fun K hK => ?_)
        go_simp
        (go_at_call 20; (with_reducible refine (OF.out _).mono ?_); (rintro x u25 ⟨v25, rfl, hv25, hb25⟩; obtain ⟨s25, a25, l25, c25, t25, b25, k25, e25, rfl⟩ := hv25.form; have HV25 := Lib.hid hv25; clear hv25))
        (try go_wp2_with fail)
        refine hK.out _ _ ?hSq5 ?_
        case hSq5 => ((try dsimp only); (repeat (first | with_reducible exact Grow.refl _ | with_reducible refine Grow.alloc ?_ _ | with_reducible refine Grow.drew ?_ | with_reducible refine Grow.drewN ?_ _ | (with_reducible refine Grow.setCell ?_ ?hp _; (case hp => (simp; try omega))) | with_reducible refine Grow.trans ?_ (by assumption))))
        clear hK K
        (try simp only [Act.put, List.setIfInBounds_toArray, List.set_cons_zero, List.set_cons_succ])
        refine held_op rfl rfl (fun K hK => ?_)
        go_simp
        (go_at_call 34; (with_reducible refine (MU.out _ _ _ (HV25.out.grow (by (repeat (first | with_reducible exact Grow.refl _ | with_reducible refine Grow.alloc ?_ _ | with_reducible refine Grow.drew ?_ | with_reducible refine Grow.drewN ?_ _ | (with_reducible refine Grow.setCell ?_ ?hp _; (case hp => (simp; try omega))) | with_reducible refine Grow.trans ?_ (by assumption))))) (HVE.out.grow (by (repeat (first | with_reducible exact Grow.refl _ | with_reducible refine Grow.alloc ?_ _ | with_reducible refine Grow.drew ?_ | with_reducible refine Grow.drewN ?_ _ | (with_reducible refine Grow.setCell ?_ ?hp _; (case hp => (simp; try omega))) | with_reducible refine Grow.trans ?_ (by assumption)))))).mono ?_); (rintro x u27 ⟨v27, rfl, hv27, hb27⟩; obtain ⟨s27, a27, l27, c27, t27, b27, k27, e27, rfl⟩ := hv27.form; have HV27 := Lib.hid hv27; clear hv27))
        (try go_wp2_with fail)
        refine hK.out _ _ ?hSq7 ?_
        case hSq7 => ((try dsimp only); (repeat (first | with_reducible exact Grow.refl _ | with_reducible refine Grow.alloc ?_ _ | with_reducible refine Grow.drew ?_ | with_reducible refine Grow.drewN ?_ _ | (with_reducible refine Grow.setCell ?_ ?hp _; (case hp => (simp; try omega))) | with_reducible refine Grow.trans ?_ (by assumption))))
        clear hK K
        (try simp only [Act.put, List.setIfInBounds_toArray, List.set_cons_zero, List.set_cons_succ])
        refine held_op rfl rfl (fun K hK => ?_)
        go_simp
        (go_at_call 8; (with_reducible refine (AD.out _ _ _ (HVB.out.grow (by (repeat (first | with_reducible exact Grow.refl _ | with_reducible refine Grow.alloc ?_ _ | with_reducible refine Grow.drew ?_ | with_reducible refine Grow.drewN ?_ _ | (with_reducible refine Grow.setCell ?_ ?hp _; (case hp => (simp; try omega))) | with_reducible refine Grow.trans ?_ (by assumption))))) (HV27.out.grow (by (repeat (first | with_reducible exact Grow.refl _ | with_reducible refine Grow.alloc ?_ _ | with_reducible refine Grow.drew ?_ | with_reducible refine Grow.drewN ?_ _ | (with_reducible refine Grow.setCell ?_ ?hp _; (case hp => (simp; try omega))) | with_reducible refine Grow.trans ?_ (by assumption)))))).mono ?_); (rintro x u28 ⟨v28, rfl, hv28, hb28⟩; obtain ⟨s28, a28, l28, c28, t28, b28, k28, e28, rfl⟩ := hv28.form; have HV28 := Lib.hid hv28; clear hv28); obtain ⟨d0, d1, d2, d3, d4, d5⟩ := D0.out u28 (by (repeat (first | with_reducible exact Grow.refl _ | with_reducible refine Grow.alloc ?_ _ | with_reducible refine Grow.drew ?_ | with_reducible refine Grow.drewN ?_ _ | (with_reducible refine Grow.setCell ?_ ?hp _; (case hp => (simp; try omega))) | with_reducible refine Grow.trans ?_ (by assumption)))))
        (try go_wp2_with fail)
        refine hK.out _ _ ?hSq8 ?_
        case hSq8 => ((try dsimp only); (repeat (first | with_reducible exact Grow.refl _ | with_reducible refine Grow.alloc ?_ _ | with_reducible refine Grow.drew ?_ | with_reducible refine Grow.drewN ?_ _ | (with_reducible refine Grow.setCell ?_ ?hp _; (case hp => (simp; try omega))) | with_reducible refine Grow.trans ?_ (by assumption))))
        clear hK K
        (try simp only [Act.put, List.setIfInBounds_toArray, List.set_cons_zero, List.set_cons_succ])
        refine held_last rfl rfl (fun K hK => ?_)
        go_simp
        refine hK.out _ _ ?_
        clear hK K
        (try simp only [Act.put, List.setIfInBounds_toArray, List.set_cons_zero, List.set_cons_succ])
        refine held_done ?_
        go_simp
        obtain ⟨hst1, hst2⟩ := RowQ.put HX9.out (show Grow W9 u28 by (repeat (first | with_reducible exact Grow.refl _ | with_reducible refine Grow.alloc ?_ _ | with_reducible refine Grow.drew ?_ | with_reducible refine Grow.drewN ?_ _ | (with_reducible refine Grow.setCell ?_ ?hp _; (case hp => (simp; try omega))) | with_reducible refine Grow.trans ?_ (by assumption)))) HV28.out
        go_wp2_with fail
        clear e3 e3'
        go_roundg (f - (k + 1))
        case measure => have := HGI.out; omega
        case rel => exact ⟨k + 1, by first | rfl | simp, by omega, Lib.hid rfl, Lib.hid hst1, Lib.hid (HB9.out.trans hst2)⟩
  · have y1 : (z != 0) = true := by simp; exact hz0
    have hnq : ¬ QdOK d := fun h => hz0 (HZ.out.2 h)
    have HNQ := Lib.hid hnq
    have HZN := Lib.hid hz0
    obtain ⟨q0, q1, q2, q3, qf, qz⟩ := K1.out W3 HG3.out
    clear hnq hz0
    go_wp2_with fail
    refine bodyPost_ret (v := .tuple #[.agg #[.bool false, .slice none 0 0, .bool false, .slice none 0 0], .int .i64 z]) (by rw [results_cell_tmp rfl]; go_simp) rfl ⟨⟨_, z, rfl, ⟨fun h => absurd h HZN.out, fun h => absurd h HNQ.out⟩, ⟨false, none, 0, 0, false, none, 0, 0, rfl⟩, fun h => absurd h HNQ.out⟩, ?_⟩
    exact ((((HG1.out.trans HG3.out).setCell (Nat.le_refl _) _).setCell (Nat.le_refl _) _).setCell (Nat.le_refl _) _).setCell (Nat.le_refl _) _
end Go.Proofs.YtbpkfcohbefphaaGreatDoor
namespace Go.Proofs.YtbpkfcohbefphaaGreatDoor
open Go Go.RowKit
structure RowJ (u : World) (g n cap : Nat) (xs : List Value) : Prop where
  len : xs.length = n
  row : ∃ cur, u.heap[g]? = some (.cells cur 3 (0, 0)) ∧ cur.size = cap ∧ cur.toList.take n = xs ∧ ∀ v, v ∈ cur.toList → ∃ x, v = .int .i64 x
  le : n ≤ cap
  max : cap ≤ maxLen
theorem RowJ.lt {u : World} {g n cap : Nat} {xs : List Value} (h : RowJ u g n cap xs) : g < u.heap.size := by
  obtain ⟨cur, h1, -⟩ := h.row
  exact (Array.getElem?_eq_some_iff.1 h1).1
theorem RowJ.but {X : Nat → Prop} {u u' : World} {g n cap : Nat} {xs : List Value} (h : RowJ u g n cap xs) (hb : But X u u') (hX : ¬ X g) : RowJ u' g n cap xs := by
  obtain ⟨cur, h1, h2⟩ := h.row
  exact ⟨h.len, ⟨cur, (hb.block g h.lt hX).trans h1, h2⟩, h.le, h.max⟩
theorem RowJ.grow {u u' : World} {g n cap : Nat} {xs : List Value} (h : RowJ u g n cap xs) (hg : Grow u u') : RowJ u' g n cap xs := h.but (X := fun _ => False) (hg.but _) (fun h => h)
theorem RowJ.cell {u : World} {g n cap : Nat} {xs : List Value} (h : RowJ u g n cap xs) {i : Nat} {x : Value} (hx : xs[i]? = some x) : u.cell? ⟨g, i, none⟩ = some x := by
  obtain ⟨cur, h1, -, h3, -⟩ := h.row
  rw [cell_of_row u g i cur 3 (0, 0) h1]
  rw [← h3, List.getElem?_take] at hx
  split at hx
  · simpa using hx
  · cases hx
section
variable {P : Program}
theorem run_append_j {ty t : TypeId} {i : TypeInfo} (ht : P.underlying t = some (.slice 3)) (hi : P.info? 3 = some i) (hz : i.zero = some (.int .i64 0)) (hsize : i.size = 1) (hby : i.bytes = 8)
    (w : World) (g n cap : Nat) (xs : List Value) (hrow : RowJ w g n cap xs) (ad : Addr) (c : Nat) (x : Int) (hc : w.cell? ad = some (.int .i64 x)) (hl : n + 1 ≤ 1000000) :
    ∃ g' cap' w', (Builtin.append_ #[t, t] ty #[.slice (some ⟨g, 0, none⟩) n cap, .slice (some ad) 1 c]).run P w = .ok (.slice (some ⟨g', 0, none⟩) (n + 1) cap') w' ∧ RowJ w' g' (n + 1) cap' (xs ++ [.int .i64 x]) ∧ (g' = g ∨ w.heap.size ≤ g') ∧ But (fun b => b = g) w w' ∧ (∀ o, o < n → w'.cell? ⟨g, o, none⟩ = w.cell? ⟨g, o, none⟩) := by
  have hnews : ∀ j u, [Value.int .i64 x][j]? = some u → w.cell? (ad.add j) = some u := by
    intro j u hu
    match j, hu with
    | 0, hu =>
      simp only [List.getElem?_cons_zero, Option.some.injEq] at hu
      subst hu
      simpa [Addr.add] using hc
  obtain ⟨hxs, ⟨cur, hg, hcs, htk, hall⟩, hnc, hcm⟩ := id hrow
  have hin : g < w.heap.size := hrow.lt
  by_cases hroom : n + 1 ≤ cap
  · have hr := run_append_room (P := P) w t ty 3 i ht hi g n cap cur hg ad 1 c [.int .i64 x] (by rw [hsize]; rfl) hnews (by intro u hu; simp at hu; subst hu; rfl) hroom (by rw [hsize, hcs]; simpa using hroom)
    have hnu : ∀ o y, w.cell? ⟨g, o, none⟩ ≠ some (.int .u32 y) := by
      intro o y hc
      rw [cell_of_row w g o cur 3 (0, 0) hg] at hc
      have hmem : Value.int .u32 y ∈ cur.toList := by
        obtain ⟨h1, h2⟩ := Array.getElem?_eq_some_iff.1 hc
        rw [← h2]; simp
      obtain ⟨z, hz'⟩ := hall _ hmem
      cases hz'
    have hrow' : RowJ _ g (n + 1) cap (xs ++ [.int .i64 x]) := ⟨by simp [hxs], ⟨_, setRow_heap w g cur (cur.toList.take (n * i.size) ++ [Value.int .i64 x] ++ cur.toList.drop (n * i.size + [Value.int .i64 x].length)).toArray 3 _ hg, by simp [hsize]; omega, by
        rw [hsize, Nat.mul_one]
        have h1 : (cur.toList.take n ++ [Value.int .i64 x]).length = n + 1 := by simp; omega
        rw [show (cur.toList.take n ++ [Value.int .i64 x] ++ cur.toList.drop (n + [Value.int .i64 x].length)).toArray.toList = (cur.toList.take n ++ [Value.int .i64 x]) ++ cur.toList.drop (n + [Value.int .i64 x].length) by simp, ← h1, List.take_left, htk], by
        intro u hu
        simp only [List.mem_append] at hu
        rcases hu with (hu | hu) | hu
        · exact hall u (List.mem_of_mem_take hu)
        · simp at hu; exact ⟨x, hu⟩
        · exact hall u (List.mem_of_mem_drop hu)⟩, hroom, hcm⟩
    refine ⟨g, cap, _, hr, hrow', .inl rfl, ⟨rfl, rfl, rfl, by simp [World.setRow], fun b _ hb' => setRow_other w g b _ hb', fun b o hb' => ?_, fun b o y hb' hc => ?_⟩, fun o ho => ?_⟩
    · by_cases hbg' : b = g
      · subst hbg'
        rw [frozen_plain (setRow_heap w b cur _ 3 _ hg) o, frozen_plain hg o]
      · unfold World.frozen?
        rw [setRow_other w g b _ hbg']
    · have hne : b ≠ g := fun e => by subst e; exact hnu o y hc
      rw [World.cell?_of_block (setRow_other w g b _ hne)]
      exact hc
    · obtain ⟨u, hu⟩ : ∃ u, xs[o]? = some u := ⟨_, List.getElem?_eq_getElem (by omega)⟩
      have h1 : (xs ++ [Value.int .i64 x])[o]? = some u := by rw [List.getElem?_append_left (by omega)]; exact hu
      exact (hrow'.cell h1).trans (hrow.cell hu).symm
  · have holds : ∀ j u, xs[j]? = some u → w.cell? ((⟨g, 0, none⟩ : Addr).add j) = some u := fun j u hu => by
      rw [Addr.add_lit, Nat.zero_add]; exact hrow.cell hu
    have hr := run_append_grow (P := P) w t ty 3 i (.int .i64 0) ht hi hz ⟨g, 0, none⟩ n cap xs (by rw [hsize, Nat.mul_one]; exact hxs) holds ad 1 c [.int .i64 x] (by rw [hsize]; rfl) hnews (by omega) (by omega) (growslice_fits (by omega) (by rw [hby]; omega))
    refine ⟨w.heap.size, _, _, hr, ⟨by simp [hxs], ⟨_, heap_alloc_new w.drew _, ?_, ?_, ?_⟩, grownCap_ge _ _ _ _, grownCap_le_maxLen _ _ _ _ (by unfold maxLen; omega)⟩, .inr (Nat.le_refl _), ((Grow.refl w).drew.alloc _).but _, fun o ho => ((Grow.refl w).drew.alloc _).cells _ _ hin⟩
    · have := grownCap_ge w (n + 1) cap 3
      simp [size_zeroCells, Value.cells, hxs]
      omega
    · have h1 : (xs ++ [Value.int .i64 x]).length = n + 1 := by simp [hxs]
      simp only [Array.toList_append]
      rw [← h1, List.take_left]
    · intro u hu
      simp only [Array.toList_append, List.mem_append] at hu
      rcases hu with (hu | hu) | hu
      · have : u ∈ xs := by simpa using hu
        rw [← htk] at this
        exact hall u (List.mem_of_mem_take this)
      · simp at hu; exact ⟨x, hu⟩
      · exact zero_ints _ u hu
theorem wpList_append_j (w : World) {ops : Array Oper} {rest : List Oper} {o : Oper} {a : Act} {Q : Exit → Act → World → Prop} (hgd : o.guard = none) (s x : Operand) (t : TypeId)
    (ho : o.op = .call { callee := .builtin .append, args := #[s, x], argTypes := #[t, t] }) (i : TypeInfo) (ht : P.underlying t = some (.slice 3)) (hi : P.info? 3 = some i) (hz : i.zero = some (.int .i64 0)) (hsize : i.size = 1) (hby : i.bytes = 8)
    (g n cap : Nat) (xs : List Value) (hs : a.eval s = .slice (some ⟨g, 0, none⟩) n cap) (hrow : RowJ w g n cap xs) (ad : Addr) (c : Nat) (z : Int) (hx : a.eval x = .slice (some ad) 1 c) (hc : w.cell? ad = some (.int .i64 z)) (hl : n + 1 ≤ 1000000)
    (h : ∀ g' cap' w', RowJ w' g' (n + 1) cap' (xs ++ [.int .i64 z]) → (g' = g ∨ w.heap.size ≤ g') → But (fun b => b = g) w w' → (∀ o, o < n → w'.cell? ⟨g, o, none⟩ = w.cell? ⟨g, o, none⟩) → wpList P ops Q rest (a.put o.dst (.slice (some ⟨g', 0, none⟩) (n + 1) cap')) w') : wpList P ops Q (o :: rest) a w := by
  refine wpList_plain hgd fun K hK' => ?_
  obtain ⟨g', cap', w', hrun, r1, r2, r3, r4⟩ := run_append_j (P := P) (ty := o.type) ht hi hz hsize hby w g n cap xs hrow ad c z hc hl
  unfold Oper.wp
  simp [execOp, ho, resolve, invoke, builtin, hs, hx, hrun, Result.andThen]
  exact hK' _ _ (h g' cap' w' r1 r2 r3 r4)
end
/-- The divisors' list behind one pair. -/
def dvR (s : List Nat) (p i : Nat) : List Nat := s ++ (List.range i).flatMap (fun k => s.map (fun d => d * p ^ (k + 1)))
def dvS (s : List Nat) (p e : Nat) : List Nat := dvR s p e
theorem dvR_len (s : List Nat) (p : Nat) : ∀ i, (dvR s p i).length = s.length * (i + 1)
  | 0 => by simp [dvR]
  | i + 1 => by
    have h := dvR_len s p i
    unfold dvR at h ⊢
    rw [List.range_succ, List.flatMap_append, ← List.append_assoc, List.length_append, h]
    simp [Nat.mul_add]
theorem dvR_succ (s : List Nat) (p i : Nat) : dvR s p (i + 1) = dvR s p i ++ s.map (fun d => d * p ^ (i + 1)) := by
  unfold dvR
  rw [List.range_succ, List.flatMap_append, ← List.append_assoc]
  simp
theorem dvR_pre (s : List Nat) (p i : Nat) : ∃ l, dvR s p i = s ++ l := ⟨_, rfl⟩
end Go.Proofs.YtbpkfcohbefphaaGreatDoor
namespace Go.Proofs.YtbpkfcohbefphaaGreatDoor
open Go Go.RowKit
def natV (l : List Nat) : List Value := l.map (fun d : Nat => Value.int .i64 (d : Int))
structure DvSt (w0 : World) (b4 : Nat) (s : List Nat) (u : World) : Prop where
  grow : Grow w0 u
  le : w0.heap.size ≤ b4
  lt : b4 < u.heap.size
  free : ∀ o, u.frozen? ⟨b4, o, none⟩ = false
  row : ∃ g cap, u.cell? ⟨b4, 0, none⟩ = some (.slice (some ⟨g, 0, none⟩) s.length cap) ∧ RowJ u g s.length cap (natV s) ∧ g ≠ b4 ∧ w0.heap.size ≤ g
theorem DvSt.go {w0 u u' : World} {b4 : Nat} {s : List Nat} (h : DvSt w0 b4 s u) (hg : Grow u u') : DvSt w0 b4 s u' := by
  obtain ⟨g, cap, h1, h2, h3, h4⟩ := h.row
  exact ⟨h.grow.trans hg, h.le, Nat.lt_of_lt_of_le h.lt hg.size, fun o => (hg.frees _ _ h.lt).trans (h.free o), g, cap, (hg.cells _ _ h.lt).trans h1, h2.grow hg, h3, h4⟩
theorem DvSt.push {w0 u u1 w7 : World} {b4 g cap g' cap' : Nat} {l : List Nat} {x : Nat} (H : DvSt w0 b4 l u) (hg4 : g ≠ b4) (hgw : w0.heap.size ≤ g) (hc : u.cell? ⟨b4, 0, none⟩ = some (.slice (some ⟨g, 0, none⟩) l.length cap)) (h1 : Grow u u1)
    (hr : RowJ w7 g' (l.length + 1) cap' (natV l ++ [.int .i64 (x : Int)])) (hg' : g' = g ∨ u1.heap.size ≤ g') (hb : But (fun b => b = g) u1 w7) :
    w7.cell? ⟨b4, 0, none⟩ = some (.slice (some ⟨g, 0, none⟩) l.length cap) ∧ (∀ o, w7.frozen? ⟨b4, o, none⟩ = false) ∧ b4 < w7.heap.size ∧ DvSt w0 b4 (l ++ [x]) (w7.setCell ⟨b4, 0, none⟩ (.slice (some ⟨g', 0, none⟩) (l.length + 1) cap')) ∧ But (fun b => b = b4) w7 (w7.setCell ⟨b4, 0, none⟩ (.slice (some ⟨g', 0, none⟩) (l.length + 1) cap')) := by
  have hl1 : b4 < u1.heap.size := Nat.lt_of_lt_of_le H.lt h1.size
  have hc7 : w7.cell? ⟨b4, 0, none⟩ = some (.slice (some ⟨g, 0, none⟩) l.length cap) := (hb.cells _ _ hl1 (fun e => hg4 e.symm)).trans ((h1.cells _ _ H.lt).trans hc)
  have hf7 : ∀ o, w7.frozen? ⟨b4, o, none⟩ = false := fun o => (hb.frees _ _ hl1).trans ((h1.frees _ _ H.lt).trans (H.free o))
  have hl7 : b4 < w7.heap.size := Nat.lt_of_lt_of_le hl1 hb.size
  have hg4' : g' ≠ b4 := by rcases hg' with h | h <;> omega
  have hgw' : w0.heap.size ≤ g' := by
    have h2 := H.grow.size
    have h3 := h1.size
    rcases hg' with h | h <;> omega
  have hbs : But (fun b => b = b4) w7 (w7.setCell ⟨b4, 0, none⟩ (.slice (some ⟨g', 0, none⟩) (l.length + 1) cap')) := (But.refl (fun b => b = b4) w7).set _ (.inr rfl) (fun x => by rw [hc7]; simp)
  refine ⟨hc7, hf7, hl7, ⟨?_, H.le, Nat.lt_of_lt_of_le hl7 hbs.size, fun o => (hbs.frees _ _ hl7).trans (hf7 o), g', cap', ?_, ?_, hg4', hgw'⟩, hbs⟩
  · exact ((((H.grow.trans h1).but (fun b => b = g ∨ b = b4)).trans (hb.mono (fun b e => .inl e))).trans (hbs.mono (fun b e => .inr e))).asGrow (fun b e => by
      have := H.le
      rcases e with e | e <;> omega)
  · rw [List.length_append]
    exact World.cell?_setCell_same _ _ _ hc7
  · have h5 := hr.but hbs (fun e => hg4' e)
    have e1 : natV (l ++ [x]) = natV l ++ [.int .i64 (x : Int)] := by simp [natV]
    rw [e1, List.length_append]
    exact h5
def okDv (s : List Nat) (p e : Nat) : Bool := decide (s.length * (e + 1) ≤ 1000) && decide (p ^ e ≤ 1000) && s.all (fun d => decide (d * p ^ e ≤ 1000))
set_option maxRecDepth 20000 in
set_option maxHeartbeats 8000000 in
theorem div1_any (w0 : World) (b4 : Nat) (s : List Nat) (p e : Nat) (hp0 : 2 ≤ p) (hp1 : p ≤ 1001) (_ : 1 ≤ e) (he1 : e ≤ 10) (hok : okDv s p e = true) (u : World) (hS : DvSt w0 b4 s u) :
    Calls Tryz.prog 29 #[.int .i64 (p : Int), .int .i64 (e : Int), .pointer (some ⟨b4, 0, none⟩)] u fun x w' => x = .returned (.tuple #[]) ∧ DvSt w0 b4 (dvS s p e) w' := by
  unfold okDv at hok
  simp only [Bool.and_eq_true, decide_eq_true_eq, List.all_eq_true] at hok
  obtain ⟨⟨hk1, hk2⟩, hk3⟩ := hok
  have hpe : ∀ i, i < e → p ^ (i + 1) ≤ 1000 := fun i hi => Nat.le_trans (Nat.pow_le_pow_right (by omega) hi) hk2
  have hdp : ∀ d, d ∈ s → ∀ i, i < e → d * p ^ (i + 1) ≤ 1000 := fun d hd i hi => Nat.le_trans (Nat.mul_le_mul_left _ (Nat.pow_le_pow_right (by omega) hi)) (hk3 d hd)
  have hlen : ∀ i, i ≤ e → (dvR s p i).length ≤ 1000 := fun i hi => by rw [dvR_len]; exact Nat.le_trans (Nat.mul_le_mul_left _ (by omega)) hk1
  obtain ⟨c, hc⟩ : ∃ c, s.length = c := ⟨_, rfl⟩
  have hcb : c ≤ 1000 := by rw [← hc]; exact Nat.le_trans (Nat.le_mul_of_pos_right _ (by omega)) hk1
  have HPE := Lib.hid hpe
  have HDP := Lib.hid hdp
  have HLEN := Lib.hid hlen
  have HC := Lib.hid hc
  have HS := Lib.hid hS
  obtain ⟨ii, hii, iiz0, iiz1, iiz2⟩ := info_parts infoInt
  obtain ⟨g, cap, hcell, hrow, hg4, hgw⟩ := hS.row
  rw [hc] at hcell hrow
  have hccap := hrow.le
  clear hk1 hk2 hk3 hpe hdp hlen hc hS hrow hg4 hgw
  go_enter Tryz.func29, Tryz.ntmps29
  go_wp2_with fail
  clear hcell hccap
  go_loopg [1, 6] e (fun gk t1 t6 wr => ∃ i e1 pw : Nat, t1 = .int .i64 (e1 : Int) ∧ t6 = .int .i64 (pw : Int) ∧ i ≤ e ∧ Hid (gk = e - i) ∧ Hid (e1 = e - i) ∧ Hid (pw = p ^ (i + 1)) ∧ Hid (DvSt w0 b4 (dvR s p i) wr))
  case atStart => exact ⟨0, e, p, rfl, rfl, Nat.zero_le _, Lib.hid rfl, Lib.hid rfl, Lib.hid (by simp), Lib.hid (by have h := HS.out; simpa [dvR] using h)⟩
  case round =>
    clear HS
    obtain ⟨i, e1, pw, rfl, rfl, hi, HGK, HE1, HPW, HS⟩ := hrel
    by_cases hie : i = e
    · have he0 : e1 = 0 := by have := HE1.out; omega
      subst he0
      have HIE := Lib.hid hie
      clear hie
      have hn3 : decide ((0 : Int) < ((0 : Nat) : Int)) = false := by simp
      go_wp2_with fail
      (try simp only [Exit.inBlock, Exit.then])
      first
        | (refine bodyPost_end (results_none rfl _ _ _) rfl ?_; exact ⟨rfl, by have h := HS.out; rw [HIE.out] at h; exact h⟩)
        | (refine bodyPost_ret (v := .tuple #[]) (results_none rfl _ _ _) rfl ?_; exact ⟨rfl, by have h := HS.out; rw [HIE.out] at h; exact h⟩)
    · have hil : i < e := by omega
      have he0 : 0 < e1 := by have := HE1.out; omega
      have he2 : (0 : Int) < (e1 : Int) := by omega
      have heb : e1 ≤ 10 := by have := HE1.out; omega
      obtain ⟨g, cap, hcell, hrow, hg4, hgw⟩ := HS.out.row
      obtain ⟨L, hL⟩ : ∃ L, (dvR s p i).length = L := ⟨_, rfl⟩
      have hLb : L ≤ 1000 := by rw [← hL]; exact HLEN.out i hi
      have hcL : c ≤ L := by
        rw [← hL, dvR_len, HC.out]; exact Nat.le_mul_of_pos_right _ (by omega)
      rw [hL] at hcell hrow
      have hLcap := hrow.le
      have hccap : c ≤ cap := by omega
      have hcapb := hrow.max
      have hcap2 : (cap : Int) ≤ 9223372036854775807 := by unfold maxLen at hcapb; omega
      have hc1 : (0 : Int) ≤ (c : Int) := by omega
      have hc2 : (c : Int) ≤ (cap : Int) := by omega
      have HCELLS : Hid (∀ (o x : Nat), s[o]? = some x → wr.cell? ⟨g, o, none⟩ = some (.int .i64 (x : Int))) := Lib.hid (fun o x hx => hrow.cell (by
        obtain ⟨l, hl⟩ := dvR_pre s p i
        rw [hl]
        unfold natV
        rw [List.getElem?_map, List.getElem?_append_left (by have := (List.getElem?_eq_some_iff.1 hx).1; exact this), hx]; rfl))
      have hglt := hrow.lt
      have HG4 := Lib.hid hg4
      have HL := Lib.hid hL
      clear hrow hL hie hg4
      go_wp2_with fail
      clear hcell hLcap hccap hcap2 hc1 hc2
      go_loopg [23] c (fun gk2 t23 wx => ∃ j : Nat, t23 = .int .i64 (j : Int) ∧ j ≤ c ∧ Hid (gk2 = c - j) ∧ Hid (DvSt w0 b4 (dvR s p i ++ (s.take j).map (fun d => d * pw)) wx) ∧ Hid (∀ (o x : Nat), s[o]? = some x → wx.cell? ⟨g, o, none⟩ = some (.int .i64 (x : Int))))
      case atStart => exact ⟨0, rfl, Nat.zero_le _, Lib.hid rfl, Lib.hid (by have h := HS.out; simpa using h), HCELLS⟩
      case round =>
        clear HS HCELLS
        obtain ⟨j, rfl, hj, HGK2, HS, HCELLS⟩ := hrel
        by_cases hjc : j = c
        · have y1 : decide ((j : Int) < (c : Int)) = false := by simp; omega
          have y2 : ¬ (j < c) := by omega
          have HD : Hid (DvSt w0 b4 (dvR s p (i + 1)) wr) := Lib.hid (by
            have h := HS.out
            rw [hjc, List.take_of_length_le (by rw [HC.out]; exact Nat.le_refl _), HPW.out, ← dvR_succ] at h
            exact h)
          obtain ⟨e2, he2'⟩ : ∃ e2, e1 - 1 = e2 := ⟨_, rfl⟩
          obtain ⟨pw2, hpw2⟩ : ∃ q, pw * p = q := ⟨_, rfl⟩
          have hpwb : pw ≤ 1000 := by have h := HPE.out i hil; have := HPW.out; omega
          have hpw2b : pw2 ≤ 1000 * 1001 := by rw [← hpw2]; exact Nat.mul_le_mul hpwb hp1
          have E1 : Hid (IntKind.i64.wrap ((e1 : Int) - 1) = (e2 : Int) ∧ wrap64 ((e1 : Int) - 1) = (e2 : Int)) := Lib.hid (by rw [show (e1 : Int) - 1 = (e2 : Int) by omega]; exact w64n (by omega))
          have E2 : Hid (IntKind.i64.wrap ((pw : Int) * (p : Int)) = (pw2 : Int) ∧ wrap64 ((pw : Int) * (p : Int)) = (pw2 : Int)) := Lib.hid (by rw [show (pw : Int) * (p : Int) = (pw2 : Int) by rw [← hpw2]; simp]; exact w64n (by omega))
          have HE2 : Hid (e2 = e - (i + 1)) := Lib.hid (by have := HE1.out; omega)
          have HPW2 : Hid (pw2 = p ^ (i + 1 + 1)) := Lib.hid (by rw [← hpw2, HPW.out]; exact (Nat.pow_succ p (i + 1)).symm)
          clear hjc he2' hpw2
          obtain ⟨x1, x2⟩ := E1.out
          obtain ⟨x3, x4⟩ := E2.out
          go_wp2_with fail
          clear x1 x2 x3 x4
          go_roundg (e - (i + 1))
          case measure => have := HGK.out; omega
          case rel => exact ⟨i + 1, e2, pw2, rfl, rfl, hil, Lib.hid rfl, HE2, HPW2, HD⟩
        · have hjl : j < c := by omega
          have y0 : (0 : Int) ≤ (j : Int) := by omega
          have y1 : (j : Int) < (c : Int) := by omega
          obtain ⟨d, hd⟩ : ∃ d, s[j]? = some d := ⟨_, List.getElem?_eq_getElem (by rw [HC.out]; exact hjl)⟩
          have hdc := HCELLS.out j d hd
          have hdm : d ∈ s := List.mem_of_getElem? hd
          obtain ⟨z, hz⟩ : ∃ z, d * pw = z := ⟨_, rfl⟩
          have hzb : z ≤ 1000 := by have h := HDP.out d hdm i hil; rw [← HPW.out] at h; omega
          have E1 : Hid (IntKind.i64.wrap ((d : Int) * (pw : Int)) = (z : Int) ∧ wrap64 ((d : Int) * (pw : Int)) = (z : Int)) := Lib.hid (by rw [show (d : Int) * (pw : Int) = (z : Int) by rw [← hz]; simp]; exact w64n (by omega))
          have YI := Lib.hid (inc_wrap (i := j) (n := 2000) (by omega) (by omega))
          obtain ⟨l, hl⟩ : ∃ l, dvR s p i ++ (s.take j).map (fun d => d * pw) = l := ⟨_, rfl⟩
          have hlb : l.length + 1 ≤ 1000000 := by
            rw [← hl, List.length_append, List.length_map, List.length_take]
            have := HL.out
            have := HC.out
            omega
          have hlc : c ≤ l.length := by
            rw [← hl, List.length_append]
            have := HL.out
            omega
          have HLL : Hid (l ++ [z] = dvR s p i ++ (s.take (j + 1)).map (fun d => d * pw)) := Lib.hid (by
            rw [← hl, List.take_add_one, hd, List.map_append, ← hz, List.append_assoc]; rfl)
          rw [hl] at HS
          obtain ⟨g5, cap5, hcell, hrow, hg5, hgw5⟩ := HS.out.row
          have HROW := Lib.hid hrow
          have hg5l := hrow.lt
          have HCL5 := Lib.hid hcell
          have HG5 := Lib.hid hg5
          have hgl2 : g < wr.heap.size := by
            rcases Nat.lt_or_ge g wr.heap.size with h | h
            · exact h
            · exfalso
              unfold World.cell? at hdc
              simp only [Option.isSome_none, Bool.false_eq_true, if_false] at hdc
              rw [Array.getElem?_eq_none h] at hdc
              cases hdc
          have jii := hii
          clear hd hz hl hrow hg5
          obtain ⟨x1, x2⟩ := E1.out
          go_wp2_with (at_builtin; go_loud (refine wpList_append_j _ rfl _ _ 33 rfl ii Tryz.underlying33 hii iiz0 iiz1 iiz2 g5 l.length cap5 (natV l) rfl (HROW.out.grow (by (repeat (first | with_reducible exact Grow.refl _ | with_reducible refine Grow.alloc ?_ _ | with_reducible refine Grow.drew ?_ | with_reducible refine Grow.drewN ?_ _ | (with_reducible refine Grow.setCell ?_ ?hp _; (case hp => (simp; try omega))) | with_reducible refine Grow.trans ?_ (by assumption))))) ⟨wr.heap.size, 0, none⟩ 1 (z : Int) rfl (by go_simp) hlb ?_))
          intro g7 cap7 w7 hrow7 hg7 hb7 hk7
          obtain ⟨p1, p2, p3, p4, p5⟩ := HS.out.push HG5.out hgw5 HCL5.out (show Grow wr (wr.alloc (.cells #[.int .i64 (z : Int)] 3)) by (repeat (first | with_reducible exact Grow.refl _ | with_reducible refine Grow.alloc ?_ _ | with_reducible refine Grow.drew ?_ | with_reducible refine Grow.drewN ?_ _ | (with_reducible refine Grow.setCell ?_ ?hp _; (case hp => (simp; try omega))) | with_reducible refine Grow.trans ?_ (by assumption)))) hrow7 (hg7.imp id (fun h => by simp; exact h)) hb7
          rw [HLL.out] at p4
          have HD2 := Lib.hid p4
          have HCELL2 : Hid (∀ (o x : Nat), s[o]? = some x → (w7.setCell ⟨b4, 0, none⟩ (.slice (some ⟨g7, 0, none⟩) (l.length + 1) cap7)).cell? ⟨g, o, none⟩ = some (.int .i64 (x : Int))) := Lib.hid (fun o x hx => by
            have hoc : o < c := by rw [← HC.out]; exact (List.getElem?_eq_some_iff.1 hx).1
            have q1 := HCELLS.out o x hx
            have ga : Grow wr (wr.alloc (.cells #[.int .i64 (z : Int)] 3)) := by (repeat (first | with_reducible exact Grow.refl _ | with_reducible refine Grow.alloc ?_ _ | with_reducible refine Grow.drew ?_ | with_reducible refine Grow.drewN ?_ _ | (with_reducible refine Grow.setCell ?_ ?hp _; (case hp => (simp; try omega))) | with_reducible refine Grow.trans ?_ (by assumption)))
            have q2 := (ga.cells g o hgl2).trans q1
            have q3 : w7.cell? ⟨g, o, none⟩ = some (.int .i64 (x : Int)) := by
              by_cases hgg : g = g5
              · rw [hgg] at q1 ⊢
                exact (hk7 o (by omega)).trans q1
              · exact (hb7.cells g o (Nat.lt_of_lt_of_le hgl2 ga.size) hgg).trans q2
            exact (p5.cells g o (by
              have h8 : w7.cell? ⟨g, o, none⟩ = some (.int .i64 (x : Int)) := q3
              rcases Nat.lt_or_ge g w7.heap.size with h | h
              · exact h
              · exfalso
                unfold World.cell? at h8
                simp only [Option.isSome_none, Bool.false_eq_true, if_false] at h8
                rw [Array.getElem?_eq_none h] at h8
                cases h8) HG4.out).trans q3)
          clear hrow7 hg7 hb7 hk7 p4 p5 x1 x2 hcell
          obtain ⟨x1, x2⟩ := YI.out
          go_wp2_with fail
          clear x1 x2
          go_roundg (c - (j + 1))
          case measure => have := HGK2.out; omega
          case rel => exact ⟨j + 1, rfl, hjl, Lib.hid rfl, HD2, HCELL2⟩
end Go.Proofs.YtbpkfcohbefphaaGreatDoor
namespace Go.Proofs.YtbpkfcohbefphaaGreatDoor
open Go Go.RowKit
/-- The divisors of n in order. -/
def divs (n : Nat) : List Nat := (List.range (n + 1)).filter (fun d => d != 0 && n % d == 0)
def dvM (n : Nat) : List Nat := foldS dvS (faL 33 n 2) [1]
def dvOk (n : Nat) : Bool := okSB okDv dvS (faL 33 n 2) [1] && (dvM n).isPerm (divs n)
set_option maxHeartbeats 80000000 in
theorem divs_t0 : ∀ n : Nat, n < 400 → n = 0 ∨ dvOk n = true := by decide +kernel
set_option maxHeartbeats 80000000 in
theorem divs_t1 : ∀ n : Nat, n < 201 → dvOk (n + 400) = true := by decide +kernel
end Go.Proofs.YtbpkfcohbefphaaGreatDoor
namespace Go.Proofs.YtbpkfcohbefphaaGreatDoor
open Go Go.RowKit
set_option maxHeartbeats 80000000 in
theorem divs_dvu : ∀ n : Nat, n < 200 → dvOk (n + 601) = true := by decide +kernel
end Go.Proofs.YtbpkfcohbefphaaGreatDoor
namespace Go.Proofs.YtbpkfcohbefphaaGreatDoor
open Go Go.RowKit
set_option maxHeartbeats 80000000 in
theorem divs_dvv : ∀ n : Nat, n < 200 → dvOk (n + 801) = true := by decide +kernel
end Go.Proofs.YtbpkfcohbefphaaGreatDoor
