/- Lemmas, plain laws and walks that the statement LwKronecker leans on (texts BnF, DvU, DvV, SrD, DvC), conditions as each theorem says. -/
import Derived.Shelf.Sort.Plain
import Derived.Sort.OwnSortedInts
import Derived.Test.YtbpkfcohbefphaaGreatDoorTopKhG21
import Derived.Test.YtbpkfcohbefphaaGreatDoorTopKhG27
import Derived.Test.YtbpkfcohbefphaaGreatDoorTopKhG33

namespace Go.Proofs.YtbpkfcohbefphaaGreatDoor
open Go Go.RowKit
/-- The summand at k + 1: the first Bernoulli polynomial at (k + 1) / f. -/
def suN (f k : Nat) : Rat := ((2 * ((k : Int) + 1) - (f : Int) : Int) : Rat) / ((2 * (f : Int) : Int) : Rat)
theorem su_eq (f k : Nat) (hf : 0 < f) : Rat.divInt ((k : Int) + 1) (f : Int) + mkRat (-1) 2 = suN f k := by
  have h1 : mkRat (-1) 2 = Rat.divInt (-1) 2 := rfl
  rw [h1, Rat.divInt_add_divInt _ _ (by omega) (by omega)]
  unfold suN
  rw [← Rat.divInt_eq_div]
  congr 1 <;> omega
theorem dq_mul (D : Int) (a b : Int) : ((a : Int) : Rat) * (((b : Int) : Rat) / ((D : Int) : Rat)) = ((a * b : Int) : Rat) / ((D : Int) : Rat) := by
  rw [Rat.intCast_mul, Rat.div_def, Rat.div_def, Rat.mul_assoc]
theorem dq_add (D : Int) (a b : Int) : ((a : Int) : Rat) / ((D : Int) : Rat) + ((b : Int) : Rat) / ((D : Int) : Rat) = ((a + b : Int) : Rat) / ((D : Int) : Rat) := by
  rw [Rat.intCast_add, Rat.div_def, Rat.div_def, Rat.div_def, Rat.add_mul]
theorem sm_dq (D a : Int) (n m : Nat) (hD : 0 < D) (ha : a.natAbs ≤ n) (hm : D ≤ (m : Int)) : Sm (((a : Int) : Rat) / ((D : Int) : Rat)) n m := (sm_frac a hD).mono ha (by omega)
set_option maxRecDepth 20000 in
set_option maxHeartbeats 8000000 in
theorem summandsQ (f : Nat) (hf : 1 ≤ f) (hf2 : f ≤ 60) (w : World) : Calls Tryz.prog 33 #[.int .i64 1, .int .i64 (f : Int)] w fun e w' => ∃ g c, e = .returned (.slice (some ⟨g, 0, none⟩) f c) ∧ RowQ w' g 0 f (suN f) ∧ Grow w w' ∧ w.heap.size ≤ g := by
  obtain ⟨ir, hir, irz0, irz1, irz2⟩ := info_parts infoRat
  have PO := Lib.hid (fun u => poly1Q u)
  have OFF := Lib.hid (fun u => ofQ (f : Int) (by omega) u)
  have PW := Lib.hid (fun (v : Value) (u : World) (h : RatR u v ((f : Int) : Rat)) => pow0Q _ v u h)
  have OI := Lib.hid (fun u => ofV (f : Int) (by omega) u)
  have m0 : IntKind.i64.wrap 0 = 0 := by decide
  go_enter Tryz.func33, Tryz.ntmps33
  go_upto_region 2 with (go_at_call 56; (with_reducible refine (PO.out _).mono ?_); (rintro e u2 ⟨G, rfl, hr2, hb2⟩; have HR2 := Lib.hid hr2; have HG2 := Lib.hid hb2; clear hr2 hb2))
  go_upto_region 3 with (first
    | (go_at_call 20; (with_reducible refine (OFF.out _).mono ?_); (rintro e u3 ⟨v3, rfl, hv3, hb3⟩; obtain ⟨s3, a3, l3, c3, t3, b3, k3, e3, rfl⟩ := hv3.form; have HV3 := Lib.hid hv3; have HG3 := Lib.hid hb3; clear hv3 hb3))
    | (go_at_call 57; (with_reducible refine (PW.out _ _ HV3.out).mono ?_); (rintro e u4 ⟨v4, rfl, hv4, hb4⟩; obtain ⟨s4, a4, l4, c4, t4, b4, k4, e4, rfl⟩ := hv4.form; have HV4 := Lib.hid hv4; have HG4 := Lib.hid hb4; clear hv4 hb4)))
  obtain ⟨W5, hW5⟩ : ∃ W5 : World, W5 = u4.alloc (.cells #[.bool s4, .slice a4 l4 c4, .bool t4, .slice b4 k4 e4] 27) := ⟨_, rfl⟩
  rw [← hW5]
  have HX5 := Lib.hid (rowq_lay hW5 HV4.out)
  have HR5 := Lib.hid (RowP.grow HR2.out (HG3.out.trans (HG4.out.trans (ag hW5))))
  have HG5 := Lib.hid (HG2.out.trans (HG3.out.trans (HG4.out.trans (ag hW5))))
  obtain ⟨X, hX⟩ : ∃ X, u4.heap.size = X := ⟨_, rfl⟩
  rw [hX] at HX5
  rw [hX]
  obtain ⟨B0, hB0⟩ : ∃ B0, W5.heap.size = B0 := ⟨_, rfl⟩
  have hB0w : w.heap.size ≤ B0 := by rw [← hB0]; exact HG5.out.size
  clear hW5 hX HR2 HG2 HV3 HG3 HV4 HG4 m0 PO OFF PW
  go_wp2_with fail
  go_loopg [8, 9] f (fun gk t8 t9 wr => ∃ (k : Nat) (a : Option Addr) (c : Nat) (xs : List Value), t8 = .slice a k c ∧ t9 = .int .i64 ((k + 1 : Nat) : Int) ∧ k ≤ f ∧ Hid (gk = f - k) ∧ Hid (OwnG wr B0 27 4 (.slice a k c) k xs) ∧ Hid (ListR wr xs k (suN f)) ∧ Hid (But (fun b => B0 ≤ b) W5 wr))
  case atStart => exact ⟨0, none, 0, [], rfl, rfl, Nat.zero_le _, Lib.hid rfl, Lib.hid (OwnG.nil _ _ _ _), Lib.hid (ListR.nil _ _), Lib.hid (But.refl _ _)⟩
  case round =>
    obtain ⟨k, a, c, xs, rfl, rfl, hk2, HGK, HO, HL, HB⟩ := hrel
    have hg5 : Grow W5 wr := HB.out.asGrow (fun b hb => by omega)
    have HG : Hid (Grow w wr) := Lib.hid (HG5.out.trans hg5)
    by_cases hk : k = f
    · subst hk
      obtain ⟨g, cap, hv, hg1, hg2⟩ := own_slice HO.out.own (by omega)
      injection hv with h1 h2 h3
      subst h1 h3
      have HRQ := Lib.hid (own_rowq HO.out.own HL.out)
      have HGB := Lib.hid (own_cells HO.out.own).2.1
      have y1 : decide (((k + 1 : Nat) : Int) ≤ (k : Int)) = false := by simp; omega
      have y1n : decide (k + 1 ≤ k) = false := by simp
      have y1c : decide ((k : Int) + 1 ≤ (k : Int)) = false := by simp; omega
      clear hg5
      go_wp2_with fail
      go_ret
      exact ⟨g, ⟨c, rfl⟩, HRQ.out, HG.out, Nat.le_trans hB0w HGB.out⟩
    · have y1 : decide (((k + 1 : Nat) : Int) ≤ (f : Int)) = true := by simp; omega
      have y1n : decide (k + 1 ≤ f) = true := by simp; omega
      have y1c : decide ((k : Int) + 1 ≤ (f : Int)) = true := by simp; omega
      have OK := Lib.hid (fun u => ofV ((k : Int) + 1) (by omega) u)
      have MK := Lib.hid (fun v1 v2 (u : World) h1 h2 => makeQ ((k : Int) + 1) (f : Int) v1 v2 (by omega) u h1 h2)
      have hsm : Sm (Rat.divInt ((k : Int) + 1) (f : Int)) 60 60 := by
        rw [Rat.divInt_eq_div]
        exact (sm_frac ((k : Int) + 1) (by omega)).mono (by omega) (by omega)
      have EV := Lib.hid (fun (v : Value) (c' : Nat) (u : World) (hu : Grow wr u) (hv : RatR u v (Rat.divInt ((k : Int) + 1) (f : Int))) => evalQ G c' _ v hsm u (RowP.grow HR5.out (hg5.trans hu)) hv)
      rw [su_eq f k (by omega)] at EV
      have MU := Lib.hid (fun v1 v2 (u : World) h1 h2 => mulQk ((1 : Int) : Rat) (suN f k) (suN f k) ⟨by rw [show ((1 : Int) : Rat) = 1 by decide +kernel, Rat.one_mul], ((sm_int 1).mulB (sm_dq (2 * (f : Int)) _ 120 120 (by omega) (by omega) (by omega)) (by decide) (by decide)).1, ((sm_int 1).mulB (sm_dq (2 * (f : Int)) _ 120 120 (by omega) (by omega) (by omega)) (by decide) (by decide)).2⟩ v1 v2 u h1 h2)
      have y4 : Hid (IntKind.i64.wrap ((k : Int) + 1 + 1) = ((k + 1 + 1 : Nat) : Int) ∧ wrap64 ((k : Int) + 1 + 1) = ((k + 1 + 1 : Nat) : Int)) := Lib.hid (by rw [show (k : Int) + 1 + 1 = ((k + 1 + 1 : Nat) : Int) by omega]; exact w64n (by omega))
      clear hsm
      go_upto_region 8 with (first
        | (go_at_call 19; (with_reducible refine (OK.out _).mono ?_); clear OK; (rintro e u6 ⟨v6, rfl, hv6, hb6⟩; obtain ⟨s6, a6, l6, c6, rfl⟩ := hv6.form; have HV6 := Lib.hid hv6; have HG6 := Lib.hid hb6; clear hv6 hb6))
        | (go_at_call 19; (with_reducible refine (OI.out _).mono ?_); (rintro e u7 ⟨v7, rfl, hv7, hb7⟩; obtain ⟨s7, a7, l7, c7, rfl⟩ := hv7.form; have HV7 := Lib.hid hv7; have HG7 := Lib.hid hb7; clear hv7 hb7))
        | (go_at_call 18; (with_reducible refine (MK.out _ _ _ (HV6.out.grow HG7.out) HV7.out).mono ?_); (rintro e u8 ⟨v8, rfl, hv8, hb8⟩; obtain ⟨s8, a8, l8, c8, t8, b8, k8, e8, rfl⟩ := hv8.form; have HV8 := Lib.hid hv8; have HG8 := Lib.hid hb8; clear hv8 hb8)))
      obtain ⟨W9, hW9⟩ : ∃ W9 : World, W9 = u8.alloc (.cells #[.bool s8, .slice a8 l8 c8, .bool t8, .slice b8 k8 e8] 27) := ⟨_, rfl⟩
      rw [← hW9]
      have hg9 : Grow wr W9 := HG6.out.trans (HG7.out.trans (HG8.out.trans (ag hW9)))
      have HG9 := Lib.hid hg9
      obtain ⟨sp, ap, lp, cp, tp, bp, kp, ep, hcP, hvP⟩ := RowQ.cell4 (RowP.grow HX5.out (hg5.trans hg9))
      have D0 := Lib.hid hcP
      have D1 := Lib.hid (ak4 hW9)
      have HVP := Lib.hid hvP
      have HVX := Lib.hid (HV8.out.grow (ag hW9))
      have EV2 := Lib.hid (fun v c' u (hu : Grow W9 u) hv => EV.out v c' u (hg9.trans hu) hv)
      have HO := Lib.hid (HO.out.grow hg9)
      have HL := Lib.hid (HL.out.grow hg9)
      have HBW : Hid (B0 ≤ W9.heap.size) := Lib.hid (by have h1 := hg5.size; have h2 := hg9.size; omega)
      clear EV hW9 hg9 hcP hvP OI MK HV6 HV7 HV8 HG6 HG7 HG8 y1 y1n y1c
      have EV := EV2
      clear EV2
      refine region_held (id := 8) (fun u => Grow W9 u) [0, 1, 2, 3, 4, 5, 6, 7, 8] (kdL [0, 1, 0, 1, 2, 2, 2, 3, 0]) (by kernel_rfl) (by kernel_rfl) (fun t ht => kdL_lt _ t ht) ?hS0q ?_
      case hS0q => ((try dsimp only); (repeat (first | with_reducible exact Grow.refl _ | with_reducible refine Grow.alloc ?_ _ | with_reducible refine Grow.drew ?_ | with_reducible refine Grow.drewN ?_ _ | (with_reducible refine Grow.setCell ?_ ?hp _; (case hp => (simp; try omega))) | with_reducible refine Grow.trans ?_ (by assumption))))
      refine held_quiet (v := ?vq0) rfl rfl (Or.inl ⟨by rfl, ?hyq0⟩) ?_
      case hyq0 => (intro u hu; go_simp; (try with_reducible rfl))
      (try simp only [Act.put, List.setIfInBounds_toArray, List.set_cons_zero, List.set_cons_succ])
      refine held_read (v := ?vq1) rfl rfl (Or.inl ⟨by rfl, ?hyq1⟩) ?_
      case hyq1 => (intro u hu; obtain ⟨d0, d1, d2, d3, d4, d5⟩ := D0.out u hu; obtain ⟨f0, f1, f2, f3, f4, f5⟩ := D1.out u hu; go_simp; (try with_reducible rfl))
      (try simp only [Act.put, List.setIfInBounds_toArray, List.set_cons_zero, List.set_cons_succ])
      refine held_quiet (v := ?vq2) rfl rfl (Or.inl ⟨by rfl, ?hyq2⟩) ?_
      case hyq2 => (intro u hu; go_simp; (try with_reducible rfl))
      (try simp only [Act.put, List.setIfInBounds_toArray, List.set_cons_zero, List.set_cons_succ])
      refine held_read (v := ?vq3) rfl rfl (Or.inl ⟨by rfl, ?hyq3⟩) ?_
      case hyq3 => (intro u hu; obtain ⟨d0, d1, d2, d3, d4, d5⟩ := D0.out u hu; obtain ⟨f0, f1, f2, f3, f4, f5⟩ := D1.out u hu; go_simp; (try with_reducible rfl))
      (try simp only [Act.put, List.setIfInBounds_toArray, List.set_cons_zero, List.set_cons_succ])
      refine held_op rfl rfl (fun K hK => ?_)
      go_simp
      (go_at_call 58; (with_reducible refine (EV.out _ _ _ (by (repeat (first | with_reducible exact Grow.refl _ | with_reducible refine Grow.alloc ?_ _ | with_reducible refine Grow.drew ?_ | with_reducible refine Grow.drewN ?_ _ | (with_reducible refine Grow.setCell ?_ ?hp _; (case hp => (simp; try omega))) | with_reducible refine Grow.trans ?_ (by assumption)))) (HVX.out.grow (by (repeat (first | with_reducible exact Grow.refl _ | with_reducible refine Grow.alloc ?_ _ | with_reducible refine Grow.drew ?_ | with_reducible refine Grow.drewN ?_ _ | (with_reducible refine Grow.setCell ?_ ?hp _; (case hp => (simp; try omega))) | with_reducible refine Grow.trans ?_ (by assumption)))))).mono ?_); (rintro x u25 ⟨v25, rfl, hv25, hb25⟩; obtain ⟨s25, a25, l25, c25, t25, b25, k25, e25, rfl⟩ := hv25.form; have HV25 := Lib.hid hv25; clear hv25))
      (try go_wp2_with fail)
      refine hK.out _ _ ?hSq4 ?_
      case hSq4 => ((try dsimp only); (repeat (first | with_reducible exact Grow.refl _ | with_reducible refine Grow.alloc ?_ _ | with_reducible refine Grow.drew ?_ | with_reducible refine Grow.drewN ?_ _ | (with_reducible refine Grow.setCell ?_ ?hp _; (case hp => (simp; try omega))) | with_reducible refine Grow.trans ?_ (by assumption))))
      clear hK K
      (try simp only [Act.put, List.setIfInBounds_toArray, List.set_cons_zero, List.set_cons_succ])
      refine held_op rfl rfl (fun K hK => ?_)
      go_simp
      (go_at_call 34; (with_reducible refine (MU.out _ _ _ (HVP.out.grow (by (repeat (first | with_reducible exact Grow.refl _ | with_reducible refine Grow.alloc ?_ _ | with_reducible refine Grow.drew ?_ | with_reducible refine Grow.drewN ?_ _ | (with_reducible refine Grow.setCell ?_ ?hp _; (case hp => (simp; try omega))) | with_reducible refine Grow.trans ?_ (by assumption))))) HV25.out).mono ?_); (rintro x u32 ⟨v32, rfl, hv32, hb32⟩; obtain ⟨s32, a32, l32, c32, t32, b32, k32, e32, rfl⟩ := hv32.form; have HV32 := Lib.hid hv32; clear hv32))
      (try go_wp2_with fail)
      refine hK.out _ _ ?hSq5 ?_
      case hSq5 => ((try dsimp only); (repeat (first | with_reducible exact Grow.refl _ | with_reducible refine Grow.alloc ?_ _ | with_reducible refine Grow.drew ?_ | with_reducible refine Grow.drewN ?_ _ | (with_reducible refine Grow.setCell ?_ ?hp _; (case hp => (simp; try omega))) | with_reducible refine Grow.trans ?_ (by assumption))))
      clear hK K
      (try simp only [Act.put, List.setIfInBounds_toArray, List.set_cons_zero, List.set_cons_succ])
      refine held_op rfl rfl (fun K hK => ?_)
      go_simp
      refine hK.out _ _ ?hSq6 ?_
      case hSq6 => ((try dsimp only); (repeat (first | with_reducible exact Grow.refl _ | with_reducible refine Grow.alloc ?_ _ | with_reducible refine Grow.drew ?_ | with_reducible refine Grow.drewN ?_ _ | (with_reducible refine Grow.setCell ?_ ?hp _; (case hp => (simp; try omega))) | with_reducible refine Grow.trans ?_ (by assumption))))
      clear hK K
      (try simp only [Act.put, List.setIfInBounds_toArray, List.set_cons_zero, List.set_cons_succ])
      refine held_last rfl rfl (fun K hK => ?_)
      (refine step_append_g (by rfl) _ _ _ (by rfl) 27 ir _ 4 64 Tryz.underlying57 hir irz0 irz1 irz2 rfl (by decide) rat_zero_nu (by decide) B0 _ k xs (by rfl) (HO.out.grow (by (repeat (first | with_reducible exact Grow.refl _ | with_reducible refine Grow.alloc ?_ _ | with_reducible refine Grow.drew ?_ | with_reducible refine Grow.drewN ?_ _ | (with_reducible refine Grow.setCell ?_ ?hp _; (case hp => (simp; try omega))) | with_reducible refine Grow.trans ?_ (by assumption))))) ⟨u32.heap.size, 0, none⟩ 1 [.bool s32, .slice a32 l32 c32, .bool t32, .slice b32 k32 e32] (by rfl) rfl (rat_news u32 s32 a32 l32 c32 t32 b32 k32 e32 27) (rat_one s32 a32 l32 c32 t32 b32 k32 e32) (rat_nu s32 a32 l32 c32 t32 b32 k32 e32) (by omega) (by have h1 := HBW.out; have h2 := (show Grow W9 u32 by (repeat (first | with_reducible exact Grow.refl _ | with_reducible refine Grow.alloc ?_ _ | with_reducible refine Grow.drew ?_ | with_reducible refine Grow.drewN ?_ _ | (with_reducible refine Grow.setCell ?_ ?hp _; (case hp => (simp; try omega))) | with_reducible refine Grow.trans ?_ (by assumption)))).size; simp; omega) ?_; intro v7 w7 hown7 hb7; obtain ⟨a7, c7, rfl⟩ := hown7.form)
      refine hK.out _ _ ?_
      clear hK K
      (try simp only [Act.put, List.setIfInBounds_toArray, List.set_cons_zero, List.set_cons_succ])
      refine held_quiet (v := ?vq8) rfl rfl (Or.inl ⟨by rfl, ?hyq8⟩) ?_
      case hyq8 => (intro u hu; go_simp; (try with_reducible rfl))
      (try simp only [Act.put, List.setIfInBounds_toArray, List.set_cons_zero, List.set_cons_succ])
      refine held_done ?_
      have hga : Grow W9 (u32.alloc (.cells #[.bool s32, .slice a32 l32 c32, .bool t32, .slice b32 k32 e32] 27)) := by (repeat (first | with_reducible exact Grow.refl _ | with_reducible refine Grow.alloc ?_ _ | with_reducible refine Grow.drew ?_ | with_reducible refine Grow.drewN ?_ _ | (with_reducible refine Grow.setCell ?_ ?hp _; (case hp => (simp; try omega))) | with_reducible refine Grow.trans ?_ (by assumption)))
      have hl7 := ((HL.out.grow hga).append ((listr_one HV32.out).grow (by (repeat (first | with_reducible exact Grow.refl _ | with_reducible refine Grow.alloc ?_ _ | with_reducible refine Grow.drew ?_ | with_reducible refine Grow.drewN ?_ _ | (with_reducible refine Grow.setCell ?_ ?hp _; (case hp => (simp; try omega))) | with_reducible refine Grow.trans ?_ (by assumption)))))).but hb7
      have HL7 := Lib.hid (hl7.cong (r' := suN f) (fun j hj => by
        by_cases hjk : j < k
        · rw [if_pos hjk]
        · rw [if_neg hjk, show j = k by omega]))
      have HO7 := Lib.hid hown7
      have HB7 := Lib.hid (((HB.out.trans ((HG9.out.trans hga).but _)).late hb7 (fun b hb hy => hy)))
      clear hl7 hown7 hb7 hga
      obtain ⟨e4, e4'⟩ := y4.out
      go_simp
      go_wp2_with fail
      clear e4 e4'
      go_roundg (f - (k + 1))
      case measure => have := HGK.out; omega
      case rel => exact ⟨k + 1, a7, c7, _, rfl, by first | rfl | simp, by omega, Lib.hid rfl, HO7, HL7, HB7⟩
/-- Twice f times the sum of the first k terms. -/
def bP (d : Int) (f : Nat) : Nat → Int
  | 0 => 0
  | k + 1 => bP d f k + krN d (k + 1) * (2 * ((k : Int) + 1) - (f : Int))
theorem tm_abs (d : Int) (f k : Nat) (hf : f ≤ 60) (hk : k < f) : (krN d (k + 1) * (2 * ((k : Int) + 1) - (f : Int))).natAbs ≤ 60 := by
  rw [Int.natAbs_mul]
  have h1 := krN_abs d (k + 1)
  have h2 : (2 * ((k : Int) + 1) - (f : Int)).natAbs ≤ 60 := by omega
  exact Nat.le_trans (Nat.mul_le_mul h1 h2) (by omega)
theorem bP_abs (d : Int) (f : Nat) (hf : f ≤ 60) : ∀ k, k ≤ f → (bP d f k).natAbs ≤ 60 * k
  | 0, _ => by simp [bP]
  | k + 1, hk => by
    have h1 := bP_abs d f hf k (by omega)
    have h2 := tm_abs d f k hf (by omega)
    unfold bP
    have := Int.natAbs_add_le (bP d f k) (krN d (k + 1) * (2 * ((k : Int) + 1) - (f : Int)))
    omega
/-- The value of bernoulli.Quadratic at 1. -/
def bqN (d : Int) : Rat := ((bP d d.natAbs d.natAbs : Int) : Rat) / ((2 * (d.natAbs : Int) : Int) : Rat)
set_option maxRecDepth 20000 in
set_option maxHeartbeats 8000000 in
theorem bquadQ (d : Int) (w : World) (hT : TabB w) : Calls Tryz.prog 11 #[.int .i64 1, .int .i64 d] w fun e w' => (∃ (v : Value) (z : Int), e = .returned (.tuple #[v, .int .i64 z]) ∧ (z = 0 ↔ QdOK d) ∧ (∃ s a l c t b k e, v = .agg #[.bool s, .slice a l c, .bool t, .slice b k e]) ∧ (QdOK d → RatR w' v (bqN d))) ∧ Grow w w' := by
  have O0 := Lib.hid (fun u => ofQ 0 (by decide) u)
  have QD := Lib.hid (fun (u : World) (hu : Grow w u) => quadraticQ d u (hT.grow hu))
  obtain ⟨W1, hW1⟩ : ∃ W1 : World, W1 = w.alloc (.cells #[.bool false, .slice none 0 0, .bool false, .slice none 0 0] 27) := ⟨_, rfl⟩
  have hg1 := ag hW1
  have K1 := Lib.hid (ak4 hW1)
  have RC : Hid (RowP W1 w.heap.size 0 1 (fun _ => none)) := Lib.hid (by rw [hW1]; exact rowp_alloc w _)
  have HW1 := Lib.hid hW1
  have HG1 := Lib.hid hg1
  have HT := Lib.hid hT
  clear hW1 hg1 hT
  go_enter Tryz.func11, Tryz.ntmps11
  go_upto_region 1 with fail
  rw [← HW1.out]
  go_upto_region 4 with (go_at_call 32; (with_reducible refine (QD.out _ (HG1.out.trans (by (repeat (first | with_reducible exact Grow.refl _ | with_reducible refine Grow.alloc ?_ _ | with_reducible refine Grow.drew ?_ | with_reducible refine Grow.drewN ?_ _ | (with_reducible refine Grow.setCell ?_ ?hp _; (case hp => (simp; try omega))) | with_reducible refine Grow.trans ?_ (by assumption)))))).mono ?_); (rintro e u2 ⟨⟨x2, a2, m2, c2, z, rfl, hz⟩, hb2⟩; have HZ := Lib.hid hz; have HG2 := Lib.hid hb2; clear hz hb2))
  obtain ⟨W3, hW3⟩ : ∃ W3 : World, W3 = u2.alloc (.cells #[.int .i64 x2, .slice a2 m2 c2] 54) := ⟨_, rfl⟩
  rw [← hW3]
  have HG3 := Lib.hid (HG2.out.trans (ag hW3))
  clear hW3 QD HW1
  by_cases hz0 : z = 0
  · subst hz0
    have hq : QdOK d := HZ.out.1 rfl
    obtain ⟨f, hf⟩ : ∃ f, d.natAbs = f := ⟨_, rfl⟩
    have hf1 : 1 ≤ f := by have := hq.1; omega
    have hf2 : f ≤ 60 := by have := hq.2.1; omega
    have hqn : bqN d = ((bP d f f : Int) : Rat) / ((2 * (f : Int) : Int) : Rat) := by unfold bqN; rw [hf]
    have HQN := Lib.hid hqn
    have HQ := Lib.hid hq
    have EN := Lib.hid (w64n (n := -d) (by omega))
    have hm1 : max d (-d) = (f : Int) := by omega
    have hm2 : (if -d > d then -d else d) = (f : Int) := by split <;> omega
    have SU := Lib.hid (fun u => summandsQ f hf1 hf2 u)
    have hd100 : d.natAbs ≤ 100 := by omega
    clear hqn hq hf
    obtain ⟨en, en'⟩ := EN.out
    go_upto_region 7 with (go_at_call 20; (with_reducible refine (O0.out _).mono ?_); (rintro e u4 ⟨v4, rfl, hv4, hb4⟩; obtain ⟨s4, a4, l4, c4, t4, b4, k4, e4, rfl⟩ := hv4.form; have HV4 := Lib.hid hv4; have HG4 := Lib.hid hb4; clear hv4 hb4))
    obtain ⟨W5, hW5⟩ : ∃ W5 : World, W5 = u4.alloc (.cells #[.bool s4, .slice a4 l4 c4, .bool t4, .slice b4 k4 e4] 27) := ⟨_, rfl⟩
    rw [← hW5]
    have HX5 := Lib.hid (rowq_lay hW5 HV4.out)
    have HG5 := Lib.hid (HG3.out.trans (HG4.out.trans (ag hW5)))
    have hzx : W1.heap.size ≤ u4.heap.size := (HG3.out.trans HG4.out).size
    have hz5 : W5.heap.size = u4.heap.size + 1 := by rw [hW5]; simp
    obtain ⟨X, hX⟩ : ∃ X, u4.heap.size = X := ⟨_, rfl⟩
    rw [hX] at HX5 hzx hz5
    rw [hX]
    have hw1 : w.heap.size + 1 ≤ W1.heap.size := by have := (K1.out W1 (Grow.refl _)).2.2.2.2.2; omega
    clear hW5 hX HV4 HG4 O0
    go_upto_region 8 with (go_at_call 33; (with_reducible refine (SU.out _).mono ?_); (rintro e u6 ⟨g, c, rfl, hr6, hb6, hg6⟩; have HR6 := Lib.hid hr6; have HG6 := Lib.hid hb6; clear hr6 hb6))
    clear en en' hm1 hm2 SU
    have HX6 := Lib.hid (RowP.grow HX5.out HG6.out)
    have HGW := Lib.hid (HG5.out.trans HG6.out)
    have hgX : ¬ g = X := by omega
    clear HX5
    go_loopg [35] f (fun gi t35 wr => ∃ k : Nat, t35 = .int .i64 (k : Int) ∧ k ≤ f ∧ Hid (gi = f - k) ∧ Hid (RowQ wr X 0 1 (fun _ => ((bP d f k : Int) : Rat) / ((2 * (f : Int) : Int) : Rat))) ∧ Hid (But (fun y => y = X) u6 wr))
    case atStart => exact ⟨0, rfl, Nat.zero_le _, Lib.hid rfl, Lib.hid (RowP.mono HX6.out (Nat.le_refl _) (fun j x _ hx => by rw [← hx]; congr 1; show ((0 : Int) : Rat) = ((0 : Int) : Rat) / _; rw [Rat.div_def, Rat.intCast_zero, Rat.zero_mul])), Lib.hid (But.refl _ _)⟩
    case round =>
      clear HX6
      obtain ⟨k, rfl, hk2, HGI, HX, HB⟩ := hrel
      have hgr : Grow W1 wr := ((HGW.out.but _).trans HB.out).asGrow (fun y hy => by omega)
      have HGR := Lib.hid hgr
      obtain ⟨sx, ax, lx, cx, tx, bx, kx, ex, hcX, hvX⟩ := RowQ.cell4 HX.out
      obtain ⟨x0, x1, x2', x3, x4, x5⟩ := hcX wr (Grow.refl _)
      by_cases hk : k = f
      · subst hk
        have y1 : decide ((k : Int) < (k : Int)) = false := by simp
        obtain ⟨q0, q1, q2, q3, qf, qz⟩ := K1.out wr hgr
        rw [← HQN.out] at hvX
        have HV := Lib.hid hvX
        clear hcX hvX
        go_wp2_with fail
        obtain ⟨h1, h2⟩ := rescell (w := w) (RC.out.grow HGR.out) (Nat.le_refl _) (HG1.out.trans HGR.out) HV.out
        exact bodyPost_ret (v := .tuple #[.agg #[.bool sx, .slice ax lx cx, .bool tx, .slice bx kx ex], .int .i64 0]) (by rw [results_cell_tmp rfl]; go_simp) rfl ⟨⟨_, 0, rfl, ⟨fun _ => HQ.out, fun _ => rfl⟩, ⟨sx, ax, lx, cx, tx, bx, kx, ex, rfl⟩, fun _ => h1⟩, h2⟩
      · have hk : k < f := by omega
        have y0 : (0 : Int) ≤ (k : Int) := by omega
        have y1 : decide ((k : Int) < (f : Int)) = true := by simp; omega
        have y1n : decide (k < f) = true := by simp; omega
        have y2 : (k : Int) < (f : Int) := by omega
        have HRI := Lib.hid (RowP.but HR6.out hgX HB.out)
        obtain ⟨s7, a7, l7, c7, t7, b7, k7, e7, hcg, hvg⟩ := RowQ.cellj HRI.out k hk
        obtain ⟨p0, p1, p2, p3⟩ := hcg wr (Grow.refl _)
        have KR : Hid (∀ u : World, Grow wr u → Calls Tryz.prog 35 #[.int .i64 d, .int .i64 ((k : Int) + 1)] u fun e w' => e = .returned (.int .i64 (krN d (k + 1))) ∧ u = w') := Lib.hid (fun (u : World) (hu : Grow wr u) => kroneckerQ d (k + 1) hd100 (by omega) (by omega) u (HT.out.grow (HG1.out.trans (HGR.out.trans hu))))
        have hka := krN_abs d (k + 1)
        have hbp := bP_abs d f hf2 k hk2
        have htm := tm_abs d f k hf2 hk
        have OF := Lib.hid (fun u => ofQ (krN d (k + 1)) (by omega) u)
        have MU := Lib.hid (fun v1 v2 (u : World) h1 h2 => mulQk ((krN d (k + 1) : Int) : Rat) (suN f k) (((krN d (k + 1) * (2 * ((k : Int) + 1) - (f : Int)) : Int) : Rat) / ((2 * (f : Int) : Int) : Rat)) ⟨dq_mul _ _ _, (((sm_int _).mono hka (Nat.le_refl 1)).mulB (sm_dq (2 * (f : Int)) _ 120 120 (by omega) (by omega) (by omega)) (by decide) (by decide)).1, (((sm_int _).mono hka (Nat.le_refl 1)).mulB (sm_dq (2 * (f : Int)) _ 120 120 (by omega) (by omega) (by omega)) (by decide) (by decide)).2⟩ v1 v2 u h1 h2)
        have AD := Lib.hid (fun v1 v2 (u : World) h1 h2 => addQk (((bP d f k : Int) : Rat) / ((2 * (f : Int) : Int) : Rat)) (((krN d (k + 1) * (2 * ((k : Int) + 1) - (f : Int)) : Int) : Rat) / ((2 * (f : Int) : Int) : Rat)) (((bP d f (k + 1) : Int) : Rat) / ((2 * (f : Int) : Int) : Rat)) ⟨dq_add _ _ _, (sm_dq (2 * (f : Int)) _ 3600 120 (by omega) (by omega) (by omega)).addB (sm_dq (2 * (f : Int)) _ 60 120 (by omega) htm (by omega)) (by decide) (by decide)⟩ v1 v2 u h1 h2)
        have E3 : Hid (IntKind.i64.wrap ((k : Int) + 1) = ((k + 1 : Nat) : Int) ∧ wrap64 ((k : Int) + 1) = ((k + 1 : Nat) : Int)) := Lib.hid (inc_wrap (i := k) (n := 100) (by omega) (by omega))
        clear hka hbp htm
        go_upto_region 10 with fail
        obtain ⟨W9, hW9⟩ : ∃ W9 : World, W9 = wr.alloc (.cells #[.bool s7, .slice a7 l7 c7, .bool t7, .slice b7 k7 e7] 27) := ⟨_, rfl⟩
        rw [← hW9]
        have hg9 : Grow wr W9 := ag hW9
        have HVE := Lib.hid (hvg.grow hg9)
        have HVB := Lib.hid (hvX.grow hg9)
        have D0 := Lib.hid (fun u (hu : Grow W9 u) => hcX u (hg9.trans hu))
        have D1 := Lib.hid (ak4 hW9)
        have KR2 := Lib.hid (fun u (hu : Grow W9 u) => KR.out u (hg9.trans hu))
        have HX9 := Lib.hid (RowP.grow HX.out hg9)
        have HB9 := Lib.hid (HB.out.grow hg9)
        clear hW9 hg9 hcg hvg hcX hvX p0 p1 p2 p3 KR y1 y1n hgr x0 x1 x2' x3 x4 x5
        have KR := KR2
        clear KR2
        obtain ⟨e3, e3'⟩ := E3.out
        refine region_held (id := 10) (fun u => Grow W9 u) [0, 1, 2, 3, 6, 4, 5, 7, 8, 9] (kdL [1, 0, 0, 0, 2, 2, 1, 2, 2, 3]) (by kernel_rfl) (by kernel_rfl) (fun t ht => kdL_lt _ t ht) ?hS0q ?_
        case hS0q => ((try dsimp only); (repeat (first | with_reducible exact Grow.refl _ | with_reducible refine Grow.alloc ?_ _ | with_reducible refine Grow.drew ?_ | with_reducible refine Grow.drewN ?_ _ | (with_reducible refine Grow.setCell ?_ ?hp _; (case hp => (simp; try omega))) | with_reducible refine Grow.trans ?_ (by assumption))))
        refine held_read (v := ?vq0) rfl rfl (Or.inl ⟨by rfl, ?hyq0⟩) ?_
        case hyq0 => (intro u hu; obtain ⟨d0, d1, d2, d3, d4, d5⟩ := D0.out u hu; obtain ⟨f0, f1, f2, f3, f4, f5⟩ := D1.out u hu; go_simp; (try with_reducible rfl))
        (try simp only [Act.put, List.setIfInBounds_toArray, List.set_cons_zero, List.set_cons_succ])
        refine held_quiet (v := ?vq1) rfl rfl (Or.inl ⟨by rfl, ?hyq1⟩) ?_
        case hyq1 => (intro u hu; go_simp; (try with_reducible rfl))
        (try simp only [Act.put, List.setIfInBounds_toArray, List.set_cons_zero, List.set_cons_succ])
        refine held_quiet (v := ?vq2) rfl rfl (Or.inl ⟨by rfl, ?hyq2⟩) ?_
        case hyq2 => (intro u hu; go_simp; (try with_reducible rfl))
        (try simp only [Act.put, List.setIfInBounds_toArray, List.set_cons_zero, List.set_cons_succ])
        refine held_quiet (v := ?vq3) rfl rfl (Or.inl ⟨by rfl, ?hyq3⟩) ?_
        case hyq3 => (intro u hu; go_simp; (try with_reducible rfl))
        (try simp only [Act.put, List.setIfInBounds_toArray, List.set_cons_zero, List.set_cons_succ])
        refine held_read (v := ?vq6) rfl rfl (Or.inl ⟨by rfl, ?hyq6⟩) ?_
        case hyq6 => (intro u hu; obtain ⟨d0, d1, d2, d3, d4, d5⟩ := D0.out u hu; obtain ⟨f0, f1, f2, f3, f4, f5⟩ := D1.out u hu; go_simp; (try with_reducible rfl))
        (try simp only [Act.put, List.setIfInBounds_toArray, List.set_cons_zero, List.set_cons_succ])
        refine held_op rfl rfl (fun K hK => ?_)
        go_simp
        (go_at_call 35; (with_reducible refine (KR.out _ (by (repeat (first | with_reducible exact Grow.refl _ | with_reducible refine Grow.alloc ?_ _ | with_reducible refine Grow.drew ?_ | with_reducible refine Grow.drewN ?_ _ | (with_reducible refine Grow.setCell ?_ ?hp _; (case hp => (simp; try omega))) | with_reducible refine Grow.trans ?_ (by assumption))))).mono ?_); (rintro x u24 ⟨rfl, rfl⟩))
        (try go_wp2_with fail)
        refine hK.out _ _ ?hSq4 ?_
        case hSq4 => ((try dsimp only); (repeat (first | with_reducible exact Grow.refl _ | with_reducible refine Grow.alloc ?_ _ | with_reducible refine Grow.drew ?_ | with_reducible refine Grow.drewN ?_ _ | (with_reducible refine Grow.setCell ?_ ?hp _; (case hp => (simp; try omega))) | with_reducible refine Grow.trans ?_ (by assumption))))
        clear hK K
        (try simp only [Act.put, List.setIfInBounds_toArray, List.set_cons_zero, List.set_cons_succ])
        refine held_op rfl rfl (fun K hK => ?_)
        go_simp
        (go_at_call 20; (with_reducible refine (OF.out _).mono ?_); (rintro x u25 ⟨v25, rfl, hv25, hb25⟩; obtain ⟨s25, a25, l25, c25, t25, b25, k25, e25, rfl⟩ := hv25.form; have HV25 := Lib.hid hv25; clear hv25))
        (try go_wp2_with fail)
        refine hK.out _ _ ?hSq5 ?_
        case hSq5 => ((try dsimp only); (repeat (first | with_reducible exact Grow.refl _ | with_reducible refine Grow.alloc ?_ _ | with_reducible refine Grow.drew ?_ | with_reducible refine Grow.drewN ?_ _ | (with_reducible refine Grow.setCell ?_ ?hp _; (case hp => (simp; try omega))) | with_reducible refine Grow.trans ?_ (by assumption))))
        clear hK K
        (try simp only [Act.put, List.setIfInBounds_toArray, List.set_cons_zero, List.set_cons_succ])
        refine held_op rfl rfl (fun K hK => ?_)
        go_simp
        (go_at_call 34; (with_reducible refine (MU.out _ _ _ (HV25.out.grow (by (repeat (first | with_reducible exact Grow.refl _ | with_reducible refine Grow.alloc ?_ _ | with_reducible refine Grow.drew ?_ | with_reducible refine Grow.drewN ?_ _ | (with_reducible refine Grow.setCell ?_ ?hp _; (case hp => (simp; try omega))) | with_reducible refine Grow.trans ?_ (by assumption))))) (HVE.out.grow (by (repeat (first | with_reducible exact Grow.refl _ | with_reducible refine Grow.alloc ?_ _ | with_reducible refine Grow.drew ?_ | with_reducible refine Grow.drewN ?_ _ | (with_reducible refine Grow.setCell ?_ ?hp _; (case hp => (simp; try omega))) | with_reducible refine Grow.trans ?_ (by assumption)))))).mono ?_); (rintro x u27 ⟨v27, rfl, hv27, hb27⟩; obtain ⟨s27, a27, l27, c27, t27, b27, k27, e27, rfl⟩ := hv27.form; have HV27 := Lib.hid hv27; clear hv27))
        (try go_wp2_with fail)
        refine hK.out _ _ ?hSq7 ?_
        case hSq7 => ((try dsimp only); (repeat (first | with_reducible exact Grow.refl _ | with_reducible refine Grow.alloc ?_ _ | with_reducible refine Grow.drew ?_ | with_reducible refine Grow.drewN ?_ _ | (with_reducible refine Grow.setCell ?_ ?hp _; (case hp => (simp; try omega))) | with_reducible refine Grow.trans ?_ (by assumption))))
        clear hK K
        (try simp only [Act.put, List.setIfInBounds_toArray, List.set_cons_zero, List.set_cons_succ])
        refine held_op rfl rfl (fun K hK => ?_)
        go_simp
        (go_at_call 8; (with_reducible refine (AD.out _ _ _ (HVB.out.grow (by (repeat (first | with_reducible exact Grow.refl _ | with_reducible refine Grow.alloc ?_ _ | with_reducible refine Grow.drew ?_ | with_reducible refine Grow.drewN ?_ _ | (with_reducible refine Grow.setCell ?_ ?hp _; (case hp => (simp; try omega))) | with_reducible refine Grow.trans ?_ (by assumption))))) (HV27.out.grow (by (repeat (first | with_reducible exact Grow.refl _ | with_reducible refine Grow.alloc ?_ _ | with_reducible refine Grow.drew ?_ | with_reducible refine Grow.drewN ?_ _ | (with_reducible refine Grow.setCell ?_ ?hp _; (case hp => (simp; try omega))) | with_reducible refine Grow.trans ?_ (by assumption)))))).mono ?_); (rintro x u28 ⟨v28, rfl, hv28, hb28⟩; obtain ⟨s28, a28, l28, c28, t28, b28, k28, e28, rfl⟩ := hv28.form; have HV28 := Lib.hid hv28; clear hv28); obtain ⟨d0, d1, d2, d3, d4, d5⟩ := D0.out u28 (by (repeat (first | with_reducible exact Grow.refl _ | with_reducible refine Grow.alloc ?_ _ | with_reducible refine Grow.drew ?_ | with_reducible refine Grow.drewN ?_ _ | (with_reducible refine Grow.setCell ?_ ?hp _; (case hp => (simp; try omega))) | with_reducible refine Grow.trans ?_ (by assumption)))))
        (try go_wp2_with fail)
        refine hK.out _ _ ?hSq8 ?_
        case hSq8 => ((try dsimp only); (repeat (first | with_reducible exact Grow.refl _ | with_reducible refine Grow.alloc ?_ _ | with_reducible refine Grow.drew ?_ | with_reducible refine Grow.drewN ?_ _ | (with_reducible refine Grow.setCell ?_ ?hp _; (case hp => (simp; try omega))) | with_reducible refine Grow.trans ?_ (by assumption))))
        clear hK K
        (try simp only [Act.put, List.setIfInBounds_toArray, List.set_cons_zero, List.set_cons_succ])
        refine held_last rfl rfl (fun K hK => ?_)
        go_simp
        refine hK.out _ _ ?_
        clear hK K
        (try simp only [Act.put, List.setIfInBounds_toArray, List.set_cons_zero, List.set_cons_succ])
        refine held_done ?_
        go_simp
        obtain ⟨hst1, hst2⟩ := RowQ.put HX9.out (show Grow W9 u28 by (repeat (first | with_reducible exact Grow.refl _ | with_reducible refine Grow.alloc ?_ _ | with_reducible refine Grow.drew ?_ | with_reducible refine Grow.drewN ?_ _ | (with_reducible refine Grow.setCell ?_ ?hp _; (case hp => (simp; try omega))) | with_reducible refine Grow.trans ?_ (by assumption)))) HV28.out
        go_wp2_with fail
        clear e3 e3'
        go_roundg (f - (k + 1))
        case measure => have := HGI.out; omega
        case rel => exact ⟨k + 1, by first | rfl | simp, by omega, Lib.hid rfl, Lib.hid hst1, Lib.hid (HB9.out.trans hst2)⟩
  · have y1 : (z != 0) = true := by simp; exact hz0
    have hnq : ¬ QdOK d := fun h => hz0 (HZ.out.2 h)
    have HNQ := Lib.hid hnq
    have HZN := Lib.hid hz0
    obtain ⟨q0, q1, q2, q3, qf, qz⟩ := K1.out W3 HG3.out
    clear hnq hz0
    go_wp2_with fail
    refine bodyPost_ret (v := .tuple #[.agg #[.bool false, .slice none 0 0, .bool false, .slice none 0 0], .int .i64 z]) (by rw [results_cell_tmp rfl]; go_simp) rfl ⟨⟨_, z, rfl, ⟨fun h => absurd h HZN.out, fun h => absurd h HNQ.out⟩, ⟨false, none, 0, 0, false, none, 0, 0, rfl⟩, fun h => absurd h HNQ.out⟩, ?_⟩
    exact ((((HG1.out.trans HG3.out).setCell (Nat.le_refl _) _).setCell (Nat.le_refl _) _).setCell (Nat.le_refl _) _).setCell (Nat.le_refl _) _
end Go.Proofs.YtbpkfcohbefphaaGreatDoor
namespace Go.Proofs.YtbpkfcohbefphaaGreatDoor
open Go Go.RowKit
set_option maxHeartbeats 80000000 in
theorem divs_dvu : ∀ n : Nat, n < 200 → dvOk (n + 601) = true := by decide +kernel
end Go.Proofs.YtbpkfcohbefphaaGreatDoor
namespace Go.Proofs.YtbpkfcohbefphaaGreatDoor
open Go Go.RowKit
set_option maxHeartbeats 80000000 in
theorem divs_dvv : ∀ n : Nat, n < 200 → dvOk (n + 801) = true := by decide +kernel
end Go.Proofs.YtbpkfcohbefphaaGreatDoor
namespace Go.Proofs.YtbpkfcohbefphaaGreatDoor
open Go Go.Shelf
def srRen : Go.Shelf.Ren := ⟨fun | 189 => 30 | 125 => 52 | 257 => 51 | 128 => 87 | 129 => 88 | 294 => 78 | 295 => 79 | 296 => 80 | 297 => 81 | 298 => 82 | 299 => 83 | 216 => 84 | 300 => 85 | 301 => 86 | 328 => 106 | 329 => 107 | 330 => 108 | 331 => 109 | 332 => 110 | 215 => 111 | 343 => 124 | n => n, fun | 28 => 33 | 3 => 3 | 46 => 71 | 0 => 0 | 51 => 70 | 53 => 69 | 4 => 4 | 183 => 109 | 182 => 108 | 131 => 114 | 5 => 5 | 9 => 9 | 218 => 135 | 222 => 139 | 228 => 156 | 229 => 157 | n => n, fun | n => n⟩
theorem srLays : Go.Proofs.Lays.n189 Tryz.prog srRen := {
  mixed := by kernel_rfl
  f125 := Tryz.func52.trans (congrArg some (by kernel_rfl))
  f128 := Tryz.func87.trans (congrArg some (by kernel_rfl))
  f129 := Tryz.func88.trans (congrArg some (by kernel_rfl))
  f189 := Tryz.func30.trans (congrArg some (by kernel_rfl))
  f215 := Tryz.func111.trans (congrArg some (by kernel_rfl))
  f216 := Tryz.func84.trans (congrArg some (by kernel_rfl))
  f257 := Tryz.func51.trans (congrArg some (by kernel_rfl))
  f294 := Tryz.func78.trans (congrArg some (by kernel_rfl))
  f295 := Tryz.func79.trans (congrArg some (by kernel_rfl))
  f296 := Tryz.func80.trans (congrArg some (by kernel_rfl))
  f297 := Tryz.func81.trans (congrArg some (by kernel_rfl))
  f298 := Tryz.func82.trans (congrArg some (by kernel_rfl))
  f299 := Tryz.func83.trans (congrArg some (by kernel_rfl))
  f300 := Tryz.func85.trans (congrArg some (by kernel_rfl))
  f301 := Tryz.func86.trans (congrArg some (by kernel_rfl))
  f328 := Tryz.func106.trans (congrArg some (by kernel_rfl))
  f329 := Tryz.func107.trans (congrArg some (by kernel_rfl))
  f330 := Tryz.func108.trans (congrArg some (by kernel_rfl))
  f331 := Tryz.func109.trans (congrArg some (by kernel_rfl))
  f332 := Tryz.func110.trans (congrArg some (by kernel_rfl))
  f343 := Tryz.func124.trans (congrArg some (by kernel_rfl))
  t0 := Tryz.underlying0
  a0 := Tryz.isAgg0
  z0 := Tryz.sizeOf0
  v0 := Tryz.zeroValue0
  t3 := Tryz.underlying3
  a3 := Tryz.isAgg3
  z3 := Tryz.sizeOf3
  v3 := Tryz.zeroValue3
  t4 := Tryz.underlying4
  a4 := Tryz.isAgg4
  z4 := Tryz.sizeOf4
  v4 := Tryz.zeroValue4
  t5 := Tryz.underlying5
  a5 := Tryz.isAgg5
  z5 := Tryz.sizeOf5
  v5 := Tryz.zeroValue5
  t9 := Tryz.underlying9
  a9 := Tryz.isAgg9
  z9 := Tryz.sizeOf9
  v9 := Tryz.zeroValue9
  t28 := Tryz.underlying33
  a28 := Tryz.isAgg33
  z28 := Tryz.sizeOf33
  v28 := Tryz.zeroValue33
  t46 := Tryz.underlying71
  a46 := Tryz.isAgg71
  z46 := Tryz.sizeOf71
  v46 := Tryz.zeroValue71
  t51 := Tryz.underlying70
  a51 := Tryz.isAgg70
  z51 := Tryz.sizeOf70
  v51 := Tryz.zeroValue70
  t53 := Tryz.underlying69
  a53 := Tryz.isAgg69
  z53 := Tryz.sizeOf69
  v53 := Tryz.zeroValue69
  t131 := Tryz.underlying114
  a131 := Tryz.isAgg114
  z131 := Tryz.sizeOf114
  v131 := Tryz.zeroValue114
  t182 := Tryz.underlying108
  a182 := Tryz.isAgg108
  z182 := Tryz.sizeOf108
  v182 := Tryz.zeroValue108
  t183 := Tryz.underlying109
  a183 := Tryz.isAgg109
  z183 := Tryz.sizeOf109
  v183 := Tryz.zeroValue109
  t218 := Tryz.underlying135
  a218 := Tryz.isAgg135
  z218 := Tryz.sizeOf135
  v218 := Tryz.zeroValue135
  t222 := Tryz.underlying139
  a222 := Tryz.isAgg139
  z222 := Tryz.sizeOf139
  v222 := Tryz.zeroValue139
  t228 := Tryz.underlying156
  a228 := Tryz.isAgg156
  z228 := Tryz.sizeOf156
  v228 := Tryz.zeroValue156
  t229 := Tryz.underlying157
  a229 := Tryz.isAgg157
  z229 := Tryz.sizeOf157
  v229 := Tryz.zeroValue157 }
open Go.Sort Go.RowKit in
theorem sortIntQ (blk off cap : Nat) (zs : List Int) (w : World) (hH : Holds (Value.int .i64) w blk off zs.toArray) (hblk : blk < w.heap.size) (hsz : zs.length < 4611686018427387904) :
    Calls Tryz.prog 30 #[.slice (some ⟨blk, off, none⟩) zs.length cap] w fun e w' =>
      e = .returned (.tuple #[]) ∧ ∃ n os, w' = grow (putRow (Value.int .i64) (Sort.ahead w n) blk off (zs.mergeSort fun x y => decide (x ≤ y)).toArray) os := Any.slices_Sort_int srLays blk off cap zs w hH hblk hsz
end Go.Proofs.YtbpkfcohbefphaaGreatDoor
namespace Go.Proofs.YtbpkfcohbefphaaGreatDoor
open Go Go.RowKit
theorem divs_tab (n : Nat) (h : n < 1001) : n = 0 ∨ (okSB okDv dvS (faL 33 n 2) [1] && (dvM n).isPerm (divs n)) = true := by
  by_cases h1 : n < 400
  · exact divs_t0 n h1
  · by_cases h2 : n < 601
    · have h3 := divs_t1 (n - 400) (by omega)
      rw [show n - 400 + 400 = n by omega] at h3
      exact .inr h3
    · by_cases h4 : n < 801
      · have h3 := divs_dvu (n - 601) (by omega)
        rw [show n - 601 + 601 = n by omega] at h3
        exact .inr h3
      · have h3 := divs_dvv (n - 801) (by omega)
        rw [show n - 801 + 801 = n by omega] at h3
        exact .inr h3
theorem divs_sorted (n : Nat) : ((divs n).map (fun d : Nat => (d : Int))).Pairwise (fun x y => x ≤ y) := by
  refine List.pairwise_map.2 ?_
  refine List.Pairwise.filter _ ?_
  exact (List.pairwise_lt_range (n := n + 1)).imp (fun h => by omega)
theorem sort_divs (n : Nat) (h : (dvM n).isPerm (divs n) = true) : ((dvM n).map (fun d : Nat => (d : Int))).mergeSort (fun x y => decide (x ≤ y)) = (divs n).map (fun d : Nat => (d : Int)) := by
  have hp : ((dvM n).map (fun d : Nat => (d : Int))).Perm ((divs n).map (fun d : Nat => (d : Int))) := (List.isPerm_iff.1 h).map _
  have h1 := List.mergeSort_perm ((dvM n).map (fun d : Nat => (d : Int))) (fun x y => decide (x ≤ y))
  have h2 : (((dvM n).map (fun d : Nat => (d : Int))).mergeSort (fun x y => decide (x ≤ y))).Pairwise (fun x y => x ≤ y) :=
    (List.pairwise_mergeSort (le := fun x y : Int => decide (x ≤ y)) (fun a b c h3 h4 => by simp at h3 h4 ⊢; omega) (fun a b => by simp; omega) _).imp (fun h3 => by simpa using h3)
  exact List.Perm.eq_of_pairwise (fun a b _ _ h3 h4 => by omega) h2 (divs_sorted n) (h1.trans hp)
set_option maxRecDepth 20000 in
set_option maxHeartbeats 8000000 in
theorem divisorsQ (n : Nat) (h1 : 1 ≤ n) (h2 : n ≤ 1000) (w : World) :
    Calls Tryz.prog 9 #[.int .i64 (n : Int)] w fun x w' => ∃ g cap, x = .returned (.tuple #[.slice (some ⟨g, 0, none⟩) (divs n).length cap, .int .i64 0]) ∧ IntQ w' g 0 (divs n).length (fun i => (((divs n).getD i 0 : Nat) : Int)) ∧ Grow w w' ∧ w.heap.size ≤ g := by
  have htab : (okSB okDv dvS (faL 33 n 2) [1] && (dvM n).isPerm (divs n)) = true := by
    rcases divs_tab n (by omega) with h | h
    · omega
    · exact h
  rw [Bool.and_eq_true] at htab
  obtain ⟨hok, hperm⟩ := htab
  have IR := Lib.hid (fun u => inRangeQ n h1 (by omega) u)
  have FC := Lib.hid (fun u (hu : DvSt w (w.heap.size + 1) [1] u) => factorsD (fun s u => DvSt w (w.heap.size + 1) s u) (fun s p e => okDv s p e = true) dvS (.pointer (some ⟨w.heap.size + 1, 0, none⟩)) (fun s p e u a b c d ok hs => div1_any w (w.heap.size + 1) s p e a b c d ok u hs) n h1 (by omega) [1] (okS_of hok) u hu)
  have hmf : ∀ (fn : Fn) (first cap : Array Value) (w : World), (Instr.makeFunc fn first cap).run Tryz.prog w = .ok (.func fn first cap) w := fun _ _ _ _ => rfl
  obtain ⟨W1, hW1⟩ : ∃ W1 : World, W1 = w.alloc (.cells #[.int .i64 1] 3) := ⟨_, rfl⟩
  obtain ⟨W2, hW2⟩ : ∃ W2 : World, W2 = W1.alloc (.cells #[.slice (some ⟨w.heap.size, 0, none⟩) 1 1] 33) := ⟨_, rfl⟩
  have hz1 : W1.heap.size = w.heap.size + 1 := by rw [hW1]; simp
  have HP : Hid (DvSt w (w.heap.size + 1) [1] W2) := Lib.hid (by
    obtain ⟨b0, b1, b2⟩ := ak1 hW2 W2 (Grow.refl _)
    rw [hz1] at b0 b1 b2
    have hrow : RowJ W1 w.heap.size 1 1 [.int .i64 1] := ⟨rfl, ⟨_, by rw [hW1]; show (Array.push w.heap _)[w.heap.size]? = _; simp; rfl, rfl, rfl, fun v hv => by simp at hv; exact ⟨1, hv⟩⟩, Nat.le_refl _, by unfold maxLen; omega⟩
    exact ⟨(ag hW1).trans (ag hW2), by omega, b2, b1, w.heap.size, 1, b0, hrow.grow (ag hW2), by omega, Nat.le_refl _⟩)
  have HW1 := Lib.hid hW1
  have HW2 := Lib.hid hW2
  have HZ1 := Lib.hid hz1
  have HPERM := Lib.hid hperm
  clear hW1 hW2 hz1 hok hperm
  go_enter Tryz.func9, Tryz.ntmps9
  go_upto_region 4 with (go_at_call 27; (with_reducible refine (IR.out _).mono ?_); (rintro x u2 ⟨rfl, rfl⟩))
  rw [← HW1.out, ← HW2.out]
  go_upto_region 5 with (go_at_call 28; (with_reducible refine (FC.out _ HP.out).mono ?_); (rintro x u3 ⟨rfl, hp3⟩; have HP3 := Lib.hid hp3; clear hp3))
  clear hmf FC
  obtain ⟨g, cap, hcell, hrow, hg4, hgw⟩ := HP3.out.row
  have hdm : foldS dvS (faL 33 n 2) [1] = dvM n := rfl
  rw [hdm] at hcell hrow HP3
  obtain ⟨zs, hzs⟩ : ∃ zs : List Int, (dvM n).map (fun d : Nat => (d : Int)) = zs := ⟨_, rfl⟩
  have hnv : natV (dvM n) = zs.map (Value.int .i64) := by rw [← hzs]; simp [natV]
  have hlz : (dvM n).length = zs.length := by rw [← hzs]; simp
  have hso := sort_divs n HPERM.out
  rw [hzs] at hso
  rw [hnv, hlz] at hrow
  rw [hlz] at hcell
  have hld : (divs n).length = zs.length := by
    rw [← hlz]; exact (List.isPerm_iff.1 HPERM.out).length_eq.symm
  obtain ⟨cur, hcur, hcs, htk, hall⟩ := hrow.row
  have hH := holds_of_blockI (w := u3) (g := g) (e := 3) hcur htk
  have hdl : (divs n).length ≤ n + 1 := by
    have := List.length_filter_le (fun d => d != 0 && n % d == 0) (List.range (n + 1))
    simpa [divs] using this
  have hbig : zs.length < 4611686018427387904 := by omega
  have SQ := Lib.hid (sortIntQ g 0 cap zs u3 hH hrow.lt hbig)
  rw [hso] at SQ
  have HL := Lib.hid hld
  have HROW := Lib.hid hrow
  have HCUR := Lib.hid hcur
  have HCS := Lib.hid hcs
  have HG4 := Lib.hid hg4
  have hglt := hrow.lt
  have hb4 := HP3.out.lt
  have hf4 := HP3.out.free
  obtain ⟨L, hL⟩ : ∃ L, zs.length = L := ⟨_, rfl⟩
  have HLL := Lib.hid hL
  rw [hL] at hcell SQ
  clear hdm hzs hnv hlz hso hld hcur hcs htk hall hH hrow hL hg4
  go_upto_region 6 with (go_at_call 30; (with_reducible refine SQ.out.mono ?_); (rintro x u4 ⟨rfl, hw4⟩; have HW4 := Lib.hid hw4; clear hw4))
  have hall4 : ∃ (n4 : Nat) (os : Array Obj), u4 = Go.Sort.grow (Go.Sort.putRow (Value.int .i64) (Go.Sort.ahead u3 n4) g 0 ((divs n).map (fun d : Nat => (d : Int))).toArray) os := HW4.out
  obtain ⟨n4, os, h4⟩ := hall4
  have hgb : u3.grownBy u4 (some g) := by rw [h4]; exact grownBy_sortedI _
  have hown : u4.ownsRow w.heap.size 3 1 (.slice (some ⟨g, 0, none⟩) zs.length cap) zs.length (((divs n).map (fun d : Nat => (d : Int))).map (Value.int .i64)) := by
    rw [h4]
    exact ownsRow_sortedI (by rw [List.length_map]; exact HL.out) hgw HCUR.out HROW.out.le HROW.out.max (by rw [Nat.mul_one]; exact HCS.out)
  obtain ⟨q1, q2, q3, q4, q5⟩ := own_cells hown
  have hb4c : u4.cell? ⟨w.heap.size + 1, 0, none⟩ = some (.slice (some ⟨g, 0, none⟩) L cap) := (World.cell?_of_block (hgb.block _ hb4 (fun e => HG4.out (by injection e with e; exact e.symm)))).trans hcell
  have HQ5 := Lib.hid q5
  have HGR := Lib.hid (HP3.out.grow.grown hgb (fun k hk => by injection hk with hk; rw [← hk]; exact hgw))
  have HLD : Hid (L = (divs n).length) := Lib.hid (by rw [HL.out, HLL.out])
  clear h4 hgb hown q5 hcell
  go_wp2_with fail
  refine bodyPost_ret (v := .tuple #[.slice (some ⟨g, 0, none⟩) L cap, .int .i64 0]) (by rw [results_pair rfl]; first | rfl | go_simp) rfl ?_
  have hI : IntQ u4 g 0 (divs n).length (fun i => (((divs n).getD i 0 : Nat) : Int)) := ⟨q1, fun i hi => by
    rw [Nat.zero_add]
    refine HQ5.out i _ ?_
    rw [List.getElem?_map, List.getElem?_map, List.getElem?_eq_getElem hi]
    simp [List.getD, List.getElem?_eq_getElem hi]⟩
  first | exact ⟨g, ⟨cap, by rw [HLD.out]⟩, hI, HGR.out, hgw⟩ | exact ⟨g, cap, by rw [HLD.out], hI, HGR.out, hgw⟩
end Go.Proofs.YtbpkfcohbefphaaGreatDoor
