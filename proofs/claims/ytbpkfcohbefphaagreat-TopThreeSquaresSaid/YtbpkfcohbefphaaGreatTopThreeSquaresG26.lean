/- Lemmas, plain laws and walks that the statement LwThreeSquares leans on (texts TsA, PlZ), conditions as each theorem says. -/
import Derived.Test.YtbpkfcohbefphaaGreatRows
import Derived.WalkKit
import Derived.ProofKit
import Derived.Lib.SmallJoins
import Derived.OpenShut
import Derived.Test.YtbpkfcohbefphaaGreatTopThreeSquaresG01
import Derived.Test.YtbpkfcohbefphaaGreatTopThreeSquaresG24
import Derived.Test.YtbpkfcohbefphaaGreatTopThreeSquaresG25

/- Walk: TopThreeSquares. -/
namespace Go.Proofs.YtbpkfcohbefphaaGreat
open Go Go.RowKit

theorem int9 (w : World) (t : TypeId) : IntQ (w.alloc (.cells #[.int .i64 2, .int .i64 0, .int .i64 0, .int .i64 0, .int .i64 2, .int .i64 0, .int .i64 0, .int .i64 0, .int .i64 2] t)) w.heap.size 0 9 tsF := by
  refine ⟨by simp, fun i hi => ?_⟩
  rw [World.cell?_alloc_at _ _ _ _ rfl]
  rcases (by omega : i = 0 ∨ i = 1 ∨ i = 2 ∨ i = 3 ∨ i = 4 ∨ i = 5 ∨ i = 6 ∨ i = 7 ∨ i = 8) with rfl | rfl | rfl | rfl | rfl | rfl | rfl | rfl | rfl <;> simp [tsF]
theorem six_mul (c a : Nat) : (((6 * c : Nat) : Int) : Rat) * ((a : Int) / ((6 : Int) : Rat)) = ((c * a : Nat) : Int) := by
  rw [Int.natCast_mul, Int.natCast_mul, Rat.intCast_mul, Rat.intCast_mul]; simp; grind
theorem FrX.putR {w0 u : World} {t : TypeId} {F : Nat} {x : Rat} {s tt : Bool} {a b : Option Addr} {l c k e : Nat} (h : FrX w0 u (.cells #[.bool false, .slice none 0 0, .bool false, .slice none 0 0] t) F) (hx : RatR u (.agg #[.bool s, .slice a l c, .bool tt, .slice b k e]) x) :
    RowQ (st4 u F 0 (.bool s) (.slice a l c) (.bool tt) (.slice b k e)) F 0 1 (fun _ => x) ∧ Grow w0 (st4 u F 0 (.bool s) (.slice a l c) (.bool tt) (.slice b k e)) := by
  obtain ⟨y, h1, rfl, h3⟩ := h
  have hr : RowP u y.heap.size 0 1 (fun _ => none) := (rowp_alloc y t).grow h3
  have h4 := RowP.set hr (show 0 < 1 by omega) hx
  have h5 := But.st4 (X := fun b => b = y.heap.size) (But.refl _ u) (.inr rfl) (hr.q4 (show 0 < 1 by omega)) s a l c tt b k e
  simp only [Nat.zero_mul, Nat.add_zero] at h4 h5
  exact ⟨h4.mono (Nat.le_refl _) (fun j x hj hx => by rw [if_pos (by omega)]; exact hx), (((h1.trans (((Grow.refl y).alloc _).trans h3)).but _).trans h5).asGrow (fun b hb => by have := h1.size; omega)⟩
set_option maxRecDepth 20000 in
set_option maxHeartbeats 8000000 in
theorem topThreeQ (n : Int) (w : World) : Calls Tryz.prog 3 #[.int .i64 n] w fun e w' => e = .returned (.bool true) ∧ Grow w w' := by
  have AW := Lib.hid (fun u => thetaAwakeQ u)
  by_cases hin : 1 ≤ n ∧ n ≤ 120
  · obtain ⟨k, rfl⟩ : ∃ k : Nat, n = (k : Int) := ⟨n.toNat, by omega⟩
    have hk1 : 1 ≤ k := by omega
    have hk2 : k ≤ 120 := by omega
    clear hin
    obtain ⟨p, hp⟩ : ∃ p, k + 1 = p := ⟨_, rfl⟩
    obtain ⟨f, hf⟩ : ∃ f, 4 * k = f := ⟨_, rfl⟩
    obtain ⟨r, hr⟩ : ∃ r : Nat → Rat, (fun j : Nat => ((((hist (fun t => (tsX k t : Int)) (boxN (tsB k) 3) (j : Int) : Nat) : Int)) : Rat)) = r := ⟨_, rfl⟩
    have EX : Hid (∀ u v : World, Grow (u.alloc (.cells #[.int .i64 2, .int .i64 0, .int .i64 0, .int .i64 0, .int .i64 2, .int .i64 0, .int .i64 0, .int .i64 0, .int .i64 2] 3)) v → Calls Tryz.prog 6 #[.agg #[.int .i64 3, .slice (some ⟨u.heap.size, 0, none⟩) 9 9], .int .i64 (p : Int)] v fun e w' =>
        ∃ B' c', e = .returned (.tuple #[.agg #[.int .i64 0, .slice (some ⟨B', 0, none⟩) p c'], .int .i64 0]) ∧ RowQ w' B' 0 p r ∧ Grow v w') :=
      Lib.hid (fun u v hv => by rw [← hr, ← hp]; exact expansionT 3 9 u.heap.size 0 9 (k + 1) k _ _ _ _ _ _ _ (ts_thh hk2) ts_thc v ((int9 u 3).grow hv))
    obtain ⟨a, ha⟩ : ∃ a, hwN f = a := ⟨_, rfl⟩
    obtain ⟨b, hb⟩ : ∃ b, hwN k = b := ⟨_, rfl⟩
    have hab : a ≤ 503496 := by rw [← ha]; exact Nat.le_trans (hw6_le (by omega) _) (Nat.mul_le_mul_right _ (sq_le4 (n := f) (by omega)))
    have hbb : b ≤ 503496 := by rw [← hb]; exact Nat.le_trans (hw6_le (by omega) _) (Nat.mul_le_mul_right _ (sq_le4 (n := k) (by omega)))
    have hrk : r k = ((2 * a : Nat) : Int) - ((4 * b : Nat) : Int) := by
      have hg := gauss3 hk1 hk2
      rw [hf, ha, hb] at hg
      rw [← hr]
      show ((((hist (fun t => (tsX k t : Int)) (boxN (tsB k) 3) (k : Int) : Nat) : Int)) : Rat) = _
      rw [← Rat.intCast_sub]
      congr 1
      omega
    have H4 := Lib.hid (fun u => hurwitzQ f (by omega) (by omega) u)
    have H1 := Lib.hid (fun u => hurwitzQ k hk1 (by omega) u)
    rw [ha] at H4
    rw [hb] at H1
    have Q12 := Lib.hid (fun u => qbQ 12 (by decide) u)
    have Q24 := Lib.hid (fun u => qbQ 24 (by decide) u)
    have HRK := Lib.hid hrk
    have E1 : Hid (IntKind.i64.wrap ((k : Int) + 1) = (p : Int) ∧ wrap64 ((k : Int) + 1) = (p : Int)) := Lib.hid (by rw [show (k : Int) + 1 = (p : Int) by omega]; exact w64n (by omega))
    have E2 : Hid (IntKind.i64.wrap (4 * (k : Int)) = (f : Int) ∧ wrap64 (4 * (k : Int)) = (f : Int)) := Lib.hid (by rw [show 4 * (k : Int) = (f : Int) by omega]; exact w64n (by omega))
    have y1 : decide ((k : Int) < 1) = false := by simp; omega
    have y2 : decide ((k : Int) > 120) = false := by simp; omega
    have hkp : k < p := by omega
    have hp121 : p ≤ 121 := by omega
    clear hrk hr ha hb hf hp
    go_enter Tryz.func3, Tryz.ntmps3
    go_upto_region 5 with (go_at_call 5; (with_reducible refine (AW.out _).mono ?_); (rintro e u2 ⟨rfl, hb2⟩))
    clear y1 y2
    obtain ⟨e1, e2⟩ := E1.out
    go_upto_region 6 with (go_at_call 6; (with_reducible refine (EX.out u2 _ ?hgx).mono ?_); (case hgx => (repeat (first | with_reducible exact Grow.refl _ | with_reducible refine Grow.alloc ?_ _ | with_reducible refine Grow.drew ?_ | with_reducible refine Grow.drewN ?_ _ | (with_reducible refine Grow.setCell ?_ ?hp _; (case hp => (simp; try omega))) | with_reducible refine Grow.trans ?_ (by assumption)))); (rintro e u4 ⟨B4, c4, rfl, hr4, hb4⟩; have HR4 := Lib.hid hr4; have HG4 := Lib.hid (hb2.trans (Grow.trans (by (repeat (first | with_reducible exact Grow.refl _ | with_reducible refine Grow.alloc ?_ _ | with_reducible refine Grow.drew ?_ | with_reducible refine Grow.drewN ?_ _ | (with_reducible refine Grow.setCell ?_ ?hp _; (case hp => (simp; try omega))) | with_reducible refine Grow.trans ?_ (by assumption)))) hb4)); clear hr4))
    clear e1 e2
    obtain ⟨W5, hW5⟩ : ∃ W5 : World, W5 = u4.alloc (.cells #[.int .i64 0, .slice (some ⟨B4, 0, none⟩) p c4] 25) := ⟨_, rfl⟩
    rw [← hW5]
    have HG5 := Lib.hid (HG4.out.trans (ag hW5))
    have AT : Hid (∀ u : World, Grow W5 u → Calls Tryz.prog 7 #[.agg #[.int .i64 0, .slice (some ⟨B4, 0, none⟩) p c4], .int .i64 (k : Int)] u fun e w' => ∃ v, e = .returned (.tuple #[v, .int .i64 0]) ∧ RatR w' v (((2 * a : Nat) : Int) - ((4 * b : Nat) : Int)) ∧ Grow u w') :=
      Lib.hid (fun u hu => by
        have h := sAtQ 0 (k : Int) p B4 0 c4 r (by omega) (by omega) (by omega) (by omega) u (RowP.grow HR4.out ((ag hW5).trans hu))
        rw [if_neg (by omega), show ((k : Int) - 0).toNat = k by omega, HRK.out] at h
        exact h)
    have SB : Hid (∀ (u : World) (v1 v2 : Value), RatR u v1 ((2 * a : Nat) : Int) → RatR u v2 ((4 * b : Nat) : Int) → Calls Tryz.prog 9 #[v1, v2] u fun e w' => ∃ v, e = .returned v ∧ RatR w' v (((2 * a : Nat) : Int) - ((4 * b : Nat) : Int)) ∧ Grow u w') :=
      Lib.hid (fun u v1 v2 g1 g2 => subQ _ _ v1 v2 ((Sm.mono (sm_int ((2 * a : Nat) : Int)) (show ((2 * a : Nat) : Int).natAbs ≤ 1006992 by omega) (Nat.le_refl _)).addB (Sm.mono (sm_int ((4 * b : Nat) : Int)) (show ((4 * b : Nat) : Int).natAbs ≤ 2013984 by omega) (Nat.le_refl _)).neg (by omega) (by omega)) u g1 g2)
    have MM : Hid (∀ (c x : Nat) (u : World) (v1 v2 : Value), c ≤ 4 → x ≤ 503496 → RatR u v1 (((6 * c : Nat) : Int) : Rat) → RatR u v2 ((x : Int) / ((6 : Int) : Rat)) → Calls Tryz.prog 10 #[v1, v2] u fun e w' => ∃ v, e = .returned v ∧ RatR w' v ((c * x : Nat) : Int) ∧ Grow u w') :=
      Lib.hid (fun c x u v1 v2 hc hx g1 g2 => by
        obtain ⟨m1, m2⟩ := (Sm.mono (sm_int ((6 * c : Nat) : Int)) (show ((6 * c : Nat) : Int).natAbs ≤ 24 by omega) (Nat.le_refl _)).mulB (Sm.mono (sm_div (x : Int) 6 (by omega)) (show (x : Int).natAbs ≤ 503496 by omega) (Nat.le_refl _)) (by omega) (by omega)
        have h := mulQ _ _ v1 v2 m1 m2 u g1 g2
        have e6 : (((6 : Nat) : Rat)) = ((6 : Int) : Rat) := rfl
        rw [e6, six_mul] at h
        exact h)
    have K5 := Lib.hid (ak2 hW5)
    obtain ⟨b0, b1, b2, b3⟩ := K5.out W5 (Grow.refl _)
    clear hW5 HR4 hb4 hb2
    go_upto_region 7 with (go_at_call 7; (with_reducible refine (AT.out _ (Grow.refl _)).mono ?_); (rintro e u6 ⟨v6, rfl, hv6, hb6⟩; obtain ⟨s6, a6, l6, c6, t6, b6, k6, e6, rfl⟩ := hv6.form; have HV6 := Lib.hid hv6; have HG6 := Lib.hid (HG5.out.trans hb6); clear hv6 hb6))
    clear b0 b1 b2 b3
    obtain ⟨W7, hW7⟩ : ∃ W7 : World, W7 = u6.alloc (.cells #[.bool s6, .slice a6 l6 c6, .bool t6, .slice b6 k6 e6] 36) := ⟨_, rfl⟩
    rw [← hW7]
    have hg7 := ag hW7
    have K7 := Lib.hid (ak4 hW7)
    have HV7 := Lib.hid (HV6.out.grow hg7)
    have HG7 := Lib.hid (HG6.out.trans hg7)
    clear hW7 hg7
    obtain ⟨e1, e2⟩ := E2.out
    go_upto_region 8 with (go_at_call 8; (with_reducible refine (H4.out _).mono ?_); (rintro e u7 ⟨v7, rfl, hv7, hb7⟩; obtain ⟨s7, a7, l7, c7, t7, b7, k7, e7, rfl⟩ := hv7.form; have HV8 := Lib.hid hv7; have HG8 := Lib.hid hb7; clear hv7 hb7))
    clear e1 e2
    obtain ⟨W8, hW8⟩ : ∃ W8 : World, W8 = u7.alloc (.cells #[.bool s7, .slice a7 l7 c7, .bool t7, .slice b7 k7 e7] 36) := ⟨_, rfl⟩
    rw [← hW8]
    have hg8 := ag hW8
    have K8' := Lib.hid (ak4 hW8)
    have HV9 := Lib.hid (HV8.out.grow hg8)
    have HG9 := Lib.hid (HG8.out.trans hg8)
    clear hW8 hg8
    go_upto_region 9 with (go_at_call 8; (with_reducible refine (H1.out _).mono ?_); (rintro e u8 ⟨v8, rfl, hv8, hb8⟩; obtain ⟨s8, a8, l8, c8, t8, b8, k8, e8, rfl⟩ := hv8.form; have HV10 := Lib.hid hv8; have HG10 := Lib.hid hb8; clear hv8 hb8))
    obtain ⟨W9, hW9⟩ : ∃ W9 : World, W9 = u8.alloc (.cells #[.bool s8, .slice a8 l8 c8, .bool t8, .slice b8 k8 e8] 36) := ⟨_, rfl⟩
    rw [← hW9]
    have hg9 := ag hW9
    have K9 := Lib.hid (ak4 hW9)
    have HX4 := Lib.hid (HV9.out.grow (HG10.out.trans hg9))
    have HX1 := Lib.hid (HV10.out.grow hg9)
    have K8 := Lib.hid (fun (u : World) (hu : Grow W9 u) => K8'.out u (HG10.out.trans (hg9.trans hu)))
    have K6 := Lib.hid (fun (u : World) (hu : Grow W9 u) => K7.out u (HG9.out.trans (HG10.out.trans (hg9.trans hu))))
    have HVA := Lib.hid (HV7.out.grow (HG9.out.trans (HG10.out.trans hg9)))
    have HGT := Lib.hid (HG7.out.trans (HG9.out.trans (HG10.out.trans hg9)))
    clear hW9 hg9
    have M12 := Lib.hid (fun (u : World) (v1 : Value) (hu : Grow W9 u) (h : RatR u v1 ((12 : Int) : Rat)) => MM.out 2 a u v1 _ (by omega) hab h (HX4.out.grow hu))
    have M24 := Lib.hid (fun (u : World) (v1 : Value) (hu : Grow W9 u) (h : RatR u v1 ((24 : Int) : Rat)) => MM.out 4 b u v1 _ (by omega) hbb h (HX1.out.grow hu))
    clear HV6 HV8 HV9 HV10 HX4 HX1 K8' K7 MM
    refine region_flex (id := 9) W9 [⟨7, 11, .cells #[.bool false, .slice none 0 0, .bool false, .slice none 0 0] 36⟩] [1, 4, 0, 2, 3, 5, 6] [8] (kdL [2, 1, 2, 2, 1, 2, 2, 2, 3]) (by kernel_rfl) (by kernel_rfl) (fun t ht => kdL_lt _ t ht) (by simp) (by simp) ?hgq ?halq ?_
    case hgq => (repeat (first | with_reducible exact Grow.refl _ | with_reducible refine Grow.alloc ?_ _ | with_reducible refine Grow.drew ?_ | with_reducible refine Grow.drewN ?_ _ | (with_reducible refine Grow.setCell ?_ ?hp _; (case hp => (simp; try omega))) | with_reducible refine Grow.trans ?_ (by assumption)))
    case halq => (intro x hx; simp only [List.mem_cons, List.not_mem_nil, or_false] at hx; subst hx; all_goals (refine ⟨⟨_, rfl, rfl⟩, fun K a u hK => ?_⟩; refine wpOp_step rfl (fun K' hK' => ?_); go_simp; exact hK' _ _ hK))
    refine flex_read (v := ?vq1) rfl rfl (fun t => Or.inl ⟨by rfl, ?hyq1⟩) ?_
    case hyq1 => (intro u hu; obtain ⟨f0, f1, f2, f3, f4, f5⟩ := K8.out u hu; obtain ⟨g0, g1, g2, g3, g4, g5⟩ := K9.out u hu; simp only [aof, List.foldl_cons, List.foldl_nil, Act.put, List.setIfInBounds_toArray, List.set_cons_zero, List.set_cons_succ]; go_simp; (try with_reducible rfl))
    (try simp only [Act.put, List.setIfInBounds_toArray, List.set_cons_zero, List.set_cons_succ])
    refine flex_read (v := ?vq4) rfl rfl (fun t => Or.inl ⟨by rfl, ?hyq4⟩) ?_
    case hyq4 => (intro u hu; obtain ⟨f0, f1, f2, f3, f4, f5⟩ := K8.out u hu; obtain ⟨g0, g1, g2, g3, g4, g5⟩ := K9.out u hu; simp only [aof, List.foldl_cons, List.foldl_nil, Act.put, List.setIfInBounds_toArray, List.set_cons_zero, List.set_cons_succ]; go_simp; (try with_reducible rfl))
    (try simp only [Act.put, List.setIfInBounds_toArray, List.set_cons_zero, List.set_cons_succ])
    refine flex_op rfl rfl (fun t0 u0 hu0 K hK => ?_)
    simp only [aof, List.foldl_cons, List.foldl_nil, Act.put, List.setIfInBounds_toArray, List.set_cons_zero, List.set_cons_succ]
    go_simp
    (go_at_call 11; (with_reducible refine (Q12.out _).mono ?_); (rintro e u20 ⟨v20, rfl, hv20, hb20⟩; obtain ⟨s20, a20, l20, c20, t20, b20, k20, e20, rfl⟩ := hv20.form; have HV20 := Lib.hid hv20; clear hv20))
    (try go_wp2_with fail)
    refine hK.out _ (.agg #[.bool s20, .slice a20 l20 c20, .bool t20, .slice b20 k20 e20]) _ ?heq0 ?hgq0 ?_
    case heq0 => (simp only [aof, List.foldl_cons, List.foldl_nil, Act.put, List.setIfInBounds_toArray, List.set_cons_zero, List.set_cons_succ])
    case hgq0 => (repeat (first | with_reducible exact Grow.refl _ | with_reducible refine Grow.alloc ?_ _ | with_reducible refine Grow.drew ?_ | with_reducible refine Grow.drewN ?_ _ | (with_reducible refine Grow.setCell ?_ ?hp _; (case hp => (simp; try omega))) | with_reducible refine Grow.trans ?_ (by assumption)))
    clear hK K t0
    (try simp only [Act.put, List.setIfInBounds_toArray, List.set_cons_zero, List.set_cons_succ])
    refine flex_op rfl rfl (fun t2 u2 hu2 K hK => ?_)
    simp only [aof, List.foldl_cons, List.foldl_nil, Act.put, List.setIfInBounds_toArray, List.set_cons_zero, List.set_cons_succ]
    go_simp
    (go_at_call 10; (with_reducible refine (M12.out _ _ (by (repeat (first | with_reducible exact Grow.refl _ | with_reducible refine Grow.alloc ?_ _ | with_reducible refine Grow.drew ?_ | with_reducible refine Grow.drewN ?_ _ | (with_reducible refine Grow.setCell ?_ ?hp _; (case hp => (simp; try omega))) | with_reducible refine Grow.trans ?_ (by assumption)))) (HV20.out.grow (by (repeat (first | with_reducible exact Grow.refl _ | with_reducible refine Grow.alloc ?_ _ | with_reducible refine Grow.drew ?_ | with_reducible refine Grow.drewN ?_ _ | (with_reducible refine Grow.setCell ?_ ?hp _; (case hp => (simp; try omega))) | with_reducible refine Grow.trans ?_ (by assumption)))))).mono ?_); (rintro e u21 ⟨v21, rfl, hv21, hb21⟩; obtain ⟨s21, a21, l21, c21, t21, b21, k21, e21, rfl⟩ := hv21.form; have HV21 := Lib.hid hv21; clear hv21))
    (try go_wp2_with fail)
    refine hK.out _ (.agg #[.bool s21, .slice a21 l21 c21, .bool t21, .slice b21 k21 e21]) _ ?heq2 ?hgq2 ?_
    case heq2 => (simp only [aof, List.foldl_cons, List.foldl_nil, Act.put, List.setIfInBounds_toArray, List.set_cons_zero, List.set_cons_succ])
    case hgq2 => (repeat (first | with_reducible exact Grow.refl _ | with_reducible refine Grow.alloc ?_ _ | with_reducible refine Grow.drew ?_ | with_reducible refine Grow.drewN ?_ _ | (with_reducible refine Grow.setCell ?_ ?hp _; (case hp => (simp; try omega))) | with_reducible refine Grow.trans ?_ (by assumption)))
    clear hK K t2
    (try simp only [Act.put, List.setIfInBounds_toArray, List.set_cons_zero, List.set_cons_succ])
    refine flex_op rfl rfl (fun t3 u3 hu3 K hK => ?_)
    simp only [aof, List.foldl_cons, List.foldl_nil, Act.put, List.setIfInBounds_toArray, List.set_cons_zero, List.set_cons_succ]
    go_simp
    (go_at_call 11; (with_reducible refine (Q24.out _).mono ?_); (rintro e u22 ⟨v22, rfl, hv22, hb22⟩; obtain ⟨s22, a22, l22, c22, t22, b22, k22, e22, rfl⟩ := hv22.form; have HV22 := Lib.hid hv22; clear hv22))
    (try go_wp2_with fail)
    refine hK.out _ (.agg #[.bool s22, .slice a22 l22 c22, .bool t22, .slice b22 k22 e22]) _ ?heq3 ?hgq3 ?_
    case heq3 => (simp only [aof, List.foldl_cons, List.foldl_nil, Act.put, List.setIfInBounds_toArray, List.set_cons_zero, List.set_cons_succ])
    case hgq3 => (repeat (first | with_reducible exact Grow.refl _ | with_reducible refine Grow.alloc ?_ _ | with_reducible refine Grow.drew ?_ | with_reducible refine Grow.drewN ?_ _ | (with_reducible refine Grow.setCell ?_ ?hp _; (case hp => (simp; try omega))) | with_reducible refine Grow.trans ?_ (by assumption)))
    clear hK K t3
    (try simp only [Act.put, List.setIfInBounds_toArray, List.set_cons_zero, List.set_cons_succ])
    refine flex_op rfl rfl (fun t5 u5 hu5 K hK => ?_)
    simp only [aof, List.foldl_cons, List.foldl_nil, Act.put, List.setIfInBounds_toArray, List.set_cons_zero, List.set_cons_succ]
    go_simp
    (go_at_call 10; (with_reducible refine (M24.out _ _ (by (repeat (first | with_reducible exact Grow.refl _ | with_reducible refine Grow.alloc ?_ _ | with_reducible refine Grow.drew ?_ | with_reducible refine Grow.drewN ?_ _ | (with_reducible refine Grow.setCell ?_ ?hp _; (case hp => (simp; try omega))) | with_reducible refine Grow.trans ?_ (by assumption)))) (HV22.out.grow (by (repeat (first | with_reducible exact Grow.refl _ | with_reducible refine Grow.alloc ?_ _ | with_reducible refine Grow.drew ?_ | with_reducible refine Grow.drewN ?_ _ | (with_reducible refine Grow.setCell ?_ ?hp _; (case hp => (simp; try omega))) | with_reducible refine Grow.trans ?_ (by assumption)))))).mono ?_); (rintro e u23 ⟨v23, rfl, hv23, hb23⟩; obtain ⟨s23, a23, l23, c23, t23, b23, k23, e23, rfl⟩ := hv23.form; have HV23 := Lib.hid hv23; clear hv23))
    (try go_wp2_with fail)
    refine hK.out _ (.agg #[.bool s23, .slice a23 l23 c23, .bool t23, .slice b23 k23 e23]) _ ?heq5 ?hgq5 ?_
    case heq5 => (simp only [aof, List.foldl_cons, List.foldl_nil, Act.put, List.setIfInBounds_toArray, List.set_cons_zero, List.set_cons_succ])
    case hgq5 => (repeat (first | with_reducible exact Grow.refl _ | with_reducible refine Grow.alloc ?_ _ | with_reducible refine Grow.drew ?_ | with_reducible refine Grow.drewN ?_ _ | (with_reducible refine Grow.setCell ?_ ?hp _; (case hp => (simp; try omega))) | with_reducible refine Grow.trans ?_ (by assumption)))
    clear hK K t5
    (try simp only [Act.put, List.setIfInBounds_toArray, List.set_cons_zero, List.set_cons_succ])
    refine flex_op rfl rfl (fun t6 u6 hu6 K hK => ?_)
    simp only [aof, List.foldl_cons, List.foldl_nil, Act.put, List.setIfInBounds_toArray, List.set_cons_zero, List.set_cons_succ]
    go_simp
    (go_at_call 9; (with_reducible refine (SB.out _ _ _ (HV21.out.grow (by (repeat (first | with_reducible exact Grow.refl _ | with_reducible refine Grow.alloc ?_ _ | with_reducible refine Grow.drew ?_ | with_reducible refine Grow.drewN ?_ _ | (with_reducible refine Grow.setCell ?_ ?hp _; (case hp => (simp; try omega))) | with_reducible refine Grow.trans ?_ (by assumption))))) (HV23.out.grow (by (repeat (first | with_reducible exact Grow.refl _ | with_reducible refine Grow.alloc ?_ _ | with_reducible refine Grow.drew ?_ | with_reducible refine Grow.drewN ?_ _ | (with_reducible refine Grow.setCell ?_ ?hp _; (case hp => (simp; try omega))) | with_reducible refine Grow.trans ?_ (by assumption)))))).mono ?_); (rintro e u24 ⟨v24, rfl, hv24, hb24⟩; obtain ⟨s24, a24, l24, c24, t24, b24, k24, e24, rfl⟩ := hv24.form; have HV24 := Lib.hid hv24; clear hv24))
    (try go_wp2_with fail)
    refine hK.out _ (.agg #[.bool s24, .slice a24 l24 c24, .bool t24, .slice b24 k24 e24]) _ ?heq6 ?hgq6 ?_
    case heq6 => (simp only [aof, List.foldl_cons, List.foldl_nil, Act.put, List.setIfInBounds_toArray, List.set_cons_zero, List.set_cons_succ])
    case hgq6 => (repeat (first | with_reducible exact Grow.refl _ | with_reducible refine Grow.alloc ?_ _ | with_reducible refine Grow.drew ?_ | with_reducible refine Grow.drewN ?_ _ | (with_reducible refine Grow.setCell ?_ ?hp _; (case hp => (simp; try omega))) | with_reducible refine Grow.trans ?_ (by assumption)))
    clear hK K t6
    (try simp only [Act.put, List.setIfInBounds_toArray, List.set_cons_zero, List.set_cons_succ])
    refine flex_done (fun Fq uq huq hFq hNq => ?_)
    have hFq0 := hFq ⟨7, 11, .cells #[.bool false, .slice none 0 0, .bool false, .slice none 0 0] 36⟩ (by simp)
    clear hFq hNq
    (try simp only [aof, List.foldl_cons, List.foldl_nil, Act.put, List.setIfInBounds_toArray, List.set_cons_zero, List.set_cons_succ, ptrX])
    generalize Fq 7 = Fbq0 at *
    clear Fq
    have hFX := hFq0
    obtain ⟨hFx, hF1, hF2, hF3⟩ := hFq0
    obtain ⟨o0, o1, o2, o3, of, oz⟩ := ak4 rfl _ hF3
    rw [hF2] at o0 o1 o2 o3 of oz
    refine held_last rfl rfl (fun K hK => ?_)
    go_simp
    refine hK.out _ _ ?_
    clear hK K
    (try simp only [Act.put])
    refine held_done ?_
    obtain ⟨hQ, hG⟩ := FrX.putR hFX (HV24.out.grow huq)
    obtain ⟨w10, hw10⟩ : ∃ w10, st4 uq Fbq0 0 (.bool s24) (.slice a24 l24 c24) (.bool t24) (.slice b24 k24 e24) = w10 := ⟨_, rfl⟩
    have hw11 : ((((uq.setCell ⟨Fbq0, 0, none⟩ (.bool s24)).setCell ⟨Fbq0, 1, none⟩ (.slice a24 l24 c24)).setCell ⟨Fbq0, 2, none⟩ (.bool t24)).setCell ⟨Fbq0, 3, none⟩ (.slice b24 k24 e24)) = w10 := hw10
    rw [hw10] at hQ hG
    rw [hw11]
    obtain ⟨s11, a11, l11, c11, t11, b11, k11, e11, ⟨p0, p1, p2, p3⟩, hv11⟩ := RowQ.at4 hQ (show 0 < 1 by omega)
    rw [Nat.zero_mul, Nat.add_zero] at p0 p1 p2 p3
    have SR := Lib.hid (sameRatQ _ _ _ w10 (HVA.out.grow hG) hv11)
    obtain ⟨x0, x1, x2, x3, x4, x5⟩ := K6.out w10 hG
    have HGG := Lib.hid hG
    clear hw10 hw11 hQ hG hv11 hFX o0 o1 o2 o3 of oz hFx hF1 hF2 hF3 huq HV20 HV21 HV22 HV23 HV24
    go_simp
    go_wp2_with (go_at_call 12; (with_reducible refine SR.out.mono ?_); (rintro e u12 ⟨rfl, hb12⟩))
    go_ret
    exact ⟨rfl, HGT.out.trans (HGG.out.trans hb12)⟩
  · have hout : decide (n < 1) = true ∨ (decide (n < 1) = false ∧ decide (n > 120) = true) := by simp; omega
    clear hin
    rcases hout with o1 | ⟨o1, o2⟩
    all_goals
      go_enter Tryz.func3, Tryz.ntmps3
      go_wp2_with (go_at_call 5; (with_reducible refine (AW.out _).mono ?_); (rintro e u2 ⟨rfl, hb2⟩))
      go_ret
      exact ⟨rfl, by (repeat (first | with_reducible exact Grow.refl _ | with_reducible refine Grow.alloc ?_ _ | with_reducible refine Grow.drew ?_ | with_reducible refine Grow.drewN ?_ _ | (with_reducible refine Grow.setCell ?_ ?hp _; (case hp => (simp; try omega))) | with_reducible refine Grow.trans ?_ (by assumption)))⟩
end Go.Proofs.YtbpkfcohbefphaaGreat
/- From a walk to a row: a law that answers true and leaves old memory alone. -/
namespace Go.Proofs.YtbpkfcohbefphaaGreat
open Go.ChangeShapes Go.WideShapes Go.ChangeAt Go.RowKit Go.Joins

theorem own : ownKnob Tryz.prog.godebug = none := by kernel_rfl
theorem laidOut : laidOutB Tryz.prog = true := by kernel_rfl

theorem trodAll_stay {H : Type} {enc : TypeId × Value → H} {P : Program} (hl : laidOutB P = true) {W W' : World} (hb : Below W.heap.size W W') :
    ∀ (ts : List TypeId) (vs : List Value) (ds : List (DataW H)) (ps : List MemPlace), ts.all (fun t => P.readableRec t && decide (t < P.types.size)) = true →
      DataW.TrodAll enc P W 0 (fun _ => true) true ts vs ds ps → (∀ x ∈ ps, x.block < W.heap.size) → DataW.TrodAll enc P W' 0 (fun b => decide (b < W.heap.size)) true ts vs ds ps
  | [], [], [], ps, _, h, _ => h
  | t :: ts, v :: vs, d :: ds, ps, ht, h, hlt => by
    obtain ⟨p, q, h1, h2, rfl⟩ := h
    simp only [List.all_cons, Bool.and_eq_true, decide_eq_true_eq] at ht
    exact ⟨p, q, Below.trod hl ht.1.1 ht.1.2 h1 hb (fun x hx => hlt x (List.mem_append_left _ hx)),
      trodAll_stay hl hb ts vs ds q (by simpa using ht.2) h2 (fun x hx => hlt x (List.mem_append_right _ hx)), rfl⟩
  | [], _ :: _, _, _, _, h, _ => h.elim
  | [], [], _ :: _, _, _, h, _ => h.elim
  | _ :: _, [], _, _, _, h, _ => h.elim
  | _ :: _, _ :: _, [], _, _, h, _ => h.elim

theorem law_post {H : Type} {enc : TypeId × Value → H} {P : Program} {f : Func} {s : ChangeSpec} {W W' : World} {args : Array Value} {ds : List (DataW H)} {before : List MemPlace} (T : TypeId)
    (hr : f.resultTypes = #[T]) (hT : P.underlying T = some .bool) (hl : laidOutB P = true) (hts : f.params.toList.all (fun t => P.readableRec t && decide (t < P.types.size)) = true) (hv : s.vars = [])
    (hW : DataW.Whole enc P f.params.toList s.vars false W args.toList ds [] before) (hs : s.fn H (ds ++ []) = { results := [.lit (.bool true)], args := ds }) (hb : Below W.heap.size W W') :
    s.post enc P f false true false false W args (.bool true) W' := by
  have hW' := hW
  obtain ⟨p, q, hA, hV, rfl, _, _⟩ := hW
  rw [hv] at hV
  obtain ⟨_, rfl⟩ := trodVars_none hV
  have hlt : ∀ x ∈ p, x.block < W.heap.size := fun x hx => hW'.lt x (by simpa using hx)
  have h1 := trodAll_stay hl hb _ _ _ _ hts hA hlt
  refine ⟨ds, [], _, [], p, [], hW', ?_, ?_, ?_, hb.frame _, fun h => by cases h⟩
  · rw [hs, hr]
    exact trodAll_mk1 (shut_bool hT true)
  · rw [hs]
    exact h1
  · rw [hs, hv]
    exact rfl

theorem cells_cusp : Tryz.prog.cellsOf 55 = 2 := by kernel_rfl
set_option maxRecDepth 100000 in
theorem open_cusp {H : Type} {enc : TypeId × Value → H} {w : World} {r : Reach} {b0 : Nat} {v : Value} {d : DataW H} {p : List MemPlace} {base : Nat} {spare : Nat → Bool} {held : Bool}
    (hv : Value.okWide Tryz.prog w r b0 55 v) (h : DataW.Trod enc Tryz.prog w base spare held 55 v d p) : ∃ m : C2, v = .agg #[.int .i64 m.p, .int .i64 m.q] ∧
      (-9223372036854775808 ≤ m.p ∧ m.p ≤ 9223372036854775807) ∧ (-9223372036854775808 ≤ m.q ∧ m.q ≤ 9223372036854775807) := by
  obtain ⟨c0, c1, y0, y1, n, rfl, -, -, h0, h1⟩ := open_agg2 Tryz.underlying55 (by kernel_rfl) cells_cusp hv h
  obtain ⟨a, e0, -, wa⟩ := DataW.trod_int Tryz.underlying3 h0
  obtain ⟨b, e1, -, wb⟩ := DataW.trod_int Tryz.underlying3 h1
  simp at e0 e1
  subst e0 e1

  exact ⟨⟨a, b⟩, rfl, bounds_i64 wa, bounds_i64 wb⟩
theorem cells_qf : Tryz.prog.cellsOf 141 = 3 := by kernel_rfl
set_option maxRecDepth 100000 in
theorem open_qf {H : Type} {enc : TypeId × Value → H} {w : World} {r : Reach} {b0 : Nat} {v : Value} {d : DataW H} {p : List MemPlace} {base : Nat} {spare : Nat → Bool} {held : Bool}
    (hv : Value.okWide Tryz.prog w r b0 141 v) (h : DataW.Trod enc Tryz.prog w base spare held 141 v d p) : ∃ a b c : Int, v = .agg #[.int .i64 a, .int .i64 b, .int .i64 c] := by
  obtain ⟨c0, c1, c2, y0, y1, y2, n, rfl, -, -, h0, h1, h2⟩ := open_agg3 Tryz.underlying141 (by kernel_rfl) cells_qf hv h
  obtain ⟨a, e0, -, -⟩ := DataW.trod_int Tryz.underlying3 h0
  obtain ⟨b, e1, -, -⟩ := DataW.trod_int Tryz.underlying3 h1
  obtain ⟨c, e2, -, -⟩ := DataW.trod_int Tryz.underlying3 h2
  simp at e0 e1 e2
  subst e0 e1 e2
  exact ⟨a, b, c, rfl⟩
end Go.Proofs.YtbpkfcohbefphaaGreat
