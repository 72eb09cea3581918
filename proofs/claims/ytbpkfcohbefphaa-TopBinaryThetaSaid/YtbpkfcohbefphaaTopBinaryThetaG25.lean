/- Lemmas, plain laws and walks that the statement LwBinaryTheta leans on (texts TwI, TwJ, PlZ), conditions as each theorem says. -/
import Derived.Test.YtbpkfcohbefphaaRows
import Derived.WalkKit
import Derived.ProofKit
import Derived.Lib.SmallJoins
import Derived.OpenShut
import Derived.Test.YtbpkfcohbefphaaTopBinaryThetaG01
import Derived.Test.YtbpkfcohbefphaaTopBinaryThetaG24

/- Walks: thetaAwake, TopBinaryTheta. -/
namespace Go.Proofs.Ytbpkfcohbefphaa
open Go Go.RowKit

theorem int3 (w : World) (a b c : Int) (t : TypeId) : IntQ (w.alloc (.cells #[.int .i64 a, .int .i64 b, .int .i64 c] t)) w.heap.size 0 3 (fun i => if i = 0 then a else if i = 1 then b else c) := by
  refine ⟨by simp, fun i hi => ?_⟩
  rw [World.cell?_alloc_at _ _ _ _ rfl]
  rcases (by omega : i = 0 ∨ i = 1 ∨ i = 2) with rfl | rfl | rfl <;> simp
theorem int4 (w : World) (A B C : Int) (t : TypeId) : IntQ (w.alloc (.cells #[.int .i64 (2 * A), .int .i64 B, .int .i64 B, .int .i64 (2 * C)] t)) w.heap.size 0 4 (bnF A B C) := by
  refine ⟨by simp, fun i hi => ?_⟩
  rw [World.cell?_alloc_at _ _ _ _ rfl]
  rcases (by omega : i = 0 ∨ i = 1 ∨ i = 2 ∨ i = 3) with rfl | rfl | rfl | rfl <;> simp [bnF]
def awF (j : Nat) : Int := if j = 0 then 1 else if j = 1 then 4 else 4
theorem awake_vals : ∀ j : Nat, j < 3 → ((hist (fun t => (bnX 1 0 1 4 2 t : Int)) (boxN (bnB 1 1 4 2) 2) (j : Int) : Nat) : Int) = awF j := by decide +kernel
set_option maxRecDepth 20000 in
set_option maxHeartbeats 8000000 in
theorem thetaAwakeQ (w : World) : Calls Try.prog 4 #[] w fun e w' => e = .returned (.bool true) ∧ Grow w w' := by
  have HQ : QI 1 0 1 4 := ⟨by decide, by decide, by decide, by decide, by decide, by decide, by decide⟩
  have EX : Hid (∀ u : World, Calls Try.prog 6 #[.agg #[.int .i64 2, .slice (some ⟨u.heap.size, 0, none⟩) 4 4], .int .i64 3] (u.alloc (.cells #[.int .i64 2, .int .i64 0, .int .i64 0, .int .i64 2] 3)) fun e w' =>
      ∃ B' c', e = .returned (.tuple #[.agg #[.int .i64 0, .slice (some ⟨B', 0, none⟩) 3 c'], .int .i64 0]) ∧ RowQ w' B' 0 3 (fun j => (awF j : Rat)) ∧ Grow (u.alloc (.cells #[.int .i64 2, .int .i64 0, .int .i64 0, .int .i64 2] 3)) w') :=
    Lib.hid (fun u => (expansionT 2 4 u.heap.size 0 4 3 2 _ _ _ _ _ _ _ (bn_thh HQ (by decide) rfl) (bn_thc HQ) (u.alloc (.cells #[.int .i64 2, .int .i64 0, .int .i64 0, .int .i64 2] 3)) (int4 u 1 0 1 3)).mono (fun e w' ⟨B', c', he, hr, hg⟩ => ⟨B', c', he, hr.cong (fun i hi => by rw [awake_vals i hi]), hg⟩))
  have QS : Hid (∀ (u v : World), Grow (u.alloc (.cells #[.int .i64 1, .int .i64 4, .int .i64 4] 3)) v → Calls Try.prog 12 #[.slice (some ⟨u.heap.size, 0, none⟩) 3 3] v fun e w' => ∃ B' c', e = .returned (.slice (some ⟨B', 0, none⟩) 3 c') ∧ RowQ w' B' 0 3 (fun j => (awF j : Rat)) ∧ Grow v w') :=
    Lib.hid (fun u v hv => qsQ 3 u.heap.size 0 3 awF (by decide) (by decide) (fun i hi => by unfold awF; split <;> (try split) <;> decide) _ ((int3 u 1 4 4 3).grow hv))
  go_enter Try.func4, Try.ntmps4
  go_upto_region 2 with (go_at_call 6; (with_reducible refine (EX.out _).mono ?_); (rintro e u4 ⟨B4, c4, rfl, hr4, hb4⟩; have HR4 := Lib.hid hr4; clear hr4))
  obtain ⟨W5, hW5⟩ : ∃ W5 : World, W5 = u4.alloc (.cells #[.int .i64 0, .slice (some ⟨B4, 0, none⟩) 3 c4] 29) := ⟨_, rfl⟩
  rw [← hW5]
  have hg5 := ag hW5
  have D0 := Lib.hid (ak2 hW5)
  have SS := Lib.hid (fun (u : World) (B c : Nat) (hu : Grow W5 u) (h : RowQ u B 0 3 (fun j => (awF j : Rat))) => sameSeriesQ 0 3 B4 0 c4 B 0 c _ _ (by decide) (fun j _ => rfl) u (RowP.grow HR4.out (hg5.trans hu)) h)
  clear hW5
  refine region_held (id := 2) (fun u => Grow W5 u) [0, 1, 2, 3, 4, 5, 6, 7, 8, 9] (kdL [0, 0, 0, 1, 2, 2, 0, 2, 0, 0]) (by kernel_rfl) (by kernel_rfl) (fun t ht => kdL_lt _ t ht) ?hS0p ?_
  case hS0p => ((try dsimp only); (repeat (first | with_reducible exact Grow.refl _ | with_reducible refine Grow.alloc ?_ _ | with_reducible refine Grow.drew ?_ | with_reducible refine Grow.drewN ?_ _ | (with_reducible refine Grow.setCell ?_ ?hp _; (case hp => (simp; try omega))) | with_reducible refine Grow.trans ?_ (by assumption))))
  refine held_quiet (v := ?vp0) rfl rfl (Or.inl ⟨by rfl, ?hyp0⟩) ?_
  case hyp0 => (intro u hu; go_simp; (try with_reducible rfl))
  (try simp only [Act.put, List.setIfInBounds_toArray])
  refine held_quiet (v := ?vp1) rfl rfl (Or.inl ⟨by rfl, ?hyp1⟩) ?_
  case hyp1 => (intro u hu; go_simp; (try with_reducible rfl))
  (try simp only [Act.put])
  refine held_quiet (v := ?vp2) rfl rfl (Or.inl ⟨by rfl, ?hyp2⟩) ?_
  case hyp2 => (intro u hu; go_simp; (try with_reducible rfl))
  (try simp only [Act.put])
  refine held_read (v := ?vp3) rfl rfl (Or.inl ⟨by rfl, ?hyp3⟩) ?_
  case hyp3 => (intro u hu; obtain ⟨f0, f1, f2, f3⟩ := D0.out u hu; go_simp; (try with_reducible rfl))
  (try simp only [Act.put])
  refine held_op rfl rfl (fun K hK => ?_)
  go_simp
  refine hK.out _ _ ?hSp4 ?_
  case hSp4 => ((try dsimp only); (repeat (first | with_reducible exact Grow.refl _ | with_reducible refine Grow.alloc ?_ _ | with_reducible refine Grow.drew ?_ | with_reducible refine Grow.drewN ?_ _ | (with_reducible refine Grow.setCell ?_ ?hp _; (case hp => (simp; try omega))) | with_reducible refine Grow.trans ?_ (by assumption))))
  clear hK K
  (try simp only [Act.put])
  refine held_op rfl rfl (fun K hK => ?_)
  go_simp
  (go_at_call 12; (with_reducible refine (QS.out W5 _ ?hgx).mono ?_); (case hgx => (repeat (first | with_reducible exact Grow.refl _ | with_reducible refine Grow.alloc ?_ _ | with_reducible refine Grow.drew ?_ | with_reducible refine Grow.drewN ?_ _ | (with_reducible refine Grow.setCell ?_ ?hp _; (case hp => (simp; try omega))) | with_reducible refine Grow.trans ?_ (by assumption)))); (rintro e u6 ⟨B6, c6, rfl, hr6, hb6⟩; have HR6 := Lib.hid hr6; clear hr6))
  (try go_wp2_with fail)
  refine hK.out _ _ ?hSp5 ?_
  case hSp5 => ((try dsimp only); (repeat (first | with_reducible exact Grow.refl _ | with_reducible refine Grow.alloc ?_ _ | with_reducible refine Grow.drew ?_ | with_reducible refine Grow.drewN ?_ _ | (with_reducible refine Grow.setCell ?_ ?hp _; (case hp => (simp; try omega))) | with_reducible refine Grow.trans ?_ (by assumption))))
  clear hK K
  (try simp only [Act.put])
  refine held_quiet (v := ?vp6) rfl rfl (Or.inl ⟨by rfl, ?hyp6⟩) ?_
  case hyp6 => (intro u hu; go_simp; (try with_reducible rfl))
  (try simp only [Act.put])
  refine held_op rfl rfl (fun K hK => ?_)
  go_simp
  (go_at_call 11; (with_reducible refine (SS.out _ _ _ (by (repeat (first | with_reducible exact Grow.refl _ | with_reducible refine Grow.alloc ?_ _ | with_reducible refine Grow.drew ?_ | with_reducible refine Grow.drewN ?_ _ | (with_reducible refine Grow.setCell ?_ ?hp _; (case hp => (simp; try omega))) | with_reducible refine Grow.trans ?_ (by assumption)))) HR6.out).mono ?_); (rintro e u8 ⟨rfl, hb8⟩))
  (try go_wp2_with fail)
  refine hK.out _ _ ?hSp7 ?_
  case hSp7 => ((try dsimp only); (repeat (first | with_reducible exact Grow.refl _ | with_reducible refine Grow.alloc ?_ _ | with_reducible refine Grow.drew ?_ | with_reducible refine Grow.drewN ?_ _ | (with_reducible refine Grow.setCell ?_ ?hp _; (case hp => (simp; try omega))) | with_reducible refine Grow.trans ?_ (by assumption))))
  clear hK K
  (try simp only [Act.put])
  refine held_quiet (v := ?vp8) rfl rfl (Or.inl ⟨by rfl, ?hyp8⟩) ?_
  case hyp8 => (intro u hu; go_simp; (try with_reducible rfl))
  (try simp only [Act.put])
  refine held_quiet (v := ?vp9) rfl rfl (Or.inl ⟨by rfl, ?hyp9⟩) ?_
  case hyp9 => (intro u hu; go_simp; (try with_reducible rfl))
  (try simp only [Act.put])
  refine held_done ?_
  go_wp2_with fail
  go_ret
  exact ⟨rfl, by (repeat (first | with_reducible exact Grow.refl _ | with_reducible refine Grow.alloc ?_ _ | with_reducible refine Grow.drew ?_ | with_reducible refine Grow.drewN ?_ _ | (with_reducible refine Grow.setCell ?_ ?hp _; (case hp => (simp; try omega))) | with_reducible refine Grow.trans ?_ (by assumption)))⟩
end Go.Proofs.Ytbpkfcohbefphaa
/- Walk: TopBinaryTheta. -/
namespace Go.Proofs.Ytbpkfcohbefphaa
open Go Go.RowKit

theorem qi_of {A B C : Int} (h : QOK A B C) (hA : A ≤ 60) (hC : C ≤ 60) : QI A B C (4 * A * C - B * B) := by
  obtain ⟨-, -, -, h0, h1⟩ := h
  have hb := sq_nonneg B
  have hAC : 0 < A * C := by
    have : 4 * A * C = 4 * (A * C) := by grind
    omega
  have hC0 : 0 < C := by
    rcases Int.lt_or_le 0 C with h2 | h2
    · exact h2
    · have := Int.mul_nonpos_of_nonneg_of_nonpos (Int.le_of_lt h0) h2
      omega
  have h2 : A * C ≤ 60 * 60 := Int.le_trans (Int.mul_le_mul_of_nonneg_left hC (by omega)) (Int.mul_le_mul_of_nonneg_right hA (by omega))
  have h3 : 4 * A * C = 4 * (A * C) := by grind
  have h4 : -((120 : Nat) : Int) ≤ B ∧ B ≤ ((120 : Nat) : Int) := sq_le_abs (by show B * B ≤ 120 * 120; omega)
  exact ⟨h0, hA, by omega, hC0, hC, rfl, by omega⟩
set_option maxRecDepth 20000 in
set_option maxHeartbeats 8000000 in
theorem topBinaryQ (A B C prec : Int) (w : World) : Calls Try.prog 3 #[.agg #[.int .i64 A, .int .i64 B, .int .i64 C], .int .i64 prec] w fun e w' => e = .returned (.bool true) ∧ Grow w w' := by
  have AW := Lib.hid (fun u => thetaAwakeQ u)
  have CK := Lib.hid (fun u => qcheckQ A B C u)
  obtain ⟨W1, hW1⟩ : ∃ W1 : World, W1 = w.alloc (.cells #[.int .i64 A, .int .i64 B, .int .i64 C] 23) := ⟨_, rfl⟩
  have hg1 := ag hW1
  have K1 := Lib.hid (ak3 hW1)
  have HW1 := Lib.hid hW1
  clear hW1
  by_cases hok : QOK A B C
  · by_cases hin : A ≤ 60 ∧ C ≤ 60 ∧ 0 ≤ prec ∧ prec ≤ 60
    · obtain ⟨h1, h2, h3, h4⟩ := hin
      obtain ⟨p, rfl⟩ : ∃ p : Nat, prec = (p : Int) := ⟨prec.toNat, by omega⟩
      have HQI := Lib.hid (qi_of hok h1 h2)
      have HOK := Lib.hid hok
      have a0 := HQI.out.a0
      have b0 := HQI.out.b1
      have c0 := HQI.out.c0
      obtain ⟨D, hD⟩ : ∃ D, 4 * A * C - B * B = D := ⟨_, rfl⟩
      rw [hD] at HQI
      obtain ⟨m, hm⟩ : ∃ m, m = p - 1 := ⟨_, rfl⟩
      obtain ⟨r, hr⟩ : ∃ r : Nat → Rat, (fun j : Nat => ((((hist (fun t => (bnX A B C D m t : Int)) (boxN (bnB A C D m) 2) (j : Int) : Nat) : Int)) : Rat)) = r := ⟨_, rfl⟩
      have EX : Hid (∀ u v : World, Grow (u.alloc (.cells #[.int .i64 (2 * A), .int .i64 B, .int .i64 B, .int .i64 (2 * C)] 3)) v → Calls Try.prog 6 #[.agg #[.int .i64 2, .slice (some ⟨u.heap.size, 0, none⟩) 4 4], .int .i64 (p : Int)] v fun e w' =>
          ∃ B' c', e = .returned (.tuple #[.agg #[.int .i64 0, .slice (some ⟨B', 0, none⟩) p c'], .int .i64 0]) ∧ RowQ w' B' 0 p r ∧ Grow v w') :=
        Lib.hid (fun u v hv => by rw [← hr]; exact expansionT 2 4 u.heap.size 0 4 p m _ _ _ _ _ _ _ (bn_thh HQI.out (by omega) hm) (bn_thc HQI.out) v ((int4 u A B C 3).grow hv))
      have RC : Hid (∀ j k : Nat, j < p → Cnt A B C j k → r j = ((k : Int) : Rat)) := Lib.hid (fun j k hj hk => by
        rw [← hr]
        show ((((hist (fun t => (bnX A B C D m t : Int)) (boxN (bnB A C D m) 2) (j : Int) : Nat) : Int)) : Rat) = _
        rw [(bn_cnt HQI.out (show m ≤ 59 by omega) j (by omega)).uniq hk])
      have RP := Lib.hid (fun (j : Nat) (hj : j < p) (u : World) => qrepQ A B C D j HQI.out (by omega) u)
      have E1 := Lib.hid (w64n (n := 2 * A) (by omega))
      have E2 := Lib.hid (w64n (n := 2 * C) (by omega))
      have o1 : decide (A > 60) = false := by simp; omega
      have o2 : decide (C > 60) = false := by simp; omega
      have o3 : decide ((p : Int) < 0) = false := by simp
      have o4 : decide ((p : Int) > 60) = false := by simp; omega
      clear hok hr hm hD
      go_enter Try.func3, Try.ntmps3
      go_upto_region 1 with fail
      rw [← HW1.out]
      go_upto_region 5 with (first
        | (go_at_call 4; (with_reducible refine (AW.out _).mono ?_); (rintro e u2 ⟨rfl, hb2⟩; obtain ⟨b0, b1, b2, b3, b4⟩ := K1.out u2 hb2))
        | (go_at_call 5; (with_reducible refine (CK.out _).mono ?_); (rintro e u3 ⟨⟨x, rfl, hx⟩, hb3⟩; obtain rfl := hx.2 HOK.out; clear hx; obtain ⟨d0, d1, d2, d3, d4⟩ := K1.out u3 (by (repeat (first | with_reducible exact Grow.refl _ | with_reducible refine Grow.alloc ?_ _ | with_reducible refine Grow.drew ?_ | with_reducible refine Grow.drewN ?_ _ | (with_reducible refine Grow.setCell ?_ ?hp _; (case hp => (simp; try omega))) | with_reducible refine Grow.trans ?_ (by assumption)))))))
      have HG3 := Lib.hid (hb2.trans hb3)
      clear b0 b1 b2 b3 b4 o1 o2 o3 o4 hb2
      obtain ⟨e1, e2⟩ := E1.out
      obtain ⟨e3, e4⟩ := E2.out
      go_upto_region 6 with (go_at_call 6; (with_reducible refine (EX.out u3 _ ?hgx).mono ?_); (case hgx => (repeat (first | with_reducible exact Grow.refl _ | with_reducible refine Grow.alloc ?_ _ | with_reducible refine Grow.drew ?_ | with_reducible refine Grow.drewN ?_ _ | (with_reducible refine Grow.setCell ?_ ?hp _; (case hp => (simp; try omega))) | with_reducible refine Grow.trans ?_ (by assumption)))); (rintro e u4 ⟨B4, c4, rfl, hr4, hb4⟩; have HR4 := Lib.hid hr4; have HG4 := Lib.hid hb4; clear hr4))
      clear e1 e2 e3 e4
      obtain ⟨W5, hW5⟩ : ∃ W5 : World, W5 = u4.alloc (.cells #[.int .i64 0, .slice (some ⟨B4, 0, none⟩) p c4] 29) := ⟨_, rfl⟩
      rw [← hW5]
      have K5 := Lib.hid (ak2 hW5)
      have HR5 := Lib.hid (RowP.grow HR4.out (ag hW5))
      have HG5 := Lib.hid (show Grow W1 W5 from HG3.out.trans (Grow.trans (by (repeat (first | with_reducible exact Grow.refl _ | with_reducible refine Grow.alloc ?_ _ | with_reducible refine Grow.drew ?_ | with_reducible refine Grow.drewN ?_ _ | (with_reducible refine Grow.setCell ?_ ?hp _; (case hp => (simp; try omega))) | with_reducible refine Grow.trans ?_ (by assumption)))) (ag hW5)))
      clear hW5 d0 d1 d2 d3 d4
      go_wp2_with fail
      go_loopg [7] p (fun gk t7 wr => ∃ j : Nat, t7 = .int .i64 (j : Int) ∧ j ≤ p ∧ Hid (gk = p - j) ∧ Hid (Grow W5 wr))
      case atStart => exact ⟨0, rfl, Nat.zero_le _, Lib.hid rfl, Lib.hid (Grow.refl _)⟩
      case round =>
        obtain ⟨j, rfl, hj2, HGK, HG⟩ := hrel
        by_cases hjn : j = p
        · have y1 : decide ((j : Int) < (p : Int)) = false := by simp; omega
          have y2 : ¬ (j < p) := by omega
          go_wp2_with fail
          go_ret
          exact ⟨rfl, hg1.trans (HG5.out.trans HG.out)⟩
        · have hj : j < p := by omega
          have y1 : decide ((j : Int) < (p : Int)) = true := by simp; omega
          have AT : Hid (∀ u : World, Grow W5 u → Calls Try.prog 7 #[.agg #[.int .i64 0, .slice (some ⟨B4, 0, none⟩) p c4], .int .i64 (j : Int)] u fun e w' => ∃ v, e = .returned (.tuple #[v, .int .i64 0]) ∧ RatR w' v (r j) ∧ Grow u w') :=
            Lib.hid (fun u hu => by
              have h := sAtQ 0 (j : Int) p B4 0 c4 r (by omega) (by omega) (by omega) (by omega) u (RowP.grow HR5.out hu)
              rw [if_neg (by omega), show ((j : Int) - 0).toNat = j by omega] at h
              exact h)
          have RJ := Lib.hid (fun u => RP.out j hj u)
          obtain ⟨b0, b1, b2, b3⟩ := K5.out wr HG.out
          clear hjn
          go_upto_region 12 with (go_at_call 7; (with_reducible refine (AT.out _ HG.out).mono ?_); (rintro e u7 ⟨v7, rfl, hv7, hb7⟩; obtain ⟨s7, a7, l7, c7, t7, bb7, k7, e7, rfl⟩ := hv7.form; have HV7 := Lib.hid hv7; have HG7 := Lib.hid (HG.out.trans hb7); clear hv7 hb7))
          obtain ⟨W8, hW8⟩ : ∃ W8 : World, W8 = u7.alloc (.cells #[.bool s7, .slice a7 l7 c7, .bool t7, .slice bb7 k7 e7] 39) := ⟨_, rfl⟩
          rw [← hW8]
          have hg8 := ag hW8
          have K8 := Lib.hid (ak4 hW8)
          have HV8 := Lib.hid (HV7.out.grow hg8)
          have HG8 := Lib.hid (HG7.out.trans hg8)
          clear hW8 b0 b1 b2 b3
          obtain ⟨b0, b1, b2, b3, b4⟩ := K1.out W8 (HG5.out.trans HG8.out)
          go_upto_region 13 with (go_at_call 8; (with_reducible refine (RJ.out _).mono ?_); (rintro e u10 ⟨k, rfl, hk, hk2, hb10⟩; have HK := Lib.hid hk; have HG10 := Lib.hid hb10; clear hk hb10))
          have D9 := Lib.hid (fun (u : World) (hu : Grow u10 u) => K8.out u (HG10.out.trans hu))
          have QB := Lib.hid (fun u => qbQ (k : Int) (by omega) u)
          have SR := Lib.hid (fun (u : World) (v : Value) (hu : Grow u10 u) (hv : RatR u v ((k : Int) : Rat)) => sameRatQ _ _ v u (by have h := HV8.out.grow (HG10.out.trans hu); rw [RC.out j k hj HK.out] at h; exact h) hv)
          have HG11 := Lib.hid (HG8.out.trans HG10.out)
          clear b0 b1 b2 b3 b4 hg8 hk2
          refine region_held (id := 13) (fun u => Grow u10 u) [0, 1, 2, 3, 4, 5, 6, 7, 8, 9, 10, 11, 12] (kdL [0, 0, 0, 0, 0, 0, 0, 1, 0, 2, 2, 0, 0]) (by kernel_rfl) (by kernel_rfl) (fun t ht => kdL_lt _ t ht) ?hS0q ?_
          case hS0q => ((try dsimp only); (repeat (first | with_reducible exact Grow.refl _ | with_reducible refine Grow.alloc ?_ _ | with_reducible refine Grow.drew ?_ | with_reducible refine Grow.drewN ?_ _ | (with_reducible refine Grow.setCell ?_ ?hp _; (case hp => (simp; try omega))) | with_reducible refine Grow.trans ?_ (by assumption))))
          refine held_quiet (v := ?vq0) rfl rfl (Or.inl ⟨by rfl, ?hyq0⟩) ?_
          case hyq0 => (intro u hu; go_simp; (try with_reducible rfl))
          (try simp only [Act.put, List.setIfInBounds_toArray, List.set_cons_zero, List.set_cons_succ])
          refine held_quiet (v := ?vq1) rfl rfl (Or.inl ⟨by rfl, ?hyq1⟩) ?_
          case hyq1 => (intro u hu; go_simp; (try with_reducible rfl))
          (try simp only [Act.put, List.setIfInBounds_toArray, List.set_cons_zero, List.set_cons_succ])
          refine held_quiet (v := ?vq2) rfl rfl (Or.inl ⟨by rfl, ?hyq2⟩) ?_
          case hyq2 => (intro u hu; go_simp; (try with_reducible rfl))
          (try simp only [Act.put, List.setIfInBounds_toArray, List.set_cons_zero, List.set_cons_succ])
          refine held_quiet (v := ?vq3) rfl rfl (Or.inl ⟨by rfl, ?hyq3⟩) ?_
          case hyq3 => (intro u hu; go_simp; (try with_reducible rfl))
          (try simp only [Act.put, List.setIfInBounds_toArray, List.set_cons_zero, List.set_cons_succ])
          refine held_quiet (v := ?vq4) rfl rfl (Or.inl ⟨by rfl, ?hyq4⟩) ?_
          case hyq4 => (intro u hu; go_simp; (try with_reducible rfl))
          (try simp only [Act.put, List.setIfInBounds_toArray, List.set_cons_zero, List.set_cons_succ])
          refine held_quiet (v := ?vq5) rfl rfl (Or.inl ⟨by rfl, ?hyq5⟩) ?_
          case hyq5 => (intro u hu; go_simp; (try with_reducible rfl))
          (try simp only [Act.put, List.setIfInBounds_toArray, List.set_cons_zero, List.set_cons_succ])
          refine held_quiet (v := ?vq6) rfl rfl (Or.inl ⟨by rfl, ?hyq6⟩) ?_
          case hyq6 => (intro u hu; go_simp; (try with_reducible rfl))
          (try simp only [Act.put, List.setIfInBounds_toArray, List.set_cons_zero, List.set_cons_succ])
          refine held_read (v := ?vq7) rfl rfl (Or.inl ⟨by rfl, ?hyq7⟩) ?_
          case hyq7 => (intro u hu; obtain ⟨f0, f1, f2, f3, f4, f5⟩ := D9.out u hu; go_simp; (try with_reducible rfl))
          (try simp only [Act.put, List.setIfInBounds_toArray, List.set_cons_zero, List.set_cons_succ])
          refine held_quiet (v := ?vq8) rfl rfl (Or.inl ⟨by rfl, ?hyq8⟩) ?_
          case hyq8 => (intro u hu; go_simp; (try with_reducible rfl))
          (try simp only [Act.put, List.setIfInBounds_toArray, List.set_cons_zero, List.set_cons_succ])
          refine held_op rfl rfl (fun K hK => ?_)
          go_simp
          (go_at_call 10; (with_reducible refine (QB.out _).mono ?_); (rintro e u11 ⟨v11, rfl, hv11, hb11⟩; obtain ⟨s11, a11, l11, c11, t11, b11, k11, e11, rfl⟩ := hv11.form; have HV11 := Lib.hid hv11; clear hv11))
          (try go_wp2_with fail)
          refine hK.out _ _ ?hSq9 ?_
          case hSq9 => ((try dsimp only); (repeat (first | with_reducible exact Grow.refl _ | with_reducible refine Grow.alloc ?_ _ | with_reducible refine Grow.drew ?_ | with_reducible refine Grow.drewN ?_ _ | (with_reducible refine Grow.setCell ?_ ?hp _; (case hp => (simp; try omega))) | with_reducible refine Grow.trans ?_ (by assumption))))
          clear hK K
          (try simp only [Act.put, List.setIfInBounds_toArray, List.set_cons_zero, List.set_cons_succ])
          refine held_op rfl rfl (fun K hK => ?_)
          go_simp
          (go_at_call 9; (with_reducible refine (SR.out _ _ (by (repeat (first | with_reducible exact Grow.refl _ | with_reducible refine Grow.alloc ?_ _ | with_reducible refine Grow.drew ?_ | with_reducible refine Grow.drewN ?_ _ | (with_reducible refine Grow.setCell ?_ ?hp _; (case hp => (simp; try omega))) | with_reducible refine Grow.trans ?_ (by assumption)))) HV11.out).mono ?_); (rintro e u12 ⟨rfl, hb12⟩))
          (try go_wp2_with fail)
          refine hK.out _ _ ?hSq10 ?_
          case hSq10 => ((try dsimp only); (repeat (first | with_reducible exact Grow.refl _ | with_reducible refine Grow.alloc ?_ _ | with_reducible refine Grow.drew ?_ | with_reducible refine Grow.drewN ?_ _ | (with_reducible refine Grow.setCell ?_ ?hp _; (case hp => (simp; try omega))) | with_reducible refine Grow.trans ?_ (by assumption))))
          clear hK K
          (try simp only [Act.put, List.setIfInBounds_toArray, List.set_cons_zero, List.set_cons_succ])
          refine held_quiet (v := ?vq11) rfl rfl (Or.inl ⟨by rfl, ?hyq11⟩) ?_
          case hyq11 => (intro u hu; go_simp; (try with_reducible rfl))
          (try simp only [Act.put, List.setIfInBounds_toArray, List.set_cons_zero, List.set_cons_succ])
          refine held_quiet (v := ?vq12) rfl rfl (Or.inl ⟨by rfl, ?hyq12⟩) ?_
          case hyq12 => (intro u hu; go_simp; (try with_reducible rfl))
          (try simp only [Act.put, List.setIfInBounds_toArray, List.set_cons_zero, List.set_cons_succ])
          refine held_done ?_
          have YI := Lib.hid (inc_wrap hj (by omega))
          obtain ⟨e8, e9⟩ := YI.out
          go_wp2_with fail
          clear e8 e9
          go_roundg (p - (j + 1))
          case measure => have := HGK.out; omega
          case rel => exact ⟨j + 1, rfl, hj, Lib.hid rfl, Lib.hid (HG11.out.trans (by (repeat (first | with_reducible exact Grow.refl _ | with_reducible refine Grow.alloc ?_ _ | with_reducible refine Grow.drew ?_ | with_reducible refine Grow.drewN ?_ _ | (with_reducible refine Grow.setCell ?_ ?hp _; (case hp => (simp; try omega))) | with_reducible refine Grow.trans ?_ (by assumption)))))⟩
    · have hout : decide (A > 60) = true ∨ (decide (A > 60) = false ∧ decide (C > 60) = true) ∨ (decide (A > 60) = false ∧ decide (C > 60) = false ∧ decide (prec < 0) = true) ∨ (decide (A > 60) = false ∧ decide (C > 60) = false ∧ decide (prec < 0) = false ∧ decide (prec > 60) = true) := by simp; omega
      have HOK := Lib.hid hok
      clear hin hok
      rcases hout with o1 | ⟨o1, o2⟩ | ⟨o1, o2, o3⟩ | ⟨o1, o2, o3, o4⟩
      all_goals
        go_enter Try.func3, Try.ntmps3
        go_upto_region 1 with fail
        rw [← HW1.out]
        go_wp2_with (first
          | (go_at_call 4; (with_reducible refine (AW.out _).mono ?_); (rintro e u2 ⟨rfl, hb2⟩; obtain ⟨b0, b1, b2, b3, b4⟩ := K1.out u2 hb2))
          | (go_at_call 5; (with_reducible refine (CK.out _).mono ?_); (rintro e u3 ⟨⟨x, rfl, hx⟩, hb3⟩; obtain rfl := hx.2 HOK.out; clear hx; obtain ⟨d0, d1, d2, d3, d4⟩ := K1.out u3 (by (repeat (first | with_reducible exact Grow.refl _ | with_reducible refine Grow.alloc ?_ _ | with_reducible refine Grow.drew ?_ | with_reducible refine Grow.drewN ?_ _ | (with_reducible refine Grow.setCell ?_ ?hp _; (case hp => (simp; try omega))) | with_reducible refine Grow.trans ?_ (by assumption)))))))
        go_ret
        exact ⟨rfl, by (repeat (first | with_reducible exact Grow.refl _ | with_reducible refine Grow.alloc ?_ _ | with_reducible refine Grow.drew ?_ | with_reducible refine Grow.drewN ?_ _ | (with_reducible refine Grow.setCell ?_ ?hp _; (case hp => (simp; try omega))) | with_reducible refine Grow.trans ?_ (by assumption)))⟩
  · have HOK := Lib.hid hok
    clear hok
    go_enter Try.func3, Try.ntmps3
    go_upto_region 1 with fail
    rw [← HW1.out]
    go_wp2_with (first
      | (go_at_call 4; (with_reducible refine (AW.out _).mono ?_); (rintro e u2 ⟨rfl, hb2⟩; obtain ⟨b0, b1, b2, b3, b4⟩ := K1.out u2 hb2))
      | (go_at_call 5; (with_reducible refine (CK.out _).mono ?_); (rintro e u3 ⟨⟨x, rfl, hx⟩, hb3⟩; have hx0 : (x == 0) = false := (by simp; exact fun e => HOK.out (hx.1 e)); have hx1 : (x != 0) = true := (by simp; exact fun e => HOK.out (hx.1 e)); have HX := Lib.hid hx; clear hx)))
    go_ret
    exact ⟨rfl, by (repeat (first | with_reducible exact Grow.refl _ | with_reducible refine Grow.alloc ?_ _ | with_reducible refine Grow.drew ?_ | with_reducible refine Grow.drewN ?_ _ | (with_reducible refine Grow.setCell ?_ ?hp _; (case hp => (simp; try omega))) | with_reducible refine Grow.trans ?_ (by assumption)))⟩
end Go.Proofs.Ytbpkfcohbefphaa
/- From a walk to a row: a law that answers true and leaves old memory alone. -/
namespace Go.Proofs.Ytbpkfcohbefphaa
open Go.ChangeShapes Go.WideShapes Go.ChangeAt Go.RowKit Go.Joins

theorem own : ownKnob Try.prog.godebug = none := by kernel_rfl
theorem laidOut : laidOutB Try.prog = true := by kernel_rfl

theorem trodAll_stay {H : Type} {enc : TypeId × Value → H} {P : Program} (hl : laidOutB P = true) {W W' : World} (hb : Below W.heap.size W W') :
    ∀ (ts : List TypeId) (vs : List Value) (ds : List (DataW H)) (ps : List MemPlace), ts.all (fun t => P.readableRec t && decide (t < P.types.size)) = true →
      DataW.TrodAll enc P W 0 (fun _ => true) true ts vs ds ps → (∀ x ∈ ps, x.block < W.heap.size) → DataW.TrodAll enc P W' 0 (fun b => decide (b < W.heap.size)) true ts vs ds ps
  | [], [], [], ps, _, h, _ => h
  | t :: ts, v :: vs, d :: ds, ps, ht, h, hlt => by
    obtain ⟨p, q, h1, h2, rfl⟩ := h
    simp only [List.all_cons, Bool.and_eq_true, decide_eq_true_eq] at ht
    exact ⟨p, q, Below.trod hl ht.1.1 ht.1.2 h1 hb (fun x hx => hlt x (List.mem_append_left _ hx)),
      trodAll_stay hl hb ts vs ds q (by simpa using ht.2) h2 (fun x hx => hlt x (List.mem_append_right _ hx)), rfl⟩
  | [], _ :: _, _, _, _, h, _ => h.elim
  | [], [], _ :: _, _, _, h, _ => h.elim
  | _ :: _, [], _, _, _, h, _ => h.elim
  | _ :: _, _ :: _, [], _, _, h, _ => h.elim

theorem law_post {H : Type} {enc : TypeId × Value → H} {P : Program} {f : Func} {s : ChangeSpec} {W W' : World} {args : Array Value} {ds : List (DataW H)} {before : List MemPlace} (T : TypeId)
    (hr : f.resultTypes = #[T]) (hT : P.underlying T = some .bool) (hl : laidOutB P = true) (hts : f.params.toList.all (fun t => P.readableRec t && decide (t < P.types.size)) = true) (hv : s.vars = [])
    (hW : DataW.Whole enc P f.params.toList s.vars false W args.toList ds [] before) (hs : s.fn H (ds ++ []) = { results := [.lit (.bool true)], args := ds }) (hb : Below W.heap.size W W') :
    s.post enc P f false true false false W args (.bool true) W' := by
  have hW' := hW
  obtain ⟨p, q, hA, hV, rfl, _, _⟩ := hW
  rw [hv] at hV
  obtain ⟨_, rfl⟩ := trodVars_none hV
  have hlt : ∀ x ∈ p, x.block < W.heap.size := fun x hx => hW'.lt x (by simpa using hx)
  have h1 := trodAll_stay hl hb _ _ _ _ hts hA hlt
  refine ⟨ds, [], _, [], p, [], hW', ?_, ?_, ?_, hb.frame _, fun h => by cases h⟩
  · rw [hs, hr]
    exact trodAll_mk1 (shut_bool hT true)
  · rw [hs]
    exact h1
  · rw [hs, hv]
    exact rfl

theorem cells_mat : Try.prog.cellsOf 58 = 4 := by kernel_rfl
set_option maxRecDepth 100000 in
theorem open_mat {H : Type} {enc : TypeId × Value → H} {w : World} {r : Reach} {b0 : Nat} {v : Value} {d : DataW H} {p : List MemPlace} {base : Nat} {spare : Nat → Bool} {held : Bool}
    (hv : Value.okWide Try.prog w r b0 58 v) (h : DataW.Trod enc Try.prog w base spare held 58 v d p) : ∃ m : M2, v = .agg #[.int .i64 m.a, .int .i64 m.b, .int .i64 m.c, .int .i64 m.d] ∧
      (-9223372036854775808 ≤ m.a ∧ m.a ≤ 9223372036854775807) ∧ (-9223372036854775808 ≤ m.b ∧ m.b ≤ 9223372036854775807) ∧ (-9223372036854775808 ≤ m.c ∧ m.c ≤ 9223372036854775807) ∧ (-9223372036854775808 ≤ m.d ∧ m.d ≤ 9223372036854775807) := by
  obtain ⟨c0, c1, c2, c3, y0, y1, y2, y3, n, rfl, -, -, h0, h1, h2, h3⟩ := open_agg4 Try.underlying58 (by kernel_rfl) cells_mat hv h
  obtain ⟨a, e0, -, wa⟩ := DataW.trod_int Try.underlying3 h0
  obtain ⟨b, e1, -, wb⟩ := DataW.trod_int Try.underlying3 h1
  obtain ⟨c, e2, -, wc⟩ := DataW.trod_int Try.underlying3 h2
  obtain ⟨d, e3, -, wd⟩ := DataW.trod_int Try.underlying3 h3
  simp at e0 e1 e2 e3
  subst e0 e1 e2 e3

  exact ⟨⟨a, b, c, d⟩, rfl, bounds_i64 wa, bounds_i64 wb, bounds_i64 wc, bounds_i64 wd⟩
theorem cells_qf : Try.prog.cellsOf 23 = 3 := by kernel_rfl
set_option maxRecDepth 100000 in
theorem open_qf {H : Type} {enc : TypeId × Value → H} {w : World} {r : Reach} {b0 : Nat} {v : Value} {d : DataW H} {p : List MemPlace} {base : Nat} {spare : Nat → Bool} {held : Bool}
    (hv : Value.okWide Try.prog w r b0 23 v) (h : DataW.Trod enc Try.prog w base spare held 23 v d p) : ∃ a b c : Int, v = .agg #[.int .i64 a, .int .i64 b, .int .i64 c] := by
  obtain ⟨c0, c1, c2, y0, y1, y2, n, rfl, -, -, h0, h1, h2⟩ := open_agg3 Try.underlying23 (by kernel_rfl) cells_qf hv h
  obtain ⟨a, e0, -, -⟩ := DataW.trod_int Try.underlying3 h0
  obtain ⟨b, e1, -, -⟩ := DataW.trod_int Try.underlying3 h1
  obtain ⟨c, e2, -, -⟩ := DataW.trod_int Try.underlying3 h2
  simp at e0 e1 e2
  subst e0 e1 e2
  exact ⟨a, b, c, rfl⟩
end Go.Proofs.Ytbpkfcohbefphaa
