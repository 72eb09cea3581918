/- Lemmas, plain laws and walks that the statement LwThreeSquares leans on (texts TbC, TwI, HwA, ThT, GcA, HwB), conditions as each theorem says. -/
import Derived.Deep.QuietTactic
import Derived.BigQuiet
import Derived.Test.YtbpkfcohbefphaaGreatTopThreeSquaresG15
import Derived.Test.YtbpkfcohbefphaaGreatTopThreeSquaresG18
import Derived.Test.YtbpkfcohbefphaaGreatTopThreeSquaresG19
import Derived.Test.YtbpkfcohbefphaaGreatTopThreeSquaresG20
import Derived.Test.YtbpkfcohbefphaaGreatTopThreeSquaresG22
import Derived.Test.YtbpkfcohbefphaaGreatTopThreeSquaresG23

/- Walks of the statements' helpers: SameRats, SameSeries, Qs. -/
namespace Go.Proofs.YtbpkfcohbefphaaGreat
open Go Go.RowKit

set_option maxRecDepth 20000 in
set_option maxHeartbeats 8000000 in
theorem sameRatsQ (n B1 o1 c1 B2 o2 c2 : Nat) (r r' : Nat → Rat) (hn : n ≤ 1000) (hr : ∀ j, j < n → r j = r' j) (w : World) (h1 : RowQ w B1 o1 n r) (h2 : RowQ w B2 o2 n r') :
    Calls Tryz.prog 59 #[.slice (some ⟨B1, o1, none⟩) n c1, .slice (some ⟨B2, o2, none⟩) n c2] w fun e w' => e = .returned (.bool true) ∧ Grow w w' := by
  have H1 := Lib.hid h1
  have H2 := Lib.hid h2
  have HR := Lib.hid hr
  clear h1 h2 hr
  go_enter Tryz.func59, Tryz.ntmps59
  go_wp2_with fail
  go_loopg [5] n (fun gk t5 wr => ∃ j : Nat, t5 = .int .i64 (j : Int) ∧ j ≤ n ∧ Hid (gk = n - j) ∧ Hid (Grow w wr))
  case atStart => exact ⟨0, rfl, Nat.zero_le _, Lib.hid rfl, Lib.hid (Grow.refl _)⟩
  case round =>
    obtain ⟨j, rfl, hj2, HGK, HG⟩ := hrel
    by_cases hjn : j = n
    · have y1 : decide ((j : Int) < (n : Int)) = false := by simp; omega
      subst hjn
      go_wp2_with fail
      go_ret
      exact ⟨rfl, HG.out⟩
    · have hj : j < n := by omega
      have y0 : (0 : Int) ≤ (j : Int) := by omega
      have y1 : (j : Int) < (n : Int) := by omega
      obtain ⟨s3, a3, l3, c3, t3, b3, k3, e3, ⟨p0, p1, p2, p3⟩, hv1⟩ := RowQ.at4 (RowP.grow H1.out HG.out) hj
      obtain ⟨s4, a4, l4, c4, t4, b4, k4, e4, ⟨q0, q1, q2, q3⟩, hv2⟩ := RowQ.at4 (RowP.grow H2.out HG.out) hj
      rw [HR.out j hj] at hv1
      have hl1 := (RowP.grow H1.out HG.out).lt
      have hl2 := (RowP.grow H2.out HG.out).lt
      have D0 := Lib.hid (fun (u : World) (hg : Grow wr u) => (⟨(hg.cells _ _ hl1).trans p0, (hg.cells _ _ hl1).trans p1, (hg.cells _ _ hl1).trans p2, (hg.cells _ _ hl1).trans p3, (hg.cells _ _ hl2).trans q0, (hg.cells _ _ hl2).trans q1, (hg.cells _ _ hl2).trans q2, (hg.cells _ _ hl2).trans q3⟩ : _ ∧ _ ∧ _ ∧ _ ∧ _ ∧ _ ∧ _ ∧ _))
      have SR := Lib.hid (fun (u : World) (hg : Grow wr u) => sameRatQ _ _ _ u (hv1.grow hg) (hv2.grow hg))
      clear p0 p1 p2 p3 q0 q1 q2 q3 hv1 hv2 hl1 hl2 hjn
      go_upto_region 6 with fail
      refine region_held (id := 6) (fun u => Grow wr u) [0, 1, 2, 3, 4, 5, 6, 7, 8, 9] (kdL [0, 0, 0, 1, 0, 0, 0, 1, 2, 0]) (by kernel_rfl) (by kernel_rfl) (fun t ht => kdL_lt _ t ht) ?hS0p ?_
      case hS0p => ((try dsimp only); (repeat (first | with_reducible exact Grow.refl _ | with_reducible refine Grow.alloc ?_ _ | with_reducible refine Grow.drew ?_ | with_reducible refine Grow.drewN ?_ _ | (with_reducible refine Grow.setCell ?_ ?hp _; (case hp => (simp; try omega))) | with_reducible refine Grow.trans ?_ (by assumption))))
      refine held_quiet (v := ?vp0) rfl rfl (Or.inl ⟨by rfl, ?hyp0⟩) ?_
      case hyp0 => (intro u hu; go_simp; (try with_reducible rfl))
      (try simp only [Act.put, List.setIfInBounds_toArray])
      refine held_quiet (v := ?vp1) rfl rfl (Or.inl ⟨by rfl, ?hyp1⟩) ?_
      case hyp1 => (intro u hu; go_simp; (try with_reducible rfl))
      (try simp only [Act.put])
      refine held_quiet (v := ?vp2) rfl rfl (Or.inl ⟨by rfl, ?hyp2⟩) ?_
      case hyp2 => (intro u hu; go_simp; (try with_reducible rfl))
      (try simp only [Act.put])
      refine held_read (v := ?vp3) rfl rfl (Or.inl ⟨by rfl, ?hyp3⟩) ?_
      case hyp3 => (intro u hu; obtain ⟨f0, f1, f2, f3, f4, f5, f6, f7⟩ := D0.out u hu; go_simp; (try with_reducible rfl))
      (try simp only [Act.put])
      refine held_quiet (v := ?vp4) rfl rfl (Or.inl ⟨by rfl, ?hyp4⟩) ?_
      case hyp4 => (intro u hu; go_simp; (try with_reducible rfl))
      (try simp only [Act.put])
      refine held_quiet (v := ?vp5) rfl rfl (Or.inl ⟨by rfl, ?hyp5⟩) ?_
      case hyp5 => (intro u hu; go_simp; (try with_reducible rfl))
      (try simp only [Act.put])
      refine held_quiet (v := ?vp6) rfl rfl (Or.inl ⟨by rfl, ?hyp6⟩) ?_
      case hyp6 => (intro u hu; go_simp; (try with_reducible rfl))
      (try simp only [Act.put])
      refine held_read (v := ?vp7) rfl rfl (Or.inl ⟨by rfl, ?hyp7⟩) ?_
      case hyp7 => (intro u hu; obtain ⟨f0, f1, f2, f3, f4, f5, f6, f7⟩ := D0.out u hu; go_simp; (try with_reducible rfl))
      (try simp only [Act.put])
      refine held_op rfl rfl (fun K hK => ?_)
      go_simp
      (go_at_call 12; (with_reducible refine (SR.out _ (by (repeat (first | with_reducible exact Grow.refl _ | with_reducible refine Grow.alloc ?_ _ | with_reducible refine Grow.drew ?_ | with_reducible refine Grow.drewN ?_ _ | (with_reducible refine Grow.setCell ?_ ?hp _; (case hp => (simp; try omega))) | with_reducible refine Grow.trans ?_ (by assumption))))).mono ?_); (rintro e u6 ⟨rfl, hb6⟩))
      (try go_wp2_with fail)
      refine hK.out _ _ ?hSp8 ?_
      case hSp8 => ((try dsimp only); (repeat (first | with_reducible exact Grow.refl _ | with_reducible refine Grow.alloc ?_ _ | with_reducible refine Grow.drew ?_ | with_reducible refine Grow.drewN ?_ _ | (with_reducible refine Grow.setCell ?_ ?hp _; (case hp => (simp; try omega))) | with_reducible refine Grow.trans ?_ (by assumption))))
      clear hK K
      (try simp only [Act.put])
      refine held_quiet (v := ?vp9) rfl rfl (Or.inl ⟨by rfl, ?hyp9⟩) ?_
      case hyp9 => (intro u hu; go_simp; (try with_reducible rfl))
      (try simp only [Act.put])
      refine held_done ?_
      have YI := Lib.hid (inc_wrap hj (by omega))
      obtain ⟨e8, e9⟩ := YI.out
      go_wp2_with fail
      clear e8 e9
      go_roundg (n - (j + 1))
      case measure => have := HGK.out; omega
      case rel => exact ⟨j + 1, rfl, hj, Lib.hid rfl, Lib.hid (HG.out.trans (by (repeat (first | with_reducible exact Grow.refl _ | with_reducible refine Grow.alloc ?_ _ | with_reducible refine Grow.drew ?_ | with_reducible refine Grow.drewN ?_ _ | (with_reducible refine Grow.setCell ?_ ?hp _; (case hp => (simp; try omega))) | with_reducible refine Grow.trans ?_ (by assumption)))))⟩
set_option maxRecDepth 20000 in
set_option maxHeartbeats 8000000 in
theorem sameSeriesQ (fr : Int) (n B1 o1 c1 B2 o2 c2 : Nat) (r r' : Nat → Rat) (hn : n ≤ 1000) (hr : ∀ j, j < n → r j = r' j) (w : World) (h1 : RowQ w B1 o1 n r) (h2 : RowQ w B2 o2 n r') :
    Calls Tryz.prog 25 #[.agg #[.int .i64 fr, .slice (some ⟨B1, o1, none⟩) n c1], .agg #[.int .i64 fr, .slice (some ⟨B2, o2, none⟩) n c2]] w fun e w' => e = .returned (.bool true) ∧ Grow w w' := by
  have SS := Lib.hid (fun (u : World) (hu : Grow w u) => sameRatsQ n B1 o1 c1 B2 o2 c2 r r' hn hr u (RowP.grow h1 hu) (RowP.grow h2 hu))
  clear h1 h2 hr
  obtain ⟨W1, hW1⟩ : ∃ W1 : World, W1 = w.alloc (.cells #[.int .i64 fr, .slice (some ⟨B1, o1, none⟩) n c1] 25) := ⟨_, rfl⟩
  obtain ⟨W2, hW2⟩ : ∃ W2 : World, W2 = W1.alloc (.cells #[.int .i64 fr, .slice (some ⟨B2, o2, none⟩) n c2] 25) := ⟨_, rfl⟩
  have hg2 : Grow w W2 := (ag hW1).trans (ag hW2)
  have K1 := Lib.hid (fun u (hu : Grow W2 u) => ak2 hW1 u ((ag hW2).trans hu))
  have K2 := Lib.hid (ak2 hW2)
  have hz1 : W1.heap.size = w.heap.size + 1 := by rw [hW1]; simp
  rw [hz1] at K2
  have HW1 := Lib.hid hW1
  have HW2 := Lib.hid hW2
  clear hW1 hW2
  go_enter Tryz.func25, Tryz.ntmps25
  go_upto_region 1 with fail
  rw [← HW1.out, ← HW2.out]
  obtain ⟨b0, b1, b2, b3⟩ := K1.out W2 (Grow.refl _)
  obtain ⟨d0, d1, d2, d3⟩ := K2.out W2 (Grow.refl _)
  go_wp2_with (go_at_call 59; (with_reducible refine (SS.out _ (by (repeat (first | with_reducible exact Grow.refl _ | with_reducible refine Grow.alloc ?_ _ | with_reducible refine Grow.drew ?_ | with_reducible refine Grow.drewN ?_ _ | (with_reducible refine Grow.setCell ?_ ?hp _; (case hp => (simp; try omega))) | with_reducible refine Grow.trans ?_ (by assumption))))).mono ?_); (rintro e u2 ⟨rfl, hb2⟩))
  go_ret
  exact ⟨rfl, by (repeat (first | with_reducible exact Grow.refl _ | with_reducible refine Grow.alloc ?_ _ | with_reducible refine Grow.drew ?_ | with_reducible refine Grow.drewN ?_ _ | (with_reducible refine Grow.setCell ?_ ?hp _; (case hp => (simp; try omega))) | with_reducible refine Grow.trans ?_ (by assumption)))⟩
set_option maxRecDepth 20000 in
set_option maxHeartbeats 8000000 in
theorem qsQ (n B off c : Nat) (f : Nat → Int) (hn0 : 0 < n) (hn : n ≤ 1000) (hf : ∀ i, i < n → (f i).natAbs < 4294967296) (w : World) (hA : IntQ w B off n f) :
    Calls Tryz.prog 26 #[.slice (some ⟨B, off, none⟩) n c] w fun e w' => ∃ B' c', e = .returned (.slice (some ⟨B', 0, none⟩) n c') ∧ RowQ w' B' 0 n (fun i => (f i : Rat)) ∧ Grow w w' := by
  obtain ⟨ir, hir, irz0, irz1, irz2⟩ := info_parts infoRat
  have HA := Lib.hid hA
  have HF := Lib.hid hf
  clear hA hf
  go_enter Tryz.func26, Tryz.ntmps26
  go_wp2_with fail
  go_loopg [3, 4] n (fun gk t3 t4 wr => ∃ (j cv : Nat) (av : Option Addr) (xs : List Value), t3 = .slice av j cv ∧ t4 = .int .i64 (j : Int) ∧ j ≤ n ∧ Hid (gk = n - j) ∧ Hid (Grow w wr) ∧ Hid (OwnG wr w.heap.size 36 4 (.slice av j cv) j xs) ∧ Hid (ListR wr xs j (fun i => (f i : Rat))))
  case atStart => exact ⟨0, 0, none, [], rfl, rfl, Nat.zero_le _, Lib.hid rfl, Lib.hid (Grow.refl _), Lib.hid (OwnG.nil _ _ _ _), Lib.hid (ListR.nil _ _)⟩
  case round =>
    obtain ⟨j, cv, av, xs, rfl, rfl, hj2, HGK, HG, HO, HX⟩ := hrel
    by_cases hjn : j = n
    · have y1 : decide ((j : Int) < (n : Int)) = false := by simp; omega
      subst hjn
      obtain ⟨g, cap, hv, hg1, hg2⟩ := own_slice HO.out.own hn0
      injection hv with h1 h2 h3
      subst h1 h3
      go_wp2_with fail
      go_ret
      exact ⟨g, ⟨cv, rfl⟩, own_rowq HO.out.own HX.out, HG.out⟩
    · have hj : j < n := by omega
      have y0 : (0 : Int) ≤ (j : Int) := by omega
      have y1 : (j : Int) < (n : Int) := by omega
      have hcA := (HA.out.grow HG.out).cell j hj
      have QB := Lib.hid (fun u => qbQ (f j) (HF.out j hj) u)
      obtain ⟨z, hz⟩ : ∃ z, f j = z := ⟨_, rfl⟩
      rw [hz] at hcA QB
      have HZ := Lib.hid hz
      clear hz
      go_wp2_with (first
        | (go_at_call 11; (with_reducible refine (QB.out _).mono ?_); (rintro e u6 ⟨v6, rfl, hv6, hb6⟩; obtain ⟨s6, a6, l6, c6, t6, b6, k6, e6, rfl⟩ := hv6.form; have HV6 := Lib.hid hv6; have HG6 := Lib.hid hb6; clear hv6 hb6))
        | (at_builtin; go_loud (refine wpList_append_g _ rfl _ _ 23 rfl 36 ir _ 4 64 Tryz.underlying23 hir irz0 irz1 irz2 rfl (by decide) rat_zero_nu (by decide) w.heap.size _ j xs rfl (HO.out.grow (HG6.out.trans (by (repeat (first | with_reducible exact Grow.refl _ | with_reducible refine Grow.alloc ?_ _ | with_reducible refine Grow.drew ?_ | with_reducible refine Grow.drewN ?_ _ | (with_reducible refine Grow.setCell ?_ ?hp _; (case hp => (simp; try omega))) | with_reducible refine Grow.trans ?_ (by assumption)))))) ⟨u6.heap.size, 0, none⟩ 1 [.bool s6, .slice a6 l6 c6, .bool t6, .slice b6 k6 e6] rfl rfl (rat_news u6 s6 a6 l6 c6 t6 b6 k6 e6 36) (rat_one s6 a6 l6 c6 t6 b6 k6 e6) (rat_nu s6 a6 l6 c6 t6 b6 k6 e6) (by omega) (Nat.le_trans (HG.out.trans HG6.out).size (by simp)) ?_)))
      intro v7 w7 hown7 hb7
      obtain ⟨a7, c7, hv7⟩ := hown7.form
      subst hv7
      have hga : Grow wr (u6.alloc (.cells #[.bool s6, .slice a6 l6 c6, .bool t6, .slice b6 k6 e6] 36)) := HG6.out.trans (by (repeat (first | with_reducible exact Grow.refl _ | with_reducible refine Grow.alloc ?_ _ | with_reducible refine Grow.drew ?_ | with_reducible refine Grow.drewN ?_ _ | (with_reducible refine Grow.setCell ?_ ?hp _; (case hp => (simp; try omega))) | with_reducible refine Grow.trans ?_ (by assumption))))
      have hx7 := (HX.out.grow hga).but hb7
      have hl7 := ((listr_one HV6.out).grow ((Grow.refl u6).alloc (.cells #[.bool s6, .slice a6 l6 c6, .bool t6, .slice b6 k6 e6] 36))).but hb7
      have HXL := Lib.hid ((hx7.append hl7).cong (r' := fun i => (f i : Rat)) (fun i hi => by
        by_cases hij : i < j
        · rw [if_pos hij]
        · rw [if_neg hij, show i = j by omega, HZ.out]))
      have HGL := Lib.hid ((((HG.out.trans hga).but _).trans hb7).asGrow (fun b hb => hb))
      have HOL := Lib.hid hown7
      have YI := Lib.hid (inc_wrap hj (by omega))
      clear hx7 hl7 hga hb7 hown7 hcA
      obtain ⟨e8, e9⟩ := YI.out
      go_wp2_with fail
      clear e8 e9
      go_roundg (n - (j + 1))
      case measure => have := HGK.out; omega
      case rel => exact ⟨j + 1, c7, a7, _, rfl, rfl, hj, Lib.hid rfl, HGL, HOL, HXL⟩
end Go.Proofs.YtbpkfcohbefphaaGreat
/- Walks: thetaAwake, TopBinaryTheta. -/
namespace Go.Proofs.YtbpkfcohbefphaaGreat
open Go Go.RowKit

theorem int3 (w : World) (a b c : Int) (t : TypeId) : IntQ (w.alloc (.cells #[.int .i64 a, .int .i64 b, .int .i64 c] t)) w.heap.size 0 3 (fun i => if i = 0 then a else if i = 1 then b else c) := by
  refine ⟨by simp, fun i hi => ?_⟩
  rw [World.cell?_alloc_at _ _ _ _ rfl]
  rcases (by omega : i = 0 ∨ i = 1 ∨ i = 2) with rfl | rfl | rfl <;> simp
theorem int4 (w : World) (A B C : Int) (t : TypeId) : IntQ (w.alloc (.cells #[.int .i64 (2 * A), .int .i64 B, .int .i64 B, .int .i64 (2 * C)] t)) w.heap.size 0 4 (bnF A B C) := by
  refine ⟨by simp, fun i hi => ?_⟩
  rw [World.cell?_alloc_at _ _ _ _ rfl]
  rcases (by omega : i = 0 ∨ i = 1 ∨ i = 2 ∨ i = 3) with rfl | rfl | rfl | rfl <;> simp [bnF]
def awF (j : Nat) : Int := if j = 0 then 1 else if j = 1 then 4 else 4
theorem awake_vals : ∀ j : Nat, j < 3 → ((hist (fun t => (bnX 1 0 1 4 2 t : Int)) (boxN (bnB 1 1 4 2) 2) (j : Int) : Nat) : Int) = awF j := by decide +kernel
set_option maxRecDepth 20000 in
set_option maxHeartbeats 8000000 in
theorem thetaAwakeQ (w : World) : Calls Tryz.prog 5 #[] w fun e w' => e = .returned (.bool true) ∧ Grow w w' := by
  have HQ : QI 1 0 1 4 := ⟨by decide, by decide, by decide, by decide, by decide, by decide, by decide⟩
  have EX : Hid (∀ u : World, Calls Tryz.prog 6 #[.agg #[.int .i64 2, .slice (some ⟨u.heap.size, 0, none⟩) 4 4], .int .i64 3] (u.alloc (.cells #[.int .i64 2, .int .i64 0, .int .i64 0, .int .i64 2] 3)) fun e w' =>
      ∃ B' c', e = .returned (.tuple #[.agg #[.int .i64 0, .slice (some ⟨B', 0, none⟩) 3 c'], .int .i64 0]) ∧ RowQ w' B' 0 3 (fun j => (awF j : Rat)) ∧ Grow (u.alloc (.cells #[.int .i64 2, .int .i64 0, .int .i64 0, .int .i64 2] 3)) w') :=
    Lib.hid (fun u => (expansionT 2 4 u.heap.size 0 4 3 2 _ _ _ _ _ _ _ (bn_thh HQ (by decide) rfl) (bn_thc HQ) (u.alloc (.cells #[.int .i64 2, .int .i64 0, .int .i64 0, .int .i64 2] 3)) (int4 u 1 0 1 3)).mono (fun e w' ⟨B', c', he, hr, hg⟩ => ⟨B', c', he, hr.cong (fun i hi => by rw [awake_vals i hi]), hg⟩))
  have QS : Hid (∀ (u v : World), Grow (u.alloc (.cells #[.int .i64 1, .int .i64 4, .int .i64 4] 3)) v → Calls Tryz.prog 26 #[.slice (some ⟨u.heap.size, 0, none⟩) 3 3] v fun e w' => ∃ B' c', e = .returned (.slice (some ⟨B', 0, none⟩) 3 c') ∧ RowQ w' B' 0 3 (fun j => (awF j : Rat)) ∧ Grow v w') :=
    Lib.hid (fun u v hv => qsQ 3 u.heap.size 0 3 awF (by decide) (by decide) (fun i hi => by unfold awF; split <;> (try split) <;> decide) _ ((int3 u 1 4 4 3).grow hv))
  go_enter Tryz.func5, Tryz.ntmps5
  go_upto_region 2 with (go_at_call 6; (with_reducible refine (EX.out _).mono ?_); (rintro e u4 ⟨B4, c4, rfl, hr4, hb4⟩; have HR4 := Lib.hid hr4; clear hr4))
  obtain ⟨W5, hW5⟩ : ∃ W5 : World, W5 = u4.alloc (.cells #[.int .i64 0, .slice (some ⟨B4, 0, none⟩) 3 c4] 25) := ⟨_, rfl⟩
  rw [← hW5]
  have hg5 := ag hW5
  have D0 := Lib.hid (ak2 hW5)
  have SS := Lib.hid (fun (u : World) (B c : Nat) (hu : Grow W5 u) (h : RowQ u B 0 3 (fun j => (awF j : Rat))) => sameSeriesQ 0 3 B4 0 c4 B 0 c _ _ (by decide) (fun j _ => rfl) u (RowP.grow HR4.out (hg5.trans hu)) h)
  clear hW5
  refine region_held (id := 2) (fun u => Grow W5 u) [0, 1, 2, 3, 4, 5, 6, 7, 8, 9] (kdL [0, 0, 0, 1, 2, 2, 0, 2, 0, 0]) (by kernel_rfl) (by kernel_rfl) (fun t ht => kdL_lt _ t ht) ?hS0p ?_
  case hS0p => ((try dsimp only); (repeat (first | with_reducible exact Grow.refl _ | with_reducible refine Grow.alloc ?_ _ | with_reducible refine Grow.drew ?_ | with_reducible refine Grow.drewN ?_ _ | (with_reducible refine Grow.setCell ?_ ?hp _; (case hp => (simp; try omega))) | with_reducible refine Grow.trans ?_ (by assumption))))
  refine held_quiet (v := ?vp0) rfl rfl (Or.inl ⟨by rfl, ?hyp0⟩) ?_
  case hyp0 => (intro u hu; go_simp; (try with_reducible rfl))
  (try simp only [Act.put, List.setIfInBounds_toArray])
  refine held_quiet (v := ?vp1) rfl rfl (Or.inl ⟨by rfl, ?hyp1⟩) ?_
  case hyp1 => (intro u hu; go_simp; (try with_reducible rfl))
  (try simp only [Act.put])
  refine held_quiet (v := ?vp2) rfl rfl (Or.inl ⟨by rfl, ?hyp2⟩) ?_
  case hyp2 => (intro u hu; go_simp; (try with_reducible rfl))
  (try simp only [Act.put])
  refine held_read (v := ?vp3) rfl rfl (Or.inl ⟨by rfl, ?hyp3⟩) ?_
  case hyp3 => (intro u hu; obtain ⟨f0, f1, f2, f3⟩ := D0.out u hu; go_simp; (try with_reducible rfl))
  (try simp only [Act.put])
  refine held_op rfl rfl (fun K hK => ?_)
  go_simp
  refine hK.out _ _ ?hSp4 ?_
  case hSp4 => ((try dsimp only); (repeat (first | with_reducible exact Grow.refl _ | with_reducible refine Grow.alloc ?_ _ | with_reducible refine Grow.drew ?_ | with_reducible refine Grow.drewN ?_ _ | (with_reducible refine Grow.setCell ?_ ?hp _; (case hp => (simp; try omega))) | with_reducible refine Grow.trans ?_ (by assumption))))
  clear hK K
  (try simp only [Act.put])
  refine held_op rfl rfl (fun K hK => ?_)
  go_simp
  (go_at_call 26; (with_reducible refine (QS.out W5 _ ?hgx).mono ?_); (case hgx => (repeat (first | with_reducible exact Grow.refl _ | with_reducible refine Grow.alloc ?_ _ | with_reducible refine Grow.drew ?_ | with_reducible refine Grow.drewN ?_ _ | (with_reducible refine Grow.setCell ?_ ?hp _; (case hp => (simp; try omega))) | with_reducible refine Grow.trans ?_ (by assumption)))); (rintro e u6 ⟨B6, c6, rfl, hr6, hb6⟩; have HR6 := Lib.hid hr6; clear hr6))
  (try go_wp2_with fail)
  refine hK.out _ _ ?hSp5 ?_
  case hSp5 => ((try dsimp only); (repeat (first | with_reducible exact Grow.refl _ | with_reducible refine Grow.alloc ?_ _ | with_reducible refine Grow.drew ?_ | with_reducible refine Grow.drewN ?_ _ | (with_reducible refine Grow.setCell ?_ ?hp _; (case hp => (simp; try omega))) | with_reducible refine Grow.trans ?_ (by assumption))))
  clear hK K
  (try simp only [Act.put])
  refine held_quiet (v := ?vp6) rfl rfl (Or.inl ⟨by rfl, ?hyp6⟩) ?_
  case hyp6 => (intro u hu; go_simp; (try with_reducible rfl))
  (try simp only [Act.put])
  refine held_op rfl rfl (fun K hK => ?_)
  go_simp
  (go_at_call 25; (with_reducible refine (SS.out _ _ _ (by (repeat (first | with_reducible exact Grow.refl _ | with_reducible refine Grow.alloc ?_ _ | with_reducible refine Grow.drew ?_ | with_reducible refine Grow.drewN ?_ _ | (with_reducible refine Grow.setCell ?_ ?hp _; (case hp => (simp; try omega))) | with_reducible refine Grow.trans ?_ (by assumption)))) HR6.out).mono ?_); (rintro e u8 ⟨rfl, hb8⟩))
  (try go_wp2_with fail)
  refine hK.out _ _ ?hSp7 ?_
  case hSp7 => ((try dsimp only); (repeat (first | with_reducible exact Grow.refl _ | with_reducible refine Grow.alloc ?_ _ | with_reducible refine Grow.drew ?_ | with_reducible refine Grow.drewN ?_ _ | (with_reducible refine Grow.setCell ?_ ?hp _; (case hp => (simp; try omega))) | with_reducible refine Grow.trans ?_ (by assumption))))
  clear hK K
  (try simp only [Act.put])
  refine held_quiet (v := ?vp8) rfl rfl (Or.inl ⟨by rfl, ?hyp8⟩) ?_
  case hyp8 => (intro u hu; go_simp; (try with_reducible rfl))
  (try simp only [Act.put])
  refine held_quiet (v := ?vp9) rfl rfl (Or.inl ⟨by rfl, ?hyp9⟩) ?_
  case hyp9 => (intro u hu; go_simp; (try with_reducible rfl))
  (try simp only [Act.put])
  refine held_done ?_
  go_wp2_with fail
  go_ret
  exact ⟨rfl, by (repeat (first | with_reducible exact Grow.refl _ | with_reducible refine Grow.alloc ?_ _ | with_reducible refine Grow.drew ?_ | with_reducible refine Grow.drewN ?_ _ | (with_reducible refine Grow.setCell ?_ ?hp _; (case hp => (simp; try omega))) | with_reducible refine Grow.trans ?_ (by assumption)))⟩
end Go.Proofs.YtbpkfcohbefphaaGreat
/- Plain law: class numbers and Hurwitz numbers as the program counts them. -/
namespace Go.Proofs.YtbpkfcohbefphaaGreat

/-- Whether (a, b, c) is listed among the reduced primitive forms of the discriminant -n. -/
def clsB (n a : Nat) (b : Int) : Bool :=
  decide ((b * b + n) % (4 * a) = 0) && (decide ((a : Int) ≤ (b * b + n) / (4 * a)) && !(decide ((b * b + n) / (4 * a) = a) && decide (b < 0))) && decide (Int.gcd (Int.gcd a b) ((b * b + n) / (4 * a)) ≤ 1)
def clsR (n a : Nat) : Nat → Nat
  | 0 => 0
  | i + 1 => clsR n a i + if clsB n a (1 - (a : Int) + i) then 1 else 0
def clsA (n : Nat) : Nat → Nat
  | 0 => 0
  | k + 1 => clsA n k + clsR n (k + 1) (2 * (k + 1))
def clsN (n : Nat) : Nat := clsA n (sqN (n / 3))
/-- Half the number of automorphs. -/
def unN (n : Nat) : Nat := if n = 3 then 3 else if n = 4 then 2 else 1
def posB (n : Nat) : Bool := decide (n % 4 = 0) || decide (n % 4 = 3)
/-- Six times the sum of the weighted class numbers of n/e^2 over e up to k. -/
def hw6 (n : Nat) : Nat → Nat
  | 0 => 0
  | k + 1 => hw6 n k + if n % ((k + 1) * (k + 1)) = 0 ∧ posB (n / ((k + 1) * (k + 1))) = true then 6 / unN (n / ((k + 1) * (k + 1))) * clsN (n / ((k + 1) * (k + 1))) else 0
def hwN (n : Nat) : Nat := hw6 n (sqN n)
theorem clsR_le (n a : Nat) : ∀ i, clsR n a i ≤ i
  | 0 => Nat.le_refl _
  | i + 1 => by
    have h := clsR_le n a i
    unfold clsR
    split <;> omega
theorem clsA_le (n : Nat) : ∀ k, clsA n k ≤ k * (k + 1)
  | 0 => by simp [clsA]
  | k + 1 => by
    have h := clsA_le n k
    have h2 := clsR_le n (k + 1) (2 * (k + 1))
    unfold clsA
    have e : (k + 1) * (k + 1 + 1) = k * (k + 1) + 2 * (k + 1) := by rw [← Nat.add_mul, Nat.mul_comm]
    omega
theorem sq3_le {n : Nat} (hn : n ≤ 4000) : sqN (n / 3) ≤ 36 := sqN_le (by omega) (by omega)
theorem clsN_le {n : Nat} (hn : n ≤ 4000) : clsN n ≤ 1332 := by
  have h := clsA_le n (sqN (n / 3))
  have h2 := sq3_le hn
  exact Nat.le_trans h (Nat.le_trans (Nat.mul_le_mul h2 (Nat.succ_le_succ h2)) (by omega))
theorem sq_le4 {n : Nat} (hn : n ≤ 4000) : sqN n ≤ 63 := sqN_le (by omega) (by omega)
theorem hw6_le {n : Nat} (hn : n ≤ 4000) : ∀ k, hw6 n k ≤ k * 7992
  | 0 => by simp [hw6]
  | k + 1 => by
    have h := hw6_le hn k
    unfold hw6
    split
    · have h2 : clsN (n / ((k + 1) * (k + 1))) ≤ 1332 := clsN_le (Nat.le_trans (Nat.div_le_self _ _) hn)
      have h3 : 6 / unN (n / ((k + 1) * (k + 1))) ≤ 6 := Nat.div_le_self _ _
      have h4 := Nat.mul_le_mul h3 h2
      have h5 : k * 7992 + 6 * 1332 ≤ (k + 1) * 7992 := by rw [Nat.add_mul]; exact Nat.le_refl _
      exact Nat.le_trans (Nat.add_le_add h h4) h5
    · have h5 : k * 7992 ≤ (k + 1) * 7992 := Nat.mul_le_mul_right _ (by omega)
      exact Nat.le_trans h h5
theorem unN_pos (n : Nat) : 0 < unN n := by
  unfold unN
  split
  · omega
  · split <;> omega
theorem unN_le (n : Nat) : unN n ≤ 3 := by
  unfold unN
  split
  · omega
  · split <;> omega
/-- A weighted class number in sixths. -/
theorem wn_six (n : Nat) : (((clsN n : Nat) : Int) : Rat) / (((unN n : Nat) : Int) : Rat) = (((6 / unN n * clsN n : Nat) : Int) : Rat) / ((6 : Int) : Rat) := by
  generalize clsN n = c
  have h : unN n = 1 ∨ unN n = 2 ∨ unN n = 3 := by
    have := unN_pos n
    have := unN_le n
    omega
  rcases h with h | h | h <;> rw [h]
  · have e : ((6 / 1 * c : Nat) : Int) = 6 * (c : Int) := by simp
    rw [e]; simp only [Rat.intCast_mul]; grind
  · have e : ((6 / 2 * c : Nat) : Int) = 3 * (c : Int) := by simp
    rw [e]; simp only [Rat.intCast_mul]; grind
  · have e : ((6 / 3 * c : Nat) : Int) = 2 * (c : Int) := by simp
    rw [e]; simp only [Rat.intCast_mul]; grind
theorem six_add (a b : Nat) : ((a : Int) : Rat) / ((6 : Int) : Rat) + ((b : Int) : Rat) / ((6 : Int) : Rat) = (((a + b : Nat) : Int) : Rat) / ((6 : Int) : Rat) := by
  rw [Int.natCast_add, Rat.intCast_add]; grind
end Go.Proofs.YtbpkfcohbefphaaGreat
/- Plain law: the sum of three squares meets what theta.Expansion asks, and what it counts; Gauss's theorem up to 120 by a table. -/
namespace Go.Proofs.YtbpkfcohbefphaaGreat
open Go Go.RowKit

def tsF : Nat → Int := fun k => if k = 0 then 2 else if k = 4 then 2 else if k = 8 then 2 else 0
def tsM : Nat → Nat → Rat := fun i j => (tsF (i * 3 + j) : Rat)
def tsB (m : Nat) : Nat → Nat := fun _ => sqN m
def tsV (x : Nat → Int) : Int := x 0 * x 0 + x 1 * x 1 + x 2 * x 2
def tsX (m : Nat) : Nat → Nat := fun t => (tsV (dig (tsB m) 3 t)).toNat
theorem tsV_nonneg (x : Nat → Int) : 0 ≤ tsV x := by
  have h0 := sq_nonneg (x 0)
  have h1 := sq_nonneg (x 1)
  have h2 := sq_nonneg (x 2)
  unfold tsV; omega
theorem ts_thc : ThC 3 tsF tsM := by
  refine ⟨?_, ?_, ?_, ?_⟩
  · intro i k hi hk
    rcases (by omega : i = 0 ∨ i = 1 ∨ i = 2) with rfl | rfl | rfl <;> rcases (by omega : k = 0 ∨ k = 1 ∨ k = 2) with rfl | rfl | rfl <;> rfl
  · intro i hi
    rcases (by omega : i = 0 ∨ i = 1 ∨ i = 2) with rfl | rfl | rfl <;> rfl
  · intro i j hj hi
    rcases (by omega : i = 0 ∨ i = 1 ∨ i = 2) with rfl | rfl | rfl <;> rcases (by omega : j = 0 ∨ j = 1 ∨ j = 2) with rfl | rfl | rfl <;> first | omega | (unfold AddB; decide +kernel)
  · intro k hk
    rcases (by omega : k = 0 ∨ k = 1 ∨ k = 2) with rfl | rfl | rfl
    · refine ⟨by decide +kernel, fun r h1 h2 h3 => ?_⟩
      rcases (by omega : r = 1 ∨ r = 2) with rfl | rfl <;> exact absurd (by decide +kernel) h3
    · refine ⟨by decide +kernel, fun r h1 h2 h3 => ?_⟩
      obtain rfl : r = 2 := by omega
      exact absurd (by decide +kernel) h3
    · refine ⟨by decide +kernel, fun r h1 h2 h3 => ?_⟩
      omega
theorem ts_redb : ∀ c, c < 3 → RedB 3 (3 + 3) c (redD 3 c (besU 3 tsM)) (redM 3 c (besU 3 tsM)) := by
  intro c hc
  rcases (by omega : c = 0 ∨ c = 1 ∨ c = 2) with rfl | rfl | rfl
  all_goals
    refine ⟨by decide +kernel, by unfold MulB; decide +kernel, fun i h1 h2 h3 => ?_, fun j h1 h2 h3 => ?_⟩
    · rcases (by omega : i = 0 ∨ i = 1 ∨ i = 2 ∨ i = 3 ∨ i = 4 ∨ i = 5) with rfl | rfl | rfl | rfl | rfl | rfl <;> (unfold QuoB; decide +kernel)
    · rcases (by omega : j = 0 ∨ j = 1 ∨ j = 2) with rfl | rfl | rfl <;> first | exact absurd rfl h2 | exact absurd (by decide +kernel) h3
theorem ts_half (m : Nat) : (((2 * (m : Int) : Int) : Rat) * (1 / 2)).num / ((((2 * (m : Int) : Int) : Rat) * (1 / 2)).den : Int) = (m : Int) := by
  have e : ((2 * (m : Int) : Int) : Rat) * (1 / 2) = ((2 * (m : Int) : Int) : Rat) / ((2 : Int) : Rat) := by
    grind
  rw [e, floor_frac _ (by decide)]; omega
theorem tsB_le {m : Nat} (hm : m ≤ 120) : sqN m ≤ 10 := sqN_le (by omega) (by omega)
/-- What the box counts: every solution, once. -/
def sol3 (b : Nat) (n : Int) : List (Int × Int × Int) := (sym b).flatMap (fun x => (sym b).flatMap (fun y => ((sym b).filter (fun z => decide (x * x + y * y + z * z = n))).map (fun z => (x, y, z))))
theorem mem_sol3 (b : Nat) (n : Int) (p : Int × Int × Int) : p ∈ sol3 b n ↔ (-(b : Int) ≤ p.1 ∧ p.1 ≤ b) ∧ (-(b : Int) ≤ p.2.1 ∧ p.2.1 ≤ b) ∧ (-(b : Int) ≤ p.2.2 ∧ p.2.2 ≤ b) ∧ p.1 * p.1 + p.2.1 * p.2.1 + p.2.2 * p.2.2 = n := by
  obtain ⟨x, y, z⟩ := p
  simp only [sol3, List.mem_flatMap, List.mem_map, List.mem_filter, mem_sym, decide_eq_true_eq, Prod.mk.injEq]
  constructor
  · rintro ⟨x', hx, y', hy, z', ⟨hz, he⟩, rfl, rfl, rfl⟩
    exact ⟨hx, hy, hz, he⟩
  · rintro ⟨hx, hy, hz, he⟩
    exact ⟨x, hx, y, hy, z, ⟨hz, he⟩, rfl, rfl, rfl⟩
theorem sol3_nodup (b : Nat) (n : Int) : (sol3 b n).Nodup := by
  refine nodup_flatMap_tag _ _ (fun p => p.1) (sym_nodup b) (fun x _ => ?_) (fun x p hp => ?_)
  · refine nodup_flatMap_tag _ _ (fun p => p.2.1) (sym_nodup b) (fun y _ => ?_) (fun y p hp => ?_)
    · exact List.pairwise_map.2 (((sym_nodup b).filter _).imp (fun h e => h (by simpa using e)))
    · obtain ⟨z, -, rfl⟩ := List.mem_map.1 hp; rfl
  · obtain ⟨y, -, hp⟩ := List.mem_flatMap.1 hp
    obtain ⟨z, -, rfl⟩ := List.mem_map.1 hp; rfl
theorem sol3_any {b c : Nat} {n : Int} (hb : n < ((b : Int) + 1) * ((b : Int) + 1)) (hc : n < ((c : Int) + 1) * ((c : Int) + 1)) : (sol3 b n).length = (sol3 c n).length := by
  have hh : ∀ (d : Nat) (p : Int × Int × Int), n < ((d : Int) + 1) * ((d : Int) + 1) → p.1 * p.1 + p.2.1 * p.2.1 + p.2.2 * p.2.2 = n → (-(d : Int) ≤ p.1 ∧ p.1 ≤ d) ∧ (-(d : Int) ≤ p.2.1 ∧ p.2.1 ≤ d) ∧ (-(d : Int) ≤ p.2.2 ∧ p.2.2 ≤ d) := by
    intro d p hd he
    have h0 := sq_nonneg p.1
    have h1 := sq_nonneg p.2.1
    have h2 := sq_nonneg p.2.2
    exact ⟨sq_lt_abs (by omega), sq_lt_abs (by omega), sq_lt_abs (by omega)⟩
  have h1 := len_of_sub (sol3 b n) (sol3 c n) (sol3_nodup b n) (fun p hp => by
    have h := (mem_sol3 b n p).1 hp
    have h3 := hh c p hc h.2.2.2
    exact (mem_sol3 c n p).2 ⟨h3.1, h3.2.1, h3.2.2, h.2.2.2⟩)
  have h2 := len_of_sub (sol3 c n) (sol3 b n) (sol3_nodup c n) (fun p hp => by
    have h := (mem_sol3 c n p).1 hp
    have h3 := hh b p hb h.2.2.2
    exact (mem_sol3 b n p).2 ⟨h3.1, h3.2.1, h3.2.2, h.2.2.2⟩)
  omega
theorem ts_hist (b : Nat → Nat) (B : Nat) (hb : ∀ i, i < 3 → b i = B) (n : Int) : hist (fun t => tsV (dig b 3 t)) (boxN b 3) n = (sol3 B n).length := by
  rw [hist_len]
  have hL : (((List.range (boxN b 3)).filter (fun t => decide (tsV (dig b 3 t) = n))).map (fun t => (dig b 3 t 0, dig b 3 t 1, dig b 3 t 2))).length = (sol3 B n).length := by
    have hnd : (((List.range (boxN b 3)).filter (fun t => decide (tsV (dig b 3 t) = n))).map (fun t => (dig b 3 t 0, dig b 3 t 1, dig b 3 t 2))).Nodup := by
      refine List.pairwise_map.2 ?_
      have h2 : ((List.range (boxN b 3)).filter (fun t => decide (tsV (dig b 3 t) = n))).Pairwise (fun t s => t ≠ s ∧ t < boxN b 3 ∧ s < boxN b 3) := by
        refine List.Pairwise.imp_of_mem (R := fun t s => t ≠ s) (fun {t s} ht hs hne => ⟨hne, ?_, ?_⟩) (List.Pairwise.filter _ List.nodup_range)
        · exact List.mem_range.1 (List.mem_filter.1 ht).1
        · exact List.mem_range.1 (List.mem_filter.1 hs).1
      refine h2.imp (fun {t s} h e => h.1 (dig_inj b 3 t s h.2.1 h.2.2 (fun i hi => ?_)))
      simp only [Prod.mk.injEq] at e
      rcases (by omega : i = 0 ∨ i = 1 ∨ i = 2) with rfl | rfl | rfl
      · exact e.1
      · exact e.2.1
      · exact e.2.2
    have hmem : ∀ p, p ∈ (((List.range (boxN b 3)).filter (fun t => decide (tsV (dig b 3 t) = n))).map (fun t => (dig b 3 t 0, dig b 3 t 1, dig b 3 t 2))) ↔ p ∈ sol3 B n := by
      intro p
      rw [mem_sol3, List.mem_map]
      constructor
      · rintro ⟨t, ht, rfl⟩
        have h1 := (List.mem_filter.1 ht).2
        have r0 := dig_range b 3 t 0 (by omega)
        have r1 := dig_range b 3 t 1 (by omega)
        have r2 := dig_range b 3 t 2 (by omega)
        rw [hb 0 (by omega)] at r0
        rw [hb 1 (by omega)] at r1
        rw [hb 2 (by omega)] at r2
        exact ⟨r0, r1, r2, of_decide_eq_true h1⟩
      · rintro ⟨r0, r1, r2, he⟩
        obtain ⟨t, ht, hd⟩ := dig_surj b 3 (fun i => if i = 0 then p.1 else if i = 1 then p.2.1 else p.2.2) (fun i hi => by
          rw [hb i hi]
          rcases (by omega : i = 0 ∨ i = 1 ∨ i = 2) with rfl | rfl | rfl
          · exact r0
          · exact r1
          · exact r2)
        have e0 : dig b 3 t 0 = p.1 := hd 0 (by omega)
        have e1 : dig b 3 t 1 = p.2.1 := hd 1 (by omega)
        have e2 : dig b 3 t 2 = p.2.2 := hd 2 (by omega)
        refine ⟨t, List.mem_filter.2 ⟨List.mem_range.2 ht, ?_⟩, ?_⟩
        · simp only [tsV, e0, e1, e2, decide_eq_true_eq]; exact he
        · rw [e0, e1, e2]
    have h1 := len_of_sub _ _ hnd (fun p hp => (hmem p).1 hp)
    have h2 := len_of_sub _ _ (sol3_nodup B n) (fun p hp => (hmem p).2 hp)
    omega
  rw [← hL, List.length_map]
theorem ts_thh {n : Nat} (hn : n ≤ 120) : ThH 3 9 (n + 1) n (2 * (n : Int)) tsF tsM (fun _ => 1 / 2) (fun _ => n) (tsB n) (tsX n) := by
  have hb := tsB_le hn
  refine ⟨rfl, by omega, by omega, ?_, fun i j => rfl, ts_redb, by omega, by omega, rfl, ?_, ?_, ?_, fun i hi => rfl, ?_, ?_, ?_⟩
  · intro i _
    unfold tsF
    split
    · omega
    · split
      · omega
      · split <;> omega
  · intro i hi
    rcases (by omega : i = 0 ∨ i = 1 ∨ i = 2) with rfl | rfl | rfl <;> decide +kernel
  · intro i hi
    exact (Sm.mono (sm_int (2 * (n : Int))) (show (2 * (n : Int)).natAbs ≤ 240 by omega) (Nat.le_refl _)).mulB (show Sm (1 / 2 : Rat) 1 2 by constructor <;> decide +kernel) (by omega) (by omega)
  · intro i hi
    exact ⟨ts_half n, by omega⟩
  · show 1 * (2 * sqN n + 1) * (2 * sqN n + 1) * (2 * sqN n + 1) ≤ 1048576
    exact Nat.le_trans (Nat.mul_le_mul (Nat.mul_le_mul (show 1 * (2 * sqN n + 1) ≤ 21 by omega) (show 2 * sqN n + 1 ≤ 21 by omega)) (show 2 * sqN n + 1 ≤ 21 by omega)) (by omega)
  · intro t _
    have h1 := tsV_nonneg (dig (tsB n) 3 t)
    have h2 : ((tsX n t : Nat) : Int) = tsV (dig (tsB n) 3 t) := by unfold tsX; omega
    rw [h2]
    generalize dig (tsB n) 3 t = x
    simp only [ssN, psN, tsV, tsF]
    simp
    grind
  · intro _
    rw [hist_cong _ (fun t => tsV (dig (tsB n) 3 t)) _ _ (fun t _ => by
      have := tsV_nonneg (dig (tsB n) 3 t)
      show (((tsV (dig (tsB n) 3 t)).toNat : Nat) : Int) = _
      omega), ts_hist (tsB n) (sqN n) (fun _ _ => rfl)]
    exact List.length_pos_of_mem ((mem_sol3 _ _ (0, 0, 0)).2 ⟨⟨by simp, by simp⟩, ⟨by simp, by simp⟩, ⟨by simp, by simp⟩, by simp⟩)
/-- How often k is a square, for k up to 120. -/
def sq1 (k : Nat) : Nat := if k = 0 then 1 else if k = 1 ∨ k = 4 ∨ k = 9 ∨ k = 16 ∨ k = 25 ∨ k = 36 ∨ k = 49 ∨ k = 64 ∨ k = 81 ∨ k = 100 then 2 else 0
def r3N (n : Nat) : Nat := ((sym 10).map (fun x : Int => ((sym 10).map (fun y : Int => if x * x + y * y ≤ (n : Int) then sq1 ((n : Int) - x * x - y * y).toNat else 0)).sum)).sum
theorem sq1_len : ∀ k : Nat, k < 121 → ((sym 10).filter (fun z => decide (z * z = (k : Int)))).length = sq1 k := by decide +kernel
theorem sol3_gen (S : List Int) {n : Nat} (hn : n ≤ 120) (hs : ∀ k : Nat, k < 121 → (S.filter (fun z => decide (z * z = (k : Int)))).length = sq1 k) :
    (S.flatMap (fun x => S.flatMap (fun y => (S.filter (fun z => decide (x * x + y * y + z * z = (n : Int)))).map (fun z => (x, y, z))))).length = (S.map (fun x : Int => (S.map (fun y : Int => if x * x + y * y ≤ (n : Int) then sq1 ((n : Int) - x * x - y * y).toNat else 0)).sum)).sum := by
  rw [List.length_flatMap]
  congr 1
  refine List.map_congr_left (fun x _ => ?_)
  rw [List.length_flatMap]
  congr 1
  refine List.map_congr_left (fun y _ => ?_)
  rw [List.length_map]
  by_cases h : x * x + y * y ≤ (n : Int)
  · rw [if_pos h]
    obtain ⟨k, hk⟩ : ∃ k : Nat, (k : Int) = (n : Int) - x * x - y * y := ⟨((n : Int) - x * x - y * y).toNat, by omega⟩
    have hx := sq_nonneg x
    have hy := sq_nonneg y
    rw [← hk, Int.toNat_natCast, ← hs k (by omega)]
    congr 1
    refine List.filter_congr (fun z _ => ?_)
    simp only [decide_eq_decide]
    omega
  · rw [if_neg h]
    refine List.length_eq_zero_iff.2 (List.filter_eq_nil_iff.2 (fun z _ => ?_))
    have hz := sq_nonneg z
    simp only [decide_eq_true_eq]
    omega
theorem sol3_len {n : Nat} (hn : n ≤ 120) : (sol3 10 n).length = r3N n := sol3_gen (sym 10) hn sq1_len
theorem gauss_table : ∀ n : Nat, n < 121 → n = 0 ∨ r3N n + 4 * hwN n = 2 * hwN (4 * n) := by decide +kernel
/-- Gauss: the box's count in Hurwitz numbers. -/
theorem gauss3 {n : Nat} (h1 : 1 ≤ n) (hn : n ≤ 120) : hist (fun t => (tsX n t : Int)) (boxN (tsB n) 3) (n : Int) + 4 * hwN n = 2 * hwN (4 * n) := by
  have h2 := (sqN_spec (n := n) (by omega)).2
  rw [hist_cong _ (fun t => tsV (dig (tsB n) 3 t)) _ _ (fun t _ => by
    have := tsV_nonneg (dig (tsB n) 3 t)
    show (((tsV (dig (tsB n) 3 t)).toNat : Nat) : Int) = _
    omega), ts_hist (tsB n) (sqN n) (fun _ _ => rfl), sol3_any (c := 10) (by exact_mod_cast h2) (by omega), sol3_len hn]
  rcases gauss_table n (by omega) with h | h
  · omega
  · exact h
end Go.Proofs.YtbpkfcohbefphaaGreat
/- Walk: arith.Gcd. -/
namespace Go.Proofs.YtbpkfcohbefphaaGreat
open Go Go.RowKit

theorem gcW_step (x y : Int) : Int.gcd y (x.tmod y) = Int.gcd x y := by
  simp only [Int.gcd, Int.natAbs_tmod]
  rw [Nat.gcd_comm x.natAbs y.natAbs, Nat.gcd_rec y.natAbs x.natAbs, Nat.gcd_comm]
theorem tmW_lt (x y : Int) (h : y ≠ 0) : (x.tmod y).natAbs < y.natAbs := by
  rw [Int.natAbs_tmod]
  exact Nat.mod_lt _ (by omega)
theorem tmW_bd (x y : Int) (h : y ≠ 0) (B : Int) (h1 : -B ≤ y) (h2 : y ≤ B) : -B ≤ x.tmod y ∧ x.tmod y ≤ B := by
  have := tmW_lt x y h
  omega

set_option maxHeartbeats 1000000 in
theorem gcW_quiet (a b : Int) (ha : -4611686018427387904 ≤ a) (ha' : a ≤ 4611686018427387904) (hb : -4611686018427387904 ≤ b) (hb' : b ≤ 4611686018427387904) (w : World) :
    Calls Tryz.prog 46 #[.int .i64 a, .int .i64 b] w fun e w' => e = .returned (.int .i64 (Int.gcd a b)) ∧ ∃ n, w' = w.drewN n := by
  go_enter Tryz.func46, Tryz.ntmps46
  go_wp2
  go_loopw [0, 1] (fun u v wr => ∃ x y : Int, u = .int .i64 x ∧ v = .int .i64 y ∧ -4611686018427387904 ≤ x ∧ x ≤ 4611686018427387904 ∧ -4611686018427387904 ≤ y ∧ y ≤ 4611686018427387904 ∧ Hid (Int.gcd x y = Int.gcd a b) ∧ ∃ n, wr = w.drewN n) (fun _ v _ => (intOf v).natAbs)
  case atStart => exact ⟨a, b, rfl, rfl, ha, ha', hb, hb', rfl, 0, rfl⟩
  case round =>
    obtain ⟨x, y, rfl, rfl, h1, h2, h3, h4, hg, n, rfl⟩ := hrel
    by_cases hy : y = 0
    · subst hy
      have hx : (x.natAbs : Int) = Int.gcd a b := by rw [← hg.out]; simp
      have HX := Lib.hid hx
      clear hx
      go_wp2
      all_goals
        go_ret
        exact ⟨congrArg (fun z => Ending.returned (Value.int .i64 z)) (by rw [← HX.out]; omega), _, rfl⟩
    · have hy1 : (y == 0) = false := by simpa using hy
      have hy2 : (y != 0) = true := by simpa using hy
      have hr := gcW_step x y
      have hl := tmW_lt x y hy
      obtain ⟨t1, t2⟩ := tmW_bd x y hy 4611686018427387904 h3 h4
      have HR := Lib.hid hr
      clear hr
      go_wp2
      go_quiet (fail)
      go_wp2
      go_roundw
      case rel => exact ⟨y, x.tmod y, rfl, rfl, h3, h4, t1, t2, HR.out.trans hg.out, n + nq, by rw [World.drewN_drewN]⟩
      case measure => simp only [intOf]; exact hl
theorem gcW_any (a b : Int) (ha : -4611686018427387904 ≤ a) (ha' : a ≤ 4611686018427387904) (hb : -4611686018427387904 ≤ b) (hb' : b ≤ 4611686018427387904) (w : World) :
    Calls Tryz.prog 46 #[.int .i64 a, .int .i64 b] w fun e w' => e = .returned (.int .i64 (Int.gcd a b)) ∧ Grow w w' :=
  (gcW_quiet a b ha ha' hb hb' w).mono fun _ _ ⟨he, n, hn⟩ => ⟨he, by rw [hn]; exact (Grow.refl _).drewN n⟩

end Go.Proofs.YtbpkfcohbefphaaGreat
/- Walks of quadform: possible, units, content, classes. -/
namespace Go.Proofs.YtbpkfcohbefphaaGreat
open Go Go.RowKit

set_option maxRecDepth 20000 in
set_option maxHeartbeats 8000000 in
theorem possQ (n : Nat) (d : Int) (hd : d = -(n : Int)) (h1 : 1 ≤ n) (h2 : n ≤ 4000) (w : World) :
    Calls Tryz.prog 70 #[.int .i64 d] w fun e w' => e = .returned (.int .i64 (if posB n = true then 0 else 15)) ∧ w = w' := by
  have y1 : decide (d < -4000) = false := by simp; omega
  have y2 : decide (d > -1) = false := by simp; omega
  have E1 : Hid (IntKind.i64.wrap (-d) = (n : Int) ∧ wrap64 (-d) = (n : Int)) := Lib.hid (by rw [hd, Int.neg_neg]; exact w64n (by omega))
  have E2 : Hid (Int.tmod (n : Int) 4 = ((n % 4 : Nat) : Int)) := Lib.hid (by rw [Int.natCast_emod]; exact Int.tmod_eq_emod_of_nonneg (by omega))
  obtain ⟨x, hx⟩ : ∃ x : Int, (if posB n = true then (0 : Int) else 15) = x := ⟨_, rfl⟩
  have hc : (n % 4 = 1 ∧ x = 15) ∨ (n % 4 = 2 ∧ x = 15) ∨ (n % 4 = 0 ∧ x = 0) ∨ (n % 4 = 3 ∧ x = 0) := by
    rw [← hx]; unfold posB
    rcases (by omega : n % 4 = 0 ∨ n % 4 = 1 ∨ n % 4 = 2 ∨ n % 4 = 3) with h | h | h | h <;> simp [h]
  rw [hx]
  clear hx hd
  rcases hc with ⟨hr, rfl⟩ | ⟨hr, rfl⟩ | ⟨hr, rfl⟩ | ⟨hr, rfl⟩
  all_goals
    rw [hr] at E2
    clear hr
    have e2 := E2.out
    obtain ⟨e1, e3⟩ := E1.out
    go_enter Tryz.func70, Tryz.ntmps70
    go_wp2_with fail
    go_ret
    exact ⟨rfl, rfl⟩
set_option maxRecDepth 20000 in
set_option maxHeartbeats 8000000 in
theorem unitsHQ (n : Nat) (d : Int) (hd : d = -(n : Int)) (w : World) :
    Calls Tryz.prog 72 #[.int .i64 d] w fun e w' => e = .returned (.int .i64 (2 * (unN n : Int))) ∧ w = w' := by
  by_cases h3 : n = 3
  · subst h3
    subst hd
    go_enter Tryz.func72, Tryz.ntmps72
    go_wp2_with fail
    go_ret
    exact ⟨rfl, rfl⟩
  · by_cases h4 : n = 4
    · subst h4
      subst hd
      go_enter Tryz.func72, Tryz.ntmps72
      go_wp2_with fail
      go_ret
      exact ⟨rfl, rfl⟩
    · have e : (unN n : Int) = 1 := by simp [unN, h3, h4]
      rw [e]
      have y1 : (d == -3) = false := by simp; omega
      have y2 : (d == -4) = false := by simp; omega
      clear hd e
      go_enter Tryz.func72, Tryz.ntmps72
      go_wp2_with fail
      go_ret
      exact ⟨rfl, rfl⟩
set_option maxRecDepth 20000 in
set_option maxHeartbeats 8000000 in
theorem contentQ (a b c : Int) (ha : a.natAbs ≤ 1000000) (hb : b.natAbs ≤ 1000000) (hc : c.natAbs ≤ 1000000) (w : World) :
    Calls Tryz.prog 100 #[.agg #[.int .i64 a, .int .i64 b, .int .i64 c]] w fun e w' => e = .returned (.int .i64 (Int.gcd (Int.gcd a b) c)) ∧ Grow w w' := by
  have G1 := Lib.hid (fun u => gcW_any a b (by omega) (by omega) (by omega) (by omega) u)
  obtain ⟨g, hg⟩ : ∃ g, Int.gcd a b = g := ⟨_, rfl⟩
  have hgb : g ≤ 1000000 := by
    rw [← hg]
    rcases Nat.eq_zero_or_pos (a.natAbs) with h0 | h0
    · have : a = 0 := by omega
      rw [this, Int.gcd_zero_left]; exact hb
    · exact Nat.le_trans (Nat.le_of_dvd h0 (Int.gcd_dvd_natAbs_left a b)) ha
  rw [hg] at G1 ⊢
  have G2 := Lib.hid (fun u => gcW_any (g : Int) c (by omega) (by omega) (by omega) (by omega) u)
  obtain ⟨W1, hW1⟩ : ∃ W1 : World, W1 = w.alloc (.cells #[.int .i64 a, .int .i64 b, .int .i64 c] 141) := ⟨_, rfl⟩
  have hg1 := ag hW1
  have K1 := Lib.hid (ak3 hW1)
  have HW1 := Lib.hid hW1
  clear hW1 hg
  go_enter Tryz.func100, Tryz.ntmps100
  go_upto_region 1 with fail
  rw [← HW1.out]
  refine region_held (id := 1) (fun u => Grow W1 u) [0, 1, 2, 3, 5, 6, 4, 7, 8] (kdL [0, 1, 0, 1, 2, 0, 1, 2, 0]) (by kernel_rfl) (by kernel_rfl) (fun t ht => kdL_lt _ t ht) ?hS0p ?_
  case hS0p => ((try dsimp only); (repeat (first | with_reducible exact Grow.refl _ | with_reducible refine Grow.alloc ?_ _ | with_reducible refine Grow.drew ?_ | with_reducible refine Grow.drewN ?_ _ | (with_reducible refine Grow.setCell ?_ ?hp _; (case hp => (simp; try omega))) | with_reducible refine Grow.trans ?_ (by assumption))))
  refine held_quiet (v := ?vp0) rfl rfl (Or.inl ⟨by rfl, ?hyp0⟩) ?_
  case hyp0 => (intro u hu; go_simp; (try with_reducible rfl))
  (try simp only [Act.put, List.setIfInBounds_toArray, List.set_cons_zero, List.set_cons_succ])
  refine held_read (v := ?vp1) rfl rfl (Or.inl ⟨by rfl, ?hyp1⟩) ?_
  case hyp1 => (intro u hu; obtain ⟨f0, f1, f2, f3, f4⟩ := K1.out u hu; go_simp; (try with_reducible rfl))
  (try simp only [Act.put, List.setIfInBounds_toArray, List.set_cons_zero, List.set_cons_succ])
  refine held_quiet (v := ?vp2) rfl rfl (Or.inl ⟨by rfl, ?hyp2⟩) ?_
  case hyp2 => (intro u hu; go_simp; (try with_reducible rfl))
  (try simp only [Act.put, List.setIfInBounds_toArray, List.set_cons_zero, List.set_cons_succ])
  refine held_read (v := ?vp3) rfl rfl (Or.inl ⟨by rfl, ?hyp3⟩) ?_
  case hyp3 => (intro u hu; obtain ⟨f0, f1, f2, f3, f4⟩ := K1.out u hu; go_simp; (try with_reducible rfl))
  (try simp only [Act.put, List.setIfInBounds_toArray, List.set_cons_zero, List.set_cons_succ])
  refine held_quiet (v := ?vp5) rfl rfl (Or.inl ⟨by rfl, ?hyp5⟩) ?_
  case hyp5 => (intro u hu; go_simp; (try with_reducible rfl))
  (try simp only [Act.put, List.setIfInBounds_toArray, List.set_cons_zero, List.set_cons_succ])
  refine held_read (v := ?vp6) rfl rfl (Or.inl ⟨by rfl, ?hyp6⟩) ?_
  case hyp6 => (intro u hu; obtain ⟨f0, f1, f2, f3, f4⟩ := K1.out u hu; go_simp; (try with_reducible rfl))
  (try simp only [Act.put, List.setIfInBounds_toArray, List.set_cons_zero, List.set_cons_succ])
  refine held_op rfl rfl (fun K hK => ?_)
  go_simp
  (go_at_call 46; (with_reducible refine (G1.out _).mono ?_); (rintro e u4 ⟨rfl, hb4⟩))
  (try go_wp2_with fail)
  refine hK.out _ _ ?hSp4 ?_
  case hSp4 => ((try dsimp only); (repeat (first | with_reducible exact Grow.refl _ | with_reducible refine Grow.alloc ?_ _ | with_reducible refine Grow.drew ?_ | with_reducible refine Grow.drewN ?_ _ | (with_reducible refine Grow.setCell ?_ ?hp _; (case hp => (simp; try omega))) | with_reducible refine Grow.trans ?_ (by assumption))))
  clear hK K
  (try simp only [Act.put, List.setIfInBounds_toArray, List.set_cons_zero, List.set_cons_succ])
  refine held_op rfl rfl (fun K hK => ?_)
  go_simp
  (go_at_call 46; (with_reducible refine (G2.out _).mono ?_); (rintro e u7 ⟨rfl, hb7⟩))
  (try go_wp2_with fail)
  refine hK.out _ _ ?hSp7 ?_
  case hSp7 => ((try dsimp only); (repeat (first | with_reducible exact Grow.refl _ | with_reducible refine Grow.alloc ?_ _ | with_reducible refine Grow.drew ?_ | with_reducible refine Grow.drewN ?_ _ | (with_reducible refine Grow.setCell ?_ ?hp _; (case hp => (simp; try omega))) | with_reducible refine Grow.trans ?_ (by assumption))))
  clear hK K
  (try simp only [Act.put, List.setIfInBounds_toArray, List.set_cons_zero, List.set_cons_succ])
  refine held_quiet (v := ?vp8) rfl rfl (Or.inl ⟨by rfl, ?hyp8⟩) ?_
  case hyp8 => (intro u hu; go_simp; (try with_reducible rfl))
  (try simp only [Act.put, List.setIfInBounds_toArray, List.set_cons_zero, List.set_cons_succ])
  refine held_done ?_
  go_wp2_with fail
  go_ret
  exact ⟨rfl, by (repeat (first | with_reducible exact Grow.refl _ | with_reducible refine Grow.alloc ?_ _ | with_reducible refine Grow.drew ?_ | with_reducible refine Grow.drewN ?_ _ | (with_reducible refine Grow.setCell ?_ ?hp _; (case hp => (simp; try omega))) | with_reducible refine Grow.trans ?_ (by assumption)))⟩
theorem infoQF : (Tryz.prog.info? 141).map (fun i => (i.zero, i.size, i.bytes)) = some (some (.agg #[.int .i64 0, .int .i64 0, .int .i64 0]), 3, 24) := by kernel_rfl
theorem qf_news (u : World) (a b c : Int) (ty : TypeId) : ∀ j x, [Value.int .i64 a, .int .i64 b, .int .i64 c][j]? = some x → (u.alloc (.cells #[.int .i64 a, .int .i64 b, .int .i64 c] ty)).cell? ((⟨u.heap.size, 0, none⟩ : Addr).add j) = some x := by
  intro j x hj
  rw [Addr.add_lit, Nat.zero_add, World.cell?_alloc_at _ _ _ _ rfl]
  match j, hj with
  | 0, hj => simpa using hj
  | 1, hj => simpa using hj
  | 2, hj => simpa using hj
theorem qf_one (a b c : Int) : ∀ x ∈ [Value.int .i64 a, .int .i64 b, .int .i64 c], x.oneCell' = true := by
  intro x hx; simp at hx; rcases hx with rfl | rfl | rfl <;> rfl
theorem qf_nu (a b c : Int) : ∀ x ∈ [Value.int .i64 a, .int .i64 b, .int .i64 c], NU x := by
  intro x hx; simp at hx; rcases hx with rfl | rfl | rfl <;> exact nu_int _
theorem qf_zero_nu : ∀ u ∈ (Value.agg #[.int .i64 0, .int .i64 0, .int .i64 0]).cells.toList, NU u := by
  intro u hu; simp [Value.cells] at hu; subst hu; exact nu_int _
end Go.Proofs.YtbpkfcohbefphaaGreat
