/- Lemmas, plain laws and walks that the statement LwThreeSquares leans on (texts RwD, RwE, RwF, RwG), conditions as each theorem says. -/
import Derived.OwnWalk
import Derived.Laws.OwnMore
import Derived.Test.YtbpkfcohbefphaaGreatTopThreeSquaresG08

/- Walks over rows of fractions: combine, divide. -/
namespace Go.Proofs.YtbpkfcohbefphaaGreat
open Go Go.RowKit
/-- The product of two fractions stays in one digit. -/
def MulB (x y : Rat) : Prop := (x.num * y.num).natAbs < 4294967296 ∧ ((x.den : Int) * (y.den : Int)).natAbs < 4294967296
set_option maxRecDepth 20000 in
set_option maxHeartbeats 8000000 in
theorem combineQ (f : Rat) (vf : Value) (Ba oa ma ca Bb ob mb cb fr : Nat) (ra rb : Nat → Rat) (hne : Ba ≠ Bb) (hfr : fr ≤ mb) (hm : mb ≤ ma) (hbig : mb ≤ 1000000)
    (hbd : ∀ j, fr ≤ j → j < mb → rb j ≠ 0 → MulB f (rb j) ∧ AddB (ra j) (f * rb j)) (w : World) (hf : RatR w vf f) (hA : RowQ w Ba oa ma ra) (hB : RowQ w Bb ob mb rb) :
    Calls Tryz.prog 150 #[.slice (some ⟨Ba, oa, none⟩) ma ca, .slice (some ⟨Bb, ob, none⟩) mb cb, vf, .int .i64 (fr : Int)] w fun e w' =>
      e = .returned (.tuple #[]) ∧ But (fun b => b = Ba) w w' ∧ RowQ w' Ba oa ma (fun i => if fr ≤ i ∧ i < mb then ra i + f * rb i else ra i) := by
  obtain ⟨s1, a1, l1, c1, t1, b1, k1, e1, rfl⟩ := hf.form
  have HF := Lib.hid hf
  have HA := Lib.hid hA
  have HB := Lib.hid hB
  have HBD := Lib.hid hbd
  have hzA := hA.lt
  have hzB := hB.lt
  clear hf hA hB hbd
  obtain ⟨W1, hW1⟩ : ∃ W1 : World, W1 = w.alloc (.cells #[.bool s1, .slice a1 l1 c1, .bool t1, .slice b1 k1 e1] 36) := ⟨_, rfl⟩
  have g1 : Grow w W1 := by rw [hW1]; (repeat (first | with_reducible exact Grow.refl _ | with_reducible refine Grow.alloc ?_ _ | with_reducible refine Grow.drew ?_ | with_reducible refine Grow.drewN ?_ _ | (with_reducible refine Grow.setCell ?_ ?hp _; (case hp => (simp; try omega))) | with_reducible refine Grow.trans ?_ (by assumption)))
  have hz1 : W1.heap.size = w.heap.size + 1 := by rw [hW1]; simp
  have c0 : ∀ u : World, But (fun b => b = Ba) W1 u → u.cell? ⟨w.heap.size, 0, none⟩ = some (.bool s1) ∧ u.cell? ⟨w.heap.size, 1, none⟩ = some (.slice a1 l1 c1) ∧ u.cell? ⟨w.heap.size, 2, none⟩ = some (.bool t1) ∧ u.cell? ⟨w.heap.size, 3, none⟩ = some (.slice b1 k1 e1) := by
    intro u hg
    refine ⟨?_, ?_, ?_, ?_⟩ <;> (refine (hg.cells _ _ (by omega) (by omega)).trans ?_; rw [hW1]; go_simp)
  have C0 := Lib.hid c0
  have HW1 := Lib.hid hW1
  have G1 := Lib.hid g1
  have HZ1 := Lib.hid hz1
  clear c0 hW1 g1 hz1
  go_enter Tryz.func150, Tryz.ntmps150
  go_wp2_with fail
  go_loopg [8] (mb - fr) (fun gk t8 wr => ∃ j : Nat, t8 = .int .i64 (j : Int) ∧ fr ≤ j ∧ j ≤ mb ∧ Hid (gk = mb - j) ∧ Hid (But (fun b => b = Ba) W1 wr) ∧ Hid (RowQ wr Ba oa ma (fun i => if fr ≤ i ∧ i < j then ra i + f * rb i else ra i)))
  case atStart =>
    refine ⟨fr, rfl, Nat.le_refl _, hfr, Lib.hid rfl, Lib.hid (by rw [HW1.out]; exact But.refl _ _), Lib.hid ?_⟩
    exact RowQ.cong (RowP.grow (w' := w.alloc (.cells #[.bool s1, .slice a1 l1 c1, .bool t1, .slice b1 k1 e1] 36)) HA.out (by (repeat (first | with_reducible exact Grow.refl _ | with_reducible refine Grow.alloc ?_ _ | with_reducible refine Grow.drew ?_ | with_reducible refine Grow.drewN ?_ _ | (with_reducible refine Grow.setCell ?_ ?hp _; (case hp => (simp; try omega))) | with_reducible refine Grow.trans ?_ (by assumption))))) (fun i _ => by rw [if_neg (by omega)])
  case round =>
    obtain ⟨j, rfl, hj1, hj2, HGK, HBT, HRA⟩ := hrel
    have hbx := C0.out wr HBT.out
    obtain ⟨f0_0, f1_0, f2_0, f3_0⟩ := hbx
    have hzr : w.heap.size + 1 ≤ wr.heap.size := by have := HBT.out.size; rw [HZ1.out] at this; exact this
    by_cases hjm : j = mb
    · have y1 : decide ((j : Int) < (mb : Int)) = false := by simp; omega
      subst hjm
      go_wp2_with fail
      ((try simp only [Exit.inBlock, Exit.then]); refine bodyPost_end (results_none rfl _ _ _) rfl ?_)
      exact ⟨rfl, (G1.out.but _).trans HBT.out, HRA.out⟩
    · have y0 : (0 : Int) ≤ (j : Int) := by omega
      have y1 : (j : Int) < (mb : Int) := by omega
      have y2 : (j : Int) < (ma : Int) := by omega
      have hgB : But (fun b => b = Ba) w wr := (G1.out.but _).trans HBT.out
      have HRB := Lib.hid (RowP.but HB.out (by intro e; exact hne e.symm) hgB)
      obtain ⟨s2, a2, l2, c2, t2, b2, k2, e2, ⟨p0, p1, p2, p3⟩, hvb⟩ := RowQ.at4 HRB.out (show j < mb by omega)
      obtain ⟨s3, a3, l3, c3, t3, b3, k3, e3, ⟨q0, q1, q2, q3⟩, hva⟩ := RowQ.at4 HRA.out (show j < ma by omega)
      rw [if_neg (by omega)] at hva
      have hlA := HRA.out.lt
      have hlB := HRB.out.lt
      have hfA := HRA.out.free
      have HVF := Lib.hid ((HF.out.grow G1.out).but HBT.out)
      have d0 : ∀ u : World, Grow wr u → u.cell? ⟨w.heap.size, 0, none⟩ = some (.bool s1) ∧ u.cell? ⟨w.heap.size, 1, none⟩ = some (.slice a1 l1 c1) ∧ u.cell? ⟨w.heap.size, 2, none⟩ = some (.bool t1) ∧ u.cell? ⟨w.heap.size, 3, none⟩ = some (.slice b1 k1 e1) ∧ u.cell? ⟨Ba, oa + j * 4, none⟩ = some (.bool s3) ∧ u.cell? ⟨Ba, oa + j * 4 + 1, none⟩ = some (.slice a3 l3 c3) ∧ u.cell? ⟨Ba, oa + j * 4 + 2, none⟩ = some (.bool t3) ∧ u.cell? ⟨Ba, oa + j * 4 + 3, none⟩ = some (.slice b3 k3 e3) ∧ u.cell? ⟨Bb, ob + j * 4, none⟩ = some (.bool s2) ∧ u.cell? ⟨Bb, ob + j * 4 + 1, none⟩ = some (.slice a2 l2 c2) ∧ u.cell? ⟨Bb, ob + j * 4 + 2, none⟩ = some (.bool t2) ∧ u.cell? ⟨Bb, ob + j * 4 + 3, none⟩ = some (.slice b2 k2 e2) ∧ (∀ o, u.frozen? ⟨Ba, o, none⟩ = false) ∧ Ba < u.heap.size := by
        intro u hg
        have hzu := hg.size
        refine ⟨?_, ?_, ?_, ?_, ?_, ?_, ?_, ?_, ?_, ?_, ?_, ?_, fun o => (hg.frees _ _ hlA).trans (hfA o), by omega⟩
        · exact (hg.cells _ _ (by omega)).trans f0_0
        · exact (hg.cells _ _ (by omega)).trans f1_0
        · exact (hg.cells _ _ (by omega)).trans f2_0
        · exact (hg.cells _ _ (by omega)).trans f3_0
        · exact (hg.cells _ _ hlA).trans q0
        · exact (hg.cells _ _ hlA).trans q1
        · exact (hg.cells _ _ hlA).trans q2
        · exact (hg.cells _ _ hlA).trans q3
        · exact (hg.cells _ _ hlB).trans p0
        · exact (hg.cells _ _ hlB).trans p1
        · exact (hg.cells _ _ hlB).trans p2
        · exact (hg.cells _ _ hlB).trans p3
      have D0 := Lib.hid d0
      clear d0
      have NZ := Lib.hid (fun u hu => nonzeroQ (rb j) _ u (hvb.grow hu))
      have HST := Lib.hid (fun (u : World) (hu : Grow wr u) (s : Bool) (a : Option Addr) (l c : Nat) (t : Bool) (b : Option Addr) (k e : Nat) (hx : RatR u (.agg #[.bool s, .slice a l c, .bool t, .slice b k e]) (ra j + f * rb j)) => And.intro (But.st4 (HBT.out.grow hu) (.inr rfl) (RowP.q4 (RowP.grow HRA.out hu) (show j < ma by omega)) s a l c t b k e) (RowQ.set (RowP.grow HRA.out hu) (show j < ma by omega) hx))
      clear hfA
      go_upto_block 1 with fail
      go_cut [] (fun wx => Hid (But (fun b => b = Ba) W1 wx) ∧ Hid (RowQ wx Ba oa ma (fun i => if fr ≤ i ∧ i < j + 1 then ra i + f * rb i else ra i)))
      case first =>
        by_cases hz : rb j = 0
        · rw [decide_eq_false (show ¬ rb j ≠ 0 by simpa using hz)] at NZ
          go_wp2_with (go_at_call 96; (with_reducible refine (NZ.out _ (by (repeat (first | with_reducible exact Grow.refl _ | with_reducible refine Grow.alloc ?_ _ | with_reducible refine Grow.drew ?_ | with_reducible refine Grow.drewN ?_ _ | (with_reducible refine Grow.setCell ?_ ?hp _; (case hp => (simp; try omega))) | with_reducible refine Grow.trans ?_ (by assumption))))).mono ?_); (rintro e u4 ⟨rfl, hb4⟩))
          go_meet
          refine ⟨Lib.hid (HBT.out.grow (by (repeat (first | with_reducible exact Grow.refl _ | with_reducible refine Grow.alloc ?_ _ | with_reducible refine Grow.drew ?_ | with_reducible refine Grow.drewN ?_ _ | (with_reducible refine Grow.setCell ?_ ?hp _; (case hp => (simp; try omega))) | with_reducible refine Grow.trans ?_ (by assumption))))), Lib.hid ((RowP.grow HRA.out (by (repeat (first | with_reducible exact Grow.refl _ | with_reducible refine Grow.alloc ?_ _ | with_reducible refine Grow.drew ?_ | with_reducible refine Grow.drewN ?_ _ | (with_reducible refine Grow.setCell ?_ ?hp _; (case hp => (simp; try omega))) | with_reducible refine Grow.trans ?_ (by assumption))))).mono (Nat.le_refl _) ?_)⟩
          intro i x hi hx
          rw [← hx]
          congr 1
          dsimp only
          by_cases hij : i = j
          · subst hij; rw [if_neg (by omega), if_pos (by omega), hz, Rat.mul_zero, Rat.add_zero]
          · by_cases h3 : fr ≤ i ∧ i < j
            · rw [if_pos h3, if_pos (by omega)]
            · rw [if_neg h3, if_neg (by omega)]
        · rw [decide_eq_true (show rb j ≠ 0 from hz)] at NZ
          obtain ⟨⟨hn, hd⟩, hab⟩ := HBD.out j hj1 (by omega) hz
          have ML := Lib.hid (fun u hu => mulQ f (rb j) _ _ hn hd u (HVF.out.grow hu) (hvb.grow hu))
          have AD := Lib.hid (fun u v hv hu => addQ (ra j) (f * rb j) _ v hab u (hva.grow hu) hv)
          clear hn hd hab hva hvb
          go_upto_region 5 with (go_at_call 96; (with_reducible refine (NZ.out _ (by (repeat (first | with_reducible exact Grow.refl _ | with_reducible refine Grow.alloc ?_ _ | with_reducible refine Grow.drew ?_ | with_reducible refine Grow.drewN ?_ _ | (with_reducible refine Grow.setCell ?_ ?hp _; (case hp => (simp; try omega))) | with_reducible refine Grow.trans ?_ (by assumption))))).mono ?_); (rintro e u4 ⟨rfl, hb4⟩; obtain ⟨f0_4, f1_4, f2_4, f3_4, f4_4, f5_4, f6_4, f7_4, f8_4, f9_4, f10_4, f11_4, df4, dz4⟩ := D0.out u4 (by (repeat (first | with_reducible exact Grow.refl _ | with_reducible refine Grow.alloc ?_ _ | with_reducible refine Grow.drew ?_ | with_reducible refine Grow.drewN ?_ _ | (with_reducible refine Grow.setCell ?_ ?hp _; (case hp => (simp; try omega))) | with_reducible refine Grow.trans ?_ (by assumption))))))
          refine region_held (id := 5) (fun u => Grow wr u) [0, 1, 2, 3, 4, 5, 6, 7, 8, 9, 10, 11, 12, 13, 14] (kdL [0, 0, 0, 0, 0, 1, 1, 0, 0, 0, 1, 2, 2, 0, 3]) (by kernel_rfl) (by kernel_rfl) (fun t ht => kdL_lt _ t ht) ?hS0p ?_
          case hS0p => ((try dsimp only); (repeat (first | with_reducible exact Grow.refl _ | with_reducible refine Grow.alloc ?_ _ | with_reducible refine Grow.drew ?_ | with_reducible refine Grow.drewN ?_ _ | (with_reducible refine Grow.setCell ?_ ?hp _; (case hp => (simp; try omega))) | with_reducible refine Grow.trans ?_ (by assumption))))
          refine held_quiet (v := ?vp0) rfl rfl (Or.inl ⟨by rfl, ?hyp0⟩) ?_
          case hyp0 => (intro u hu; go_simp; (try with_reducible rfl))
          (try simp only [Act.put, List.setIfInBounds_toArray])
          refine held_quiet (v := ?vp1) rfl rfl (Or.inl ⟨by rfl, ?hyp1⟩) ?_
          case hyp1 => (intro u hu; go_simp; (try with_reducible rfl))
          (try simp only [Act.put])
          refine held_quiet (v := ?vp2) rfl rfl (Or.inl ⟨by rfl, ?hyp2⟩) ?_
          case hyp2 => (intro u hu; go_simp; (try with_reducible rfl))
          (try simp only [Act.put])
          refine held_quiet (v := ?vp3) rfl rfl (Or.inl ⟨by rfl, ?hyp3⟩) ?_
          case hyp3 => (intro u hu; go_simp; (try with_reducible rfl))
          (try simp only [Act.put])
          refine held_quiet (v := ?vp4) rfl rfl (Or.inl ⟨by rfl, ?hyp4⟩) ?_
          case hyp4 => (intro u hu; go_simp; (try with_reducible rfl))
          (try simp only [Act.put])
          refine held_read (v := ?vp5) rfl rfl (Or.inl ⟨by rfl, ?hyp5⟩) ?_
          case hyp5 => (intro u hu; obtain ⟨f0, f1, f2, f3, f4, f5, f6, f7, f8, f9, f10, f11, df, dz⟩ := D0.out u hu; go_simp; (try with_reducible rfl))
          (try simp only [Act.put])
          refine held_read (v := ?vp6) rfl rfl (Or.inl ⟨by rfl, ?hyp6⟩) ?_
          case hyp6 => (intro u hu; obtain ⟨f0, f1, f2, f3, f4, f5, f6, f7, f8, f9, f10, f11, df, dz⟩ := D0.out u hu; go_simp; (try with_reducible rfl))
          (try simp only [Act.put])
          refine held_quiet (v := ?vp7) rfl rfl (Or.inl ⟨by rfl, ?hyp7⟩) ?_
          case hyp7 => (intro u hu; go_simp; (try with_reducible rfl))
          (try simp only [Act.put])
          refine held_quiet (v := ?vp8) rfl rfl (Or.inl ⟨by rfl, ?hyp8⟩) ?_
          case hyp8 => (intro u hu; go_simp; (try with_reducible rfl))
          (try simp only [Act.put])
          refine held_quiet (v := ?vp9) rfl rfl (Or.inl ⟨by rfl, ?hyp9⟩) ?_
          case hyp9 => (intro u hu; go_simp; (try with_reducible rfl))
          (try simp only [Act.put])
          refine held_read (v := ?vp10) rfl rfl (Or.inl ⟨by rfl, ?hyp10⟩) ?_
          case hyp10 => (intro u hu; obtain ⟨f0, f1, f2, f3, f4, f5, f6, f7, f8, f9, f10, f11, df, dz⟩ := D0.out u hu; go_simp; (try with_reducible rfl))
          (try simp only [Act.put])
          refine held_op rfl rfl (fun K hK => ?_)
          go_simp
          (go_at_call 10; (with_reducible refine (ML.out _ (by (repeat (first | with_reducible exact Grow.refl _ | with_reducible refine Grow.alloc ?_ _ | with_reducible refine Grow.drew ?_ | with_reducible refine Grow.drewN ?_ _ | (with_reducible refine Grow.setCell ?_ ?hp _; (case hp => (simp; try omega))) | with_reducible refine Grow.trans ?_ (by assumption))))).mono ?_); (rintro e u5 ⟨v5, rfl, hv5, hb5⟩; obtain ⟨s5, a5, l5, c5, t5, b5, k5, e5, rfl⟩ := hv5.form; have HV5 := Lib.hid hv5; clear hv5; obtain ⟨f0_5, f1_5, f2_5, f3_5, f4_5, f5_5, f6_5, f7_5, f8_5, f9_5, f10_5, f11_5, df5, dz5⟩ := D0.out u5 (by (repeat (first | with_reducible exact Grow.refl _ | with_reducible refine Grow.alloc ?_ _ | with_reducible refine Grow.drew ?_ | with_reducible refine Grow.drewN ?_ _ | (with_reducible refine Grow.setCell ?_ ?hp _; (case hp => (simp; try omega))) | with_reducible refine Grow.trans ?_ (by assumption))))))
          (try go_wp2_with fail)
          refine hK.out _ _ ?hSp11 ?_
          case hSp11 => ((try dsimp only); (repeat (first | with_reducible exact Grow.refl _ | with_reducible refine Grow.alloc ?_ _ | with_reducible refine Grow.drew ?_ | with_reducible refine Grow.drewN ?_ _ | (with_reducible refine Grow.setCell ?_ ?hp _; (case hp => (simp; try omega))) | with_reducible refine Grow.trans ?_ (by assumption))))
          clear hK K
          (try simp only [Act.put])
          refine held_op rfl rfl (fun K hK => ?_)
          go_simp
          (go_at_call 21; (with_reducible refine (AD.out _ _ (HV5.out.grow (by (repeat (first | with_reducible exact Grow.refl _ | with_reducible refine Grow.alloc ?_ _ | with_reducible refine Grow.drew ?_ | with_reducible refine Grow.drewN ?_ _ | (with_reducible refine Grow.setCell ?_ ?hp _; (case hp => (simp; try omega))) | with_reducible refine Grow.trans ?_ (by assumption))))) (by (repeat (first | with_reducible exact Grow.refl _ | with_reducible refine Grow.alloc ?_ _ | with_reducible refine Grow.drew ?_ | with_reducible refine Grow.drewN ?_ _ | (with_reducible refine Grow.setCell ?_ ?hp _; (case hp => (simp; try omega))) | with_reducible refine Grow.trans ?_ (by assumption))))).mono ?_); (rintro e u6 ⟨v6, rfl, hv6, hb6⟩; obtain ⟨s6, a6, l6, c6, t6, b6, k6, e6, rfl⟩ := hv6.form; have HV6 := Lib.hid hv6; clear hv6; obtain ⟨f0_6, f1_6, f2_6, f3_6, f4_6, f5_6, f6_6, f7_6, f8_6, f9_6, f10_6, f11_6, df6, dz6⟩ := D0.out u6 (by (repeat (first | with_reducible exact Grow.refl _ | with_reducible refine Grow.alloc ?_ _ | with_reducible refine Grow.drew ?_ | with_reducible refine Grow.drewN ?_ _ | (with_reducible refine Grow.setCell ?_ ?hp _; (case hp => (simp; try omega))) | with_reducible refine Grow.trans ?_ (by assumption))))))
          (try go_wp2_with fail)
          refine hK.out _ _ ?hSp12 ?_
          case hSp12 => ((try dsimp only); (repeat (first | with_reducible exact Grow.refl _ | with_reducible refine Grow.alloc ?_ _ | with_reducible refine Grow.drew ?_ | with_reducible refine Grow.drewN ?_ _ | (with_reducible refine Grow.setCell ?_ ?hp _; (case hp => (simp; try omega))) | with_reducible refine Grow.trans ?_ (by assumption))))
          clear hK K
          (try simp only [Act.put])
          refine held_quiet (v := ?vp13) rfl rfl (Or.inl ⟨by rfl, ?hyp13⟩) ?_
          case hyp13 => (intro u hu; go_simp; (try with_reducible rfl))
          (try simp only [Act.put])
          refine held_last rfl rfl (fun K hK => ?_)
          go_simp
          refine hK.out _ _ ?_
          clear hK K
          (try simp only [Act.put])
          refine held_done ?_
          have hst := HST.out u6 (by (repeat (first | with_reducible exact Grow.refl _ | with_reducible refine Grow.alloc ?_ _ | with_reducible refine Grow.drew ?_ | with_reducible refine Grow.drewN ?_ _ | (with_reducible refine Grow.setCell ?_ ?hp _; (case hp => (simp; try omega))) | with_reducible refine Grow.trans ?_ (by assumption)))) _ _ _ _ _ _ _ _ (HV6.out.grow (by (repeat (first | with_reducible exact Grow.refl _ | with_reducible refine Grow.alloc ?_ _ | with_reducible refine Grow.drew ?_ | with_reducible refine Grow.drewN ?_ _ | (with_reducible refine Grow.setCell ?_ ?hp _; (case hp => (simp; try omega))) | with_reducible refine Grow.trans ?_ (by assumption)))))
          go_wp2_with fail
          go_meet
          refine ⟨Lib.hid hst.1, Lib.hid (RowQ.cong hst.2 ?_)⟩
          intro i hi
          by_cases hij : i = j
          · subst hij; rw [if_pos (by omega), if_pos rfl]
          · rw [if_neg hij]
            by_cases h3 : fr ≤ i ∧ i < j
            · rw [if_pos h3, if_pos (by omega)]
            · rw [if_neg h3, if_neg (by omega)]
      case rest =>
        obtain ⟨wx, rfl⟩ : ∃ wx, wx = wc := ⟨_, rfl⟩
        obtain ⟨HBT2, HRA2⟩ := hcut
        clear HBT HRA
        have y4 : IntKind.i64.wrap ((j : Int) + 1) = ((j + 1 : Nat) : Int) := (IntWalk.i64_in ((j : Int) + 1) (by omega)).trans (by omega)
        have y3 : wrap64 ((j : Int) + 1) = ((j + 1 : Nat) : Int) := by clear y4; unfold wrap64; omega
        go_wp2_with fail
        clear y3 y4
        go_roundg (mb - (j + 1))
        case measure => have := HGK.out; omega
        case rel => exact ⟨j + 1, rfl, by omega, by omega, Lib.hid rfl, HBT2, HRA2⟩
end Go.Proofs.YtbpkfcohbefphaaGreat
/- Walks over rows of fractions: divide. -/
namespace Go.Proofs.YtbpkfcohbefphaaGreat
open Go Go.RowKit
/-- The quotient of two fractions stays in one digit. -/
def QuoB (x y : Rat) : Prop := (x.num * (y.den : Int)).natAbs < 4294967296 ∧ ((x.den : Int) * y.num).natAbs < 4294967296
set_option maxRecDepth 20000 in
set_option maxHeartbeats 8000000 in
theorem divideQ (f : Rat) (vf : Value) (Ba oa ma ca fr : Nat) (ra : Nat → Rat) (hf0 : f ≠ 0) (hfr : fr ≤ ma) (hbig : ma ≤ 1000000)
    (hbd : ∀ j, fr ≤ j → j < ma → ra j ≠ 0 → QuoB (ra j) f) (w : World) (hf : RatR w vf f) (hA : RowQ w Ba oa ma ra) :
    Calls Tryz.prog 149 #[.slice (some ⟨Ba, oa, none⟩) ma ca, vf, .int .i64 (fr : Int)] w fun e w' =>
      e = .returned (.tuple #[]) ∧ But (fun b => b = Ba) w w' ∧ RowQ w' Ba oa ma (fun i => if fr ≤ i ∧ i < ma then ra i / f else ra i) := by
  obtain ⟨s1, a1, l1, c1, t1, b1, k1, e1, rfl⟩ := hf.form
  have HF := Lib.hid hf
  have HA := Lib.hid hA
  have HBD := Lib.hid hbd
  have hzA := hA.lt
  clear hf hA hbd
  obtain ⟨W1, hW1⟩ : ∃ W1 : World, W1 = w.alloc (.cells #[.bool s1, .slice a1 l1 c1, .bool t1, .slice b1 k1 e1] 36) := ⟨_, rfl⟩
  have g1 : Grow w W1 := by rw [hW1]; (repeat (first | with_reducible exact Grow.refl _ | with_reducible refine Grow.alloc ?_ _ | with_reducible refine Grow.drew ?_ | with_reducible refine Grow.drewN ?_ _ | (with_reducible refine Grow.setCell ?_ ?hp _; (case hp => (simp; try omega))) | with_reducible refine Grow.trans ?_ (by assumption)))
  have hz1 : W1.heap.size = w.heap.size + 1 := by rw [hW1]; simp
  have c0 : ∀ u : World, But (fun b => b = Ba) W1 u → u.cell? ⟨w.heap.size, 0, none⟩ = some (.bool s1) ∧ u.cell? ⟨w.heap.size, 1, none⟩ = some (.slice a1 l1 c1) ∧ u.cell? ⟨w.heap.size, 2, none⟩ = some (.bool t1) ∧ u.cell? ⟨w.heap.size, 3, none⟩ = some (.slice b1 k1 e1) := by
    intro u hg
    refine ⟨?_, ?_, ?_, ?_⟩ <;> (refine (hg.cells _ _ (by omega) (by omega)).trans ?_; rw [hW1]; go_simp)
  have C0 := Lib.hid c0
  have HW1 := Lib.hid hW1
  have G1 := Lib.hid g1
  have HZ1 := Lib.hid hz1
  clear c0 hW1 g1 hz1
  go_enter Tryz.func149, Tryz.ntmps149
  go_wp2_with fail
  go_loopg [6] (ma - fr) (fun gk t8 wr => ∃ j : Nat, t8 = .int .i64 (j : Int) ∧ fr ≤ j ∧ j ≤ ma ∧ Hid (gk = ma - j) ∧ Hid (But (fun b => b = Ba) W1 wr) ∧ Hid (RowQ wr Ba oa ma (fun i => if fr ≤ i ∧ i < j then ra i / f else ra i)))
  case atStart =>
    refine ⟨fr, rfl, Nat.le_refl _, hfr, Lib.hid rfl, Lib.hid (by rw [HW1.out]; exact But.refl _ _), Lib.hid ?_⟩
    exact RowQ.cong (RowP.grow (w' := w.alloc (.cells #[.bool s1, .slice a1 l1 c1, .bool t1, .slice b1 k1 e1] 36)) HA.out (by (repeat (first | with_reducible exact Grow.refl _ | with_reducible refine Grow.alloc ?_ _ | with_reducible refine Grow.drew ?_ | with_reducible refine Grow.drewN ?_ _ | (with_reducible refine Grow.setCell ?_ ?hp _; (case hp => (simp; try omega))) | with_reducible refine Grow.trans ?_ (by assumption))))) (fun i _ => by rw [if_neg (by omega)])
  case round =>
    obtain ⟨j, rfl, hj1, hj2, HGK, HBT, HRA⟩ := hrel
    have hbx := C0.out wr HBT.out
    obtain ⟨f0_0, f1_0, f2_0, f3_0⟩ := hbx
    have hzr : w.heap.size + 1 ≤ wr.heap.size := by have := HBT.out.size; rw [HZ1.out] at this; exact this
    by_cases hjm : j = ma
    · have y1 : decide ((j : Int) < (ma : Int)) = false := by simp; omega
      subst hjm
      go_wp2_with fail
      ((try simp only [Exit.inBlock, Exit.then]); refine bodyPost_end (results_none rfl _ _ _) rfl ?_)
      exact ⟨rfl, (G1.out.but _).trans HBT.out, HRA.out⟩
    · have y0 : (0 : Int) ≤ (j : Int) := by omega
      have y2 : (j : Int) < (ma : Int) := by omega
      have hgB : But (fun b => b = Ba) w wr := (G1.out.but _).trans HBT.out
      obtain ⟨s3, a3, l3, c3, t3, b3, k3, e3, ⟨q0, q1, q2, q3⟩, hva⟩ := RowQ.at4 HRA.out (show j < ma by omega)
      rw [if_neg (by omega)] at hva
      have hlA := HRA.out.lt
      have hfA := HRA.out.free
      have HVF := Lib.hid ((HF.out.grow G1.out).but HBT.out)
      have d0 : ∀ u : World, Grow wr u → u.cell? ⟨w.heap.size, 0, none⟩ = some (.bool s1) ∧ u.cell? ⟨w.heap.size, 1, none⟩ = some (.slice a1 l1 c1) ∧ u.cell? ⟨w.heap.size, 2, none⟩ = some (.bool t1) ∧ u.cell? ⟨w.heap.size, 3, none⟩ = some (.slice b1 k1 e1) ∧ u.cell? ⟨Ba, oa + j * 4, none⟩ = some (.bool s3) ∧ u.cell? ⟨Ba, oa + j * 4 + 1, none⟩ = some (.slice a3 l3 c3) ∧ u.cell? ⟨Ba, oa + j * 4 + 2, none⟩ = some (.bool t3) ∧ u.cell? ⟨Ba, oa + j * 4 + 3, none⟩ = some (.slice b3 k3 e3) ∧ (∀ o, u.frozen? ⟨Ba, o, none⟩ = false) ∧ Ba < u.heap.size := by
        intro u hg
        have hzu := hg.size
        refine ⟨?_, ?_, ?_, ?_, ?_, ?_, ?_, ?_, fun o => (hg.frees _ _ hlA).trans (hfA o), by omega⟩
        · exact (hg.cells _ _ (by omega)).trans f0_0
        · exact (hg.cells _ _ (by omega)).trans f1_0
        · exact (hg.cells _ _ (by omega)).trans f2_0
        · exact (hg.cells _ _ (by omega)).trans f3_0
        · exact (hg.cells _ _ hlA).trans q0
        · exact (hg.cells _ _ hlA).trans q1
        · exact (hg.cells _ _ hlA).trans q2
        · exact (hg.cells _ _ hlA).trans q3
      have D0 := Lib.hid d0
      clear d0
      have NZ := Lib.hid (fun u hu => nonzeroQ (ra j) _ u (hva.grow hu))
      have HST := Lib.hid (fun (u : World) (hu : Grow wr u) (s : Bool) (a : Option Addr) (l c : Nat) (t : Bool) (b : Option Addr) (k e : Nat) (hx : RatR u (.agg #[.bool s, .slice a l c, .bool t, .slice b k e]) (ra j / f)) => And.intro (But.st4 (HBT.out.grow hu) (.inr rfl) (RowP.q4 (RowP.grow HRA.out hu) (show j < ma by omega)) s a l c t b k e) (RowQ.set (RowP.grow HRA.out hu) (show j < ma by omega) hx))
      clear hfA
      go_upto_block 1 with fail
      go_cut [] (fun wx => Hid (But (fun b => b = Ba) W1 wx) ∧ Hid (RowQ wx Ba oa ma (fun i => if fr ≤ i ∧ i < j + 1 then ra i / f else ra i)))
      case first =>
        by_cases hz : ra j = 0
        · rw [decide_eq_false (show ¬ ra j ≠ 0 by simpa using hz)] at NZ
          go_wp2_with (go_at_call 96; (with_reducible refine (NZ.out _ (by (repeat (first | with_reducible exact Grow.refl _ | with_reducible refine Grow.alloc ?_ _ | with_reducible refine Grow.drew ?_ | with_reducible refine Grow.drewN ?_ _ | (with_reducible refine Grow.setCell ?_ ?hp _; (case hp => (simp; try omega))) | with_reducible refine Grow.trans ?_ (by assumption))))).mono ?_); (rintro e u4 ⟨rfl, hb4⟩))
          go_meet
          refine ⟨Lib.hid (HBT.out.grow (by (repeat (first | with_reducible exact Grow.refl _ | with_reducible refine Grow.alloc ?_ _ | with_reducible refine Grow.drew ?_ | with_reducible refine Grow.drewN ?_ _ | (with_reducible refine Grow.setCell ?_ ?hp _; (case hp => (simp; try omega))) | with_reducible refine Grow.trans ?_ (by assumption))))), Lib.hid ((RowP.grow HRA.out (by (repeat (first | with_reducible exact Grow.refl _ | with_reducible refine Grow.alloc ?_ _ | with_reducible refine Grow.drew ?_ | with_reducible refine Grow.drewN ?_ _ | (with_reducible refine Grow.setCell ?_ ?hp _; (case hp => (simp; try omega))) | with_reducible refine Grow.trans ?_ (by assumption))))).mono (Nat.le_refl _) ?_)⟩
          intro i x hi hx
          rw [← hx]
          congr 1
          dsimp only
          by_cases hij : i = j
          · subst hij; rw [if_neg (by omega), if_pos (by omega), hz, Rat.div_def, Rat.zero_mul]
          · by_cases h3 : fr ≤ i ∧ i < j
            · rw [if_pos h3, if_pos (by omega)]
            · rw [if_neg h3, if_neg (by omega)]
        · rw [decide_eq_true (show ra j ≠ 0 from hz)] at NZ
          obtain ⟨hn, hd⟩ := HBD.out j hj1 (by omega) hz
          have QU := Lib.hid (fun u hu => quoQ (ra j) f _ _ hf0 hn hd u (hva.grow hu) (HVF.out.grow hu))
          clear hn hd hva
          go_upto_region 5 with (go_at_call 96; (with_reducible refine (NZ.out _ (by (repeat (first | with_reducible exact Grow.refl _ | with_reducible refine Grow.alloc ?_ _ | with_reducible refine Grow.drew ?_ | with_reducible refine Grow.drewN ?_ _ | (with_reducible refine Grow.setCell ?_ ?hp _; (case hp => (simp; try omega))) | with_reducible refine Grow.trans ?_ (by assumption))))).mono ?_); (rintro e u4 ⟨rfl, hb4⟩; obtain ⟨f0_4, f1_4, f2_4, f3_4, f4_4, f5_4, f6_4, f7_4, df4, dz4⟩ := D0.out u4 (by (repeat (first | with_reducible exact Grow.refl _ | with_reducible refine Grow.alloc ?_ _ | with_reducible refine Grow.drew ?_ | with_reducible refine Grow.drewN ?_ _ | (with_reducible refine Grow.setCell ?_ ?hp _; (case hp => (simp; try omega))) | with_reducible refine Grow.trans ?_ (by assumption))))))
          refine region_held (id := 5) (fun u => Grow wr u) [0, 1, 2, 3, 4, 5, 6, 7, 8, 9, 10, 11, 12] (kdL [0, 0, 0, 0, 0, 1, 1, 2, 0, 0, 0, 0, 3]) (by kernel_rfl) (by kernel_rfl) (fun t ht => kdL_lt _ t ht) ?hS0p ?_
          case hS0p => ((try dsimp only); (repeat (first | with_reducible exact Grow.refl _ | with_reducible refine Grow.alloc ?_ _ | with_reducible refine Grow.drew ?_ | with_reducible refine Grow.drewN ?_ _ | (with_reducible refine Grow.setCell ?_ ?hp _; (case hp => (simp; try omega))) | with_reducible refine Grow.trans ?_ (by assumption))))
          refine held_quiet (v := ?vp0) rfl rfl (Or.inl ⟨by rfl, ?hyp0⟩) ?_
          case hyp0 => (intro u hu; go_simp; (try with_reducible rfl))
          (try simp only [Act.put, List.setIfInBounds_toArray])
          refine held_quiet (v := ?vp1) rfl rfl (Or.inl ⟨by rfl, ?hyp1⟩) ?_
          case hyp1 => (intro u hu; go_simp; (try with_reducible rfl))
          (try simp only [Act.put])
          refine held_quiet (v := ?vp2) rfl rfl (Or.inl ⟨by rfl, ?hyp2⟩) ?_
          case hyp2 => (intro u hu; go_simp; (try with_reducible rfl))
          (try simp only [Act.put])
          refine held_quiet (v := ?vp3) rfl rfl (Or.inl ⟨by rfl, ?hyp3⟩) ?_
          case hyp3 => (intro u hu; go_simp; (try with_reducible rfl))
          (try simp only [Act.put])
          refine held_quiet (v := ?vp4) rfl rfl (Or.inl ⟨by rfl, ?hyp4⟩) ?_
          case hyp4 => (intro u hu; go_simp; (try with_reducible rfl))
          (try simp only [Act.put])
          refine held_read (v := ?vp5) rfl rfl (Or.inl ⟨by rfl, ?hyp5⟩) ?_
          case hyp5 => (intro u hu; obtain ⟨f0, f1, f2, f3, f4, f5, f6, f7, df, dz⟩ := D0.out u hu; go_simp; (try with_reducible rfl))
          (try simp only [Act.put])
          refine held_read (v := ?vp6) rfl rfl (Or.inl ⟨by rfl, ?hyp6⟩) ?_
          case hyp6 => (intro u hu; obtain ⟨f0, f1, f2, f3, f4, f5, f6, f7, df, dz⟩ := D0.out u hu; go_simp; (try with_reducible rfl))
          (try simp only [Act.put])
          refine held_op rfl rfl (fun K hK => ?_)
          go_simp
          (go_at_call 50; (with_reducible refine (QU.out _ (by (repeat (first | with_reducible exact Grow.refl _ | with_reducible refine Grow.alloc ?_ _ | with_reducible refine Grow.drew ?_ | with_reducible refine Grow.drewN ?_ _ | (with_reducible refine Grow.setCell ?_ ?hp _; (case hp => (simp; try omega))) | with_reducible refine Grow.trans ?_ (by assumption))))).mono ?_); (rintro e u6 ⟨v6, rfl, hv6, hb6⟩; obtain ⟨s6, a6, l6, c6, t6, b6, k6, e6, rfl⟩ := hv6.form; have HV6 := Lib.hid hv6; clear hv6; obtain ⟨f0_6, f1_6, f2_6, f3_6, f4_6, f5_6, f6_6, f7_6, df6, dz6⟩ := D0.out u6 (by (repeat (first | with_reducible exact Grow.refl _ | with_reducible refine Grow.alloc ?_ _ | with_reducible refine Grow.drew ?_ | with_reducible refine Grow.drewN ?_ _ | (with_reducible refine Grow.setCell ?_ ?hp _; (case hp => (simp; try omega))) | with_reducible refine Grow.trans ?_ (by assumption))))))
          (try go_wp2_with fail)
          refine hK.out _ _ ?hSp7 ?_
          case hSp7 => ((try dsimp only); (repeat (first | with_reducible exact Grow.refl _ | with_reducible refine Grow.alloc ?_ _ | with_reducible refine Grow.drew ?_ | with_reducible refine Grow.drewN ?_ _ | (with_reducible refine Grow.setCell ?_ ?hp _; (case hp => (simp; try omega))) | with_reducible refine Grow.trans ?_ (by assumption))))
          clear hK K
          (try simp only [Act.put])
          refine held_quiet (v := ?vp8) rfl rfl (Or.inl ⟨by rfl, ?hyp8⟩) ?_
          case hyp8 => (intro u hu; go_simp; (try with_reducible rfl))
          (try simp only [Act.put])
          refine held_quiet (v := ?vp9) rfl rfl (Or.inl ⟨by rfl, ?hyp9⟩) ?_
          case hyp9 => (intro u hu; go_simp; (try with_reducible rfl))
          (try simp only [Act.put])
          refine held_quiet (v := ?vp10) rfl rfl (Or.inl ⟨by rfl, ?hyp10⟩) ?_
          case hyp10 => (intro u hu; go_simp; (try with_reducible rfl))
          (try simp only [Act.put])
          refine held_quiet (v := ?vp11) rfl rfl (Or.inl ⟨by rfl, ?hyp11⟩) ?_
          case hyp11 => (intro u hu; go_simp; (try with_reducible rfl))
          (try simp only [Act.put])
          refine held_last rfl rfl (fun K hK => ?_)
          go_simp
          refine hK.out _ _ ?_
          clear hK K
          (try simp only [Act.put])
          refine held_done ?_
          have hst := HST.out u6 (by (repeat (first | with_reducible exact Grow.refl _ | with_reducible refine Grow.alloc ?_ _ | with_reducible refine Grow.drew ?_ | with_reducible refine Grow.drewN ?_ _ | (with_reducible refine Grow.setCell ?_ ?hp _; (case hp => (simp; try omega))) | with_reducible refine Grow.trans ?_ (by assumption)))) _ _ _ _ _ _ _ _ (HV6.out.grow (by (repeat (first | with_reducible exact Grow.refl _ | with_reducible refine Grow.alloc ?_ _ | with_reducible refine Grow.drew ?_ | with_reducible refine Grow.drewN ?_ _ | (with_reducible refine Grow.setCell ?_ ?hp _; (case hp => (simp; try omega))) | with_reducible refine Grow.trans ?_ (by assumption)))))
          go_wp2_with fail
          go_meet
          refine ⟨Lib.hid hst.1, Lib.hid (RowQ.cong hst.2 ?_)⟩
          intro i hi
          by_cases hij : i = j
          · subst hij; rw [if_pos (by omega), if_pos rfl]
          · rw [if_neg hij]
            by_cases h3 : fr ≤ i ∧ i < j
            · rw [if_pos h3, if_pos (by omega)]
            · rw [if_neg h3, if_neg (by omega)]
      case rest =>
        obtain ⟨wx, rfl⟩ : ∃ wx, wx = wc := ⟨_, rfl⟩
        obtain ⟨HBT2, HRA2⟩ := hcut
        clear HBT HRA
        have y4 : IntKind.i64.wrap ((j : Int) + 1) = ((j + 1 : Nat) : Int) := (IntWalk.i64_in ((j : Int) + 1) (by omega)).trans (by omega)
        have y3 : wrap64 ((j : Int) + 1) = ((j + 1 : Nat) : Int) := by clear y4; unfold wrap64; omega
        go_wp2_with fail
        clear y3 y4
        go_roundg (ma - (j + 1))
        case measure => have := HGK.out; omega
        case rel => exact ⟨j + 1, rfl, by omega, by omega, Lib.hid rfl, HBT2, HRA2⟩
end Go.Proofs.YtbpkfcohbefphaaGreat
/- Grids: slices of rows of fractions in memory. -/
namespace Go.Proofs.YtbpkfcohbefphaaGreat
open Go Go.RowKit

/-- A function changed at one place. -/
def upd {α : Type} (f : Nat → α) (k : Nat) (x : α) : Nat → α := fun i => if i = k then x else f i
theorem upd_same {α : Type} (f : Nat → α) (k : Nat) (x : α) : upd f k x k = x := by simp [upd]
theorem upd_other {α : Type} (f : Nat → α) {k i : Nat} (x : α) (h : i ≠ k) : upd f k x i = f i := by simp [upd, h]
/-- Block G holds n slices. -/
structure SlG (w : World) (G n : Nat) : Prop where
  lt : G < w.heap.size
  free : ∀ o, w.frozen? ⟨G, o, none⟩ = false
  cell : ∀ i, i < n → ∃ a l c, w.cell? ⟨G, i, none⟩ = some (.slice a l c)
theorem SlG.but {X : Nat → Prop} {w w' : World} {G n : Nat} (h : SlG w G n) (hX : ¬ X G) (hg : But X w w') : SlG w' G n :=
  ⟨Nat.lt_of_lt_of_le h.lt hg.size, fun o => (hg.frees _ _ h.lt).trans (h.free o), fun i hi => by rw [hg.cells _ _ h.lt hX]; exact h.cell i hi⟩
theorem SlG.grow {w w' : World} {G n : Nat} (h : SlG w G n) (hg : Grow w w') : SlG w' G n := h.but (X := fun _ => False) (fun h => h) (hg.but _)
theorem SlG.set {w : World} {G n : Nat} (h : SlG w G n) {k : Nat} (hk : k < n) (a : Option Addr) (l c : Nat) : SlG (w.setCell ⟨G, k, none⟩ (.slice a l c)) G n := by
  refine ⟨by simpa [World.setCell] using h.lt, fun o => by simpa using h.free o, fun i hi => ?_⟩
  by_cases hik : i = k
  · subst hik
    obtain ⟨a', l', c', hc⟩ := h.cell i hi
    exact ⟨a, l, c, World.cell?_setCell_same _ _ _ hc⟩
  · rw [World.cell?_setCell_other _ _ _ _ (by simp; try omega)]
    exact h.cell i hi
/-- A store of a slice into a cell of such a block changes no number. -/
theorem SlG.but_set {X : Nat → Prop} {w u : World} {G n k : Nat} (h : SlG u G n) (hk : k < n) (hX : w.heap.size ≤ G ∨ X G) (hb : But X w u) (v : Value) : But X w (u.setCell ⟨G, k, none⟩ v) := by
  obtain ⟨a, l, c, hc⟩ := h.cell k hk
  exact hb.set _ hX (fun x => by rw [hc]; simp)
/-- A grid: block G holds n slices of m fractions; row i lies in block R i from O i on. -/
structure GridQ (w : World) (G n : Nat) (R O C : Nat → Nat) (m : Nat) (M : Nat → Nat → Rat) : Prop where
  lt : G < w.heap.size
  free : ∀ o, w.frozen? ⟨G, o, none⟩ = false
  cell : ∀ i, i < n → w.cell? ⟨G, i, none⟩ = some (.slice (some ⟨R i, O i, none⟩) m (C i))
  cap : ∀ i, i < n → m ≤ C i
  row : ∀ i, i < n → RowQ w (R i) (O i) m (M i)
  far : ∀ i, i < n → R i ≠ G
  inj : ∀ i k, i < n → k < n → R i = R k → i = k
theorem GridQ.slG {w : World} {G n m : Nat} {R O C : Nat → Nat} {M : Nat → Nat → Rat} (h : GridQ w G n R O C m M) : SlG w G n := ⟨h.lt, h.free, fun i hi => ⟨_, _, _, h.cell i hi⟩⟩
theorem GridQ.but {X : Nat → Prop} {w w' : World} {G n m : Nat} {R O C : Nat → Nat} {M : Nat → Nat → Rat} (h : GridQ w G n R O C m M) (hX : ¬ X G) (hR : ∀ i, i < n → ¬ X (R i)) (hg : But X w w') : GridQ w' G n R O C m M :=
  ⟨Nat.lt_of_lt_of_le h.lt hg.size, fun o => (hg.frees _ _ h.lt).trans (h.free o), fun i hi => by rw [hg.cells _ _ h.lt hX]; exact h.cell i hi, h.cap, fun i hi => RowP.but (h.row i hi) (hR i hi) hg, h.far, h.inj⟩
theorem GridQ.grow {w w' : World} {G n m : Nat} {R O C : Nat → Nat} {M : Nat → Nat → Rat} (h : GridQ w G n R O C m M) (hg : Grow w w') : GridQ w' G n R O C m M := h.but (X := fun _ => False) (fun h => h) (fun _ _ h => h) (hg.but _)
theorem GridQ.cong {w : World} {G n m : Nat} {R O C : Nat → Nat} {M M' : Nat → Nat → Rat} (h : GridQ w G n R O C m M) (hM : ∀ i j, i < n → j < m → M' i j = M i j) : GridQ w G n R O C m M' :=
  ⟨h.lt, h.free, h.cell, h.cap, fun i hi => RowQ.cong (h.row i hi) (fun j hj => hM i j hi hj), h.far, h.inj⟩
/-- One row changed in place. -/
theorem GridQ.row_set {w w' : World} {G n m : Nat} {R O C : Nat → Nat} {M : Nat → Nat → Rat} (h : GridQ w G n R O C m M) {j : Nat} (hj : j < n) {r : Nat → Rat} (hb : But (fun b => b = R j) w w') (hr : RowQ w' (R j) (O j) m r) : GridQ w' G n R O C m (upd M j r) := by
  refine ⟨Nat.lt_of_lt_of_le h.lt hb.size, fun o => (hb.frees _ _ h.lt).trans (h.free o), fun i hi => by rw [hb.cells _ _ h.lt (fun e => h.far j hj e.symm)]; exact h.cell i hi, h.cap, fun i hi => ?_, h.far, h.inj⟩
  by_cases hij : i = j
  · subst hij; rw [upd_same]; exact hr
  · rw [upd_other _ _ hij]
    exact RowP.but (h.row i hi) (fun e => hij (h.inj i j hi hj e)) hb
/-- A row more. -/
theorem GridQ.snoc {w : World} {G n k m : Nat} {R O C : Nat → Nat} {M : Nat → Nat → Rat} (h : GridQ w G k R O C m M) (hs : SlG w G n) (hk : k < n) {r o c : Nat} {x : Nat → Rat} (hr : RowQ w r o m x) (hc : m ≤ c) (hrG : r ≠ G) (hnew : ∀ i, i < k → R i ≠ r) :
    GridQ (w.setCell ⟨G, k, none⟩ (.slice (some ⟨r, o, none⟩) m c)) G (k + 1) (upd R k r) (upd O k o) (upd C k c) m (upd M k x) := by
  obtain ⟨a, l, c', hcell⟩ := hs.cell k hk
  have hbut : But (fun b => b = G) w (w.setCell ⟨G, k, none⟩ (.slice (some ⟨r, o, none⟩) m c)) := (But.refl _ w).set _ (.inr rfl) (fun x => by rw [hcell]; simp)
  refine ⟨by simpa [World.setCell] using h.lt, fun o => by simpa using h.free o, fun i hi => ?_, fun i hi => ?_, fun i hi => ?_, fun i hi => ?_, fun i j hi hj e => ?_⟩
  · by_cases hik : i = k
    · subst hik
      rw [World.cell?_setCell_same _ _ _ hcell, upd_same, upd_same, upd_same]
    · rw [World.cell?_setCell_other _ _ _ _ (by simp; try omega), upd_other _ _ hik, upd_other _ _ hik, upd_other _ _ hik]
      exact h.cell i (by omega)
  · by_cases hik : i = k
    · subst hik; rw [upd_same]; exact hc
    · rw [upd_other _ _ hik]; exact h.cap i (by omega)
  · by_cases hik : i = k
    · subst hik; rw [upd_same, upd_same, upd_same]; exact RowP.but hr hrG hbut
    · rw [upd_other _ _ hik, upd_other _ _ hik, upd_other _ _ hik]; exact RowP.but (h.row i (by omega)) (h.far i (by omega)) hbut
  · by_cases hik : i = k
    · subst hik; rw [upd_same]; exact hrG
    · rw [upd_other _ _ hik]; exact h.far i (by omega)
  · by_cases hik : i = k
    · by_cases hjk : j = k
      · omega
      · subst hik
        rw [upd_same, upd_other _ _ hjk] at e
        exact absurd e.symm (hnew j (by omega))
    · by_cases hjk : j = k
      · subst hjk
        rw [upd_same, upd_other _ _ hik] at e
        exact absurd e (hnew i (by omega))
      · rw [upd_other _ _ hik, upd_other _ _ hjk] at e
        exact h.inj i j (by omega) (by omega) e
theorem GridQ.empty {w : World} {G n : Nat} (h : SlG w G n) (R O C : Nat → Nat) (m : Nat) (M : Nat → Nat → Rat) : GridQ w G 0 R O C m M :=
  ⟨h.lt, h.free, fun _ h => absurd h (Nat.not_lt_zero _), fun _ h => absurd h (Nat.not_lt_zero _), fun _ h => absurd h (Nat.not_lt_zero _), fun _ h => absurd h (Nat.not_lt_zero _), fun _ _ h => absurd h (Nat.not_lt_zero _)⟩
/-- A grid of n rows, all of whose blocks are from base on. -/
def GridE (w : World) (base G n m : Nat) (M : Nat → Nat → Rat) : Prop := base ≤ G ∧ ∃ R O C, GridQ w G n R O C m M ∧ ∀ i, i < n → base ≤ R i
theorem GridE.grow {w w' : World} {base G n m : Nat} {M : Nat → Nat → Rat} (h : GridE w base G n m M) (hg : Grow w w') : GridE w' base G n m M := by
  obtain ⟨hb, R, O, C, h1, h2⟩ := h
  exact ⟨hb, R, O, C, h1.grow hg, h2⟩
theorem GridE.cong {w : World} {base G n m : Nat} {M M' : Nat → Nat → Rat} (h : GridE w base G n m M) (hM : ∀ i j, i < n → j < m → M' i j = M i j) : GridE w base G n m M' := by
  obtain ⟨hb, R, O, C, h1, h2⟩ := h
  exact ⟨hb, R, O, C, h1.cong hM, h2⟩
theorem GridE.base {w : World} {base base' G n m : Nat} {M : Nat → Nat → Rat} (h : GridE w base G n m M) (hb : base' ≤ base) : GridE w base' G n m M := by
  obtain ⟨hb', R, O, C, h1, h2⟩ := h
  exact ⟨by omega, R, O, C, h1, fun i hi => by have := h2 i hi; omega⟩
/-- A row that makeSlice has made. -/
theorem madeCells_get (z : Array Value) (n i : Nat) (hi : i < n) : (madeCells z n).toList[i]? = some z[i % z.size]! := by
  simp [madeCells, hi]
theorem own_cells {w : World} {base g n cap size : Nat} {t : TypeId} {xs : List Value} (h : w.ownsRow base t size (.slice (some ⟨g, 0, none⟩) n cap) n xs) :
    g < w.heap.size ∧ base ≤ g ∧ n ≤ cap ∧ (∀ o, w.frozen? ⟨g, o, none⟩ = false) ∧ ∀ i v, xs[i]? = some v → w.cell? ⟨g, i, none⟩ = some v := by
  rcases h.2 with ⟨hv, -⟩ | ⟨g', cap', cur, hv, hb, hh, hle, hr⟩
  · cases hv
  · simp only [Value.slice.injEq, Option.some.injEq, Addr.mk.injEq] at hv
    obtain ⟨⟨rfl, -⟩, -, rfl⟩ := hv
    refine ⟨(Array.getElem?_eq_some_iff.1 hh).1, hb, hle, fun o => ?_, fun i v hi => ?_⟩
    · unfold World.frozen?
      simp only [hh]
      simp
    · have h1 := World.ownsRow.cells h (g := g) rfl i v hi
      rw [Addr.add_lit, Nat.zero_add] at h1
      exact h1
theorem made_row {w : World} {base g n : Nat} {t : TypeId} (h : w.ownsRow base t 4 (.slice (some ⟨g, 0, none⟩) n n) n (madeCells #[.bool false, .slice none 0 0, .bool false, .slice none 0 0] (n * 4)).toList) : RowP w g 0 n (fun _ => none) := by
  obtain ⟨h1, h2, h3, h4, h5⟩ := own_cells h
  refine ⟨h1, h4, fun j hj => ⟨false, none, 0, 0, false, none, 0, 0, ⟨?_, ?_, ?_, ?_⟩, fun x hx => by cases hx⟩⟩
  · exact h5 _ _ (by rw [madeCells_get _ _ _ (by omega)]; rw [show (0 + j * 4) % (#[Value.bool false, Value.slice none 0 0, Value.bool false, Value.slice none 0 0]).size = 0 by simp; try omega]; rfl)
  · exact h5 _ _ (by rw [madeCells_get _ _ _ (by omega)]; rw [show (0 + j * 4 + 1) % (#[Value.bool false, Value.slice none 0 0, Value.bool false, Value.slice none 0 0]).size = 1 by simp; try omega]; rfl)
  · exact h5 _ _ (by rw [madeCells_get _ _ _ (by omega)]; rw [show (0 + j * 4 + 2) % (#[Value.bool false, Value.slice none 0 0, Value.bool false, Value.slice none 0 0]).size = 2 by simp; try omega]; rfl)
  · exact h5 _ _ (by rw [madeCells_get _ _ _ (by omega)]; rw [show (0 + j * 4 + 3) % (#[Value.bool false, Value.slice none 0 0, Value.bool false, Value.slice none 0 0]).size = 3 by simp; try omega]; rfl)
theorem made_grid {w : World} {base g n : Nat} {t : TypeId} (h : w.ownsRow base t 1 (.slice (some ⟨g, 0, none⟩) n n) n (madeCells #[.slice none 0 0] n).toList) : SlG w g n := by
  obtain ⟨h1, h2, h3, h4, h5⟩ := own_cells h
  refine ⟨h1, h4, fun i hi => ⟨none, 0, 0, h5 _ _ ?_⟩⟩
  rw [madeCells_get _ _ _ (by omega)]
  simp [Nat.mod_one]
/-- All known. -/
theorem RowP.full {w : World} {B off m : Nat} {r : Nat → Option Rat} {x : Nat → Rat} (h : RowP w B off m r) (hr : ∀ j, j < m → r j = some (x j)) : RowQ w B off m x :=
  RowP.mono h (Nat.le_refl _) (fun j y hj hy => by rw [hr j hj]; exact hy)
end Go.Proofs.YtbpkfcohbefphaaGreat
/- Walks over grids: zeros, blank, unit. -/
namespace Go.Proofs.YtbpkfcohbefphaaGreat
open Go Go.RowKit
theorem infoRat : (Tryz.prog.info? 36).map (fun i => (i.zero, i.size, i.bytes)) = some (some (.agg #[.bool false, .slice none 0 0, .bool false, .slice none 0 0]), 4, 64) := by kernel_rfl
theorem infoRow : (Tryz.prog.info? 23).map (fun i => (i.zero, i.size, i.bytes)) = some (some (.slice none 0 0), 1, 24) := by kernel_rfl
set_option maxRecDepth 20000 in
set_option maxHeartbeats 8000000 in
theorem zerosQ (n : Nat) (hn : n ≤ 1000) (w : World) : Calls Tryz.prog 153 #[.int .i64 (n : Int)] w fun e w' =>
    ∃ B, e = .returned (.slice (some ⟨B, 0, none⟩) n n) ∧ w.heap.size ≤ B ∧ RowQ w' B 0 n (fun _ => 0) ∧ Grow w w' := by
  obtain ⟨iu, hiu, iuz0, iuz1, iuz2⟩ := info_parts infoRat
  have OF := Lib.hid (fun u => ofQ 0 (by decide) u)
  go_enter Tryz.func153, Tryz.ntmps153
  go_wp2_with (at_make; refine wpList_make_full _ rfl _ _ 23 rfl (w.heap.size) 36 iu (.agg #[.bool false, .slice none 0 0, .bool false, .slice none 0 0]) 4 Tryz.underlying23 hiu iuz0 iuz1 .i64 .i64 (n : Int) (n : Int) n rfl rfl rfl rfl ?m1 ?m2 (Nat.le_refl _) ?_)
  case m1 => rw [iuz2]; omega
  case m2 => unfold maxLen; omega
  intro w1 hown1 hgrow1
  have HM := Lib.hid (made_row (g := w.heap.size) hown1)
  have hz1 := HM.out.lt
  have HG1 := Lib.hid (show Grow w w1 from (Grow.refl w).grown hgrow1 (fun k hk => by cases hk))
  clear hown1 hgrow1 hiu iuz0 iuz1 iuz2
  go_wp2_with fail
  go_loopg [9] n (fun gk t9 wr => ∃ j : Nat, t9 = .int .i64 (j : Int) ∧ j ≤ n ∧ Hid (gk = n - j) ∧ Hid (Grow w wr) ∧ Hid (RowP wr w.heap.size 0 n (fun i => if i < j then some 0 else none)))
  case atStart => exact ⟨0, rfl, Nat.zero_le _, Lib.hid rfl, HG1, Lib.hid (HM.out.mono (Nat.le_refl _) (fun i x _ hx => by rw [if_neg (Nat.not_lt_zero _)] at hx; cases hx))⟩
  case round =>
    obtain ⟨j, rfl, hj2, HGK, HGR, HRA⟩ := hrel
    by_cases hjm : j = n
    · have y1 : decide ((j : Int) < (n : Int)) = false := by simp; omega
      subst hjm
      go_wp2_with fail
      go_ret
      exact ⟨_, rfl, Nat.le_refl _, HRA.out.full (fun i hi => by rw [if_pos hi]), HGR.out⟩
    · have y0 : (0 : Int) ≤ (j : Int) := by omega
      have y2 : (j : Int) < (n : Int) := by omega
      obtain ⟨s3, a3, l3, c3, t3, b3, k3, e3, q0, q1, q2, q3⟩ := RowP.q4 HRA.out (show j < n by omega)
      rw [Nat.zero_add] at q0 q1 q2 q3
      have hlA := HRA.out.lt
      have hfA := HRA.out.free
      have d0 : ∀ u : World, Grow wr u → u.cell? ⟨w.heap.size, j * 4, none⟩ = some (.bool s3) ∧ u.cell? ⟨w.heap.size, j * 4 + 1, none⟩ = some (.slice a3 l3 c3) ∧ u.cell? ⟨w.heap.size, j * 4 + 2, none⟩ = some (.bool t3) ∧ u.cell? ⟨w.heap.size, j * 4 + 3, none⟩ = some (.slice b3 k3 e3) ∧ (∀ o, u.frozen? ⟨w.heap.size, o, none⟩ = false) ∧ w.heap.size < u.heap.size := by
        intro u hg
        have hzu := hg.size
        refine ⟨?_, ?_, ?_, ?_, fun o => (hg.frees _ _ hlA).trans (hfA o), by omega⟩
        · exact (hg.cells _ _ hlA).trans q0
        · exact (hg.cells _ _ hlA).trans q1
        · exact (hg.cells _ _ hlA).trans q2
        · exact (hg.cells _ _ hlA).trans q3
      have D0 := Lib.hid d0
      clear d0
      have HST := Lib.hid (fun (u : World) (hu : Grow wr u) (s : Bool) (a : Option Addr) (l c : Nat) (t : Bool) (b : Option Addr) (k e : Nat) (hx : RatR u (.agg #[.bool s, .slice a l c, .bool t, .slice b k e]) 0) => RowP.set (RowP.grow HRA.out hu) (show j < n by omega) hx)
      simp only [Nat.zero_add] at HST
      clear hfA
      have y4 : IntKind.i64.wrap ((j : Int) + 1) = ((j + 1 : Nat) : Int) := (IntWalk.i64_in ((j : Int) + 1) (by omega)).trans (by omega)
      have y3 : wrap64 ((j : Int) + 1) = ((j + 1 : Nat) : Int) := by clear y4; unfold wrap64; omega
      go_wp2_with (go_at_call 18; (with_reducible refine (OF.out _).mono ?_); (rintro e u6 ⟨v6, rfl, hv6, hb6⟩; obtain ⟨s6, a6, l6, c6, t6, b6, k6, e6, rfl⟩ := hv6.form; have HV6 := Lib.hid hv6; clear hv6; obtain ⟨f0_6, f1_6, f2_6, f3_6, df6, dz6⟩ := D0.out u6 (by (repeat (first | with_reducible exact Grow.refl _ | with_reducible refine Grow.alloc ?_ _ | with_reducible refine Grow.drew ?_ | with_reducible refine Grow.drewN ?_ _ | (with_reducible refine Grow.setCell ?_ ?hp _; (case hp => (simp; try omega))) | with_reducible refine Grow.trans ?_ (by assumption))))))
      clear y3 y4
      have hst := HST.out u6 (by (repeat (first | with_reducible exact Grow.refl _ | with_reducible refine Grow.alloc ?_ _ | with_reducible refine Grow.drew ?_ | with_reducible refine Grow.drewN ?_ _ | (with_reducible refine Grow.setCell ?_ ?hp _; (case hp => (simp; try omega))) | with_reducible refine Grow.trans ?_ (by assumption)))) _ _ _ _ _ _ _ _ (HV6.out.grow (by (repeat (first | with_reducible exact Grow.refl _ | with_reducible refine Grow.alloc ?_ _ | with_reducible refine Grow.drew ?_ | with_reducible refine Grow.drewN ?_ _ | (with_reducible refine Grow.setCell ?_ ?hp _; (case hp => (simp; try omega))) | with_reducible refine Grow.trans ?_ (by assumption)))))
      go_roundg (n - (j + 1))
      case measure => have := HGK.out; omega
      case rel =>
        refine ⟨j + 1, rfl, by omega, Lib.hid rfl, Lib.hid (by have h9 := HGR.out; (repeat (first | with_reducible exact Grow.refl _ | with_reducible refine Grow.alloc ?_ _ | with_reducible refine Grow.drew ?_ | with_reducible refine Grow.drewN ?_ _ | (with_reducible refine Grow.setCell ?_ ?hp _; (case hp => (simp; try omega))) | with_reducible refine Grow.trans ?_ (by assumption)))), Lib.hid (RowP.mono hst (Nat.le_refl _) ?_)⟩
        intro i x hi hx
        by_cases hij : i = j
        · subst hij; rw [if_pos rfl]; rw [if_pos (by omega)] at hx; exact hx
        · rw [if_neg hij]
          by_cases h3 : i < j
          · rw [if_pos h3]; rw [if_pos (by omega)] at hx; exact hx
          · rw [if_neg (by omega)] at hx; cases hx
end Go.Proofs.YtbpkfcohbefphaaGreat
