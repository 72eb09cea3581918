/- Lemmas, plain laws and walks that the statement LwClassNumber leans on (texts PwA, BiV, BnA, RwP, RwS), conditions as each theorem says. -/
import Derived.Test.YtbpkfcohbefphaaGreatDoorTopCnG10
import Derived.Test.YtbpkfcohbefphaaGreatDoorTopCnG11
import Derived.Test.YtbpkfcohbefphaaGreatDoorTopCnG12

namespace Go.Proofs.YtbpkfcohbefphaaGreatDoor
open Go Go.RowKit
set_option maxRecDepth 20000 in
set_option maxHeartbeats 8000000 in
theorem pow0V (z : Int) (u1 : Value) (w : World) (h1 : IntR w u1 z) : Calls Tryz.prog 96 #[u1, .int .i64 0] w fun e w' => ∃ v, e = .returned (.tuple #[v, .int .i64 0]) ∧ IntR w' v 1 ∧ Grow w w' := by
  obtain ⟨s1, a1, l1, c1, rfl⟩ := h1.form
  have BT := Lib.hid (fun (u : World) (hu : Grow w u) => bitsV z _ u (h1.grow hu))
  have hb32 : Lib.bitLen z.natAbs ≤ 32 := Lib.bitLen_le _ 32 (by omega) (by have := h1.lt; omega)
  obtain ⟨B, hB⟩ : ∃ B, Lib.bitLen z.natAbs = B := ⟨_, rfl⟩
  rw [hB] at BT hb32
  have O1 := Lib.hid (fun u => ofV 1 (by decide) u)
  have LN : Hid (∀ u, Calls Tryz.prog 52 #[.int .u64 0] u fun e w' => e = .returned (.int .i64 0) ∧ w' = u) := Lib.hid (fun u => by
    have h := len_int 0 u (by omega) (by omega)
    rw [show ((Lib.bitLen (0 : Int).toNat : Nat) : Int) = 0 by decide +kernel] at h
    exact h)
  obtain ⟨W1, hW1⟩ : ∃ W1 : World, W1 = w.alloc (.cells #[.bool s1, .slice a1 l1 c1] 25) := ⟨_, rfl⟩
  obtain ⟨W2, hW2⟩ : ∃ W2 : World, W2 = W1.alloc (.cells #[.bool false, .slice none 0 0] 25) := ⟨_, rfl⟩
  have hg2 : Grow w W2 := (ag hW1).trans (ag hW2)
  have K1 := Lib.hid (fun u (hu : Grow W2 u) => ak2 hW1 u ((ag hW2).trans hu))
  have hz1 : W1.heap.size = w.heap.size + 1 := by rw [hW1]; simp
  have RB : Hid (BxV W2 (w.heap.size + 1) 0) := Lib.hid (by rw [hW2, ← hz1]; exact BxV.zero W1 _)
  have HW1 := Lib.hid hW1
  have HW2 := Lib.hid hW2
  have G2 := Lib.hid hg2
  clear h1 hW1 hW2 hz1 hB hg2
  obtain ⟨Q, hQ⟩ : ∃ Q : Int, Int.tdiv 1048576 (B : Int) = Q := ⟨_, rfl⟩
  have hQ0 : 0 ≤ Q ∧ Q ≤ 1048576 := by
    rw [← hQ, Int.tdiv_eq_ediv_of_nonneg (by omega)]
    exact ⟨Int.ediv_nonneg (by omega) (by omega), Int.ediv_le_self _ (by omega)⟩
  have TQ := Lib.hid hQ
  have VQ := Lib.hid (w64n (n := Q) (by omega))
  have yQ : decide ((0 : Int) > Q) = false := by simp; omega
  clear hQ
  have b0 := K1.out W2 (Grow.refl _)
  obtain ⟨b0, b1, b2, b3⟩ := b0
  have hmin : min (0 : Int) 2 = 0 := by decide
  by_cases hB1 : 1 < B
  · have y1 : decide ((B : Int) > 1) = true := by simp; omega
    have y1n : decide (1 < B) = true := by simp; omega
    have y2 : decide ((B : Int) ≤ 1) = false := by simp; omega
    have y2n : decide (B ≤ 1) = false := by simp; omega
    have hz : ¬ ((B : Int) = 0) := by omega
    have hzn : ¬ (B = 0) := by omega
    clear hB1
    have tq := TQ.out
    obtain ⟨vq, vq'⟩ := VQ.out
    go_enter Tryz.func96, Tryz.ntmps96
    go_upto_region 1 with fail
    rw [← HW1.out, ← HW2.out]
    go_upto_region 9 with (first
      | (go_at_call 117; (with_reducible refine (BT.out _ (G2.out.trans (by (repeat (first | with_reducible exact Grow.refl _ | with_reducible refine Grow.alloc ?_ _ | with_reducible refine Grow.drew ?_ | with_reducible refine Grow.drewN ?_ _ | (with_reducible refine Grow.setCell ?_ ?hp _; (case hp => (simp; try omega))) | with_reducible refine Grow.trans ?_ (by assumption)))))).mono ?_); (rintro e u3 ⟨rfl, hb3⟩))
      | (go_at_call 19; (with_reducible refine (O1.out _).mono ?_); (rintro e u4 ⟨v4, rfl, hv4, hb4⟩; obtain ⟨s4, a4, l4, c4, rfl⟩ := hv4.form; have HV4 := Lib.hid hv4; clear hv4)))
    clear y1 y1n y2 y2n tq vq vq' hz hzn
    have hgx : Grow W2 (u4.alloc (.cells #[.bool s4, .slice a4 l4 c4] 25)) := by (repeat (first | with_reducible exact Grow.refl _ | with_reducible refine Grow.alloc ?_ _ | with_reducible refine Grow.drew ?_ | with_reducible refine Grow.drewN ?_ _ | (with_reducible refine Grow.setCell ?_ ?hp _; (case hp => (simp; try omega))) | with_reducible refine Grow.trans ?_ (by assumption)))
    obtain ⟨X, hX⟩ : ∃ X, u4.heap.size = X := ⟨_, rfl⟩
    obtain ⟨w5, hw5⟩ : ∃ w5, w5 = u4.alloc (.cells #[.bool s4, .slice a4 l4 c4] 25) := ⟨_, rfl⟩
    rw [← hw5] at hgx
    rw [← hw5]
    obtain ⟨x0, x1, x2, x3⟩ := ak2 hw5 w5 (Grow.refl _)
    have HV5 := Lib.hid (HV4.out.grow (ag hw5))
    have HGX := Lib.hid hgx
    rw [hX] at x0 x1 x2 x3
    try rw [hX]
    clear hw5 hX hgx hb3 hb4 HV4 b0 b1 b2 b3
    go_wp2_with (go_at_call 52; (with_reducible refine (LN.out _).mono ?_); (rintro e u6 ⟨rfl, rfl⟩))
    go_loopg [8] 0 (fun gk t8 wr => t8 = .int .i64 (-1) ∧ wr = u6)
    case atStart => exact ⟨rfl, rfl⟩
    case round =>
      obtain ⟨rfl, rfl⟩ := hrel
      obtain ⟨sr, ar, lr, cr, hcR, -⟩ := int_cells (RB.out.grow HGX.out)
      obtain ⟨r0, r1, r2, r3⟩ := hcR wr (Grow.refl _)
      have HNR := Lib.hid (RB.out.grow HGX.out).2.1
      have HG9 := Lib.hid (G2.out.trans HGX.out)
      clear hcR
      go_wp2_with fail
      refine bodyPost_ret (v := .tuple #[.agg #[.bool s4, .slice a4 l4 c4], .int .i64 0]) (by rw [results_cell_tmp rfl]; go_simp) rfl ⟨_, rfl, HV5.out.set2 HNR.out _ _ _ _, ?_⟩
      exact (HG9.out.setCell (by show w.heap.size ≤ w.heap.size + 1; omega) _).setCell (by show w.heap.size ≤ w.heap.size + 1; omega) _
  · have y1 : decide ((B : Int) > 1) = false := by simp; omega
    have y1n : decide (1 < B) = false := by simp; omega
    have y2 : decide ((B : Int) ≤ 1) = true := by simp; omega
    have y2n : decide (B ≤ 1) = true := by simp; omega
    clear hB1
    go_enter Tryz.func96, Tryz.ntmps96
    go_upto_region 1 with fail
    rw [← HW1.out, ← HW2.out]
    go_upto_region 9 with (first
      | (go_at_call 117; (with_reducible refine (BT.out _ (G2.out.trans (by (repeat (first | with_reducible exact Grow.refl _ | with_reducible refine Grow.alloc ?_ _ | with_reducible refine Grow.drew ?_ | with_reducible refine Grow.drewN ?_ _ | (with_reducible refine Grow.setCell ?_ ?hp _; (case hp => (simp; try omega))) | with_reducible refine Grow.trans ?_ (by assumption)))))).mono ?_); (rintro e u3 ⟨rfl, hb3⟩))
      | (go_at_call 19; (with_reducible refine (O1.out _).mono ?_); (rintro e u4 ⟨v4, rfl, hv4, hb4⟩; obtain ⟨s4, a4, l4, c4, rfl⟩ := hv4.form; have HV4 := Lib.hid hv4; clear hv4)))
    clear y1 y1n y2 y2n
    have hgx : Grow W2 (u4.alloc (.cells #[.bool s4, .slice a4 l4 c4] 25)) := by (repeat (first | with_reducible exact Grow.refl _ | with_reducible refine Grow.alloc ?_ _ | with_reducible refine Grow.drew ?_ | with_reducible refine Grow.drewN ?_ _ | (with_reducible refine Grow.setCell ?_ ?hp _; (case hp => (simp; try omega))) | with_reducible refine Grow.trans ?_ (by assumption)))
    obtain ⟨X, hX⟩ : ∃ X, u4.heap.size = X := ⟨_, rfl⟩
    obtain ⟨w5, hw5⟩ : ∃ w5, w5 = u4.alloc (.cells #[.bool s4, .slice a4 l4 c4] 25) := ⟨_, rfl⟩
    rw [← hw5] at hgx
    rw [← hw5]
    obtain ⟨x0, x1, x2, x3⟩ := ak2 hw5 w5 (Grow.refl _)
    have HV5 := Lib.hid (HV4.out.grow (ag hw5))
    have HGX := Lib.hid hgx
    rw [hX] at x0 x1 x2 x3
    try rw [hX]
    clear hw5 hX hgx hb3 hb4 HV4 b0 b1 b2 b3
    go_wp2_with (go_at_call 52; (with_reducible refine (LN.out _).mono ?_); (rintro e u6 ⟨rfl, rfl⟩))
    go_loopg [8] 0 (fun gk t8 wr => t8 = .int .i64 (-1) ∧ wr = u6)
    case atStart => exact ⟨rfl, rfl⟩
    case round =>
      obtain ⟨rfl, rfl⟩ := hrel
      obtain ⟨sr, ar, lr, cr, hcR, -⟩ := int_cells (RB.out.grow HGX.out)
      obtain ⟨r0, r1, r2, r3⟩ := hcR wr (Grow.refl _)
      have HNR := Lib.hid (RB.out.grow HGX.out).2.1
      have HG9 := Lib.hid (G2.out.trans HGX.out)
      clear hcR
      go_wp2_with fail
      refine bodyPost_ret (v := .tuple #[.agg #[.bool s4, .slice a4 l4 c4], .int .i64 0]) (by rw [results_cell_tmp rfl]; go_simp) rfl ⟨_, rfl, HV5.out.set2 HNR.out _ _ _ _, ?_⟩
      exact (HG9.out.setCell (by show w.heap.size ≤ w.heap.size + 1; omega) _).setCell (by show w.heap.size ≤ w.heap.size + 1; omega) _
set_option maxRecDepth 20000 in
set_option maxHeartbeats 8000000 in
theorem bitsRQ (x : Rat) (v1 : Value) (w : World) (h1 : RatR w v1 x) : Calls Tryz.prog 95 #[v1] w fun e w' => (∃ s : Nat, e = .returned (.int .i64 (s : Int)) ∧ s ≤ 64) ∧ Grow w w' := by
  obtain ⟨s1, a1, l1, c1, t1, b1, k1, e1, rfl⟩ := h1.form
  have NQ := Lib.hid (fun u hu => normalQ x _ u (h1.grow hu))
  obtain ⟨W1, hW1⟩ : ∃ W1 : World, W1 = w.alloc (.cells #[.bool s1, .slice a1 l1 c1, .bool t1, .slice b1 k1 e1] 27) := ⟨_, rfl⟩
  have HR1 := Lib.hid (rowq_lay hW1 h1)
  have HG1 := Lib.hid (ag hW1)
  have K1 := Lib.hid (ak4 hW1)
  have HW1 := Lib.hid hW1
  clear hW1 h1
  obtain ⟨f0, f1, f2, f3, f4, f5⟩ := K1.out W1 (Grow.refl _)
  go_enter Tryz.func95, Tryz.ntmps95
  go_upto_region 1 with fail
  rw [← HW1.out]
  go_upto_region 2 with (go_at_call 22; (with_reducible refine (NQ.out _ HG1.out).mono ?_); (rintro e u2 ⟨v2, rfl, hv2, hb2⟩; obtain ⟨s2, a2, l2, c2, t2, b2, k2, e2, rfl⟩ := hv2.form; have HV2 := Lib.hid hv2; have HG2 := Lib.hid hb2; clear hv2 hb2 f0 f1 f2 f3 f4 f5; obtain ⟨f0, f1, f2, f3, f4, f5⟩ := K1.out u2 HG2.out))
  have hru := RowP.grow HR1.out HG2.out
  have hst1 := RowP.set hru (show 0 < 1 by omega) HV2.out
  have hst2 := But.st4 (X := fun b => b = w.heap.size) (HG2.out.but _) (.inr rfl) (hru.q4 (show 0 < 1 by omega)) s2 a2 l2 c2 t2 b2 k2 e2
  simp only [Nat.zero_mul, Nat.add_zero] at hst1 hst2
  obtain ⟨w3, hw3⟩ : ∃ w3, st4 u2 w.heap.size 0 (.bool s2) (.slice a2 l2 c2) (.bool t2) (.slice b2 k2 e2) = w3 := ⟨_, rfl⟩
  have hw4 : ((((u2.setCell ⟨w.heap.size, 0, none⟩ (.bool s2)).setCell ⟨w.heap.size, 1, none⟩ (.slice a2 l2 c2)).setCell ⟨w.heap.size, 2, none⟩ (.bool t2)).setCell ⟨w.heap.size, 3, none⟩ (.slice b2 k2 e2)) = w3 := hw3
  rw [hw3] at hst1 hst2
  rw [hw4]
  have HG3 : Hid (Grow w w3) := Lib.hid (((HG1.out.but _).trans hst2).asGrow (fun b hb => by omega))
  have hr3 : RowQ w3 w.heap.size 0 1 (fun _ => x) := RowP.mono hst1 (Nat.le_refl _) (fun j y hj hy => by rw [if_pos (by omega)]; exact hy)
  obtain ⟨s4, a4, l4, c4, t4, b4, k4, e4, ⟨p0, p1, p2, p3⟩, hv4⟩ := RowQ.at4 hr3 (show 0 < 1 by omega)
  rw [Nat.zero_mul, Nat.add_zero] at p0 p1 p2 p3
  have hl3 := hr3.lt
  have D3 := Lib.hid (fun (u : World) (hg : Grow w3 u) => (⟨(hg.cells _ _ hl3).trans p0, (hg.cells _ _ hl3).trans p1, (hg.cells _ _ hl3).trans p2, (hg.cells _ _ hl3).trans p3, Nat.lt_of_lt_of_le hl3 hg.size⟩ : _ ∧ _ ∧ _ ∧ _ ∧ _))
  have hn := hv4.num
  have hd := hv4.den
  have BN := Lib.hid (fun u (hu : Grow w3 u) => bitsV x.num _ u (hn.grow hu))
  have BD := Lib.hid (fun u (hu : Grow w3 u) => bitsV (x.den : Int) _ u (hd.grow hu))
  have hb1 : Lib.bitLen x.num.natAbs ≤ 32 := Lib.bitLen_le _ 32 (by omega) (by have := hn.lt; omega)
  have hb2 : Lib.bitLen (x.den : Int).natAbs ≤ 32 := Lib.bitLen_le _ 32 (by omega) (by have := hd.lt; omega)
  obtain ⟨n1, hn1⟩ : ∃ n1, Lib.bitLen x.num.natAbs = n1 := ⟨_, rfl⟩
  obtain ⟨n2, hn2⟩ : ∃ n2, Lib.bitLen (x.den : Int).natAbs = n2 := ⟨_, rfl⟩
  rw [hn1] at BN hb1
  rw [hn2] at BD hb2
  obtain ⟨M, hM⟩ : ∃ M, max n1 n2 = M := ⟨_, rfl⟩
  have X1 : Hid (max (n1 : Int) (n2 : Int) = (M : Int)) := Lib.hid (by omega)
  have X2 : Hid ((if (n2 : Int) > (n1 : Int) then (n2 : Int) else (n1 : Int)) = (M : Int)) := Lib.hid (by split <;> omega)
  have X3 : Hid ((if n2 > n1 then (n2 : Int) else (n1 : Int)) = (M : Int)) := Lib.hid (by split <;> omega)
  have hMb : M ≤ 64 := by omega
  clear hru hst1 hst2 hw3 hw4 hr3 p0 p1 p2 p3 hv4 hl3 hn hd hb1 hb2 hn1 hn2 hM f0 f1 f2 f3 f4 f5
  have x1 := X1.out
  have x2 := X2.out
  have x3 := X3.out
  refine region_held (id := 2) (fun v => Grow w3 v) [0, 1, 3, 4, 2, 5, 6, 7] (kdL [0, 1, 2, 0, 1, 2, 2, 0]) (by kernel_rfl) (by kernel_rfl) (fun t ht => kdL_lt _ t ht) ?hS0p ?_
  case hS0p => ((try dsimp only); (repeat (first | with_reducible exact Grow.refl _ | with_reducible refine Grow.alloc ?_ _ | with_reducible refine Grow.drew ?_ | with_reducible refine Grow.drewN ?_ _ | (with_reducible refine Grow.setCell ?_ ?hp _; (case hp => (simp; try omega))) | with_reducible refine Grow.trans ?_ (by assumption))))
  refine held_quiet (v := ?vp0) rfl rfl (Or.inl ⟨by rfl, ?hyp0⟩) ?_
  case hyp0 => (intro u hu; go_simp; (try with_reducible rfl))
  (try simp only [Act.put, List.setIfInBounds_toArray, List.set_cons_zero, List.set_cons_succ])
  refine held_read (v := ?vp1) rfl rfl (Or.inl ⟨by rfl, ?hyp1⟩) ?_
  case hyp1 => (intro u hu; obtain ⟨d0, d1, d2, d3, d4⟩ := D3.out u hu; go_simp; (try with_reducible rfl))
  (try simp only [Act.put, List.setIfInBounds_toArray, List.set_cons_zero, List.set_cons_succ])
  refine held_quiet (v := ?vp3) rfl rfl (Or.inl ⟨by rfl, ?hyp3⟩) ?_
  case hyp3 => (intro u hu; go_simp; (try with_reducible rfl))
  (try simp only [Act.put, List.setIfInBounds_toArray, List.set_cons_zero, List.set_cons_succ])
  refine held_read (v := ?vp4) rfl rfl (Or.inl ⟨by rfl, ?hyp4⟩) ?_
  case hyp4 => (intro u hu; obtain ⟨d0, d1, d2, d3, d4⟩ := D3.out u hu; go_simp; (try with_reducible rfl))
  (try simp only [Act.put, List.setIfInBounds_toArray, List.set_cons_zero, List.set_cons_succ])
  refine held_op rfl rfl (fun K hK => ?_)
  go_simp
  (go_at_call 117; (with_reducible refine (BN.out _ (by (repeat (first | with_reducible exact Grow.refl _ | with_reducible refine Grow.alloc ?_ _ | with_reducible refine Grow.drew ?_ | with_reducible refine Grow.drewN ?_ _ | (with_reducible refine Grow.setCell ?_ ?hp _; (case hp => (simp; try omega))) | with_reducible refine Grow.trans ?_ (by assumption))))).mono ?_); (rintro x u41 ⟨rfl, hb41⟩))
  (try go_wp2_with fail)
  refine hK.out _ _ ?hSp2 ?_
  case hSp2 => ((try dsimp only); (repeat (first | with_reducible exact Grow.refl _ | with_reducible refine Grow.alloc ?_ _ | with_reducible refine Grow.drew ?_ | with_reducible refine Grow.drewN ?_ _ | (with_reducible refine Grow.setCell ?_ ?hp _; (case hp => (simp; try omega))) | with_reducible refine Grow.trans ?_ (by assumption))))
  clear hK K
  (try simp only [Act.put, List.setIfInBounds_toArray, List.set_cons_zero, List.set_cons_succ])
  refine held_op rfl rfl (fun K hK => ?_)
  go_simp
  (go_at_call 117; (with_reducible refine (BD.out _ (by (repeat (first | with_reducible exact Grow.refl _ | with_reducible refine Grow.alloc ?_ _ | with_reducible refine Grow.drew ?_ | with_reducible refine Grow.drewN ?_ _ | (with_reducible refine Grow.setCell ?_ ?hp _; (case hp => (simp; try omega))) | with_reducible refine Grow.trans ?_ (by assumption))))).mono ?_); (rintro x u42 ⟨rfl, hb42⟩))
  (try go_wp2_with fail)
  refine hK.out _ _ ?hSp5 ?_
  case hSp5 => ((try dsimp only); (repeat (first | with_reducible exact Grow.refl _ | with_reducible refine Grow.alloc ?_ _ | with_reducible refine Grow.drew ?_ | with_reducible refine Grow.drewN ?_ _ | (with_reducible refine Grow.setCell ?_ ?hp _; (case hp => (simp; try omega))) | with_reducible refine Grow.trans ?_ (by assumption))))
  clear hK K
  (try simp only [Act.put, List.setIfInBounds_toArray, List.set_cons_zero, List.set_cons_succ])
  refine held_op rfl rfl (fun K hK => ?_)
  go_simp
  refine hK.out _ _ ?hSp6 ?_
  case hSp6 => ((try dsimp only); (repeat (first | with_reducible exact Grow.refl _ | with_reducible refine Grow.alloc ?_ _ | with_reducible refine Grow.drew ?_ | with_reducible refine Grow.drewN ?_ _ | (with_reducible refine Grow.setCell ?_ ?hp _; (case hp => (simp; try omega))) | with_reducible refine Grow.trans ?_ (by assumption))))
  clear hK K
  (try simp only [Act.put, List.setIfInBounds_toArray, List.set_cons_zero, List.set_cons_succ])
  refine held_quiet (v := ?vp7) rfl rfl (Or.inl ⟨by rfl, ?hyp7⟩) ?_
  case hyp7 => (intro u hu; go_simp; (try with_reducible rfl))
  (try simp only [Act.put, List.setIfInBounds_toArray, List.set_cons_zero, List.set_cons_succ])
  refine held_done ?_
  go_simp
  go_wp2_with fail
  clear x1 x2 x3
  go_ret
  exact ⟨⟨M, rfl, hMb⟩, HG3.out.trans (by (repeat (first | with_reducible exact Grow.refl _ | with_reducible refine Grow.alloc ?_ _ | with_reducible refine Grow.drew ?_ | with_reducible refine Grow.drewN ?_ _ | (with_reducible refine Grow.setCell ?_ ?hp _; (case hp => (simp; try omega))) | with_reducible refine Grow.trans ?_ (by assumption))))⟩
set_option maxRecDepth 20000 in
set_option maxHeartbeats 8000000 in
theorem pow0Q (x : Rat) (v1 : Value) (w : World) (h1 : RatR w v1 x) : Calls Tryz.prog 57 #[v1, .int .i64 0] w fun e w' => ∃ v, e = .returned (.tuple #[v, .int .i64 0]) ∧ RatR w' v ((1 : Int) : Rat) ∧ Grow w w' := by
  obtain ⟨s1, a1, l1, c1, t1, b1, k1, e1, rfl⟩ := h1.form
  have NQ := Lib.hid (fun u hu => normalQ x _ u (h1.grow hu))
  have BQ := Lib.hid (fun v u hu => bitsRQ x v u hu)
  have PV := Lib.hid (fun z v u hu => pow0V z v u hu)
  have WH := Lib.hid (fun v u hu => wholeQ 1 v u hu)
  have OV : Hid (∀ (v v' : Value) (u : World), IntR u v 1 → IntR u v' 1 → Calls Tryz.prog 26 #[v, v'] u fun e w' => ∃ r, e = .returned r ∧ RatR w' r ((1 : Int) : Rat) ∧ Grow u w') := Lib.hid (fun v v' u g1 g2 => by
    have h := overV 1 1 v v' u g1 g2
    rw [show Rat.divInt 1 1 = ((1 : Int) : Rat) by decide +kernel] at h
    exact h)
  obtain ⟨W1, hW1⟩ : ∃ W1 : World, W1 = w.alloc (.cells #[.bool s1, .slice a1 l1 c1, .bool t1, .slice b1 k1 e1] 27) := ⟨_, rfl⟩
  obtain ⟨W2, hW2⟩ : ∃ W2 : World, W2 = W1.alloc (.cells #[.bool false, .slice none 0 0, .bool false, .slice none 0 0] 27) := ⟨_, rfl⟩
  have hz1 : W1.heap.size = w.heap.size + 1 := by rw [hW1]; simp
  have hg2 : Grow w W2 := (ag hW1).trans (ag hW2)
  have HR1 := Lib.hid (RowP.grow (rowq_lay hW1 h1) (ag hW2))
  have K1 : Hid (∀ u : World, Grow W2 u → u.cell? ⟨w.heap.size, 0, none⟩ = some (.bool s1) ∧ u.cell? ⟨w.heap.size, 1, none⟩ = some (.slice a1 l1 c1) ∧ u.cell? ⟨w.heap.size, 2, none⟩ = some (.bool t1) ∧ u.cell? ⟨w.heap.size, 3, none⟩ = some (.slice b1 k1 e1) ∧ (∀ o, u.frozen? ⟨w.heap.size, o, none⟩ = false) ∧ w.heap.size < u.heap.size) := Lib.hid (fun u hu => ak4 hW1 u ((ag hW2).trans hu))
  have K20 : ∀ u : World, Grow W2 u → u.cell? ⟨w.heap.size + 1, 0, none⟩ = some (.bool false) ∧ u.cell? ⟨w.heap.size + 1, 1, none⟩ = some (.slice none 0 0) ∧ u.cell? ⟨w.heap.size + 1, 2, none⟩ = some (.bool false) ∧ u.cell? ⟨w.heap.size + 1, 3, none⟩ = some (.slice none 0 0) ∧ (∀ o, u.frozen? ⟨w.heap.size + 1, o, none⟩ = false) ∧ w.heap.size + 1 < u.heap.size := fun u hu => by have := ak4 hW2 u hu; rw [hz1] at this; exact this
  have RC : Hid (RowP W2 (w.heap.size + 1) 0 1 (fun _ => none)) := Lib.hid (by rw [hW2, ← hz1]; exact rowp_alloc W1 _)
  have HG2 := Lib.hid hg2
  have HW1 := Lib.hid hW1
  have HW2 := Lib.hid hW2
  have K2 := Lib.hid K20
  clear hW1 hW2 hz1 hg2 h1 K20
  obtain ⟨f0, f1, f2, f3, f4, f5⟩ := K1.out W2 (Grow.refl _)
  go_enter Tryz.func57, Tryz.ntmps57
  go_upto_region 1 with fail
  rw [← HW1.out, ← HW2.out]
  go_upto_region 2 with (go_at_call 22; (with_reducible refine (NQ.out _ HG2.out).mono ?_); (rintro e u2 ⟨v2, rfl, hv2, hb2⟩; obtain ⟨s2, a2, l2, c2, t2, b2, k2, e2, rfl⟩ := hv2.form; have HV2 := Lib.hid hv2; have HGB := Lib.hid hb2; clear hv2 hb2 f0 f1 f2 f3 f4 f5; obtain ⟨f0, f1, f2, f3, f4, f5⟩ := K1.out u2 HGB.out))
  have hru := RowP.grow HR1.out HGB.out
  have hst1 := RowP.set hru (show 0 < 1 by omega) HV2.out
  have hst2 := But.st4 (X := fun b => b = w.heap.size) (HGB.out.but _) (.inr rfl) (hru.q4 (show 0 < 1 by omega)) s2 a2 l2 c2 t2 b2 k2 e2
  simp only [Nat.zero_mul, Nat.add_zero] at hst1 hst2
  obtain ⟨w3, hw3⟩ : ∃ w3, st4 u2 w.heap.size 0 (.bool s2) (.slice a2 l2 c2) (.bool t2) (.slice b2 k2 e2) = w3 := ⟨_, rfl⟩
  have hw4 : ((((u2.setCell ⟨w.heap.size, 0, none⟩ (.bool s2)).setCell ⟨w.heap.size, 1, none⟩ (.slice a2 l2 c2)).setCell ⟨w.heap.size, 2, none⟩ (.bool t2)).setCell ⟨w.heap.size, 3, none⟩ (.slice b2 k2 e2)) = w3 := hw3
  rw [hw3] at hst1 hst2
  rw [hw4]
  have HG3 : Hid (Grow w w3) := Lib.hid (((HG2.out.but _).trans hst2).asGrow (fun b hb => by omega))
  have HB3 := Lib.hid hst2
  have hr3 : RowQ w3 w.heap.size 0 1 (fun _ => x) := RowP.mono hst1 (Nat.le_refl _) (fun j y hj hy => by rw [if_pos (by omega)]; exact hy)
  obtain ⟨s4, a4, l4, c4, t4, b4, k4, e4, ⟨p0, p1, p2, p3⟩, hv4⟩ := RowQ.at4 hr3 (show 0 < 1 by omega)
  rw [Nat.zero_mul, Nat.add_zero] at p0 p1 p2 p3
  have hl3 := hr3.lt
  have D3 := Lib.hid (fun (u : World) (hg : Grow w3 u) => (⟨(hg.cells _ _ hl3).trans p0, (hg.cells _ _ hl3).trans p1, (hg.cells _ _ hl3).trans p2, (hg.cells _ _ hl3).trans p3, Nat.lt_of_lt_of_le hl3 hg.size⟩ : _ ∧ _ ∧ _ ∧ _ ∧ _))
  have RC3 : Hid (RowP w3 (w.heap.size + 1) 0 1 (fun _ => none)) := Lib.hid (RowP.but RC.out (X := fun b => b = w.heap.size) (by omega) HB3.out)
  have KR : Hid (∀ u : World, Grow w3 u → ∃ s a l c t b k e, u.cell? ⟨w.heap.size + 1, 0, none⟩ = some (.bool s) ∧ u.cell? ⟨w.heap.size + 1, 1, none⟩ = some (.slice a l c) ∧ u.cell? ⟨w.heap.size + 1, 2, none⟩ = some (.bool t) ∧ u.cell? ⟨w.heap.size + 1, 3, none⟩ = some (.slice b k e) ∧ (∀ o, u.frozen? ⟨w.heap.size + 1, o, none⟩ = false) ∧ w.heap.size + 1 < u.heap.size) := Lib.hid (fun u hu => by
    have h := RowP.grow RC3.out hu
    obtain ⟨s, a, l, c, t, b, k, e, q0, q1, q2, q3⟩ := h.q4 (show 0 < 1 by omega)
    simp only [Nat.zero_mul, Nat.add_zero, Nat.zero_add] at q0 q1 q2 q3
    exact ⟨s, a, l, c, t, b, k, e, q0, q1, q2, q3, h.free, h.lt⟩)
  have HV4 := Lib.hid hv4
  clear hru hst1 hst2 hw3 hw4 hr3 p0 p1 p2 p3 hv4 hl3 f0 f1 f2 f3 f4 f5 HR1 HB3
  obtain ⟨d0, d1, d2, d3, d4⟩ := D3.out w3 (Grow.refl _)
  go_upto_region 5 with (go_at_call 95; (with_reducible refine (BQ.out _ _ HV4.out).mono ?_); (rintro e u5 ⟨⟨s, rfl, hs⟩, hb5⟩; have HG5 := Lib.hid hb5; clear hb5 d0 d1 d2 d3 d4; obtain ⟨d0, d1, d2, d3, d4⟩ := D3.out u5 HG5.out))
  by_cases hs1 : s ≤ 1
  · have y1 : decide ((s : Int) ≤ 1) = true := by simp; omega
    have y1n : decide (s ≤ 1) = true := by simp; omega
    clear hs1
    go_upto_region 10 with (go_at_call 96; (with_reducible refine (PV.out x.num _ _ ((HV4.out.grow HG5.out).num)).mono ?_); (rintro e u6 ⟨v6, rfl, hv6, hb6⟩; obtain ⟨s6, a6, l6, c6, rfl⟩ := hv6.form; have HV6 := Lib.hid hv6; have HG6 := Lib.hid (HG5.out.trans hb6); clear hv6 hb6))
    clear y1 y1n d0 d1 d2 d3 d4
    obtain ⟨W7, hW7⟩ : ∃ W7 : World, W7 = u6.alloc (.cells #[.bool s6, .slice a6 l6 c6] 25) := ⟨_, rfl⟩
    rw [← hW7]
    have HG7 := Lib.hid (HG6.out.trans (ag hW7))
    have HV7 := Lib.hid (HV6.out.grow (ag hW7))
    obtain ⟨x0, x1, x2, x3⟩ := ak2 hW7 W7 (Grow.refl _)
    clear hW7
    go_wp2_with (go_at_call 93; (with_reducible refine (WH.out _ _ HV7.out).mono ?_); (rintro e u8 ⟨v8, rfl, hv8, hb8⟩; obtain ⟨s8, a8, l8, c8, t8, b8, k8, e8, rfl⟩ := hv8.form; have HV8 := Lib.hid hv8; have HG8 := Lib.hid (HG7.out.trans hb8); clear hv8 hb8; obtain ⟨qs, qa, ql, qc, qt, qb, qk, qe, q0, q1, q2, q3, qf, qz⟩ := KR.out u8 HG8.out))
    obtain ⟨h1, h2⟩ := rescell (w := w) (RowP.grow RC3.out HG8.out) (Nat.le_succ _) (HG3.out.trans HG8.out) HV8.out
    exact bodyPost_ret (v := .tuple #[.agg #[.bool s8, .slice a8 l8 c8, .bool t8, .slice b8 k8 e8], .int .i64 0]) (by rw [results_cell_tmp rfl]; go_simp) rfl ⟨_, rfl, h1, h2⟩
  · have y1 : decide ((s : Int) ≤ 1) = false := by simp; omega
    have y1n : decide (s ≤ 1) = false := by simp; omega
    obtain ⟨Q, hQ⟩ : ∃ Q : Int, Int.tdiv 1048576 (s : Int) = Q := ⟨_, rfl⟩
    have hQ0 : 0 ≤ Q ∧ Q ≤ 1048576 := by
      rw [← hQ, Int.tdiv_eq_ediv_of_nonneg (by omega)]
      exact ⟨Int.ediv_nonneg (by omega) (by omega), Int.ediv_le_self _ (by omega)⟩
    have TQ := Lib.hid hQ
    have VQ := Lib.hid (w64n (n := Q) (by omega))
    have VN := Lib.hid (w64n (n := -Q) (by omega))
    have yQ : decide ((0 : Int) > Q) = false := by simp; omega
    have yN : decide ((0 : Int) < -Q) = false := by simp; omega
    have yQ2 : decide (Q < 0) = false := by simp; omega
    have hsz : ¬ ((s : Int) = 0) := by omega
    have hsn : ¬ (s = 0) := by omega
    clear hQ hs1 hQ0
    have tq := TQ.out
    obtain ⟨vq, vq'⟩ := VQ.out
    obtain ⟨vn, vn'⟩ := VN.out
    go_upto_region 14 with (go_at_call 96; (with_reducible refine (PV.out x.num _ _ ((HV4.out.grow HG5.out).num)).mono ?_); (rintro e u6 ⟨v6, rfl, hv6, hb6⟩; obtain ⟨s6, a6, l6, c6, rfl⟩ := hv6.form; have HV6 := Lib.hid hv6; have HG6 := Lib.hid (HG5.out.trans hb6); clear hv6 hb6))
    clear y1 y1n yQ yN yQ2 tq vq vq' vn vn' d0 d1 d2 d3 d4
    obtain ⟨W7, hW7⟩ : ∃ W7 : World, W7 = u6.alloc (.cells #[.bool s6, .slice a6 l6 c6] 25) := ⟨_, rfl⟩
    rw [← hW7]
    have HG7 := Lib.hid (HG6.out.trans (ag hW7))
    have HV7 := Lib.hid (HV6.out.grow (ag hW7))
    have K7 := Lib.hid (ak2 hW7)
    obtain ⟨X, hX⟩ : ∃ X, u6.heap.size = X := ⟨_, rfl⟩
    rw [hX] at K7
    try rw [hX]
    clear hW7 hX
    obtain ⟨d0, d1, d2, d3, d4⟩ := D3.out W7 HG7.out
    go_upto_region 15 with (go_at_call 96; (with_reducible refine (PV.out (x.den : Int) _ _ ((HV4.out.grow HG7.out).den)).mono ?_); (rintro e u8 ⟨v8, rfl, hv8, hb8⟩; obtain ⟨s8, a8, l8, c8, rfl⟩ := hv8.form; have HV8 := Lib.hid hv8; have HG8 := Lib.hid hb8; clear hv8 hb8))
    clear d0 d1 d2 d3 d4
    obtain ⟨W9, hW9⟩ : ∃ W9 : World, W9 = u8.alloc (.cells #[.bool s8, .slice a8 l8 c8] 25) := ⟨_, rfl⟩
    rw [← hW9]
    have HG9 := Lib.hid (HG8.out.trans (ag hW9))
    have HV9 := Lib.hid (HV8.out.grow (ag hW9))
    obtain ⟨x0, x1, x2, x3⟩ := ak2 hW9 W9 (Grow.refl _)
    obtain ⟨z0, z1, z2, z3⟩ := K7.out W9 HG9.out
    clear hW9
    go_wp2_with (go_at_call 26; (with_reducible refine (OV.out _ _ _ (HV7.out.grow HG9.out) HV9.out).mono ?_); (rintro e u10 ⟨v10, rfl, hv10, hb10⟩; obtain ⟨s10, a10, l10, c10, t10, b10, k10, e10, rfl⟩ := hv10.form; have HV10 := Lib.hid hv10; have HG10 := Lib.hid (HG7.out.trans (HG9.out.trans hb10)); clear hv10 hb10; obtain ⟨qs, qa, ql, qc, qt, qb, qk, qe, q0, q1, q2, q3, qf, qz⟩ := KR.out u10 HG10.out))
    obtain ⟨h1, h2⟩ := rescell (w := w) (RowP.grow RC3.out HG10.out) (Nat.le_succ _) (HG3.out.trans HG10.out) HV10.out
    exact bodyPost_ret (v := .tuple #[.agg #[.bool s10, .slice a10 l10 c10, .bool t10, .slice b10 k10 e10], .int .i64 0]) (by rw [results_cell_tmp rfl]; go_simp) rfl ⟨_, rfl, h1, h2⟩
end Go.Proofs.YtbpkfcohbefphaaGreatDoor
namespace Go.Proofs.YtbpkfcohbefphaaGreatDoor
open Go Go.RowKit
theorem bxB {u0 u : World} {t : TypeId} {z : Int} {s : Bool} {a : Option Addr} {l c : Nat} (hg : Grow (u0.alloc (.cells #[.bool false, .slice none 0 0] t)) u) (hx : IntR u (.agg #[.bool s, .slice a l c]) z) :
    Grow u0 ((u.setCell ⟨u0.heap.size, 0, none⟩ (.bool s)).setCell ⟨u0.heap.size, 1, none⟩ (.slice a l c)) ∧ BxV ((u.setCell ⟨u0.heap.size, 0, none⟩ (.bool s)).setCell ⟨u0.heap.size, 1, none⟩ (.slice a l c)) u0.heap.size z :=
  ⟨(((((Grow.refl u0).alloc _).trans hg).setCell (Nat.le_refl _) _).setCell (Nat.le_refl _) _), ((BxV.zero u0 t).grow hg).putI hx⟩
theorem FrX.putI {w0 u : World} {t : TypeId} {F : Nat} {z : Int} {s : Bool} {a : Option Addr} {l c : Nat} (h : FrX w0 u (.cells #[.bool false, .slice none 0 0] t) F) (hx : IntR u (.agg #[.bool s, .slice a l c]) z) :
    Grow w0 ((u.setCell ⟨F, 0, none⟩ (.bool s)).setCell ⟨F, 1, none⟩ (.slice a l c)) ∧ BxV ((u.setCell ⟨F, 0, none⟩ (.bool s)).setCell ⟨F, 1, none⟩ (.slice a l c)) F z ∧ w0.heap.size ≤ F := by
  obtain ⟨x, h1, rfl, h3⟩ := h
  obtain ⟨h4, h5⟩ := bxB h3 hx
  exact ⟨h1.trans h4, h5, h1.size⟩
theorem FrX.zero {w0 u : World} {t : TypeId} {F : Nat} (h : FrX w0 u (.cells #[.bool false, .slice none 0 0] t) F) : BxV u F 0 := by
  obtain ⟨x, h1, rfl, h3⟩ := h
  exact (BxV.zero x t).grow h3
end Go.Proofs.YtbpkfcohbefphaaGreatDoor
namespace Go.Proofs.YtbpkfcohbefphaaGreatDoor
open Go Go.RowKit
theorem exactV (y z : Int) (u v : Value) (h0 : z ≠ 0) (hd : z ∣ y) (w : World) (h1 : IntR w u y) (h2 : IntR w v z) : Calls Tryz.prog 50 #[u, v] w fun e w' => ∃ q, e = .returned (.tuple #[q, .int .i64 0]) ∧ IntR w' q (y / z) ∧ Grow w w' := by
  obtain ⟨m1, rfl, h1⟩ := h1
  obtain ⟨m2, rfl, h2⟩ := h2
  exact (exact_any y z m1 m2 h0 hd w h1 h2).mono fun _ _ ⟨m, he, hm, hg⟩ => ⟨_, he, ⟨m, rfl, hm⟩, hg⟩
/-- The cells xs are n integers. -/
structure ListZ (w : World) (xs : List Value) (n : Nat) (r : Nat → Int) : Prop where
  len : xs.length = n * 2
  at2 : ∀ j, j < n → ∃ s a l c, xs[j * 2]? = some (.bool s) ∧ xs[j * 2 + 1]? = some (.slice a l c) ∧ IntR w (.agg #[.bool s, .slice a l c]) (r j)
theorem ListZ.but {X : Nat → Prop} {w w' : World} {xs : List Value} {n : Nat} {r : Nat → Int} (h : ListZ w xs n r) (hg : But X w w') : ListZ w' xs n r :=
  ⟨h.len, fun j hj => by
    obtain ⟨s, a, l, c, h1, h2, h3⟩ := h.at2 j hj
    exact ⟨s, a, l, c, h1, h2, h3.but hg⟩⟩
theorem ListZ.grow {w w' : World} {xs : List Value} {n : Nat} {r : Nat → Int} (h : ListZ w xs n r) (hg : Grow w w') : ListZ w' xs n r := h.but (X := fun _ => False) (hg.but _)
theorem ListZ.snoc {w : World} {xs : List Value} {n : Nat} {r : Nat → Int} {s : Bool} {a : Option Addr} {l c : Nat} (h : ListZ w xs n r) (hx : IntR w (.agg #[.bool s, .slice a l c]) (r n)) : ListZ w (xs ++ [.bool s, .slice a l c]) (n + 1) r := by
  have hl := h.len
  refine ⟨by rw [List.length_append, hl]; simp; omega, fun j hj => ?_⟩
  by_cases hjn : j < n
  · obtain ⟨s, a, l, c, h1, h2, h3⟩ := h.at2 j hjn
    exact ⟨s, a, l, c, (List.getElem?_append_left (by omega)).trans h1, (List.getElem?_append_left (by omega)).trans h2, h3⟩
  · obtain rfl : j = n := by omega
    refine ⟨s, a, l, c, ?_, ?_, hx⟩
    · exact (List.getElem?_append_right (by omega)).trans (by rw [show j * 2 - xs.length = 0 by omega]; rfl)
    · exact (List.getElem?_append_right (by omega)).trans (by rw [show j * 2 + 1 - xs.length = 1 by omega]; rfl)
theorem ListZ.nil (w : World) (r : Nat → Int) : ListZ w [] 0 r := ⟨rfl, fun _ h => absurd h (Nat.not_lt_zero _)⟩
/-- Block B holds m integers from its start on. -/
structure RowZ (w : World) (B m : Nat) (r : Nat → Int) : Prop where
  lt : B < w.heap.size
  at2 : ∀ j, j < m → ∃ s a l c, w.cell? ⟨B, j * 2, none⟩ = some (.bool s) ∧ w.cell? ⟨B, j * 2 + 1, none⟩ = some (.slice a l c) ∧ IntR w (.agg #[.bool s, .slice a l c]) (r j)
theorem RowZ.grow {w w' : World} {B m : Nat} {r : Nat → Int} (h : RowZ w B m r) (hg : Grow w w') : RowZ w' B m r :=
  ⟨Nat.lt_of_lt_of_le h.lt hg.size, fun j hj => by
    obtain ⟨s, a, l, c, h1, h2, h3⟩ := h.at2 j hj
    exact ⟨s, a, l, c, (hg.cells _ _ h.lt).trans h1, (hg.cells _ _ h.lt).trans h2, h3.grow hg⟩⟩
theorem own_rowz {w : World} {base g n cap : Nat} {t : TypeId} {xs : List Value} {r : Nat → Int} (h : w.ownsRow base t 2 (.slice (some ⟨g, 0, none⟩) n cap) n xs) (hl : ListZ w xs n r) : RowZ w g n r := by
  obtain ⟨h1, h2, h3, h4, h5⟩ := own_cells h
  refine ⟨h1, fun j hj => ?_⟩
  obtain ⟨s, a, l, c, q1, q2, q3⟩ := hl.at2 j hj
  exact ⟨s, a, l, c, h5 _ _ q1, h5 _ _ q2, q3⟩
theorem infoInt2 : (Tryz.prog.info? 25).map (fun i => (i.zero, i.size, i.bytes)) = some (some (.agg #[.bool false, .slice none 0 0]), 2, 32) := by kernel_rfl
theorem int_news (u : World) (s : Bool) (a : Option Addr) (l c : Nat) (ty : TypeId) : ∀ j x, [Value.bool s, .slice a l c][j]? = some x → (u.alloc (.cells #[.bool s, .slice a l c] ty)).cell? ((⟨u.heap.size, 0, none⟩ : Addr).add j) = some x := by
  intro j x hj
  rw [Addr.add_lit, Nat.zero_add, World.cell?_alloc_at _ _ _ _ rfl]
  match j, hj with
  | 0, hj => simpa using hj
  | 1, hj => simpa using hj
  | j + 2, hj => simp at hj
theorem int_one (s : Bool) (a : Option Addr) (l c : Nat) : ∀ x ∈ [Value.bool s, .slice a l c], x.oneCell' = true := by
  intro x hx
  simp only [List.mem_cons, List.not_mem_nil, or_false] at hx
  rcases hx with rfl | rfl <;> rfl
theorem int_nu (s : Bool) (a : Option Addr) (l c : Nat) : ∀ x ∈ [Value.bool s, .slice a l c], NU x := by
  intro x hx
  simp only [List.mem_cons, List.not_mem_nil, or_false] at hx
  rcases hx with rfl | rfl
  · exact nu_bool _
  · exact nu_slice _ _ _
theorem int_zero_nu : ∀ u ∈ (Value.agg #[.bool false, .slice none 0 0]).cells.toList, NU u := by
  intro u hu
  simp [Value.cells] at hu
  rcases hu with rfl | rfl
  · exact nu_bool _
  · exact nu_slice _ _ _
/-- A block laid by buildSlice with one element, as an own row. -/
theorem OwnG.lay {u : World} {base size : Nat} {t : TypeId} {news : Array Value} (hb : base ≤ u.heap.size) (hs : news.size = size) (hn : ∀ x ∈ news.toList, NU x) : OwnG (u.alloc (.cells news t)) base t size (.slice (some ⟨u.heap.size, 0, none⟩) 1 1) 1 news.toList :=
  ⟨by simp [hs], .inr ⟨u.heap.size, 1, news, rfl, hb, heap_alloc_new u _, Nat.le_refl _, by unfold maxLen; omega, by omega, by rw [Nat.one_mul, ← hs]; exact List.take_of_length_le (by simp), hn⟩⟩
/-- Binomials of 1 and 2. -/
def bnN (n j : Nat) : Int := if n = 2 ∧ j = 1 then 2 else 1
theorem bn_tab (n : Nat) (hn : n = 1 ∨ n = 2) (k q m : Nat) (hk : k = q + 1) (hm : m + k = n + 1) (hk2 : k ≤ n) : (k : Int) ∣ bnN n q * (m : Int) ∧ bnN n q * (m : Int) / (k : Int) = bnN n k ∧ (bnN n q * (m : Int)).natAbs < 4294967296 := by
  rcases hn with rfl | rfl
  · obtain rfl : q = 0 := by omega
    obtain rfl : k = 1 := by omega
    obtain rfl : m = 1 := by omega
    decide
  · rcases (show q = 0 ∨ q = 1 by omega) with rfl | rfl
    · obtain rfl : k = 1 := by omega
      obtain rfl : m = 2 := by omega
      decide
    · obtain rfl : k = 2 := by omega
      obtain rfl : m = 1 := by omega
      decide
set_option maxRecDepth 20000 in
set_option maxHeartbeats 8000000 in
theorem bnrowQ (n : Nat) (hn : n = 1 ∨ n = 2) (w : World) : Calls Tryz.prog 92 #[.int .i64 (n : Int)] w fun e w' => ∃ g c, e = .returned (.slice (some ⟨g, 0, none⟩) (n + 1) c) ∧ RowZ w' g (n + 1) (bnN n) ∧ Grow w w' ∧ w.heap.size ≤ g := by
  obtain ⟨ir, hir, irz0, irz1, irz2⟩ := info_parts infoInt2
  have O1 := Lib.hid (fun u => ofV 1 (by decide) u)
  have HN := Lib.hid hn
  have hn3 : n ≤ 2 := by omega
  have hn1 : 1 ≤ n := by omega
  clear hn
  go_enter Tryz.func92, Tryz.ntmps92
  go_upto_region 2 with (go_at_call 19; (with_reducible refine (O1.out _).mono ?_); (rintro e u2 ⟨v2, rfl, hv2, hb2⟩; obtain ⟨s2, a2, l2, c2, rfl⟩ := hv2.form; have HV2 := Lib.hid hv2; have HG2 := Lib.hid hb2; clear hv2 hb2))
  obtain ⟨W3, hW3⟩ : ∃ W3 : World, W3 = u2.alloc (.cells #[.bool s2, .slice a2 l2 c2] 25) := ⟨_, rfl⟩
  rw [← hW3]
  have HO : Hid (OwnG W3 w.heap.size 25 2 (.slice (some ⟨u2.heap.size, 0, none⟩) 1 1) 1 [.bool s2, .slice a2 l2 c2]) := Lib.hid (by rw [hW3]; exact OwnG.lay HG2.out.size rfl (int_nu s2 a2 l2 c2))
  have hbn0 : bnN n 0 = 1 := by simp [bnN]
  have HL : Hid (ListZ W3 [.bool s2, .slice a2 l2 c2] 1 (bnN n)) := Lib.hid ((ListZ.nil W3 (bnN n)).snoc (by rw [hbn0]; exact HV2.out.grow (ag hW3)))
  have HG3 := Lib.hid (HG2.out.trans (ag hW3))
  obtain ⟨g3, hg3⟩ : ∃ g3, u2.heap.size = g3 := ⟨_, rfl⟩
  rw [hg3] at HO
  rw [hg3]
  clear hW3 hg3 HV2 HG2 O1
  go_wp2_with fail
  go_loopg [3, 4] n (fun gk t3 t4 wr => ∃ (k g c : Nat) (xs : List Value), t3 = .slice (some ⟨g, 0, none⟩) k c ∧ t4 = .int .i64 (k : Int) ∧ 1 ≤ k ∧ k ≤ n + 1 ∧ Hid (gk = n + 1 - k) ∧ Hid (OwnG wr w.heap.size 25 2 (.slice (some ⟨g, 0, none⟩) k c) k xs) ∧ Hid (ListZ wr xs k (bnN n)) ∧ Hid (Grow w wr))
  case atStart => exact ⟨1, g3, 1, _, rfl, rfl, Nat.le_refl _, by omega, Lib.hid (by omega), HO, HL, HG3⟩
  case round =>
    clear HO HL HG3
    obtain ⟨k, g, c, xs, rfl, rfl, hk1, hk2, HGK, HO, HL, HG⟩ := hrel
    by_cases hkn : k = n + 1
    · have y1 : decide ((k : Int) ≤ (n : Int)) = false := by simp; omega
      have y1n : decide (k ≤ n) = false := by simp; omega
      go_wp2_with fail
      clear y1 y1n
      subst hkn
      go_ret
      exact ⟨g, c, rfl, own_rowz HO.out.own HL.out, HG.out, (own_cells HO.out.own).2.1⟩
    · have y1 : decide ((k : Int) ≤ (n : Int)) = true := by simp; omega
      have y1n : decide (k ≤ n) = true := by simp; omega
      obtain ⟨q, hq⟩ : ∃ q, k = q + 1 := ⟨k - 1, by omega⟩
      obtain ⟨m, hm⟩ : ∃ m, m + k = n + 1 := ⟨n + 1 - k, by omega⟩
      obtain ⟨hdv, hex, hbd⟩ := bn_tab n HN.out k q m hq hm (by omega)
      have hrz := own_rowz HO.out.own HL.out
      obtain ⟨se, ae, le, ce, p0, p1, hve⟩ := hrz.at2 q (by omega)
      have hglt := hrz.lt
      have DD := Lib.hid (fun (u : World) (hu : Grow wr u) => (⟨(hu.cells _ _ hglt).trans p0, (hu.cells _ _ hglt).trans p1⟩ : _ ∧ _))
      have OM := Lib.hid (fun u => ofV (m : Int) (by omega) u)
      have OK := Lib.hid (fun u => ofV (k : Int) (by omega) u)
      have ML := Lib.hid (fun (u : World) (v : Value) (hu : Grow wr u) (hv : IntR u v (m : Int)) => mulV (bnN n q) (m : Int) _ v hbd u (hve.grow hu) hv)
      have EX := Lib.hid (fun (u : World) (v v' : Value) (hv : IntR u v (bnN n q * (m : Int))) (hv' : IntR u v' (k : Int)) => exactV _ (k : Int) v v' (by omega) hdv u hv hv')
      rw [hex] at EX
      have E1 : Hid (IntKind.i64.wrap ((k : Int) - 1) = (q : Int) ∧ wrap64 ((k : Int) - 1) = (q : Int)) := Lib.hid (by rw [show (k : Int) - 1 = (q : Int) by omega]; exact w64n (by omega))
      have E2 : Hid (IntKind.i64.wrap ((n : Int) + 1) = ((n + 1 : Nat) : Int) ∧ wrap64 ((n : Int) + 1) = ((n + 1 : Nat) : Int)) := Lib.hid (inc_wrap (i := n) (n := 100) (by omega) (by omega))
      have E3 : Hid (IntKind.i64.wrap ((n : Int) + 1 - (k : Int)) = (m : Int) ∧ wrap64 ((n : Int) + 1 - (k : Int)) = (m : Int)) := Lib.hid (by rw [show (n : Int) + 1 - (k : Int) = (m : Int) by omega]; exact w64n (by omega))
      have E4 : Hid (IntKind.i64.wrap (((n + 1 : Nat) : Int) - (k : Int)) = (m : Int) ∧ wrap64 (((n + 1 : Nat) : Int) - (k : Int)) = (m : Int)) := Lib.hid (by rw [show ((n + 1 : Nat) : Int) - (k : Int) = (m : Int) by omega]; exact w64n (by omega))
      have z0 : (0 : Int) ≤ (q : Int) := by omega
      have z1 : (q : Int) < (k : Int) := by omega
      have z2 : q < k := by omega
      have EI := Lib.hid (inc_wrap (i := k) (n := 100) (by omega) (by omega))
      have hk3 : k ≤ n := by omega
      have hgk3 : n + 1 - (k + 1) < n + 1 - k := by omega
      clear p0 p1 hve hrz hq hm hdv hex hbd hkn
      obtain ⟨e1, e1'⟩ := E1.out
      obtain ⟨e2, e2'⟩ := E2.out
      obtain ⟨e3, e3'⟩ := E3.out
      obtain ⟨e4, e4'⟩ := E4.out
      go_upto_region 5 with fail
      refine region_flex (id := 5) wr [⟨17, 5, .cells #[.bool false, .slice none 0 0] 25⟩] [0, 1, 2, 3, 4, 5, 6, 7, 8, 11, 9, 10, 12, 13, 14, 15, 16] [18, 19] (kdL [0, 0, 0, 0, 1, 0, 0, 0, 0, 2, 2, 0, 2, 2, 0, 0, 0, 2, 3, 0]) (by kernel_rfl) (by kernel_rfl) (fun t ht => kdL_lt _ t ht) (by simp) (by simp) ?hgp ?halp ?_
      case hgp => (repeat (first | with_reducible exact Grow.refl _ | with_reducible refine Grow.alloc ?_ _ | with_reducible refine Grow.drew ?_ | with_reducible refine Grow.drewN ?_ _ | (with_reducible refine Grow.setCell ?_ ?hp _; (case hp => (simp; try omega))) | with_reducible refine Grow.trans ?_ (by assumption)))
      case halp => (intro x hx; simp only [List.mem_cons, List.not_mem_nil, or_false] at hx; subst hx; all_goals (refine ⟨⟨_, rfl, rfl⟩, fun K a u hK => ?_⟩; refine wpOp_step rfl (fun K' hK' => ?_); go_simp; exact hK' _ _ hK))
      refine flex_quiet (v := ?vp0) rfl rfl (fun t => Or.inl ⟨by rfl, ?hyp0⟩) ?_
      case hyp0 => (intro u hu; simp only [aof, List.foldl_cons, List.foldl_nil, Act.put, List.setIfInBounds_toArray, List.set_cons_zero, List.set_cons_succ]; go_simp; (try with_reducible rfl))
      (try simp only [Act.put, List.setIfInBounds_toArray, List.set_cons_zero, List.set_cons_succ])
      refine flex_quiet (v := ?vp1) rfl rfl (fun t => Or.inl ⟨by rfl, ?hyp1⟩) ?_
      case hyp1 => (intro u hu; simp only [aof, List.foldl_cons, List.foldl_nil, Act.put, List.setIfInBounds_toArray, List.set_cons_zero, List.set_cons_succ]; go_simp; (try with_reducible rfl))
      (try simp only [Act.put, List.setIfInBounds_toArray, List.set_cons_zero, List.set_cons_succ])
      refine flex_quiet (v := ?vp2) rfl rfl (fun t => Or.inl ⟨by rfl, ?hyp2⟩) ?_
      case hyp2 => (intro u hu; simp only [aof, List.foldl_cons, List.foldl_nil, Act.put, List.setIfInBounds_toArray, List.set_cons_zero, List.set_cons_succ]; go_simp; (try with_reducible rfl))
      (try simp only [Act.put, List.setIfInBounds_toArray, List.set_cons_zero, List.set_cons_succ])
      refine flex_quiet (v := ?vp3) rfl rfl (fun t => Or.inl ⟨by rfl, ?hyp3⟩) ?_
      case hyp3 => (intro u hu; simp only [aof, List.foldl_cons, List.foldl_nil, Act.put, List.setIfInBounds_toArray, List.set_cons_zero, List.set_cons_succ]; go_simp; (try with_reducible rfl))
      (try simp only [Act.put, List.setIfInBounds_toArray, List.set_cons_zero, List.set_cons_succ])
      refine flex_read (v := ?vp4) rfl rfl (fun t => Or.inl ⟨by rfl, ?hyp4⟩) ?_
      case hyp4 => (intro u hu; obtain ⟨d0, d1⟩ := DD.out u hu; simp only [aof, List.foldl_cons, List.foldl_nil, Act.put, List.setIfInBounds_toArray, List.set_cons_zero, List.set_cons_succ]; go_simp; (try with_reducible rfl))
      (try simp only [Act.put, List.setIfInBounds_toArray, List.set_cons_zero, List.set_cons_succ])
      refine flex_quiet (v := ?vp5) rfl rfl (fun t => Or.inl ⟨by rfl, ?hyp5⟩) ?_
      case hyp5 => (intro u hu; simp only [aof, List.foldl_cons, List.foldl_nil, Act.put, List.setIfInBounds_toArray, List.set_cons_zero, List.set_cons_succ]; go_simp; (try with_reducible rfl))
      (try simp only [Act.put, List.setIfInBounds_toArray, List.set_cons_zero, List.set_cons_succ])
      refine flex_quiet (v := ?vp6) rfl rfl (fun t => Or.inl ⟨by rfl, ?hyp6⟩) ?_
      case hyp6 => (intro u hu; simp only [aof, List.foldl_cons, List.foldl_nil, Act.put, List.setIfInBounds_toArray, List.set_cons_zero, List.set_cons_succ]; go_simp; (try with_reducible rfl))
      (try simp only [Act.put, List.setIfInBounds_toArray, List.set_cons_zero, List.set_cons_succ])
      refine flex_quiet (v := ?vp7) rfl rfl (fun t => Or.inl ⟨by rfl, ?hyp7⟩) ?_
      case hyp7 => (intro u hu; simp only [aof, List.foldl_cons, List.foldl_nil, Act.put, List.setIfInBounds_toArray, List.set_cons_zero, List.set_cons_succ]; go_simp; (try with_reducible rfl))
      (try simp only [Act.put, List.setIfInBounds_toArray, List.set_cons_zero, List.set_cons_succ])
      refine flex_quiet (v := ?vp8) rfl rfl (fun t => Or.inl ⟨by rfl, ?hyp8⟩) ?_
      case hyp8 => (intro u hu; simp only [aof, List.foldl_cons, List.foldl_nil, Act.put, List.setIfInBounds_toArray, List.set_cons_zero, List.set_cons_succ]; go_simp; (try with_reducible rfl))
      (try simp only [Act.put, List.setIfInBounds_toArray, List.set_cons_zero, List.set_cons_succ])
      refine flex_quiet (v := ?vp11) rfl rfl (fun t => Or.inl ⟨by rfl, ?hyp11⟩) ?_
      case hyp11 => (intro u hu; simp only [aof, List.foldl_cons, List.foldl_nil, Act.put, List.setIfInBounds_toArray, List.set_cons_zero, List.set_cons_succ]; go_simp; (try with_reducible rfl))
      (try simp only [Act.put, List.setIfInBounds_toArray, List.set_cons_zero, List.set_cons_succ])
      refine flex_op rfl rfl (fun t9 u9 hu9 K hK => ?_)
      simp only [aof, List.foldl_cons, List.foldl_nil, Act.put, List.setIfInBounds_toArray, List.set_cons_zero, List.set_cons_succ]
      go_simp
      (go_at_call 19; (with_reducible refine (OM.out _).mono ?_); (rintro e u4 ⟨v4, rfl, hv4, hb4⟩; obtain ⟨s4, a4, l4, c4, rfl⟩ := hv4.form; have HV4 := Lib.hid hv4; clear hv4))
      (try go_wp2_with fail)
      refine hK.out _ (.agg #[.bool s4, .slice a4 l4 c4]) _ ?hep9 ?hgp9 ?_
      case hep9 => (simp only [aof, List.foldl_cons, List.foldl_nil, Act.put, List.setIfInBounds_toArray, List.set_cons_zero, List.set_cons_succ])
      case hgp9 => (repeat (first | with_reducible exact Grow.refl _ | with_reducible refine Grow.alloc ?_ _ | with_reducible refine Grow.drew ?_ | with_reducible refine Grow.drewN ?_ _ | (with_reducible refine Grow.setCell ?_ ?hp _; (case hp => (simp; try omega))) | with_reducible refine Grow.trans ?_ (by assumption)))
      clear hK K t9
      (try simp only [Act.put, List.setIfInBounds_toArray, List.set_cons_zero, List.set_cons_succ])
      refine flex_op rfl rfl (fun t10 u10 hu10 K hK => ?_)
      simp only [aof, List.foldl_cons, List.foldl_nil, Act.put, List.setIfInBounds_toArray, List.set_cons_zero, List.set_cons_succ]
      go_simp
      (go_at_call 25; (with_reducible refine (ML.out _ _ (by (repeat (first | with_reducible exact Grow.refl _ | with_reducible refine Grow.alloc ?_ _ | with_reducible refine Grow.drew ?_ | with_reducible refine Grow.drewN ?_ _ | (with_reducible refine Grow.setCell ?_ ?hp _; (case hp => (simp; try omega))) | with_reducible refine Grow.trans ?_ (by assumption)))) (HV4.out.grow (by (repeat (first | with_reducible exact Grow.refl _ | with_reducible refine Grow.alloc ?_ _ | with_reducible refine Grow.drew ?_ | with_reducible refine Grow.drewN ?_ _ | (with_reducible refine Grow.setCell ?_ ?hp _; (case hp => (simp; try omega))) | with_reducible refine Grow.trans ?_ (by assumption)))))).mono ?_); (rintro e u5 ⟨v5, rfl, hv5, hb5⟩; obtain ⟨s5, a5, l5, c5, rfl⟩ := hv5.form; have HV5 := Lib.hid hv5; clear hv5))
      (try go_wp2_with fail)
      refine hK.out _ (.agg #[.bool s5, .slice a5 l5 c5]) _ ?hep10 ?hgp10 ?_
      case hep10 => (simp only [aof, List.foldl_cons, List.foldl_nil, Act.put, List.setIfInBounds_toArray, List.set_cons_zero, List.set_cons_succ])
      case hgp10 => (repeat (first | with_reducible exact Grow.refl _ | with_reducible refine Grow.alloc ?_ _ | with_reducible refine Grow.drew ?_ | with_reducible refine Grow.drewN ?_ _ | (with_reducible refine Grow.setCell ?_ ?hp _; (case hp => (simp; try omega))) | with_reducible refine Grow.trans ?_ (by assumption)))
      clear hK K t10
      (try simp only [Act.put, List.setIfInBounds_toArray, List.set_cons_zero, List.set_cons_succ])
      refine flex_op rfl rfl (fun t12 u12 hu12 K hK => ?_)
      simp only [aof, List.foldl_cons, List.foldl_nil, Act.put, List.setIfInBounds_toArray, List.set_cons_zero, List.set_cons_succ]
      go_simp
      (go_at_call 19; (with_reducible refine (OK.out _).mono ?_); (rintro e u6 ⟨v6, rfl, hv6, hb6⟩; obtain ⟨s6, a6, l6, c6, rfl⟩ := hv6.form; have HV6 := Lib.hid hv6; clear hv6))
      (try go_wp2_with fail)
      refine hK.out _ (.agg #[.bool s6, .slice a6 l6 c6]) _ ?hep12 ?hgp12 ?_
      case hep12 => (simp only [aof, List.foldl_cons, List.foldl_nil, Act.put, List.setIfInBounds_toArray, List.set_cons_zero, List.set_cons_succ])
      case hgp12 => (repeat (first | with_reducible exact Grow.refl _ | with_reducible refine Grow.alloc ?_ _ | with_reducible refine Grow.drew ?_ | with_reducible refine Grow.drewN ?_ _ | (with_reducible refine Grow.setCell ?_ ?hp _; (case hp => (simp; try omega))) | with_reducible refine Grow.trans ?_ (by assumption)))
      clear hK K t12
      (try simp only [Act.put, List.setIfInBounds_toArray, List.set_cons_zero, List.set_cons_succ])
      refine flex_op rfl rfl (fun t13 u13 hu13 K hK => ?_)
      simp only [aof, List.foldl_cons, List.foldl_nil, Act.put, List.setIfInBounds_toArray, List.set_cons_zero, List.set_cons_succ]
      go_simp
      (go_at_call 50; (with_reducible refine (EX.out _ _ _ (HV5.out.grow (by (repeat (first | with_reducible exact Grow.refl _ | with_reducible refine Grow.alloc ?_ _ | with_reducible refine Grow.drew ?_ | with_reducible refine Grow.drewN ?_ _ | (with_reducible refine Grow.setCell ?_ ?hp _; (case hp => (simp; try omega))) | with_reducible refine Grow.trans ?_ (by assumption))))) (HV6.out.grow (by (repeat (first | with_reducible exact Grow.refl _ | with_reducible refine Grow.alloc ?_ _ | with_reducible refine Grow.drew ?_ | with_reducible refine Grow.drewN ?_ _ | (with_reducible refine Grow.setCell ?_ ?hp _; (case hp => (simp; try omega))) | with_reducible refine Grow.trans ?_ (by assumption)))))).mono ?_); (rintro e u7 ⟨v7, rfl, hv7, hb7⟩; obtain ⟨s7, a7, l7, c7, rfl⟩ := hv7.form; have HV7 := Lib.hid hv7; clear hv7))
      (try go_wp2_with fail)
      refine hK.out _ (.tuple #[.agg #[.bool s7, .slice a7 l7 c7], .int .i64 0]) _ ?hep13 ?hgp13 ?_
      case hep13 => (simp only [aof, List.foldl_cons, List.foldl_nil, Act.put, List.setIfInBounds_toArray, List.set_cons_zero, List.set_cons_succ])
      case hgp13 => (repeat (first | with_reducible exact Grow.refl _ | with_reducible refine Grow.alloc ?_ _ | with_reducible refine Grow.drew ?_ | with_reducible refine Grow.drewN ?_ _ | (with_reducible refine Grow.setCell ?_ ?hp _; (case hp => (simp; try omega))) | with_reducible refine Grow.trans ?_ (by assumption)))
      clear hK K t13
      (try simp only [Act.put, List.setIfInBounds_toArray, List.set_cons_zero, List.set_cons_succ])
      refine flex_quiet (v := ?vp14) rfl rfl (fun t => Or.inl ⟨by rfl, ?hyp14⟩) ?_
      case hyp14 => (intro u hu; simp only [aof, List.foldl_cons, List.foldl_nil, Act.put, List.setIfInBounds_toArray, List.set_cons_zero, List.set_cons_succ]; go_simp; (try with_reducible rfl))
      (try simp only [Act.put, List.setIfInBounds_toArray, List.set_cons_zero, List.set_cons_succ])
      refine flex_quiet (v := ?vp15) rfl rfl (fun t => Or.inl ⟨by rfl, ?hyp15⟩) ?_
      case hyp15 => (intro u hu; simp only [aof, List.foldl_cons, List.foldl_nil, Act.put, List.setIfInBounds_toArray, List.set_cons_zero, List.set_cons_succ]; go_simp; (try with_reducible rfl))
      (try simp only [Act.put, List.setIfInBounds_toArray, List.set_cons_zero, List.set_cons_succ])
      refine flex_quiet (v := ?vp16) rfl rfl (fun t => Or.inl ⟨by rfl, ?hyp16⟩) ?_
      case hyp16 => (intro u hu; simp only [aof, List.foldl_cons, List.foldl_nil, Act.put, List.setIfInBounds_toArray, List.set_cons_zero, List.set_cons_succ]; go_simp; (try with_reducible rfl))
      (try simp only [Act.put, List.setIfInBounds_toArray, List.set_cons_zero, List.set_cons_succ])
      refine flex_done (fun Fp up hup hFp hNp => ?_)
      have hFp0 := hFp ⟨17, 5, .cells #[.bool false, .slice none 0 0] 25⟩ (by simp)
      clear hFp hNp
      (try simp only [aof, List.foldl_cons, List.foldl_nil, Act.put, List.setIfInBounds_toArray, List.set_cons_zero, List.set_cons_succ, ptrX])
      generalize Fp 17 = Fbp0 at *
      clear Fp
      have hFX := hFp0
      obtain ⟨hFx, hF1, hF2, hF3⟩ := hFp0
      obtain ⟨o0, o1, of, oz⟩ := ak2 rfl _ hF3
      rw [hF2] at o0 o1 of oz
      refine held_last rfl rfl (fun K hK => ?_)
      go_simp
      refine hK.out _ _ ?_
      clear hK K
      (try simp only [Act.put])
      refine held_quiet (v := ?vp19) rfl rfl (Or.inl ⟨by rfl, ?hyp19⟩) ?_
      case hyp19 => (intro u hu; go_simp; (try with_reducible rfl))
      (try simp only [Act.put])
      refine held_done ?_
      obtain ⟨hG3, hX3, hX⟩ := hFX.putI (HV7.out.grow hup)
      obtain ⟨w3, hw3⟩ : ∃ w3, (up.setCell ⟨Fbp0, 0, none⟩ (.bool s7)).setCell ⟨Fbp0, 1, none⟩ (.slice a7 l7 c7) = w3 := ⟨_, rfl⟩
      rw [hw3] at hG3 hX3 ⊢
      have HG3 := Lib.hid hG3
      have HX3 := Lib.hid hX3
      clear hw3 hG3 hX3 HV7 HV4 HV5 HV6 hup hFX o0 o1 of oz hFx hF1 hF2 hF3 hb4 hb5 hb6 hb7
      clear e1 e1' e2 e2' e3 e3' e4 e4' y1 y1n DD OM OK ML EX hX
      generalize Fbp0 = X at *
      obtain ⟨sx, ax, lx, cx, hcX, hvX⟩ := int_cells HX3.out
      obtain ⟨x0, x1, x2, x3⟩ := hcX w3 (Grow.refl _)
      have HVX := Lib.hid hvX
      clear hcX hvX
      go_wp2_with (at_builtin; go_loud (refine wpList_append_g _ rfl _ _ 120 rfl 25 ir _ 2 32 Tryz.underlying120 hir irz0 irz1 irz2 rfl (by decide) int_zero_nu (by decide) w.heap.size _ k xs rfl (HO.out.grow (HG3.out.trans (by (repeat (first | with_reducible exact Grow.refl _ | with_reducible refine Grow.alloc ?_ _ | with_reducible refine Grow.drew ?_ | with_reducible refine Grow.drewN ?_ _ | (with_reducible refine Grow.setCell ?_ ?hp _; (case hp => (simp; try omega))) | with_reducible refine Grow.trans ?_ (by assumption)))))) ⟨w3.heap.size, 0, none⟩ 1 [.bool sx, .slice ax lx cx] rfl rfl (int_news w3 sx ax lx cx 25) (int_one sx ax lx cx) (int_nu sx ax lx cx) (by omega) (Nat.le_trans (HG.out.trans HG3.out).size (by simp)) ?_))
      intro v7 w7 hown7 hb7
      obtain ⟨g7, c7, hv7, hg7a, hg7b⟩ := own_slice hown7.own (by omega)
      subst hv7
      have hga : Grow wr (w3.alloc (.cells #[.bool sx, .slice ax lx cx] 25)) := HG3.out.trans (by (repeat (first | with_reducible exact Grow.refl _ | with_reducible refine Grow.alloc ?_ _ | with_reducible refine Grow.drew ?_ | with_reducible refine Grow.drewN ?_ _ | (with_reducible refine Grow.setCell ?_ ?hp _; (case hp => (simp; try omega))) | with_reducible refine Grow.trans ?_ (by assumption))))
      have HL7 := Lib.hid (((HL.out.grow hga).snoc (HVX.out.grow (by (repeat (first | with_reducible exact Grow.refl _ | with_reducible refine Grow.alloc ?_ _ | with_reducible refine Grow.drew ?_ | with_reducible refine Grow.drewN ?_ _ | (with_reducible refine Grow.setCell ?_ ?hp _; (case hp => (simp; try omega))) | with_reducible refine Grow.trans ?_ (by assumption)))))).but hb7)
      have HO7 := Lib.hid hown7
      have HG7 := Lib.hid ((((HG.out.trans hga).but _).trans hb7).asGrow (fun b hb => hb))
      clear hga hown7 hb7 x0 x1 x2 x3 hg7a hg7b
      obtain ⟨ei, ei'⟩ := EI.out
      go_wp2_with fail
      clear ei ei'
      go_roundg (n + 1 - (k + 1))
      case measure => have := HGK.out; omega
      case rel => exact ⟨k + 1, g7, c7, _, rfl, rfl, by omega, by omega, Lib.hid rfl, HO7, HL7, HG7⟩
end Go.Proofs.YtbpkfcohbefphaaGreatDoor
namespace Go.Proofs.YtbpkfcohbefphaaGreatDoor
open Go Go.RowKit
/-- The marks of a list of bools. -/
structure MarkB (w : World) (B n : Nat) (f : Nat → Bool) : Prop where
  lt : B < w.heap.size
  free : ∀ o, w.frozen? ⟨B, o, none⟩ = false
  cell : ∀ i, i < n → w.cell? ⟨B, i, none⟩ = some (.bool (f i))
theorem MarkB.but {X : Nat → Prop} {w w' : World} {B n : Nat} {f : Nat → Bool} (h : MarkB w B n f) (hX : ¬ X B) (hg : But X w w') : MarkB w' B n f :=
  ⟨Nat.lt_of_lt_of_le h.lt hg.size, fun o => (hg.frees _ _ h.lt).trans (h.free o), fun i hi => (hg.cells _ _ h.lt hX).trans (h.cell i hi)⟩
theorem MarkB.grow {w w' : World} {B n : Nat} {f : Nat → Bool} (h : MarkB w B n f) (hg : Grow w w') : MarkB w' B n f := h.but (X := fun _ => False) (fun h => h) (hg.but _)
theorem MarkB.cong {w : World} {B n : Nat} {f f' : Nat → Bool} (h : MarkB w B n f) (hf : ∀ i, i < n → f' i = f i) : MarkB w B n f' :=
  ⟨h.lt, h.free, fun i hi => by rw [hf i hi]; exact h.cell i hi⟩
theorem MarkB.set {w : World} {B n : Nat} {f : Nat → Bool} (h : MarkB w B n f) {k : Nat} (hk : k < n) (b : Bool) : MarkB (w.setCell ⟨B, k, none⟩ (.bool b)) B n (upd f k b) := by
  refine ⟨by simpa [World.setCell] using h.lt, fun o => by simpa using h.free o, fun i hi => ?_⟩
  by_cases hik : i = k
  · subst hik
    rw [upd_same]
    exact World.cell?_setCell_same _ _ _ (h.cell i hi)
  · rw [World.cell?_setCell_other _ _ _ _ (by simp; try omega), upd_other _ _ hik]
    exact h.cell i hi
theorem MarkB.but_set {X : Nat → Prop} {w u : World} {B n : Nat} {f : Nat → Bool} (h : MarkB u B n f) {k : Nat} (hk : k < n) (hX : w.heap.size ≤ B ∨ X B) (hb : But X w u) (v : Value) : But X w (u.setCell ⟨B, k, none⟩ v) :=
  hb.set _ hX (fun x => by rw [h.cell k hk]; simp)
end Go.Proofs.YtbpkfcohbefphaaGreatDoor
namespace Go.Proofs.YtbpkfcohbefphaaGreatDoor
open Go Go.RowKit
/-- What stands in memory while Signature walks. -/
structure SigS (w : World) (G D n : Nat) (R O C : Nat → Nat) (u : World) (k : Nat) (N : Nat → Nat → Rat) : Prop where
  grow : Grow w u
  grid : GridQ u G n R O C n N
  mark : MarkB u D n (fun i => decide (i < k))
  bG : w.heap.size ≤ G
  bR : ∀ i, i < n → w.heap.size ≤ R i
  bD : w.heap.size ≤ D
  dG : D ≠ G
  dR : ∀ i, i < n → R i ≠ D
section
variable {w u u' : World} {G D n k : Nat} {R O C : Nat → Nat} {N N' : Nat → Nat → Rat}
theorem SigS.go (h : SigS w G D n R O C u k N) (hg : Grow u u') : SigS w G D n R O C u' k N :=
  ⟨h.grow.trans hg, h.grid.grow hg, h.mark.grow hg, h.bG, h.bR, h.bD, h.dG, h.dR⟩
theorem SigS.cong (h : SigS w G D n R O C u k N) (hN : ∀ i j, i < n → j < n → N' i j = N i j) : SigS w G D n R O C u k N' :=
  ⟨h.grow, h.grid.cong hN, h.mark, h.bG, h.bR, h.bD, h.dG, h.dR⟩
theorem SigS.row (h : SigS w G D n R O C u k N) {j : Nat} (hj : j < n) {r : Nat → Rat} (hb : But (fun b => b = R j) u u') (hr : RowQ u' (R j) (O j) n r) : SigS w G D n R O C u' k (upd N j r) := by
  refine ⟨(((h.grow.but _).trans hb).asGrow (fun b e => ?_)), h.grid.row_set hj hb hr, h.mark.but (fun e => h.dR j hj e.symm) hb, h.bG, h.bR, h.bD, h.dG, h.dR⟩
  rw [e]; exact h.bR j hj
theorem SigS.put (h : SigS w G D n R O C u k N) {j c : Nat} (hj : j < n) (hc : c < n) {s : Bool} {a : Option Addr} {l z : Nat} {t : Bool} {b : Option Addr} {y e : Nat} {x : Rat}
    (hx : RatR u (.agg #[.bool s, .slice a l z, .bool t, .slice b y e]) x) : But (fun b => b = R j) u (st4 u (R j) (O j + c * 4) (.bool s) (.slice a l z) (.bool t) (.slice b y e)) ∧ SigS w G D n R O C (st4 u (R j) (O j + c * 4) (.bool s) (.slice a l z) (.bool t) (.slice b y e)) k (upd N j (fun i => if i = c then x else N j i)) := by
  have hb : But (fun b => b = R j) u (st4 u (R j) (O j + c * 4) (.bool s) (.slice a l z) (.bool t) (.slice b y e)) := But.st4 (X := fun b => b = R j) (But.refl _ u) (.inr rfl) (RowP.q4 (h.grid.row j hj) hc) _ _ _ _ _ _ _ _
  exact ⟨hb, h.row hj hb (RowQ.set (h.grid.row j hj) hc hx)⟩
end
end Go.Proofs.YtbpkfcohbefphaaGreatDoor
