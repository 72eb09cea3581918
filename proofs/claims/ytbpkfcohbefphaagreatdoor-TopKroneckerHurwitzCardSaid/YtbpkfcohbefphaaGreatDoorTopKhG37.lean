/- Lemmas, plain laws and walks that the statement LwKronecker leans on (texts KhB), conditions as each theorem says. -/
import Derived.Lib.MinMax
import Derived.Test.YtbpkfcohbefphaaGreatDoorTopKhG22
import Derived.Test.YtbpkfcohbefphaaGreatDoorTopKhG23
import Derived.Test.YtbpkfcohbefphaaGreatDoorTopKhG34
import Derived.Test.YtbpkfcohbefphaaGreatDoorTopKhG36

namespace Go.Proofs.YtbpkfcohbefphaaGreatDoor
open Go Go.RowKit
theorem h12_six (m : Nat) (h : m ≠ 0) : (((hwN m : Nat) : Int) : Rat) / ((6 : Int) : Rat) = ((h12 m : Int) : Rat) / ((12 : Int) : Rat) := by
  unfold h12
  rw [if_neg h, Rat.intCast_mul]
  have h1 : ((6 : Int) : Rat) ≠ 0 := by decide +kernel
  have h2 : ((2 : Int) : Rat) ≠ 0 := by decide +kernel
  have h3 : ((12 : Int) : Rat) = ((2 : Int) : Rat) * ((6 : Int) : Rat) := by decide +kernel
  rw [h3]; grind
theorem hurwitz12Q (m : Nat) (h : m ≤ 4000) (w : World) : Calls Tryz.prog 7 #[.int .i64 (m : Int)] w fun e w' => ∃ v, e = .returned (.tuple #[v, .int .i64 0]) ∧ RatR w' v (((h12 m : Int) : Rat) / ((12 : Int) : Rat)) ∧ Grow w w' := by
  by_cases h0 : m = 0
  · subst h0; exact hurwitz0Q w
  · rw [← h12_six m h0]; exact hurwitzQ m (by omega) h w
theorem twelve_div (a : Nat) : (((12 * (a : Int) : Int)) : Rat) / ((12 : Int) : Rat) = ((a : Int) : Rat) := by
  rw [Rat.intCast_mul]
  have h2 : ((12 : Int) : Rat) ≠ 0 := by decide +kernel
  grind
theorem t_sq {k j a : Nat} {t : Int} (ht : t = (j : Int) - 2 * (k : Int)) (ha : (if j ≤ 2 * k then 2 * k - j else j - 2 * k) = a) : t * t = ((a * a : Nat) : Int) := by
  have h : t = (a : Int) ∨ t = -(a : Int) := by split at ha <;> omega
  rcases h with h | h
  · rw [h]; simp
  · rw [h, Int.neg_mul_neg]; simp
theorem sm12 (a : Int) (n : Nat) (h : a.natAbs ≤ n) : Sm ((a : Int) / ((12 : Int) : Rat)) n 12 := (sm_div a 12 (by omega)).mono h (Nat.le_refl _)
set_option maxRecDepth 20000 in
set_option maxHeartbeats 8000000 in
theorem topkhQ (n : Int) (w : World) (hT : TabB w) : Calls Tryz.prog 3 #[.int .i64 n] w fun e w' => e = .returned (.bool true) ∧ Grow w w' := by
  have GA := Lib.hid (fun u (hu : Grow w u) => groupsQ u (hT.grow hu))
  clear hT
  by_cases hin : 1 ≤ n ∧ n ≤ 1000
  · obtain ⟨k, rfl⟩ : ∃ k : Nat, n = (k : Int) := ⟨n.toNat, by omega⟩
    have hk1 : 1 ≤ k := by omega
    have hk2 : k ≤ 1000 := by omega
    clear hin
    have Q0 := Lib.hid (fun u => qbQ 0 (by decide) u)
    have HW := Lib.hid (fun m h u => hurwitz12Q m h u)
    have DV := Lib.hid (fun u => divisorsQ k hk1 hk2 u)
    obtain ⟨L, hL⟩ : ∃ L, (divs k).length = L := ⟨_, rfl⟩
    have WB := Lib.hid (fun i (hi : i ≤ (divs k).length) => wantS_le hk2 i hi)
    have WM := Lib.hid (fun i (hi : i < (divs k).length) => khd_mem (n := k) (i := i) hi)
    have WA := Lib.hid (wantS_all k)
    have hLb : L ≤ 1001 := by
      rw [← hL]
      have h := List.length_filter_le (fun d => d != 0 && k % d == 0) (List.range (k + 1))
      simp only [List.length_range] at h
      exact Nat.le_trans h (by omega)
    rw [hL] at DV WB WM WA
    have LAW := Lib.hid (kh_law k hk1 hk2)
    have PB := Lib.hid (fun j => khP_le (n := k) hk2 j)
    obtain ⟨K, hK⟩ : ∃ K, 4 * k + 1 = K := ⟨_, rfl⟩
    obtain ⟨f, hf⟩ : ∃ f, 4 * k = f := ⟨_, rfl⟩
    obtain ⟨c, hc⟩ : ∃ c, 2 * k = c := ⟨_, rfl⟩
    obtain ⟨s0, hs0⟩ : ∃ s0 : Int, -2 * (k : Int) = s0 := ⟨_, rfl⟩
    have E1 : Hid (IntKind.i64.wrap (4 * (k : Int)) = (f : Int) ∧ wrap64 (4 * (k : Int)) = (f : Int)) := Lib.hid (by rw [show 4 * (k : Int) = (f : Int) by omega]; exact w64n (by omega))
    have E2 : Hid (IntKind.i64.wrap (2 * (k : Int)) = (c : Int) ∧ wrap64 (2 * (k : Int)) = (c : Int)) := Lib.hid (by rw [show 2 * (k : Int) = (c : Int) by omega]; exact w64n (by omega))
    have E3 : Hid (IntKind.i64.wrap (-2 * (k : Int)) = s0 ∧ wrap64 (-2 * (k : Int)) = s0) := Lib.hid (by rw [hs0]; exact w64n (by omega))
    have hKb : K ≤ 4001 := by omega
    have hfb : f ≤ 4000 := by omega
    have hcb : c ≤ 2000 := by omega
    rw [hK] at LAW
    have HK := Lib.hid hK
    have HF := Lib.hid hf
    have HC := Lib.hid hc
    have HS0 := Lib.hid hs0
    have y1 : decide ((k : Int) < 1) = false := by simp; omega
    have y2 : decide ((k : Int) > 1000) = false := by simp; omega
    clear hK hf hc hs0 hL
    go_enter Tryz.func3, Tryz.ntmps3
    go_upto_region 6 with (first
      | (go_at_call 5; (with_reducible refine (GA.out _ (by (repeat (first | with_reducible exact Grow.refl _ | with_reducible refine Grow.alloc ?_ _ | with_reducible refine Grow.drew ?_ | with_reducible refine Grow.drewN ?_ _ | (with_reducible refine Grow.setCell ?_ ?hp _; (case hp => (simp; try omega))) | with_reducible refine Grow.trans ?_ (by assumption))))).mono ?_); (rintro e u2 ⟨rfl, hb2⟩; have HG2 := Lib.hid hb2; clear hb2))
      | (go_at_call 6; (with_reducible refine (Q0.out _).mono ?_); (rintro e u3 ⟨v3, rfl, hv3, hb3⟩; obtain ⟨s3, a3, l3, c3, t3, b3, k3, e3, rfl⟩ := hv3.form; have HV3 := Lib.hid hv3; have HG3 := Lib.hid (HG2.out.trans hb3); clear hv3 hb3)))
    clear y1 y2
    obtain ⟨W4, hW4⟩ : ∃ W4 : World, W4 = u3.alloc (.cells #[.bool s3, .slice a3 l3 c3, .bool t3, .slice b3 k3 e3] 27) := ⟨_, rfl⟩
    rw [← hW4]
    have HR4 := Lib.hid (rowq_lay hW4 HV3.out)
    have HG4 := Lib.hid (HG3.out.trans (ag hW4))
    obtain ⟨B, hB⟩ : ∃ B, u3.heap.size = B := ⟨_, rfl⟩
    rw [hB] at HR4
    have HZB := Lib.hid (show w.heap.size ≤ B by rw [← hB]; exact HG3.out.size)
    clear hW4
    obtain ⟨e1, e2⟩ := E3.out
    go_wp2_with fail
    clear e1 e2
    rw [hB]
    clear hB GA Q0 HG2 HV3
    go_loopg [4] K (fun gk t4 wr => ∃ (j : Nat) (t : Int), t4 = .int .i64 t ∧ j ≤ K ∧ Hid (gk = K - j) ∧ Hid (t = (j : Int) - 2 * (k : Int)) ∧ Hid (RowQ wr B 0 1 (fun _ => ((khP k j : Int) : Rat) / ((12 : Int) : Rat))) ∧ Hid (But (fun y => y = B) W4 wr))
    case atStart => exact ⟨0, s0, rfl, Nat.zero_le _, Lib.hid rfl, Lib.hid (by have := HS0.out; omega), Lib.hid (HR4.out.cong (fun j _ => by rw [show khP k 0 = 0 from rfl]; decide +kernel)), Lib.hid (But.refl _ _)⟩
    case round =>
      obtain ⟨j, t, rfl, hj, HGK, HTT, HR, HB⟩ := hrel
      have hgr : Grow w wr := ((HG4.out.but _).trans HB.out).asGrow (fun y hy => by have := HZB.out; omega)
      have HGR := Lib.hid hgr
      obtain ⟨s5, a5, l5, c5, t5, b5, k5, e5, ⟨p0, p1, p2, p3⟩, hvb⟩ := RowQ.at4 HR.out (show 0 < 1 by omega)
      rw [Nat.zero_mul, Nat.add_zero] at p0 p1 p2 p3
      have hlB := HR.out.lt
      have hfB := HR.out.free
      have D0 := Lib.hid (fun (u : World) (hg : Grow wr u) => (⟨(hg.cells _ _ hlB).trans p0, (hg.cells _ _ hlB).trans p1, (hg.cells _ _ hlB).trans p2, (hg.cells _ _ hlB).trans p3, fun o => (hg.frees _ _ hlB).trans (hfB o), Nat.lt_of_lt_of_le hlB hg.size⟩ : _ ∧ _ ∧ _ ∧ _ ∧ (∀ o, u.frozen? ⟨B, o, none⟩ = false) ∧ _))
      have HVB := Lib.hid hvb
      clear hgr p0 p1 p2 p3 hlB hfB hvb
      by_cases hjK : j = K
      · have y1 : decide (t ≤ (c : Int)) = false := by have := HTT.out; have := HC.out; have := HK.out; simp; omega
        have HVS := HVB
        rw [hjK, LAW.out, twelve_div] at HVS
        have HVT := Lib.hid HVS.out
        clear HVS hjK HW
        obtain ⟨e1, e2⟩ := E2.out
        go_wp2_with (go_at_call 9; (with_reducible refine (DV.out _).mono ?_); (rintro e u7 ⟨g, cap, rfl, hq7, hb7, hs7⟩; have HQ7 := Lib.hid hq7; have HG7 := Lib.hid hb7; clear hq7 hb7 hs7))
        clear e1 e2 y1
        have HV7 := Lib.hid (HVT.out.grow HG7.out)
        have D7 := Lib.hid (fun (u : World) (hu : Grow u7 u) => D0.out u (HG7.out.trans hu))
        have HGT := Lib.hid (HGR.out.trans HG7.out)
        clear HVB HVT D0 HGR HG7 HR HB HR4 HG4
        go_loopg [9, 10] L (fun gk t9 t10 wr => ∃ (i x : Nat), t9 = .int .i64 (x : Int) ∧ t10 = .int .i64 (i : Int) ∧ i ≤ L ∧ Hid (gk = L - i) ∧ Hid (wantS k (divs k) i = x) ∧ Hid (Grow u7 wr))
        case atStart => exact ⟨0, 0, rfl, rfl, Nat.zero_le _, Lib.hid rfl, Lib.hid rfl, Lib.hid (Grow.refl _)⟩
        case round =>
          obtain ⟨i, x, rfl, rfl, hi, HGI, HX, HQ⟩ := hrel
          have hxb : x ≤ 2002000 := by have h1 := WB.out i hi; rw [HX.out] at h1; omega
          by_cases hiL : i = L
          · have y1 : decide ((i : Int) < (L : Int)) = false := by simp; omega
            have y1' : decide (i < L) = false := by simp; omega
            have hx : khW k k = x := by have h1 := HX.out; rw [hiL, WA.out] at h1; exact h1
            rw [hx] at HV7
            have D1 := Lib.hid (fun (u : World) (hu : Grow wr u) => D7.out u (HQ.out.trans hu))
            have QX := Lib.hid (fun u => qbQ (x : Int) (by omega) u)
            have SA := Lib.hid (fun (v : Value) (u : World) (hu : Grow wr u) (h : RatR u v ((x : Int) : Rat)) => sameRatQ _ _ v u (HV7.out.grow (HQ.out.trans hu)) h)
            clear hx hiL
            go_upto_region 22 with fail
            clear y1 y1'
            refine region_held (id := 22) (fun u => Grow wr u) [0, 1, 2, 3, 4] (kdL [1, 0, 2, 2, 0]) (by kernel_rfl) (by kernel_rfl) (fun t ht => kdL_lt _ t ht) ?hS0q ?_
            case hS0q => ((try dsimp only); (repeat (first | with_reducible exact Grow.refl _ | with_reducible refine Grow.alloc ?_ _ | with_reducible refine Grow.drew ?_ | with_reducible refine Grow.drewN ?_ _ | (with_reducible refine Grow.setCell ?_ ?hp _; (case hp => (simp; try omega))) | with_reducible refine Grow.trans ?_ (by assumption))))
            refine held_read (v := ?vq0) rfl rfl (Or.inl ⟨by rfl, ?hyq0⟩) ?_
            case hyq0 => (intro u hu; obtain ⟨f0, f1, f2, f3, f4, f5⟩ := D1.out u hu; go_simp; (try with_reducible rfl))
            (try simp only [Act.put, List.setIfInBounds_toArray, List.set_cons_zero, List.set_cons_succ])
            refine held_quiet (v := ?vq1) rfl rfl (Or.inl ⟨by rfl, ?hyq1⟩) ?_
            case hyq1 => (intro u hu; go_simp; (try with_reducible rfl))
            (try simp only [Act.put, List.setIfInBounds_toArray, List.set_cons_zero, List.set_cons_succ])
            refine held_op rfl rfl (fun K hK => ?_)
            go_simp
            (go_at_call 6; (with_reducible refine (QX.out _).mono ?_); (rintro x u30 ⟨v30, rfl, hv30, hb30⟩; obtain ⟨s30, a30, l30, c30, t30, b30, k30, e30, rfl⟩ := hv30.form; have HV30 := Lib.hid hv30; clear hv30))
            (try go_wp2_with fail)
            refine hK.out _ _ ?hSq2 ?_
            case hSq2 => ((try dsimp only); (repeat (first | with_reducible exact Grow.refl _ | with_reducible refine Grow.alloc ?_ _ | with_reducible refine Grow.drew ?_ | with_reducible refine Grow.drewN ?_ _ | (with_reducible refine Grow.setCell ?_ ?hp _; (case hp => (simp; try omega))) | with_reducible refine Grow.trans ?_ (by assumption))))
            clear hK K
            (try simp only [Act.put, List.setIfInBounds_toArray, List.set_cons_zero, List.set_cons_succ])
            refine held_op rfl rfl (fun K hK => ?_)
            go_simp
            (go_at_call 10; (with_reducible refine (SA.out _ _ (by (repeat (first | with_reducible exact Grow.refl _ | with_reducible refine Grow.alloc ?_ _ | with_reducible refine Grow.drew ?_ | with_reducible refine Grow.drewN ?_ _ | (with_reducible refine Grow.setCell ?_ ?hp _; (case hp => (simp; try omega))) | with_reducible refine Grow.trans ?_ (by assumption)))) (HV30.out.grow (by (repeat (first | with_reducible exact Grow.refl _ | with_reducible refine Grow.alloc ?_ _ | with_reducible refine Grow.drew ?_ | with_reducible refine Grow.drewN ?_ _ | (with_reducible refine Grow.setCell ?_ ?hp _; (case hp => (simp; try omega))) | with_reducible refine Grow.trans ?_ (by assumption)))))).mono ?_); (rintro e u31 ⟨rfl, hb31⟩))
            (try go_wp2_with fail)
            refine hK.out _ _ ?hSq3 ?_
            case hSq3 => ((try dsimp only); (repeat (first | with_reducible exact Grow.refl _ | with_reducible refine Grow.alloc ?_ _ | with_reducible refine Grow.drew ?_ | with_reducible refine Grow.drewN ?_ _ | (with_reducible refine Grow.setCell ?_ ?hp _; (case hp => (simp; try omega))) | with_reducible refine Grow.trans ?_ (by assumption))))
            clear hK K
            (try simp only [Act.put, List.setIfInBounds_toArray, List.set_cons_zero, List.set_cons_succ])
            refine held_quiet (v := ?vq4) rfl rfl (Or.inl ⟨by rfl, ?hyq4⟩) ?_
            case hyq4 => (intro u hu; go_simp; (try with_reducible rfl))
            (try simp only [Act.put, List.setIfInBounds_toArray, List.set_cons_zero, List.set_cons_succ])
            refine held_done ?_
            go_simp
            go_wp2_with fail
            go_ret
            exact ⟨rfl, HGT.out.trans (HQ.out.trans (by (repeat (first | with_reducible exact Grow.refl _ | with_reducible refine Grow.alloc ?_ _ | with_reducible refine Grow.drew ?_ | with_reducible refine Grow.drewN ?_ _ | (with_reducible refine Grow.setCell ?_ ?hp _; (case hp => (simp; try omega))) | with_reducible refine Grow.trans ?_ (by assumption)))))⟩
          · have hil : i < L := by omega
            have y0 : (0 : Int) ≤ (i : Int) := by omega
            have y1 : decide ((i : Int) < (L : Int)) = true := by simp; omega
            have y1' : decide (i < L) = true := by simp; omega
            have y2 : (i : Int) < (L : Int) := by omega
            obtain ⟨d, hd⟩ : ∃ d, (divs k).getD i 0 = d := ⟨_, rfl⟩
            obtain ⟨hd1, hd2⟩ := WM.out i hil
            have hxs : wantS k (divs k) (i + 1) = wantS k (divs k) i + kfD k ((divs k).getD i 0) := rfl
            rw [hd] at hd1 hd2 hxs
            have hec : wr.cell? ⟨g, i, none⟩ = some (.int .i64 (d : Int)) := by
              have h := (HQ7.out.grow HQ.out).cell i hil
              rw [Nat.zero_add] at h
              rw [h, hd]
            have hglt := (HQ7.out.grow HQ.out).lt
            obtain ⟨q, hq⟩ : ∃ q, k / d = q := ⟨_, rfl⟩
            have hqb : q ≤ 1000 := by rw [← hq]; exact Nat.le_trans (Nat.div_le_self _ _) hk2
            obtain ⟨d2, hd2'⟩ : ∃ d2, 2 * d = d2 := ⟨_, rfl⟩
            obtain ⟨m, hm⟩ : ∃ m, min d q = m := ⟨_, rfl⟩
            obtain ⟨z, hz⟩ : ∃ z, d2 - m = z := ⟨_, rfl⟩
            obtain ⟨x', hx'⟩ : ∃ x', x + z = x' := ⟨_, rfl⟩
            have hmd : m ≤ d := by rw [← hm]; exact Nat.min_le_left _ _
            have E5 : Hid (Int.tdiv (k : Int) (d : Int) = (q : Int)) := Lib.hid (by rw [← hq, Int.natCast_ediv]; exact Int.tdiv_eq_ediv_of_nonneg (by omega))
            have E6 := Lib.hid (w64n (n := (q : Int)) (by omega))
            have E7 : Hid (IntKind.i64.wrap (2 * (d : Int)) = (d2 : Int) ∧ wrap64 (2 * (d : Int)) = (d2 : Int)) := Lib.hid (by rw [show 2 * (d : Int) = (d2 : Int) by omega]; exact w64n (by omega))
            have E8 : Hid (min (d : Int) (q : Int) = (m : Int)) := Lib.hid (by rw [← hm]; omega)
            have E9 : Hid (IntKind.i64.wrap ((d2 : Int) - (m : Int)) = (z : Int) ∧ wrap64 ((d2 : Int) - (m : Int)) = (z : Int)) := Lib.hid (by rw [show (d2 : Int) - (m : Int) = (z : Int) by omega]; exact w64n (by omega))
            have E10 : Hid (IntKind.i64.wrap ((x : Int) + (z : Int)) = (x' : Int) ∧ wrap64 ((x : Int) + (z : Int)) = (x' : Int)) := Lib.hid (by rw [show (x : Int) + (z : Int) = (x' : Int) by omega]; exact w64n (by omega))
            have E11 := Lib.hid (inc_wrap (i := i) (n := 1001) (by omega) (by omega))
            have HX2 : Hid (wantS k (divs k) (i + 1) = x') := Lib.hid (by rw [hxs, HX.out]; unfold kfD; rw [hq, hm, hd2', hz, hx'])
            have yd : ¬ ((d : Int) = 0) := by omega
            have yd2 : ((d : Int) == 0) = false := by simp; omega
            have yd3 : ¬ d = 0 := by omega
            have yd4 : (d == 0) = false := by simp; omega
            clear hd hd1 hd2 hxs hq hqb hd2' hm hz hx' hmd
            go_upto_region 21 with fail
            clear y1 y1'
            have e5 := E5.out
            obtain ⟨e6, e6'⟩ := E6.out
            obtain ⟨e7, e7'⟩ := E7.out
            have e8 := E8.out
            obtain ⟨e9, e9'⟩ := E9.out
            obtain ⟨e10, e10'⟩ := E10.out
            go_quiet (fail)
            clear e5 e6 e6' e7 e7' e8 e9 e9' e10 e10'
            obtain ⟨e1, e2⟩ := E11.out
            go_wp2_with fail
            clear e1 e2
            go_roundg (L - (i + 1))
            case measure => have := HGI.out; omega
            case rel => exact ⟨i + 1, x', rfl, rfl, hil, Lib.hid rfl, HX2, Lib.hid (HQ.out.trans (by (repeat (first | with_reducible exact Grow.refl _ | with_reducible refine Grow.alloc ?_ _ | with_reducible refine Grow.drew ?_ | with_reducible refine Grow.drewN ?_ _ | (with_reducible refine Grow.setCell ?_ ?hp _; (case hp => (simp; try omega))) | with_reducible refine Grow.trans ?_ (by assumption)))))⟩
      · have hjl : j < K := by omega
        have y1 : decide (t ≤ (c : Int)) = true := by have := HTT.out; have := HC.out; have := HK.out; simp; omega
        obtain ⟨a, ha⟩ : ∃ a, (if j ≤ 2 * k then 2 * k - j else j - 2 * k) = a := ⟨_, rfl⟩
        have hab : a ≤ 2001 := by have := HK.out; split at ha <;> omega
        obtain ⟨s, hs⟩ : ∃ s, a * a = s := ⟨_, rfl⟩
        have hsb : s ≤ 2001 * 2001 := by rw [← hs]; exact Nat.mul_le_mul hab hab
        have htt := t_sq HTT.out ha
        rw [hs] at htt
        have hgk : khP k (j + 1) = khP k j + gK k (if j ≤ 2 * k then 2 * k - j else j - 2 * k) := rfl
        rw [ha] at hgk
        obtain ⟨t', ht'⟩ : ∃ t', t + 1 = t' := ⟨_, rfl⟩
        have E4 : Hid (IntKind.i64.wrap (t * t) = (s : Int) ∧ wrap64 (t * t) = (s : Int)) := Lib.hid (by rw [htt]; exact w64n (by omega))
        have E5 : Hid (IntKind.i64.wrap (t + 1) = t' ∧ wrap64 (t + 1) = t') := Lib.hid (by rw [ht']; exact w64n (by have := HTT.out; omega))
        have HT2 : Hid (t' = ((j + 1 : Nat) : Int) - 2 * (k : Int)) := Lib.hid (by have := HTT.out; omega)
        clear htt ht' hab
        by_cases hsf : s > f
        · have x1 : decide (s > f) = true := by simp; omega
          have x2 : decide ((s : Int) > (f : Int)) = true := by simp; omega
          have HP : Hid (khP k (j + 1) = khP k j) := Lib.hid (by rw [hgk]; unfold gK; rw [hs, if_pos (by have := HF.out; omega)]; exact Int.add_zero _)
          clear hgk ha hs hsf
          obtain ⟨e1, e2⟩ := E1.out
          obtain ⟨e3, e4⟩ := E2.out
          obtain ⟨e5, e6⟩ := E4.out
          obtain ⟨e7, e8⟩ := E5.out
          go_wp2_with fail
          clear e1 e2 e3 e4 e5 e6 e7 e8
          go_roundg (K - (j + 1))
          case measure => have := HGK.out; omega
          case rel => exact ⟨j + 1, t', rfl, hjl, Lib.hid rfl, HT2, Lib.hid (by rw [HP.out]; exact HR.out), HB⟩
        · have x1 : decide (s > f) = false := by simp; omega
          have x2 : decide ((s : Int) > (f : Int)) = false := by simp; omega
          obtain ⟨m, hm⟩ : ∃ m, f - s = m := ⟨_, rfl⟩
          have HP : Hid (khP k (j + 1) = khP k j + h12 m) := Lib.hid (by rw [hgk]; unfold gK; rw [hs, HF.out, if_neg (by omega), hm])
          have WH := Lib.hid (fun u => HW.out m (by omega) u)
          have hpb := PB.out j
          have hmb := h12_le (m := m) (by omega)
          have E6 : Hid (IntKind.i64.wrap ((f : Int) - (s : Int)) = (m : Int) ∧ wrap64 ((f : Int) - (s : Int)) = (m : Int)) := Lib.hid (by rw [show (f : Int) - (s : Int) = (m : Int) by omega]; exact w64n (by omega))
          have AD : Hid (∀ (u : World) (v1 v2 : Value), RatR u v1 ((khP k j : Int) / ((12 : Int) : Rat)) → RatR u v2 ((h12 m : Int) / ((12 : Int) : Rat)) → Calls Tryz.prog 8 #[v1, v2] u fun e w' => ∃ v, e = .returned v ∧ RatR w' v ((khP k (j + 1) : Int) / ((12 : Int) : Rat)) ∧ Grow u w') := Lib.hid (fun u v1 v2 h3 h4 => by
            have h := addQ _ _ v1 v2 ((sm12 (khP k j) 8194048 (by omega)).addB (sm12 (h12 m) 2048 hmb) (by omega) (by omega)) u h3 h4
            rw [dq_add, ← HP.out] at h
            exact h)
          have HST2 := Lib.hid (fun (u : World) (hu : Grow wr u) (s : Bool) (a : Option Addr) (l c : Nat) (t : Bool) (b : Option Addr) (k' e' : Nat) (hx : RatR u (.agg #[.bool s, .slice a l c, .bool t, .slice b k' e']) ((khP k (j + 1) : Int) / ((12 : Int) : Rat))) => (⟨RowP.set (RowP.grow HR.out hu) (show 0 < 1 by omega) hx, But.st4 (X := fun b => b = B) (hu.but _) (.inr rfl) ((RowP.grow HR.out hu).q4 (show 0 < 1 by omega)) s a l c t b k' e'⟩ : _ ∧ _))
          simp only [Nat.zero_mul, Nat.add_zero] at HST2
          clear hgk ha hs hsf hm hpb hmb HW PB
          obtain ⟨e1, e2⟩ := E1.out
          obtain ⟨e3, e4⟩ := E2.out
          obtain ⟨e5, e6⟩ := E4.out
          obtain ⟨e7, e8⟩ := E6.out
          go_upto_region 11 with (go_at_call 7; (with_reducible refine (WH.out _).mono ?_); (rintro e u8 ⟨v8, rfl, hv8, hb8⟩; obtain ⟨s8, a8, l8, c8, t8, b8, k8, e8', rfl⟩ := hv8.form; have HV8 := Lib.hid hv8; have HG8 := Lib.hid hb8; clear hv8 hb8))
          clear e1 e2 e3 e4 e5 e6 e7 e8
          obtain ⟨W6, hW6⟩ : ∃ W6 : World, W6 = u8.alloc (.cells #[.bool s8, .slice a8 l8 c8, .bool t8, .slice b8 k8 e8'] 27) := ⟨_, rfl⟩
          rw [← hW6]
          have HG6 := Lib.hid (HG8.out.trans (ag hW6))
          have HV6 := Lib.hid (HV8.out.grow (ag hW6))
          obtain ⟨x0, x1', x2', x3, x4, x5⟩ := ak4 hW6 W6 (Grow.refl _)
          obtain ⟨d0, d1, d2, d3, d4, d5⟩ := D0.out W6 HG6.out
          clear hW6
          obtain ⟨e1, e2⟩ := E5.out
          go_wp2_with (go_at_call 8; (with_reducible refine (AD.out _ _ _ (HVB.out.grow HG6.out) HV6.out).mono ?_); (rintro e u9 ⟨v9, rfl, hv9, hb9⟩; obtain ⟨s9, a9, l9, c9, t9, b9, k9, e9, rfl⟩ := hv9.form; have HV9 := Lib.hid hv9; clear hv9; obtain ⟨d0, d1, d2, d3, d4, d5⟩ := D0.out u9 (HG6.out.trans hb9)))
          clear e1 e2
          obtain ⟨hst1, hst2⟩ := HST2.out u9 (HG6.out.trans (by (repeat (first | with_reducible exact Grow.refl _ | with_reducible refine Grow.alloc ?_ _ | with_reducible refine Grow.drew ?_ | with_reducible refine Grow.drewN ?_ _ | (with_reducible refine Grow.setCell ?_ ?hp _; (case hp => (simp; try omega))) | with_reducible refine Grow.trans ?_ (by assumption))))) _ _ _ _ _ _ _ _ HV9.out
          go_roundg (K - (j + 1))
          case measure => have := HGK.out; omega
          case rel => exact ⟨j + 1, t', rfl, hjl, Lib.hid rfl, HT2, Lib.hid (RowP.mono hst1 (Nat.le_refl _) (fun j x hj hx => by rw [if_pos (by omega)]; exact hx)), Lib.hid (HB.out.trans hst2)⟩
  · have hout : decide (n < 1) = true ∨ (decide (n < 1) = false ∧ decide (n > 1000) = true) := by simp; omega
    clear hin
    rcases hout with o1 | ⟨o1, o2⟩
    all_goals
      go_enter Tryz.func3, Tryz.ntmps3
      go_wp2_with (go_at_call 5; (with_reducible refine (GA.out _ (by (repeat (first | with_reducible exact Grow.refl _ | with_reducible refine Grow.alloc ?_ _ | with_reducible refine Grow.drew ?_ | with_reducible refine Grow.drewN ?_ _ | (with_reducible refine Grow.setCell ?_ ?hp _; (case hp => (simp; try omega))) | with_reducible refine Grow.trans ?_ (by assumption))))).mono ?_); (rintro e u2 ⟨rfl, hb2⟩))
      go_ret
      exact ⟨rfl, by (repeat (first | with_reducible exact Grow.refl _ | with_reducible refine Grow.alloc ?_ _ | with_reducible refine Grow.drew ?_ | with_reducible refine Grow.drewN ?_ _ | (with_reducible refine Grow.setCell ?_ ?hp _; (case hp => (simp; try omega))) | with_reducible refine Grow.trans ?_ (by assumption)))⟩
end Go.Proofs.YtbpkfcohbefphaaGreatDoor
