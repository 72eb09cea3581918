/- Lemmas, plain laws and walks that the statement LwThreeSquares leans on (texts TwF, TbA, SeB), conditions as each theorem says. -/
import Derived.Test.YtbpkfcohbefphaaGreatTopThreeSquaresG13
import Derived.Test.YtbpkfcohbefphaaGreatTopThreeSquaresG18
import Derived.Test.YtbpkfcohbefphaaGreatTopThreeSquaresG20
import Derived.Test.YtbpkfcohbefphaaGreatTopThreeSquaresG21

/- Walk: theta.each over the closure that counts. -/
namespace Go.Proofs.YtbpkfcohbefphaaGreat
open Go Go.RowKit

theorem hist_step (q : Nat → Nat) (t j : Nat) : (if j = q t then ((hist (fun t => (q t : Int)) t (j : Int) : Nat) : Int) + 1 else ((hist (fun t => (q t : Int)) t (j : Int) : Nat) : Int)) = ((hist (fun t => (q t : Int)) (t + 1) (j : Int) : Nat) : Int) := by
  show _ = ((if (q t : Int) = (j : Int) then hist (fun t => (q t : Int)) t (j : Int) + 1 else hist (fun t => (q t : Int)) t (j : Int) : Nat) : Int)
  by_cases h : j = q t
  · rw [if_pos h, if_pos (by omega)]; omega
  · rw [if_neg h, if_neg (by omega)]
set_option maxRecDepth 20000 in
set_option maxHeartbeats 8000000 in
theorem eachT (n N B off c Bb cb p2 p3 p4 Mb cM prec : Nat) (v5 : Value) (f : Nat → Int) (b q : Nat → Nat) (hN : N = n * n) (hn0 : 0 < n) (hn : n ≤ 8) (hf : ∀ i, i < N → (f i).natAbs ≤ 1000) (hbx : ∀ i, i < n → b i ≤ 1048576) (hT : boxN b n ≤ 1048576)
    (hv : ∀ t, t < boxN b n → ssN n f (dig b n t) n = 2 * (q t : Int)) (w : World) (hA : IntQ w B off N f) (hBq : IntQ w Bb 0 n (fun i => (b i : Int))) (hM : ManS w p2 p3 p4 Mb cM prec (fun _ => 0)) (hB1 : B ≠ Mb) (hB2 : Bb ≠ Mb) :
    Calls Tryz.prog 64 #[.agg #[.int .i64 (n : Int), .slice (some ⟨B, off, none⟩) N c], .slice (some ⟨Bb, 0, none⟩) n cb, .func (.func 65) #[] #[.pointer (some ⟨p2, 0, none⟩), .pointer (some ⟨p3, 0, none⟩), .pointer (some ⟨p4, 0, none⟩), v5]] w fun e w' =>
      e = .returned (.tuple #[]) ∧ ManS w' p2 p3 p4 Mb cM prec (fun j => ((hist (fun t => (q t : Int)) (boxN b n) (j : Int) : Nat) : Int)) ∧ But (fun y => y = Mb) w w' := by
  have hNb : N ≤ 64 := by rw [hN]; exact Nat.mul_le_mul hn hn
  obtain ⟨T, hTT⟩ : ∃ T, boxN b n = T := ⟨_, rfl⟩
  have HTT := Lib.hid hTT
  have hT0 : 0 < T := by rw [← hTT]; exact boxN_pos b n
  rw [hTT] at hT hv ⊢
  have HV := Lib.hid hv
  have HA := Lib.hid hA
  have HBQ := Lib.hid hBq
  have HN := Lib.hid hN
  have HF := Lib.hid hf
  have HBX := Lib.hid hbx
  have HMN := Lib.hid hM
  have HB1 := Lib.hid hB1
  have HB2 := Lib.hid hB2
  clear hv hA hBq hN hf hbx hM hB1 hB2 hTT
  obtain ⟨ii, hii, iiz0, iiz1, iiz2⟩ := info_parts infoInt
  obtain ⟨W1, hW1⟩ : ∃ W1 : World, W1 = w.alloc (.cells #[.int .i64 (n : Int), .slice (some ⟨B, off, none⟩) N c] 31) := ⟨_, rfl⟩
  have hg1 := ag hW1
  have K1 := Lib.hid (ak2 hW1)
  have HZ1 : Hid (W1.heap.size = w.heap.size + 1) := Lib.hid (by rw [hW1]; simp)
  have HW1 := Lib.hid hW1
  clear hW1
  go_enter Tryz.func64, Tryz.ntmps64
  go_upto_region 1 with fail
  rw [← HW1.out]
  obtain ⟨b0, b1, b2, b3⟩ := K1.out W1 (Grow.refl _)
  go_wp2_with (at_make; refine wpList_make_full _ rfl _ _ 29 rfl (W1.heap.size) 3 ii (.int .i64 0) 1 Tryz.underlying29 hii iiz0 iiz1 .i64 .i64 (n : Int) (n : Int) n rfl rfl rfl rfl ?m1 ?m2 (Nat.le_refl _) ?_)
  case m1 => rw [iiz2]; omega
  case m2 => unfold maxLen; omega
  intro w2 hown2 hgrow2
  obtain ⟨g1, g2, g3⟩ := make_out hown2 hn0
  have hg2 : Grow W1 w2 := (Grow.refl W1).grown hgrow2 (fun k hk => by cases hk)
  rw [HZ1.out] at g1 g2 g3 ⊢
  have HE0 : Hid (EaS w w2 w.heap.size N n c B off p2 p3 p4 Mb cM prec (fun _ => 0) (fun _ => 0)) := Lib.hid (by
    obtain ⟨c0, c1, c2, c3⟩ := K1.out w2 hg2
    have hm := HMN.out
    exact ⟨(hg1.trans hg2).but _, g1, c0, c1, ⟨g1, fun i hi => by rw [Nat.zero_add]; exact g2 i hi⟩, g3, hm.but (X := fun _ => False) ((hg1.trans hg2).but _) (fun e => e) (fun e => e) (fun e => e) (fun e => e), hm.row.lt, hm.l2, hm.l3, hm.l4⟩)
  have HGG := Lib.hid g1
  clear hown2 hgrow2 g1 g2 g3 hg2 hii iiz0 iiz1 iiz2 b0 b1 b2 b3 hg1 K1
  go_wp2_with fail
  go_loopg [20] n (fun gk t20 wr => ∃ (k : Nat) (x : Nat → Int), t20 = .int .i64 (k : Int) ∧ k ≤ n ∧ Hid (gk = n - k) ∧ Hid (∀ i, i < k → x i = -(b i : Int)) ∧ Hid (EaS w wr w.heap.size N n c B off p2 p3 p4 Mb cM prec x (fun _ => 0)))
  case atStart => exact ⟨0, _, rfl, Nat.zero_le _, Lib.hid rfl, Lib.hid (fun i hi => absurd hi (Nat.not_lt_zero i)), HE0⟩
  case round =>
    obtain ⟨k, x, rfl, hk2, HGK, HX, HE⟩ := hrel
    clear HE0 HGG
    by_cases hkn : k = n
    · have y1 : decide ((k : Int) < (n : Int)) = false := by simp; omega
      have y2 : ¬ (k < n) := by omega
      have HE1 : Hid (EaS w wr w.heap.size N n c B off p2 p3 p4 Mb cM prec (dig b n 0) (fun j => ((hist (fun t => (q t : Int)) 0 (j : Int) : Nat) : Int))) := Lib.hid ((HE.out.congX (fun i hi => by rw [dig_lo]; show x i = (if i < n then -(b i : Int) else 0); rw [if_pos hi]; exact HX.out i (by omega))).congH (fun i hi => rfl))
      clear HE HX hkn
      go_wp2_with fail
      clear y1 y2
      go_loopg [] T (fun gk wr => ∃ t : Nat, t < T ∧ Hid (gk = T - t) ∧ Hid (EaS w wr w.heap.size N n c B off p2 p3 p4 Mb cM prec (dig b n t) (fun j => ((hist (fun t => (q t : Int)) t (j : Int) : Nat) : Int))))
      case atStart => exact ⟨0, hT0, Lib.hid rfl, HE1⟩
      case round =>
        clear HE1
        obtain ⟨t, ht, HGK, HE⟩ := hrel
        go_wp2_with fail
        go_loopg [8, 34] n (fun gk2 t8 t34 wx => ∃ (i : Nat) (s : Int), t8 = .int .i64 s ∧ t34 = .int .i64 (i : Int) ∧ i ≤ n ∧ Hid (gk2 = n - i) ∧ Hid (s = ssN n f (dig b n t) i) ∧ Hid (wr = wx))
        case atStart => exact ⟨0, 0, rfl, rfl, Nat.zero_le _, Lib.hid rfl, Lib.hid rfl, Lib.hid rfl⟩
        case round =>
          obtain ⟨i, s, rfl, rfl, hi2, HGK2, HS, HW⟩ := hrel
          obtain rfl := HW.out
          have HDX : Hid (∀ k, k < n → (dig b n t k).natAbs ≤ 1048576) := Lib.hid (fun k hk => by have h1 := dig_range b n t k hk; have h2 := HBX.out k hk; omega)
          have HFN : Hid (∀ k, k < n * n → (f k).natAbs ≤ 1000) := Lib.hid (fun k hk => HF.out k (by rw [HN.out]; exact hk))
          by_cases hin : i = n
          · have y1 : decide ((i : Int) < (n : Int)) = false := by simp; omega
            have y2 : ¬ (i < n) := by omega
            have hsb := ssN_le hn HFN.out HDX.out n (Nat.le_refl _)
            have hs : s = 2 * (q t : Int) := by rw [HS.out, hin, HV.out t ht]
            rw [HV.out t ht] at hsb
            have hqb : q t ≤ 100000000000000000 := by omega
            have E1 : Hid (Int.tdiv s 2 = (q t : Int)) := Lib.hid (by rw [hs, Int.tdiv_eq_ediv_of_nonneg (by omega)]; omega)
            have EQ := Lib.hid (w64n (n := (q t : Int)) (by omega))
            obtain ⟨zn, hzn⟩ : ∃ z, (n : Int) - 1 = z := ⟨_, rfl⟩
            have EZ : Hid (IntKind.i64.wrap ((n : Int) - 1) = zn ∧ wrap64 ((n : Int) - 1) = zn) := Lib.hid (by rw [hzn]; exact w64n (by omega))
            have HZN := Lib.hid hzn
            have CB := Lib.hid (fun (u : World) (H : ManS u p2 p3 p4 Mb cM prec (fun j => ((hist (fun t => (q t : Int)) t (j : Int) : Nat) : Int))) => cbT p2 p3 p4 Mb cM prec (q t) n n (some ⟨w.heap.size + 1, 0, none⟩) v5 _ (fun j hj => ⟨Int.natCast_nonneg _, by have := hist_le (fun t => (q t : Int)) (j : Int) t; omega⟩) u H)
            clear hs hsb hqb hzn hin HS HW
            have e1 := E1.out
            obtain ⟨e2, e3⟩ := EQ.out
            obtain ⟨e4, e5⟩ := EZ.out
            go_wp2_with (go_at_call 65; (with_reducible refine (CB.out _ HE.out.man).mono ?_); (rintro e w3 ⟨rfl, hm3, hb3⟩; have HE3 := Lib.hid (EaS.congH (HE.out.call hm3 hb3) (fun j _ => hist_step q t j)); clear hm3 hb3; have d0 := HE3.out.g0))
            clear e1 e2 e3 e4 e5 d0 y1 y2 CB
            go_loopg [14] n (fun gk5 t14 wx => ∃ (j : Nat) (z : Int) (x : Nat → Int), t14 = .int .i64 z ∧ j ≤ n ∧ Hid (z = (j : Int) - 1) ∧ Hid (gk5 = j) ∧ Hid (nextI b x j = nextI b (dig b n t) n) ∧ Hid (∀ i, i < n → -(b i : Int) ≤ x i ∧ x i ≤ b i) ∧ Hid (EaS w wx w.heap.size N n c B off p2 p3 p4 Mb cM prec x (fun j => ((hist (fun t => (q t : Int)) (t + 1) (j : Int) : Nat) : Int))))
            case atStart => exact ⟨n, zn, _, rfl, Nat.le_refl _, Lib.hid (by rw [HZN.out]), Lib.hid rfl, Lib.hid rfl, Lib.hid (fun i hi => dig_range b n t i hi), HE3⟩
            case round =>
              clear HE3 HE
              obtain ⟨j, z, x, rfl, hj2, HZ, HGK5, HNX, HXR, HE⟩ := hrel
              have hnx := nextI_dig b n t (by rw [HTT.out]; exact ht)
              rw [HTT.out] at hnx
              have HNXD := Lib.hid hnx
              clear hnx
              rcases Nat.eq_zero_or_pos j with hj0 | hj0
              · obtain rfl : z = -1 := by rw [HZ.out, hj0]; rfl
                have hx0 : nextI b x j = none := by rw [hj0]; rfl
                have hT1 : t + 1 = T := by
                  have h1 := HNX.out
                  rw [HNXD.out, hx0] at h1
                  by_cases h2 : t + 1 < T
                  · rw [if_pos h2] at h1; cases h1
                  · omega
                have HT1 := Lib.hid hT1
                clear hx0 hT1 hj0
                go_upto_region 21 with fail
                go_quiet (fail)
                go_wp2_with fail
                (try simp only [Exit.inBlock, Exit.then]); refine bodyPost_ret (v := .tuple #[]) (results_none rfl _ _ _) rfl ?_
                have hE := HE.out
                refine ⟨rfl, ?_, ?_⟩
                · have hE2 := hE.grow (show Grow wr (wr.drewN nq) by (repeat (first | with_reducible exact Grow.refl _ | with_reducible refine Grow.alloc ?_ _ | with_reducible refine Grow.drew ?_ | with_reducible refine Grow.drewN ?_ _ | (with_reducible refine Grow.setCell ?_ ?hp _; (case hp => (simp; try omega))) | with_reducible refine Grow.trans ?_ (by assumption))))
                  have hm := hE2.man
                  rw [HT1.out] at hm
                  exact hm
                · have hE2 := hE.grow (show Grow wr (wr.drewN nq) by (repeat (first | with_reducible exact Grow.refl _ | with_reducible refine Grow.alloc ?_ _ | with_reducible refine Grow.drew ?_ | with_reducible refine Grow.drewN ?_ _ | (with_reducible refine Grow.setCell ?_ ?hp _; (case hp => (simp; try omega))) | with_reducible refine Grow.trans ?_ (by assumption))))
                  exact (But.refl (fun y => y = Mb) w).late hE2.chg (fun b hb hc => by rcases hc with hc | hc; exact hc; omega)
              · obtain ⟨k, rfl⟩ : ∃ k, j = k + 1 := ⟨j - 1, by omega⟩
                obtain rfl : z = (k : Int) := by rw [HZ.out]; omega
                have hk : k < n := by omega
                have z0 : (0 : Int) ≤ (k : Int) := by omega
                have z1 : (k : Int) < (n : Int) := by omega
                obtain ⟨xk, hxk⟩ : ∃ z, x k = z := ⟨_, rfl⟩
                have hc1 := HE.out.row.cell k hk
                have hc2 := (HE.out.old rfl HBQ.out HB2.out).cell k hk
                rw [Nat.zero_add] at hc1 hc2
                rw [hxk] at hc1
                have hf1 := HE.out.free
                have hfx := HXR.out k hk
                rw [hxk] at hfx
                have hbk := HBX.out k hk
                have HXK := Lib.hid hxk
                have HC1 := Lib.hid hc1
                obtain ⟨bk, hbk2⟩ : ∃ z, b k = z := ⟨_, rfl⟩
                rw [hbk2] at hc2 hfx hbk
                have HBK := Lib.hid hbk2
                clear hxk hbk2 hj0
                by_cases he : xk = (bk : Int)
                · subst he
                  have EN := Lib.hid (w64n (n := -(bk : Int)) (by omega))
                  obtain ⟨zk, hzk⟩ : ∃ z, (k : Int) - 1 = z := ⟨_, rfl⟩
                  have EZ2 : Hid (IntKind.i64.wrap ((k : Int) - 1) = zk ∧ wrap64 ((k : Int) - 1) = zk) := Lib.hid (by rw [hzk]; exact w64n (by omega))
                  have HZK := Lib.hid hzk
                  clear hzk hfx hbk
                  go_upto_region 21 with fail
                  go_quiet (fail)
                  obtain ⟨e2, e3⟩ := EN.out
                  obtain ⟨e4, e5⟩ := EZ2.out
                  go_wp2_with fail
                  clear e2 e3 e4 e5
                  go_roundg k
                  case measure => have := HGK5.out; omega
                  case rel =>
                    refine ⟨k, zk, upd x k (-(bk : Int)), rfl, by omega, Lib.hid (by rw [HZK.out]), Lib.hid rfl, Lib.hid ?_, Lib.hid ?_, Lib.hid ((HE.out.grow (by (repeat (first | with_reducible exact Grow.refl _ | with_reducible refine Grow.alloc ?_ _ | with_reducible refine Grow.drew ?_ | with_reducible refine Grow.drewN ?_ _ | (with_reducible refine Grow.setCell ?_ ?hp _; (case hp => (simp; try omega))) | with_reducible refine Grow.trans ?_ (by assumption))))).put hk _)⟩
                    · rw [← HNX.out]
                      show _ = if x k = b k then nextI b (upd x k (-(b k : Int))) k else some (upd x k (x k + 1))
                      rw [HXK.out, HBK.out, if_pos rfl]
                    · intro i hi
                      by_cases e : i = k
                      · subst e; rw [upd_same, HBK.out]; omega
                      · rw [upd_other _ _ e]; exact HXR.out i hi
                · have hne : (xk == (bk : Int)) = false := by simp; exact he
                  obtain ⟨x2, hx2⟩ : ∃ z, xk + 1 = z := ⟨_, rfl⟩
                  have EN : Hid (IntKind.i64.wrap (xk + 1) = x2 ∧ wrap64 (xk + 1) = x2) := Lib.hid (by rw [hx2]; exact w64n (by omega))
                  have HX2 := Lib.hid hx2
                  have hnext : t + 1 < T ∧ upd x k (xk + 1) = dig b n (t + 1) := by
                    have h1 := HNX.out
                    rw [HNXD.out] at h1
                    have h3 : nextI b x (k + 1) = some (upd x k (xk + 1)) := by
                      show (if x k = b k then nextI b (upd x k (-(b k : Int))) k else some (upd x k (x k + 1))) = _
                      rw [HXK.out, HBK.out, if_neg he]
                    rw [h3] at h1
                    by_cases h2 : t + 1 < T
                    · rw [if_pos h2] at h1; exact ⟨h2, Option.some.inj h1⟩
                    · rw [if_neg h2] at h1; cases h1
                  have HNEXT := Lib.hid hnext
                  have z2 : decide ((k : Int) < 0) = false := by simp
                  have z3 : ¬ ((k : Int) < 0) := by omega
                  clear hx2 hfx hbk he hnext
                  go_upto_region 21 with fail
                  go_quiet (fail)
                  obtain ⟨e2, e3⟩ := EN.out
                  go_wp2_with fail
                  clear e2 e3
                  go_roundg (T - (t + 1))
                  case measure => have := HGK.out; omega
                  case rel =>
                    obtain ⟨h1, h2⟩ := HNEXT.out
                    refine ⟨t + 1, h1, Lib.hid rfl, Lib.hid (((HE.out.grow (by (repeat (first | with_reducible exact Grow.refl _ | with_reducible refine Grow.alloc ?_ _ | with_reducible refine Grow.drew ?_ | with_reducible refine Grow.drewN ?_ _ | (with_reducible refine Grow.setCell ?_ ?hp _; (case hp => (simp; try omega))) | with_reducible refine Grow.trans ?_ (by assumption))))).put hk x2).congX (fun i _ => by rw [← HX2.out, h2]))⟩
          · have hi : i < n := by omega
            have z0 : (0 : Int) ≤ (i : Int) := by omega
            have z1 : (i : Int) < (n : Int) := by omega
            have hci := HE.out.row.cell i hi
            rw [Nat.zero_add] at hci
            obtain ⟨xi, hxi⟩ : ∃ z, dig b n t i = z := ⟨_, rfl⟩
            rw [hxi] at hci
            have HXI := Lib.hid hxi
            clear hxi hin
            go_wp2_with fail
            clear z0 z1 hci
            go_loopg [11, 41] n (fun gk3 t11 t41 wy => ∃ (k : Nat) (p : Int), t11 = .int .i64 p ∧ t41 = .int .i64 (k : Int) ∧ k ≤ n ∧ Hid (gk3 = n - k) ∧ Hid (p = psN (fun k => f (i * n + k)) (dig b n t) k) ∧ Hid (wr = wy))
            case atStart => exact ⟨0, 0, rfl, rfl, Nat.zero_le _, Lib.hid rfl, Lib.hid rfl, Lib.hid rfl⟩
            case round =>
              obtain ⟨k, p, rfl, rfl, hk2, HGK3, HP, HW2⟩ := hrel
              obtain rfl := HW2.out
              have HPB : Hid (p.natAbs ≤ 8 * 1048576000) := Lib.hid (by
                have h1 := psN_le (g := fun k => f (i * n + k)) (n := n) (fun k hk => HFN.out _ (ix_lt hi hk hn).1) HDX.out k hk2
                rw [HP.out]; exact Nat.le_trans h1 (Nat.mul_le_mul_right _ (by omega)))
              by_cases hkn : k = n
              · have y1 : decide ((k : Int) < (n : Int)) = false := by simp; omega
                have y2 : ¬ (k < n) := by omega
                obtain ⟨m, hm⟩ : ∃ m, xi * p = m := ⟨_, rfl⟩
                obtain ⟨s2, hs2⟩ : ∃ z, s + m = z := ⟨_, rfl⟩
                have hsn : ssN n f (dig b n t) (i + 1) = s2 := by rw [← hs2, ← hm, HS.out, HP.out, hkn, ← HXI.out]; rfl
                have hb1 := ssN_le hn HFN.out HDX.out (i + 1) hi
                rw [hsn] at hb1
                have hb0 := abs_mul_le (HDX.out i hi) HPB.out (show 1048576 * (8 * 1048576000) ≤ 9000000000000000 by decide)
                rw [HXI.out, hm] at hb0
                have YM : Hid (IntKind.i64.wrap (xi * p) = m ∧ wrap64 (xi * p) = m) := Lib.hid (by rw [hm]; exact w64n (by omega))
                have YS : Hid (IntKind.i64.wrap (s + m) = s2 ∧ wrap64 (s + m) = s2) := Lib.hid (by rw [hs2]; exact w64n (by omega))
                have YI := Lib.hid (inc_wrap hi (by omega))
                have HSN := Lib.hid hsn.symm
                clear hm hs2 hsn hb1 hb0 hkn HS
                obtain ⟨e1, e2⟩ := YM.out
                obtain ⟨e3, e4⟩ := YS.out
                obtain ⟨e5, e6⟩ := YI.out
                go_wp2_with fail
                clear e1 e2 e3 e4 e5 e6
                go_roundg (n - (i + 1))
                case measure => have := HGK2.out; omega
                case rel => exact ⟨i + 1, s2, rfl, rfl, hi, Lib.hid rfl, HSN, Lib.hid rfl⟩
              · have hk : k < n := by omega
                have v0 : (0 : Int) ≤ (k : Int) := by omega
                have v1 : (k : Int) < (n : Int) := by omega
                obtain ⟨r, hr⟩ : ∃ r, i * n + k = r := ⟨_, rfl⟩
                have hrN : r < N := by rw [HN.out, ← hr]; exact (ix_lt hi hk hn).1
                have hcx := HE.out.row.cell k hk
                rw [Nat.zero_add] at hcx
                have hcf := (HE.out.old rfl HA.out HB1.out).cell r hrN
                obtain ⟨xk, hxk⟩ : ∃ z, dig b n t k = z := ⟨_, rfl⟩
                obtain ⟨fr, hfr⟩ : ∃ z, f r = z := ⟨_, rfl⟩
                rw [hxk] at hcx
                rw [hfr] at hcf
                have d0 := HE.out.g0
                have d1 := HE.out.g1
                have p0 : (0 : Int) ≤ (r : Int) := by omega
                have p1 : (r : Int) < (N : Int) := by omega
                obtain ⟨m, hm⟩ : ∃ m, fr * xk = m := ⟨_, rfl⟩
                obtain ⟨s2, hs2⟩ : ∃ z, p + m = z := ⟨_, rfl⟩
                have hsn : psN (fun k => f (i * n + k)) (dig b n t) (k + 1) = s2 := by
                  rw [← hs2, ← hm, HP.out, ← hxk, ← hfr, ← hr]; rfl
                have hb1 := psN_le (g := fun k => f (i * n + k)) (n := n) (fun k hk => HFN.out _ (ix_lt hi hk hn).1) HDX.out (k + 1) hk
                rw [hsn] at hb1
                have hb0 := abs_mul_le (HF.out r hrN) (HDX.out k hk) (show 1000 * 1048576 ≤ 1048576000 by decide)
                rw [hfr, hxk, hm] at hb0
                have YM : Hid (IntKind.i64.wrap (fr * xk) = m ∧ wrap64 (fr * xk) = m) := Lib.hid (by rw [hm]; exact w64n (by omega))
                have YS : Hid (IntKind.i64.wrap (p + m) = s2 ∧ wrap64 (p + m) = s2) := Lib.hid (by rw [hs2]; exact w64n (by omega))
                have YI := Lib.hid (inc_wrap hk (by omega))
                have AW := Lib.hid (ix_wrap hi hk hn hr)
                have HSN := Lib.hid hsn.symm
                clear hm hs2 hsn hb1 hb0 hkn hxk hfr hr HP
                obtain ⟨e1, e2⟩ := YM.out
                obtain ⟨e3, e4⟩ := YS.out
                obtain ⟨e5, e6⟩ := YI.out
                obtain ⟨pq, a1, a2, a3, a4⟩ := AW.out
                go_wp2_with fail
                clear e1 e2 e3 e4 e5 e6 a1 a2 a3 a4
                go_roundg (n - (k + 1))
                case measure => have := HGK3.out; omega
                case rel => exact ⟨k + 1, s2, rfl, rfl, hk, Lib.hid rfl, HSN, Lib.hid rfl⟩
    · have hk : k < n := by omega
      have z0 : (0 : Int) ≤ (k : Int) := by omega
      have z1 : (k : Int) < (n : Int) := by omega
      have hc1 := HE.out.row.cell k hk
      have hc2 := (HE.out.old rfl HBQ.out HB2.out).cell k hk
      rw [Nat.zero_add] at hc1 hc2
      have hf1 := HE.out.free
      have hbk := HBX.out k hk
      obtain ⟨bk, hbk2⟩ : ∃ z, b k = z := ⟨_, rfl⟩
      obtain ⟨xk, hxk⟩ : ∃ z, x k = z := ⟨_, rfl⟩
      rw [hbk2] at hc2 hbk
      rw [hxk] at hc1
      have EN := Lib.hid (w64n (n := -(bk : Int)) (by omega))
      have YI := Lib.hid (inc_wrap hk (by omega))
      have HBK := Lib.hid hbk2
      have hl := HE.out.lt
      clear hbk hbk2 hxk hkn
      obtain ⟨e1, e2⟩ := EN.out
      obtain ⟨e3, e4⟩ := YI.out
      go_wp2_with fail
      clear e1 e2 e3 e4
      go_roundg (n - (k + 1))
      case measure => have := HGK.out; omega
      case rel =>
        refine ⟨k + 1, upd x k (-(bk : Int)), rfl, hk, Lib.hid rfl, Lib.hid ?_, Lib.hid (HE.out.put hk _)⟩
        intro i hi
        by_cases e : i = k
        · subst e; rw [upd_same, HBK.out]
        · rw [upd_other _ _ e]; exact HX.out i (by omega)
end Go.Proofs.YtbpkfcohbefphaaGreat
/- Walks of the statements' helpers: Z, Q. -/
namespace Go.Proofs.YtbpkfcohbefphaaGreat
open Go Go.RowKit

theorem mag_own {w : World} {base : Nat} {t : TypeId} {v : Value} {n : Nat} (hn : n < 4294967296) (h0 : 0 < n) (h : w.ownsRow base t 1 v 1 [.int .u32 (n : Int)]) : MagR w v n :=
  MagR.of_row hn (by rw [if_neg (by omega), if_neg (by omega)]; exact own_rdrow h (by intro u hu; simp at hu; subst hu; rfl))
theorem ser_cell {w u : World} {B : Nat} (hB : w.heap.size ≤ B) (_ : B < u.heap.size) {v0 v1 : Value} (h0 : u.cell? ⟨B, 0, none⟩ = some v0) (h1 : u.cell? ⟨B, 1, none⟩ = some v1) (n0 : ∀ x, v0 ≠ .int .u32 x) (n1 : ∀ x, v1 ≠ .int .u32 x) (hg : Grow w u) (x0 x1 : Value) (_ : ∀ x, x0 ≠ .int .u32 x) :
    But (fun b => b = B) u ((u.setCell ⟨B, 0, none⟩ x0).setCell ⟨B, 1, none⟩ x1) ∧ Grow w ((u.setCell ⟨B, 0, none⟩ x0).setCell ⟨B, 1, none⟩ x1) := by
  have hb : But (fun b => b = B) u ((u.setCell ⟨B, 0, none⟩ x0).setCell ⟨B, 1, none⟩ x1) := ((But.refl (fun b => b = B) u).set x0 (.inr rfl) (fun x => by rw [h0]; intro e; injection e with e; exact n0 x e)).set x1 (.inr rfl) (fun x => by
    rw [World.cell?_setCell_other _ _ _ _ (by simp : (⟨B, 0, none⟩ : Addr) ≠ ⟨B, 1, none⟩), h1]; intro e; injection e with e; exact n1 x e)
  exact ⟨hb, ((hg.but _).trans hb).asGrow (fun b e => by omega)⟩
structure ZS (w wr : World) (B2 : Nat) (sg : Bool) (a : Option Addr) (l c : Nat) : Prop where
  g : Grow w wr
  c0 : wr.cell? ⟨B2, 0, none⟩ = some (.bool sg)
  c1 : wr.cell? ⟨B2, 1, none⟩ = some (.slice a l c)
  cf : ∀ o, wr.frozen? ⟨B2, o, none⟩ = false
  cl : B2 < wr.heap.size
  r0 : wr.cell? ⟨w.heap.size, 0, none⟩ = some (.bool false)
  r1 : wr.cell? ⟨w.heap.size, 1, none⟩ = some (.slice none 0 0)
  rf : ∀ o, wr.frozen? ⟨w.heap.size, o, none⟩ = false
  ne : w.heap.size < B2
theorem ZS.grow {w u u' : World} {B2 : Nat} {sg : Bool} {a : Option Addr} {l c : Nat} (h : ZS w u B2 sg a l c) (hg : Grow u u') : ZS w u' B2 sg a l c :=
  ⟨h.g.trans hg, (hg.cells _ _ h.cl).trans h.c0, (hg.cells _ _ h.cl).trans h.c1, fun o => (hg.frees _ _ h.cl).trans (h.cf o), Nat.lt_of_lt_of_le h.cl hg.size, (hg.cells _ _ (Nat.lt_trans h.ne h.cl)).trans h.r0, (hg.cells _ _ (Nat.lt_trans h.ne h.cl)).trans h.r1, fun o => (hg.frees _ _ (Nat.lt_trans h.ne h.cl)).trans (h.rf o), h.ne⟩
theorem ZS.put {w u : World} {B2 : Nat} {sg : Bool} {a : Option Addr} {l c : Nat} (h : ZS w u B2 sg a l c) (a' : Option Addr) (l' c' : Nat) :
    But (fun b => b = B2) u (u.setCell ⟨B2, 1, none⟩ (.slice a' l' c')) ∧ ZS w (u.setCell ⟨B2, 1, none⟩ (.slice a' l' c')) B2 sg a' l' c' := by
  have hb : But (fun b => b = B2) u (u.setCell ⟨B2, 1, none⟩ (.slice a' l' c')) := (But.refl (fun b => b = B2) u).set _ (.inr rfl) (fun x => by rw [h.c1]; simp)
  have hl := Nat.lt_trans h.ne h.cl
  have hne : ¬ (w.heap.size = B2) := by have := h.ne; omega
  exact ⟨hb, h.g.setCell (Nat.le_of_lt h.ne) _, (World.cell?_setCell_other _ _ _ _ (by simp)).trans h.c0, World.cell?_setCell_same _ _ _ h.c1, fun o => (hb.frees _ _ h.cl).trans (h.cf o), Nat.lt_of_lt_of_le h.cl hb.size, (hb.cells _ _ hl hne).trans h.r0, (hb.cells _ _ hl hne).trans h.r1, fun o => (hb.frees _ _ hl).trans (h.rf o), h.ne⟩
set_option maxRecDepth 20000 in
set_option maxHeartbeats 8000000 in
theorem zbCore (z u0 : Int) (n : Nat) (sg : Bool) (hn : n < 4294967296) (hz : z.natAbs = n) (hsg : sgB z = sg) (hu : IntKind.u64.wrap z = u0) (hu2 : sg = true → IntKind.u64.wrap (-u0) = (n : Int)) (hu3 : sg = false → u0 = (n : Int)) (w : World) :
    Calls Tryz.prog 39 #[.int .i64 z] w fun e w' => ∃ v, e = .returned v ∧ IntR w' v z ∧ Grow w w' := by
  obtain ⟨iu, hiu, iuz0, iuz1, iuz2⟩ := info_parts infoU
  have hdz : decide (z < 0) = sg := hsg
  have HZ := Lib.hid hz
  have HSG := Lib.hid hsg
  clear hz hsg
  obtain ⟨W1, hW1⟩ : ∃ W1 : World, W1 = w.alloc (.cells #[.bool false, .slice none 0 0] 34) := ⟨_, rfl⟩
  have HG1 := Lib.hid (ag hW1)
  have K1 := Lib.hid (ak2 hW1)
  have HZ1 : Hid (W1.heap.size = w.heap.size + 1) := Lib.hid (by rw [hW1]; simp)
  have HW1 := Lib.hid hW1
  clear hW1
  have hu4 : (sg = false ∧ u0 = (n : Int)) ∨ (sg = true ∧ IntKind.u64.wrap (-u0) = (n : Int)) := by
    cases sg
    · exact .inl ⟨rfl, hu3 rfl⟩
    · exact .inr ⟨rfl, hu2 rfl⟩
  clear hu2 hu3
  rcases hu4 with ⟨rfl, rfl⟩ | ⟨rfl, hu4⟩
  all_goals
    go_enter Tryz.func39, Tryz.ntmps39
    go_upto_region 1 with fail
    rw [← HW1.out]
    go_upto_block 0 with fail
    obtain ⟨W2, hW2⟩ : ∃ W2 : World, W2 = W1.alloc (.cells #[.bool (sgB z), .slice none 0 0] 34) := ⟨_, rfl⟩
    rw [HSG.out] at hW2
    rw [← hW2]
    have HS : Hid (ZS w W2 W1.heap.size (sgB z) none 0 0) := Lib.hid (by
      rw [HSG.out]
      obtain ⟨c0, c1, c2, c3⟩ := K1.out W2 (ag hW2)
      obtain ⟨d0, d1, d2, d3⟩ := ak2 hW2 W2 (Grow.refl _)
      exact ⟨HG1.out.trans (ag hW2), d0, d1, d2, d3, c0, c1, c2, by rw [HZ1.out]; omega⟩)
    clear hW2
    go_wp2_with fail
    go_loopg [3] 1 (fun gk t3 wr => ∃ (k l c : Nat) (a : Option Addr), t3 = .int .u64 (k : Int) ∧ Hid (k ≠ 0 → 1 ≤ gk) ∧ Hid (ZS w wr W1.heap.size (sgB z) a l c) ∧ Hid ((k = n ∧ a = none ∧ l = 0 ∧ c = 0) ∨ (k = 0 ∧ MagR wr (.slice a l c) n)))
    case atStart => exact ⟨n, 0, 0, none, rfl, Lib.hid (fun _ => Nat.le_refl _), HS, Lib.hid (.inl ⟨rfl, rfl, rfl, rfl⟩)⟩
    case round =>
      clear HS
      obtain ⟨k, l, c, a, rfl, HGK, HS, HC⟩ := hrel
      obtain ⟨s1, s2, s3, s4, s5, s6, s7, s8, s9⟩ := HS.out
      have HNE := Lib.hid s9
      clear s9
      rcases HC.out with ⟨rfl, rfl, rfl, rfl⟩ | ⟨rfl, hm⟩
      · by_cases hk0 : k = 0
        · subst hk0
          obtain ⟨hb, hg⟩ := ser_cell (Nat.le_refl _) (Nat.lt_trans HNE.out s5) s6 s7 (fun x => by simp) (fun x => by simp) HS.out.g (.bool (sgB z)) (.slice none 0 0) (fun x => by simp)
          have HB := Lib.hid hb
          have HG := Lib.hid hg
          clear hb hg
          go_wp2_with fail
          refine bodyPost_ret (v := .agg #[.bool (sgB z), .slice none 0 0]) (by rw [results_one rfl]; go_simp) rfl ⟨_, rfl, ?_, HG.out⟩
          exact ⟨_, rfl, .inl ⟨HZ.out, _, _, rfl⟩⟩
        · have z1 : decide ((k : Int) > 0) = true := by simp; omega
          have z2 : (0 : Int) < (k : Int) := by omega
          have y1 : IntKind.u32.wrap (k : Int) = (k : Int) := IntWalk.u32_in _ (by omega)
          have z3 : (k : Int) / 4294967296 = 0 := by omega
          have Z3 := Lib.hid z3
          clear z3
          go_wp2_with (at_builtin; go_loud (refine wpList_append_own _ rfl _ _ 32 rfl (wr.heap.size) 117 iu (.int .u32 0) 1 4 Tryz.underlying32 hiu iuz0 iuz1 iuz2 rfl (by decide) _ _ _ rfl (World.ownsRow_nil _ _ _ _) ⟨wr.heap.size, 0, none⟩ 1 1 [.int .u32 (k : Int)] rfl rfl (one_cells _ _ _ _ rfl) (one_oneCell _ _) (by unfold maxLen; omega) (by omega) (by simp) ?_))
          intro v7 w7 hown7 hgrow7 _
          have hg7 : Grow wr w7 := ((Grow.refl wr).alloc _).grown hgrow7 (fun k hk => by cases hk)
          obtain ⟨a7, c7, rfl⟩ := own_form hown7
          have hm7 : MagR w7 (.slice a7 (0 + 1) c7) k := mag_own hn (by omega) hown7
          have hs7 := HS.out.grow hg7
          obtain ⟨hb8, hs8⟩ := hs7.put a7 (0 + 1) c7
          have HM8 := Lib.hid (hm7.but hb8)
          have HS8 := Lib.hid hs8
          obtain ⟨s1, s2, s3, s4, s5, s6, s7, s8, s9⟩ := hs7
          clear hown7 hgrow7 hm7 hb8 hs8 hg7 s9
          have z4 := Z3.out
          go_wp2_with fail
          clear z4
          go_roundg 0
          case measure => have := HGK.out (by omega); omega
          case rel => exact ⟨0, 0 + 1, c7, a7, rfl, Lib.hid (fun h => absurd rfl h), HS8, Lib.hid (.inr ⟨rfl, HM8.out⟩)⟩
      · obtain ⟨hb, hg⟩ := ser_cell (Nat.le_refl _) (Nat.lt_trans HNE.out s5) s6 s7 (fun x => by simp) (fun x => by simp) HS.out.g (.bool (sgB z)) (.slice a l c) (fun x => by simp)
        have HB := Lib.hid hb
        have HG := Lib.hid hg
        have HM := Lib.hid hm
        clear hb hg hm
        go_wp2_with fail
        refine bodyPost_ret (v := .agg #[.bool (sgB z), .slice a l c]) (by rw [results_one rfl]; go_simp) rfl ⟨_, rfl, ?_, HG.out⟩
        exact ⟨_, rfl, by rw [HZ.out]; exact HM.out.but HB.out⟩
theorem zbV (z : Int) (hz : z.natAbs < 4294967296) (w : World) : Calls Tryz.prog 39 #[.int .i64 z] w fun e w' => ∃ v, e = .returned v ∧ IntR w' v z ∧ Grow w w' := by
  by_cases h0 : z < 0
  · exact zbCore z (18446744073709551616 - (z.natAbs : Int)) z.natAbs true hz rfl (by simp [sgB, h0]) (by simp [IntKind.wrap, IntKind.bits, IntKind.signed]; omega) (fun _ => by simp [IntKind.wrap, IntKind.bits, IntKind.signed]; omega) (fun h => by cases h) w
  · exact zbCore z (z.natAbs : Int) z.natAbs false hz rfl (by simp [sgB, h0]) (by rw [show z = (z.natAbs : Int) by omega]; exact IntWalk.u64_in _ (by omega)) (fun h => by cases h) (fun _ => rfl) w
set_option maxRecDepth 20000 in
set_option maxHeartbeats 8000000 in
theorem qbQ (z : Int) (hz : z.natAbs < 4294967296) (w : World) : Calls Tryz.prog 11 #[.int .i64 z] w fun e w' => ∃ v, e = .returned v ∧ RatR w' v (z : Rat) ∧ Grow w w' := by
  have O1 := Lib.hid (fun u => zbV z hz u)
  have O2 := Lib.hid (fun u => zbV 1 (by decide) u)
  clear hz
  obtain ⟨W1, hW1⟩ : ∃ W1 : World, W1 = w.alloc (.cells #[.bool false, .slice none 0 0, .bool false, .slice none 0 0] 36) := ⟨_, rfl⟩
  have hg1 := ag hW1
  have K1 := Lib.hid (ak4 hW1)
  have RC : Hid (RowP W1 w.heap.size 0 1 (fun _ => none)) := Lib.hid (by rw [hW1]; exact rowp_alloc w _)
  have HW1 := Lib.hid hW1
  clear hW1
  go_enter Tryz.func11, Tryz.ntmps11
  go_upto_region 1 with fail
  rw [← HW1.out]
  go_wp2_with (go_at_call 39; (with_reducible refine (O1.out _).mono ?_); (rintro e u5 ⟨v5, rfl, hv5, hb5⟩; obtain ⟨s5, a5, l5, c5, rfl⟩ := hv5.form; have HV5 := Lib.hid hv5; clear hv5 O1))
  go_wp2_with (go_at_call 39; (with_reducible refine (O2.out _).mono ?_); (rintro e u6 ⟨v6, rfl, hv6, hb6⟩; obtain ⟨s6, a6, l6, c6, rfl⟩ := hv6.form; have HV6 := Lib.hid hv6; clear hv6 O2; obtain ⟨q0, q1, q2, q3, qf, qz⟩ := K1.out u6 (by (repeat (first | with_reducible exact Grow.refl _ | with_reducible refine Grow.alloc ?_ _ | with_reducible refine Grow.drew ?_ | with_reducible refine Grow.drewN ?_ _ | (with_reducible refine Grow.setCell ?_ ?hp _; (case hp => (simp; try omega))) | with_reducible refine Grow.trans ?_ (by assumption))))))
  obtain ⟨h1, h2⟩ := rescell (w := w) (RC.out.grow (show Grow W1 u6 by (repeat (first | with_reducible exact Grow.refl _ | with_reducible refine Grow.alloc ?_ _ | with_reducible refine Grow.drew ?_ | with_reducible refine Grow.drewN ?_ _ | (with_reducible refine Grow.setCell ?_ ?hp _; (case hp => (simp; try omega))) | with_reducible refine Grow.trans ?_ (by assumption))))) (by omega) (hg1.trans (by (repeat (first | with_reducible exact Grow.refl _ | with_reducible refine Grow.alloc ?_ _ | with_reducible refine Grow.drew ?_ | with_reducible refine Grow.drewN ?_ _ | (with_reducible refine Grow.setCell ?_ ?hp _; (case hp => (simp; try omega))) | with_reducible refine Grow.trans ?_ (by assumption))))) (RatR.whole (HV5.out.grow (by (repeat (first | with_reducible exact Grow.refl _ | with_reducible refine Grow.alloc ?_ _ | with_reducible refine Grow.drew ?_ | with_reducible refine Grow.drewN ?_ _ | (with_reducible refine Grow.setCell ?_ ?hp _; (case hp => (simp; try omega))) | with_reducible refine Grow.trans ?_ (by assumption))))) HV6.out)
  exact bodyPost_ret (v := .agg #[.bool s5, .slice a5 l5 c5, .bool s6, .slice a6 l6 c6]) (by rw [results_one rfl]; go_simp) rfl ⟨_, rfl, h1, h2⟩
end Go.Proofs.YtbpkfcohbefphaaGreat
/- Walks of series: build of a list whose first coefficient isn't 0, from exponent 0 on; tidy, Normal. -/
namespace Go.Proofs.YtbpkfcohbefphaaGreat
open Go Go.RowKit

theorem made_nu (z : Array Value) (hz : ∀ u ∈ z.toList, NU u) (h0 : 0 < z.size) (k : Nat) : ∀ u, u ∈ (madeCells z k).toList → NU u := by
  intro u hu
  simp only [madeCells, Array.toList_map, List.mem_map] at hu
  obtain ⟨i, -, rfl⟩ := hu
  have hi : i % z.size < z.size := Nat.mod_lt _ h0
  rw [getElem!_pos z (i % z.size) hi]
  exact hz _ (by simp)
theorem OwnG.make {w : World} {base size cap : Nat} {t : TypeId} {z : Array Value} (hb : base ≤ w.heap.size) (hc : cap ≤ maxLen) (hz : ∀ u ∈ z.toList, NU u) (h0 : 0 < z.size) :
    OwnG (w.alloc (.cells (madeCells z (cap * size)) t)) base t size (.slice (some ⟨w.heap.size, 0, none⟩) 0 cap) 0 [] :=
  ⟨by simp, .inr ⟨w.heap.size, cap, _, rfl, hb, by show (Array.push w.heap _)[w.heap.size]? = _; simp, Nat.zero_le _, hc, size_madeCells _ _, by simp, made_nu z hz h0 _⟩⟩
theorem OwnG.ge {w : World} {base g n c size : Nat} {t : TypeId} {xs : List Value} (h : OwnG w base t size (.slice (some ⟨g, 0, none⟩) n c) n xs) : base ≤ g := by
  rcases h.2 with ⟨hv, -⟩ | ⟨g', cap, cur, hv, hb, -⟩
  · simp at hv
  · simp only [Value.slice.injEq, Option.some.injEq, Addr.mk.injEq] at hv
    omega
/-- 'make([]T, 0, n)': the world stands plain. -/
theorem wpList_make_g {P : Program} (w : World) {ops : Array Oper} {rest : List Oper} {o : Oper} {a : Act} {Q : Exit → Act → World → Prop}
    (hg : o.guard = none) (l c : Operand) (t : TypeId) (hop : o.op = Op.makeSlice t l c)
    (e : TypeId) (i : TypeInfo) (z : Value) (size bytes : Nat) (h1 : P.underlying t = some (.slice e)) (h2 : P.info? e = some i) (h3 : i.zero = some z) (h4 : i.size = size) (h5 : i.bytes = bytes) (h6 : bytes ≤ 1000) (h7 : ∀ u ∈ z.cells.toList, NU u) (h8 : 0 < z.cells.size)
    (kl kc : IntKind) (C : Int) (n : Nat) (hl : a.eval l = .int kl 0) (hc : a.eval c = .int kc C) (hC : C = (n : Int)) (hn : n ≤ 1000000)
    (hK : ∀ w', OwnG w' w.heap.size e size (.slice (some ⟨w.heap.size, 0, none⟩) 0 n) 0 [] → Grow w w' → w.heap.size < w'.heap.size → wpList P ops Q rest (a.put o.dst (.slice (some ⟨w.heap.size, 0, none⟩) 0 n)) w') :
    wpList P ops Q (o :: rest) a w := by
  refine wpList_plain hg fun K hK' => ?_
  have hb : (i.bytes : Int) * (n : Int) ≤ 281474976710656 := by
    have h9 : i.bytes * n ≤ 1000 * 1000000 := Nat.mul_le_mul (by omega) hn
    have h10 : ((i.bytes * n : Nat) : Int) ≤ 281474976710656 := by omega
    rwa [Int.natCast_mul] at h10
  have hrun := run_make (P := P) w t e i z h1 h2 h3 kl kc 0 n (Int.le_refl _) (by omega) hb (by omega)
  simp only [Int.toNat_zero, Int.toNat_natCast] at hrun
  subst hC
  unfold Oper.wp
  simp [execOp, hop, hl, hc, hrun, Result.andThen]
  refine hK' _ _ (hK _ ?_ ((Grow.refl w).alloc _) (by simp))
  rw [h4]
  exact OwnG.make (Nat.le_refl _) (by unfold maxLen; omega) h7 h8
set_option maxRecDepth 20000 in
set_option maxHeartbeats 8000000 in
theorem sbuildQ (n B cB : Nat) (r : Nat → Rat) (hn : n ≤ 1000) (hcB : n ≤ cB) (h0 : 0 < n → r 0 ≠ 0) (w : World) (hA : RowQ w B 0 n r) :
    Calls Tryz.prog 104 #[.int .i64 0, .slice (some ⟨B, 0, none⟩) n cB] w fun e w' =>
      ∃ B' c', e = .returned (.tuple #[.agg #[.int .i64 0, .slice (some ⟨B', 0, none⟩) n c'], .int .i64 0]) ∧ RowQ w' B' 0 n r ∧ Grow w w' ∧ w.heap.size ≤ B' := by
  obtain ⟨ir, hir, irz0, irz1, irz2⟩ := info_parts infoRat
  have HA := Lib.hid hA
  have hlA := hA.lt
  have SG := Lib.hid (fun (hp : 0 < n) (u : World) (v : Value) (hv : RatR u v (r 0)) => signQ (r 0) v u hv)
  have H0 := Lib.hid h0
  clear hA h0
  obtain ⟨W1, hW1⟩ : ∃ W1 : World, W1 = w.alloc (.cells #[.int .i64 0, .slice none 0 0] 25) := ⟨_, rfl⟩
  have hg1 := ag hW1
  have K1 := Lib.hid (ak2 hW1)
  have HZ1 : Hid (W1.heap.size = w.heap.size + 1) := Lib.hid (by rw [hW1]; simp)
  have HW1 := Lib.hid hW1
  clear hW1
  have yn := Lib.hid (w64n (n := (n : Int)) (by omega))
  have y1 : min (n : Int) 1000 = (n : Int) := by omega
  have y2 : (0 : Int) ≤ (n : Int) := by omega
  have y3 : (n : Int) ≤ (cB : Int) := by omega
  go_enter Tryz.func104, Tryz.ntmps104
  go_upto_region 1 with fail
  rw [← HW1.out]
  go_upto_region 5 with fail
  clear y1
  go_loopg [6] 0 (fun gk t6 wr => t6 = .int .i64 0 ∧ Hid (Grow W1 wr))
  case atStart => exact ⟨rfl, Lib.hid (Grow.refl _)⟩
  case round =>
    obtain ⟨rfl, HG⟩ := hrel
    obtain ⟨u5, hu5⟩ : ∃ x, x = wr := ⟨wr, rfl⟩
    subst hu5
    rcases Nat.lt_or_ge 0 n with hn0 | hn0
    case' inl =>
      obtain ⟨s2, a2, l2, c2, t2, b2', k2, e2, ⟨p0, p1, p2, p3⟩, hvb⟩ := RowQ.at4 (RowP.grow HA.out (hg1.trans HG.out)) hn0
      rw [Nat.zero_mul, Nat.add_zero] at p0 p1 p2 p3
      have HVB := Lib.hid hvb
      have hz0 : (0 : Int) < (n : Int) := by omega
      have hsg : (sgI (r 0).num == 0) = false := by rw [sgI_num]; simpa using H0.out hn0
      obtain ⟨sg, hsg2⟩ : ∃ x, sgI (r 0).num = x := ⟨_, rfl⟩
      have SG2 := Lib.hid (SG.out hn0)
      rw [hsg2] at hsg SG2
      clear hvb hsg2 SG
      go_upto_region 10 with (go_at_call 22; (with_reducible refine (SG2.out _ _ HVB.out).mono ?_); (rintro e u7 ⟨rfl, hb7⟩; have HG7 := Lib.hid (HG.out.trans hb7); clear hb7))
      clear p0 p1 p2 p3 hsg hz0 SG2 HVB hn0
    case' inr =>
      have hz0 : decide ((0 : Int) < (n : Int)) = false := by simp; omega
      have hz1 : ¬ (0 < n) := by omega
      go_upto_region 10 with fail
      clear hz0 hz1 hn0 SG
      have HG7 := HG
      obtain ⟨u7, hu7⟩ : ∃ x, x = u5 := ⟨u5, rfl⟩
      subst hu7
    all_goals
      clear HG
      obtain ⟨yn1, yn2⟩ := yn.out
      go_wp2_with (at_make; refine wpList_make_g _ rfl _ _ 23 rfl 36 ir _ 4 64 Tryz.underlying23 hir irz0 irz1 irz2 (by decide) rat_zero_nu (by decide) .i64 .i64 (n : Int) n rfl rfl rfl (by omega) ?_)
      intro w8 hown8 hg8 hz8
      have HO8 := Lib.hid hown8
      have HG8 := Lib.hid hg8
      have hz7 : w.heap.size < u7.heap.size := by have h1 := HG7.out.size; have h2 := HZ1.out; omega
      clear hown8 hg8 hz8 yn1 yn2
      go_wp2_with fail
      go_loopg [7, 48] n (fun gk t7 t48 wr => ∃ (j cv g : Nat) (xs : List Value), t7 = .slice (some ⟨g, 0, none⟩) j cv ∧ t48 = .int .i64 (j : Int) ∧ j ≤ n ∧ Hid (gk = n - j) ∧ Hid (Grow u7 wr) ∧ Hid (OwnG wr u7.heap.size 36 4 (.slice (some ⟨g, 0, none⟩) j cv) j xs) ∧ Hid (ListR wr xs j r))
      case' atStart => exact ⟨0, n, u7.heap.size, [], rfl, rfl, Nat.zero_le _, Lib.hid rfl, HG8, HO8, Lib.hid (ListR.nil _ _)⟩
      case' round =>
        clear HG8 HO8
        obtain ⟨j, cv, g, xs, rfl, rfl, hj2, HGK, HG, HO, HX⟩ := hrel
        by_cases hjn : j = n
        · have y1 : decide ((j : Int) < (n : Int)) = false := by simp; omega
          subst hjn
          obtain ⟨q0, q1, q2, q3⟩ := K1.out wr (HG7.out.trans HG.out)
          obtain ⟨hb, hgF⟩ := ser_cell (Nat.le_refl _) q3 q0 q1 (fun x => by simp) (fun x => by simp) (hg1.trans (HG7.out.trans HG.out)) (.int .i64 0) (.slice (some ⟨g, 0, none⟩) j cv) (fun x => by simp)
          have HB := Lib.hid hb
          have HGF := Lib.hid hgF
          clear hb hgF
          go_wp2_with fail
          exact bodyPost_ret (v := .tuple #[.agg #[.int .i64 0, .slice (some ⟨g, 0, none⟩) j cv], .int .i64 0]) (by rw [results_cell_tmp rfl]; go_simp) rfl ⟨g, cv, rfl, own_rowq (HO.out.but HB.out (fun b hb e => by omega)).own (HX.out.but HB.out), HGF.out, by have := HO.out.ge; omega⟩
        · have hj : j < n := by omega
          have y0 : (0 : Int) ≤ (j : Int) := by omega
          have y1 : (j : Int) < (n : Int) := by omega
          obtain ⟨s3, a3, l3, c3, t3, b3', k3, e3, ⟨p0, p1, p2, p3⟩, hvb⟩ := RowQ.at4 (RowP.grow HA.out (hg1.trans (HG7.out.trans HG.out))) hj
          rw [Nat.zero_add] at p0 p1 p2 p3
          have HVB := Lib.hid hvb
          have NM := Lib.hid (fun (u : World) (v : Value) (hv : RatR u v (r j)) => normalQ (r j) v u hv)
          clear hvb
          go_upto_region 14 with fail
          obtain ⟨W5, hW5⟩ : ∃ W5 : World, W5 = wr.alloc (.cells #[.bool s3, .slice a3 l3 c3, .bool t3, .slice b3' k3 e3] 36) := ⟨_, rfl⟩
          have hg5 := ag hW5
          obtain ⟨d0, d1, d2, d3, d4, d5⟩ := ak4 hW5 W5 (Grow.refl _)
          rw [← hW5]
          have HW5 := Lib.hid hW5
          clear p0 p1 p2 p3 hW5
          go_wp2_with (first
            | (go_at_call 31; (with_reducible refine (NM.out _ _ (HVB.out.grow hg5)).mono ?_); (rintro e u6 ⟨v6, rfl, hv6, hb6⟩; obtain ⟨s6, a6, l6, c6, t6, b6, k6, e6, rfl⟩ := hv6.form; have HV6 := Lib.hid hv6; have HG6 := Lib.hid (hg5.trans hb6); clear hv6 hb6))
            | (at_builtin; go_loud (refine wpList_append_g _ rfl _ _ 23 rfl 36 ir _ 4 64 Tryz.underlying23 hir irz0 irz1 irz2 rfl (by decide) rat_zero_nu (by decide) u7.heap.size _ j xs rfl (HO.out.grow (HG6.out.trans (by (repeat (first | with_reducible exact Grow.refl _ | with_reducible refine Grow.alloc ?_ _ | with_reducible refine Grow.drew ?_ | with_reducible refine Grow.drewN ?_ _ | (with_reducible refine Grow.setCell ?_ ?hp _; (case hp => (simp; try omega))) | with_reducible refine Grow.trans ?_ (by assumption)))))) ⟨u6.heap.size, 0, none⟩ 1 [.bool s6, .slice a6 l6 c6, .bool t6, .slice b6 k6 e6] rfl rfl (rat_news u6 s6 a6 l6 c6 t6 b6 k6 e6 36) (rat_one s6 a6 l6 c6 t6 b6 k6 e6) (rat_nu s6 a6 l6 c6 t6 b6 k6 e6) (by omega) (Nat.le_trans (HG.out.trans HG6.out).size (by simp)) ?_)))
          intro v7 w7 hown7 hb7
          obtain ⟨g7, c7, hv7, hg7a, hg7b⟩ := own_slice hown7.own (by omega)
          subst hv7
          have hga : Grow wr (u6.alloc (.cells #[.bool s6, .slice a6 l6 c6, .bool t6, .slice b6 k6 e6] 36)) := HG6.out.trans (by (repeat (first | with_reducible exact Grow.refl _ | with_reducible refine Grow.alloc ?_ _ | with_reducible refine Grow.drew ?_ | with_reducible refine Grow.drewN ?_ _ | (with_reducible refine Grow.setCell ?_ ?hp _; (case hp => (simp; try omega))) | with_reducible refine Grow.trans ?_ (by assumption))))
          have hx7 := (HX.out.grow hga).but hb7
          have hl7 := ((listr_one HV6.out).grow ((Grow.refl u6).alloc (.cells #[.bool s6, .slice a6 l6 c6, .bool t6, .slice b6 k6 e6] 36))).but hb7
          have HXL := Lib.hid ((hx7.append hl7).cong (r' := r) (fun i hi => by
            by_cases hij : i < j
            · rw [if_pos hij]
            · rw [if_neg hij, show i = j by omega]))
          have HGL := Lib.hid ((((HG.out.trans hga).but _).trans hb7).asGrow (fun b hb => hb))
          have HOL := Lib.hid hown7
          have YI := Lib.hid (inc_wrap hj (by omega))
          clear hx7 hl7 hga hb7 hown7 hg7a hg7b hg5 d0 d1 d2 d3 d4 d5
          obtain ⟨e8, e9⟩ := YI.out
          go_wp2_with fail
          clear e8 e9
          go_roundg (n - (j + 1))
          case' measure => have := HGK.out; omega
          case' rel => exact ⟨j + 1, c7, g7, _, rfl, rfl, hj, Lib.hid rfl, HGL, HOL, HXL⟩
set_option maxRecDepth 20000 in
set_option maxHeartbeats 8000000 in
theorem stidyQ (n B cB : Nat) (r : Nat → Rat) (hn : n ≤ 1000) (hcB : n ≤ cB) (h0 : 0 < n → r 0 ≠ 0) (w : World) (hA : RowQ w B 0 n r) :
    Calls Tryz.prog 99 #[.agg #[.int .i64 0, .slice (some ⟨B, 0, none⟩) n cB]] w fun e w' =>
      ∃ B' c', e = .returned (.agg #[.int .i64 0, .slice (some ⟨B', 0, none⟩) n c']) ∧ RowQ w' B' 0 n r ∧ Grow w w' ∧ w.heap.size ≤ B' := by
  have BD := Lib.hid (fun u (hu : Grow w u) => sbuildQ n B cB r hn hcB h0 u (RowP.grow hA hu))
  clear hA h0
  obtain ⟨W1, hW1⟩ : ∃ W1 : World, W1 = w.alloc (.cells #[.int .i64 0, .slice (some ⟨B, 0, none⟩) n cB] 25) := ⟨_, rfl⟩
  obtain ⟨W2, hW2⟩ : ∃ W2 : World, W2 = W1.alloc (.cells #[.int .i64 0, .slice none 0 0] 25) := ⟨_, rfl⟩
  have hg2 : Grow w W2 := (ag hW1).trans (ag hW2)
  have K1 := Lib.hid (fun u (hu : Grow W2 u) => ak2 hW1 u ((ag hW2).trans hu))
  have K2 := Lib.hid (ak2 hW2)
  have hz1 : W1.heap.size = w.heap.size + 1 := by rw [hW1]; simp
  rw [hz1] at K2
  have HW1 := Lib.hid hW1
  have HW2 := Lib.hid hW2
  clear hW1 hW2
  go_enter Tryz.func99, Tryz.ntmps99
  go_upto_region 1 with fail
  rw [← HW1.out, ← HW2.out]
  obtain ⟨b0, b1, b2, b3⟩ := K1.out W2 (Grow.refl _)
  go_upto_region 2 with (go_at_call 104; (with_reducible refine (BD.out _ (by (repeat (first | with_reducible exact Grow.refl _ | with_reducible refine Grow.alloc ?_ _ | with_reducible refine Grow.drew ?_ | with_reducible refine Grow.drewN ?_ _ | (with_reducible refine Grow.setCell ?_ ?hp _; (case hp => (simp; try omega))) | with_reducible refine Grow.trans ?_ (by assumption))))).mono ?_); (rintro e u3 ⟨B3, c3, rfl, hr3, hb3, hB3⟩; have HR3 := Lib.hid hr3; clear hr3))
  obtain ⟨W4, hW4⟩ : ∃ W4 : World, W4 = u3.alloc (.cells #[.int .i64 0, .slice (some ⟨B3, 0, none⟩) n c3] 25) := ⟨_, rfl⟩
  have hg4 := ag hW4
  obtain ⟨d0, d1, d2, d3⟩ := ak2 hW4 W4 (Grow.refl _)
  obtain ⟨q0, q1, q2, q3⟩ := K2.out W4 (hb3.trans hg4)
  rw [← hW4]
  have hgw := hg2.trans (hb3.trans hg4)
  obtain ⟨hb, hgF⟩ := ser_cell (w := w) (by omega) q3 q0 q1 (fun x => by simp) (fun x => by simp) hgw (.int .i64 0) (.slice (some ⟨B3, 0, none⟩) n c3) (fun x => by simp)
  have HB := Lib.hid hb
  have HGF := Lib.hid hgF
  have HR4 := Lib.hid (RowP.grow HR3.out hg4)
  have hne : ¬ (B3 = w.heap.size + 1) := by
    have h9 : w.heap.size + 1 < W2.heap.size := (K2.out W2 (Grow.refl _)).2.2.2
    omega
  clear hW4 b0 b1 b2 b3 hb hgF
  go_wp2_with fail
  exact bodyPost_ret (v := .agg #[.int .i64 0, .slice (some ⟨B3, 0, none⟩) n c3]) (by rw [results_one rfl]; go_simp) rfl ⟨B3, c3, rfl, RowP.but HR4.out hne HB.out, HGF.out, by have := (ag HW1.out).size; have := (ag HW2.out).size; omega⟩
set_option maxRecDepth 20000 in
set_option maxHeartbeats 8000000 in
theorem snormalQ (n B cB : Nat) (r : Nat → Rat) (hn : n ≤ 1000) (hcB : n ≤ cB) (h0 : 0 < n → r 0 ≠ 0) (w : World) (hA : RowQ w B 0 n r) :
    Calls Tryz.prog 67 #[.agg #[.int .i64 0, .slice (some ⟨B, 0, none⟩) n cB]] w fun e w' =>
      ∃ B' c', e = .returned (.tuple #[.agg #[.int .i64 0, .slice (some ⟨B', 0, none⟩) n c'], .int .i64 0]) ∧ RowQ w' B' 0 n r ∧ Grow w w' ∧ w.heap.size ≤ B' := by
  have VA := Lib.hid (fun u => svalidQ 0 n (some ⟨B, 0, none⟩) cB (by omega) (by omega) (by omega) u)
  have TD := Lib.hid (fun u (hu : Grow w u) => stidyQ n B cB r hn hcB h0 u (RowP.grow hA hu))
  clear hA h0
  obtain ⟨W1, hW1⟩ : ∃ W1 : World, W1 = w.alloc (.cells #[.int .i64 0, .slice (some ⟨B, 0, none⟩) n cB] 25) := ⟨_, rfl⟩
  obtain ⟨W2, hW2⟩ : ∃ W2 : World, W2 = W1.alloc (.cells #[.int .i64 0, .slice none 0 0] 25) := ⟨_, rfl⟩
  have hg2 : Grow w W2 := (ag hW1).trans (ag hW2)
  have K1 := Lib.hid (fun u (hu : Grow W2 u) => ak2 hW1 u ((ag hW2).trans hu))
  have K2 := Lib.hid (ak2 hW2)
  have hz1 : W1.heap.size = w.heap.size + 1 := by rw [hW1]; simp
  rw [hz1] at K2
  have HW1 := Lib.hid hW1
  have HW2 := Lib.hid hW2
  clear hW1 hW2
  go_enter Tryz.func67, Tryz.ntmps67
  go_upto_region 1 with fail
  rw [← HW1.out, ← HW2.out]
  obtain ⟨b0, b1, b2, b3⟩ := K1.out W2 (Grow.refl _)
  go_wp2_with (first
    | (go_at_call 29; (with_reducible refine (VA.out _).mono ?_); (rintro e u2 ⟨rfl, hb2⟩; obtain ⟨b0, b1, b2, b3⟩ := K1.out u2 (by (repeat (first | with_reducible exact Grow.refl _ | with_reducible refine Grow.alloc ?_ _ | with_reducible refine Grow.drew ?_ | with_reducible refine Grow.drewN ?_ _ | (with_reducible refine Grow.setCell ?_ ?hp _; (case hp => (simp; try omega))) | with_reducible refine Grow.trans ?_ (by assumption))))))
    | (go_at_call 99; (with_reducible refine (TD.out _ (by (repeat (first | with_reducible exact Grow.refl _ | with_reducible refine Grow.alloc ?_ _ | with_reducible refine Grow.drew ?_ | with_reducible refine Grow.drewN ?_ _ | (with_reducible refine Grow.setCell ?_ ?hp _; (case hp => (simp; try omega))) | with_reducible refine Grow.trans ?_ (by assumption))))).mono ?_); (rintro e u3 ⟨B3, c3, rfl, hr3, hb3, hB3⟩; have HR3 := Lib.hid hr3; clear hr3; obtain ⟨q0, q1, q2, q3⟩ := K2.out u3 (by (repeat (first | with_reducible exact Grow.refl _ | with_reducible refine Grow.alloc ?_ _ | with_reducible refine Grow.drew ?_ | with_reducible refine Grow.drewN ?_ _ | (with_reducible refine Grow.setCell ?_ ?hp _; (case hp => (simp; try omega))) | with_reducible refine Grow.trans ?_ (by assumption)))))))
  have hgw : Grow w u3 := hg2.trans (by (repeat (first | with_reducible exact Grow.refl _ | with_reducible refine Grow.alloc ?_ _ | with_reducible refine Grow.drew ?_ | with_reducible refine Grow.drewN ?_ _ | (with_reducible refine Grow.setCell ?_ ?hp _; (case hp => (simp; try omega))) | with_reducible refine Grow.trans ?_ (by assumption))))
  have h9 : w.heap.size + 1 < W2.heap.size := (K2.out W2 (Grow.refl _)).2.2.2
  have h8 : W2.heap.size ≤ u2.heap.size := (show Grow W2 u2 by (repeat (first | with_reducible exact Grow.refl _ | with_reducible refine Grow.alloc ?_ _ | with_reducible refine Grow.drew ?_ | with_reducible refine Grow.drewN ?_ _ | (with_reducible refine Grow.setCell ?_ ?hp _; (case hp => (simp; try omega))) | with_reducible refine Grow.trans ?_ (by assumption)))).size
  obtain ⟨hb, hgF⟩ := ser_cell (w := w) (by omega) q3 q0 q1 (fun x => by simp) (fun x => by simp) hgw (.int .i64 0) (.slice (some ⟨B3, 0, none⟩) n c3) (fun x => by simp)
  exact bodyPost_ret (v := .tuple #[.agg #[.int .i64 0, .slice (some ⟨B3, 0, none⟩) n c3], .int .i64 0]) (by rw [results_cell_tmp rfl]; go_simp) rfl ⟨B3, c3, rfl, RowP.but HR3.out (by omega) hb, hgF, by omega⟩
end Go.Proofs.YtbpkfcohbefphaaGreat
