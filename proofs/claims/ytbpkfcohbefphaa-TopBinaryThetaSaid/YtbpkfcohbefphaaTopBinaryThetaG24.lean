/- Lemmas, plain laws and walks that the statement LwBinaryTheta leans on (texts QfC, ThG, TbB, TbC), conditions as each theorem says. -/
import Derived.Test.YtbpkfcohbefphaaTopBinaryThetaG13
import Derived.Test.YtbpkfcohbefphaaTopBinaryThetaG16
import Derived.Test.YtbpkfcohbefphaaTopBinaryThetaG21
import Derived.Test.YtbpkfcohbefphaaTopBinaryThetaG22
import Derived.Test.YtbpkfcohbefphaaTopBinaryThetaG23

/- Walk over quadratic forms: Represent. -/
namespace Go.Proofs.Ytbpkfcohbefphaa
open Go Go.RowKit

theorem repY_le (A B C n y : Int) : repY A B C n y ≤ 2 := by
  unfold repY
  split
  · split <;> split <;> omega
  · omega
theorem repN_le (A B C n : Int) (h : Nat) : ∀ j, repN A B C n h j ≤ 2 * j
  | 0 => Nat.zero_le _
  | j + 1 => by
    have h1 := repN_le A B C n h j
    have h2 := repY_le A B C n ((j : Int) - (h : Int))
    show repN A B C n h j + repY A B C n ((j : Int) - (h : Int)) ≤ _
    omega
theorem repY_neg {A B C n y : Int} (h : innI A B C n y < 0) : repY A B C n y = 0 := by
  unfold repY; rw [if_neg (by omega)]
theorem repY_non {A B C n y : Int} {m : Nat} (hm : (m : Int) = innI A B C n y) (h : ¬ ((sqN m : Nat) : Int) * ((sqN m : Nat) : Int) = (m : Int)) : repY A B C n y = 0 := by
  unfold repY
  rw [← hm, Int.toNat_natCast, if_neg (fun e => h e.2)]
theorem repY_sq {A B C n y : Int} {m s : Nat} (hm : (m : Int) = innI A B C n y) (hs : sqN m = s) (h : (s : Int) * (s : Int) = (m : Int)) : repY A B C n y = (if (2 * A) ∣ ((s : Int) - B * y) then 1 else 0) + (if 0 < s ∧ (2 * A) ∣ (-(s : Int) - B * y) then 1 else 0) := by
  unfold repY
  rw [← hm, Int.toNat_natCast, hs, if_pos ⟨by omega, h⟩]
theorem results_t2 {fn : Func} {p q : Tmp} (h : fn.results = #[.tmp p, .tmp q]) (tmps : Array Value) (P : Program) (w : World) :
    (results fn tmps).run P w = .ok (.tuple #[tmps.getD p undef, tmps.getD q undef]) w := by
  simp [results, h]
set_option maxRecDepth 20000 in
set_option maxHeartbeats 8000000 in
theorem qrepQ (A0 B0 C0 D : Int) (n : Nat) (h0 : QI A0 B0 C0 D) (hn : n ≤ 60) (w : World) :
    Calls Try.prog 8 #[.agg #[.int .i64 A0, .int .i64 B0, .int .i64 C0], .int .i64 (n : Int)] w fun e w' =>
    ∃ k : Nat, e = .returned (.tuple #[.int .i64 (k : Int), .int .i64 0]) ∧ Cnt A0 B0 C0 n k ∧ k ≤ 1000 ∧ Grow w w' := by
  obtain ⟨W1, hW1⟩ : ∃ W1 : World, W1 = w.alloc (.cells #[.int .i64 A0, .int .i64 B0, .int .i64 C0] 23) := ⟨_, rfl⟩
  have hg1 := ag hW1
  have HF1 := Lib.hid (O3.lay hW1)
  have HW1 := Lib.hid hW1
  have CK := Lib.hid (fun u => qcheckQ A0 B0 C0 u)
  have hok : QOK A0 B0 C0 := by
    obtain ⟨a0, a1, b1, c0, c1, hd, d0⟩ := h0
    exact ⟨by omega, by omega, by omega, a0, by omega⟩
  have HOK := Lib.hid hok
  have RD := Lib.hid (fun u => qreduceQ A0 B0 C0 D h0 u)
  have HD0 := Lib.hid h0.d0
  have HD1 := Lib.hid h0.dle
  clear hW1 hok h0
  go_enter Try.func8, Try.ntmps8
  go_upto_region 1 with fail
  rw [← HW1.out]
  obtain ⟨b0, b1, b2, b3, b4⟩ := HF1.out
  have y0 : decide ((n : Int) < 0) = false := by simp
  have y1 : decide ((n : Int) > 4000) = false := by simp; omega
  go_upto_region 2 with (go_at_call 5; (with_reducible refine (CK.out _).mono ?_); (rintro e u1 ⟨⟨x, rfl, hx⟩, hb1⟩))
  obtain rfl : x = 0 := hx.2 HOK.out
  obtain ⟨d0, d1, d2, d3, d4⟩ := HF1.out.grow hb1
  clear hx
  go_upto_region 6 with fail
  go_cut [] (fun wx => ∃ A B C : Int, Hid (O3 wx w.heap.size (.int .i64 A) (.int .i64 B) (.int .i64 C)) ∧ Hid (QJ A B C D) ∧ Hid (∀ n k, Cnt A B C n k → Cnt A0 B0 C0 n k) ∧ Hid (Grow w wx))
  case first =>
    go_wp2_with (go_at_call 20; (with_reducible refine (RD.out _).mono ?_); (rintro e u2 ⟨A, B, C, a, b, c, d, rfl, hq, hc, hb2⟩; obtain ⟨f0, f1, f2, f3, f4⟩ := (HF1.out.grow hb1).grow hb2))
    go_meet
    exact ⟨A, B, C, Lib.hid (((((HF1.out.grow hb1).grow hb2).set0 _).set1 _).set2 _), Lib.hid hq, Lib.hid hc, Lib.hid (((((hg1.trans hb1).trans hb2).setCell (Nat.le_refl _) _).setCell (Nat.le_refl _) _).setCell (Nat.le_refl _) _)⟩
  case rest =>
    obtain ⟨w3, rfl⟩ : ∃ w3, w3 = wc := ⟨_, rfl⟩
    obtain ⟨A, B, C, HF, HQ, HC, HG⟩ := hcut
    clear b0 b1 b2 b3 b4 d0 d1 d2 d3 d4 hb1 hg1 HF1 HW1 CK RD HOK
    obtain ⟨a0, a1, e0, e1, c0, c1, hd⟩ := HQ.out
    have hD0 := HD0.out
    have hD1 := HD1.out
    have DS := Lib.hid (fun u => qdiscQ A B C (by omega) (by omega) (by omega) u)
    have hdd : B * B - 4 * A * C = -D := by omega
    rw [hdd] at DS
    have hA4 : (4 * A).natAbs ≤ 240 := by omega
    have hAn : (4 * A * (n : Int)).natAbs ≤ 14400 := abs_mul_le hA4 (show (n : Int).natAbs ≤ 60 by omega) (by decide)
    have hAn0 : 0 ≤ 4 * A * (n : Int) := Int.mul_nonneg (by omega) (by omega)
    obtain ⟨p, hp⟩ : ∃ p, 4 * A * (n : Int) = p := ⟨_, rfl⟩
    have hq0 : 0 ≤ p / D := Int.ediv_nonneg (by omega) (by omega)
    have hqp : p / D ≤ p := Int.ediv_le_self _ (by omega)
    obtain ⟨q, hq⟩ : ∃ q : Nat, (q : Int) = p / D := ⟨(p / D).toNat, by omega⟩
    have hqd : Int.tdiv p D = (q : Int) := by rw [hq]; exact Int.tdiv_eq_ediv_of_nonneg (by omega)
    have RT := Lib.hid (fun u => qrootQ q u)
    obtain ⟨h, hh⟩ : ∃ h, sqN q = h := ⟨_, rfl⟩
    have hhs := sqN_spec (n := q) (by omega)
    have hh2 : h ≤ 120 := by rw [← hh]; exact sqN_le (by omega) (by omega)
    rw [hh] at RT hhs
    have HHS := Lib.hid hhs.2
    have HQD := Lib.hid hq
    have HP := Lib.hid hp
    have Hy2 := Lib.hid (w64 hA4 (by decide))
    have Hz2 := Lib.hid (w64' hA4 (by decide))
    have y3 : IntKind.i64.wrap (4 * A * (n : Int)) = p := (w64 hAn (by decide)).trans hp
    have z3 : wrap64 (4 * A * (n : Int)) = p := (w64' hAn (by decide)).trans hp
    have y4 := w64 (c := 14400) (show D.natAbs ≤ 14400 by omega) (by decide)
    have z4 := w64' (c := 14400) (show D.natAbs ≤ 14400 by omega) (by decide)
    have y5 : ¬ D = 0 := by omega
    have y6 : (D == 0) = false := by simp; omega
    have y7 : IntKind.i64.wrap (Int.tdiv p D) = (q : Int) := by rw [hqd]; exact IntWalk.i64_in _ (by omega)
    have z7 : wrap64 (Int.tdiv p D) = (q : Int) := by rw [hqd]; unfold wrap64; omega
    clear hp hq hqd hh hhs hdd hq0 hqp hAn hAn0 hA4 hD0 hD1 a0 a1 e0 e1 c0 c1 hd
    have y2 := Hy2.out
    have z2 := Hz2.out
    go_upto_region 7 with fail
    refine region_held (id := 7) (fun u => Grow w3 u) [0, 1, 2, 3, 4, 5, 6, 7, 8, 9, 10] (kdL [0, 1, 0, 0, 0, 1, 2, 0, 0, 2, 0]) (by kernel_rfl) (by kernel_rfl) (fun t ht => kdL_lt _ t ht) ?hS0p ?_
    case hS0p => ((try dsimp only); (repeat (first | with_reducible exact Grow.refl _ | with_reducible refine Grow.alloc ?_ _ | with_reducible refine Grow.drew ?_ | with_reducible refine Grow.drewN ?_ _ | (with_reducible refine Grow.setCell ?_ ?hp _; (case hp => (simp; try omega))) | with_reducible refine Grow.trans ?_ (by assumption))))
    refine held_quiet (v := ?vp0) rfl rfl (Or.inl ⟨by rfl, ?hyp0⟩) ?_
    case hyp0 => (intro u hu; go_simp; (try with_reducible rfl))
    (try simp only [Act.put, List.setIfInBounds_toArray])
    refine held_read (v := ?vp1) rfl rfl (Or.inl ⟨by rfl, ?hyp1⟩) ?_
    case hyp1 => (intro u hu; obtain ⟨f0, f1, f2, f3, f4⟩ := HF.out.grow (show Grow w3 u by (repeat (first | with_reducible exact Grow.refl _ | with_reducible refine Grow.alloc ?_ _ | with_reducible refine Grow.drew ?_ | with_reducible refine Grow.drewN ?_ _ | (with_reducible refine Grow.setCell ?_ ?hp _; (case hp => (simp; try omega))) | with_reducible refine Grow.trans ?_ (by assumption)))); go_simp; (try with_reducible rfl))
    (try simp only [Act.put])
    refine held_quiet (v := ?vp2) rfl rfl (Or.inl ⟨by rfl, ?hyp2⟩) ?_
    case hyp2 => (intro u hu; go_simp; (try with_reducible rfl))
    (try simp only [Act.put])
    refine held_quiet (v := ?vp3) rfl rfl (Or.inl ⟨by rfl, ?hyp3⟩) ?_
    case hyp3 => (intro u hu; go_simp; (try with_reducible rfl))
    (try simp only [Act.put])
    refine held_quiet (v := ?vp4) rfl rfl (Or.inl ⟨by rfl, ?hyp4⟩) ?_
    case hyp4 => (intro u hu; go_simp; (try with_reducible rfl))
    (try simp only [Act.put])
    refine held_read (v := ?vp5) rfl rfl (Or.inl ⟨by rfl, ?hyp5⟩) ?_
    case hyp5 => (intro u hu; obtain ⟨f0, f1, f2, f3, f4⟩ := HF.out.grow (show Grow w3 u by (repeat (first | with_reducible exact Grow.refl _ | with_reducible refine Grow.alloc ?_ _ | with_reducible refine Grow.drew ?_ | with_reducible refine Grow.drewN ?_ _ | (with_reducible refine Grow.setCell ?_ ?hp _; (case hp => (simp; try omega))) | with_reducible refine Grow.trans ?_ (by assumption)))); go_simp; (try with_reducible rfl))
    (try simp only [Act.put])
    refine held_op rfl rfl (fun K hK => ?_)
    go_simp
    (go_at_call 13; (with_reducible refine (DS.out _).mono ?_); (rintro e u8 ⟨rfl, hb8⟩))
    (try go_wp2_with fail)
    refine hK.out _ _ ?hSp6 ?_
    case hSp6 => ((try dsimp only); (repeat (first | with_reducible exact Grow.refl _ | with_reducible refine Grow.alloc ?_ _ | with_reducible refine Grow.drew ?_ | with_reducible refine Grow.drewN ?_ _ | (with_reducible refine Grow.setCell ?_ ?hp _; (case hp => (simp; try omega))) | with_reducible refine Grow.trans ?_ (by assumption))))
    clear hK K
    (try simp only [Act.put])
    refine held_quiet (v := ?vp7) rfl rfl (Or.inl ⟨by rfl, ?hyp7⟩) ?_
    case hyp7 => (intro u hu; go_simp; (try with_reducible rfl))
    (try simp only [Act.put])
    refine held_quiet (v := ?vp8) rfl rfl (Or.inl ⟨by rfl, ?hyp8⟩) ?_
    case hyp8 => (intro u hu; go_simp; (try with_reducible rfl))
    (try simp only [Act.put])
    refine held_op rfl rfl (fun K hK => ?_)
    go_simp
    (go_at_call 21; (with_reducible refine (RT.out _).mono ?_); (rintro e u9 ⟨rfl, rfl⟩))
    (try go_wp2_with fail)
    refine hK.out _ _ ?hSp9 ?_
    case hSp9 => ((try dsimp only); (repeat (first | with_reducible exact Grow.refl _ | with_reducible refine Grow.alloc ?_ _ | with_reducible refine Grow.drew ?_ | with_reducible refine Grow.drewN ?_ _ | (with_reducible refine Grow.setCell ?_ ?hp _; (case hp => (simp; try omega))) | with_reducible refine Grow.trans ?_ (by assumption))))
    clear hK K
    (try simp only [Act.put])
    refine held_quiet (v := ?vp10) rfl rfl (Or.inl ⟨by rfl, ?hyp10⟩) ?_
    case hyp10 => (intro u hu; go_simp; (try with_reducible rfl))
    (try simp only [Act.put])
    refine held_done ?_
    clear y2 z2
    clear y3 z3 y4 z4 y5 y6 y7 z7 DS RT
    obtain ⟨b0, b1, b2, b3, b4⟩ := HF.out.grow (show Grow w3 u8 by (repeat (first | with_reducible exact Grow.refl _ | with_reducible refine Grow.alloc ?_ _ | with_reducible refine Grow.drew ?_ | with_reducible refine Grow.drewN ?_ _ | (with_reducible refine Grow.setCell ?_ ?hp _; (case hp => (simp; try omega))) | with_reducible refine Grow.trans ?_ (by assumption))))
    have HF9 := Lib.hid (show O3 u8 w.heap.size (.int .i64 A) (.int .i64 B) (.int .i64 C) from ⟨b0, b1, b2, b3, b4⟩)
    have HG9 := Lib.hid (HG.out.trans (show Grow w3 u8 by (repeat (first | with_reducible exact Grow.refl _ | with_reducible refine Grow.alloc ?_ _ | with_reducible refine Grow.drew ?_ | with_reducible refine Grow.drewN ?_ _ | (with_reducible refine Grow.setCell ?_ ?hp _; (case hp => (simp; try omega))) | with_reducible refine Grow.trans ?_ (by assumption)))))
    clear HF hb8
    have y8 := w64 (c := 120) (show (-(h : Int)).natAbs ≤ 120 by omega) (by decide)
    have z8 := w64' (c := 120) (show (-(h : Int)).natAbs ≤ 120 by omega) (by decide)
    go_wp2_with fail
    clear y8 z8
    go_loopg [8, 9] (2 * h + 1) (fun gk t8 t9 wr => ∃ (j : Nat) (y : Int) (k : Nat), t8 = .int .i64 (k : Int) ∧ t9 = .int .i64 y ∧ Hid (y = (j : Int) - (h : Int)) ∧ j ≤ 2 * h + 1 ∧ Hid (gk = 2 * h + 1 - j) ∧ Hid (k = repN A B C n h j) ∧ wr = u8)
    case atStart => exact ⟨0, _, 0, rfl, rfl, Lib.hid (by omega), by omega, Lib.hid (by omega), Lib.hid rfl, rfl⟩
    case round =>
      obtain ⟨j, y, k, rfl, rfl, HY, hj, HGK, HK, rfl⟩ := hrel
      obtain ⟨a0, a1, e0, e1, c0, c1, hd⟩ := HQ.out
      have hy := HY.out
      by_cases hje : j = 2 * h + 1
      · have x1 : decide (y ≤ (h : Int)) = false := by simp; omega
        have x2 : ¬ (y ≤ (h : Int)) := by omega
        have hrep : Cnt A0 B0 C0 n k := by
          have h1 := HK.out
          rw [hje] at h1
          rw [h1]
          refine HC.out _ _ (cnt_rep a0 (by rw [hd]; exact HD0.out) ?_ ?_)
          · have := HP.out; have := HD1.out; have := HHS.out; have h2 := HQD.out
            have hA4 : (4 * A).natAbs ≤ 240 := by omega
            have hAn : (4 * A * (n : Int)).natAbs ≤ 14400 := abs_mul_le hA4 (show (n : Int).natAbs ≤ 60 by omega) (by decide)
            omega
          · rw [hd, HP.out, ← HQD.out]
            have := HHS.out
            exact_mod_cast this
        have hkb : k ≤ 1000 := by
          have h1 := HK.out
          have h2 := repN_le A B C n h j
          omega
        have HRP := Lib.hid hrep
        clear hy hje hrep e0 e1 c0 c1 hd a0 a1
        go_wp2_with fail
        exact bodyPost_ret (v := .tuple #[.int .i64 (k : Int), .int .i64 0]) (by rw [results_t2 rfl]; rfl) rfl ⟨k, rfl, HRP.out, hkb, HG9.out⟩
      · have hjl : j < 2 * h + 1 := by omega
        have x1 : decide (y ≤ (h : Int)) = true := by simp; omega
        have x2 : y ≤ (h : Int) := by omega
        have hyb : y.natAbs ≤ 120 := by omega
        have hAb : A.natAbs ≤ 60 := by omega
        have hBb : B.natAbs ≤ 60 := by omega
        have hCb : C.natAbs ≤ 4500 := by omega
        have q1 : (B * B).natAbs ≤ 3600 := abs_mul_le hBb hBb (by decide)
        have q2 : (B * B * y).natAbs ≤ 432000 := abs_mul_le q1 hyb (by decide)
        have q3 : (B * B * y * y).natAbs ≤ 51840000 := abs_mul_le q2 hyb (by decide)
        have q4 : (4 * A).natAbs ≤ 240 := by omega
        have q5 : (C * y).natAbs ≤ 540000 := abs_mul_le hCb hyb (by decide)
        have q6 : (C * y * y).natAbs ≤ 64800000 := abs_mul_le q5 hyb (by decide)
        have q7 : (C * y * y - (n : Int)).natAbs ≤ 64800060 := by omega
        have q8 : (4 * A * (C * y * y - (n : Int))).natAbs ≤ 15552014400 := abs_mul_le q4 q7 (by decide)
        have q9 : (B * B * y * y - 4 * A * (C * y * y - (n : Int))).natAbs ≤ 20000000000 := by omega
        have q10 : (B * y).natAbs ≤ 7200 := abs_mul_le hBb hyb (by decide)
        have hI0 : B * B * y * y - 4 * A * (C * y * y - (n : Int)) = innI A B C n y := rfl
        have hIe := innI_eq A B C n y
        rw [hd, HP.out] at hIe
        have hsq := Int.mul_nonneg (Int.le_of_lt HD0.out) (sq_nonneg y)
        obtain ⟨I, hI⟩ : ∃ I, innI A B C n y = I := ⟨_, rfl⟩
        rw [hI] at hI0 hIe
        have hIp : I ≤ 14400 := by
          have h1 := HP.out
          have hAn : (4 * A * (n : Int)).natAbs ≤ 14400 := abs_mul_le q4 (show (n : Int).natAbs ≤ 60 by omega) (by decide)
          omega
        have Hr1 := Lib.hid (w64 q1 (by decide))
        have Hr1' := Lib.hid (w64' q1 (by decide))
        have Hr2 := Lib.hid (w64 q2 (by decide))
        have Hr2' := Lib.hid (w64' q2 (by decide))
        have Hr3 := Lib.hid (w64 q3 (by decide))
        have Hr3' := Lib.hid (w64' q3 (by decide))
        have Hr4 := Lib.hid (w64 q4 (by decide))
        have Hr4' := Lib.hid (w64' q4 (by decide))
        have Hr5 := Lib.hid (w64 q5 (by decide))
        have Hr5' := Lib.hid (w64' q5 (by decide))
        have Hr6 := Lib.hid (w64 q6 (by decide))
        have Hr6' := Lib.hid (w64' q6 (by decide))
        have Hr7 := Lib.hid (w64 q7 (by decide))
        have Hr7' := Lib.hid (w64' q7 (by decide))
        have Hr8 := Lib.hid (w64 q8 (by decide))
        have Hr8' := Lib.hid (w64' q8 (by decide))
        have Hr9 : Hid (IntKind.i64.wrap (B * B * y * y - 4 * A * (C * y * y - (n : Int))) = I) := Lib.hid ((w64 q9 (by decide)).trans hI0)
        have Hr9' : Hid (wrap64 (B * B * y * y - 4 * A * (C * y * y - (n : Int))) = I) := Lib.hid ((w64' q9 (by decide)).trans hI0)
        have Hr10 := Lib.hid (w64 q10 (by decide))
        have Hr10' := Lib.hid (w64' q10 (by decide))
        have Hs1 := Lib.hid (w64 (c := 121) (show (y + 1).natAbs ≤ 121 by omega) (by decide))
        have Hs1' := Lib.hid (w64' (c := 121) (show (y + 1).natAbs ≤ 121 by omega) (by decide))
        have HK1 : Hid (k + repY A B C n y = repN A B C n h (j + 1)) := Lib.hid (by rw [HK.out, hy]; rfl)
        have hkb : k ≤ 500 := by
          have h1 := HK.out
          have h2 := repN_le A B C n h j
          omega
        have HII := Lib.hid hI
        have HY2 : Hid (y + 1 = ((j + 1 : Nat) : Int) - (h : Int)) := Lib.hid (by omega)
        have HHB := Lib.hid hh2
        clear q1 q2 q3 q5 q6 q7 q8 q9 hI0 hIe hsq hI hCb hd c0 c1 HK hy hje
        by_cases hneg : I < 0
        · have t1 : decide (I < 0) = true := by simp; omega
          have HR0 : Hid (repY A B C n y = 0) := Lib.hid (repY_neg (by rw [HII.out]; exact hneg))
          clear q4 q10 hAb hBb hyb
          have r1 := Hr1.out
          have r1' := Hr1'.out
          have r2 := Hr2.out
          have r2' := Hr2'.out
          have r3 := Hr3.out
          have r3' := Hr3'.out
          have r4 := Hr4.out
          have r4' := Hr4'.out
          have r5 := Hr5.out
          have r5' := Hr5'.out
          have r6 := Hr6.out
          have r6' := Hr6'.out
          have r7 := Hr7.out
          have r7' := Hr7'.out
          have r8 := Hr8.out
          have r8' := Hr8'.out
          have r9 := Hr9.out
          have r9' := Hr9'.out
          have r10 := Hr10.out
          have r10' := Hr10'.out
          have s1 := Hs1.out
          have s1' := Hs1'.out
          go_wp2_with fail
          clear r1 r1' r2 r2' r3 r3' r4 r4' r5 r5' r6 r6' r7 r7' r8 r8' r9 r9' r10 r10' s1 s1'
          go_roundg (2 * h + 1 - (j + 1))
          case measure => have := HGK.out; omega
          case rel => exact ⟨j + 1, _, k, rfl, rfl, HY2, by omega, Lib.hid rfl, Lib.hid (by have h1 := HK1.out; have h2 := HR0.out; omega), rfl⟩
        · have t1 : decide (I < 0) = false := by simp; omega
          obtain ⟨m, hm⟩ : ∃ m : Nat, (m : Int) = I := ⟨I.toNat, by omega⟩
          subst hm
          have RT := Lib.hid (fun u => qrootQ m u)
          have hsp := sqN_spec (n := m) (by omega)
          have hsl : sqN m ≤ 120 := sqN_le (by omega) (by omega)
          obtain ⟨s, hs⟩ : ∃ s, sqN m = s := ⟨_, rfl⟩
          rw [hs] at RT hsp hsl
          have v1 : ((s : Int) * (s : Int)).natAbs ≤ 14400 := abs_mul_le (a := 120) (b := 120) (by omega) (by omega) (by decide)
          have Hv1y := Lib.hid (w64 v1 (by decide))
          have Hv1z := Lib.hid (w64' v1 (by decide))
          have HSQ := Lib.hid hs
          clear hsp
          by_cases hss : (s : Int) * (s : Int) = (m : Int)
          · have t2 : ((s : Int) * (s : Int) != (m : Int)) = false := by simp [hss]
            have hrep := repY_sq HII.out.symm hs hss
            have v2 : ((s : Int) - B * y).natAbs ≤ 7320 := by omega
            have Hv2y := Lib.hid (w64 v2 (by decide))
            have Hv2z := Lib.hid (w64' v2 (by decide))
            have v3 : (-(s : Int) - B * y).natAbs ≤ 7320 := by omega
            have Hv3y := Lib.hid (w64 v3 (by decide))
            have Hv3z := Lib.hid (w64' v3 (by decide))
            have v4 : (-(s : Int)).natAbs ≤ 120 := by omega
            have Hv4y := Lib.hid (w64 v4 (by decide))
            have Hv4z := Lib.hid (w64' v4 (by decide))
            have v5 : (2 * A).natAbs ≤ 120 := by omega
            have Hv5y := Lib.hid (w64 v5 (by decide))
            have Hv5z := Lib.hid (w64' v5 (by decide))
            have n1 : ¬ 2 * A = 0 := by omega
            have n2 : (2 * A == 0) = false := by simp; omega
            have n3 : (2 * A != 0) = true := by simp; omega
            have Hk1 : Hid (IntKind.i64.wrap ((k : Int) + 1) = ((k + 1 : Nat) : Int)) := Lib.hid ((IntWalk.i64_in ((k : Int) + 1) (by omega)).trans (by omega))
            have Hk1' : Hid (wrap64 ((k : Int) + 1) = ((k + 1 : Nat) : Int)) := Lib.hid (by rw [w64' (c := 1000) (x := (k : Int) + 1) (by omega) (by decide)]; omega)
            have Hk2 : Hid (IntKind.i64.wrap ((k : Int) + 1 + 1) = ((k + 2 : Nat) : Int)) := Lib.hid ((IntWalk.i64_in ((k : Int) + 1 + 1) (by omega)).trans (by omega))
            have Hk2' : Hid (wrap64 ((k : Int) + 1 + 1) = ((k + 2 : Nat) : Int)) := Lib.hid (by rw [w64' (c := 1000) (x := (k : Int) + 1 + 1) (by omega) (by decide)]; omega)
            have HREP := Lib.hid hrep
            have HK2 := Lib.hid (HK1.out)
            clear v1 v2 v3 v4 v5 q4 q10 hAb hBb hyb hrep hs hsl a0 a1 e0 e1 hss hneg hkb hIp
            have r1 := Hr1.out
            have r1' := Hr1'.out
            have r2 := Hr2.out
            have r2' := Hr2'.out
            have r3 := Hr3.out
            have r3' := Hr3'.out
            have r4 := Hr4.out
            have r4' := Hr4'.out
            have r5 := Hr5.out
            have r5' := Hr5'.out
            have r6 := Hr6.out
            have r6' := Hr6'.out
            have r7 := Hr7.out
            have r7' := Hr7'.out
            have r8 := Hr8.out
            have r8' := Hr8'.out
            have r9 := Hr9.out
            have r9' := Hr9'.out
            have r10 := Hr10.out
            have r10' := Hr10'.out
            have s1 := Hs1.out
            have s1' := Hs1'.out
            have v1y := Hv1y.out
            have v1z := Hv1z.out
            have v2y := Hv2y.out
            have v2z := Hv2z.out
            have v3y := Hv3y.out
            have v3z := Hv3z.out
            have v4y := Hv4y.out
            have v4z := Hv4z.out
            have v5y := Hv5y.out
            have v5z := Hv5z.out
            have k1 := Hk1.out
            have k1' := Hk1'.out
            have k2 := Hk2.out
            have k2' := Hk2'.out
            by_cases d1 : (2 * A) ∣ ((s : Int) - B * y)
            · have m1 : Int.tmod ((s : Int) - B * y) (2 * A) = 0 := (tmod_dvd _ _).2 d1
              by_cases hs0 : s = 0
              · have g1 : decide ((s : Int) > 0) = false := by clear r1 r1' r2 r2' r3 r3' r4 r4' r5 r5' r6 r6' r7 r7' r8 r8' r9 r9' r10 r10' s1 s1' v1y v1z v2y v2z v3y v3z v4y v4z v5y v5z k1 k1' k2 k2'; simp; omega
                have g2 : ¬ ((s : Int) > 0) := by clear r1 r1' r2 r2' r3 r3' r4 r4' r5 r5' r6 r6' r7 r7' r8 r8' r9 r9' r10 r10' s1 s1' v1y v1z v2y v2z v3y v3z v4y v4z v5y v5z k1 k1' k2 k2'; omega
                have HS0 := Lib.hid hs0
                clear hs0
                go_wp2_with (go_at_call 21; (with_reducible refine (RT.out _).mono ?_); (rintro e u10 ⟨rfl, rfl⟩))
                clear r1 r1' r2 r2' r3 r3' r4 r4' r5 r5' r6 r6' r7 r7' r8 r8' r9 r9' r10 r10' s1 s1' v1y v1z v2y v2z v3y v3z v4y v4z v5y v5z k1 k1' k2 k2'
                go_roundg (2 * h + 1 - (j + 1))
                case measure => have := HGK.out; omega
                case rel => exact ⟨j + 1, _, k + 1, rfl, rfl, HY2, by omega, Lib.hid rfl, Lib.hid (by have h1 := HK1.out; have h2 := HREP.out; rw [if_pos d1, if_neg (fun e => by have := HS0.out; have := e.1; omega)] at h2; omega), rfl⟩
              · have g1 : decide ((s : Int) > 0) = true := by clear r1 r1' r2 r2' r3 r3' r4 r4' r5 r5' r6 r6' r7 r7' r8 r8' r9 r9' r10 r10' s1 s1' v1y v1z v2y v2z v3y v3z v4y v4z v5y v5z k1 k1' k2 k2'; simp; omega
                have g2 : (s : Int) > 0 := by clear r1 r1' r2 r2' r3 r3' r4 r4' r5 r5' r6 r6' r7 r7' r8 r8' r9 r9' r10 r10' s1 s1' v1y v1z v2y v2z v3y v3z v4y v4z v5y v5z k1 k1' k2 k2'; omega
                have hsp : 0 < s := by clear r1 r1' r2 r2' r3 r3' r4 r4' r5 r5' r6 r6' r7 r7' r8 r8' r9 r9' r10 r10' s1 s1' v1y v1z v2y v2z v3y v3z v4y v4z v5y v5z k1 k1' k2 k2'; omega
                clear hs0
                by_cases d2 : (2 * A) ∣ (-(s : Int) - B * y)
                · have m2 : Int.tmod (-(s : Int) - B * y) (2 * A) = 0 := (tmod_dvd _ _).2 d2
                  go_wp2_with (go_at_call 21; (with_reducible refine (RT.out _).mono ?_); (rintro e u10 ⟨rfl, rfl⟩))
                  clear r1 r1' r2 r2' r3 r3' r4 r4' r5 r5' r6 r6' r7 r7' r8 r8' r9 r9' r10 r10' s1 s1' v1y v1z v2y v2z v3y v3z v4y v4z v5y v5z k1 k1' k2 k2'
                  go_roundg (2 * h + 1 - (j + 1))
                  case measure => have := HGK.out; omega
                  case rel => exact ⟨j + 1, _, k + 2, rfl, rfl, HY2, by omega, Lib.hid rfl, Lib.hid (by have h1 := HK1.out; have h2 := HREP.out; rw [if_pos d1, if_pos ⟨hsp, d2⟩] at h2; omega), rfl⟩
                · have m3 : ¬ Int.tmod (-(s : Int) - B * y) (2 * A) = 0 := fun e => d2 ((tmod_dvd _ _).1 e)
                  have m2 : (Int.tmod (-(s : Int) - B * y) (2 * A) == 0) = false := by simpa using m3
                  go_wp2_with (go_at_call 21; (with_reducible refine (RT.out _).mono ?_); (rintro e u10 ⟨rfl, rfl⟩))
                  clear r1 r1' r2 r2' r3 r3' r4 r4' r5 r5' r6 r6' r7 r7' r8 r8' r9 r9' r10 r10' s1 s1' v1y v1z v2y v2z v3y v3z v4y v4z v5y v5z k1 k1' k2 k2'
                  go_roundg (2 * h + 1 - (j + 1))
                  case measure => have := HGK.out; omega
                  case rel => exact ⟨j + 1, _, k + 1, rfl, rfl, HY2, by omega, Lib.hid rfl, Lib.hid (by have h1 := HK1.out; have h2 := HREP.out; rw [if_pos d1, if_neg (fun e => d2 e.2)] at h2; omega), rfl⟩
            · have m0 : ¬ Int.tmod ((s : Int) - B * y) (2 * A) = 0 := fun e => d1 ((tmod_dvd _ _).1 e)
              have m1 : (Int.tmod ((s : Int) - B * y) (2 * A) == 0) = false := by simpa using m0
              by_cases hs0 : s = 0
              · have g1 : decide ((s : Int) > 0) = false := by clear r1 r1' r2 r2' r3 r3' r4 r4' r5 r5' r6 r6' r7 r7' r8 r8' r9 r9' r10 r10' s1 s1' v1y v1z v2y v2z v3y v3z v4y v4z v5y v5z k1 k1' k2 k2'; simp; omega
                have g2 : ¬ ((s : Int) > 0) := by clear r1 r1' r2 r2' r3 r3' r4 r4' r5 r5' r6 r6' r7 r7' r8 r8' r9 r9' r10 r10' s1 s1' v1y v1z v2y v2z v3y v3z v4y v4z v5y v5z k1 k1' k2 k2'; omega
                have HS0 := Lib.hid hs0
                clear hs0
                go_wp2_with (go_at_call 21; (with_reducible refine (RT.out _).mono ?_); (rintro e u10 ⟨rfl, rfl⟩))
                clear r1 r1' r2 r2' r3 r3' r4 r4' r5 r5' r6 r6' r7 r7' r8 r8' r9 r9' r10 r10' s1 s1' v1y v1z v2y v2z v3y v3z v4y v4z v5y v5z k1 k1' k2 k2'
                go_roundg (2 * h + 1 - (j + 1))
                case measure => have := HGK.out; omega
                case rel => exact ⟨j + 1, _, k + 0, rfl, rfl, HY2, by omega, Lib.hid rfl, Lib.hid (by have h1 := HK1.out; have h2 := HREP.out; rw [if_neg d1, if_neg (fun e => by have := HS0.out; have := e.1; omega)] at h2; omega), rfl⟩
              · have g1 : decide ((s : Int) > 0) = true := by clear r1 r1' r2 r2' r3 r3' r4 r4' r5 r5' r6 r6' r7 r7' r8 r8' r9 r9' r10 r10' s1 s1' v1y v1z v2y v2z v3y v3z v4y v4z v5y v5z k1 k1' k2 k2'; simp; omega
                have g2 : (s : Int) > 0 := by clear r1 r1' r2 r2' r3 r3' r4 r4' r5 r5' r6 r6' r7 r7' r8 r8' r9 r9' r10 r10' s1 s1' v1y v1z v2y v2z v3y v3z v4y v4z v5y v5z k1 k1' k2 k2'; omega
                have hsp : 0 < s := by clear r1 r1' r2 r2' r3 r3' r4 r4' r5 r5' r6 r6' r7 r7' r8 r8' r9 r9' r10 r10' s1 s1' v1y v1z v2y v2z v3y v3z v4y v4z v5y v5z k1 k1' k2 k2'; omega
                clear hs0
                by_cases d2 : (2 * A) ∣ (-(s : Int) - B * y)
                · have m2 : Int.tmod (-(s : Int) - B * y) (2 * A) = 0 := (tmod_dvd _ _).2 d2
                  go_wp2_with (go_at_call 21; (with_reducible refine (RT.out _).mono ?_); (rintro e u10 ⟨rfl, rfl⟩))
                  clear r1 r1' r2 r2' r3 r3' r4 r4' r5 r5' r6 r6' r7 r7' r8 r8' r9 r9' r10 r10' s1 s1' v1y v1z v2y v2z v3y v3z v4y v4z v5y v5z k1 k1' k2 k2'
                  go_roundg (2 * h + 1 - (j + 1))
                  case measure => have := HGK.out; omega
                  case rel => exact ⟨j + 1, _, k + 1, rfl, rfl, HY2, by omega, Lib.hid rfl, Lib.hid (by have h1 := HK1.out; have h2 := HREP.out; rw [if_neg d1, if_pos ⟨hsp, d2⟩] at h2; omega), rfl⟩
                · have m3 : ¬ Int.tmod (-(s : Int) - B * y) (2 * A) = 0 := fun e => d2 ((tmod_dvd _ _).1 e)
                  have m2 : (Int.tmod (-(s : Int) - B * y) (2 * A) == 0) = false := by simpa using m3
                  go_wp2_with (go_at_call 21; (with_reducible refine (RT.out _).mono ?_); (rintro e u10 ⟨rfl, rfl⟩))
                  clear r1 r1' r2 r2' r3 r3' r4 r4' r5 r5' r6 r6' r7 r7' r8 r8' r9 r9' r10 r10' s1 s1' v1y v1z v2y v2z v3y v3z v4y v4z v5y v5z k1 k1' k2 k2'
                  go_roundg (2 * h + 1 - (j + 1))
                  case measure => have := HGK.out; omega
                  case rel => exact ⟨j + 1, _, k + 0, rfl, rfl, HY2, by omega, Lib.hid rfl, Lib.hid (by have h1 := HK1.out; have h2 := HREP.out; rw [if_neg d1, if_neg (fun e => d2 e.2)] at h2; omega), rfl⟩
          · have t2 : ((s : Int) * (s : Int) != (m : Int)) = true := by simp [hss]
            have HR0 : Hid (repY A B C n y = 0) := Lib.hid (repY_non HII.out.symm (by rw [hs]; exact hss))
            clear v1 q4 q10 hAb hBb hyb hs hsl a0 a1 e0 e1 hkb hIp
            have r1 := Hr1.out
            have r1' := Hr1'.out
            have r2 := Hr2.out
            have r2' := Hr2'.out
            have r3 := Hr3.out
            have r3' := Hr3'.out
            have r4 := Hr4.out
            have r4' := Hr4'.out
            have r5 := Hr5.out
            have r5' := Hr5'.out
            have r6 := Hr6.out
            have r6' := Hr6'.out
            have r7 := Hr7.out
            have r7' := Hr7'.out
            have r8 := Hr8.out
            have r8' := Hr8'.out
            have r9 := Hr9.out
            have r9' := Hr9'.out
            have r10 := Hr10.out
            have r10' := Hr10'.out
            have s1 := Hs1.out
            have s1' := Hs1'.out
            have v1y := Hv1y.out
            have v1z := Hv1z.out
            go_wp2_with (go_at_call 21; (with_reducible refine (RT.out _).mono ?_); (rintro e u10 ⟨rfl, rfl⟩))
            clear r1 r1' r2 r2' r3 r3' r4 r4' r5 r5' r6 r6' r7 r7' r8 r8' r9 r9' r10 r10' s1 s1' v1y v1z
            go_roundg (2 * h + 1 - (j + 1))
            case measure => have := HGK.out; omega
            case rel => exact ⟨j + 1, _, k, rfl, rfl, HY2, by omega, Lib.hid rfl, Lib.hid (by have h1 := HK1.out; have h2 := HR0.out; omega), rfl⟩
end Go.Proofs.Ytbpkfcohbefphaa
/- Plain law: a binary form meets what theta.Expansion asks, and what it counts. -/
namespace Go.Proofs.Ytbpkfcohbefphaa
open Go Go.RowKit

theorem floor_frac (a : Int) {b : Int} (hb : 0 < b) : ((a : Rat) / (b : Rat)).num / (((a : Rat) / (b : Rat)).den : Int) = a / b := by
  rw [← Rat.divInt_eq_div]
  obtain ⟨h1, h2⟩ := divInt_low (n := a) hb
  rw [h1, h2]
  obtain ⟨g, hg⟩ : ∃ g : Int, (Int.gcd a b : Int) = g := ⟨_, rfl⟩
  have hg0 : 0 < g := by rw [← hg]; have := Int.gcd_pos_of_ne_zero_right a (show b ≠ 0 by omega); omega
  obtain ⟨a', ha⟩ : g ∣ a := by rw [← hg]; exact Int.gcd_dvd_left _ _
  obtain ⟨b', hb'⟩ : g ∣ b := by rw [← hg]; exact Int.gcd_dvd_right _ _
  rw [hg, ha, hb', Int.mul_ediv_cancel_left _ (by omega), Int.mul_ediv_cancel_left _ (by omega), Int.mul_ediv_mul_of_pos _ _ hg0]
def bnF (A B C : Int) : Nat → Int := fun k => if k = 0 then 2 * A else if k = 3 then 2 * C else B
def bnM (A B C : Int) : Nat → Nat → Rat := fun i j => (bnF A B C (i * 2 + j) : Rat)
def bnV (A C D : Int) : Nat → Rat := fun i => if i = 0 then ((2 * C : Int) : Rat) / (D : Rat) else ((2 * A : Int) : Rat) / (D : Rat)
def bnQ (A C D : Int) (m : Nat) : Nat → Nat := fun i => if i = 0 then (4 * (m : Int) * C / D).toNat else (4 * (m : Int) * A / D).toNat
def bnB (A C D : Int) (m : Nat) : Nat → Nat := fun i => sqN (bnQ A C D m i)
def bnX (A B C D : Int) (m : Nat) : Nat → Nat := fun t => (fq A B C (dig (bnB A C D m) 2 t 0, dig (bnB A C D m) 2 t 1)).toNat
theorem bn_half {A B C : Int} : Half (besU 2 (bnM A B C)) (2 * A) B (2 * C) := by
  constructor <;> simp [besU, bnM, bnF]
theorem bnQ_le {A B C D : Int} (h : QI A B C D) {m : Nat} (hm : m ≤ 59) (i : Nat) : bnQ A C D m i ≤ 14160 := by
  have hh : ∀ X : Int, 0 < X → X ≤ 60 → (4 * (m : Int) * X / D).toNat ≤ 14160 := by
    intro X h0 h1
    have h2 : 4 * (m : Int) * X ≤ 14160 := by
      have h3 : (m : Int) * X ≤ 59 * 60 := Int.mul_le_mul (by omega) h1 (by omega) (by omega)
      rw [Int.mul_assoc]; omega
    have h3 : 4 * (m : Int) * X / D ≤ 14160 := by
      have h5 : 0 ≤ 4 * (m : Int) * X := Int.mul_nonneg (by omega) (by omega)
      exact Int.le_trans (Int.ediv_le_self _ h5) h2
    omega
  unfold bnQ
  split
  · exact hh C h.c0 h.c1
  · exact hh A h.a0 h.a1
theorem bnB_le {A B C D : Int} (h : QI A B C D) {m : Nat} (hm : m ≤ 59) (i : Nat) : bnB A C D m i ≤ 118 := by
  have h1 := bnQ_le h hm i
  exact sqN_le (by omega) (by omega)
theorem bnQ_box {A B C D : Int} (h : QI A B C D) {m : Nat} (hm : m ≤ 59) : 4 * (m : Int) * C / (4 * A * C - B * B) < ((bnB A C D m 0 : Int) + 1) * ((bnB A C D m 0 : Int) + 1) ∧ 4 * (m : Int) * A / (4 * A * C - B * B) < ((bnB A C D m 1 : Int) + 1) * ((bnB A C D m 1 : Int) + 1) := by
  rw [h.d]
  have hh : ∀ (i : Nat) (X : Int), bnQ A C D m i = (X).toNat → X < ((bnB A C D m i : Int) + 1) * ((bnB A C D m i : Int) + 1) := by
    intro i X hX
    have h1 := (sqN_spec (n := bnQ A C D m i) (by have := bnQ_le h hm i; omega)).2
    have h2 : ((bnQ A C D m i : Nat) : Int) < (((bnB A C D m i + 1) * (bnB A C D m i + 1) : Nat) : Int) := by exact_mod_cast h1
    rw [Int.natCast_mul, Int.natCast_add, hX] at h2
    have h3 : X ≤ (X.toNat : Int) := by omega
    exact Int.lt_of_le_of_lt h3 (by simpa using h2)
  exact ⟨hh 0 _ (by simp [bnQ]), hh 1 _ (by simp [bnQ])⟩
theorem bn_pos {A B C D : Int} (h : QI A B C D) : 0 < 4 * A * C - B * B := by rw [h.d]; exact h.d0
theorem bn_cnt {A B C D : Int} (h : QI A B C D) {m : Nat} (hm : m ≤ 59) (j : Nat) (hj : j ≤ m) : Cnt A B C j (hist (fun t => (bnX A B C D m t : Int)) (boxN (bnB A C D m) 2) (j : Int)) := by
  obtain ⟨h0, h1⟩ := bnQ_box h hm
  have h2 := cnt_box (m := m) h.a0 h.c0 (bn_pos h) h0 h1 (j : Int) (by omega)
  rwa [hist_cong _ (fun t => (bnX A B C D m t : Int)) _ _ (fun t _ => by
    have := fq_nonneg h.a0 (bn_pos h) (dig (bnB A C D m) 2 t 0, dig (bnB A C D m) 2 t 1)
    show _ = (((fq A B C (dig (bnB A C D m) 2 t 0, dig (bnB A C D m) 2 t 1)).toNat : Nat) : Int)
    omega)] at h2
theorem bn_thh {A B C D : Int} (h : QI A B C D) {prec m : Nat} (hp : prec ≤ 60) (hm : m = prec - 1) : ThH 2 4 prec m (2 * (m : Int)) (bnF A B C) (bnM A B C) (bnV A C D) (bnQ A C D m) (bnB A C D m) (bnX A B C D m) := by
  have hp0 : 0 < 2 * A := by have := h.a0; omega
  have hD : D = 2 * A * (2 * C) - B * B := by rw [← h.d]; grind
  have hD0 := h.d0
  have hm59 : m ≤ 59 := by omega
  have a1 := h.a1
  have b1 := h.b1
  have c0 := h.c0
  have c1 := h.c1
  have hdl := h.dle
  have hH : Half (besU 2 (bnM A B C)) (2 * A) B (2 * C) := bn_half
  have hfl : ∀ X : Int, 0 < X → X ≤ 60 → (((2 * (m : Int) : Int) : Rat) * (((2 * X : Int) : Rat) / (D : Rat))).num / ((((2 * (m : Int) : Int) : Rat) * (((2 * X : Int) : Rat) / (D : Rat))).den : Int) = ((4 * (m : Int) * X / D).toNat : Int) := by
    intro X hX _
    have e : ((2 * (m : Int) : Int) : Rat) * (((2 * X : Int) : Rat) / (D : Rat)) = ((4 * (m : Int) * X : Int) : Rat) / (D : Rat) := by
      rw [Rat.div_def, Rat.div_def, ← Rat.mul_assoc, ← Rat.intCast_mul]
      congr 2; grind
    rw [e, floor_frac _ hD0]
    have : 0 ≤ 4 * (m : Int) * X / D := Int.ediv_nonneg (Int.mul_nonneg (by omega) (by omega)) (by omega)
    omega
  have hML : ∀ X : Int, 0 < X → X ≤ 60 → MulB ((2 * (m : Int) : Int) : Rat) (((2 * X : Int) : Rat) / (D : Rat)) := by
    intro X hX hX2
    exact (Sm.mono (sm_int (2 * (m : Int))) (show (2 * (m : Int)).natAbs ≤ 118 by omega) (Nat.le_refl _)).mulB (Sm.mono (sm_frac (2 * X) hD0) (show (2 * X).natAbs ≤ 120 by omega) (show D.toNat ≤ 14400 by omega)) (by omega) (by omega)
  refine ⟨rfl, by omega, by omega, ?_, fun i j => rfl, ?_, by omega, hm, rfl, ?_, ?_, ?_, fun i hi => rfl, ?_, ?_, ?_⟩
  · intro i _
    unfold bnF
    split
    · omega
    · split <;> omega
  · intro c hc
    rcases (by omega : c = 0 ∨ c = 1) with rfl | rfl
    · exact half_red0 hH hp0 (by omega) (by omega) (by omega)
    · exact half_red1 hH hp0 hD hD0 (by omega) (by omega) (by omega)
  · intro i hi
    have hv := half_inv hH hp0 hD hD0
    rcases (by omega : i = 0 ∨ i = 1) with rfl | rfl
    · exact hv.1
    · exact hv.2
  · intro i hi
    rcases (by omega : i = 0 ∨ i = 1) with rfl | rfl
    · exact hML C c0 c1
    · exact hML A h.a0 a1
  · intro i hi
    refine ⟨?_, by have := bnQ_le h hm59 i; omega⟩
    rcases (by omega : i = 0 ∨ i = 1) with rfl | rfl
    · exact hfl C c0 c1
    · exact hfl A h.a0 a1
  · show 1 * (2 * bnB A C D m 0 + 1) * (2 * bnB A C D m 1 + 1) ≤ 1048576
    have h0 := bnB_le h hm59 0
    have h1 := bnB_le h hm59 1
    exact Nat.le_trans (Nat.mul_le_mul (show 1 * (2 * bnB A C D m 0 + 1) ≤ 237 by omega) (show 2 * bnB A C D m 1 + 1 ≤ 237 by omega)) (by omega)
  · intro t _
    have h1 := fq_nonneg h.a0 (bn_pos h) (dig (bnB A C D m) 2 t 0, dig (bnB A C D m) 2 t 1)
    have h2 : ((bnX A B C D m t : Nat) : Int) = fq A B C (dig (bnB A C D m) 2 t 0, dig (bnB A C D m) 2 t 1) := by unfold bnX; omega
    rw [h2]
    generalize dig (bnB A C D m) 2 t = x
    simp only [ssN, psN, fq, bnF]
    simp
    grind
  · intro _
    obtain ⟨l, -, hl, hm⟩ := bn_cnt h hm59 0 (Nat.zero_le _)
    have h0 : ((0 : Int), (0 : Int)) ∈ l := (hm _).2 (by simp [fq])
    have h1 := List.length_pos_of_mem h0
    rw [hl] at h1
    exact h1
theorem bn_thc {A B C D : Int} (h : QI A B C D) : ThC 2 (bnF A B C) (bnM A B C) := by
  have hp0 : 0 < 2 * A := by have := h.a0; omega
  have hD : D = 2 * A * (2 * C) - B * B := by rw [← h.d]; grind
  have a1 := h.a1
  have b1 := h.b1
  have c0 := h.c0
  have c1 := h.c1
  refine ⟨?_, ?_, ?_, ?_⟩
  · intro i k hi hk
    rcases (by omega : i = 0 ∨ i = 1) with rfl | rfl <;> rcases (by omega : k = 0 ∨ k = 1) with rfl | rfl <;> rfl
  · intro i hi
    rcases (by omega : i = 0 ∨ i = 1) with rfl | rfl
    · show Int.tmod (2 * A) 2 = 0; simp
    · show Int.tmod (2 * C) 2 = 0; simp
  · intro i j hj hi
    obtain rfl : i = 1 := by omega
    obtain rfl : j = 0 := by omega
    refine ⟨rfl, ?_⟩
    have e1 : bnM A B C 1 0 = (B : Rat) := rfl
    have e2 : bnM A B C 0 1 = (B : Rat) := rfl
    rw [e1]
    exact (Sm.mono (sm_int B) b1 (Nat.le_refl _)).addB (Sm.mono (sm_int B) b1 (Nat.le_refl _)).neg (by omega) (by omega)
  · intro k hk
    rcases (by omega : k = 0 ∨ k = 1) with rfl | rfl
    · exact sig2_0 (M := bnM A B C) (p := 2 * A) (q := B) (r := 2 * C) (by simp [bnM, bnF]) (by simp [bnM, bnF]) (by simp [bnM, bnF]) (by simp [bnM, bnF]) hp0 (by omega) (by omega) (by omega)
    · exact sig2_1 (M := bnM A B C) (p := 2 * A) (q := B) (r := 2 * C) (by simp [bnM, bnF]) (by simp [bnM, bnF]) (by simp [bnM, bnF]) (by simp [bnM, bnF]) hp0 hD h.d0
end Go.Proofs.Ytbpkfcohbefphaa
/- Walks of the statements' helpers: equal integers and fractions. -/
namespace Go.Proofs.Ytbpkfcohbefphaa
open Go Go.RowKit

set_option maxRecDepth 20000 in
set_option maxHeartbeats 8000000 in
theorem sameIntV (z : Int) (v1 v2 : Value) (w : World) (h1 : IntR w v1 z) (h2 : IntR w v2 z) :
    Calls Try.prog 22 #[v1, v2] w fun e w' => e = .returned (.bool true) ∧ Grow w w' := by
  obtain ⟨m1, rfl, h1⟩ := h1
  obtain ⟨m2, rfl, h2⟩ := h2
  generalize sgB z = s
  generalize z.natAbs = n at h1 h2
  rcases h1 with ⟨p0, a1, c1, rfl⟩ | ⟨p0, p1, b1, o1, c1, rfl, k1, q1, d1⟩
  · rcases h2 with ⟨-, a2, c2, rfl⟩ | ⟨p2, -⟩
    · go_enter Try.func22, Try.ntmps22
      go_wp2_with fail
      go_loopg [5] 0 (fun gk t5 wr => t5 = .int .i64 0 ∧ Hid (Grow w wr) ∧ wr.cell? ⟨w.heap.size, 0, none⟩ = some (.bool s) ∧ wr.cell? ⟨w.heap.size, 1, none⟩ = some (.slice a1 0 c1))
      case atStart =>
        refine ⟨rfl, Lib.hid (by (repeat (first | with_reducible exact Grow.refl _ | with_reducible refine Grow.alloc ?_ _ | with_reducible refine Grow.drew ?_ | with_reducible refine Grow.drewN ?_ _ | (with_reducible refine Grow.setCell ?_ ?hp _; (case hp => (simp; try omega))) | with_reducible refine Grow.trans ?_ (by assumption)))), by go_simp, by go_simp⟩
      case round =>
        obtain ⟨rfl, HG, x0, x1⟩ := hrel
        go_wp2_with fail
        go_ret
        exact ⟨rfl, HG.out⟩
    · omega
  · rcases h2 with ⟨p2, -⟩ | ⟨-, -, b2, o2, c2, rfl, k2, q2, d2⟩
    · omega
    · obtain ⟨W1, hW1⟩ : ∃ W1 : World, W1 = w.alloc (.cells #[.bool s, .slice (some ⟨b1, o1, none⟩) 1 c1] 37) := ⟨_, rfl⟩
      obtain ⟨W2, hW2⟩ : ∃ W2 : World, W2 = W1.alloc (.cells #[.bool s, .slice (some ⟨b2, o2, none⟩) 1 c2] 37) := ⟨_, rfl⟩
      have hg2 : Grow w W2 := (ag hW1).trans (ag hW2)
      have K1 := Lib.hid (fun u (hu : Grow W2 u) => ak2 hW1 u ((ag hW2).trans hu))
      have hz1 : W1.heap.size = w.heap.size + 1 := by rw [hW1]; simp
      have K2 := Lib.hid (ak2 hW2)
      rw [hz1] at K2
      have D1 := Lib.hid (fun u (hu : Grow W2 u) => ((hg2.trans hu).cells _ _ q1).trans d1)
      have D2 := Lib.hid (fun u (hu : Grow W2 u) => ((hg2.trans hu).cells _ _ q2).trans d2)
      have HW1 := Lib.hid hW1
      have HW2 := Lib.hid hW2
      have HG2 := Lib.hid hg2
      clear hW1 hW2 hg2 d1 d2 hz1
      go_enter Try.func22, Try.ntmps22
      go_upto_region 1 with fail
      rw [← HW1.out, ← HW2.out]
      obtain ⟨e0, e1, e2, e3⟩ := K1.out W2 (Grow.refl _)
      obtain ⟨f0, f1, f2, f3⟩ := K2.out W2 (Grow.refl _)
      go_wp2_with fail
      clear e0 e1 e2 e3 f0 f1 f2 f3
      go_loopg [5] 1 (fun gk t5 wr => ∃ j : Nat, t5 = .int .i64 (j : Int) ∧ j ≤ 1 ∧ Hid (gk = 1 - j) ∧ Hid (Grow W2 wr))
      case atStart => exact ⟨0, rfl, by omega, Lib.hid rfl, Lib.hid (by (repeat (first | with_reducible exact Grow.refl _ | with_reducible refine Grow.alloc ?_ _ | with_reducible refine Grow.drew ?_ | with_reducible refine Grow.drewN ?_ _ | (with_reducible refine Grow.setCell ?_ ?hp _; (case hp => (simp; try omega))) | with_reducible refine Grow.trans ?_ (by assumption))))⟩
      case round =>
        obtain ⟨j, rfl, hj, HGK, HG⟩ := hrel
        obtain ⟨e0, e1, e2, e3⟩ := K1.out wr HG.out
        obtain ⟨f0, f1, f2, f3⟩ := K2.out wr HG.out
        have d1 := D1.out wr HG.out
        have d2 := D2.out wr HG.out
        rcases (by omega : j = 0 ∨ j = 1) with rfl | rfl
        · go_upto_region 6 with fail
          go_quiet (fail)
          go_wp2_with fail
          go_roundg 0
          case measure => have := HGK.out; omega
          case rel => exact ⟨1, rfl, by omega, Lib.hid rfl, Lib.hid (HG.out.trans (by (repeat (first | with_reducible exact Grow.refl _ | with_reducible refine Grow.alloc ?_ _ | with_reducible refine Grow.drew ?_ | with_reducible refine Grow.drewN ?_ _ | (with_reducible refine Grow.setCell ?_ ?hp _; (case hp => (simp; try omega))) | with_reducible refine Grow.trans ?_ (by assumption)))))⟩
        · go_wp2_with fail
          go_ret
          exact ⟨rfl, HG2.out.trans (HG.out.trans (by (repeat (first | with_reducible exact Grow.refl _ | with_reducible refine Grow.alloc ?_ _ | with_reducible refine Grow.drew ?_ | with_reducible refine Grow.drewN ?_ _ | (with_reducible refine Grow.setCell ?_ ?hp _; (case hp => (simp; try omega))) | with_reducible refine Grow.trans ?_ (by assumption)))))⟩
set_option maxRecDepth 20000 in
set_option maxHeartbeats 8000000 in
theorem sameRatQ (x : Rat) (v1 v2 : Value) (w : World) (h1 : RatR w v1 x) (h2 : RatR w v2 x) :
    Calls Try.prog 9 #[v1, v2] w fun e w' => e = .returned (.bool true) ∧ Grow w w' := by
  obtain ⟨s1, a1, l1, c1, t1, b1, k1, e1, rfl⟩ := h1.form
  obtain ⟨s2, a2, l2, c2, t2, b2, k2, e2, rfl⟩ := h2.form
  have SN := Lib.hid (fun u (hu : Grow w u) => sameIntV _ _ _ u (h1.num.grow hu) (h2.num.grow hu))
  have SD := Lib.hid (fun u (hu : Grow w u) => sameIntV _ _ _ u (h1.den.grow hu) (h2.den.grow hu))
  clear h1 h2
  obtain ⟨W1, hW1⟩ : ∃ W1 : World, W1 = w.alloc (.cells #[.bool s1, .slice a1 l1 c1, .bool t1, .slice b1 k1 e1] 39) := ⟨_, rfl⟩
  obtain ⟨W2, hW2⟩ : ∃ W2 : World, W2 = W1.alloc (.cells #[.bool s2, .slice a2 l2 c2, .bool t2, .slice b2 k2 e2] 39) := ⟨_, rfl⟩
  have hg2 : Grow w W2 := (ag hW1).trans (ag hW2)
  have K1 := Lib.hid (fun u (hu : Grow W2 u) => ak4 hW1 u ((ag hW2).trans hu))
  have hz1 : W1.heap.size = w.heap.size + 1 := by rw [hW1]; simp
  have K2 := Lib.hid (ak4 hW2)
  rw [hz1] at K2
  have HW1 := Lib.hid hW1
  have HW2 := Lib.hid hW2
  clear hW1 hW2 hz1
  go_enter Try.func9, Try.ntmps9
  go_upto_region 1 with fail
  rw [← HW1.out, ← HW2.out]
  obtain ⟨x0, x1, x2, x3, x4, x5⟩ := K1.out W2 (Grow.refl _)
  obtain ⟨y0, y1, y2, y3, y4, y5⟩ := K2.out W2 (Grow.refl _)
  go_wp2_with (first
    | (go_at_call 22; (with_reducible refine (SN.out _ (by (repeat (first | with_reducible exact Grow.refl _ | with_reducible refine Grow.alloc ?_ _ | with_reducible refine Grow.drew ?_ | with_reducible refine Grow.drewN ?_ _ | (with_reducible refine Grow.setCell ?_ ?hp _; (case hp => (simp; try omega))) | with_reducible refine Grow.trans ?_ (by assumption))))).mono ?_); (rintro e u1 ⟨rfl, hb1⟩; obtain ⟨x0, x1, x2, x3, x4, x5⟩ := K1.out u1 (by (repeat (first | with_reducible exact Grow.refl _ | with_reducible refine Grow.alloc ?_ _ | with_reducible refine Grow.drew ?_ | with_reducible refine Grow.drewN ?_ _ | (with_reducible refine Grow.setCell ?_ ?hp _; (case hp => (simp; try omega))) | with_reducible refine Grow.trans ?_ (by assumption)))); obtain ⟨y0, y1, y2, y3, y4, y5⟩ := K2.out u1 (by (repeat (first | with_reducible exact Grow.refl _ | with_reducible refine Grow.alloc ?_ _ | with_reducible refine Grow.drew ?_ | with_reducible refine Grow.drewN ?_ _ | (with_reducible refine Grow.setCell ?_ ?hp _; (case hp => (simp; try omega))) | with_reducible refine Grow.trans ?_ (by assumption))))))
    | (go_at_call 22; (with_reducible refine (SD.out _ (by (repeat (first | with_reducible exact Grow.refl _ | with_reducible refine Grow.alloc ?_ _ | with_reducible refine Grow.drew ?_ | with_reducible refine Grow.drewN ?_ _ | (with_reducible refine Grow.setCell ?_ ?hp _; (case hp => (simp; try omega))) | with_reducible refine Grow.trans ?_ (by assumption))))).mono ?_); (rintro e u3 ⟨rfl, hb3⟩)))
  go_ret
  exact ⟨rfl, by (repeat (first | with_reducible exact Grow.refl _ | with_reducible refine Grow.alloc ?_ _ | with_reducible refine Grow.drew ?_ | with_reducible refine Grow.drewN ?_ _ | (with_reducible refine Grow.setCell ?_ ?hp _; (case hp => (simp; try omega))) | with_reducible refine Grow.trans ?_ (by assumption)))⟩
end Go.Proofs.Ytbpkfcohbefphaa
/- Walks of the statements' helpers: SameRats, SameSeries, Qs. -/
namespace Go.Proofs.Ytbpkfcohbefphaa
open Go Go.RowKit

set_option maxRecDepth 20000 in
set_option maxHeartbeats 8000000 in
theorem sameRatsQ (n B1 o1 c1 B2 o2 c2 : Nat) (r r' : Nat → Rat) (hn : n ≤ 1000) (hr : ∀ j, j < n → r j = r' j) (w : World) (h1 : RowQ w B1 o1 n r) (h2 : RowQ w B2 o2 n r') :
    Calls Try.prog 24 #[.slice (some ⟨B1, o1, none⟩) n c1, .slice (some ⟨B2, o2, none⟩) n c2] w fun e w' => e = .returned (.bool true) ∧ Grow w w' := by
  have H1 := Lib.hid h1
  have H2 := Lib.hid h2
  have HR := Lib.hid hr
  clear h1 h2 hr
  go_enter Try.func24, Try.ntmps24
  go_wp2_with fail
  go_loopg [5] n (fun gk t5 wr => ∃ j : Nat, t5 = .int .i64 (j : Int) ∧ j ≤ n ∧ Hid (gk = n - j) ∧ Hid (Grow w wr))
  case atStart => exact ⟨0, rfl, Nat.zero_le _, Lib.hid rfl, Lib.hid (Grow.refl _)⟩
  case round =>
    obtain ⟨j, rfl, hj2, HGK, HG⟩ := hrel
    by_cases hjn : j = n
    · have y1 : decide ((j : Int) < (n : Int)) = false := by simp; omega
      subst hjn
      go_wp2_with fail
      go_ret
      exact ⟨rfl, HG.out⟩
    · have hj : j < n := by omega
      have y0 : (0 : Int) ≤ (j : Int) := by omega
      have y1 : (j : Int) < (n : Int) := by omega
      obtain ⟨s3, a3, l3, c3, t3, b3, k3, e3, ⟨p0, p1, p2, p3⟩, hv1⟩ := RowQ.at4 (RowP.grow H1.out HG.out) hj
      obtain ⟨s4, a4, l4, c4, t4, b4, k4, e4, ⟨q0, q1, q2, q3⟩, hv2⟩ := RowQ.at4 (RowP.grow H2.out HG.out) hj
      rw [HR.out j hj] at hv1
      have hl1 := (RowP.grow H1.out HG.out).lt
      have hl2 := (RowP.grow H2.out HG.out).lt
      have D0 := Lib.hid (fun (u : World) (hg : Grow wr u) => (⟨(hg.cells _ _ hl1).trans p0, (hg.cells _ _ hl1).trans p1, (hg.cells _ _ hl1).trans p2, (hg.cells _ _ hl1).trans p3, (hg.cells _ _ hl2).trans q0, (hg.cells _ _ hl2).trans q1, (hg.cells _ _ hl2).trans q2, (hg.cells _ _ hl2).trans q3⟩ : _ ∧ _ ∧ _ ∧ _ ∧ _ ∧ _ ∧ _ ∧ _))
      have SR := Lib.hid (fun (u : World) (hg : Grow wr u) => sameRatQ _ _ _ u (hv1.grow hg) (hv2.grow hg))
      clear p0 p1 p2 p3 q0 q1 q2 q3 hv1 hv2 hl1 hl2 hjn
      go_upto_region 6 with fail
      refine region_held (id := 6) (fun u => Grow wr u) [0, 1, 2, 3, 4, 5, 6, 7, 8, 9] (kdL [0, 0, 0, 1, 0, 0, 0, 1, 2, 0]) (by kernel_rfl) (by kernel_rfl) (fun t ht => kdL_lt _ t ht) ?hS0p ?_
      case hS0p => ((try dsimp only); (repeat (first | with_reducible exact Grow.refl _ | with_reducible refine Grow.alloc ?_ _ | with_reducible refine Grow.drew ?_ | with_reducible refine Grow.drewN ?_ _ | (with_reducible refine Grow.setCell ?_ ?hp _; (case hp => (simp; try omega))) | with_reducible refine Grow.trans ?_ (by assumption))))
      refine held_quiet (v := ?vp0) rfl rfl (Or.inl ⟨by rfl, ?hyp0⟩) ?_
      case hyp0 => (intro u hu; go_simp; (try with_reducible rfl))
      (try simp only [Act.put, List.setIfInBounds_toArray])
      refine held_quiet (v := ?vp1) rfl rfl (Or.inl ⟨by rfl, ?hyp1⟩) ?_
      case hyp1 => (intro u hu; go_simp; (try with_reducible rfl))
      (try simp only [Act.put])
      refine held_quiet (v := ?vp2) rfl rfl (Or.inl ⟨by rfl, ?hyp2⟩) ?_
      case hyp2 => (intro u hu; go_simp; (try with_reducible rfl))
      (try simp only [Act.put])
      refine held_read (v := ?vp3) rfl rfl (Or.inl ⟨by rfl, ?hyp3⟩) ?_
      case hyp3 => (intro u hu; obtain ⟨f0, f1, f2, f3, f4, f5, f6, f7⟩ := D0.out u hu; go_simp; (try with_reducible rfl))
      (try simp only [Act.put])
      refine held_quiet (v := ?vp4) rfl rfl (Or.inl ⟨by rfl, ?hyp4⟩) ?_
      case hyp4 => (intro u hu; go_simp; (try with_reducible rfl))
      (try simp only [Act.put])
      refine held_quiet (v := ?vp5) rfl rfl (Or.inl ⟨by rfl, ?hyp5⟩) ?_
      case hyp5 => (intro u hu; go_simp; (try with_reducible rfl))
      (try simp only [Act.put])
      refine held_quiet (v := ?vp6) rfl rfl (Or.inl ⟨by rfl, ?hyp6⟩) ?_
      case hyp6 => (intro u hu; go_simp; (try with_reducible rfl))
      (try simp only [Act.put])
      refine held_read (v := ?vp7) rfl rfl (Or.inl ⟨by rfl, ?hyp7⟩) ?_
      case hyp7 => (intro u hu; obtain ⟨f0, f1, f2, f3, f4, f5, f6, f7⟩ := D0.out u hu; go_simp; (try with_reducible rfl))
      (try simp only [Act.put])
      refine held_op rfl rfl (fun K hK => ?_)
      go_simp
      (go_at_call 9; (with_reducible refine (SR.out _ (by (repeat (first | with_reducible exact Grow.refl _ | with_reducible refine Grow.alloc ?_ _ | with_reducible refine Grow.drew ?_ | with_reducible refine Grow.drewN ?_ _ | (with_reducible refine Grow.setCell ?_ ?hp _; (case hp => (simp; try omega))) | with_reducible refine Grow.trans ?_ (by assumption))))).mono ?_); (rintro e u6 ⟨rfl, hb6⟩))
      (try go_wp2_with fail)
      refine hK.out _ _ ?hSp8 ?_
      case hSp8 => ((try dsimp only); (repeat (first | with_reducible exact Grow.refl _ | with_reducible refine Grow.alloc ?_ _ | with_reducible refine Grow.drew ?_ | with_reducible refine Grow.drewN ?_ _ | (with_reducible refine Grow.setCell ?_ ?hp _; (case hp => (simp; try omega))) | with_reducible refine Grow.trans ?_ (by assumption))))
      clear hK K
      (try simp only [Act.put])
      refine held_quiet (v := ?vp9) rfl rfl (Or.inl ⟨by rfl, ?hyp9⟩) ?_
      case hyp9 => (intro u hu; go_simp; (try with_reducible rfl))
      (try simp only [Act.put])
      refine held_done ?_
      have YI := Lib.hid (inc_wrap hj (by omega))
      obtain ⟨e8, e9⟩ := YI.out
      go_wp2_with fail
      clear e8 e9
      go_roundg (n - (j + 1))
      case measure => have := HGK.out; omega
      case rel => exact ⟨j + 1, rfl, hj, Lib.hid rfl, Lib.hid (HG.out.trans (by (repeat (first | with_reducible exact Grow.refl _ | with_reducible refine Grow.alloc ?_ _ | with_reducible refine Grow.drew ?_ | with_reducible refine Grow.drewN ?_ _ | (with_reducible refine Grow.setCell ?_ ?hp _; (case hp => (simp; try omega))) | with_reducible refine Grow.trans ?_ (by assumption)))))⟩
set_option maxRecDepth 20000 in
set_option maxHeartbeats 8000000 in
theorem sameSeriesQ (fr : Int) (n B1 o1 c1 B2 o2 c2 : Nat) (r r' : Nat → Rat) (hn : n ≤ 1000) (hr : ∀ j, j < n → r j = r' j) (w : World) (h1 : RowQ w B1 o1 n r) (h2 : RowQ w B2 o2 n r') :
    Calls Try.prog 11 #[.agg #[.int .i64 fr, .slice (some ⟨B1, o1, none⟩) n c1], .agg #[.int .i64 fr, .slice (some ⟨B2, o2, none⟩) n c2]] w fun e w' => e = .returned (.bool true) ∧ Grow w w' := by
  have SS := Lib.hid (fun (u : World) (hu : Grow w u) => sameRatsQ n B1 o1 c1 B2 o2 c2 r r' hn hr u (RowP.grow h1 hu) (RowP.grow h2 hu))
  clear h1 h2 hr
  obtain ⟨W1, hW1⟩ : ∃ W1 : World, W1 = w.alloc (.cells #[.int .i64 fr, .slice (some ⟨B1, o1, none⟩) n c1] 29) := ⟨_, rfl⟩
  obtain ⟨W2, hW2⟩ : ∃ W2 : World, W2 = W1.alloc (.cells #[.int .i64 fr, .slice (some ⟨B2, o2, none⟩) n c2] 29) := ⟨_, rfl⟩
  have hg2 : Grow w W2 := (ag hW1).trans (ag hW2)
  have K1 := Lib.hid (fun u (hu : Grow W2 u) => ak2 hW1 u ((ag hW2).trans hu))
  have K2 := Lib.hid (ak2 hW2)
  have hz1 : W1.heap.size = w.heap.size + 1 := by rw [hW1]; simp
  rw [hz1] at K2
  have HW1 := Lib.hid hW1
  have HW2 := Lib.hid hW2
  clear hW1 hW2
  go_enter Try.func11, Try.ntmps11
  go_upto_region 1 with fail
  rw [← HW1.out, ← HW2.out]
  obtain ⟨b0, b1, b2, b3⟩ := K1.out W2 (Grow.refl _)
  obtain ⟨d0, d1, d2, d3⟩ := K2.out W2 (Grow.refl _)
  go_wp2_with (go_at_call 24; (with_reducible refine (SS.out _ (by (repeat (first | with_reducible exact Grow.refl _ | with_reducible refine Grow.alloc ?_ _ | with_reducible refine Grow.drew ?_ | with_reducible refine Grow.drewN ?_ _ | (with_reducible refine Grow.setCell ?_ ?hp _; (case hp => (simp; try omega))) | with_reducible refine Grow.trans ?_ (by assumption))))).mono ?_); (rintro e u2 ⟨rfl, hb2⟩))
  go_ret
  exact ⟨rfl, by (repeat (first | with_reducible exact Grow.refl _ | with_reducible refine Grow.alloc ?_ _ | with_reducible refine Grow.drew ?_ | with_reducible refine Grow.drewN ?_ _ | (with_reducible refine Grow.setCell ?_ ?hp _; (case hp => (simp; try omega))) | with_reducible refine Grow.trans ?_ (by assumption)))⟩
set_option maxRecDepth 20000 in
set_option maxHeartbeats 8000000 in
theorem qsQ (n B off c : Nat) (f : Nat → Int) (hn0 : 0 < n) (hn : n ≤ 1000) (hf : ∀ i, i < n → (f i).natAbs < 4294967296) (w : World) (hA : IntQ w B off n f) :
    Calls Try.prog 12 #[.slice (some ⟨B, off, none⟩) n c] w fun e w' => ∃ B' c', e = .returned (.slice (some ⟨B', 0, none⟩) n c') ∧ RowQ w' B' 0 n (fun i => (f i : Rat)) ∧ Grow w w' := by
  obtain ⟨ir, hir, irz0, irz1, irz2⟩ := info_parts infoRat
  have HA := Lib.hid hA
  have HF := Lib.hid hf
  clear hA hf
  go_enter Try.func12, Try.ntmps12
  go_wp2_with fail
  go_loopg [3, 4] n (fun gk t3 t4 wr => ∃ (j cv : Nat) (av : Option Addr) (xs : List Value), t3 = .slice av j cv ∧ t4 = .int .i64 (j : Int) ∧ j ≤ n ∧ Hid (gk = n - j) ∧ Hid (Grow w wr) ∧ Hid (OwnG wr w.heap.size 39 4 (.slice av j cv) j xs) ∧ Hid (ListR wr xs j (fun i => (f i : Rat))))
  case atStart => exact ⟨0, 0, none, [], rfl, rfl, Nat.zero_le _, Lib.hid rfl, Lib.hid (Grow.refl _), Lib.hid (OwnG.nil _ _ _ _), Lib.hid (ListR.nil _ _)⟩
  case round =>
    obtain ⟨j, cv, av, xs, rfl, rfl, hj2, HGK, HG, HO, HX⟩ := hrel
    by_cases hjn : j = n
    · have y1 : decide ((j : Int) < (n : Int)) = false := by simp; omega
      subst hjn
      obtain ⟨g, cap, hv, hg1, hg2⟩ := own_slice HO.out.own hn0
      injection hv with h1 h2 h3
      subst h1 h3
      go_wp2_with fail
      go_ret
      exact ⟨g, ⟨cv, rfl⟩, own_rowq HO.out.own HX.out, HG.out⟩
    · have hj : j < n := by omega
      have y0 : (0 : Int) ≤ (j : Int) := by omega
      have y1 : (j : Int) < (n : Int) := by omega
      have hcA := (HA.out.grow HG.out).cell j hj
      have QB := Lib.hid (fun u => qbQ (f j) (HF.out j hj) u)
      obtain ⟨z, hz⟩ : ∃ z, f j = z := ⟨_, rfl⟩
      rw [hz] at hcA QB
      have HZ := Lib.hid hz
      clear hz
      go_wp2_with (first
        | (go_at_call 10; (with_reducible refine (QB.out _).mono ?_); (rintro e u6 ⟨v6, rfl, hv6, hb6⟩; obtain ⟨s6, a6, l6, c6, t6, b6, k6, e6, rfl⟩ := hv6.form; have HV6 := Lib.hid hv6; have HG6 := Lib.hid hb6; clear hv6 hb6))
        | (at_builtin; go_loud (refine wpList_append_g _ rfl _ _ 27 rfl 39 ir _ 4 64 Try.underlying27 hir irz0 irz1 irz2 rfl (by decide) rat_zero_nu (by decide) w.heap.size _ j xs rfl (HO.out.grow (HG6.out.trans (by (repeat (first | with_reducible exact Grow.refl _ | with_reducible refine Grow.alloc ?_ _ | with_reducible refine Grow.drew ?_ | with_reducible refine Grow.drewN ?_ _ | (with_reducible refine Grow.setCell ?_ ?hp _; (case hp => (simp; try omega))) | with_reducible refine Grow.trans ?_ (by assumption)))))) ⟨u6.heap.size, 0, none⟩ 1 [.bool s6, .slice a6 l6 c6, .bool t6, .slice b6 k6 e6] rfl rfl (rat_news u6 s6 a6 l6 c6 t6 b6 k6 e6 39) (rat_one s6 a6 l6 c6 t6 b6 k6 e6) (rat_nu s6 a6 l6 c6 t6 b6 k6 e6) (by omega) (Nat.le_trans (HG.out.trans HG6.out).size (by simp)) ?_)))
      intro v7 w7 hown7 hb7
      obtain ⟨a7, c7, hv7⟩ := hown7.form
      subst hv7
      have hga : Grow wr (u6.alloc (.cells #[.bool s6, .slice a6 l6 c6, .bool t6, .slice b6 k6 e6] 39)) := HG6.out.trans (by (repeat (first | with_reducible exact Grow.refl _ | with_reducible refine Grow.alloc ?_ _ | with_reducible refine Grow.drew ?_ | with_reducible refine Grow.drewN ?_ _ | (with_reducible refine Grow.setCell ?_ ?hp _; (case hp => (simp; try omega))) | with_reducible refine Grow.trans ?_ (by assumption))))
      have hx7 := (HX.out.grow hga).but hb7
      have hl7 := ((listr_one HV6.out).grow ((Grow.refl u6).alloc (.cells #[.bool s6, .slice a6 l6 c6, .bool t6, .slice b6 k6 e6] 39))).but hb7
      have HXL := Lib.hid ((hx7.append hl7).cong (r' := fun i => (f i : Rat)) (fun i hi => by
        by_cases hij : i < j
        · rw [if_pos hij]
        · rw [if_neg hij, show i = j by omega, HZ.out]))
      have HGL := Lib.hid ((((HG.out.trans hga).but _).trans hb7).asGrow (fun b hb => hb))
      have HOL := Lib.hid hown7
      have YI := Lib.hid (inc_wrap hj (by omega))
      clear hx7 hl7 hga hb7 hown7 hcA
      obtain ⟨e8, e9⟩ := YI.out
      go_wp2_with fail
      clear e8 e9
      go_roundg (n - (j + 1))
      case measure => have := HGK.out; omega
      case rel => exact ⟨j + 1, c7, a7, _, rfl, rfl, hj, Lib.hid rfl, HGL, HOL, HXL⟩
end Go.Proofs.Ytbpkfcohbefphaa
