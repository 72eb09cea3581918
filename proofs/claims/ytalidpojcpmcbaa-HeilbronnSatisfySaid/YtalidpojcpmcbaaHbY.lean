/- Walk: Satisfies of heilbronn. -/
import Derived.Test.YtalidpojcpmcbaaHbX
import Derived.Deep.LoopGhost
import Derived.Deep.QuietTactic
import Derived.Deep.DeepCutAuto
import Derived.Deep.CutBlock
import Derived.Deep.RegionHeld3
import Derived.BigQuiet
import Derived.BigRegion
import Derived.Carry
namespace Go.Proofs.Ytalidpojcpmcbaa
open Go Go.RowKit

set_option maxHeartbeats 4000000 in
theorem sat_in (n : Int) (l : List M2) (v : Value) (h1 : 1 ≤ n) (h2 : n ≤ 128) (h3 : l.length ≤ 4096) (R : Bool) (w : World) (hv : RdMats w v l) (HR : Hid (R = true ↔ (∀ m ∈ l, fitsF m n = true) ∧ ∀ k c, tAll n l k c = 0)) :
    Calls Try.prog 18 #[.int .i64 n, v] w fun e w' => e = .returned (.bool R) ∧ Grow w w' := by
  have hmm := @run_makeMap Try.prog
  obtain ⟨a, cap, rfl⟩ := hv.form
  have HV := Lib.hid hv
  clear hv
  have k1 : ¬ n < 1 := by omega
  have k2 : ¬ 128 < n := by omega
  have k3 : ¬ (4096 : Int) < l.length := by omega
  go_enter Try.func18, Try.ntmps18
  go_upto_block 0 with fail
  go_cut [] (fun wc => ∃ (T : K3 → C2 → Int), Hid (T = tL n l) ∧ Hid (∀ m ∈ l, fitsF m n = true) ∧ Hid (bdT T 8192) ∧ Hid (Grow w wc) ∧ Hid (MapT wc w.heap.size 8192 T))
  case first =>
    go_wp2_with fail
    go_loopw [29] (fun t29 wr => ∃ (i : Nat) (T : K3 → C2 → Int), t29 = .int .i64 i ∧ i ≤ l.length ∧ Hid (T = tL n (l.take i)) ∧ Hid (∀ m ∈ l.take i, fitsF m n = true) ∧ Hid (bdT T (2 * i)) ∧ Hid (Grow w wr) ∧ Hid (MapT wr w.heap.size (2 * i) T)) (fun i _ => l.length - (intOf i).toNat)
    case atStart =>
      exact ⟨0, fun _ _ => 0, rfl, Nat.zero_le _, by rw [List.take_zero]; rfl, by intro m hm; simp at hm, fun _ _ => by simp, by show Grow w _; (repeat (first | with_reducible exact Grow.refl _ | with_reducible refine Grow.alloc ?_ _ | with_reducible refine Grow.drew ?_ | with_reducible refine Grow.drewN ?_ _ | (with_reducible refine Grow.setCell ?_ ?hp _; (case hp => (simp; try omega))) | with_reducible refine Grow.trans ?_ (by assumption))), MapT.made w⟩
    case round =>
      obtain ⟨i, T, rfl, hi, hT, hfit, hbd, hgr, hmt⟩ := hrel
      by_cases hlt : i < l.length
      · obtain ⟨b, off, rfl, hbw, hat⟩ : ∃ b off, a = some ⟨b, off, none⟩ ∧ b < w.heap.size ∧ at4 (fun o => w.cell? ⟨b, o, none⟩) (off + i * 4) (l.getD i M2.zero) := by
          rcases HV.out with ⟨a', cap', e, e2⟩ | ⟨b, off, cap', e, hb, -, hc⟩
          · rw [e2] at hlt; simp at hlt
          · injection e with e1 _ _
            exact ⟨b, off, e1, hb, hc i hlt⟩
        have hc := hgr.out.cells
        obtain ⟨d1, d2, d3, d4⟩ := hat
        have d1 := (hc b _ hbw).trans d1
        have d2 := (hc b _ hbw).trans d2
        have d3 := (hc b _ hbw).trans d3
        have d4 := (hc b _ hbw).trans d4
        clear hc
        obtain ⟨m, hm⟩ : ∃ m, l.getD i M2.zero = m := ⟨_, rfl⟩
        rw [hm] at d1 d2 d3 d4
        have HM := Lib.hid hm
        clear hm
        have hli : (i : Int) < l.length := by omega
        have hi0 : (0 : Int) ≤ i := by omega
        have hmem : m ∈ l := by
          rw [← HM.out, List.getD_eq_getElem?_getD, List.getElem?_eq_getElem hlt]
          simp
        by_cases hft : fitsF m n = true
        · have hft2 := hft
          simp only [fitsF, Bool.and_eq_true, beq_iff_eq] at hft2
          obtain ⟨hok, hdet⟩ := hft2
          have HOK := Lib.hid hok
          have HDET := Lib.hid hdet
          have CLS := Lib.hid (fun w => classOf_any m n h1 h2 hok hdet w)
          have HFT := Lib.hid hft
          obtain ⟨k, hk⟩ : ∃ k, clsF m n = k := ⟨_, rfl⟩
          rw [hk] at CLS
          have HK := Lib.hid hk
          have HMEM := Lib.hid hmem
          clear hok hdet hk hmem
          go_upto_region 12 with (first
            | (go_at_call 29; with_reducible refine (fits_any m n _).mono ?_; rintro e w1 ⟨rfl, hb1⟩; have hz1 := hb1.size; (try simp at hz1); have hc1 := hb1.cells; have hf1 := hb1.frees; have zz1 : wr.heap.size < w1.heap.size := (by omega))
            | (go_at_call 30; with_reducible refine (CLS.out _).mono ?_; rintro e w2 ⟨rfl, hb2⟩; have hz2 := hb2.size; (try simp at hz2); have hc2 := hb2.cells; have hf2 := hb2.frees; have zz2 : wr.heap.size < w2.heap.size := (by omega)))
          have hB := hmt.out.lt
          have hG2 : Grow wr w2 := by (repeat (first | with_reducible exact Grow.refl _ | with_reducible refine Grow.alloc ?_ _ | with_reducible refine Grow.drew ?_ | with_reducible refine Grow.drewN ?_ _ | (with_reducible refine Grow.setCell ?_ ?hp _; (case hp => (simp; try omega))) | with_reducible refine Grow.trans ?_ (by assumption)))
          have c7 : C7 wr.heap.size w2.heap.size m k (w2.alloc (.cells #[.int .i64 k.a, .int .i64 k.b, .int .i64 k.d] 48)) := by
            refine ⟨?_, ?_, ?_, ?_, ?_, ?_, ?_⟩
            · rw [World.cell?_alloc_lt _ _ _ zz2, hc2 _ _ (by omega), hc1 _ _ (by simp)]; go_simp
            · rw [World.cell?_alloc_lt _ _ _ zz2, hc2 _ _ (by omega), hc1 _ _ (by simp)]; go_simp
            · rw [World.cell?_alloc_lt _ _ _ zz2, hc2 _ _ (by omega), hc1 _ _ (by simp)]; go_simp
            · rw [World.cell?_alloc_lt _ _ _ zz2, hc2 _ _ (by omega), hc1 _ _ (by simp)]; go_simp
            · go_simp
            · go_simp
            · go_simp
          have hm0 := (hmt.out.grow hG2).grow (by (repeat (first | with_reducible exact Grow.refl _ | with_reducible refine Grow.alloc ?_ _ | with_reducible refine Grow.drew ?_ | with_reducible refine Grow.drewN ?_ _ | (with_reducible refine Grow.setCell ?_ ?hp _; (case hp => (simp; try omega))) | with_reducible refine Grow.trans ?_ (by assumption))) : Grow w2 (w2.alloc (.cells #[.int .i64 k.a, .int .i64 k.b, .int .i64 k.d] 48)))
          have hg0 : Grow w (w2.alloc (.cells #[.int .i64 k.a, .int .i64 k.b, .int .i64 k.d] 48)) := (hgr.out.trans hG2).alloc _
          have hx0 : wr.heap.size < (w2.alloc (.cells #[.int .i64 k.a, .int .i64 k.b, .int .i64 k.d] 48)).heap.size := by simp; omega
          have hy0 : w2.heap.size < (w2.alloc (.cells #[.int .i64 k.a, .int .i64 k.b, .int .i64 k.d] 48)).heap.size := by simp
          generalize w2.alloc (.cells #[.int .i64 k.a, .int .i64 k.b, .int .i64 k.d] 48) = W at *
          have hBY : w.heap.size < w2.heap.size := by omega
          clear hb1 hb2 hc1 hc2 hf1 hf2 hz1 hz2 zz1 zz2 hG2 d1 d2 d3 d4 hft
          generalize hX : wr.heap.size = X at *
          generalize w2.heap.size = Y at *
          have HG0 := Lib.hid hg0
          have HM0 := Lib.hid hm0
          have HC7 := Lib.hid c7
          clear hg0 hm0 c7
          obtain ⟨c1, hc1⟩ : ∃ c, cuF m.a m.c = c := ⟨_, rfl⟩
          have hbc1 : c1.p.natAbs ≤ 1073741824 ∧ c1.q.natAbs ≤ 1073741824 := by
            obtain ⟨o1, o2, o3, o4⟩ := okM_iff.1 HOK.out
            rw [← hc1]; exact cu_bd o1 o3
          have hkc1 : inK k c1 := inK_of (by rw [← HK.out]; exact cls_bd h1 h2 HDET.out) hbc1
          have CU1 := Lib.hid (fun w => cusp_any k m.a m.c (okM_iff.1 HOK.out).1 (okM_iff.1 HOK.out).2.2.1 (fun h => by
            have hd := HDET.out
            rw [h.1, h.2] at hd
            simp at hd
            omega) w)
          rw [hc1] at CU1
          have Hc1 := Lib.hid hc1
          clear hc1
          obtain ⟨x1, hx1⟩ : ∃ x, T k c1 = x := ⟨_, rfl⟩
          have hxb1 := hbd.out k c1
          rw [hx1] at hxb1
          have HX1 := Lib.hid hx1
          clear hx1
          have yw1 : IntKind.i64.wrap (x1 + 1) = x1 + 1 := IntWalk.i64_in _ (by omega)
          clear hxb1
          go_cut [] (fun wc => C7 X Y m k wc ∧ X < wc.heap.size ∧ Y < wc.heap.size ∧ Hid (MapT wc w.heap.size (2 * i + 1) (addT T k c1 1)) ∧ Hid (bdT (addT T k c1 1) (2 * i + 1)) ∧ Hid (Grow w wc))
          case first =>
            have s0 := HC7.out
            go_region_held3 (fun w' => w'.cell? ⟨X, 0, none⟩ = some (.int .i64 m.a) ∧ w'.cell? ⟨X, 1, none⟩ = some (.int .i64 m.b) ∧ w'.cell? ⟨X, 2, none⟩ = some (.int .i64 m.c) ∧ w'.cell? ⟨X, 3, none⟩ = some (.int .i64 m.d) ∧ w'.cell? ⟨Y, 0, none⟩ = some (.int .i64 k.a) ∧ w'.cell? ⟨Y, 1, none⟩ = some (.int .i64 k.b) ∧ w'.cell? ⟨Y, 2, none⟩ = some (.int .i64 k.d))
              (first | exact s0 | exact s1 | exact s2 | exact s3)
              (first | (go_at_call 31; with_reducible refine (CU1.out _).mono ?_; rintro e w3 ⟨rfl, hb3⟩; have hb4 : Grow W w3 := (Grow.refl W).drew.trans hb3; clear hb3; have s1 := HC7.out.grow hx0 hy0 hb4; obtain ⟨sv, w4, w5, e1, e2, e3, e4, s2, s3, zx, zy, m5, b5, g5⟩ := count_steps (HM0.out.grow hb4) (HG0.out.trans hb4) s1 (Nat.lt_of_lt_of_le hx0 hb4.size) (Nat.lt_of_lt_of_le hy0 hb4.size) (by omega) (by omega) (by omega) hkc1 hbd.out (z := 1) (by decide) HX1.out rfl; clear hb4))
            all_goals (go_wp2; go_meet)
            all_goals exact ⟨s3, zx, zy, m5, b5, g5⟩
          case rest =>
            obtain ⟨c7, hx1, hy1, HM1, hbd1, HG1⟩ := hcut
            clear HX1 CU1 HM0 HG0 HC7 hx0 hy0 yw1
            obtain ⟨T1, hT1⟩ : ∃ T1, addT T k c1 1 = T1 := ⟨_, rfl⟩
            rw [hT1] at HM1 hbd1
            have HT1 := Lib.hid hT1
            have HC7 := Lib.hid c7
            clear hT1 c7
            obtain ⟨c2, hc2⟩ : ∃ c, cuF m.b m.d = c := ⟨_, rfl⟩
            have hbc2 : c2.p.natAbs ≤ 1073741824 ∧ c2.q.natAbs ≤ 1073741824 := by
              obtain ⟨o1, o2, o3, o4⟩ := okM_iff.1 HOK.out
              rw [← hc2]; exact cu_bd o2 o4
            have hkc2 : inK k c2 := inK_of (by rw [← HK.out]; exact cls_bd h1 h2 HDET.out) hbc2
            have CU2 := Lib.hid (fun w => cusp_any k m.b m.d (okM_iff.1 HOK.out).2.1 (okM_iff.1 HOK.out).2.2.2 (fun h => by
              have hd := HDET.out
              rw [h.1, h.2] at hd
              simp at hd
              omega) w)
            rw [hc2] at CU2
            have Hc2 := Lib.hid hc2
            clear hc2
            obtain ⟨x2, hx2⟩ : ∃ x, T1 k c2 = x := ⟨_, rfl⟩
            have hxb2 := hbd1.out k c2
            rw [hx2] at hxb2
            have HX2 := Lib.hid hx2
            clear hx2
            have yw2 : IntKind.i64.wrap (x2 - 1) = x2 - 1 := IntWalk.i64_in _ (by omega)
            clear hxb2
            have hTT : addT T1 k c2 (-1) = tL n (l.take (i + 1)) := by
              rw [take_snocM _ _ hlt, HM.out]
              unfold tL
              rw [List.foldl_append]
              show _ = stM n (tL n (l.take i)) m
              rw [← hT.out]
              unfold stM
              rw [HK.out, Hc1.out, Hc2.out, HT1.out]
            have hFF : ∀ m' ∈ l.take (i + 1), fitsF m' n = true := by
              intro m' hm'
              rw [take_snocM _ _ hlt, HM.out, List.mem_append, List.mem_singleton] at hm'
              rcases hm' with hm' | rfl
              · exact hfit.out m' hm'
              · exact HFT.out
            have HTT := Lib.hid hTT
            have HFF := Lib.hid hFF
            clear hTT hFF
            go_upto_region 13 with fail
            have s0 := HC7.out
            go_region_held3 (fun w' => w'.cell? ⟨X, 0, none⟩ = some (.int .i64 m.a) ∧ w'.cell? ⟨X, 1, none⟩ = some (.int .i64 m.b) ∧ w'.cell? ⟨X, 2, none⟩ = some (.int .i64 m.c) ∧ w'.cell? ⟨X, 3, none⟩ = some (.int .i64 m.d) ∧ w'.cell? ⟨Y, 0, none⟩ = some (.int .i64 k.a) ∧ w'.cell? ⟨Y, 1, none⟩ = some (.int .i64 k.b) ∧ w'.cell? ⟨Y, 2, none⟩ = some (.int .i64 k.d))
              (first | exact s0 | exact s1 | exact s2 | exact s3)
              (first | (go_at_call 31; with_reducible refine (CU2.out _).mono ?_; rintro e w3 ⟨rfl, hb3⟩; have hb4 : Grow wc w3 := (Grow.refl wc).drew.trans hb3; clear hb3; have s1 := HC7.out.grow hx1 hy1 hb4; obtain ⟨sv, w4, w5, e1, e2, e3, e4, s2, s3, zx, zy, m5, b5, g5⟩ := count_steps (HM1.out.grow hb4) (HG1.out.trans hb4) s1 (Nat.lt_of_lt_of_le hx1 hb4.size) (Nat.lt_of_lt_of_le hy1 hb4.size) (by omega) (by omega) (by omega) hkc2 hbd1.out (z := -1) (by decide) HX2.out (y := x2 - 1) (by omega); clear hb4))
            all_goals clear e1 e2 e3 e4 s1 s2 s3 zx zy
            all_goals go_wp2_with fail
            all_goals (go_roundw; (case measure => simp [intOf]; omega); (case rel => exact ⟨i + 1, _, by go_num, by omega, HTT.out, HFF.out, b5.out, g5.out, m5.out⟩))
        · have hft2 : fitsF m n = false := by simpa using hft
          have hR : R = false := by
            cases hR : R with
            | false => rfl
            | true => exact absurd ((HR.out.1 hR).1 m hmem) hft
          subst hR
          clear hft hmem HR
          go_wp2_with (go_at_call 29; with_reducible refine (fits_any m n _).mono ?_; rintro e w1 ⟨rfl, hb1⟩)
          have hgw := hgr.out
          go_ret
          exact ⟨rfl, by (repeat (first | with_reducible exact Grow.refl _ | with_reducible refine Grow.alloc ?_ _ | with_reducible refine Grow.drew ?_ | with_reducible refine Grow.drewN ?_ _ | (with_reducible refine Grow.setCell ?_ ?hp _; (case hp => (simp; try omega))) | with_reducible refine Grow.trans ?_ (by assumption)))⟩
      · have hil : i = l.length := by omega
        subst hil
        clear hlt hi
        go_wp2_with fail
        go_meet
        case rel =>
          have e1 := hT.out
          have e2 := hfit.out
          rw [List.take_length] at e1 e2
          exact ⟨T, e1, e2, fun k c => Nat.le_trans (hbd.out k c) (by omega), hgr.out, hmt.out.mono (by omega)⟩
  case rest =>
    obtain ⟨T, hT, hfit, hbd, hgr, hmt⟩ := hcut
    clear HV
    obtain ⟨TF, hTF⟩ : ∃ TF, tAll n l = TF := ⟨_, rfl⟩
    rw [hTF] at HR
    have hTF2 : tA 130 n 1 T = TF := by rw [hT.out]; exact hTF
    have HTF := Lib.hid hTF2
    clear hTF hTF2 hT
    go_upto_block 2 with fail
    go_cut [] (fun wc => Hid (Grow w wc) ∧ Hid (MapT wc w.heap.size 50000 TF))
    case first =>
      go_wp2_with fail
      go_loopg [10] 130 (fun f t10 wr => ∃ (a : Int) (N : Nat) (T : K3 → C2 → Int), t10 = .int .i64 a ∧ 1 ≤ a ∧ Hid (a + f = 131 ∧ a ≤ n + 1 ∧ (N : Int) = 7936 + 256 * a) ∧ Hid (tA f n a T = TF) ∧ Hid (bdT T N) ∧ Hid (Grow w wr) ∧ Hid (MapT wr w.heap.size N T))
      case atStart => exact ⟨1, 8192, T, rfl, by omega, Lib.hid (by omega), HTF.out, hbd.out, hgr.out, hmt.out⟩
      case round =>
        clear hgr hmt hbd HTF
        obtain ⟨a, N, T, rfl, ha1, haf, hT, hbd, hgr, hmt⟩ := hrel
        obtain ⟨g', hgk⟩ : ∃ g', gk = g' + 1 := ⟨gk - 1, by have := haf.out; omega⟩
        by_cases hle : a ≤ n
        · have k4 : ¬ a = 0 := by omega
          have k5 : (a == 0) = false := by simpa using k4
          have k6 : ¬ n < a := by omega
          obtain ⟨q, hq⟩ : ∃ q, n.tdiv a = q := ⟨_, rfl⟩
          obtain ⟨t, ht⟩ : ∃ t, n.tmod a = t := ⟨_, rfl⟩
          have hq0 : 0 ≤ q := by rw [← hq]; exact Int.tdiv_nonneg (by omega) (by omega)
          have hq1 : q ≤ 128 := by rw [← hq]; exact Int.le_trans (Int.tdiv_le_self _ (by omega)) h2
          have ht0 : 0 ≤ t := by rw [← ht]; exact Int.tmod_nonneg _ (by omega)
          have ht1 : t < a := by rw [← ht]; exact Int.tmod_lt_of_pos _ (by omega)
          have y1 : IntKind.i64.wrap q = q := IntWalk.i64_in _ (by omega)
          have y2 : IntKind.i64.wrap t = t := IntWalk.i64_in _ (by omega)
          by_cases hmod : t = 0
          · obtain ⟨TB, hTB⟩ : ∃ TB, tB 130 n a 0 T = TB := ⟨_, rfl⟩
            have hT2 : tA g' n (a + 1) TB = TF := by
              have h := hT.out
              rw [hgk] at h
              unfold tA at h
              rw [if_pos hle, ht, if_pos hmod, hTB] at h
              exact h
            have HT2 := Lib.hid hT2
            have HTB := Lib.hid hTB
            clear hTB hT2 hT
            subst hmod
            obtain ⟨wr0, hw0⟩ : ∃ x, x = wr := ⟨wr, rfl⟩
            subst hw0
            go_wp2_with fail
            go_loopg [11] 130 (fun f t11 wr => ∃ (b : Int) (N2 : Nat) (T : K3 → C2 → Int), t11 = .int .i64 b ∧ 0 ≤ b ∧ Hid (b + f = 130 ∧ b ≤ a ∧ (N2 : Int) = N + 2 * b) ∧ Hid (tB f n a b T = TB) ∧ Hid (bdT T N2) ∧ Hid (Grow w wr) ∧ Hid (MapT wr w.heap.size N2 T))
            case atStart => exact ⟨0, N, T, rfl, by omega, Lib.hid (by omega), HTB.out, hbd.out, hgr.out, hmt.out⟩
            case round =>
              clear hgr hmt hbd HTB
              obtain ⟨b, N2, T, rfl, hb0, hbf, hT, hbd, hgr, hmt⟩ := hrel
              obtain ⟨g2, hgk2⟩ : ∃ g2, gk = g2 + 1 := ⟨gk - 1, by have := hbf.out; have := haf.out; omega⟩
              by_cases hlt : b < a
              · obtain ⟨T1, hT1⟩ : ∃ T1, addT T ⟨a, b, q⟩ ⟨1, 0⟩ (-1) = T1 := ⟨_, rfl⟩
                obtain ⟨T2, hT2⟩ : ∃ T2, addT T1 ⟨a, b, q⟩ ⟨0, 1⟩ 1 = T2 := ⟨_, rfl⟩
                have hTn : tB g2 n a (b + 1) T2 = TB := by
                  have h := hT.out
                  rw [hgk2] at h
                  unfold tB at h
                  rw [if_pos hlt] at h
                  unfold stK at h
                  rw [hq, hT1, hT2] at h
                  exact h
                have HTn := Lib.hid hTn
                have HT1 := Lib.hid hT1
                have HT2' := Lib.hid hT2
                have hf := hbf.out
                have hf2 := haf.out
                have hN2 : N2 < 90000 := by omega
                have hin : ∀ c : C2, c.p.natAbs ≤ 1073741824 ∧ c.q.natAbs ≤ 1073741824 → inK ⟨a, b, q⟩ c := fun c hc => inK_of (by dsimp only; omega) hc
                have HIN := Lib.hid hin
                clear hTn hT1 hT2 hT hin
                go_upto_region 23 with fail
                have hB := hmt.out.lt
                have c3 : C3 wr.heap.size ⟨a, b, q⟩ (wr.alloc (.cells #[.int .i64 a, .int .i64 b, .int .i64 q] 48)) := by
                  refine ⟨?_, ?_, ?_⟩
                  · go_simp
                  · go_simp
                  · go_simp
                have hm0 := hmt.out.grow ((Grow.refl wr).alloc (.cells #[.int .i64 a, .int .i64 b, .int .i64 q] 48))
                have hg0 := hgr.out.alloc (.cells #[.int .i64 a, .int .i64 b, .int .i64 q] 48)
                have hy0 : wr.heap.size < (wr.alloc (.cells #[.int .i64 a, .int .i64 b, .int .i64 q] 48)).heap.size := by simp
                generalize wr.alloc (.cells #[.int .i64 a, .int .i64 b, .int .i64 q] 48) = W at *
                generalize wr.heap.size = Y at *
                have HC3 := Lib.hid c3
                obtain ⟨x1, hx1⟩ : ∃ x, T ⟨a, b, q⟩ ⟨1, 0⟩ = x := ⟨_, rfl⟩
                have hxb1 := hbd.out ⟨a, b, q⟩ ⟨1, 0⟩
                rw [hx1] at hxb1
                have yw1 : IntKind.i64.wrap (x1 - 1) = x1 - 1 := IntWalk.i64_in _ (by omega)
                obtain ⟨sv, w4, w5, e1, e2, e3, e4, s2, s3, zy, m5, b5, g5⟩ := count3 hm0 hg0 c3 hy0 hB (by omega) (HIN.out ⟨1, 0⟩ (by decide)) hbd.out (z := -1) (by decide) hx1 (y := x1 - 1) (by omega)
                rw [HT1.out] at m5 b5
                dsimp only at e1 e2 e3 e4
                clear c3 hm0 hg0 hx1 hxb1 hf hf2
                have HS2 := Lib.hid s2
                have HS3 := Lib.hid s3
                clear s2 s3
                go_cut [] (fun wc => Hid (C3 Y ⟨a, b, q⟩ wc) ∧ Y < wc.heap.size ∧ Hid (MapT wc w.heap.size (N2 + 1) T1) ∧ Hid (bdT T1 (N2 + 1)) ∧ Hid (Grow w wc))
                case first =>
                  have s1 := HC3.out
                  have s2 := HS2.out
                  have s3 := HS3.out
                  go_region_held3 (fun w' => w'.cell? ⟨Y, 0, none⟩ = some (.int .i64 a) ∧ w'.cell? ⟨Y, 1, none⟩ = some (.int .i64 b) ∧ w'.cell? ⟨Y, 2, none⟩ = some (.int .i64 q)) (first | exact s1 | exact s2 | exact s3) (fail)
                  all_goals (go_wp2; go_meet)
                  all_goals exact ⟨HS3.out, zy, m5.out, b5.out, g5.out⟩
                case rest =>
                  clear e1 e2 e3 e4 yw1 zy m5 b5 g5 HS2 HS3 HC3 hy0
                  obtain ⟨HC3, hy1, HM1, hbd1, HG1⟩ := hcut
                  obtain ⟨x2, hx2⟩ : ∃ x, T1 ⟨a, b, q⟩ ⟨0, 1⟩ = x := ⟨_, rfl⟩
                  have hxb2 := hbd1.out ⟨a, b, q⟩ ⟨0, 1⟩
                  rw [hx2] at hxb2
                  have yw2 : IntKind.i64.wrap (x2 + 1) = x2 + 1 := IntWalk.i64_in _ (by omega)
                  obtain ⟨sv2, w6, w7, e1, e2, e3, e4, s2, s3, zy, m5, b5, g5⟩ := count3 HM1.out HG1.out HC3.out hy1 hB (by omega) (HIN.out ⟨0, 1⟩ (by decide)) hbd1.out (z := 1) (by decide) hx2 (y := x2 + 1) rfl
                  rw [HT2'.out] at m5 b5
                  dsimp only at e1 e2 e3 e4
                  clear hx2 hxb2 zy
                  have HS2 := Lib.hid s2
                  have HS3 := Lib.hid s3
                  clear s2 s3
                  go_upto_region 24 with fail
                  have s1 := HC3.out
                  have s2 := HS2.out
                  have s3 := HS3.out
                  go_region_held3 (fun w' => w'.cell? ⟨Y, 0, none⟩ = some (.int .i64 a) ∧ w'.cell? ⟨Y, 1, none⟩ = some (.int .i64 b) ∧ w'.cell? ⟨Y, 2, none⟩ = some (.int .i64 q)) (first | exact s1 | exact s2 | exact s3) (fail)
                  all_goals clear e1 e2 e3 e4 s1 s2 s3 HC3 HS2 HS3
                  all_goals go_wp2_with fail
                  all_goals (go_roundg g2; (case measure => omega); (case rel => have hf := hbf.out; exact ⟨b + 1, N2 + 2, T2, rfl, by omega, Lib.hid (by omega), HTn.out, b5.out, g5.out, m5.out⟩))
              · have hbe : b = a := by have := hbf.out; omega
                have hTT : T = TB := by
                  have h := hT.out
                  rw [hgk2] at h
                  unfold tB at h
                  rw [if_neg hlt] at h
                  exact h
                subst hTT
                have HBE := Lib.hid hbe
                clear hbe hT
                go_wp2_with fail
                go_roundg g'
                case measure => omega
                case rel =>
                  have hf := haf.out
                  have hf2 := hbf.out
                  have hf3 := HBE.out
                  exact ⟨a + 1, N + 256, T, rfl, by omega, Lib.hid (by omega), HT2.out, fun k c => Nat.le_trans (hbd.out k c) (by omega), hgr.out, hmt.out.mono (by omega)⟩
          · have e1 : (t == 0) = false := by simpa using hmod
            have e2 : (t != 0) = true := by simpa using hmod
            have hT2 : tA g' n (a + 1) T = TF := by
              have h := hT.out
              rw [hgk] at h
              unfold tA at h
              rw [if_pos hle, ht, if_neg hmod] at h
              exact h
            have HT2 := Lib.hid hT2
            clear hT2 hT
            go_wp2_with fail
            go_roundg g'
            case measure => omega
            case rel =>
              have hf := haf.out
              exact ⟨a + 1, N + 256, T, rfl, by omega, Lib.hid (by omega), HT2.out, fun k c => Nat.le_trans (hbd.out k c) (by omega), hgr.out, hmt.out.mono (by omega)⟩
        · have hT2 : T = TF := by
            have h := hT.out
            rw [hgk] at h
            unfold tA at h
            rw [if_neg hle] at h
            exact h
          subst hT2
          go_wp2_with fail
          go_meet
          case rel =>
            have hf := haf.out
            exact ⟨hgr.out, hmt.out.mono (by omega)⟩
    case rest =>
      obtain ⟨hgr2, hmt2⟩ := hcut
      clear hbd hgr hmt HTF h3
      obtain ⟨D, hown, hD, hne⟩ := hmt2.out.data
      have HD := Lib.hid hD
      have HNE := Lib.hid hne
      clear hD hne
      have hB := hmt2.out.lt
      go_wp2_with (first | (at_range; refine wpList_range_own _ rfl _ 45 rfl 52 3 key52 Try.underlying45 _ w.heap.size 50000 D rfl hown ?_; intro w0 hrg0 hg0 hs0) | go_in)
      generalize wc.heap.size = r at *
      have HS0 := Lib.hid (seen_start HD.out)
      have hg1 : Grow w w0 := hgr2.out.grown hg0 (fun j hj => by simp at hj)
      go_loopw [14] (fun _ wr => ∃ (left : Lit → Bool) (cnt : Nat), wr.ranges Try.prog 52 (plainElem Try.prog 3) w.heap.size r 50000 D left cnt ∧ Hid (Seen TF left) ∧ Hid (Grow w wr)) (fun _ wr => wr.rangeLeft w.heap.size r)
      case atStart => exact ⟨_, _, hrg0, HS0.out, hg1⟩
      case round =>
        clear hrg0 HS0 hg1 hg0 hs0
        obtain ⟨left, cnt, hrg, hseen, hgr⟩ := hrel
        go_wp2_with (first | (at_next; refine wpList_next_ranges _ rfl _ rfl 52 key52 (plainElem Try.prog 3) (fun p : K3 × C2 => keyV p.1 p.2) (Value.int .i64) (fun key kl hkey => by obtain ⟨x, y, z, p, q, rfl, -⟩ := key_inv key kl hkey; exact ⟨(⟨x, y, z⟩, ⟨p, q⟩), rfl⟩) (fun v y hv => by obtain ⟨c, rfl, -⟩ := plainElem_int_inv Try.underlying3 hv; exact ⟨c, rfl⟩) w.heap.size r 50000 D _ _ rfl hrg ?_ ?_) | go_in)
        · intro _ hl0
          have hall : ∀ k c, TF k c = 0 := fun k c => by
            refine Classical.byContradiction fun h => ?_
            obtain ⟨kl, hk⟩ := HNE.out k c h
            exact h (hseen.out k c kl hk (hl0 kl))
          have hR : R = true := HR.out.2 ⟨hfit.out, hall⟩
          subst hR
          clear hall HR hl0
          have hgw := hgr.out
          go_wp2_with fail
          go_ret
          exact ⟨rfl, by (repeat (first | with_reducible exact Grow.refl _ | with_reducible refine Grow.alloc ?_ _ | with_reducible refine Grow.drew ?_ | with_reducible refine Grow.drewN ?_ _ | (with_reducible refine Grow.setCell ?_ ?hp _; (case hp => (simp; try omega))) | with_reducible refine Grow.trans ?_ (by assumption)))⟩
        · intro k c x kl y ps w1 cnt1 hkey hlk hv hat hrg1 hlt hg1 hs1 hen
          obtain ⟨x', ex, ey, -⟩ := plainElem_int_inv Try.underlying3 hv
          cases ex
          simp only [Prod.mk.injEq] at ey
          have hx : TF k c = x := by
            have h := HD.out k c kl hkey
            rw [hat, ey.1] at h
            injection h with h2
            injection h2 with _ h3
            exact h3.symm
          have hat0 := hat (.lit (.int .i64 0))
          rw [ey.1] at hat0
          have hg1' : Hid (Grow w w1) := hgr.out.grown hg1 (fun j hj => by have := Option.some.inj hj; omega)
          have HL1 := Lib.hid hrg1.left_eq
          have HL0 := Lib.hid hrg.left_eq
          have HRG := Lib.hid hrg1
          have HX := Lib.hid hx
          have HAT := Lib.hid hat0
          clear hkey hlk hv hat ey hrg1 hrg hg1 hs1 hx hat0
          by_cases hx0 : x = 0
          · subst hx0
            go_wp2_with fail
            go_roundw
            case measure => rw [HL1.out, HL0.out]; exact hlt
            case rel => exact ⟨_, _, HRG.out, seen_step HD.out hseen.out HAT.out, hg1'.out⟩
          · have e1 : (x == 0) = false := by simpa using hx0
            have e2 : (x != 0) = true := by simpa using hx0
            have hR : R = false := by
              cases hR : R with
              | false => rfl
              | true => exact absurd ((HR.out.1 hR).2 k c) (by rw [HX.out]; exact hx0)
            subst hR
            clear HR HX
            have hgw := hg1'.out
            go_wp2_with fail
            go_ret
            exact ⟨rfl, by (repeat (first | with_reducible exact Grow.refl _ | with_reducible refine Grow.alloc ?_ _ | with_reducible refine Grow.drew ?_ | with_reducible refine Grow.drewN ?_ _ | (with_reducible refine Grow.setCell ?_ ?hp _; (case hp => (simp; try omega))) | with_reducible refine Grow.trans ?_ (by assumption)))⟩

theorem sat_out (n : Int) (l : List M2) (v : Value) (hl : l.length ≤ 1152921504606846976) (h : n < 1 ∨ 128 < n ∨ 4096 < l.length) (w : World) (hv : RdMats w v l) :
    Calls Try.prog 18 #[.int .i64 n, v] w fun e w' => e = .returned (.bool false) ∧ Grow w w' := by
  obtain ⟨a, cap, rfl⟩ := hv.form
  clear hv
  by_cases h1 : n < 1
  · go_enter Try.func18, Try.ntmps18
    go_wp2_with fail
    go_ret
    exact ⟨rfl, by (repeat (first | with_reducible exact Grow.refl _ | with_reducible refine Grow.alloc ?_ _ | with_reducible refine Grow.drew ?_ | with_reducible refine Grow.drewN ?_ _ | (with_reducible refine Grow.setCell ?_ ?hp _; (case hp => (simp; try omega))) | with_reducible refine Grow.trans ?_ (by assumption)))⟩
  · by_cases h2 : 128 < n
    · go_enter Try.func18, Try.ntmps18
      go_wp2_with fail
      go_ret
      exact ⟨rfl, by (repeat (first | with_reducible exact Grow.refl _ | with_reducible refine Grow.alloc ?_ _ | with_reducible refine Grow.drew ?_ | with_reducible refine Grow.drewN ?_ _ | (with_reducible refine Grow.setCell ?_ ?hp _; (case hp => (simp; try omega))) | with_reducible refine Grow.trans ?_ (by assumption)))⟩
    · have h3 : (4096 : Int) < l.length := by omega
      go_enter Try.func18, Try.ntmps18
      go_wp2_with fail
      go_ret
      exact ⟨rfl, by (repeat (first | with_reducible exact Grow.refl _ | with_reducible refine Grow.alloc ?_ _ | with_reducible refine Grow.drew ?_ | with_reducible refine Grow.drewN ?_ _ | (with_reducible refine Grow.setCell ?_ ?hp _; (case hp => (simp; try omega))) | with_reducible refine Grow.trans ?_ (by assumption)))⟩
theorem satisfies_any (n : Int) (l : List M2) (v : Value) (hl : l.length ≤ 1152921504606846976) (R : Bool) (HR : R = true ↔ SatP n l) (w : World) (hv : RdMats w v l) :
    Calls Try.prog 18 #[.int .i64 n, v] w fun e w' => e = .returned (.bool R) ∧ Grow w w' := by
  by_cases h : 1 ≤ n ∧ n ≤ 128 ∧ l.length ≤ 4096
  · exact sat_in n l v h.1 h.2.1 h.2.2 R w hv (HR.trans ⟨fun x => x.2, fun x => ⟨h, x⟩⟩)
  · have hR : R = false := by
      cases hR : R with
      | false => rfl
      | true => exact absurd (HR.1 hR).1 h
    subst hR
    exact sat_out n l v hl (by omega) w hv
end Go.Proofs.Ytalidpojcpmcbaa
