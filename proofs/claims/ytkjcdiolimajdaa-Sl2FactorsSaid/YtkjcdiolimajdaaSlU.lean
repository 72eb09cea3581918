/- Walk: Value of the reference. -/
import Derived.Test.YtkjcdiolimajdaaSlV
namespace Go.Proofs.Ytkjcdiolimajdaa
open Go.RowKit

theorem refValue_none (ng : Bool) (a : Option Addr) (cap : Nat) (w : World) :
    Calls Try.prog 33 #[.agg #[.bool ng, .slice a 0 cap]] w fun e w' => e = .returned (.tuple #[.agg #[.int .i64 0, .int .i64 0, .int .i64 0, .int .i64 0], .int .i64 3]) ∧ Grow w w' := by
  go_enter Try.func33, Try.ntmps33
  go_wp2_with fail
  exact bodyPost_ret (v := .tuple #[.agg #[.int .i64 0, .int .i64 0, .int .i64 0, .int .i64 0], .int .i64 3]) (by simp only [results, Try.results33]; go_simp) rfl ⟨rfl, by (repeat (first | with_reducible exact Grow.refl _ | with_reducible refine Grow.alloc ?_ _ | with_reducible refine Grow.drew ?_ | with_reducible refine Grow.drewN ?_ _ | (with_reducible refine Grow.setCell ?_ ?hp _; (case hp => (simp; try omega))) | with_reducible refine Grow.trans ?_ (by assumption)))⟩
theorem refValue_long (ng : Bool) (a : Option Addr) (n cap : Nat) (h : 200 < n) (hn : n ≤ 1152921504606846976) (w : World) :
    Calls Try.prog 33 #[.agg #[.bool ng, .slice a n cap]] w fun e w' => e = .returned (.tuple #[.agg #[.int .i64 0, .int .i64 0, .int .i64 0, .int .i64 0], .int .i64 2]) ∧ Grow w w' := by
  have h1 : ((n : Int) == 0) = false := by simp; omega
  have h2 : (200 : Int) < n := by omega
  go_enter Try.func33, Try.ntmps33
  go_wp2_with fail
  exact bodyPost_ret (v := .tuple #[.agg #[.int .i64 0, .int .i64 0, .int .i64 0, .int .i64 0], .int .i64 2]) (by simp only [results, Try.results33]; go_simp) rfl ⟨rfl, by (repeat (first | with_reducible exact Grow.refl _ | with_reducible refine Grow.alloc ?_ _ | with_reducible refine Grow.drew ?_ | with_reducible refine Grow.drewN ?_ _ | (with_reducible refine Grow.setCell ?_ ?hp _; (case hp => (simp; try omega))) | with_reducible refine Grow.trans ?_ (by assumption)))⟩

set_option maxHeartbeats 1500000 in
theorem refValue_core (ng : Bool) (l : List Int) (b off cap n : Nat) (hn : Hid (l.length = n)) (h0 : n ≠ 0) (h2 : n ≤ 200) (r : M2) (er : Int) (HR : Hid (valF ⟨ng, l⟩ = (r, er))) (w : World) (hb : b < w.heap.size)
    (HC : Hid (∀ j, j < l.length → w.cell? ⟨b, off + j, none⟩ = some (.int .i64 (l.getD j 0)))) :
    Calls Try.prog 33 #[.agg #[.bool ng, .slice (some ⟨b, off, none⟩) n cap]] w fun e w' => e = .returned (.tuple #[.agg #[.int .i64 r.a, .int .i64 r.b, .int .i64 r.c, .int .i64 r.d], .int .i64 er]) ∧ Grow w w' := by
  have g1 : ((n : Int) == 0) = false := by simp; omega
  have g2 : ¬ (200 : Int) < n := by omega
  have g3 : (n : Int) ≤ 200 := by omega
  have b1 : b < w.heap.size + 1 := by omega
  have b2 : b < w.heap.size + 2 := by omega
  have b3 : b ≤ w.heap.size := by omega
  have b4 : b ≤ w.heap.size + 1 := by omega
  have b5 : b < w.heap.size + 3 := by omega
  go_enter Try.func33, Try.ntmps33
  go_wp2_with fail
  go_loop [4] (fun i => ∃ k : Nat, k ≤ n ∧ i = .int .i64 k ∧ Hid ((l.take k).all inB = true)) (fun i => n - (intOf i).toNat)
  case atStart => exact ⟨0, Nat.zero_le _, rfl, rfl⟩
  case round =>
    obtain ⟨k, hk, rfl, hall⟩ := hrel
    by_cases hlt : k < n
    · have hkl : k < l.length := by have := hn.out; omega
      have d1 := HC.out k hkl
      have ha := all_snoc l k hkl
      have hnot := all_not l k hkl
      have HA := Lib.hid ha
      have HNO := Lib.hid hnot
      clear ha hnot hkl
      have hk1 : (k : Int) < n := by omega
      have hk0 : (0 : Int) ≤ k := by omega
      generalize l.getD k 0 = x at *
      by_cases hx : inB x = true
      · go_wp2_with (go_at_call 39; refine (refIn_any _ _).mono ?_; rintro e w1 ⟨rfl, rfl⟩)
        go_round
        case rel => exact ⟨k + 1, by omega, by go_num, by have h := HA.out; rw [hall.out, hx] at h; exact h⟩
        case measure => simp [intOf]; omega
      · have hx' : inB x = false := eq_false_of_ne_true hx
        have hv : (r, er) = (M2.zero, 2) := by
          rw [← HR.out]
          have h3 := HNO.out hx'
          have h4 := hn.out
          unfold valF; rw [if_neg (by simp only; omega), if_neg (by simp only; omega), if_neg (by simp only [h3]; exact Bool.false_ne_true)]
        obtain ⟨rfl, rfl⟩ := Prod.mk.inj hv
        clear hv hx
        go_wp2_with (go_at_call 39; refine (refIn_any _ _).mono ?_; rintro e w1 ⟨rfl, rfl⟩)
        exact bodyPost_ret (v := .tuple #[.agg #[.int .i64 0, .int .i64 0, .int .i64 0, .int .i64 0], .int .i64 2]) (by simp only [results, Try.results33]; go_simp) rfl ⟨rfl, by (repeat (first | with_reducible exact Grow.refl _ | with_reducible refine Grow.alloc ?_ _ | with_reducible refine Grow.drew ?_ | with_reducible refine Grow.drewN ?_ _ | (with_reducible refine Grow.setCell ?_ ?hp _; (case hp => (simp; try omega))) | with_reducible refine Grow.trans ?_ (by assumption)))⟩
    · have hall2 : l.all inB = true := by
        have h3 := hall.out
        rwa [List.take_of_length_le (by have := hn.out; omega)] at h3
      have hV := valF_at (ng := ng) (by have := hn.out; omega) (by have := hn.out; omega) hall2
      rw [HR.out] at hV
      have HV := Lib.hid hV
      have HAL := Lib.hid hall2
      clear hV hall2 hall HR
      obtain ⟨R, hR⟩ : ∃ R, valR true M2.one l = R := ⟨_, rfl⟩
      rw [hR] at HV
      have HRR := Lib.hid hR
      clear hR
      go_wp2_with fail
      (go_at_call 50; refine (refOne_any _).mono ?_; rintro e w3 ⟨rfl, hb3⟩; have hc3 := hb3.cells; have hf3 := hb3.frees; have hz3 := hb3.size; (try simp at hz3))
      have zw3_0 : w.heap.size < w3.heap.size := (by omega); have zw3_1 : w.heap.size + 1 < w3.heap.size := (by omega)
      have d3 : b < w3.heap.size := by omega
      have HC3 : Hid (∀ j, j < l.length → w3.cell? ⟨b, off + j, none⟩ = some (.int .i64 (l.getD j 0))) := fun j hj => (hb3.cells b _ (by simp; omega)).trans (by rw [World.cell?_alloc_past _ _ _ (by simp; omega), World.cell?_alloc_past _ _ _ hb]; exact HC.out j hj)
      have hG3 : Grow w w3 := Grow.trans (Grow.alloc (Grow.alloc (Grow.refl _) _) _) hb3
      have HG3 := Lib.hid hG3
      clear hG3
      go_wp2_with fail
      go_loopg [6] n (fun k i wr => ∃ (j : Nat) (m : M2), i = .int .i64 j ∧ Hid (m.fits = true ∧ j + k = n ∧ valR (decide (j = 0)) m (l.drop j) = R) ∧ ValMem w.heap.size w3.heap.size w3 ng (.slice (some ⟨b, off, none⟩) n cap) m wr)
      case atStart =>
        refine ⟨0, M2.one, rfl, ⟨one_fits, by omega, HRR.out⟩, ?_, ?_, ?_, ?_, ?_, ?_, ?_, ?_, ?_, ?_, ?_, ?_, ?_, ?_⟩
        all_goals try simp only [M2.one]
        all_goals try (first | (go_simp; done) | (intro o; go_simp; done))
        all_goals (repeat (first | with_reducible exact Grow.refl _ | with_reducible refine Grow.alloc ?_ _ | with_reducible refine Grow.drew ?_ | with_reducible refine Grow.drewN ?_ _ | (with_reducible refine Grow.setCell ?_ ?hp _; (case hp => (simp; try omega))) | with_reducible refine Grow.trans ?_ (by assumption)))
      case round =>
        obtain ⟨j, m, rfl, hm, s0, s1, f1, f2, r0, r1, r2, r3, m0, m1, m2, m3, hg, hB⟩ := hrel
        have HG := Lib.hid hg
        clear hb3 hc3 hf3
        have z1 : w.heap.size < wr.heap.size := by omega
        have z2 : w.heap.size + 1 < wr.heap.size := by omega
        have hjk : j + gk ≤ n := by have := hm.out.2.1; omega
        have hjk2 : n ≤ j + gk := by have := hm.out.2.1; omega
        by_cases hlt2 : j < n
        · have hjl : j < l.length := by have := hn.out; omega
          have d1 := (hg.cells b (off + j) d3).trans (HC3.out j hjl)
          have d4 : b < wr.heap.size := by have := hg.size; omega
          have hxin : inB (l.getD j 0) = true := by rw [getD_lt hjl]; exact List.all_eq_true.1 HAL.out _ (List.getElem_mem hjl)
          have hdrop := drop_cons l j hjl
          have hval := hm.out.2.2
          rw [hdrop] at hval
          have HVL := Lib.hid hval
          clear hval
          obtain ⟨fa, fb, fc, fd⟩ := fitsB_iff.1 hm.out.1
          have hts := timesS_fits hm.out.1
          have HJL := Lib.hid hjl
          clear hdrop hg hjl
          have hj1 : (j : Int) < n := by omega
          have hj0 : (0 : Int) ≤ j := by omega
          obtain ⟨x, hx⟩ : ∃ x, l.getD j 0 = x := ⟨_, rfl⟩
          have HX := Lib.hid hx
          rw [hx] at d1 hxin HVL
          clear hx
          obtain ⟨ba, ba'⟩ := inB_iff.1 fa
          obtain ⟨bb, bb'⟩ := inB_iff.1 fb
          obtain ⟨bc, bc'⟩ := inB_iff.1 fc
          obtain ⟨bd, bd'⟩ := inB_iff.1 fd
          clear fa fb fc fd
          obtain ⟨M1, hM1⟩ : ∃ M1, (if decide (j = 0) = true then m else m.timesS) = M1 := ⟨_, rfl⟩
          have hfM : M1.fits = true := by rw [← hM1]; split; exact hm.out.1; exact hts
          have HVM : Hid (valR (decide (j = 0)) m (x :: l.drop (j + 1)) = R ∧ (if decide (j = 0) = true then m else m.timesS) = M1 ∧ M1.fits = true) := ⟨HVL.out, hM1, hfM⟩
          clear HVL hts hfM
          go_upto_if 41 with (fail)
          go_cut [] (fun wc => ValMem w.heap.size w3.heap.size w3 ng (.slice (some ⟨b, off, none⟩) n cap) M1 wc)
          case first =>
            by_cases hj : j = 0
            · have hMm : m = M1 := by rw [← hM1, if_pos (by simp [hj])]
              clear hM1
              subst hMm
              have HJ := Lib.hid hj
              clear hj
              have hj : (j : Int) ≤ 0 := by have := HJ.out; omega
              go_wp2
              go_meet
              case rel =>
                refine ⟨?_, ?_, ?_, ?_, ?_, ?_, ?_, ?_, ?_, ?_, ?_, ?_, ?_, ?_⟩
                all_goals try (first | (go_simp; done) | (intro o; go_simp; done))
                all_goals (have hg := HG.out)
                all_goals (repeat (first | with_reducible exact Grow.refl _ | with_reducible refine Grow.alloc ?_ _ | with_reducible refine Grow.drew ?_ | with_reducible refine Grow.drewN ?_ _ | (with_reducible refine Grow.setCell ?_ ?hp _; (case hp => (simp; try omega))) | with_reducible refine Grow.trans ?_ (by assumption)))
            · have hMm : m.timesS = M1 := by rw [← hM1, if_neg (by simp [hj])]
              clear hM1
              subst hMm
              have kS : Hid (∀ w, Calls Try.prog 46 #[.agg #[.int .i64 m.a, .int .i64 m.b, .int .i64 m.c, .int .i64 m.d], .agg #[.int .i64 0, .int .i64 (-1), .int .i64 1, .int .i64 0]] w fun e w' => e = .returned (.agg #[.int .i64 m.timesS.a, .int .i64 m.timesS.b, .int .i64 m.timesS.c, .int .i64 m.timesS.d]) ∧ Grow w w') := by
                intro w
                have h := refTimes_any m ⟨0, -1, 1, 0⟩ hm.out.1 (by decide) w
                rw [show m.times ⟨0, -1, 1, 0⟩ = m.timesS by simp [M2.times, M2.timesS]] at h
                exact h
              have hj : (0 : Int) < j := by omega
              go_wp2
              refine region_grow_tail 3 (by kernel_rfl) (by kernel_rfl) ?_
              intro X F hF
              have hFc := hF.cells
              haveI hFn := hF.ne
              simp only [List.take_succ_cons, List.take_zero, List.drop_succ_cons, List.drop_zero]
              repeat (go_big_quiet_step ((first | (go_at_call 48; with_reducible exact hF.call (refS_any _)) | (go_at_call 46; with_reducible exact hF.call (kS.out _)))))
              refine wpQuiet_nil ?_
              rintro _ ⟨x9, rfl⟩
              have hb7 := hF.grow x9
              clear hFc hFn hF
              generalize F x9 = w7 at *
              have hc7 := hb7.cells
              have hf7 := hb7.frees
              have hz7 := hb7.size
              (try simp at hz7)
              have v1 : w.heap.size < w7.heap.size := by omega
              have v2 : w.heap.size + 1 < w7.heap.size := by omega
              have v3 : w3.heap.size < w7.heap.size := by omega
              go_wp2
              go_meet
              case rel =>
                refine ⟨?_, ?_, ?_, ?_, ?_, ?_, ?_, ?_, ?_, ?_, ?_, ?_, ?_, ?_⟩
                all_goals try (first | (go_simp; done) | (intro o; go_simp; done))
                all_goals (have hg := HG.out)
                all_goals (repeat (first | with_reducible exact Grow.refl _ | with_reducible refine Grow.alloc ?_ _ | with_reducible refine Grow.drew ?_ | with_reducible refine Grow.drewN ?_ _ | (with_reducible refine Grow.setCell ?_ ?hp _; (case hp => (simp; try omega))) | with_reducible refine Grow.trans ?_ (by assumption)))
          case rest =>
            clear s0 s1 f1 f2 r0 r1 r2 r3 m0 m1 m2 m3 hB z1 z2 hM1 d1 HG
            obtain ⟨s0, s1, f1, f2, r0, r1, r2, r3, m0, m1, m2, m3, hg, hB⟩ := hcut
            have HG := Lib.hid hg
            have z1 : w.heap.size < wc.heap.size := by omega
            have z2 : w.heap.size + 1 < wc.heap.size := by omega
            have d5 : b < wc.heap.size := by have := hg.size; omega
            have dc := (hg.cells b (off + j) d3).trans (HC3.out j HJL.out)
            rw [HX.out] at dc
            obtain ⟨fa, fb, fc, fd⟩ := fitsB_iff.1 HVM.out.2.2
            obtain ⟨xa, xa'⟩ := mul_in fa hxin
            obtain ⟨xc, xc'⟩ := mul_in fc hxin
            obtain ⟨bb, bb'⟩ := inB_iff.1 fb
            obtain ⟨bd, bd'⟩ := inB_iff.1 fd
            clear fa fb fc fd ba ba' bc bc' hg
            have y1 : IntKind.i64.wrap (M1.a * x) = M1.a * x := IntWalk.i64_in _ (by omega)
            have y2 : IntKind.i64.wrap (M1.b + M1.a * x) = M1.b + M1.a * x := IntWalk.i64_in _ (by omega)
            have y3 : IntKind.i64.wrap (M1.c * x) = M1.c * x := IntWalk.i64_in _ (by omega)
            have y4 : IntKind.i64.wrap (M1.d + M1.c * x) = M1.d + M1.c * x := IntWalk.i64_in _ (by omega)
            have kT : Hid (∀ w, Calls Try.prog 46 #[.agg #[.int .i64 M1.a, .int .i64 M1.b, .int .i64 M1.c, .int .i64 M1.d], .agg #[.int .i64 1, .int .i64 x, .int .i64 0, .int .i64 1]] w fun e w' => e = .returned (.agg #[.int .i64 (M1.timesT x).a, .int .i64 (M1.timesT x).b, .int .i64 (M1.timesT x).c, .int .i64 (M1.timesT x).d]) ∧ Grow w w') := by
              intro w
              have h := refTimes_any M1 ⟨1, x, 0, 1⟩ HVM.out.2.2 (fitsB_iff.2 ⟨(by decide : inB 1 = true), hxin, (by decide : inB 0 = true), (by decide : inB 1 = true)⟩) w
              rw [show M1.times ⟨1, x, 0, 1⟩ = M1.timesT x by simp [M2.times, M2.timesT]; omega] at h
              exact h
            have hTd : (M1.timesT x).fits = fitsB (M1.timesT x).a (M1.timesT x).b (M1.timesT x).c (M1.timesT x).d := rfl
            have HTD := Lib.hid hTd
            clear hTd y1 y2 y3 y4 xa xa' xc xc'
            generalize hU : M1.timesT x = U at *
            have HU := Lib.hid hU
            clear hU
            by_cases hf : fitsB U.a U.b U.c U.d = true
            · skip
              go_wp2
              refine region_grow_tail 8 (by kernel_rfl) (by kernel_rfl) ?_
              intro X F hF
              have hFc := hF.cells
              haveI hFn := hF.ne
              simp only [List.take_succ_cons, List.take_zero, List.drop_succ_cons, List.drop_zero]
              repeat (go_big_quiet_step ((first | (go_at_call 49; with_reducible exact hF.call (refT_any _ _)) | (go_at_call 46; with_reducible exact hF.call (kT.out _)))))
              refine wpQuiet_nil ?_
              rintro _ ⟨x9, rfl⟩
              have hb8 := hF.grow x9
              clear hFc hFn hF
              generalize F x9 = w8 at *
              have hc8 := hb8.cells
              have hf8 := hb8.frees
              have hz8 := hb8.size
              (try simp at hz8)
              have u1 : w.heap.size < w8.heap.size := by omega
              have u2 : w.heap.size + 1 < w8.heap.size := by omega
              have u3 : w3.heap.size < w8.heap.size := by omega
              go_wp2_with fail
              (go_at_call 45; refine (refFits_any _ _ _ _ _).mono ?_; rintro e w5 ⟨rfl, hb5⟩; have hc5 := hb5.cells; have hf5 := hb5.frees; have hz5 := hb5.size; (try simp at hz5))
              have v1 : w.heap.size < w5.heap.size := by (try simp [World.setCell] at hz5); omega
              have v2 : w.heap.size + 1 < w5.heap.size := by (try simp [World.setCell] at hz5); omega
              have v3 : w3.heap.size < w5.heap.size := by (try simp [World.setCell] at hz5); omega
              go_wp2_with fail
              obtain ⟨g', hgk⟩ : ∃ g', gk = g' + 1 := ⟨gk - 1, by omega⟩
              go_roundg g'
              case measure => omega
              case rel =>
                refine ⟨j + 1, U, by go_num, ⟨HTD.out.trans hf, by omega, ?_⟩, ?_, ?_, ?_, ?_, ?_, ?_, ?_, ?_, ?_, ?_, ?_, ?_, ?_, ?_⟩
                · have h3 := HVM.out.1
                  simp only [valR] at h3
                  rw [HVM.out.2.1, HU.out] at h3
                  rw [if_pos (HTD.out.trans hf)] at h3
                  simpa using h3
                all_goals clear hm
                all_goals skip
                all_goals try (first | (go_simp; done) | (intro o; go_simp; done))
                have hg := HG.out
                have hb5' := hb5
                all_goals (repeat (first | with_reducible exact Grow.refl _ | with_reducible refine Grow.alloc ?_ _ | with_reducible refine Grow.drew ?_ | with_reducible refine Grow.drewN ?_ _ | (with_reducible refine Grow.setCell ?_ ?hp _; (case hp => (simp; try omega))) | with_reducible refine Grow.trans ?_ (by assumption)))
            · have hf' : fitsB U.a U.b U.c U.d = false := eq_false_of_ne_true hf
              have hnone : none = R := by
                have h3 := HVM.out.1
                simp only [valR] at h3
                rw [HVM.out.2.1, HU.out] at h3
                rw [if_neg (fun h => hf (HTD.out.symm.trans h))] at h3
                exact h3
              have hv : (r, er) = (M2.zero, 7) := by have h3 := HV.out; rw [← hnone] at h3; exact h3
              obtain ⟨rfl, rfl⟩ := Prod.mk.inj hv
              clear hv hnone hm hf
              go_wp2
              refine region_grow_tail 8 (by kernel_rfl) (by kernel_rfl) ?_
              intro X F hF
              have hFc := hF.cells
              haveI hFn := hF.ne
              simp only [List.take_succ_cons, List.take_zero, List.drop_succ_cons, List.drop_zero]
              repeat (go_big_quiet_step ((first | (go_at_call 49; with_reducible exact hF.call (refT_any _ _)) | (go_at_call 46; with_reducible exact hF.call (kT.out _)))))
              refine wpQuiet_nil ?_
              rintro _ ⟨x9, rfl⟩
              have hb8 := hF.grow x9
              clear hFc hFn hF
              generalize F x9 = w8 at *
              have hc8 := hb8.cells
              have hf8 := hb8.frees
              have hz8 := hb8.size
              (try simp at hz8)
              have u1 : w.heap.size < w8.heap.size := by omega
              have u2 : w.heap.size + 1 < w8.heap.size := by omega
              have u3 : w3.heap.size < w8.heap.size := by omega
              go_wp2_with fail
              (go_at_call 45; refine (refFits_any _ _ _ _ _).mono ?_; rintro e w5 ⟨rfl, hb5⟩; have hc5 := hb5.cells; have hf5 := hb5.frees; have hz5 := hb5.size; (try simp at hz5))
              have v1 : w.heap.size < w5.heap.size := by (try simp [World.setCell] at hz5); omega
              have v2 : w.heap.size + 1 < w5.heap.size := by (try simp [World.setCell] at hz5); omega
              have v3 : w3.heap.size < w5.heap.size := by (try simp [World.setCell] at hz5); omega
              go_wp2_with fail
              have hg := Grow.trans HG3.out HG.out
              exact bodyPost_ret (v := .tuple #[.agg #[.int .i64 0, .int .i64 0, .int .i64 0, .int .i64 0], .int .i64 7]) (by simp only [results, Try.results33]; go_simp) rfl ⟨rfl, by (repeat (first | with_reducible exact Grow.refl _ | with_reducible refine Grow.alloc ?_ _ | with_reducible refine Grow.drew ?_ | with_reducible refine Grow.drewN ?_ _ | (with_reducible refine Grow.setCell ?_ ?hp _; (case hp => (simp; try omega))) | with_reducible refine Grow.trans ?_ (by assumption)))⟩
        · have hjn : j = n := by omega
          have hfin : some m = R := by
            have h3 := hm.out.2.2
            rw [List.drop_of_length_le (by have := hn.out; omega)] at h3
            simpa [valR] using h3
          obtain ⟨⟨b1', b2'⟩, ⟨b3', b4'⟩, ⟨b5', b6'⟩, b7', b8'⟩ := fits_bd hm.out.1
          have hv : (r, er) = (if ng = true then m.minus else m, 0) := by
            have h3 := HV.out
            rw [← hfin] at h3
            exact h3
          clear hfin hjk hjk2 hg
          subst hjn
          obtain ⟨hv1, rfl⟩ := Prod.mk.inj hv
          clear hv
          cases ng with
          | true =>
            have hr : r = m.minus := by simpa using hv1
            clear hv1
            subst hr
            have kM := Lib.hid (fun w => refMinus_any m hm.out.1 w)
            clear hm b1' b2' b3' b4' b5' b6' b7' b8'
            go_wp2_with fail
            (go_at_call 51; refine (kM.out _).mono ?_; rintro e w6 ⟨rfl, hb6⟩; have hc6 := hb6.cells; have hf6 := hb6.frees; have hz6 := hb6.size; (try simp at hz6))
            have v1 : w.heap.size < w6.heap.size := by omega
            have v2 : w.heap.size + 1 < w6.heap.size := by omega
            have v3 : w3.heap.size < w6.heap.size := by omega
            go_wp2
            refine bodyPost_ret (v := .tuple #[.agg #[.int .i64 (-m.a), .int .i64 (-m.b), .int .i64 (-m.c), .int .i64 (-m.d)], .int .i64 0]) (by simp only [results, Try.results33]; go_simp) rfl ⟨rfl, ?_⟩
            have hg := Grow.trans HG3.out HG.out
            (repeat (first | with_reducible exact Grow.refl _ | with_reducible refine Grow.alloc ?_ _ | with_reducible refine Grow.drew ?_ | with_reducible refine Grow.drewN ?_ _ | (with_reducible refine Grow.setCell ?_ ?hp _; (case hp => (simp; try omega))) | with_reducible refine Grow.trans ?_ (by assumption)))
          | false =>
            have hr : r = m := by simpa using hv1
            clear hv1
            subst hr
            go_wp2
            refine bodyPost_ret (v := .tuple #[.agg #[.int .i64 r.a, .int .i64 r.b, .int .i64 r.c, .int .i64 r.d], .int .i64 0]) (by simp only [results, Try.results33]; go_simp) rfl ⟨rfl, ?_⟩
            have hg := Grow.trans HG3.out HG.out
            (repeat (first | with_reducible exact Grow.refl _ | with_reducible refine Grow.alloc ?_ _ | with_reducible refine Grow.drew ?_ | with_reducible refine Grow.drewN ?_ _ | (with_reducible refine Grow.setCell ?_ ?hp _; (case hp => (simp; try omega))) | with_reducible refine Grow.trans ?_ (by assumption)))

theorem refValue_any (ng : Bool) (l : List Int) (v : Value) (hl : l.length ≤ 1152921504606846976) (w : World) (hv : RdInts w v l) :
    Calls Try.prog 33 #[.agg #[.bool ng, v]] w fun e w' => e = .returned (.tuple #[.agg #[.int .i64 (valF ⟨ng, l⟩).1.a, .int .i64 (valF ⟨ng, l⟩).1.b, .int .i64 (valF ⟨ng, l⟩).1.c, .int .i64 (valF ⟨ng, l⟩).1.d], .int .i64 (valF ⟨ng, l⟩).2]) ∧ Grow w w' := by
  by_cases h0 : l.length = 0
  · obtain ⟨a, cap, rfl⟩ := hv.form
    have e : valF ⟨ng, l⟩ = (M2.zero, 3) := by unfold valF; rw [if_pos h0]
    rw [e, h0]
    exact refValue_none ng a cap w
  · by_cases h2 : 200 < l.length
    · obtain ⟨a, cap, rfl⟩ := hv.form
      have e : valF ⟨ng, l⟩ = (M2.zero, 2) := by unfold valF; rw [if_neg h0, if_pos h2]
      rw [e]
      exact refValue_long ng a _ cap h2 hl w
    · rcases hv with ⟨_, _, _, rfl⟩ | ⟨b, off, cap, rfl, hb, hc⟩
      · simp at h0
      · exact refValue_core ng l b off cap l.length (Lib.hid rfl) h0 (by omega) _ _ (Lib.hid rfl) w hb (Lib.hid hc)
end Go.Proofs.Ytkjcdiolimajdaa
