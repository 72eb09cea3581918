/- Walk: Value of the program. -/
import Derived.Test.YtkjcdiolimajdaaSlI
import Derived.Test.YtkjcdiolimajdaaPlQ
import Derived.Deep.LoopGhost
import Derived.Deep.DeepCutAuto
namespace Go.Proofs.Ytkjcdiolimajdaa
open Go.RowKit

theorem all_snoc (l : List Int) (k : Nat) (h : k < l.length) : (l.take (k + 1)).all inB = ((l.take k).all inB && inB (l.getD k 0)) := by
  rw [take_snoc l k h]; simp
theorem all_not (l : List Int) (k : Nat) (h : k < l.length) (hn : inB (l.getD k 0) = false) : l.all inB = false := by
  rw [List.all_eq_false]
  exact ⟨l.getD k 0, by rw [getD_lt h]; exact List.getElem_mem h, by rw [hn]; simp⟩
theorem drop_cons (l : List Int) (k : Nat) (h : k < l.length) : l.drop k = l.getD k 0 :: l.drop (k + 1) := by
  rw [getD_lt h]; exact (List.getElem_cons_drop h).symm
theorem valF_at {ng : Bool} {l : List Int} (h1 : l.length ≠ 0) (h2 : l.length ≤ 200) (h3 : l.all inB = true) : valF ⟨ng, l⟩ = (match valR true M2.one l with | none => (M2.zero, 7) | some m => (if ng = true then m.minus else m, 0)) := by
  show valF ⟨ng, l⟩ = _
  unfold valF; rw [if_neg h1, if_neg (by simp only; omega), if_pos h3]
  rfl
theorem timesS_fits {m : M2} (h : m.fits = true) : m.timesS.fits = true := by
  obtain ⟨⟨b1, b2⟩, ⟨b3, b4⟩, ⟨b5, b6⟩, b7, b8⟩ := fits_bd h
  exact fitsB_iff.2 ⟨inB_iff.2 ⟨b3, b4⟩, inB_iff.2 (by simp only [M2.timesS]; omega), inB_iff.2 ⟨b7, b8⟩, inB_iff.2 (by simp only [M2.timesS]; omega)⟩
/-- The memory of the second loop. -/
def ValMem (B D : Nat) (w0 : World) (ng : Bool) (v : Value) (m : M2) (wr : World) : Prop :=
  wr.cell? ⟨B, 0, none⟩ = some (.bool ng) ∧ wr.cell? ⟨B, 1, none⟩ = some v ∧ (∀ o, wr.frozen? ⟨B + 1, o, none⟩ = false) ∧ (∀ o, wr.frozen? ⟨D, o, none⟩ = false) ∧
    wr.cell? ⟨B + 1, 0, none⟩ = some (.int .i64 0) ∧ wr.cell? ⟨B + 1, 1, none⟩ = some (.int .i64 0) ∧ wr.cell? ⟨B + 1, 2, none⟩ = some (.int .i64 0) ∧ wr.cell? ⟨B + 1, 3, none⟩ = some (.int .i64 0) ∧
    wr.cell? ⟨D, 0, none⟩ = some (.int .i64 m.a) ∧ wr.cell? ⟨D, 1, none⟩ = some (.int .i64 m.b) ∧ wr.cell? ⟨D, 2, none⟩ = some (.int .i64 m.c) ∧ wr.cell? ⟨D, 3, none⟩ = some (.int .i64 m.d) ∧ Grow w0 wr ∧ D < wr.heap.size

theorem value_none (ng : Bool) (a : Option Addr) (cap : Nat) (w : World) :
    Calls Try.prog 32 #[.agg #[.bool ng, .slice a 0 cap]] w fun e w' => e = .returned (.tuple #[.agg #[.int .i64 0, .int .i64 0, .int .i64 0, .int .i64 0], .int .i64 3]) ∧ Grow w w' := by
  go_enter Try.func32, Try.ntmps32
  go_wp2_with fail
  exact bodyPost_ret (v := .tuple #[.agg #[.int .i64 0, .int .i64 0, .int .i64 0, .int .i64 0], .int .i64 3]) (by simp only [results, Try.results32]; go_simp) rfl ⟨rfl, by (repeat (first | with_reducible exact Grow.refl _ | with_reducible refine Grow.alloc ?_ _ | with_reducible refine Grow.drew ?_ | with_reducible refine Grow.drewN ?_ _ | (with_reducible refine Grow.setCell ?_ ?hp _; (case hp => (simp; try omega))) | with_reducible refine Grow.trans ?_ (by assumption)))⟩
theorem value_long (ng : Bool) (a : Option Addr) (n cap : Nat) (h : 200 < n) (hn : n ≤ 1152921504606846976) (w : World) :
    Calls Try.prog 32 #[.agg #[.bool ng, .slice a n cap]] w fun e w' => e = .returned (.tuple #[.agg #[.int .i64 0, .int .i64 0, .int .i64 0, .int .i64 0], .int .i64 2]) ∧ Grow w w' := by
  have h1 : ((n : Int) == 0) = false := by simp; omega
  have h2 : (200 : Int) < n := by omega
  go_enter Try.func32, Try.ntmps32
  go_wp2_with fail
  exact bodyPost_ret (v := .tuple #[.agg #[.int .i64 0, .int .i64 0, .int .i64 0, .int .i64 0], .int .i64 2]) (by simp only [results, Try.results32]; go_simp) rfl ⟨rfl, by (repeat (first | with_reducible exact Grow.refl _ | with_reducible refine Grow.alloc ?_ _ | with_reducible refine Grow.drew ?_ | with_reducible refine Grow.drewN ?_ _ | (with_reducible refine Grow.setCell ?_ ?hp _; (case hp => (simp; try omega))) | with_reducible refine Grow.trans ?_ (by assumption)))⟩

set_option maxHeartbeats 1500000 in
theorem value_core (ng : Bool) (l : List Int) (b off cap n : Nat) (hn : Hid (l.length = n)) (h0 : n ≠ 0) (h2 : n ≤ 200) (r : M2) (er : Int) (HR : Hid (valF ⟨ng, l⟩ = (r, er))) (w : World) (hb : b < w.heap.size)
    (HC : Hid (∀ j, j < l.length → w.cell? ⟨b, off + j, none⟩ = some (.int .i64 (l.getD j 0)))) :
    Calls Try.prog 32 #[.agg #[.bool ng, .slice (some ⟨b, off, none⟩) n cap]] w fun e w' => e = .returned (.tuple #[.agg #[.int .i64 r.a, .int .i64 r.b, .int .i64 r.c, .int .i64 r.d], .int .i64 er]) ∧ Grow w w' := by
  have g1 : ((n : Int) == 0) = false := by simp; omega
  have g2 : ¬ (200 : Int) < n := by omega
  have g3 : (n : Int) ≤ 200 := by omega
  have b1 : b < w.heap.size + 1 := by omega
  have b2 : b < w.heap.size + 2 := by omega
  have b3 : b ≤ w.heap.size := by omega
  have b4 : b ≤ w.heap.size + 1 := by omega
  have b5 : b < w.heap.size + 3 := by omega
  go_enter Try.func32, Try.ntmps32
  go_wp2_with fail
  go_loop [22] (fun i => ∃ k : Nat, k ≤ n ∧ i = .int .i64 k ∧ Hid ((l.take k).all inB = true)) (fun i => n - (intOf i).toNat)
  case atStart => exact ⟨0, Nat.zero_le _, rfl, rfl⟩
  case round =>
    obtain ⟨k, hk, rfl, hall⟩ := hrel
    by_cases hlt : k < n
    · have hkl : k < l.length := by have := hn.out; omega
      have d1 := HC.out k hkl
      have ha := all_snoc l k hkl
      have hnot := all_not l k hkl
      have HA := Lib.hid ha
      have HNO := Lib.hid hnot
      clear ha hnot hkl
      have hk1 : (k : Int) < n := by omega
      have hk0 : (0 : Int) ≤ k := by omega
      generalize l.getD k 0 = x at *
      by_cases hx : inB x = true
      · go_wp2_with (go_at_call 37; refine (in_any _ _).mono ?_; rintro e w1 ⟨rfl, rfl⟩)
        go_round
        case rel => exact ⟨k + 1, by omega, by go_num, by have h := HA.out; rw [hall.out, hx] at h; exact h⟩
        case measure => simp [intOf]; omega
      · have hx' : inB x = false := eq_false_of_ne_true hx
        have hv : (r, er) = (M2.zero, 2) := by
          rw [← HR.out]
          have h3 := HNO.out hx'
          have h4 := hn.out
          unfold valF; rw [if_neg (by simp only; omega), if_neg (by simp only; omega), if_neg (by simp only [h3]; exact Bool.false_ne_true)]
        obtain ⟨rfl, rfl⟩ := Prod.mk.inj hv
        clear hv hx
        go_wp2_with (go_at_call 37; refine (in_any _ _).mono ?_; rintro e w1 ⟨rfl, rfl⟩)
        exact bodyPost_ret (v := .tuple #[.agg #[.int .i64 0, .int .i64 0, .int .i64 0, .int .i64 0], .int .i64 2]) (by simp only [results, Try.results32]; go_simp) rfl ⟨rfl, by (repeat (first | with_reducible exact Grow.refl _ | with_reducible refine Grow.alloc ?_ _ | with_reducible refine Grow.drew ?_ | with_reducible refine Grow.drewN ?_ _ | (with_reducible refine Grow.setCell ?_ ?hp _; (case hp => (simp; try omega))) | with_reducible refine Grow.trans ?_ (by assumption)))⟩
    · have hall2 : l.all inB = true := by
        have h3 := hall.out
        rwa [List.take_of_length_le (by have := hn.out; omega)] at h3
      have hV := valF_at (ng := ng) (by have := hn.out; omega) (by have := hn.out; omega) hall2
      rw [HR.out] at hV
      have HV := Lib.hid hV
      have HAL := Lib.hid hall2
      clear hV hall2 hall HR
      obtain ⟨R, hR⟩ : ∃ R, valR true M2.one l = R := ⟨_, rfl⟩
      rw [hR] at HV
      have HRR := Lib.hid hR
      clear hR
      go_wp2_with fail
      go_loopg [35] n (fun k i wr => ∃ (j : Nat) (m : M2), i = .int .i64 j ∧ Hid (m.fits = true ∧ j + k = n ∧ valR (decide (j = 0)) m (l.drop j) = R) ∧ ValMem w.heap.size (w.heap.size + 1 + 1) w ng (.slice (some ⟨b, off, none⟩) n cap) m wr)
      case atStart =>
        refine ⟨0, M2.one, rfl, ⟨one_fits, by omega, HRR.out⟩, ?_, ?_, ?_, ?_, ?_, ?_, ?_, ?_, ?_, ?_, ?_, ?_, ?_, ?_⟩
        all_goals try simp only [M2.one]
        all_goals try (first | (go_simp; done) | (intro o; go_simp; done))
        (repeat (first | with_reducible exact Grow.refl _ | with_reducible refine Grow.alloc ?_ _ | with_reducible refine Grow.drew ?_ | with_reducible refine Grow.drewN ?_ _ | (with_reducible refine Grow.setCell ?_ ?hp _; (case hp => (simp; try omega))) | with_reducible refine Grow.trans ?_ (by assumption)))
      case round =>
        obtain ⟨j, m, rfl, hm, s0, s1, f1, f2, r0, r1, r2, r3, m0, m1, m2, m3, hg, hB⟩ := hrel
        have HG := Lib.hid hg
        have z1 : w.heap.size < wr.heap.size := by omega
        have z2 : w.heap.size + 1 < wr.heap.size := by omega
        have hjk : j + gk ≤ n := by have := hm.out.2.1; omega
        have hjk2 : n ≤ j + gk := by have := hm.out.2.1; omega
        by_cases hlt2 : j < n
        · have hjl : j < l.length := by have := hn.out; omega
          have d1 := (hg.cells b (off + j) hb).trans (HC.out j hjl)
          have hxin : inB (l.getD j 0) = true := by rw [getD_lt hjl]; exact List.all_eq_true.1 HAL.out _ (List.getElem_mem hjl)
          have hdrop := drop_cons l j hjl
          have hval := hm.out.2.2
          rw [hdrop] at hval
          have HVL := Lib.hid hval
          clear hval
          obtain ⟨fa, fb, fc, fd⟩ := fitsB_iff.1 hm.out.1
          have hts := timesS_fits hm.out.1
          clear hdrop hg hjl
          have hj1 : (j : Int) < n := by omega
          have hj0 : (0 : Int) ≤ j := by omega
          generalize l.getD j 0 = x at *
          obtain ⟨ba, ba'⟩ := inB_iff.1 fa
          obtain ⟨bb, bb'⟩ := inB_iff.1 fb
          obtain ⟨bc, bc'⟩ := inB_iff.1 fc
          obtain ⟨bd, bd'⟩ := inB_iff.1 fd
          clear fa fb fc fd
          obtain ⟨M1, hM1⟩ : ∃ M1, (if decide (j = 0) = true then m else m.timesS) = M1 := ⟨_, rfl⟩
          have hfM : M1.fits = true := by rw [← hM1]; split; exact hm.out.1; exact hts
          have HVM : Hid (valR (decide (j = 0)) m (x :: l.drop (j + 1)) = R ∧ (if decide (j = 0) = true then m else m.timesS) = M1 ∧ M1.fits = true) := ⟨HVL.out, hM1, hfM⟩
          clear HVL hts hfM
          go_upto_if 41 with (fail)
          go_cut [] (fun wc => ValMem w.heap.size (w.heap.size + 1 + 1) w ng (.slice (some ⟨b, off, none⟩) n cap) M1 wc)
          case first =>
            by_cases hj : j = 0
            · have hMm : m = M1 := by rw [← hM1, if_pos (by simp [hj])]
              clear hM1
              subst hMm
              have HJ := Lib.hid hj
              clear hj
              have hj : (j : Int) ≤ 0 := by have := HJ.out; omega
              go_wp2
              go_meet
              case rel =>
                refine ⟨?_, ?_, ?_, ?_, ?_, ?_, ?_, ?_, ?_, ?_, ?_, ?_, ?_, ?_⟩
                all_goals try (first | (go_simp; done) | (intro o; go_simp; done))
                all_goals (have hg := HG.out)
                all_goals (repeat (first | with_reducible exact Grow.refl _ | with_reducible refine Grow.alloc ?_ _ | with_reducible refine Grow.drew ?_ | with_reducible refine Grow.drewN ?_ _ | (with_reducible refine Grow.setCell ?_ ?hp _; (case hp => (simp; try omega))) | with_reducible refine Grow.trans ?_ (by assumption)))
            · have hMm : m.timesS = M1 := by rw [← hM1, if_neg (by simp [hj])]
              clear hM1
              subst hMm
              have hj : (0 : Int) < j := by omega
              go_wp2
              go_meet
              case rel =>
                refine ⟨?_, ?_, ?_, ?_, ?_, ?_, ?_, ?_, ?_, ?_, ?_, ?_, ?_, ?_⟩
                all_goals try simp only [M2.timesS]
                all_goals try (first | (go_simp; done) | (intro o; go_simp; done))
                all_goals (have hg := HG.out)
                all_goals (repeat (first | with_reducible exact Grow.refl _ | with_reducible refine Grow.alloc ?_ _ | with_reducible refine Grow.drew ?_ | with_reducible refine Grow.drewN ?_ _ | (with_reducible refine Grow.setCell ?_ ?hp _; (case hp => (simp; try omega))) | with_reducible refine Grow.trans ?_ (by assumption)))
          case rest =>
            clear s0 s1 f1 f2 r0 r1 r2 r3 m0 m1 m2 m3 hB z1 z2 hM1 d1 HG
            obtain ⟨s0, s1, f1, f2, r0, r1, r2, r3, m0, m1, m2, m3, hg, hB⟩ := hcut
            have HG := Lib.hid hg
            have z1 : w.heap.size < wc.heap.size := by omega
            have z2 : w.heap.size + 1 < wc.heap.size := by omega
            obtain ⟨fa, fb, fc, fd⟩ := fitsB_iff.1 HVM.out.2.2
            obtain ⟨xa, xa'⟩ := mul_in fa hxin
            obtain ⟨xc, xc'⟩ := mul_in fc hxin
            obtain ⟨bb, bb'⟩ := inB_iff.1 fb
            obtain ⟨bd, bd'⟩ := inB_iff.1 fd
            clear fa fb fc fd ba ba' bc bc' hg
            have y1 : IntKind.i64.wrap (M1.a * x) = M1.a * x := IntWalk.i64_in _ (by omega)
            have y2 : IntKind.i64.wrap (M1.b + M1.a * x) = M1.b + M1.a * x := IntWalk.i64_in _ (by omega)
            have y3 : IntKind.i64.wrap (M1.c * x) = M1.c * x := IntWalk.i64_in _ (by omega)
            have y4 : IntKind.i64.wrap (M1.d + M1.c * x) = M1.d + M1.c * x := IntWalk.i64_in _ (by omega)
            by_cases hf : fitsB M1.a (M1.b + M1.a * x) M1.c (M1.d + M1.c * x) = true
            · go_wp2_with fail
              (go_at_call 43; refine (fits_any _ _ _ _ _).mono ?_; rintro e w5 ⟨rfl, hb5⟩; have hc5 := hb5.cells; have hf5 := hb5.frees; have hz5 := hb5.size; (try simp at hz5))
              have v1 : w.heap.size < w5.heap.size := by (try simp [World.setCell] at hz5); omega
              have v2 : w.heap.size + 1 < w5.heap.size := by (try simp [World.setCell] at hz5); omega
              have v3 : w.heap.size + 1 + 1 < w5.heap.size := by (try simp [World.setCell] at hz5); omega
              go_wp2_with fail
              obtain ⟨g', hgk⟩ : ∃ g', gk = g' + 1 := ⟨gk - 1, by omega⟩
              go_roundg g'
              case measure => omega
              case rel =>
                refine ⟨j + 1, M1.timesT x, by go_num, ⟨hf, by omega, ?_⟩, ?_, ?_, ?_, ?_, ?_, ?_, ?_, ?_, ?_, ?_, ?_, ?_, ?_, ?_⟩
                · have h3 := HVM.out.1
                  simp only [valR] at h3
                  rw [HVM.out.2.1] at h3
                  rw [if_pos (show (M1.timesT x).fits = true from hf)] at h3
                  simpa using h3
                all_goals clear hm
                all_goals try simp only [M2.timesT]
                all_goals try (first | (go_simp; done) | (intro o; go_simp; done))
                have hg := HG.out
                have hb5' := hb5
                (repeat (first | with_reducible exact Grow.refl _ | with_reducible refine Grow.alloc ?_ _ | with_reducible refine Grow.drew ?_ | with_reducible refine Grow.drewN ?_ _ | (with_reducible refine Grow.setCell ?_ ?hp _; (case hp => (simp; try omega))) | with_reducible refine Grow.trans ?_ (by assumption)))
            · have hf' : fitsB M1.a (M1.b + M1.a * x) M1.c (M1.d + M1.c * x) = false := eq_false_of_ne_true hf
              have hnone : none = R := by
                have h3 := HVM.out.1
                simp only [valR] at h3
                rw [HVM.out.2.1] at h3
                rw [if_neg (show ¬ (M1.timesT x).fits = true from hf)] at h3
                exact h3
              have hv : (r, er) = (M2.zero, 7) := by have h3 := HV.out; rw [← hnone] at h3; exact h3
              obtain ⟨rfl, rfl⟩ := Prod.mk.inj hv
              clear hv hnone hm hf
              go_wp2_with fail
              (go_at_call 43; refine (fits_any _ _ _ _ _).mono ?_; rintro e w5 ⟨rfl, hb5⟩; have hc5 := hb5.cells; have hf5 := hb5.frees; have hz5 := hb5.size; (try simp at hz5))
              have v1 : w.heap.size < w5.heap.size := by (try simp [World.setCell] at hz5); omega
              have v2 : w.heap.size + 1 < w5.heap.size := by (try simp [World.setCell] at hz5); omega
              have v3 : w.heap.size + 1 + 1 < w5.heap.size := by (try simp [World.setCell] at hz5); omega
              go_wp2_with fail
              have hg := HG.out
              exact bodyPost_ret (v := .tuple #[.agg #[.int .i64 0, .int .i64 0, .int .i64 0, .int .i64 0], .int .i64 7]) (by simp only [results, Try.results32]; go_simp) rfl ⟨rfl, by (repeat (first | with_reducible exact Grow.refl _ | with_reducible refine Grow.alloc ?_ _ | with_reducible refine Grow.drew ?_ | with_reducible refine Grow.drewN ?_ _ | (with_reducible refine Grow.setCell ?_ ?hp _; (case hp => (simp; try omega))) | with_reducible refine Grow.trans ?_ (by assumption)))⟩
        · have hjn : j = n := by omega
          have hfin : some m = R := by
            have h3 := hm.out.2.2
            rw [List.drop_of_length_le (by have := hn.out; omega)] at h3
            simpa [valR] using h3
          obtain ⟨⟨b1', b2'⟩, ⟨b3', b4'⟩, ⟨b5', b6'⟩, b7', b8'⟩ := fits_bd hm.out.1
          have hv : (r, er) = (if ng = true then m.minus else m, 0) := by
            have h3 := HV.out
            rw [← hfin] at h3
            exact h3
          clear hfin hjk hjk2 hg
          subst hjn
          obtain ⟨hv1, rfl⟩ := Prod.mk.inj hv
          clear hv
          cases ng with
          | true =>
            have hr : r = m.minus := by simpa using hv1
            clear hv1
            subst hr
            go_wp2
            refine bodyPost_ret (v := .tuple #[.agg #[.int .i64 m.minus.a, .int .i64 m.minus.b, .int .i64 m.minus.c, .int .i64 m.minus.d], .int .i64 0]) (by simp only [results, Try.results32, M2.minus]; go_simp) rfl ⟨rfl, ?_⟩
            have hg := HG.out
            (repeat (first | with_reducible exact Grow.refl _ | with_reducible refine Grow.alloc ?_ _ | with_reducible refine Grow.drew ?_ | with_reducible refine Grow.drewN ?_ _ | (with_reducible refine Grow.setCell ?_ ?hp _; (case hp => (simp; try omega))) | with_reducible refine Grow.trans ?_ (by assumption)))
          | false =>
            have hr : r = m := by simpa using hv1
            clear hv1
            subst hr
            go_wp2
            refine bodyPost_ret (v := .tuple #[.agg #[.int .i64 r.a, .int .i64 r.b, .int .i64 r.c, .int .i64 r.d], .int .i64 0]) (by simp only [results, Try.results32]; go_simp) rfl ⟨rfl, ?_⟩
            have hg := HG.out
            (repeat (first | with_reducible exact Grow.refl _ | with_reducible refine Grow.alloc ?_ _ | with_reducible refine Grow.drew ?_ | with_reducible refine Grow.drewN ?_ _ | (with_reducible refine Grow.setCell ?_ ?hp _; (case hp => (simp; try omega))) | with_reducible refine Grow.trans ?_ (by assumption)))

theorem value_any (ng : Bool) (l : List Int) (v : Value) (hl : l.length ≤ 1152921504606846976) (w : World) (hv : RdInts w v l) :
    Calls Try.prog 32 #[.agg #[.bool ng, v]] w fun e w' => e = .returned (.tuple #[.agg #[.int .i64 (valF ⟨ng, l⟩).1.a, .int .i64 (valF ⟨ng, l⟩).1.b, .int .i64 (valF ⟨ng, l⟩).1.c, .int .i64 (valF ⟨ng, l⟩).1.d], .int .i64 (valF ⟨ng, l⟩).2]) ∧ Grow w w' := by
  by_cases h0 : l.length = 0
  · obtain ⟨a, cap, rfl⟩ := hv.form
    have e : valF ⟨ng, l⟩ = (M2.zero, 3) := by unfold valF; rw [if_pos h0]
    rw [e, h0]
    exact value_none ng a cap w
  · by_cases h2 : 200 < l.length
    · obtain ⟨a, cap, rfl⟩ := hv.form
      have e : valF ⟨ng, l⟩ = (M2.zero, 2) := by unfold valF; rw [if_neg h0, if_pos h2]
      rw [e]
      exact value_long ng a _ cap h2 hl w
    · rcases hv with ⟨_, _, _, rfl⟩ | ⟨b, off, cap, rfl, hb, hc⟩
      · simp at h0
      · exact value_core ng l b off cap l.length (Lib.hid rfl) h0 (by omega) _ _ (Lib.hid rfl) w hb (Lib.hid hc)
end Go.Proofs.Ytkjcdiolimajdaa
