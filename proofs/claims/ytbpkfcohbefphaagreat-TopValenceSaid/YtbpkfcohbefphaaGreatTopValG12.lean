/- Lemmas, plain laws and walks that the statement LwValence leans on (texts TbB, TbC, TwI, GcA, HwE, TsA, EtC), conditions as each theorem says. -/
import Derived.Deep.QuietTactic
import Derived.BigQuiet
import Derived.Test.YtbpkfcohbefphaaGreatTopValG01
import Derived.Test.YtbpkfcohbefphaaGreatTopValG07
import Derived.Test.YtbpkfcohbefphaaGreatTopValG08
import Derived.Test.YtbpkfcohbefphaaGreatTopValG09
import Derived.Test.YtbpkfcohbefphaaGreatTopValG11

namespace Go.Proofs.YtbpkfcohbefphaaGreat
open Go Go.RowKit
set_option maxRecDepth 20000 in
set_option maxHeartbeats 8000000 in
theorem sameIntV (z : Int) (v1 v2 : Value) (w : World) (h1 : IntR w v1 z) (h2 : IntR w v2 z) :
    Calls Tryz.prog 40 #[v1, v2] w fun e w' => e = .returned (.bool true) ∧ Grow w w' := by
  obtain ⟨m1, rfl, h1⟩ := h1
  obtain ⟨m2, rfl, h2⟩ := h2
  generalize sgB z = s
  generalize z.natAbs = n at h1 h2
  rcases h1 with ⟨p0, a1, c1, rfl⟩ | ⟨p0, p1, b1, o1, c1, rfl, k1, q1, d1⟩
  · rcases h2 with ⟨-, a2, c2, rfl⟩ | ⟨p2, -⟩
    · go_enter Tryz.func40, Tryz.ntmps40
      go_wp2_with fail
      go_loopg [5] 0 (fun gk t5 wr => t5 = .int .i64 0 ∧ Hid (Grow w wr) ∧ wr.cell? ⟨w.heap.size, 0, none⟩ = some (.bool s) ∧ wr.cell? ⟨w.heap.size, 1, none⟩ = some (.slice a1 0 c1))
      case atStart =>
        refine ⟨rfl, Lib.hid (by (repeat (first | with_reducible exact Grow.refl _ | with_reducible refine Grow.alloc ?_ _ | with_reducible refine Grow.drew ?_ | with_reducible refine Grow.drewN ?_ _ | (with_reducible refine Grow.setCell ?_ ?hp _; (case hp => (simp; try omega))) | with_reducible refine Grow.trans ?_ (by assumption)))), by go_simp, by go_simp⟩
      case round =>
        obtain ⟨rfl, HG, x0, x1⟩ := hrel
        go_wp2_with fail
        go_ret
        exact ⟨rfl, HG.out⟩
    · omega
  · rcases h2 with ⟨p2, -⟩ | ⟨-, -, b2, o2, c2, rfl, k2, q2, d2⟩
    · omega
    · obtain ⟨W1, hW1⟩ : ∃ W1 : World, W1 = w.alloc (.cells #[.bool s, .slice (some ⟨b1, o1, none⟩) 1 c1] 34) := ⟨_, rfl⟩
      obtain ⟨W2, hW2⟩ : ∃ W2 : World, W2 = W1.alloc (.cells #[.bool s, .slice (some ⟨b2, o2, none⟩) 1 c2] 34) := ⟨_, rfl⟩
      have hg2 : Grow w W2 := (ag hW1).trans (ag hW2)
      have K1 := Lib.hid (fun u (hu : Grow W2 u) => ak2 hW1 u ((ag hW2).trans hu))
      have hz1 : W1.heap.size = w.heap.size + 1 := by rw [hW1]; simp
      have K2 := Lib.hid (ak2 hW2)
      rw [hz1] at K2
      have D1 := Lib.hid (fun u (hu : Grow W2 u) => ((hg2.trans hu).cells _ _ q1).trans d1)
      have D2 := Lib.hid (fun u (hu : Grow W2 u) => ((hg2.trans hu).cells _ _ q2).trans d2)
      have HW1 := Lib.hid hW1
      have HW2 := Lib.hid hW2
      have HG2 := Lib.hid hg2
      clear hW1 hW2 hg2 d1 d2 hz1
      go_enter Tryz.func40, Tryz.ntmps40
      go_upto_region 1 with fail
      rw [← HW1.out, ← HW2.out]
      obtain ⟨e0, e1, e2, e3⟩ := K1.out W2 (Grow.refl _)
      obtain ⟨f0, f1, f2, f3⟩ := K2.out W2 (Grow.refl _)
      go_wp2_with fail
      clear e0 e1 e2 e3 f0 f1 f2 f3
      go_loopg [5] 1 (fun gk t5 wr => ∃ j : Nat, t5 = .int .i64 (j : Int) ∧ j ≤ 1 ∧ Hid (gk = 1 - j) ∧ Hid (Grow W2 wr))
      case atStart => exact ⟨0, rfl, by omega, Lib.hid rfl, Lib.hid (by (repeat (first | with_reducible exact Grow.refl _ | with_reducible refine Grow.alloc ?_ _ | with_reducible refine Grow.drew ?_ | with_reducible refine Grow.drewN ?_ _ | (with_reducible refine Grow.setCell ?_ ?hp _; (case hp => (simp; try omega))) | with_reducible refine Grow.trans ?_ (by assumption))))⟩
      case round =>
        obtain ⟨j, rfl, hj, HGK, HG⟩ := hrel
        obtain ⟨e0, e1, e2, e3⟩ := K1.out wr HG.out
        obtain ⟨f0, f1, f2, f3⟩ := K2.out wr HG.out
        have d1 := D1.out wr HG.out
        have d2 := D2.out wr HG.out
        rcases (by omega : j = 0 ∨ j = 1) with rfl | rfl
        · go_upto_region 6 with fail
          go_quiet (fail)
          go_wp2_with fail
          go_roundg 0
          case measure => have := HGK.out; omega
          case rel => exact ⟨1, rfl, by omega, Lib.hid rfl, Lib.hid (HG.out.trans (by (repeat (first | with_reducible exact Grow.refl _ | with_reducible refine Grow.alloc ?_ _ | with_reducible refine Grow.drew ?_ | with_reducible refine Grow.drewN ?_ _ | (with_reducible refine Grow.setCell ?_ ?hp _; (case hp => (simp; try omega))) | with_reducible refine Grow.trans ?_ (by assumption)))))⟩
        · go_wp2_with fail
          go_ret
          exact ⟨rfl, HG2.out.trans (HG.out.trans (by (repeat (first | with_reducible exact Grow.refl _ | with_reducible refine Grow.alloc ?_ _ | with_reducible refine Grow.drew ?_ | with_reducible refine Grow.drewN ?_ _ | (with_reducible refine Grow.setCell ?_ ?hp _; (case hp => (simp; try omega))) | with_reducible refine Grow.trans ?_ (by assumption)))))⟩
set_option maxRecDepth 20000 in
set_option maxHeartbeats 8000000 in
theorem sameRatQ (x : Rat) (v1 v2 : Value) (w : World) (h1 : RatR w v1 x) (h2 : RatR w v2 x) :
    Calls Tryz.prog 12 #[v1, v2] w fun e w' => e = .returned (.bool true) ∧ Grow w w' := by
  obtain ⟨s1, a1, l1, c1, t1, b1, k1, e1, rfl⟩ := h1.form
  obtain ⟨s2, a2, l2, c2, t2, b2, k2, e2, rfl⟩ := h2.form
  have SN := Lib.hid (fun u (hu : Grow w u) => sameIntV _ _ _ u (h1.num.grow hu) (h2.num.grow hu))
  have SD := Lib.hid (fun u (hu : Grow w u) => sameIntV _ _ _ u (h1.den.grow hu) (h2.den.grow hu))
  clear h1 h2
  obtain ⟨W1, hW1⟩ : ∃ W1 : World, W1 = w.alloc (.cells #[.bool s1, .slice a1 l1 c1, .bool t1, .slice b1 k1 e1] 36) := ⟨_, rfl⟩
  obtain ⟨W2, hW2⟩ : ∃ W2 : World, W2 = W1.alloc (.cells #[.bool s2, .slice a2 l2 c2, .bool t2, .slice b2 k2 e2] 36) := ⟨_, rfl⟩
  have hg2 : Grow w W2 := (ag hW1).trans (ag hW2)
  have K1 := Lib.hid (fun u (hu : Grow W2 u) => ak4 hW1 u ((ag hW2).trans hu))
  have hz1 : W1.heap.size = w.heap.size + 1 := by rw [hW1]; simp
  have K2 := Lib.hid (ak4 hW2)
  rw [hz1] at K2
  have HW1 := Lib.hid hW1
  have HW2 := Lib.hid hW2
  clear hW1 hW2 hz1
  go_enter Tryz.func12, Tryz.ntmps12
  go_upto_region 1 with fail
  rw [← HW1.out, ← HW2.out]
  obtain ⟨x0, x1, x2, x3, x4, x5⟩ := K1.out W2 (Grow.refl _)
  obtain ⟨y0, y1, y2, y3, y4, y5⟩ := K2.out W2 (Grow.refl _)
  go_wp2_with (first
    | (go_at_call 40; (with_reducible refine (SN.out _ (by (repeat (first | with_reducible exact Grow.refl _ | with_reducible refine Grow.alloc ?_ _ | with_reducible refine Grow.drew ?_ | with_reducible refine Grow.drewN ?_ _ | (with_reducible refine Grow.setCell ?_ ?hp _; (case hp => (simp; try omega))) | with_reducible refine Grow.trans ?_ (by assumption))))).mono ?_); (rintro e u1 ⟨rfl, hb1⟩; obtain ⟨x0, x1, x2, x3, x4, x5⟩ := K1.out u1 (by (repeat (first | with_reducible exact Grow.refl _ | with_reducible refine Grow.alloc ?_ _ | with_reducible refine Grow.drew ?_ | with_reducible refine Grow.drewN ?_ _ | (with_reducible refine Grow.setCell ?_ ?hp _; (case hp => (simp; try omega))) | with_reducible refine Grow.trans ?_ (by assumption)))); obtain ⟨y0, y1, y2, y3, y4, y5⟩ := K2.out u1 (by (repeat (first | with_reducible exact Grow.refl _ | with_reducible refine Grow.alloc ?_ _ | with_reducible refine Grow.drew ?_ | with_reducible refine Grow.drewN ?_ _ | (with_reducible refine Grow.setCell ?_ ?hp _; (case hp => (simp; try omega))) | with_reducible refine Grow.trans ?_ (by assumption))))))
    | (go_at_call 40; (with_reducible refine (SD.out _ (by (repeat (first | with_reducible exact Grow.refl _ | with_reducible refine Grow.alloc ?_ _ | with_reducible refine Grow.drew ?_ | with_reducible refine Grow.drewN ?_ _ | (with_reducible refine Grow.setCell ?_ ?hp _; (case hp => (simp; try omega))) | with_reducible refine Grow.trans ?_ (by assumption))))).mono ?_); (rintro e u3 ⟨rfl, hb3⟩)))
  go_ret
  exact ⟨rfl, by (repeat (first | with_reducible exact Grow.refl _ | with_reducible refine Grow.alloc ?_ _ | with_reducible refine Grow.drew ?_ | with_reducible refine Grow.drewN ?_ _ | (with_reducible refine Grow.setCell ?_ ?hp _; (case hp => (simp; try omega))) | with_reducible refine Grow.trans ?_ (by assumption)))⟩
end Go.Proofs.YtbpkfcohbefphaaGreat
namespace Go.Proofs.YtbpkfcohbefphaaGreat
open Go Go.RowKit
set_option maxRecDepth 20000 in
set_option maxHeartbeats 8000000 in
theorem sameRatsQ (n B1 o1 c1 B2 o2 c2 : Nat) (r r' : Nat → Rat) (hn : n ≤ 1000) (hr : ∀ j, j < n → r j = r' j) (w : World) (h1 : RowQ w B1 o1 n r) (h2 : RowQ w B2 o2 n r') :
    Calls Tryz.prog 59 #[.slice (some ⟨B1, o1, none⟩) n c1, .slice (some ⟨B2, o2, none⟩) n c2] w fun e w' => e = .returned (.bool true) ∧ Grow w w' := by
  have H1 := Lib.hid h1
  have H2 := Lib.hid h2
  have HR := Lib.hid hr
  clear h1 h2 hr
  go_enter Tryz.func59, Tryz.ntmps59
  go_wp2_with fail
  go_loopg [5] n (fun gk t5 wr => ∃ j : Nat, t5 = .int .i64 (j : Int) ∧ j ≤ n ∧ Hid (gk = n - j) ∧ Hid (Grow w wr))
  case atStart => exact ⟨0, rfl, Nat.zero_le _, Lib.hid rfl, Lib.hid (Grow.refl _)⟩
  case round =>
    obtain ⟨j, rfl, hj2, HGK, HG⟩ := hrel
    by_cases hjn : j = n
    · have y1 : decide ((j : Int) < (n : Int)) = false := by simp; omega
      subst hjn
      go_wp2_with fail
      go_ret
      exact ⟨rfl, HG.out⟩
    · have hj : j < n := by omega
      have y0 : (0 : Int) ≤ (j : Int) := by omega
      have y1 : (j : Int) < (n : Int) := by omega
      obtain ⟨s3, a3, l3, c3, t3, b3, k3, e3, ⟨p0, p1, p2, p3⟩, hv1⟩ := RowQ.at4 (RowP.grow H1.out HG.out) hj
      obtain ⟨s4, a4, l4, c4, t4, b4, k4, e4, ⟨q0, q1, q2, q3⟩, hv2⟩ := RowQ.at4 (RowP.grow H2.out HG.out) hj
      rw [HR.out j hj] at hv1
      have hl1 := (RowP.grow H1.out HG.out).lt
      have hl2 := (RowP.grow H2.out HG.out).lt
      have D0 := Lib.hid (fun (u : World) (hg : Grow wr u) => (⟨(hg.cells _ _ hl1).trans p0, (hg.cells _ _ hl1).trans p1, (hg.cells _ _ hl1).trans p2, (hg.cells _ _ hl1).trans p3, (hg.cells _ _ hl2).trans q0, (hg.cells _ _ hl2).trans q1, (hg.cells _ _ hl2).trans q2, (hg.cells _ _ hl2).trans q3⟩ : _ ∧ _ ∧ _ ∧ _ ∧ _ ∧ _ ∧ _ ∧ _))
      have SR := Lib.hid (fun (u : World) (hg : Grow wr u) => sameRatQ _ _ _ u (hv1.grow hg) (hv2.grow hg))
      clear p0 p1 p2 p3 q0 q1 q2 q3 hv1 hv2 hl1 hl2 hjn
      go_upto_region 6 with fail
      refine region_held (id := 6) (fun u => Grow wr u) [0, 1, 2, 3, 4, 5, 6, 7, 8, 9] (kdL [0, 0, 0, 1, 0, 0, 0, 1, 2, 0]) (by kernel_rfl) (by kernel_rfl) (fun t ht => kdL_lt _ t ht) ?hS0p ?_
      case hS0p => ((try dsimp only); (repeat (first | with_reducible exact Grow.refl _ | with_reducible refine Grow.alloc ?_ _ | with_reducible refine Grow.drew ?_ | with_reducible refine Grow.drewN ?_ _ | (with_reducible refine Grow.setCell ?_ ?hp _; (case hp => (simp; try omega))) | with_reducible refine Grow.trans ?_ (by assumption))))
      refine held_quiet (v := ?vp0) rfl rfl (Or.inl ⟨by rfl, ?hyp0⟩) ?_
      case hyp0 => (intro u hu; go_simp; (try with_reducible rfl))
      (try simp only [Act.put, List.setIfInBounds_toArray])
      refine held_quiet (v := ?vp1) rfl rfl (Or.inl ⟨by rfl, ?hyp1⟩) ?_
      case hyp1 => (intro u hu; go_simp; (try with_reducible rfl))
      (try simp only [Act.put])
      refine held_quiet (v := ?vp2) rfl rfl (Or.inl ⟨by rfl, ?hyp2⟩) ?_
      case hyp2 => (intro u hu; go_simp; (try with_reducible rfl))
      (try simp only [Act.put])
      refine held_read (v := ?vp3) rfl rfl (Or.inl ⟨by rfl, ?hyp3⟩) ?_
      case hyp3 => (intro u hu; obtain ⟨f0, f1, f2, f3, f4, f5, f6, f7⟩ := D0.out u hu; go_simp; (try with_reducible rfl))
      (try simp only [Act.put])
      refine held_quiet (v := ?vp4) rfl rfl (Or.inl ⟨by rfl, ?hyp4⟩) ?_
      case hyp4 => (intro u hu; go_simp; (try with_reducible rfl))
      (try simp only [Act.put])
      refine held_quiet (v := ?vp5) rfl rfl (Or.inl ⟨by rfl, ?hyp5⟩) ?_
      case hyp5 => (intro u hu; go_simp; (try with_reducible rfl))
      (try simp only [Act.put])
      refine held_quiet (v := ?vp6) rfl rfl (Or.inl ⟨by rfl, ?hyp6⟩) ?_
      case hyp6 => (intro u hu; go_simp; (try with_reducible rfl))
      (try simp only [Act.put])
      refine held_read (v := ?vp7) rfl rfl (Or.inl ⟨by rfl, ?hyp7⟩) ?_
      case hyp7 => (intro u hu; obtain ⟨f0, f1, f2, f3, f4, f5, f6, f7⟩ := D0.out u hu; go_simp; (try with_reducible rfl))
      (try simp only [Act.put])
      refine held_op rfl rfl (fun K hK => ?_)
      go_simp
      (go_at_call 12; (with_reducible refine (SR.out _ (by (repeat (first | with_reducible exact Grow.refl _ | with_reducible refine Grow.alloc ?_ _ | with_reducible refine Grow.drew ?_ | with_reducible refine Grow.drewN ?_ _ | (with_reducible refine Grow.setCell ?_ ?hp _; (case hp => (simp; try omega))) | with_reducible refine Grow.trans ?_ (by assumption))))).mono ?_); (rintro e u6 ⟨rfl, hb6⟩))
      (try go_wp2_with fail)
      refine hK.out _ _ ?hSp8 ?_
      case hSp8 => ((try dsimp only); (repeat (first | with_reducible exact Grow.refl _ | with_reducible refine Grow.alloc ?_ _ | with_reducible refine Grow.drew ?_ | with_reducible refine Grow.drewN ?_ _ | (with_reducible refine Grow.setCell ?_ ?hp _; (case hp => (simp; try omega))) | with_reducible refine Grow.trans ?_ (by assumption))))
      clear hK K
      (try simp only [Act.put])
      refine held_quiet (v := ?vp9) rfl rfl (Or.inl ⟨by rfl, ?hyp9⟩) ?_
      case hyp9 => (intro u hu; go_simp; (try with_reducible rfl))
      (try simp only [Act.put])
      refine held_done ?_
      have YI := Lib.hid (inc_wrap hj (by omega))
      obtain ⟨e8, e9⟩ := YI.out
      go_wp2_with fail
      clear e8 e9
      go_roundg (n - (j + 1))
      case measure => have := HGK.out; omega
      case rel => exact ⟨j + 1, rfl, hj, Lib.hid rfl, Lib.hid (HG.out.trans (by (repeat (first | with_reducible exact Grow.refl _ | with_reducible refine Grow.alloc ?_ _ | with_reducible refine Grow.drew ?_ | with_reducible refine Grow.drewN ?_ _ | (with_reducible refine Grow.setCell ?_ ?hp _; (case hp => (simp; try omega))) | with_reducible refine Grow.trans ?_ (by assumption)))))⟩
set_option maxRecDepth 20000 in
set_option maxHeartbeats 8000000 in
theorem sameSeriesQ (fr : Int) (n B1 o1 c1 B2 o2 c2 : Nat) (r r' : Nat → Rat) (hn : n ≤ 1000) (hr : ∀ j, j < n → r j = r' j) (w : World) (h1 : RowQ w B1 o1 n r) (h2 : RowQ w B2 o2 n r') :
    Calls Tryz.prog 25 #[.agg #[.int .i64 fr, .slice (some ⟨B1, o1, none⟩) n c1], .agg #[.int .i64 fr, .slice (some ⟨B2, o2, none⟩) n c2]] w fun e w' => e = .returned (.bool true) ∧ Grow w w' := by
  have SS := Lib.hid (fun (u : World) (hu : Grow w u) => sameRatsQ n B1 o1 c1 B2 o2 c2 r r' hn hr u (RowP.grow h1 hu) (RowP.grow h2 hu))
  clear h1 h2 hr
  obtain ⟨W1, hW1⟩ : ∃ W1 : World, W1 = w.alloc (.cells #[.int .i64 fr, .slice (some ⟨B1, o1, none⟩) n c1] 25) := ⟨_, rfl⟩
  obtain ⟨W2, hW2⟩ : ∃ W2 : World, W2 = W1.alloc (.cells #[.int .i64 fr, .slice (some ⟨B2, o2, none⟩) n c2] 25) := ⟨_, rfl⟩
  have hg2 : Grow w W2 := (ag hW1).trans (ag hW2)
  have K1 := Lib.hid (fun u (hu : Grow W2 u) => ak2 hW1 u ((ag hW2).trans hu))
  have K2 := Lib.hid (ak2 hW2)
  have hz1 : W1.heap.size = w.heap.size + 1 := by rw [hW1]; simp
  rw [hz1] at K2
  have HW1 := Lib.hid hW1
  have HW2 := Lib.hid hW2
  clear hW1 hW2
  go_enter Tryz.func25, Tryz.ntmps25
  go_upto_region 1 with fail
  rw [← HW1.out, ← HW2.out]
  obtain ⟨b0, b1, b2, b3⟩ := K1.out W2 (Grow.refl _)
  obtain ⟨d0, d1, d2, d3⟩ := K2.out W2 (Grow.refl _)
  go_wp2_with (go_at_call 59; (with_reducible refine (SS.out _ (by (repeat (first | with_reducible exact Grow.refl _ | with_reducible refine Grow.alloc ?_ _ | with_reducible refine Grow.drew ?_ | with_reducible refine Grow.drewN ?_ _ | (with_reducible refine Grow.setCell ?_ ?hp _; (case hp => (simp; try omega))) | with_reducible refine Grow.trans ?_ (by assumption))))).mono ?_); (rintro e u2 ⟨rfl, hb2⟩))
  go_ret
  exact ⟨rfl, by (repeat (first | with_reducible exact Grow.refl _ | with_reducible refine Grow.alloc ?_ _ | with_reducible refine Grow.drew ?_ | with_reducible refine Grow.drewN ?_ _ | (with_reducible refine Grow.setCell ?_ ?hp _; (case hp => (simp; try omega))) | with_reducible refine Grow.trans ?_ (by assumption)))⟩
set_option maxRecDepth 20000 in
set_option maxHeartbeats 8000000 in
theorem qsQ (n B off c : Nat) (f : Nat → Int) (hn0 : 0 < n) (hn : n ≤ 1000) (hf : ∀ i, i < n → (f i).natAbs < 4294967296) (w : World) (hA : IntQ w B off n f) :
    Calls Tryz.prog 26 #[.slice (some ⟨B, off, none⟩) n c] w fun e w' => ∃ B' c', e = .returned (.slice (some ⟨B', 0, none⟩) n c') ∧ RowQ w' B' 0 n (fun i => (f i : Rat)) ∧ Grow w w' := by
  obtain ⟨ir, hir, irz0, irz1, irz2⟩ := info_parts infoRat
  have HA := Lib.hid hA
  have HF := Lib.hid hf
  clear hA hf
  go_enter Tryz.func26, Tryz.ntmps26
  go_wp2_with fail
  go_loopg [3, 4] n (fun gk t3 t4 wr => ∃ (j cv : Nat) (av : Option Addr) (xs : List Value), t3 = .slice av j cv ∧ t4 = .int .i64 (j : Int) ∧ j ≤ n ∧ Hid (gk = n - j) ∧ Hid (Grow w wr) ∧ Hid (OwnG wr w.heap.size 36 4 (.slice av j cv) j xs) ∧ Hid (ListR wr xs j (fun i => (f i : Rat))))
  case atStart => exact ⟨0, 0, none, [], rfl, rfl, Nat.zero_le _, Lib.hid rfl, Lib.hid (Grow.refl _), Lib.hid (OwnG.nil _ _ _ _), Lib.hid (ListR.nil _ _)⟩
  case round =>
    obtain ⟨j, cv, av, xs, rfl, rfl, hj2, HGK, HG, HO, HX⟩ := hrel
    by_cases hjn : j = n
    · have y1 : decide ((j : Int) < (n : Int)) = false := by simp; omega
      subst hjn
      obtain ⟨g, cap, hv, hg1, hg2⟩ := own_slice HO.out.own hn0
      injection hv with h1 h2 h3
      subst h1 h3
      go_wp2_with fail
      go_ret
      exact ⟨g, ⟨cv, rfl⟩, own_rowq HO.out.own HX.out, HG.out⟩
    · have hj : j < n := by omega
      have y0 : (0 : Int) ≤ (j : Int) := by omega
      have y1 : (j : Int) < (n : Int) := by omega
      have hcA := (HA.out.grow HG.out).cell j hj
      have QB := Lib.hid (fun u => qbQ (f j) (HF.out j hj) u)
      obtain ⟨z, hz⟩ : ∃ z, f j = z := ⟨_, rfl⟩
      rw [hz] at hcA QB
      have HZ := Lib.hid hz
      clear hz
      go_wp2_with (first
        | (go_at_call 11; (with_reducible refine (QB.out _).mono ?_); (rintro e u6 ⟨v6, rfl, hv6, hb6⟩; obtain ⟨s6, a6, l6, c6, t6, b6, k6, e6, rfl⟩ := hv6.form; have HV6 := Lib.hid hv6; have HG6 := Lib.hid hb6; clear hv6 hb6))
        | (at_builtin; go_loud (refine wpList_append_g _ rfl _ _ 23 rfl 36 ir _ 4 64 Tryz.underlying23 hir irz0 irz1 irz2 rfl (by decide) rat_zero_nu (by decide) w.heap.size _ j xs rfl (HO.out.grow (HG6.out.trans (by (repeat (first | with_reducible exact Grow.refl _ | with_reducible refine Grow.alloc ?_ _ | with_reducible refine Grow.drew ?_ | with_reducible refine Grow.drewN ?_ _ | (with_reducible refine Grow.setCell ?_ ?hp _; (case hp => (simp; try omega))) | with_reducible refine Grow.trans ?_ (by assumption)))))) ⟨u6.heap.size, 0, none⟩ 1 [.bool s6, .slice a6 l6 c6, .bool t6, .slice b6 k6 e6] rfl rfl (rat_news u6 s6 a6 l6 c6 t6 b6 k6 e6 36) (rat_one s6 a6 l6 c6 t6 b6 k6 e6) (rat_nu s6 a6 l6 c6 t6 b6 k6 e6) (by omega) (Nat.le_trans (HG.out.trans HG6.out).size (by simp)) ?_)))
      intro v7 w7 hown7 hb7
      obtain ⟨a7, c7, hv7⟩ := hown7.form
      subst hv7
      have hga : Grow wr (u6.alloc (.cells #[.bool s6, .slice a6 l6 c6, .bool t6, .slice b6 k6 e6] 36)) := HG6.out.trans (by (repeat (first | with_reducible exact Grow.refl _ | with_reducible refine Grow.alloc ?_ _ | with_reducible refine Grow.drew ?_ | with_reducible refine Grow.drewN ?_ _ | (with_reducible refine Grow.setCell ?_ ?hp _; (case hp => (simp; try omega))) | with_reducible refine Grow.trans ?_ (by assumption))))
      have hx7 := (HX.out.grow hga).but hb7
      have hl7 := ((listr_one HV6.out).grow ((Grow.refl u6).alloc (.cells #[.bool s6, .slice a6 l6 c6, .bool t6, .slice b6 k6 e6] 36))).but hb7
      have HXL := Lib.hid ((hx7.append hl7).cong (r' := fun i => (f i : Rat)) (fun i hi => by
        by_cases hij : i < j
        · rw [if_pos hij]
        · rw [if_neg hij, show i = j by omega, HZ.out]))
      have HGL := Lib.hid ((((HG.out.trans hga).but _).trans hb7).asGrow (fun b hb => hb))
      have HOL := Lib.hid hown7
      have YI := Lib.hid (inc_wrap hj (by omega))
      clear hx7 hl7 hga hb7 hown7 hcA
      obtain ⟨e8, e9⟩ := YI.out
      go_wp2_with fail
      clear e8 e9
      go_roundg (n - (j + 1))
      case measure => have := HGK.out; omega
      case rel => exact ⟨j + 1, c7, a7, _, rfl, rfl, hj, Lib.hid rfl, HGL, HOL, HXL⟩
end Go.Proofs.YtbpkfcohbefphaaGreat
namespace Go.Proofs.YtbpkfcohbefphaaGreat
open Go Go.RowKit
theorem int3 (w : World) (a b c : Int) (t : TypeId) : IntQ (w.alloc (.cells #[.int .i64 a, .int .i64 b, .int .i64 c] t)) w.heap.size 0 3 (fun i => if i = 0 then a else if i = 1 then b else c) := by
  refine ⟨by simp, fun i hi => ?_⟩
  rw [World.cell?_alloc_at _ _ _ _ rfl]
  rcases (by omega : i = 0 ∨ i = 1 ∨ i = 2) with rfl | rfl | rfl <;> simp
end Go.Proofs.YtbpkfcohbefphaaGreat
namespace Go.Proofs.YtbpkfcohbefphaaGreat
open Go Go.RowKit
theorem gcW_step (x y : Int) : Int.gcd y (x.tmod y) = Int.gcd x y := by
  simp only [Int.gcd, Int.natAbs_tmod]
  rw [Nat.gcd_comm x.natAbs y.natAbs, Nat.gcd_rec y.natAbs x.natAbs, Nat.gcd_comm]
theorem tmW_lt (x y : Int) (h : y ≠ 0) : (x.tmod y).natAbs < y.natAbs := by
  rw [Int.natAbs_tmod]
  exact Nat.mod_lt _ (by omega)
theorem tmW_bd (x y : Int) (h : y ≠ 0) (B : Int) (h1 : -B ≤ y) (h2 : y ≤ B) : -B ≤ x.tmod y ∧ x.tmod y ≤ B := by
  have := tmW_lt x y h
  omega
set_option maxHeartbeats 1000000 in
theorem gcW_quiet (a b : Int) (ha : -4611686018427387904 ≤ a) (ha' : a ≤ 4611686018427387904) (hb : -4611686018427387904 ≤ b) (hb' : b ≤ 4611686018427387904) (w : World) :
    Calls Tryz.prog 46 #[.int .i64 a, .int .i64 b] w fun e w' => e = .returned (.int .i64 (Int.gcd a b)) ∧ ∃ n, w' = w.drewN n := by
  go_enter Tryz.func46, Tryz.ntmps46
  go_wp2
  go_loopw [0, 1] (fun u v wr => ∃ x y : Int, u = .int .i64 x ∧ v = .int .i64 y ∧ -4611686018427387904 ≤ x ∧ x ≤ 4611686018427387904 ∧ -4611686018427387904 ≤ y ∧ y ≤ 4611686018427387904 ∧ Hid (Int.gcd x y = Int.gcd a b) ∧ ∃ n, wr = w.drewN n) (fun _ v _ => (intOf v).natAbs)
  case atStart => exact ⟨a, b, rfl, rfl, ha, ha', hb, hb', rfl, 0, rfl⟩
  case round =>
    obtain ⟨x, y, rfl, rfl, h1, h2, h3, h4, hg, n, rfl⟩ := hrel
    by_cases hy : y = 0
    · subst hy
      have hx : (x.natAbs : Int) = Int.gcd a b := by rw [← hg.out]; simp
      have HX := Lib.hid hx
      clear hx
      go_wp2
      all_goals
        go_ret
        exact ⟨congrArg (fun z => Ending.returned (Value.int .i64 z)) (by rw [← HX.out]; omega), _, rfl⟩
    · have hy1 : (y == 0) = false := by simpa using hy
      have hy2 : (y != 0) = true := by simpa using hy
      have hr := gcW_step x y
      have hl := tmW_lt x y hy
      obtain ⟨t1, t2⟩ := tmW_bd x y hy 4611686018427387904 h3 h4
      have HR := Lib.hid hr
      clear hr
      go_wp2
      go_quiet (fail)
      go_wp2
      go_roundw
      case rel => exact ⟨y, x.tmod y, rfl, rfl, h3, h4, t1, t2, HR.out.trans hg.out, n + nq, by rw [World.drewN_drewN]⟩
      case measure => simp only [intOf]; exact hl
theorem gcW_any (a b : Int) (ha : -4611686018427387904 ≤ a) (ha' : a ≤ 4611686018427387904) (hb : -4611686018427387904 ≤ b) (hb' : b ≤ 4611686018427387904) (w : World) :
    Calls Tryz.prog 46 #[.int .i64 a, .int .i64 b] w fun e w' => e = .returned (.int .i64 (Int.gcd a b)) ∧ Grow w w' :=
  (gcW_quiet a b ha ha' hb hb' w).mono fun _ _ ⟨he, n, hn⟩ => ⟨he, by rw [hn]; exact (Grow.refl _).drewN n⟩
end Go.Proofs.YtbpkfcohbefphaaGreat
namespace Go.Proofs.YtbpkfcohbefphaaGreat
open Go Go.RowKit
theorem rowq_lay {W W' : World} {s t : Bool} {a b : Option Addr} {l c k e : Nat} {ty : TypeId} {x : Rat} (hW : W' = W.alloc (.cells #[.bool s, .slice a l c, .bool t, .slice b k e] ty)) (hx : RatR W (.agg #[.bool s, .slice a l c, .bool t, .slice b k e]) x) : RowQ W' W.heap.size 0 1 (fun _ => x) := by
  obtain ⟨h0, h1, h2, h3, h4, h5⟩ := ak4 hW W' (Grow.refl _)
  refine ⟨h5, h4, fun j hj => ?_⟩
  obtain rfl : j = 0 := by omega
  exact ⟨s, a, l, c, t, b, k, e, ⟨h0, h1, h2, h3⟩, fun y hy => by injection hy with hy; rw [← hy]; exact hx.grow (ag hW)⟩
end Go.Proofs.YtbpkfcohbefphaaGreat
namespace Go.Proofs.YtbpkfcohbefphaaGreat
open Go Go.RowKit
theorem FrX.putR {w0 u : World} {t : TypeId} {F : Nat} {x : Rat} {s tt : Bool} {a b : Option Addr} {l c k e : Nat} (h : FrX w0 u (.cells #[.bool false, .slice none 0 0, .bool false, .slice none 0 0] t) F) (hx : RatR u (.agg #[.bool s, .slice a l c, .bool tt, .slice b k e]) x) :
    RowQ (st4 u F 0 (.bool s) (.slice a l c) (.bool tt) (.slice b k e)) F 0 1 (fun _ => x) ∧ Grow w0 (st4 u F 0 (.bool s) (.slice a l c) (.bool tt) (.slice b k e)) := by
  obtain ⟨y, h1, rfl, h3⟩ := h
  have hr : RowP u y.heap.size 0 1 (fun _ => none) := (rowp_alloc y t).grow h3
  have h4 := RowP.set hr (show 0 < 1 by omega) hx
  have h5 := But.st4 (X := fun b => b = y.heap.size) (But.refl _ u) (.inr rfl) (hr.q4 (show 0 < 1 by omega)) s a l c tt b k e
  simp only [Nat.zero_mul, Nat.add_zero] at h4 h5
  exact ⟨h4.mono (Nat.le_refl _) (fun j x hj hx => by rw [if_pos (by omega)]; exact hx), (((h1.trans (((Grow.refl y).alloc _).trans h3)).but _).trans h5).asGrow (fun b hb => by have := h1.size; omega)⟩
end Go.Proofs.YtbpkfcohbefphaaGreat
namespace Go.Proofs.YtbpkfcohbefphaaGreat
open Go Go.RowKit
/-- The part times 24. -/
def kE (N c d : Nat) : Nat := Nat.gcd c d * Nat.gcd c d * N / (Nat.gcd c (N / c) * c * d)
theorem kE_tab : (List.range 61).all (fun N => (divs N).all (fun c => (divs N).all (fun d => kE N c d * (Nat.gcd c (N / c) * c * d) == Nat.gcd c d * Nat.gcd c d * N && decide (kE N c d ≤ 60) && decide (1 ≤ Nat.gcd c (N / c)) && decide (Nat.gcd c (N / c) ≤ 60) && decide (Nat.gcd c d ≤ 60)))) = true := by decide +kernel
theorem divs_mem {n d : Nat} (h : d ∈ divs n) : 1 ≤ d ∧ d ≤ n ∧ n % d = 0 := by
  unfold divs at h
  rw [List.mem_filter] at h
  obtain ⟨h1, h2⟩ := h
  have := List.mem_range.1 h1
  simp at h2
  exact ⟨by omega, by omega, h2.2⟩
theorem kE_spec {N c d : Nat} (h : N ≤ 60) (hc : c ∈ divs N) (hd : d ∈ divs N) : kE N c d * (Nat.gcd c (N / c) * c * d) = Nat.gcd c d * Nat.gcd c d * N ∧ kE N c d ≤ 60 ∧ 1 ≤ Nat.gcd c (N / c) ∧ Nat.gcd c (N / c) ≤ 60 ∧ Nat.gcd c d ≤ 60 := by
  have h1 := List.all_eq_true.1 (List.all_eq_true.1 (List.all_eq_true.1 kE_tab N (List.mem_range.2 (by omega))) c hc) d hd
  simp only [Bool.and_eq_true, beq_iff_eq, decide_eq_true_eq] at h1
  obtain ⟨⟨⟨⟨a, b⟩, c⟩, d⟩, e⟩ := h1
  exact ⟨a, b, c, d, e⟩
theorem quo24 (k b : Nat) (hb : 0 < b) : (((k * b : Nat) : Int) : Rat) / (((24 * b : Nat) : Int) : Rat) = ((k : Nat) : Int) / ((24 : Int) : Rat) := by
  have h0 : (((b : Nat) : Int) : Rat) ≠ 0 := by
    intro h; rw [Rat.intCast_eq_zero_iff] at h; omega
  have h1 : (((24 * b : Nat) : Int) : Rat) = ((24 : Int) : Rat) * ((b : Int) : Rat) := by rw [Int.natCast_mul, Rat.intCast_mul]; rfl
  have h2 : (((k * b : Nat) : Int) : Rat) = ((k : Int) : Rat) * ((b : Int) : Rat) := by rw [Int.natCast_mul, Rat.intCast_mul]
  rw [h1, h2]
  have h3 : ((24 : Int) : Rat) ≠ 0 := by decide +kernel
  grind
theorem w64m (m : Nat) (hm : m ≤ 1000000000) {z : Int} (h : z = (m : Int)) : IntKind.i64.wrap z = (m : Int) ∧ wrap64 z = (m : Int) := by
  rw [h]; exact w64n (by omega)
set_option maxRecDepth 20000 in
set_option maxHeartbeats 8000000 in
theorem partQ (N c d : Nat) (hN : N ≤ 60) (hc : c ∈ divs N) (hd : d ∈ divs N) (w : World) :
    Calls Tryz.prog 87 #[.int .i64 (N : Int), .int .i64 (c : Int), .int .i64 (d : Int)] w fun e w' => ∃ v, e = .returned v ∧ RatR w' v (((kE N c d : Nat) : Int) / ((24 : Int) : Rat)) ∧ Grow w w' := by
  obtain ⟨hk1, hk2, hk3, hk4, hk5⟩ := kE_spec hN hc hd
  obtain ⟨hc1, hc2, -⟩ := divs_mem hc
  obtain ⟨hd1, hd2, -⟩ := divs_mem hd
  clear hc hd
  have G1 : Hid (∀ u, Calls Tryz.prog 46 #[.int .i64 (c : Int), .int .i64 (d : Int)] u fun e w' => e = .returned (.int .i64 ((Nat.gcd c d : Nat) : Int)) ∧ Grow u w') := Lib.hid (fun u => gcW_any c d (by omega) (by omega) (by omega) (by omega) u)
  have G2 : Hid (∀ u, Calls Tryz.prog 46 #[.int .i64 (c : Int), .int .i64 ((N / c : Nat) : Int)] u fun e w' => e = .returned (.int .i64 ((Nat.gcd c (N / c) : Nat) : Int)) ∧ Grow u w') := Lib.hid (fun u => gcW_any c ((N / c : Nat) : Int) (by omega) (by omega) (by generalize N / c = q at *; omega) (by have := Nat.div_le_self N c; generalize N / c = q at *; omega) u)
  have E9 : Hid (Int.tdiv (N : Int) (c : Int) = ((N / c : Nat) : Int)) := Lib.hid (by rw [Int.tdiv_eq_ediv_of_nonneg (by omega)]; rfl)
  have hqb : N / c ≤ 60 := Nat.le_trans (Nat.div_le_self _ _) hN
  obtain ⟨K, hK⟩ : ∃ K, kE N c d = K := ⟨_, rfl⟩
  obtain ⟨g, hg⟩ : ∃ g, Nat.gcd c d = g := ⟨_, rfl⟩
  obtain ⟨q, hq⟩ : ∃ q, N / c = q := ⟨_, rfl⟩
  rw [hq] at hk1 hk3 hk4 G2 E9 hqb
  obtain ⟨r, hr⟩ : ∃ r, Nat.gcd c q = r := ⟨_, rfl⟩
  rw [hg] at hk1 hk5 G1
  rw [hr] at hk1 hk3 hk4 G2
  rw [hK] at hk1 hk2
  rw [hK]
  clear hK hg hq hr
  obtain ⟨gg, hgg⟩ : ∃ gg, g * g = gg := ⟨_, rfl⟩
  have hggb : gg ≤ 3600 := by rw [← hgg]; exact Nat.mul_le_mul hk5 hk5
  obtain ⟨gn, hgn⟩ : ∃ gn, gg * N = gn := ⟨_, rfl⟩
  have hgnb : gn ≤ 3600 * 60 := by rw [← hgn]; exact Nat.mul_le_mul hggb hN
  obtain ⟨rc, hrc⟩ : ∃ rc, r * c = rc := ⟨_, rfl⟩
  have hrcb : rc ≤ 60 * 60 := by rw [← hrc]; exact Nat.mul_le_mul hk4 (by omega)
  have hrc0 : 0 < rc := by rw [← hrc]; exact Nat.mul_pos (by omega) (by omega)
  obtain ⟨rd, hrd⟩ : ∃ rd, rc * d = rd := ⟨_, rfl⟩
  have hrdb : rd ≤ 3600 * 60 := by rw [← hrd]; exact Nat.mul_le_mul hrcb (by omega)
  have hrd0 : 0 < rd := by rw [← hrd]; exact Nat.mul_pos hrc0 (by omega)
  rw [hgg, hgn, hrc, hrd] at hk1
  obtain ⟨a, ha⟩ : ∃ a, 24 * r = a := ⟨_, rfl⟩
  obtain ⟨b, hb⟩ : ∃ b, 24 * rc = b := ⟨_, rfl⟩
  obtain ⟨e, he⟩ : ∃ e, 24 * rd = e := ⟨_, rfl⟩
  have hab : a * c = b := by rw [← ha, ← hb, ← hrc, Nat.mul_assoc]
  have hbe : b * d = e := by rw [← hb, ← he, ← hrd, Nat.mul_assoc]
  have O1 := Lib.hid (fun u => ofQ (gn : Int) (by omega) u)
  have O2 := Lib.hid (fun u => ofQ (e : Int) (by omega) u)
  have QU : Hid (∀ (u : World) (v1 v2 : Value), RatR u v1 ((gn : Int) : Rat) → RatR u v2 ((e : Int) : Rat) → Calls Tryz.prog 50 #[v1, v2] u fun x w' => ∃ v, x = .returned (.tuple #[v, .int .i64 0]) ∧ RatR w' v (((K : Nat) : Int) / ((24 : Int) : Rat)) ∧ Grow u w') :=
    Lib.hid (fun u v1 v2 g1 g2 => by
      have h := quoQ ((gn : Int) : Rat) ((e : Int) : Rat) v1 v2 (fun h => by rw [Rat.intCast_eq_zero_iff] at h; omega) (by rw [Rat.num_intCast, Rat.den_intCast]; omega) (by rw [Rat.num_intCast, Rat.den_intCast]; omega) u g1 g2
      rw [← hk1, ← he, quo24 K rd hrd0] at h
      exact h)
  have E1 := Lib.hid (w64m gg (by omega) (z := (g : Int) * (g : Int)) (by rw [← hgg]; simp))
  have E2 := Lib.hid (w64m gn (by omega) (z := (gg : Int) * (N : Int)) (by rw [← hgn]; simp))
  have E3 := Lib.hid (w64m a (by omega) (z := 24 * (r : Int)) (by omega))
  have E4 := Lib.hid (w64m b (by omega) (z := (a : Int) * (c : Int)) (by rw [← hab]; simp))
  have E5 := Lib.hid (w64m e (by omega) (z := (b : Int) * (d : Int)) (by rw [← hbe]; simp))
  have hc0 : ¬ (c : Int) = 0 := by omega
  have hcn : ¬ c = 0 := by omega
  have E6 := Lib.hid (w64m q (by omega) (z := (q : Int)) rfl)
  have hcb : ((c : Int) == 0) = false := by simp; omega
  have hcb' : ((c : Int) != 0) = true := by simp; omega
  clear hk1 hk2 hk3 hk4 hk5 hgg hggb hgn hgnb hrc hrcb hrc0 hrd hrdb hrd0 ha hb he hab hbe hqb hc1 hc2 hd1 hd2
  obtain ⟨W1, hW1⟩ : ∃ W1 : World, W1 = w.alloc (.cells #[.bool false, .slice none 0 0, .bool false, .slice none 0 0] 36) := ⟨_, rfl⟩
  have hg1 := ag hW1
  have K1 := Lib.hid (ak4 hW1)
  have RC : Hid (RowP W1 w.heap.size 0 1 (fun _ => none)) := Lib.hid (by rw [hW1]; exact rowp_alloc w _)
  have HW1 := Lib.hid hW1
  clear hW1
  go_enter Tryz.func87, Tryz.ntmps87
  go_upto_region 1 with fail
  rw [← HW1.out]
  go_upto_region 2 with (go_at_call 46; (with_reducible refine (G1.out _).mono ?_); (rintro x u2 ⟨rfl, hb2⟩))
  have HG2 := Lib.hid (hg1.trans hb2)
  have HB2 := Lib.hid hb2
  clear hb2 hg1
  obtain ⟨e1, e1'⟩ := E1.out
  obtain ⟨e2, e2'⟩ := E2.out
  obtain ⟨e3, e3'⟩ := E3.out
  obtain ⟨e4, e4'⟩ := E4.out
  obtain ⟨e5, e5'⟩ := E5.out
  have e9 := E9.out
  obtain ⟨e6, e6'⟩ := E6.out
  refine region_flex (id := 2) u2 [⟨21, 8, .cells #[.bool false, .slice none 0 0, .bool false, .slice none 0 0] 36⟩] [0, 1, 2, 3, 4, 6, 7, 8, 9, 12, 14, 5, 10, 11, 13, 15, 16, 17, 18, 19, 20] [22, 23] (kdL [0, 0, 0, 0, 0, 2, 0, 0, 0, 0, 2, 0, 0, 0, 0, 0, 2, 2, 0, 0, 0, 2, 3, 0]) (by kernel_rfl) (by kernel_rfl) (fun t ht => kdL_lt _ t ht) (by simp) (by simp) ?hgq ?halq ?_
  case hgq => (repeat (first | with_reducible exact Grow.refl _ | with_reducible refine Grow.alloc ?_ _ | with_reducible refine Grow.drew ?_ | with_reducible refine Grow.drewN ?_ _ | (with_reducible refine Grow.setCell ?_ ?hp _; (case hp => (simp; try omega))) | with_reducible refine Grow.trans ?_ (by assumption)))
  case halq => (intro x hx; simp only [List.mem_cons, List.not_mem_nil, or_false] at hx; subst hx; all_goals (refine ⟨⟨_, rfl, rfl⟩, fun K a u hK => ?_⟩; refine wpOp_step rfl (fun K' hK' => ?_); go_simp; exact hK' _ _ hK))
  refine flex_quiet (v := ?vq0) rfl rfl (fun t => Or.inl ⟨by rfl, ?hyq0⟩) ?_
  case hyq0 => (intro u hu; simp only [aof, List.foldl_cons, List.foldl_nil, Act.put, List.setIfInBounds_toArray, List.set_cons_zero, List.set_cons_succ]; go_simp; (try with_reducible rfl))
  (try simp only [Act.put, List.setIfInBounds_toArray, List.set_cons_zero, List.set_cons_succ])
  refine flex_quiet (v := ?vq1) rfl rfl (fun t => Or.inl ⟨by rfl, ?hyq1⟩) ?_
  case hyq1 => (intro u hu; simp only [aof, List.foldl_cons, List.foldl_nil, Act.put, List.setIfInBounds_toArray, List.set_cons_zero, List.set_cons_succ]; go_simp; (try with_reducible rfl))
  (try simp only [Act.put, List.setIfInBounds_toArray, List.set_cons_zero, List.set_cons_succ])
  refine flex_quiet (v := ?vq2) rfl rfl (fun t => Or.inl ⟨by rfl, ?hyq2⟩) ?_
  case hyq2 => (intro u hu; simp only [aof, List.foldl_cons, List.foldl_nil, Act.put, List.setIfInBounds_toArray, List.set_cons_zero, List.set_cons_succ]; go_simp; (try with_reducible rfl))
  (try simp only [Act.put, List.setIfInBounds_toArray, List.set_cons_zero, List.set_cons_succ])
  refine flex_quiet (v := ?vq3) rfl rfl (fun t => Or.inl ⟨by rfl, ?hyq3⟩) ?_
  case hyq3 => (intro u hu; simp only [aof, List.foldl_cons, List.foldl_nil, Act.put, List.setIfInBounds_toArray, List.set_cons_zero, List.set_cons_succ]; go_simp; (try with_reducible rfl))
  (try simp only [Act.put, List.setIfInBounds_toArray, List.set_cons_zero, List.set_cons_succ])
  refine flex_quiet (v := ?vq4) rfl rfl (fun t => Or.inl ⟨by rfl, ?hyq4⟩) ?_
  case hyq4 => (intro u hu; simp only [aof, List.foldl_cons, List.foldl_nil, Act.put, List.setIfInBounds_toArray, List.set_cons_zero, List.set_cons_succ]; go_simp; (try with_reducible rfl))
  (try simp only [Act.put, List.setIfInBounds_toArray, List.set_cons_zero, List.set_cons_succ])
  refine flex_quiet (v := ?vq6) rfl rfl (fun t => Or.inl ⟨by rfl, ?hyq6⟩) ?_
  case hyq6 => (intro u hu; simp only [aof, List.foldl_cons, List.foldl_nil, Act.put, List.setIfInBounds_toArray, List.set_cons_zero, List.set_cons_succ]; go_simp; (try with_reducible rfl))
  (try simp only [Act.put, List.setIfInBounds_toArray, List.set_cons_zero, List.set_cons_succ])
  refine flex_quiet (v := ?vq7) rfl rfl (fun t => Or.inl ⟨by rfl, ?hyq7⟩) ?_
  case hyq7 => (intro u hu; simp only [aof, List.foldl_cons, List.foldl_nil, Act.put, List.setIfInBounds_toArray, List.set_cons_zero, List.set_cons_succ]; go_simp; (try with_reducible rfl))
  (try simp only [Act.put, List.setIfInBounds_toArray, List.set_cons_zero, List.set_cons_succ])
  refine flex_quiet (v := ?vq8) rfl rfl (fun t => Or.inl ⟨by rfl, ?hyq8⟩) ?_
  case hyq8 => (intro u hu; simp only [aof, List.foldl_cons, List.foldl_nil, Act.put, List.setIfInBounds_toArray, List.set_cons_zero, List.set_cons_succ]; go_simp; (try with_reducible rfl))
  (try simp only [Act.put, List.setIfInBounds_toArray, List.set_cons_zero, List.set_cons_succ])
  refine flex_quiet (v := ?vq9) rfl rfl (fun t => Or.inl ⟨by rfl, ?hyq9⟩) ?_
  case hyq9 => (intro u hu; simp only [aof, List.foldl_cons, List.foldl_nil, Act.put, List.setIfInBounds_toArray, List.set_cons_zero, List.set_cons_succ]; go_simp; (try with_reducible rfl))
  (try simp only [Act.put, List.setIfInBounds_toArray, List.set_cons_zero, List.set_cons_succ])
  refine flex_quiet (v := ?vq12) rfl rfl (fun t => Or.inl ⟨by rfl, ?hyq12⟩) ?_
  case hyq12 => (intro u hu; simp only [aof, List.foldl_cons, List.foldl_nil, Act.put, List.setIfInBounds_toArray, List.set_cons_zero, List.set_cons_succ]; go_simp; (try with_reducible rfl))
  (try simp only [Act.put, List.setIfInBounds_toArray, List.set_cons_zero, List.set_cons_succ])
  refine flex_quiet (v := ?vq14) rfl rfl (fun t => Or.inl ⟨by rfl, ?hyq14⟩) ?_
  case hyq14 => (intro u hu; simp only [aof, List.foldl_cons, List.foldl_nil, Act.put, List.setIfInBounds_toArray, List.set_cons_zero, List.set_cons_succ]; go_simp; (try with_reducible rfl))
  (try simp only [Act.put, List.setIfInBounds_toArray, List.set_cons_zero, List.set_cons_succ])
  refine flex_op rfl rfl (fun t5 u5 hu5 K hK => ?_)
  simp only [aof, List.foldl_cons, List.foldl_nil, Act.put, List.setIfInBounds_toArray, List.set_cons_zero, List.set_cons_succ]
  go_simp
  (go_at_call 18; (with_reducible refine (O1.out _).mono ?_); (rintro x u35 ⟨v35, rfl, hv35, hb35⟩; obtain ⟨s35, a35, l35, c35, t35, b35, k35, e35, rfl⟩ := hv35.form; have HV35 := Lib.hid hv35; clear hv35))
  (try go_wp2_with fail)
  refine hK.out _ (.agg #[.bool s35, .slice a35 l35 c35, .bool t35, .slice b35 k35 e35]) _ ?heq5 ?hgq5 ?_
  case heq5 => (simp only [aof, List.foldl_cons, List.foldl_nil, Act.put, List.setIfInBounds_toArray, List.set_cons_zero, List.set_cons_succ])
  case hgq5 => (repeat (first | with_reducible exact Grow.refl _ | with_reducible refine Grow.alloc ?_ _ | with_reducible refine Grow.drew ?_ | with_reducible refine Grow.drewN ?_ _ | (with_reducible refine Grow.setCell ?_ ?hp _; (case hp => (simp; try omega))) | with_reducible refine Grow.trans ?_ (by assumption)))
  clear hK K t5
  (try simp only [Act.put, List.setIfInBounds_toArray, List.set_cons_zero, List.set_cons_succ])
  refine flex_op rfl rfl (fun t10 u10 hu10 K hK => ?_)
  simp only [aof, List.foldl_cons, List.foldl_nil, Act.put, List.setIfInBounds_toArray, List.set_cons_zero, List.set_cons_succ]
  go_simp
  (go_at_call 46; (with_reducible refine (G2.out _).mono ?_); (rintro x u40 ⟨rfl, hb40⟩))
  (try go_wp2_with fail)
  refine hK.out _ (.int .i64 (r : Int)) _ ?heq10 ?hgq10 ?_
  case heq10 => (simp only [aof, List.foldl_cons, List.foldl_nil, Act.put, List.setIfInBounds_toArray, List.set_cons_zero, List.set_cons_succ])
  case hgq10 => (repeat (first | with_reducible exact Grow.refl _ | with_reducible refine Grow.alloc ?_ _ | with_reducible refine Grow.drew ?_ | with_reducible refine Grow.drewN ?_ _ | (with_reducible refine Grow.setCell ?_ ?hp _; (case hp => (simp; try omega))) | with_reducible refine Grow.trans ?_ (by assumption)))
  clear hK K t10
  (try simp only [Act.put, List.setIfInBounds_toArray, List.set_cons_zero, List.set_cons_succ])
  refine flex_quiet (v := ?vq11) rfl rfl (fun t => Or.inl ⟨by rfl, ?hyq11⟩) ?_
  case hyq11 => (intro u hu; simp only [aof, List.foldl_cons, List.foldl_nil, Act.put, List.setIfInBounds_toArray, List.set_cons_zero, List.set_cons_succ]; go_simp; (try with_reducible rfl))
  (try simp only [Act.put, List.setIfInBounds_toArray, List.set_cons_zero, List.set_cons_succ])
  refine flex_quiet (v := ?vq13) rfl rfl (fun t => Or.inl ⟨by rfl, ?hyq13⟩) ?_
  case hyq13 => (intro u hu; simp only [aof, List.foldl_cons, List.foldl_nil, Act.put, List.setIfInBounds_toArray, List.set_cons_zero, List.set_cons_succ]; go_simp; (try with_reducible rfl))
  (try simp only [Act.put, List.setIfInBounds_toArray, List.set_cons_zero, List.set_cons_succ])
  refine flex_quiet (v := ?vq15) rfl rfl (fun t => Or.inl ⟨by rfl, ?hyq15⟩) ?_
  case hyq15 => (intro u hu; simp only [aof, List.foldl_cons, List.foldl_nil, Act.put, List.setIfInBounds_toArray, List.set_cons_zero, List.set_cons_succ]; go_simp; (try with_reducible rfl))
  (try simp only [Act.put, List.setIfInBounds_toArray, List.set_cons_zero, List.set_cons_succ])
  refine flex_op rfl rfl (fun t16 u16 hu16 K hK => ?_)
  simp only [aof, List.foldl_cons, List.foldl_nil, Act.put, List.setIfInBounds_toArray, List.set_cons_zero, List.set_cons_succ]
  go_simp
  (go_at_call 18; (with_reducible refine (O2.out _).mono ?_); (rintro x u46 ⟨v46, rfl, hv46, hb46⟩; obtain ⟨s46, a46, l46, c46, t46, b46, k46, e46, rfl⟩ := hv46.form; have HV46 := Lib.hid hv46; clear hv46))
  (try go_wp2_with fail)
  refine hK.out _ (.agg #[.bool s46, .slice a46 l46 c46, .bool t46, .slice b46 k46 e46]) _ ?heq16 ?hgq16 ?_
  case heq16 => (simp only [aof, List.foldl_cons, List.foldl_nil, Act.put, List.setIfInBounds_toArray, List.set_cons_zero, List.set_cons_succ])
  case hgq16 => (repeat (first | with_reducible exact Grow.refl _ | with_reducible refine Grow.alloc ?_ _ | with_reducible refine Grow.drew ?_ | with_reducible refine Grow.drewN ?_ _ | (with_reducible refine Grow.setCell ?_ ?hp _; (case hp => (simp; try omega))) | with_reducible refine Grow.trans ?_ (by assumption)))
  clear hK K t16
  (try simp only [Act.put, List.setIfInBounds_toArray, List.set_cons_zero, List.set_cons_succ])
  refine flex_op rfl rfl (fun t17 u17 hu17 K hK => ?_)
  simp only [aof, List.foldl_cons, List.foldl_nil, Act.put, List.setIfInBounds_toArray, List.set_cons_zero, List.set_cons_succ]
  go_simp
  (go_at_call 50; (with_reducible refine (QU.out _ _ _ (HV35.out.grow (by (repeat (first | with_reducible exact Grow.refl _ | with_reducible refine Grow.alloc ?_ _ | with_reducible refine Grow.drew ?_ | with_reducible refine Grow.drewN ?_ _ | (with_reducible refine Grow.setCell ?_ ?hp _; (case hp => (simp; try omega))) | with_reducible refine Grow.trans ?_ (by assumption))))) (HV46.out.grow (by (repeat (first | with_reducible exact Grow.refl _ | with_reducible refine Grow.alloc ?_ _ | with_reducible refine Grow.drew ?_ | with_reducible refine Grow.drewN ?_ _ | (with_reducible refine Grow.setCell ?_ ?hp _; (case hp => (simp; try omega))) | with_reducible refine Grow.trans ?_ (by assumption)))))).mono ?_); (rintro x u47 ⟨v47, rfl, hv47, hb47⟩; obtain ⟨s47, a47, l47, c47, t47, b47, k47, e47, rfl⟩ := hv47.form; have HV47 := Lib.hid hv47; clear hv47))
  (try go_wp2_with fail)
  refine hK.out _ (.tuple #[.agg #[.bool s47, .slice a47 l47 c47, .bool t47, .slice b47 k47 e47], .int .i64 0]) _ ?heq17 ?hgq17 ?_
  case heq17 => (simp only [aof, List.foldl_cons, List.foldl_nil, Act.put, List.setIfInBounds_toArray, List.set_cons_zero, List.set_cons_succ])
  case hgq17 => (repeat (first | with_reducible exact Grow.refl _ | with_reducible refine Grow.alloc ?_ _ | with_reducible refine Grow.drew ?_ | with_reducible refine Grow.drewN ?_ _ | (with_reducible refine Grow.setCell ?_ ?hp _; (case hp => (simp; try omega))) | with_reducible refine Grow.trans ?_ (by assumption)))
  clear hK K t17
  (try simp only [Act.put, List.setIfInBounds_toArray, List.set_cons_zero, List.set_cons_succ])
  refine flex_quiet (v := ?vq18) rfl rfl (fun t => Or.inl ⟨by rfl, ?hyq18⟩) ?_
  case hyq18 => (intro u hu; simp only [aof, List.foldl_cons, List.foldl_nil, Act.put, List.setIfInBounds_toArray, List.set_cons_zero, List.set_cons_succ]; go_simp; (try with_reducible rfl))
  (try simp only [Act.put, List.setIfInBounds_toArray, List.set_cons_zero, List.set_cons_succ])
  refine flex_quiet (v := ?vq19) rfl rfl (fun t => Or.inl ⟨by rfl, ?hyq19⟩) ?_
  case hyq19 => (intro u hu; simp only [aof, List.foldl_cons, List.foldl_nil, Act.put, List.setIfInBounds_toArray, List.set_cons_zero, List.set_cons_succ]; go_simp; (try with_reducible rfl))
  (try simp only [Act.put, List.setIfInBounds_toArray, List.set_cons_zero, List.set_cons_succ])
  refine flex_quiet (v := ?vq20) rfl rfl (fun t => Or.inl ⟨by rfl, ?hyq20⟩) ?_
  case hyq20 => (intro u hu; simp only [aof, List.foldl_cons, List.foldl_nil, Act.put, List.setIfInBounds_toArray, List.set_cons_zero, List.set_cons_succ]; go_simp; (try with_reducible rfl))
  (try simp only [Act.put, List.setIfInBounds_toArray, List.set_cons_zero, List.set_cons_succ])
  refine flex_done (fun Fq uq huq hFq hNq => ?_)
  have hFq0 := hFq ⟨21, 8, .cells #[.bool false, .slice none 0 0, .bool false, .slice none 0 0] 36⟩ (by simp)
  clear hFq hNq
  (try simp only [aof, List.foldl_cons, List.foldl_nil, Act.put, List.setIfInBounds_toArray, List.set_cons_zero, List.set_cons_succ, ptrX])
  generalize Fq 21 = Fbq0 at *
  clear Fq
  have hFX := hFq0
  obtain ⟨hFx, hF1, hF2, hF3⟩ := hFq0
  obtain ⟨o0, o1, o2, o3, of, oz⟩ := ak4 rfl _ hF3
  rw [hF2] at o0 o1 o2 o3 of oz
  refine held_last rfl rfl (fun K hK => ?_)
  go_simp
  refine hK.out _ _ ?_
  clear hK K
  (try simp only [Act.put])
  refine held_quiet (v := ?vq23) rfl rfl (Or.inl ⟨by rfl, ?hyq23⟩) ?_
  case hyq23 => (intro u hu; go_simp; (try with_reducible rfl))
  (try simp only [Act.put])
  refine held_done ?_
  clear e1 e1' e2 e2' e3 e3' e4 e4' e5 e5' e9 e6 e6'
  obtain ⟨hQ, hG⟩ := FrX.putR hFX (HV47.out.grow huq)
  obtain ⟨w10, hw10⟩ : ∃ w10, st4 uq Fbq0 0 (.bool s47) (.slice a47 l47 c47) (.bool t47) (.slice b47 k47 e47) = w10 := ⟨_, rfl⟩
  have hw11 : ((((uq.setCell ⟨Fbq0, 0, none⟩ (.bool s47)).setCell ⟨Fbq0, 1, none⟩ (.slice a47 l47 c47)).setCell ⟨Fbq0, 2, none⟩ (.bool t47)).setCell ⟨Fbq0, 3, none⟩ (.slice b47 k47 e47)) = w10 := hw10
  rw [hw10] at hQ hG
  rw [hw11]
  obtain ⟨s11, a11, l11, c11, t11, b11, k11, e11, ⟨p0, p1, p2, p3⟩, hv11⟩ := RowQ.at4 hQ (show 0 < 1 by omega)
  rw [Nat.zero_mul, Nat.add_zero] at p0 p1 p2 p3
  have hg10 : Grow W1 w10 := HB2.out.trans hG
  obtain ⟨x0, x1, x2, x3, x4, x5⟩ := K1.out w10 hg10
  have HV11 := Lib.hid hv11
  have HG10 := Lib.hid hg10
  have HGW := Lib.hid (HG2.out.trans hG)
  have hlF := hQ.lt
  have hfF := hQ.free
  clear hw10 hw11 hQ hG hv11 hFX o0 o1 o2 o3 of oz hFx hF1 hF2 hF3 huq HV47 hg10
  go_simp
  go_wp2_with fail
  obtain ⟨h1, h2⟩ := rescell (w := w) (RC.out.grow HG10.out) (Nat.le_refl _) HGW.out HV11.out
  exact bodyPost_ret (v := .agg #[.bool s11, .slice a11 l11 c11, .bool t11, .slice b11 k11 e11]) (by rw [results_one rfl]; go_simp) rfl ⟨_, rfl, h1, h2⟩
end Go.Proofs.YtbpkfcohbefphaaGreat
