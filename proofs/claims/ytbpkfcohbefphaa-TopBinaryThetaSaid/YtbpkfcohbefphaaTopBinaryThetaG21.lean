/- Lemmas, plain laws and walks that the statement LwBinaryTheta leans on (texts TwB, TwC, TwD, TwE), conditions as each theorem says. -/
import Derived.Test.YtbpkfcohbefphaaTopBinaryThetaG11
import Derived.Test.YtbpkfcohbefphaaTopBinaryThetaG15
import Derived.Test.YtbpkfcohbefphaaTopBinaryThetaG18
import Derived.Test.YtbpkfcohbefphaaTopBinaryThetaG20

/- Walks of theta: Check, inverse. -/
namespace Go.Proofs.Ytbpkfcohbefphaa
open Go Go.RowKit

theorem ix_lt {i k n : Nat} (hi : i < n) (hk : k < n) (hn : n ≤ 8) : i * n + k < n * n ∧ i * n ≤ 64 ∧ i * n + k ≤ 128 := by
  have h1 := Nat.mul_le_mul_right n (show i + 1 ≤ n from hi)
  rw [Nat.add_mul, Nat.one_mul] at h1
  have h2 : n * n ≤ 8 * 8 := Nat.mul_le_mul hn hn
  omega
theorem inc_wrap {i n : Nat} (hi : i < n) (hn : n ≤ 100000) : IntKind.i64.wrap ((i : Int) + 1) = ((i + 1 : Nat) : Int) ∧ wrap64 ((i : Int) + 1) = ((i + 1 : Nat) : Int) := by
  obtain ⟨a, b⟩ := w64n (n := (i : Int) + 1) (by omega)
  exact ⟨a.trans (by omega), b.trans (by omega)⟩
/-- Index arithmetic of a square. -/
theorem ix_wrap {i k n q : Nat} (hi : i < n) (hk : k < n) (hn : n ≤ 8) (hq : i * n + k = q) : ∃ p : Nat, IntKind.i64.wrap ((i : Int) * (n : Int)) = (p : Int) ∧ wrap64 ((i : Int) * (n : Int)) = (p : Int) ∧ IntKind.i64.wrap ((p : Int) + (k : Int)) = (q : Int) ∧ wrap64 ((p : Int) + (k : Int)) = (q : Int) := by
  obtain ⟨h1, h2, h3⟩ := ix_lt hi hk hn
  refine ⟨i * n, ?_⟩
  have e1 : (i : Int) * (n : Int) = ((i * n : Nat) : Int) := by simp
  have e2 : ((i * n : Nat) : Int) + (k : Int) = (q : Int) := by rw [← hq]; simp
  obtain ⟨a, b⟩ := w64n (n := ((i * n : Nat) : Int)) (by omega)
  obtain ⟨c, d⟩ := w64n (n := (q : Int)) (by omega)
  exact ⟨by rw [e1]; exact a, by rw [e1]; exact b, by rw [e2]; exact c, by rw [e2]; exact d⟩
set_option maxRecDepth 20000 in
set_option maxHeartbeats 8000000 in
theorem checkT (n N B off c : Nat) (f : Nat → Int) (M : Nat → Nat → Rat) (hN : N = n * n) (hn0 : 0 < n) (hn : n ≤ 8) (hf : ∀ i, i < N → -1000 ≤ f i ∧ f i ≤ 1000) (hsym : ∀ i k, i < n → k < n → f (i * n + k) = f (k * n + i)) (hev : ∀ i, i < n → Int.tmod (f (i * n + i)) 2 = 0)
    (hM : ∀ i j, M i j = (f (i * n + j) : Rat)) (hS : ∀ i j, j < i → i < n → M i j = M j i ∧ AddB (M i j) (-(M j i))) (hB : ∀ k, k < n → SigSB n k (sigM n k M)) (w : World) (hA : IntQ w B off N f) :
    Calls Try.prog 14 #[.agg #[.int .i64 (n : Int), .slice (some ⟨B, off, none⟩) N c]] w fun e w' => e = .returned (.int .i64 0) ∧ Grow w w' := by
  have hNb : N ≤ 64 := by rw [hN]; exact Nat.mul_le_mul hn hn
  have hNp : 0 < N := by rw [hN]; exact Nat.mul_pos hn0 hn0
  have IN := Lib.hid (fun (u : World) (hu : Grow w u) => insideQ N B off c f (by omega) hf u (hA.grow hu))
  have OV := Lib.hid (fun (u : World) (hu : Grow w u) => overT n N B off c f hNp (by omega) (fun i hi => by have := hf i hi; omega) u (hA.grow hu))
  have SG := Lib.hid (fun (u : World) (B' c' : Nat) (hr : RowQ u B' 0 N (fun i => (f i : Rat))) => signatureQ n N B' 0 c' (fun i => (f i : Rat)) M hN (by omega) (fun i j => hM i j) hS hB u hr)
  have HA := Lib.hid hA
  have HSY := Lib.hid hsym
  have HEV := Lib.hid hev
  have HN := Lib.hid hN
  have e0 : (n : Int) * (n : Int) = (N : Int) := by rw [hN]; simp
  have y0 := Lib.hid (w64n (n := (N : Int)) (by omega))
  have y1 : IntKind.i64.wrap ((n : Int) * (n : Int)) = (N : Int) ∧ wrap64 ((n : Int) * (n : Int)) = (N : Int) := by rw [e0]; exact y0.out
  have Y1 := Lib.hid y1
  clear hA hsym hev hN hM hS hB e0 y0 y1 hf
  obtain ⟨W1, hW1⟩ : ∃ W1 : World, W1 = w.alloc (.cells #[.int .i64 (n : Int), .slice (some ⟨B, off, none⟩) N c] 34) := ⟨_, rfl⟩
  have hg1 := ag hW1
  have K1 := Lib.hid (ak2 hW1)
  have HW1 := Lib.hid hW1
  clear hW1
  obtain ⟨y1a, y1b⟩ := Y1.out
  have x0 : decide ((n : Int) < 1) = false := by simp; omega
  have x1 : decide ((n : Int) > 8) = false := by simp; omega
  go_enter Try.func14, Try.ntmps14
  go_upto_region 1 with fail
  rw [← HW1.out]
  obtain ⟨b0, b1, b2, b3⟩ := K1.out W1 (Grow.refl _)
  go_wp2_with (go_at_call 25; (with_reducible refine (IN.out _ (by (repeat (first | with_reducible exact Grow.refl _ | with_reducible refine Grow.alloc ?_ _ | with_reducible refine Grow.drew ?_ | with_reducible refine Grow.drewN ?_ _ | (with_reducible refine Grow.setCell ?_ ?hp _; (case hp => (simp; try omega))) | with_reducible refine Grow.trans ?_ (by assumption))))).mono ?_); (rintro e u1 ⟨rfl, rfl⟩))
  clear y1a y1b x0 x1
  go_loopg [33] n (fun gk t33 wr => ∃ i : Nat, t33 = .int .i64 (i : Int) ∧ i ≤ n ∧ Hid (gk = n - i) ∧ Hid (Grow W1 wr))
  case atStart => exact ⟨0, rfl, Nat.zero_le _, Lib.hid rfl, Lib.hid (Grow.refl _)⟩
  case round =>
    obtain ⟨i, rfl, hi2, HGK, HG⟩ := hrel
    by_cases hin : i = n
    · have y1 : decide ((i : Int) < (n : Int)) = false := by simp; omega
      have y2 : ¬ (i < n) := by omega
      obtain ⟨d0, d1, d2, d3⟩ := K1.out wr HG.out
      have hgw : Grow w wr := hg1.trans HG.out
      have HGW := Lib.hid hgw
      clear hg1 b0 b1 b2 b3 hgw
      go_wp2_with (first
        | (go_at_call 27; (with_reducible refine (OV.out _ HGW.out).mono ?_); (rintro e u2 ⟨B2, c2, rfl, hr2, hb2⟩; have HR2 := Lib.hid hr2; clear hr2))
        | (go_at_call 26; (with_reducible refine (SG.out _ _ _ HR2.out).mono ?_); (rintro e u3 ⟨rfl, hb3⟩)))
      go_ret
      exact ⟨rfl, HGW.out.trans (by (repeat (first | with_reducible exact Grow.refl _ | with_reducible refine Grow.alloc ?_ _ | with_reducible refine Grow.drew ?_ | with_reducible refine Grow.drewN ?_ _ | (with_reducible refine Grow.setCell ?_ ?hp _; (case hp => (simp; try omega))) | with_reducible refine Grow.trans ?_ (by assumption))))⟩
    · have hi : i < n := by omega
      have z0 : (0 : Int) ≤ (i : Int) := by omega
      have z1 : (i : Int) < (n : Int) := by omega
      go_wp2_with fail
      go_loopg [37] n (fun gk2 t37 wx => ∃ k : Nat, t37 = .int .i64 (k : Int) ∧ k ≤ n ∧ Hid (gk2 = n - k) ∧ Hid (Grow W1 wx))
      case atStart => exact ⟨0, rfl, Nat.zero_le _, Lib.hid rfl, HG⟩
      case round =>
        clear HG
        obtain ⟨k, rfl, hk2, HGK2, HG⟩ := hrel
        by_cases hkn : k = n
        · have Hi := Lib.hid hi
          have v1 : decide ((k : Int) < (n : Int)) = false := by simp; omega
          have v2 : ¬ (k < n) := by omega
          obtain ⟨d0, d1, d2, d3⟩ := K1.out wr HG.out
          obtain ⟨q, hq⟩ : ∃ q, i * n + i = q := ⟨_, rfl⟩
          have AW := Lib.hid (ix_wrap hi hi hn hq)
          have Y4 := Lib.hid (inc_wrap hi (by omega))
          have hqN : q < N := by rw [HN.out, ← hq]; exact (ix_lt hi hi hn).1
          have hcq := ((HA.out.grow hg1).grow HG.out).cell q hqN
          have hev := HEV.out i hi
          rw [hq] at hev
          have p0 : (0 : Int) ≤ (q : Int) := by omega
          have p1 : (q : Int) < (N : Int) := by omega
          clear hq hkn hk2 hi2 hi hin
          obtain ⟨pq, a1, a2, a3, a4⟩ := AW.out
          obtain ⟨y4, y3⟩ := Y4.out
          have y5 : IntKind.i64.wrap (0 : Int) = 0 := by decide
          go_wp2_with fail
          clear y4 y3 a1 a2 a3 a4 y5
          go_roundg (n - (i + 1))
          case measure => have := HGK.out; have := Hi.out; omega
          case rel => exact ⟨i + 1, rfl, Hi.out, Lib.hid rfl, HG⟩
        · have hk : k < n := by omega
          have v0 : (0 : Int) ≤ (k : Int) := by omega
          have v1 : (k : Int) < (n : Int) := by omega
          have KC := Lib.hid (fun (u : World) (hu : Grow wr u) => K1.out u (HG.out.trans hu))
          obtain ⟨q, hq⟩ : ∃ q, i * n + k = q := ⟨_, rfl⟩
          obtain ⟨r, hr⟩ : ∃ r, k * n + i = r := ⟨_, rfl⟩
          have hqN : q < N := by rw [HN.out, ← hq]; exact (ix_lt hi hk hn).1
          have hrN : r < N := by rw [HN.out, ← hr]; exact (ix_lt hk hi hn).1
          have CQ := Lib.hid (fun (u : World) (hu : Grow wr u) => (((HA.out.grow hg1).grow HG.out).grow hu).cell q hqN)
          have CR := Lib.hid (fun (u : World) (hu : Grow wr u) => (((HA.out.grow hg1).grow HG.out).grow hu).cell r hrN)
          have hsy := HSY.out i k hi hk
          rw [hq, hr] at hsy
          obtain ⟨fq, hfq⟩ : ∃ x, f q = x := ⟨_, rfl⟩
          rw [hfq] at hsy CQ
          rw [← hsy] at CR
          have p0 : (0 : Int) ≤ (q : Int) := by omega
          have p1 : (q : Int) < (N : Int) := by omega
          have p2 : (0 : Int) ≤ (r : Int) := by omega
          have p3 : (r : Int) < (N : Int) := by omega
          have AW := Lib.hid (ix_wrap hi hk hn hq)
          have AX := Lib.hid (ix_wrap hk hi hn hr)
          have Y4 := Lib.hid (inc_wrap hk (by omega))
          clear hq hr hsy hfq
          obtain ⟨s0, s1, s2, s3⟩ := KC.out wr (Grow.refl _)
          have s4 := CQ.out wr (Grow.refl _)
          have s5 := CR.out wr (Grow.refl _)
          obtain ⟨pq, a1, a2, a3, a4⟩ := AW.out
          obtain ⟨pr, a5, a6, a7, a8⟩ := AX.out
          go_upto_region 14 with fail
          clear s0 s1 s2 s3 s4 s5 b0 b1 b2 b3
          refine region_held (id := 14) (fun u => Grow wr u) [0, 1, 2, 3, 4, 5, 6, 7, 8, 9, 10, 11, 12, 13, 14, 15, 16, 17, 18] (kdL [0, 1, 0, 0, 0, 0, 0, 0, 1, 0, 1, 0, 0, 0, 0, 0, 0, 1, 0]) (by kernel_rfl) (by kernel_rfl) (fun t ht => kdL_lt _ t ht) ?hS0p ?_
          case hS0p => ((try dsimp only); (repeat (first | with_reducible exact Grow.refl _ | with_reducible refine Grow.alloc ?_ _ | with_reducible refine Grow.drew ?_ | with_reducible refine Grow.drewN ?_ _ | (with_reducible refine Grow.setCell ?_ ?hp _; (case hp => (simp; try omega))) | with_reducible refine Grow.trans ?_ (by assumption))))
          refine held_quiet (v := ?vp0) rfl rfl (Or.inl ⟨by rfl, ?hyp0⟩) ?_
          case hyp0 => (intro u hu; go_simp; (try with_reducible rfl))
          (try simp only [Act.put, List.setIfInBounds_toArray])
          refine held_read (v := ?vp1) rfl rfl (Or.inl ⟨by rfl, ?hyp1⟩) ?_
          case hyp1 => (intro u hu; obtain ⟨s0, s1, s2, s3⟩ := KC.out u hu; have s4 := CQ.out u hu; have s5 := CR.out u hu; go_simp; (try with_reducible rfl))
          (try simp only [Act.put])
          refine held_quiet (v := ?vp2) rfl rfl (Or.inl ⟨by rfl, ?hyp2⟩) ?_
          case hyp2 => (intro u hu; go_simp; (try with_reducible rfl))
          (try simp only [Act.put])
          refine held_quiet (v := ?vp3) rfl rfl (Or.inl ⟨by rfl, ?hyp3⟩) ?_
          case hyp3 => (intro u hu; go_simp; (try with_reducible rfl))
          (try simp only [Act.put])
          refine held_quiet (v := ?vp4) rfl rfl (Or.inl ⟨by rfl, ?hyp4⟩) ?_
          case hyp4 => (intro u hu; go_simp; (try with_reducible rfl))
          (try simp only [Act.put])
          refine held_quiet (v := ?vp5) rfl rfl (Or.inl ⟨by rfl, ?hyp5⟩) ?_
          case hyp5 => (intro u hu; go_simp; (try with_reducible rfl))
          (try simp only [Act.put])
          refine held_quiet (v := ?vp6) rfl rfl (Or.inl ⟨by rfl, ?hyp6⟩) ?_
          case hyp6 => (intro u hu; go_simp; (try with_reducible rfl))
          (try simp only [Act.put])
          refine held_quiet (v := ?vp7) rfl rfl (Or.inl ⟨by rfl, ?hyp7⟩) ?_
          case hyp7 => (intro u hu; go_simp; (try with_reducible rfl))
          (try simp only [Act.put])
          refine held_read (v := ?vp8) rfl rfl (Or.inl ⟨by rfl, ?hyp8⟩) ?_
          case hyp8 => (intro u hu; obtain ⟨s0, s1, s2, s3⟩ := KC.out u hu; have s4 := CQ.out u hu; have s5 := CR.out u hu; go_simp; (try with_reducible rfl))
          (try simp only [Act.put])
          refine held_quiet (v := ?vp9) rfl rfl (Or.inl ⟨by rfl, ?hyp9⟩) ?_
          case hyp9 => (intro u hu; go_simp; (try with_reducible rfl))
          (try simp only [Act.put])
          refine held_read (v := ?vp10) rfl rfl (Or.inl ⟨by rfl, ?hyp10⟩) ?_
          case hyp10 => (intro u hu; obtain ⟨s0, s1, s2, s3⟩ := KC.out u hu; have s4 := CQ.out u hu; have s5 := CR.out u hu; go_simp; (try with_reducible rfl))
          (try simp only [Act.put])
          refine held_quiet (v := ?vp11) rfl rfl (Or.inl ⟨by rfl, ?hyp11⟩) ?_
          case hyp11 => (intro u hu; go_simp; (try with_reducible rfl))
          (try simp only [Act.put])
          refine held_quiet (v := ?vp12) rfl rfl (Or.inl ⟨by rfl, ?hyp12⟩) ?_
          case hyp12 => (intro u hu; go_simp; (try with_reducible rfl))
          (try simp only [Act.put])
          refine held_quiet (v := ?vp13) rfl rfl (Or.inl ⟨by rfl, ?hyp13⟩) ?_
          case hyp13 => (intro u hu; go_simp; (try with_reducible rfl))
          (try simp only [Act.put])
          refine held_quiet (v := ?vp14) rfl rfl (Or.inl ⟨by rfl, ?hyp14⟩) ?_
          case hyp14 => (intro u hu; go_simp; (try with_reducible rfl))
          (try simp only [Act.put])
          refine held_quiet (v := ?vp15) rfl rfl (Or.inl ⟨by rfl, ?hyp15⟩) ?_
          case hyp15 => (intro u hu; go_simp; (try with_reducible rfl))
          (try simp only [Act.put])
          refine held_quiet (v := ?vp16) rfl rfl (Or.inl ⟨by rfl, ?hyp16⟩) ?_
          case hyp16 => (intro u hu; go_simp; (try with_reducible rfl))
          (try simp only [Act.put])
          refine held_read (v := ?vp17) rfl rfl (Or.inl ⟨by rfl, ?hyp17⟩) ?_
          case hyp17 => (intro u hu; obtain ⟨s0, s1, s2, s3⟩ := KC.out u hu; have s4 := CQ.out u hu; have s5 := CR.out u hu; go_simp; (try with_reducible rfl))
          (try simp only [Act.put])
          refine held_quiet (v := ?vp18) rfl rfl (Or.inl ⟨by rfl, ?hyp18⟩) ?_
          case hyp18 => (intro u hu; go_simp; (try with_reducible rfl))
          (try simp only [Act.put])
          refine held_done ?_
          clear a1 a2 a3 a4 a5 a6 a7 a8
          obtain ⟨y4, y3⟩ := Y4.out
          go_simp
          go_wp2_with fail
          clear y4 y3
          go_roundg (n - (k + 1))
          case measure => have := HGK2.out; omega
          case rel => exact ⟨k + 1, rfl, by omega, Lib.hid rfl, Lib.hid (HG.out.trans (by (repeat (first | with_reducible exact Grow.refl _ | with_reducible refine Grow.alloc ?_ _ | with_reducible refine Grow.drew ?_ | with_reducible refine Grow.drewN ?_ _ | (with_reducible refine Grow.setCell ?_ ?hp _; (case hp => (simp; try omega))) | with_reducible refine Grow.trans ?_ (by assumption)))))⟩
end Go.Proofs.Ytbpkfcohbefphaa
/- Walk: theta.inverse. -/
namespace Go.Proofs.Ytbpkfcohbefphaa
open Go Go.RowKit

set_option maxRecDepth 20000 in
set_option maxHeartbeats 8000000 in
theorem inverseT (n N B off c : Nat) (f : Nat → Int) (M : Nat → Nat → Rat) (hN : N = n * n) (hn0 : 0 < n) (hn : n ≤ 8) (hf : ∀ i, i < N → -1000 ≤ f i ∧ f i ≤ 1000)
    (hM : ∀ i j, M i j = (f (i * n + j) : Rat)) (hB : ∀ c, c < n → RedB n (n + n) c (redD n c (besU n M)) (redM n c (besU n M))) (w : World) (hA : IntQ w B off N f) :
    Calls Try.prog 48 #[.agg #[.int .i64 (n : Int), .slice (some ⟨B, off, none⟩) N c]] w fun e w' =>
      ∃ B' L c', e = .returned (.slice (some ⟨B', 0, none⟩) L c') ∧ L = n * n ∧ RowQ w' B' 0 L (fun k => redM n n (besU n M) (k / n) (n + k % n)) ∧ Grow w w' := by
  have hNb : N ≤ 64 := by rw [hN]; exact Nat.mul_le_mul hn hn
  have hNp : 0 < N := by rw [hN]; exact Nat.mul_pos hn0 hn0
  have OV := Lib.hid (fun (u : World) (hu : Grow w u) => overT n N B off c f hNp (by omega) (fun i hi => by have := hf i hi; omega) u (hA.grow hu))
  have INV := Lib.hid (fun (u : World) (B' c' : Nat) (hr : RowQ u B' 0 N (fun i => (f i : Rat))) => inverseMQ n N B' 0 c' (fun i => (f i : Rat)) M hN hn0 (by omega) (fun i j => hM i j) hB u hr)
  clear hA hN hM hB hf
  obtain ⟨W1, hW1⟩ : ∃ W1 : World, W1 = w.alloc (.cells #[.int .i64 (n : Int), .slice (some ⟨B, off, none⟩) N c] 34) := ⟨_, rfl⟩
  have hg1 := ag hW1
  have K1 := Lib.hid (ak2 hW1)
  have HW1 := Lib.hid hW1
  clear hW1
  go_enter Try.func48, Try.ntmps48
  go_upto_region 1 with fail
  rw [← HW1.out]
  obtain ⟨b0, b1, b2, b3⟩ := K1.out W1 (Grow.refl _)
  go_upto_region 2 with (first
        | (go_at_call 27; (with_reducible refine (OV.out _ (by (repeat (first | with_reducible exact Grow.refl _ | with_reducible refine Grow.alloc ?_ _ | with_reducible refine Grow.drew ?_ | with_reducible refine Grow.drewN ?_ _ | (with_reducible refine Grow.setCell ?_ ?hp _; (case hp => (simp; try omega))) | with_reducible refine Grow.trans ?_ (by assumption))))).mono ?_); (rintro e u2 ⟨B2, c2, rfl, hr2, hb2⟩; have HR2 := Lib.hid hr2; clear hr2))
        | (go_at_call 67; (with_reducible refine (INV.out _ _ _ HR2.out).mono ?_); (rintro e u3 ⟨B3, L3, c3, rfl, hL3, hr3, hb3⟩; have HL3 := Lib.hid hL3; have HR3 := Lib.hid hr3; clear hL3 hr3)))
  obtain ⟨W4, hW4⟩ : ∃ W4 : World, W4 = u3.alloc (.cells #[.int .i64 (n : Int), .int .i64 (n : Int), .slice (some ⟨B3, 0, none⟩) L3 c3] 69) := ⟨_, rfl⟩
  have hg4 := ag hW4
  obtain ⟨d0, d1, d2, d3, d4⟩ := ak3 hW4 W4 (Grow.refl _)
  rw [← hW4]
  clear hW4 b0 b1 b2 b3
  go_wp2_with fail
  go_ret
  exact ⟨B3, L3, c3, rfl, HL3.out, RowP.grow HR3.out hg4, by (repeat (first | with_reducible exact Grow.refl _ | with_reducible refine Grow.alloc ?_ _ | with_reducible refine Grow.drew ?_ | with_reducible refine Grow.drewN ?_ _ | (with_reducible refine Grow.setCell ?_ ?hp _; (case hp => (simp; try omega))) | with_reducible refine Grow.trans ?_ (by assumption)))⟩
end Go.Proofs.Ytbpkfcohbefphaa
/- Walk of theta: box. -/
namespace Go.Proofs.Ytbpkfcohbefphaa
open Go Go.RowKit

/-- The number of entries of the diagonal before entry k of a square. -/
def dgN (n k : Nat) : Nat := k / n + if k / n < k % n then 1 else 0
theorem dgN_zero (n : Nat) : dgN n 0 = 0 := by unfold dgN; simp
theorem dgN_end {n : Nat} (hn : 0 < n) : dgN n (n * n) = n := by
  unfold dgN
  rw [Nat.mul_mod_right, Nat.mul_div_cancel_left n hn, if_neg (by omega)]
  omega
theorem dgN_eq {n k : Nat} (h : k / n = k % n) : dgN n k = k / n := by unfold dgN; rw [if_neg (by omega)]; omega
theorem dgN_yes {n k : Nat} (hn : 0 < n) (h : k / n = k % n) : dgN n (k + 1) = k / n + 1 := by
  have hlt := Nat.mod_lt k hn
  unfold dgN
  by_cases h1 : k % n + 1 < n
  · obtain ⟨e1, e2⟩ := div_succ_lt hn h1
    rw [e1, e2, if_pos (by omega)]
  · obtain ⟨e1, e2⟩ := div_succ_eq hn (show k % n + 1 = n by omega)
    rw [e1, e2, if_neg (by omega)]
theorem dgN_no {n k : Nat} (hk : k < n * n) (h : k / n ≠ k % n) : dgN n (k + 1) = dgN n k := by
  have hn : 0 < n := by
    rcases Nat.eq_zero_or_pos n with h0 | h0
    · subst h0; simp at hk
    · exact h0
  have hlt := Nat.mod_lt k hn
  have hlt2 : k / n < n := Nat.div_lt_of_lt_mul hk
  unfold dgN
  by_cases h1 : k % n + 1 < n
  · obtain ⟨e1, e2⟩ := div_succ_lt hn h1
    rw [e1, e2]
    by_cases h2 : k / n < k % n
    · rw [if_pos h2, if_pos (by omega)]
    · rw [if_neg h2, if_neg (by omega)]
  · obtain ⟨e1, e2⟩ := div_succ_eq hn (show k % n + 1 = n by omega)
    have a1 : ¬ (k / n + 1 < 0) := Nat.not_lt_zero _
    have a2 : k / n < k % n := by omega
    rw [e1, e2, if_neg a1, if_pos a2]
/-- Reading an own row of ints. -/
theorem OwnI.read {w : World} {base : Nat} {a : Option Addr} {n c : Nat} {xs : List Value} (h : OwnI w base (.slice a n c) n xs) (hn : 0 < n) : ∃ g, a = some ⟨g, 0, none⟩ ∧ base ≤ g ∧ g < w.heap.size ∧ ∀ (i : Nat) (x : Value), xs[i]? = some x → w.cell? ⟨g, i, none⟩ = some x := by
  obtain ⟨hl, h⟩ := h
  rcases h with ⟨-, h0⟩ | ⟨g, cap, cur, hv, hb, hg, h1, h2, h3, h4, h5⟩
  · omega
  · injection hv with e1 e2 e3
    refine ⟨g, e1, hb, (Array.getElem?_eq_some_iff.1 hg).1, fun i x hx => ?_⟩
    rw [cell_of_row w g i cur 3 (0, 0) hg]
    have hi : i < n := by
      have := (List.getElem?_eq_some_iff.1 hx).1
      omega
    rw [← h4, List.getElem?_take, if_pos hi] at hx
    rw [← hx]; simp
theorem ak2b {w0 u : World} {Z b : Nat} {v0 v1 : Value} (hb : But (fun x => Z ≤ x) w0 u) (hz : b < Z) (hlt : b < w0.heap.size) (h : w0.cell? ⟨b, 0, none⟩ = some v0 ∧ w0.cell? ⟨b, 1, none⟩ = some v1) : u.cell? ⟨b, 0, none⟩ = some v0 ∧ u.cell? ⟨b, 1, none⟩ = some v1 :=
  ⟨(hb.cells _ _ hlt (by omega)).trans h.1, (hb.cells _ _ hlt (by omega)).trans h.2⟩
set_option maxRecDepth 20000 in
set_option maxHeartbeats 8000000 in
theorem boxT (n N B off c m : Nat) (tm : Int) (f : Nat → Int) (M : Nat → Nat → Rat) (v : Nat → Rat) (q b : Nat → Nat) (hN : N = n * n) (hn0 : 0 < n) (hn : n ≤ 8) (hf : ∀ i, i < N → -1000 ≤ f i ∧ f i ≤ 1000)
    (hM : ∀ i j, M i j = (f (i * n + j) : Rat)) (hB : ∀ c, c < n → RedB n (n + n) c (redD n c (besU n M)) (redM n c (besU n M)))
    (hm : m ≤ 1000) (htm : tm = 2 * (m : Int)) (hv : ∀ i, i < n → redM n n (besU n M) i (n + i) = v i) (hmul : ∀ i, i < n → MulB (tm : Rat) (v i))
    (hq : ∀ i, i < n → ((tm : Rat) * v i).num / (((tm : Rat) * v i).den : Int) = (q i : Int) ∧ q i ≤ 1000000000) (hb : ∀ i, i < n → sqN (q i) = b i) (hbx : ∀ i, i ≤ n → boxN b i ≤ 1048576)
    (w : World) (hA : IntQ w B off N f) :
    Calls Try.prog 28 #[.agg #[.int .i64 (n : Int), .slice (some ⟨B, off, none⟩) N c], .int .i64 (m : Int)] w fun e w' =>
      ∃ B' c', e = .returned (.tuple #[.slice (some ⟨B', 0, none⟩) n c', .bool true]) ∧ IntQ w' B' 0 n (fun i => (b i : Int)) ∧ Grow w w' := by
  have INV := Lib.hid (fun (u : World) (hu : Grow w u) => inverseT n N B off c f M hN hn0 hn hf hM hB u (hA.grow hu))
  have hNb : N ≤ 64 := by rw [hN]; exact Nat.mul_le_mul hn hn
  have hNp : 0 < N := by rw [hN]; exact Nat.mul_pos hn0 hn0
  have HN := Lib.hid hN
  have HV := Lib.hid hv
  have HMU := Lib.hid hmul
  have HQ := Lib.hid hq
  have HBB := Lib.hid hb
  have HBX := Lib.hid hbx
  have HTM := Lib.hid htm
  clear hA hN hM hB hf hv hmul hq hb hbx
  have Y0 : Hid (IntKind.i64.wrap (2 * (m : Int)) = tm ∧ wrap64 (2 * (m : Int)) = tm) := Lib.hid (by rw [← htm]; exact w64n (by omega))
  have OF := Lib.hid (fun (u : World) => ofQ tm (by omega) u)
  clear htm
  obtain ⟨ii, hii, iiz0, iiz1, iiz2⟩ := info_parts infoInt
  have HII := Lib.hid hii
  have HI0 := Lib.hid iiz0
  have HI1 := Lib.hid iiz1
  have HI2 := Lib.hid iiz2
  clear hii iiz0 iiz1 iiz2
  obtain ⟨W1, hW1⟩ : ∃ W1 : World, W1 = w.alloc (.cells #[.int .i64 (n : Int), .slice (some ⟨B, off, none⟩) N c] 34) := ⟨_, rfl⟩
  have hg1 := ag hW1
  have K1 := Lib.hid (ak2 hW1)
  have HW1 := Lib.hid hW1
  clear hW1
  go_enter Try.func28, Try.ntmps28
  go_upto_region 1 with fail
  rw [← HW1.out]
  obtain ⟨b0, b1, b2, b3⟩ := K1.out W1 (Grow.refl _)
  go_wp2_with (go_at_call 48; (with_reducible refine (INV.out _ (by (repeat (first | with_reducible exact Grow.refl _ | with_reducible refine Grow.alloc ?_ _ | with_reducible refine Grow.drew ?_ | with_reducible refine Grow.drewN ?_ _ | (with_reducible refine Grow.setCell ?_ ?hp _; (case hp => (simp; try omega))) | with_reducible refine Grow.trans ?_ (by assumption))))).mono ?_); (rintro e u2 ⟨B2, L2, c2, rfl, hL2, hr2, hb2⟩; have e2 := (hL2.trans HN.out.symm).symm; subst e2; have HR2 := Lib.hid hr2; clear hL2 hr2))
  obtain ⟨Z, hZ⟩ : ∃ Z, u2.heap.size = Z := ⟨_, rfl⟩
  have GC := Lib.hid (fun (u : World) (hu : But (fun x => Z ≤ x) u2 u) => ak2b hu (show w.heap.size < Z by have := hb2.size; omega) (show w.heap.size < u2.heap.size by have := hb2.size; omega) ⟨(K1.out u2 hb2).1, (K1.out u2 hb2).2.1⟩)
  have RC := Lib.hid (fun (u : World) (hu : But (fun x => Z ≤ x) u2 u) => RowP.but HR2.out (show ¬ Z ≤ B2 by have := HR2.out.lt; omega) hu)
  have HG2 := Lib.hid (hg1.trans hb2)
  have HWZ : Hid (w.heap.size < u2.heap.size) := Lib.hid (by have h1 := (K1.out W1 (Grow.refl _)).2.2.2; have h2 := hb2.size; omega)
  have HZ := Lib.hid hZ
  clear b0 b1 b2 b3 hb2 hZ K1 INV hg1
  go_loopg [6, 7, 18] N (fun gk t6 t7 t18 wr => ∃ (k d s cv : Nat) (av : Option Addr) (xs : List Value), t18 = .int .i64 (k : Int) ∧ t6 = .int .i64 (s : Int) ∧ t7 = .slice av d cv ∧ k ≤ N ∧ Hid (gk = N - k) ∧ Hid (d = dgN n k) ∧ Hid (s = boxN b d) ∧ Hid (OwnI wr Z (.slice av d cv) d xs) ∧ Hid (∀ i, i < d → xs[i]? = some (.int .i64 (b i : Int))) ∧ Hid (But (fun x => Z ≤ x) u2 wr))
  case atStart => exact ⟨0, 0, 1, 0, none, [], rfl, rfl, rfl, Nat.zero_le _, Lib.hid rfl, Lib.hid (dgN_zero n).symm, Lib.hid rfl, Lib.hid (OwnI.nil _ _), Lib.hid (fun i hi => absurd hi (Nat.not_lt_zero i)), Lib.hid (But.refl _ _)⟩
  case round =>
    obtain ⟨k, d, s, cv, av, xs, rfl, rfl, rfl, hk2, HGK, HD, HS, HO, HX, HB2⟩ := hrel
    by_cases hkn : k = N
    · have y1 : decide ((k : Int) < (N : Int)) = false := by simp; omega
      have y2 : ¬ (k < N) := by omega
      have hdn : d = n := by rw [HD.out, hkn, HN.out, dgN_end hn0]
      subst hdn
      obtain ⟨g, rfl, hgz, hgl, hgc⟩ := HO.out.read hn0
      have HGZ := Lib.hid hgz
      have HGL := Lib.hid hgl
      have HGC := Lib.hid hgc
      clear hgz hgl hgc hkn
      go_wp2_with fail
      refine bodyPost_ret (v := .tuple #[.slice (some ⟨g, 0, none⟩) d cv, .bool true]) (by rw [results_pair rfl]; go_simp) rfl ?_
      exact ⟨g, ⟨cv, rfl⟩, ⟨HGL.out, fun i hi => by rw [Nat.zero_add]; exact HGC.out i _ (HX.out i hi)⟩, ((HG2.out.but _).trans HB2.out).asGrow (fun x hx => by have := HG2.out.size; have := HZ.out; omega)⟩
    · have hk : k < N := by omega
      have x0 : (0 : Int) ≤ (k : Int) := by omega
      have x1 : (k : Int) < (N : Int) := by omega
      obtain ⟨s2, a2, l2, c2', t2, b2', k2, e2, ⟨p0, p1, p2, p3⟩, hvb⟩ := RowQ.at4 (RC.out wr HB2.out) hk
      rw [Nat.zero_add] at p0 p1 p2 p3
      obtain ⟨g0, g1⟩ := GC.out wr HB2.out
      have HVB := Lib.hid hvb
      have hzr : w.heap.size < wr.heap.size := by have := HWZ.out; have := HB2.out.size; omega
      clear hvb hkn
      go_upto_region 6 with fail
      obtain ⟨w5, hw5⟩ : ∃ w5 : World, w5 = wr.alloc (.cells #[.bool s2, .slice a2 l2 c2', .bool t2, .slice b2' k2 e2] 39) := ⟨_, rfl⟩
      have hg5 := ag hw5
      have K5 := Lib.hid (ak4 hw5)
      have K6 : Hid (∀ u : World, Grow w5 u → u.cell? ⟨w.heap.size, 0, none⟩ = some (.int .i64 (n : Int))) := Lib.hid (fun u hu => ((hg5.trans hu).cells _ _ hzr).trans g0)
      rw [← hw5]
      obtain ⟨di, hdi⟩ : ∃ di, k / n = di := ⟨_, rfl⟩
      obtain ⟨dj, hdj⟩ : ∃ dj, k % n = dj := ⟨_, rfl⟩
      have hdn : di < n := by rw [← hdi]; exact Nat.div_lt_of_lt_mul (by rw [← HN.out]; exact hk)
      have e1 : Int.tdiv (k : Int) (n : Int) = (di : Int) := by rw [← hdi, Int.natCast_ediv]; exact Int.tdiv_eq_ediv_of_nonneg x0
      have e2 : Int.tmod (k : Int) (n : Int) = (dj : Int) := by rw [← hdj, Int.natCast_emod]; exact Int.tmod_eq_emod_of_nonneg x0
      have E1 := Lib.hid e1
      have E2 := Lib.hid e2
      have E3 := Lib.hid (w64n (n := (di : Int)) (by omega))
      have E4 := Lib.hid (w64n (n := (dj : Int)) (by have := Nat.mod_lt k hn0; omega))
      have HDI := Lib.hid hdi
      have HDJ := Lib.hid hdj
      have hnz : ¬ (n = 0) := by omega
      have hnz' : ¬ ((n : Int) = 0) := by omega
      clear hw5 p0 p1 p2 p3 g0 g1 e1 e2 hdi hdj
      have HDN := Lib.hid hdn
      have Y4 := Lib.hid (inc_wrap hk (by omega))
      have HK := Lib.hid hk
      have d1 := E1.out
      have d2 := E2.out
      obtain ⟨e3a, e3b⟩ := E3.out
      obtain ⟨e4a, e4b⟩ := E4.out
      have f0 := K6.out w5 (Grow.refl _)
      refine region_held (id := 6) (fun u => Grow w5 u) [0, 1, 2, 3, 4, 5, 6, 7, 8] (kdL [0, 0, 1, 0, 0, 0, 1, 0, 0]) (by kernel_rfl) (by kernel_rfl) (fun t ht => kdL_lt _ t ht) ?hS0p ?_
      case hS0p => ((try dsimp only); (repeat (first | with_reducible exact Grow.refl _ | with_reducible refine Grow.alloc ?_ _ | with_reducible refine Grow.drew ?_ | with_reducible refine Grow.drewN ?_ _ | (with_reducible refine Grow.setCell ?_ ?hp _; (case hp => (simp; try omega))) | with_reducible refine Grow.trans ?_ (by assumption))))
      refine held_quiet (v := ?vp0) rfl rfl (Or.inl ⟨by rfl, ?hyp0⟩) ?_
      case hyp0 => (intro u hu; go_simp; (try with_reducible rfl))
      (try simp only [Act.put, List.setIfInBounds_toArray])
      refine held_quiet (v := ?vp1) rfl rfl (Or.inl ⟨by rfl, ?hyp1⟩) ?_
      case hyp1 => (intro u hu; go_simp; (try with_reducible rfl))
      (try simp only [Act.put])
      refine held_read (v := ?vp2) rfl rfl (Or.inl ⟨by rfl, ?hyp2⟩) ?_
      case hyp2 => (intro u hu; have f0 := K6.out u hu; go_simp; (try with_reducible rfl))
      (try simp only [Act.put])
      refine held_quiet (v := ?vp3) rfl rfl (Or.inl ⟨by rfl, ?hyp3⟩) ?_
      case hyp3 => (intro u hu; go_simp; (try with_reducible rfl))
      (try simp only [Act.put])
      refine held_quiet (v := ?vp4) rfl rfl (Or.inl ⟨by rfl, ?hyp4⟩) ?_
      case hyp4 => (intro u hu; go_simp; (try with_reducible rfl))
      (try simp only [Act.put])
      refine held_quiet (v := ?vp5) rfl rfl (Or.inl ⟨by rfl, ?hyp5⟩) ?_
      case hyp5 => (intro u hu; go_simp; (try with_reducible rfl))
      (try simp only [Act.put])
      refine held_read (v := ?vp6) rfl rfl (Or.inl ⟨by rfl, ?hyp6⟩) ?_
      case hyp6 => (intro u hu; have f0 := K6.out u hu; go_simp; (try with_reducible rfl))
      (try simp only [Act.put])
      refine held_quiet (v := ?vp7) rfl rfl (Or.inl ⟨by rfl, ?hyp7⟩) ?_
      case hyp7 => (intro u hu; go_simp; (try with_reducible rfl))
      (try simp only [Act.put])
      refine held_quiet (v := ?vp8) rfl rfl (Or.inl ⟨by rfl, ?hyp8⟩) ?_
      case hyp8 => (intro u hu; go_simp; (try with_reducible rfl))
      (try simp only [Act.put])
      refine held_done ?_
      clear d1 d2 e3a e3b e4a e4b f0
      have HG5 := Lib.hid (hg5.trans (show Grow w5 w5.drew by (repeat (first | with_reducible exact Grow.refl _ | with_reducible refine Grow.alloc ?_ _ | with_reducible refine Grow.drew ?_ | with_reducible refine Grow.drewN ?_ _ | (with_reducible refine Grow.setCell ?_ ?hp _; (case hp => (simp; try omega))) | with_reducible refine Grow.trans ?_ (by assumption)))))
      have K7 := Lib.hid (fun u (hu : Grow w5.drew u) => K5.out u ((show Grow w5 w5.drew by (repeat (first | with_reducible exact Grow.refl _ | with_reducible refine Grow.alloc ?_ _ | with_reducible refine Grow.drew ?_ | with_reducible refine Grow.drewN ?_ _ | (with_reducible refine Grow.setCell ?_ ?hp _; (case hp => (simp; try omega))) | with_reducible refine Grow.trans ?_ (by assumption)))).trans hu))
      generalize w5.drew = w7 at *
      by_cases hdd : di = dj
      · subst hdd
        have hd : d = di := by rw [HD.out, dgN_eq (by rw [HDI.out, HDJ.out]), HDI.out]
        subst hd
        have z1 : ((d : Int) != (d : Int)) = false := by simp
        go_simp
        go_upto_region 7 with fail
        clear z1
        have hvd : redM n n (besU n M) (k / n) (n + k % n) = v d := by rw [HDI.out, HDJ.out]; exact HV.out d HDN.out
        have hvb := HVB.out
        rw [hvd] at hvb
        have MU := Lib.hid (fun (u : World) (vv : Value) (hv : RatR u vv (tm : Rat)) (hu : Grow w7 u) => mulQ (tm : Rat) (v d) vv _ (HMU.out d HDN.out).1 (HMU.out d HDN.out).2 u hv (hvb.grow (HG5.out.trans hu)))
        have FL := Lib.hid (fun (u : World) (vv : Value) (hv : RatR u vv ((tm : Rat) * v d)) => floorQ _ vv u hv)
        have hq1 := HQ.out d HDN.out
        rw [hq1.1] at FL
        have SQ := Lib.hid (fun (u : World) (vv : Value) (hv : IntR u vv ((q d : Nat) : Int)) => sqrtV (q d) hq1.2 vv u hv)
        rw [HBB.out d HDN.out] at SQ
        have hbx1 := HBX.out (d + 1) HDN.out
        have hs := HS.out
        rw [show boxN b (d + 1) = boxN b d * (2 * b d + 1) from rfl, ← hs] at hbx1
        obtain ⟨bd, hbd⟩ : ∃ x, b d = x := ⟨_, rfl⟩
        rw [hbd] at SQ hbx1
        have HBD := Lib.hid hbd
        have hs0 : 0 < s := by rw [hs]; exact boxN_pos b d
        have hbb : 2 * bd + 1 ≤ 1048576 := Nat.le_trans (Nat.le_mul_of_pos_left _ hs0) hbx1
        have SM := Lib.hid (fun (u : World) (vv : Value) (hv : IntR u vv ((bd : Nat) : Int)) => smallV (bd : Int) vv u hv)
        clear hvb hvd hq1 hs hbd
        obtain ⟨f0, f1, f2, f3, f4, f5⟩ := K7.out w7 (Grow.refl _)
        obtain ⟨y0a, y0b⟩ := Y0.out
        refine region_flex (id := 7) w7 [⟨11, 10, .cells #[.bool false, .slice none 0 0] 37⟩] [0, 1, 3, 2, 4, 5, 6, 7, 8, 9, 10] [12, 13, 14] (kdL [0, 0, 2, 1, 2, 2, 2, 0, 0, 0, 0, 2, 3, 0, 0]) (by kernel_rfl) (by kernel_rfl) (fun t ht => kdL_lt _ t ht) (by simp) (by simp) ?hgq ?halq ?_
        case hgq => (repeat (first | with_reducible exact Grow.refl _ | with_reducible refine Grow.alloc ?_ _ | with_reducible refine Grow.drew ?_ | with_reducible refine Grow.drewN ?_ _ | (with_reducible refine Grow.setCell ?_ ?hp _; (case hp => (simp; try omega))) | with_reducible refine Grow.trans ?_ (by assumption)))
        case halq => (intro x hx; simp only [List.mem_cons, List.not_mem_nil, or_false] at hx; subst hx; all_goals (refine ⟨⟨_, rfl, rfl⟩, fun K a u hK => ?_⟩; refine wpOp_step rfl (fun K' hK' => ?_); go_simp; exact hK' _ _ hK))
        refine flex_quiet (v := ?vq0) rfl rfl (fun t => Or.inl ⟨by rfl, ?hyq0⟩) ?_
        case hyq0 => (intro u hu; simp only [aof, List.foldl_cons, List.foldl_nil, Act.put, List.setIfInBounds_toArray, List.set_cons_zero, List.set_cons_succ]; go_simp; (try with_reducible rfl))
        (try simp only [Act.put, List.setIfInBounds_toArray, List.set_cons_zero, List.set_cons_succ])
        refine flex_quiet (v := ?vq1) rfl rfl (fun t => Or.inl ⟨by rfl, ?hyq1⟩) ?_
        case hyq1 => (intro u hu; simp only [aof, List.foldl_cons, List.foldl_nil, Act.put, List.setIfInBounds_toArray, List.set_cons_zero, List.set_cons_succ]; go_simp; (try with_reducible rfl))
        (try simp only [Act.put, List.setIfInBounds_toArray, List.set_cons_zero, List.set_cons_succ])
        refine flex_read (v := ?vq3) rfl rfl (fun t => Or.inl ⟨by rfl, ?hyq3⟩) ?_
        case hyq3 => (intro u hu; obtain ⟨f0, f1, f2, f3, f4, f5⟩ := K7.out u hu; simp only [aof, List.foldl_cons, List.foldl_nil, Act.put, List.setIfInBounds_toArray, List.set_cons_zero, List.set_cons_succ]; go_simp; (try with_reducible rfl))
        (try simp only [Act.put, List.setIfInBounds_toArray, List.set_cons_zero, List.set_cons_succ])
        refine flex_op rfl rfl (fun t2 u2 hu2 K hK => ?_)
        simp only [aof, List.foldl_cons, List.foldl_nil, Act.put, List.setIfInBounds_toArray, List.set_cons_zero, List.set_cons_succ]
        go_simp
        (go_at_call 36; (with_reducible refine (OF.out _).mono ?_); (rintro e u10 ⟨v10, rfl, hv10, hb10⟩; obtain ⟨s10, a10, l10, c10, t10, b10, k10, e10, rfl⟩ := hv10.form; have HV10 := Lib.hid hv10; clear hv10))
        (try go_wp2_with fail)
        refine hK.out _ (.agg #[.bool s10, .slice a10 l10 c10, .bool t10, .slice b10 k10 e10]) _ ?heq2 ?hgq2 ?_
        case heq2 => (simp only [aof, List.foldl_cons, List.foldl_nil, Act.put, List.setIfInBounds_toArray, List.set_cons_zero, List.set_cons_succ])
        case hgq2 => (repeat (first | with_reducible exact Grow.refl _ | with_reducible refine Grow.alloc ?_ _ | with_reducible refine Grow.drew ?_ | with_reducible refine Grow.drewN ?_ _ | (with_reducible refine Grow.setCell ?_ ?hp _; (case hp => (simp; try omega))) | with_reducible refine Grow.trans ?_ (by assumption)))
        clear hK K t2
        (try simp only [Act.put, List.setIfInBounds_toArray, List.set_cons_zero, List.set_cons_succ])
        refine flex_op rfl rfl (fun t4 u4 hu4 K hK => ?_)
        simp only [aof, List.foldl_cons, List.foldl_nil, Act.put, List.setIfInBounds_toArray, List.set_cons_zero, List.set_cons_succ]
        go_simp
        (go_at_call 34; (with_reducible refine (MU.out _ _ (HV10.out.grow (by (repeat (first | with_reducible exact Grow.refl _ | with_reducible refine Grow.alloc ?_ _ | with_reducible refine Grow.drew ?_ | with_reducible refine Grow.drewN ?_ _ | (with_reducible refine Grow.setCell ?_ ?hp _; (case hp => (simp; try omega))) | with_reducible refine Grow.trans ?_ (by assumption))))) (by (repeat (first | with_reducible exact Grow.refl _ | with_reducible refine Grow.alloc ?_ _ | with_reducible refine Grow.drew ?_ | with_reducible refine Grow.drewN ?_ _ | (with_reducible refine Grow.setCell ?_ ?hp _; (case hp => (simp; try omega))) | with_reducible refine Grow.trans ?_ (by assumption))))).mono ?_); (rintro e u11 ⟨v11, rfl, hv11, hb11⟩; obtain ⟨s11, a11, l11, c11, t11, b11, k11, e11, rfl⟩ := hv11.form; have HV11 := Lib.hid hv11; clear hv11))
        (try go_wp2_with fail)
        refine hK.out _ (.agg #[.bool s11, .slice a11 l11 c11, .bool t11, .slice b11 k11 e11]) _ ?heq4 ?hgq4 ?_
        case heq4 => (simp only [aof, List.foldl_cons, List.foldl_nil, Act.put, List.setIfInBounds_toArray, List.set_cons_zero, List.set_cons_succ])
        case hgq4 => (repeat (first | with_reducible exact Grow.refl _ | with_reducible refine Grow.alloc ?_ _ | with_reducible refine Grow.drew ?_ | with_reducible refine Grow.drewN ?_ _ | (with_reducible refine Grow.setCell ?_ ?hp _; (case hp => (simp; try omega))) | with_reducible refine Grow.trans ?_ (by assumption)))
        clear hK K t4
        (try simp only [Act.put, List.setIfInBounds_toArray, List.set_cons_zero, List.set_cons_succ])
        refine flex_op rfl rfl (fun t5 u5 hu5 K hK => ?_)
        simp only [aof, List.foldl_cons, List.foldl_nil, Act.put, List.setIfInBounds_toArray, List.set_cons_zero, List.set_cons_succ]
        go_simp
        (go_at_call 50; (with_reducible refine (FL.out _ _ (HV11.out.grow (by (repeat (first | with_reducible exact Grow.refl _ | with_reducible refine Grow.alloc ?_ _ | with_reducible refine Grow.drew ?_ | with_reducible refine Grow.drewN ?_ _ | (with_reducible refine Grow.setCell ?_ ?hp _; (case hp => (simp; try omega))) | with_reducible refine Grow.trans ?_ (by assumption)))))).mono ?_); (rintro e u12 ⟨v12, rfl, hv12, hb12⟩; obtain ⟨s12, a12, l12, c12, rfl⟩ := hv12.form; have HV12 := Lib.hid hv12; clear hv12))
        (try go_wp2_with fail)
        refine hK.out _ (.agg #[.bool s12, .slice a12 l12 c12]) _ ?heq5 ?hgq5 ?_
        case heq5 => (simp only [aof, List.foldl_cons, List.foldl_nil, Act.put, List.setIfInBounds_toArray, List.set_cons_zero, List.set_cons_succ])
        case hgq5 => (repeat (first | with_reducible exact Grow.refl _ | with_reducible refine Grow.alloc ?_ _ | with_reducible refine Grow.drew ?_ | with_reducible refine Grow.drewN ?_ _ | (with_reducible refine Grow.setCell ?_ ?hp _; (case hp => (simp; try omega))) | with_reducible refine Grow.trans ?_ (by assumption)))
        clear hK K t5
        (try simp only [Act.put, List.setIfInBounds_toArray, List.set_cons_zero, List.set_cons_succ])
        refine flex_op rfl rfl (fun t6 u6 hu6 K hK => ?_)
        simp only [aof, List.foldl_cons, List.foldl_nil, Act.put, List.setIfInBounds_toArray, List.set_cons_zero, List.set_cons_succ]
        go_simp
        (go_at_call 49; (with_reducible refine (SQ.out _ _ (HV12.out.grow (by (repeat (first | with_reducible exact Grow.refl _ | with_reducible refine Grow.alloc ?_ _ | with_reducible refine Grow.drew ?_ | with_reducible refine Grow.drewN ?_ _ | (with_reducible refine Grow.setCell ?_ ?hp _; (case hp => (simp; try omega))) | with_reducible refine Grow.trans ?_ (by assumption)))))).mono ?_); (rintro e u13 ⟨v13, x13, rfl, hv13, hb13⟩; obtain ⟨s13, a13, l13, c13, rfl⟩ := hv13.form; have HV13 := Lib.hid hv13; clear hv13))
        (try go_wp2_with fail)
        refine hK.out _ (.tuple #[.agg #[.bool s13, .slice a13 l13 c13], .bool x13, .int .i64 0]) _ ?heq6 ?hgq6 ?_
        case heq6 => (simp only [aof, List.foldl_cons, List.foldl_nil, Act.put, List.setIfInBounds_toArray, List.set_cons_zero, List.set_cons_succ])
        case hgq6 => (repeat (first | with_reducible exact Grow.refl _ | with_reducible refine Grow.alloc ?_ _ | with_reducible refine Grow.drew ?_ | with_reducible refine Grow.drewN ?_ _ | (with_reducible refine Grow.setCell ?_ ?hp _; (case hp => (simp; try omega))) | with_reducible refine Grow.trans ?_ (by assumption)))
        clear hK K t6
        (try simp only [Act.put, List.setIfInBounds_toArray, List.set_cons_zero, List.set_cons_succ])
        refine flex_quiet (v := ?vq7) rfl rfl (fun t => Or.inl ⟨by rfl, ?hyq7⟩) ?_
        case hyq7 => (intro u hu; simp only [aof, List.foldl_cons, List.foldl_nil, Act.put, List.setIfInBounds_toArray, List.set_cons_zero, List.set_cons_succ]; go_simp; (try with_reducible rfl))
        (try simp only [Act.put, List.setIfInBounds_toArray, List.set_cons_zero, List.set_cons_succ])
        refine flex_quiet (v := ?vq8) rfl rfl (fun t => Or.inl ⟨by rfl, ?hyq8⟩) ?_
        case hyq8 => (intro u hu; simp only [aof, List.foldl_cons, List.foldl_nil, Act.put, List.setIfInBounds_toArray, List.set_cons_zero, List.set_cons_succ]; go_simp; (try with_reducible rfl))
        (try simp only [Act.put, List.setIfInBounds_toArray, List.set_cons_zero, List.set_cons_succ])
        refine flex_quiet (v := ?vq9) rfl rfl (fun t => Or.inl ⟨by rfl, ?hyq9⟩) ?_
        case hyq9 => (intro u hu; simp only [aof, List.foldl_cons, List.foldl_nil, Act.put, List.setIfInBounds_toArray, List.set_cons_zero, List.set_cons_succ]; go_simp; (try with_reducible rfl))
        (try simp only [Act.put, List.setIfInBounds_toArray, List.set_cons_zero, List.set_cons_succ])
        refine flex_quiet (v := ?vq10) rfl rfl (fun t => Or.inl ⟨by rfl, ?hyq10⟩) ?_
        case hyq10 => (intro u hu; simp only [aof, List.foldl_cons, List.foldl_nil, Act.put, List.setIfInBounds_toArray, List.set_cons_zero, List.set_cons_succ]; go_simp; (try with_reducible rfl))
        (try simp only [Act.put, List.setIfInBounds_toArray, List.set_cons_zero, List.set_cons_succ])
        refine flex_done (fun Fq uq huq hFq hNq => ?_)
        have hFq0 := hFq ⟨11, 10, .cells #[.bool false, .slice none 0 0] 37⟩ (by simp)
        clear hFq hNq
        (try simp only [aof, List.foldl_cons, List.foldl_nil, Act.put, List.setIfInBounds_toArray, List.set_cons_zero, List.set_cons_succ, ptrX])
        generalize Fq 11 = Fbq0 at *
        clear Fq
        have hFX := hFq0
        obtain ⟨hFx, hF1, hF2, hF3⟩ := hFq0
        obtain ⟨o0, o1, of, oz⟩ := ak2 rfl _ hF3
        rw [hF2] at o0 o1 of oz
        refine held_last rfl rfl (fun K hK => ?_)
        go_simp
        refine hK.out _ _ ?_
        clear hK K
        (try simp only [Act.put])
        refine held_quiet (v := ?vq13) rfl rfl (Or.inl ⟨by rfl, ?hyq13⟩) ?_
        case hyq13 => (intro u hu; go_simp; (try with_reducible rfl))
        (try simp only [Act.put])
        refine held_quiet (v := ?vq14) rfl rfl (Or.inl ⟨by rfl, ?hyq14⟩) ?_
        case hyq14 => (intro u hu; go_simp; (try with_reducible rfl))
        (try simp only [Act.put])
        refine held_done ?_
        obtain ⟨hG8, hX8, hXz⟩ := hFX.putI (HV13.out.grow huq)
        obtain ⟨w8, hw8⟩ : ∃ w8, (uq.setCell ⟨Fbq0, 0, none⟩ (.bool s13)).setCell ⟨Fbq0, 1, none⟩ (.slice a13 l13 c13) = w8 := ⟨_, rfl⟩
        rw [hw8] at hG8 hX8 ⊢
        have HG8 := Lib.hid hG8
        have HX8 := Lib.hid hX8
        clear hw8 hG8 hX8 hXz HV13 HV12 HV11 HV10 huq hFX o0 o1 of oz hFx hF1 hF2 hF3 hb10 hb11 hb12 hb13 f0 f1 f2 f3 f4 f5 y0a y0b
        generalize Fbq0 = X at *
        obtain ⟨sx, ax, lx, cx, hcX, hvX⟩ := int_cells HX8.out
        have HVX := Lib.hid hvX
        obtain ⟨p0, p1, p2, p3⟩ := hcX w8 (Grow.refl _)
        have hq3 := hbx1
        have Y1 := Lib.hid (w64n (n := ((2 * bd : Nat) : Int)) (by omega))
        have Y2 := Lib.hid (w64n (n := ((2 * bd + 1 : Nat) : Int)) (by omega))
        have Y3 := Lib.hid (w64n (n := ((s * (2 * bd + 1) : Nat) : Int)) (by omega))
        have z1 : decide ((bd : Int) > 1048576) = false := by simp; omega
        obtain ⟨x1, hx1⟩ : ∃ x, 2 * bd = x := ⟨_, rfl⟩
        obtain ⟨x2, hx2⟩ : ∃ x, x1 + 1 = x := ⟨_, rfl⟩
        obtain ⟨x3, hx3⟩ : ∃ x, s * x2 = x := ⟨_, rfl⟩
        rw [hx1, hx2, hx3] at Y3 hbx1
        rw [hx1, hx2] at Y2
        rw [hx1] at Y1
        have j1 : 2 * (bd : Int) = (x1 : Int) := by omega
        have j2 : (x1 : Int) + 1 = (x2 : Int) := by omega
        have j3 : (s : Int) * (x2 : Int) = (x3 : Int) := by rw [← hx3]; simp
        have J1 : Hid (IntKind.i64.wrap (2 * (bd : Int)) = (x1 : Int) ∧ wrap64 (2 * (bd : Int)) = (x1 : Int)) := Lib.hid (by rw [j1]; exact Y1.out)
        have J2 : Hid (IntKind.i64.wrap ((x1 : Int) + 1) = (x2 : Int) ∧ wrap64 ((x1 : Int) + 1) = (x2 : Int)) := Lib.hid (by rw [j2]; exact Y2.out)
        have J3 : Hid (IntKind.i64.wrap ((s : Int) * (x2 : Int)) = (x3 : Int) ∧ wrap64 ((s : Int) * (x2 : Int)) = (x3 : Int)) := Lib.hid (by rw [j3]; exact Y3.out)
        have z2 : decide ((x3 : Int) > 1048576) = false := by simp; omega
        have z3 : ¬ (1048576 < (bd : Int)) := by omega
        have z4 : ¬ (1048576 < (x3 : Int)) := by omega
        have z5 : ¬ (1048576 < bd) := by omega
        have z6 : ¬ (1048576 < x3) := by omega
        have HX3 : Hid (x3 = boxN b (d + 1)) := Lib.hid (by rw [← hx3, ← hx2, ← hx1, HS.out, ← HBD.out]; rfl)
        have HS0 := Lib.hid hs0
        clear j1 j2 j3 Y1 Y2 Y3 hx1 hx2 hx3 hq3 hbb hs0 hbx1
        go_simp
        go_upto_region 9 with (go_at_call 51; (with_reducible refine (SM.out _ _ (HVX.out.grow (by (repeat (first | with_reducible exact Grow.refl _ | with_reducible refine Grow.alloc ?_ _ | with_reducible refine Grow.drew ?_ | with_reducible refine Grow.drewN ?_ _ | (with_reducible refine Grow.setCell ?_ ?hp _; (case hp => (simp; try omega))) | with_reducible refine Grow.trans ?_ (by assumption)))))).mono ?_); (rintro e u14 ⟨rfl, hb14⟩))
        obtain ⟨j1a, j1b⟩ := J1.out
        obtain ⟨j2a, j2b⟩ := J2.out
        obtain ⟨j3a, j3b⟩ := J3.out
        go_upto_region 14 with fail
        clear j1a j1b j2a j2b j3a j3b z1 z2 z3 z4 z5 z6 p0 p1 p2 p3 J1 J2 J3
        have hgw : Grow wr u14 := HG5.out.trans (HG8.out.trans hb14)
        have hll : d + 1 ≤ 1000000 := by omega
        have hzz : Z ≤ (u14.alloc (.cells #[.int .i64 (bd : Int)] 3)).heap.size := by
          have h1 := HB2.out.size
          have h2 := hgw.size
          have h3 := HZ.out
          simp; omega
        have hcell : (u14.alloc (.cells #[.int .i64 (bd : Int)] 3)).cell? ⟨u14.heap.size, 0, none⟩ = some (.int .i64 (bd : Int)) := by rw [World.cell?_alloc_at _ _ _ _ rfl]; rfl
        have hoc : OwnI (u14.alloc (.cells #[.int .i64 (bd : Int)] 3)) Z (.slice av d cv) d xs := HO.out.grow (hgw.trans ((Grow.refl _).alloc _))
        have hga : Grow wr (u14.alloc (.cells #[.int .i64 (bd : Int)] 3)) := hgw.trans ((Grow.refl _).alloc _)
        go_wp2_with (at_builtin; refine wpList_append_int _ rfl _ _ 32 rfl ii Try.underlying32 HII.out HI0.out HI1.out HI2.out Z (.slice av d cv) d xs rfl hoc ⟨u14.heap.size, 0, none⟩ 1 (bd : Int) rfl hcell hll hzz ?_)
        intro v15 w15 hown15 hb15
        obtain ⟨a15, c15, rfl⟩ := hown15.form
        have HO15 := Lib.hid hown15
        have HB15 := Lib.hid ((HB2.out.trans (hga.but _)).trans hb15)
        have HLX := Lib.hid hoc.1
        clear hown15 hb15 hcell hoc hga hzz hll hgw hb14 HG8 HX8 hcX hvX HVX
        obtain ⟨y4, y3⟩ := Y4.out
        go_wp2_with fail
        clear y4 y3
        go_roundg (N - (k + 1))
        case measure => have := HGK.out; have := HK.out; omega
        case rel =>
          refine ⟨k + 1, d + 1, x3, c15, a15, _, rfl, rfl, rfl, HK.out, Lib.hid rfl, Lib.hid ?_, HX3, HO15, Lib.hid ?_, HB15⟩
          · rw [dgN_yes hn0 (by rw [HDI.out, HDJ.out]), HDI.out]
          · intro i hi
            by_cases h1 : i < d
            · rw [List.getElem?_append_left (by rw [HLX.out]; exact h1)]; exact HX.out i h1
            · have h2 : i = d := by omega
              subst h2
              rw [List.getElem?_append_right (by rw [HLX.out]; exact Nat.le_refl _), HLX.out, Nat.sub_self, ← HBD.out]
              rfl
      · have z1 : ((di : Int) != (dj : Int)) = true := by simp; omega
        have hd : d = dgN n (k + 1) := by rw [HD.out]; exact (dgN_no (by rw [← HN.out]; exact HK.out) (by rw [HDI.out, HDJ.out]; exact hdd)).symm
        have HD2 := Lib.hid hd
        clear hd
        go_simp
        obtain ⟨y4, y3⟩ := Y4.out
        go_wp2_with fail
        clear y4 y3
        go_roundg (N - (k + 1))
        case measure => have := HGK.out; omega
        case rel => exact ⟨k + 1, d, s, cv, av, xs, rfl, rfl, rfl, HK.out, Lib.hid rfl, HD2, HS, Lib.hid (HO.out.grow HG5.out), HX, Lib.hid (HB2.out.trans (HG5.out.but _))⟩
end Go.Proofs.Ytbpkfcohbefphaa
/- Walk: the closure of theta.weighted. -/
namespace Go.Proofs.Ytbpkfcohbefphaa
open Go Go.RowKit

theorem IntQ.but {X : Nat → Prop} {w w' : World} {B off n : Nat} {f : Nat → Int} (h : IntQ w B off n f) (hX : ¬ X B) (hg : But X w w') : IntQ w' B off n f :=
  ⟨Nat.lt_of_lt_of_le h.lt hg.size, fun i hi => (hg.cells _ _ h.lt hX).trans (h.cell i hi)⟩
theorem IntQ.cong {w : World} {B off n : Nat} {f g : Nat → Int} (h : IntQ w B off n f) (he : ∀ i, i < n → f i = g i) : IntQ w B off n g :=
  ⟨h.lt, fun i hi => by rw [← he i hi]; exact h.cell i hi⟩
theorem IntQ.set {w : World} {B off n : Nat} {f : Nat → Int} (h : IntQ w B off n f) {j : Nat} (hj : j < n) (x : Int) :
    IntQ (w.setCell ⟨B, off + j, none⟩ (.int .i64 x)) B off n (fun i => if i = j then x else f i) ∧ But (fun b => b = B) w (w.setCell ⟨B, off + j, none⟩ (.int .i64 x)) := by
  have hb : But (fun b => b = B) w (w.setCell ⟨B, off + j, none⟩ (.int .i64 x)) := (But.refl _ w).set _ (.inr rfl) (fun y => by rw [h.cell j hj]; simp)
  refine ⟨⟨Nat.lt_of_lt_of_le h.lt hb.size, fun i hi => ?_⟩, hb⟩
  by_cases e : i = j
  · subst e; rw [if_pos rfl]; exact World.cell?_setCell_same _ _ _ (h.cell i hi)
  · rw [if_neg e, World.cell?_setCell_other _ _ _ _ (by simp; try omega)]
    exact h.cell i hi
/-- What the closure needs: its captured cells and the row it counts in. -/
structure ManS (w : World) (p2 p3 p4 Mb cM prec : Nat) (h : Nat → Int) : Prop where
  c2 : w.cell? ⟨p2, 0, none⟩ = some (.int .i64 (prec : Int))
  c3 : w.cell? ⟨p3, 0, none⟩ = some (.slice (some ⟨Mb, 0, none⟩) prec cM)
  c4 : w.cell? ⟨p4, 0, none⟩ = some (.slice none 0 0)
  l2 : p2 < w.heap.size
  l3 : p3 < w.heap.size
  l4 : p4 < w.heap.size
  row : IntQ w Mb 0 prec h
  free : ∀ o, w.frozen? ⟨Mb, o, none⟩ = false
  n2 : p2 ≠ Mb
  n3 : p3 ≠ Mb
  n4 : p4 ≠ Mb
theorem ManS.but {X : Nat → Prop} {w w' : World} {p2 p3 p4 Mb cM prec : Nat} {h : Nat → Int} (H : ManS w p2 p3 p4 Mb cM prec h) (hb : But X w w') (x2 : ¬ X p2) (x3 : ¬ X p3) (x4 : ¬ X p4) (xM : ¬ X Mb) : ManS w' p2 p3 p4 Mb cM prec h :=
  ⟨(hb.cells _ _ H.l2 x2).trans H.c2, (hb.cells _ _ H.l3 x3).trans H.c3, (hb.cells _ _ H.l4 x4).trans H.c4, Nat.lt_of_lt_of_le H.l2 hb.size, Nat.lt_of_lt_of_le H.l3 hb.size, Nat.lt_of_lt_of_le H.l4 hb.size, H.row.but xM hb, fun o => (hb.frees _ _ H.row.lt).trans (H.free o), H.n2, H.n3, H.n4⟩
theorem ManS.step {w : World} {p2 p3 p4 Mb cM prec : Nat} {h : Nat → Int} (H : ManS w p2 p3 p4 Mb cM prec h) {j : Nat} (hj : j < prec) (x : Int) :
    ManS (w.setCell ⟨Mb, j, none⟩ (.int .i64 x)) p2 p3 p4 Mb cM prec (fun i => if i = j then x else h i) ∧ But (fun b => b = Mb) w (w.setCell ⟨Mb, j, none⟩ (.int .i64 x)) := by
  obtain ⟨h1, h2⟩ := H.row.set hj x
  rw [Nat.zero_add] at h1 h2
  exact ⟨⟨(h2.cells _ _ H.l2 H.n2).trans H.c2, (h2.cells _ _ H.l3 H.n3).trans H.c3, (h2.cells _ _ H.l4 H.n4).trans H.c4, Nat.lt_of_lt_of_le H.l2 h2.size, Nat.lt_of_lt_of_le H.l3 h2.size, Nat.lt_of_lt_of_le H.l4 h2.size, h1, fun o => (h2.frees _ _ H.row.lt).trans (H.free o), H.n2, H.n3, H.n4⟩, h2⟩
theorem ManS.cong {w : World} {p2 p3 p4 Mb cM prec : Nat} {h g : Nat → Int} (H : ManS w p2 p3 p4 Mb cM prec h) (he : ∀ i, i < prec → h i = g i) : ManS w p2 p3 p4 Mb cM prec g :=
  ⟨H.c2, H.c3, H.c4, H.l2, H.l3, H.l4, H.row.cong he, H.free, H.n2, H.n3, H.n4⟩
set_option maxRecDepth 20000 in
set_option maxHeartbeats 8000000 in
theorem cbT (p2 p3 p4 Mb cM prec q nx cx : Nat) (ax : Option Addr) (v5 : Value) (h : Nat → Int) (hh : ∀ j, j < prec → 0 ≤ h j ∧ h j ≤ 1000000000) (w : World) (H : ManS w p2 p3 p4 Mb cM prec h) :
    Calls Try.prog 30 #[.slice ax nx cx, .int .i64 (q : Int), .pointer (some ⟨p2, 0, none⟩), .pointer (some ⟨p3, 0, none⟩), .pointer (some ⟨p4, 0, none⟩), v5] w fun e w' =>
      e = .returned (.tuple #[]) ∧ ManS w' p2 p3 p4 Mb cM prec (fun i => if i = q then h i + 1 else h i) ∧ But (fun b => b = Mb) w w' := by
  obtain ⟨c2, c3, c4, l2, l3, l4, row, free, n2, n3, n4⟩ := id H
  have HH := Lib.hid H
  clear H
  by_cases hq : q < prec
  · have hc := row.cell q hq
    rw [Nat.zero_add] at hc
    obtain ⟨x, hx⟩ : ∃ x, h q = x := ⟨_, rfl⟩
    have hxb := hh q hq
    rw [hx] at hc hxb
    have Y := Lib.hid (w64n (n := x + 1) (by omega))
    have hst := HH.out.step hq (x + 1)
    have z0 : decide ((q : Int) ≥ (prec : Int)) = false := by simp; omega
    have z1 : ¬ ((prec : Int) ≤ (q : Int)) := by omega
    have z2 : ¬ (prec ≤ q) := by omega
    have z3 : (0 : Int) ≤ (q : Int) := by omega
    have z4 : (q : Int) < (prec : Int) := by omega
    have HX := Lib.hid hx
    have HST := Lib.hid hst
    have c4' : (w.setCell ⟨Mb, q, none⟩ (.int .i64 (x + 1))).cell? ⟨p4, 0, none⟩ = some (.slice none 0 0) := hst.1.c4
    obtain ⟨y1, y2⟩ := Y.out
    clear hst hxb hx row hh
    go_enter Try.func30, Try.ntmps30
    go_wp2_with fail
    obtain ⟨w1, hw1⟩ : ∃ w1, w.setCell ⟨Mb, q, none⟩ (.int .i64 (x + 1)) = w1 := ⟨_, rfl⟩
    rw [hw1] at HST ⊢
    clear hw1 c4' y1 y2 hc
    go_loopg [24] 0 (fun gk t24 wr => t24 = .int .i64 0 ∧ Hid (wr = w1))
    case atStart => exact ⟨rfl, Lib.hid rfl⟩
    case round =>
      obtain ⟨rfl, HW⟩ := hrel
      go_wp2_with fail
      (try simp only [Exit.inBlock, Exit.then]); refine bodyPost_end (results_none rfl _ _ _) rfl ?_
      refine ⟨rfl, ?_, ?_⟩
      · rw [HW.out]; exact HST.out.1.cong (fun i hi => by by_cases e : i = q <;> simp [e, HX.out])
      · rw [HW.out]; exact HST.out.2
  · have z0 : decide ((q : Int) ≥ (prec : Int)) = true := by simp; omega
    have z1 : (prec : Int) ≤ (q : Int) := by omega
    have z2 : prec ≤ q := by omega
    go_enter Try.func30, Try.ntmps30
    go_wp2_with fail
    refine bodyPost_ret (v := .tuple #[]) (results_none rfl _ _ _) rfl ?_
    exact ⟨rfl, HH.out.cong (fun i hi => by rw [if_neg (by omega)]), But.refl _ _⟩
end Go.Proofs.Ytbpkfcohbefphaa
