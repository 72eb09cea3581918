/- Lemmas, plain laws and walks that the statement LwKronecker leans on (texts BnC), conditions as each theorem says. -/
import Derived.Test.YtbpkfcohbefphaaGreatDoorTopKhG24

namespace Go.Proofs.YtbpkfcohbefphaaGreatDoor
open Go Go.RowKit
theorem RatR.len1 {w : World} {x : Rat} {s t : Bool} {a : Option Addr} {l c : Nat} {m2 : Value} (h : RatR w (.agg #[.bool s, .slice a l c, .bool t, m2]) x) (hn : x.num ≠ 0) : l = 1 := by
  obtain ⟨m, hv, hm⟩ := h.num
  obtain ⟨a', c', rfl⟩ := hm.form
  simp only [Value.agg.injEq, Array.mk.injEq, List.cons.injEq, Value.slice.injEq, and_true] at hv
  rw [hv.2.2.1, if_neg (by omega)]
set_option maxRecDepth 20000 in
set_option maxHeartbeats 8000000 in
theorem trimmedQ2 (g c : Nat) (r : Nat → Rat) (hnz : (r 1).num ≠ 0) (w : World) (h : RowQ w g 0 2 r) : Calls Tryz.prog 116 #[.slice (some ⟨g, 0, none⟩) 2 c] w fun e w' => e = .returned (.slice (some ⟨g, 0, none⟩) 2 c) ∧ w = w' := by
  obtain ⟨s7, a7, l7, c7, t7, b7, k7, e7, hcg, hvg⟩ := RowQ.cellj h 1 (by omega)
  obtain rfl : l7 = 1 := hvg.len1 hnz
  obtain ⟨p0, p1, p2, p3⟩ := hcg w (Grow.refl _)
  simp only [Nat.one_mul] at p0 p1 p2 p3
  have m1 : IntKind.i64.wrap 1 = 1 := by decide
  clear hcg hvg h
  go_enter Tryz.func116, Tryz.ntmps116
  go_wp2_with fail
  go_loopg [0] 0 (fun gk t0 wr => t0 = .slice (some ⟨g, 0, none⟩) 2 c ∧ wr = w)
  case atStart => exact ⟨rfl, rfl⟩
  case round =>
    obtain ⟨rfl, rfl⟩ := hrel
    go_wp2_with fail
    go_ret
    exact ⟨rfl, rfl⟩
set_option maxRecDepth 20000 in
set_option maxHeartbeats 8000000 in
theorem qnormalQ2 (g c : Nat) (r : Nat → Rat) (hnz : (r 1).num ≠ 0) (w : World) (h : RowQ w g 0 2 r) : Calls Tryz.prog 94 #[.slice (some ⟨g, 0, none⟩) 2 c] w fun e w' => ∃ G, e = .returned (.slice (some ⟨G, 0, none⟩) 2 2) ∧ RowQ w' G 0 2 r ∧ Grow w w' := by
  obtain ⟨iu, hiu, iuz0, iuz1, iuz2⟩ := info_parts infoRat
  have HR := Lib.hid h
  have TR := Lib.hid (fun (G c' : Nat) (u : World) (hu : RowQ u G 0 2 r) => trimmedQ2 G c' r hnz u hu)
  clear h
  go_enter Tryz.func94, Tryz.ntmps94
  go_wp2_with (at_make; refine wpList_make_full _ rfl _ _ 87 rfl (w.heap.size) 27 iu (.agg #[.bool false, .slice none 0 0, .bool false, .slice none 0 0]) 4 Tryz.underlying87 hiu iuz0 iuz1 .i64 .i64 2 2 2 rfl rfl rfl rfl ?m1 ?m2 (Nat.le_refl _) ?_)
  case m1 => rw [iuz2]; omega
  case m2 => unfold maxLen; omega
  intro w1 hown1 hgrow1
  have HM := Lib.hid (made_row (g := w.heap.size) hown1)
  have HG1 := Lib.hid (show Grow w w1 from (Grow.refl w).grown hgrow1 (fun k hk => by cases hk))
  clear hown1 hgrow1 hiu iuz0 iuz1 iuz2
  go_wp2_with fail
  go_loopg [11] 2 (fun gk t11 wr => ∃ j : Nat, t11 = .int .i64 (j : Int) ∧ j ≤ 2 ∧ Hid (gk = 2 - j) ∧ Hid (Grow w wr) ∧ Hid (RowP wr w.heap.size 0 2 (fun i => if i < j then some (r i) else none)))
  case atStart => exact ⟨0, rfl, Nat.zero_le _, Lib.hid rfl, HG1, Lib.hid (HM.out.mono (Nat.le_refl _) (fun i x _ hx => by rw [if_neg (Nat.not_lt_zero _)] at hx; cases hx))⟩
  case round =>
    obtain ⟨j, rfl, hj2, HGK, HGR, HRA⟩ := hrel
    by_cases hjm : j = 2
    · have HF : Hid (RowQ wr w.heap.size 0 2 r) := Lib.hid (by rw [hjm] at HRA; exact HRA.out.full (fun i hi => by rw [if_pos hi]))
      subst hjm
      go_wp2_with (go_at_call 116; (with_reducible refine (TR.out _ _ _ HF.out).mono ?_); (rintro e u9 ⟨rfl, rfl⟩))
      go_ret
      exact ⟨_, rfl, HF.out, HGR.out⟩
    · have y0 : (0 : Int) ≤ (j : Int) := by omega
      have y1 : decide ((j : Int) < 2) = true := by simp; omega
      have y1n : decide (j < 2) = true := by simp; omega
      have y2 : (j : Int) < 2 := by omega
      have y2n : j < 2 := by omega
      obtain ⟨s7, a7, l7, c7, t7, b7, k7, e7, hcg, hvg⟩ := RowQ.cellj (RowP.grow HR.out HGR.out) j (by omega)
      obtain ⟨s3, a3, l3, c3, t3, b3, k3, e3, q0, q1, q2, q3⟩ := RowP.q4 HRA.out (show j < 2 by omega)
      rw [Nat.zero_add] at q0 q1 q2 q3
      have hlA := HRA.out.lt
      have hfA := HRA.out.free
      have D0 := Lib.hid (fun (u : World) (hg : Grow wr u) => (⟨(hg.cells _ _ hlA).trans q0, (hg.cells _ _ hlA).trans q1, (hg.cells _ _ hlA).trans q2, (hg.cells _ _ hlA).trans q3, fun o => (hg.frees _ _ hlA).trans (hfA o), Nat.lt_of_lt_of_le hlA hg.size⟩ : _ ∧ _ ∧ _ ∧ _ ∧ (∀ o, u.frozen? ⟨w.heap.size, o, none⟩ = false) ∧ _))
      have HST := Lib.hid (fun (u : World) (hu : Grow wr u) (s : Bool) (a : Option Addr) (l c : Nat) (t : Bool) (b : Option Addr) (k e : Nat) (hx : RatR u (.agg #[.bool s, .slice a l c, .bool t, .slice b k e]) (r j)) => RowP.set (RowP.grow HRA.out hu) (show j < 2 by omega) hx)
      simp only [Nat.zero_add] at HST
      have NQ := Lib.hid (fun (u : World) (hu : Grow wr u) => normalQ (r j) _ u (hvg.grow hu))
      obtain ⟨p0, p1, p2, p3⟩ := hcg wr (Grow.refl _)
      have y4 := Lib.hid (inc_wrap (i := j) (n := 2) (by omega) (by omega))
      clear hfA hcg hvg q0 q1 q2 q3 hjm
      go_upto_region 5 with fail
      obtain ⟨W5, hW5⟩ : ∃ W5 : World, W5 = wr.alloc (.cells #[.bool s7, .slice a7 l7 c7, .bool t7, .slice b7 k7 e7] 27) := ⟨_, rfl⟩
      rw [← hW5]
      have hg5 := ag hW5
      obtain ⟨z0, z1, z2, z3, z4, z5⟩ := ak4 hW5 W5 (Grow.refl _)
      clear hW5 p0 p1 p2 p3
      go_upto_region 6 with (go_at_call 22; (with_reducible refine (NQ.out _ (by (repeat (first | with_reducible exact Grow.refl _ | with_reducible refine Grow.alloc ?_ _ | with_reducible refine Grow.drew ?_ | with_reducible refine Grow.drewN ?_ _ | (with_reducible refine Grow.setCell ?_ ?hp _; (case hp => (simp; try omega))) | with_reducible refine Grow.trans ?_ (by assumption))))).mono ?_); (rintro e u6 ⟨v6, rfl, hv6, hb6⟩; obtain ⟨s6, a6, l6, c6, t6, b6, k6, e6, rfl⟩ := hv6.form; have HV6 := Lib.hid hv6; clear hv6; obtain ⟨f0_6, f1_6, f2_6, f3_6, df6, dz6⟩ := D0.out u6 (by (repeat (first | with_reducible exact Grow.refl _ | with_reducible refine Grow.alloc ?_ _ | with_reducible refine Grow.drew ?_ | with_reducible refine Grow.drewN ?_ _ | (with_reducible refine Grow.setCell ?_ ?hp _; (case hp => (simp; try omega))) | with_reducible refine Grow.trans ?_ (by assumption))))))
      have hst := HST.out u6 (by (repeat (first | with_reducible exact Grow.refl _ | with_reducible refine Grow.alloc ?_ _ | with_reducible refine Grow.drew ?_ | with_reducible refine Grow.drewN ?_ _ | (with_reducible refine Grow.setCell ?_ ?hp _; (case hp => (simp; try omega))) | with_reducible refine Grow.trans ?_ (by assumption)))) _ _ _ _ _ _ _ _ HV6.out
      have HGF : Hid (Grow w ((((u6.setCell ⟨w.heap.size, j * 4, none⟩ (.bool s6)).setCell ⟨w.heap.size, j * 4 + 1, none⟩ (.slice a6 l6 c6)).setCell ⟨w.heap.size, j * 4 + 2, none⟩ (.bool t6)).setCell ⟨w.heap.size, j * 4 + 3, none⟩ (.slice b6 k6 e6))) := Lib.hid (by have h9 := HGR.out; (repeat (first | with_reducible exact Grow.refl _ | with_reducible refine Grow.alloc ?_ _ | with_reducible refine Grow.drew ?_ | with_reducible refine Grow.drewN ?_ _ | (with_reducible refine Grow.setCell ?_ ?hp _; (case hp => (simp; try omega))) | with_reducible refine Grow.trans ?_ (by assumption))))
      obtain ⟨y3, y4⟩ := y4.out
      go_wp2_with fail
      clear y3 y4
      go_roundg (2 - (j + 1))
      case measure => have := HGK.out; omega
      case rel =>
        refine ⟨j + 1, rfl, by omega, Lib.hid rfl, HGF, Lib.hid (RowP.mono hst (Nat.le_refl _) (fun i x _ hx => ?_))⟩
        by_cases hij : i = j
        · rw [if_pos hij]; rw [if_pos (by omega), hij] at hx; exact hx
        · rw [if_neg hij]
          by_cases hlt : i < j
          · rw [if_pos hlt]; rw [if_pos (by omega)] at hx; exact hx
          · rw [if_neg (by omega)] at hx; cases hx
/-- The first Bernoulli polynomial. -/
def plN (j : Nat) : Rat := if j = 0 then mkRat (-1) 2 else 1
theorem pl_tab (k q : Nat) (h : q + k = 1) : ((bnN 1 k : Int) : Rat) * nbN q = plN k ∧ (((bnN 1 k : Int) : Rat).num * (nbN q).num).natAbs < 4294967296 ∧ ((((bnN 1 k : Int) : Rat).den : Int) * ((nbN q).den : Int)).natAbs < 4294967296 := by
  rcases (show k = 0 ∨ k = 1 by omega) with rfl | rfl
  · obtain rfl : q = 1 := by omega
    decide +kernel
  · obtain rfl : q = 0 := by omega
    decide +kernel
set_option maxRecDepth 20000 in
set_option maxHeartbeats 8000000 in
theorem poly1Q (w : World) : Calls Tryz.prog 56 #[.int .i64 1] w fun e w' => ∃ G, e = .returned (.slice (some ⟨G, 0, none⟩) 2 2) ∧ RowQ w' G 0 2 plN ∧ Grow w w' := by
  obtain ⟨ir, hir, irz0, irz1, irz2⟩ := info_parts infoRat
  have NU1 := Lib.hid (fun u => numbers1Q u)
  have BR : Hid (∀ u, Calls Tryz.prog 92 #[.int .i64 1] u fun e w' => ∃ g c, e = .returned (.slice (some ⟨g, 0, none⟩) 2 c) ∧ RowZ w' g 2 (bnN 1) ∧ Grow u w' ∧ u.heap.size ≤ g) := Lib.hid (fun u => bnrowQ 1 (.inl rfl) u)
  have QN := Lib.hid (fun (g c : Nat) (u : World) (hu : RowQ u g 0 2 plN) => qnormalQ2 g c plN (by decide +kernel) u hu)
  go_enter Tryz.func56, Tryz.ntmps56
  go_upto_region 2 with (first
    | (go_at_call 91; (with_reducible refine (NU1.out _).mono ?_); (rintro e u2 ⟨g2, c2, rfl, hr2, hb2, hg2⟩; have HR2 := Lib.hid hr2; have HG2 := Lib.hid hb2; clear hr2 hb2 hg2))
    | (go_at_call 92; (with_reducible refine (BR.out _).mono ?_); (rintro e u3 ⟨g3, c3, rfl, hz3, hb3, hg3⟩; have HZ3 := Lib.hid hz3; have HG3 := Lib.hid hb3; clear hz3 hb3 hg3)))
  have HR3 := Lib.hid (RowP.grow HR2.out HG3.out)
  have HGW := Lib.hid (HG2.out.trans HG3.out)
  clear NU1 BR HR2 HG2 HG3
  go_wp2_with fail
  go_loopg [5, 6] 2 (fun gk t5 t6 wr => ∃ (k : Nat) (a : Option Addr) (c : Nat) (xs : List Value), t5 = .slice a k c ∧ t6 = .int .i64 (k : Int) ∧ k ≤ 2 ∧ Hid (gk = 2 - k) ∧ Hid (OwnG wr u3.heap.size 27 4 (.slice a k c) k xs) ∧ Hid (ListR wr xs k plN) ∧ Hid (But (fun b => u3.heap.size ≤ b) u3 wr))
  case atStart => exact ⟨0, none, 0, [], rfl, rfl, Nat.zero_le _, Lib.hid rfl, Lib.hid (OwnG.nil _ _ _ _), Lib.hid (ListR.nil _ _), Lib.hid (But.refl _ _)⟩
  case round =>
    obtain ⟨k, a, c, xs, rfl, rfl, hk2, HGK, HO, HL, HB⟩ := hrel
    have hg3 : Grow u3 wr := HB.out.asGrow (fun b hb => hb)
    have HG3 := Lib.hid hg3
    have HG : Hid (Grow w wr) := Lib.hid (HGW.out.trans hg3)
    by_cases hk : k = 2
    · subst hk
      obtain ⟨g, cap, hv, hg1, hg2⟩ := own_slice HO.out.own (by omega)
      injection hv with h1 h2 h3
      subst h1 h3
      have HRQ := Lib.hid (own_rowq HO.out.own HL.out)
      clear hg3
      go_wp2_with (go_at_call 94; (with_reducible refine (QN.out _ _ _ HRQ.out).mono ?_); (rintro e u9 ⟨G, rfl, hr9, hb9⟩))
      go_ret
      exact ⟨G, rfl, hr9, HG.out.trans hb9⟩
    · have y1 : decide ((k : Int) ≤ 1) = true := by simp; omega
      have y1n : decide (k ≤ 1) = true := by simp; omega
      obtain ⟨q, hq⟩ : ∃ q, q + k = 1 := ⟨1 - k, by omega⟩
      have z0 : (0 : Int) ≤ (k : Int) := by omega
      have z1 : (k : Int) < 2 := by omega
      have z2 : k < 2 := by omega
      have z3 : (0 : Int) ≤ (q : Int) := by omega
      have z4 : (q : Int) < 2 := by omega
      have z5 : q < 2 := by omega
      have E1 : Hid (IntKind.i64.wrap (1 - (k : Int)) = (q : Int) ∧ wrap64 (1 - (k : Int)) = (q : Int)) := Lib.hid (by rw [show 1 - (k : Int) = (q : Int) by omega]; exact w64n (by omega))
      have y4 := Lib.hid (inc_wrap (i := k) (n := 2) (by omega) (by omega))
      have hz := HZ3.out.grow hg3
      obtain ⟨s8, a8, l8, c8, x0, x1, hvz⟩ := hz.at2 k z2
      have hzl := hz.lt
      obtain ⟨s7, a7, l7, c7, t7, b7, k7, e7, hcg, hvg⟩ := RowQ.cellj (RowP.grow HR3.out hg3) q z5
      have D0 := Lib.hid (fun (u : World) (hu : Grow wr u) => (⟨(hu.cells _ _ hzl).trans x0, (hu.cells _ _ hzl).trans x1⟩ : _ ∧ _))
      have D1 := Lib.hid hcg
      have HE := Lib.hid hvg
      have WH := Lib.hid (fun (u : World) (hu : Grow wr u) => wholeQ (bnN 1 k) _ u (hvz.grow hu))
      have MU := Lib.hid (fun v1 v2 (u : World) h1 h2 => mulQk ((bnN 1 k : Int) : Rat) (nbN q) (plN k) (pl_tab k q hq) v1 v2 u h1 h2)
      clear hz x0 x1 hvz hzl hcg hvg hq hg3 hk
      obtain ⟨e1, e1'⟩ := E1.out
      go_upto_region 6 with fail
      refine region_held (id := 6) (fun u => Grow wr u) [0, 1, 2, 3, 4, 6, 7, 8, 9, 10, 11, 5, 12, 13, 14, 15] (kdL [0, 0, 0, 0, 1, 2, 0, 0, 0, 0, 0, 1, 2, 2, 3, 0]) (by kernel_rfl) (by kernel_rfl) (fun t ht => kdL_lt _ t ht) ?hS0q ?_
      case hS0q => ((try dsimp only); (repeat (first | with_reducible exact Grow.refl _ | with_reducible refine Grow.alloc ?_ _ | with_reducible refine Grow.drew ?_ | with_reducible refine Grow.drewN ?_ _ | (with_reducible refine Grow.setCell ?_ ?hp _; (case hp => (simp; try omega))) | with_reducible refine Grow.trans ?_ (by assumption))))
      refine held_quiet (v := ?vq0) rfl rfl (Or.inl ⟨by rfl, ?hyq0⟩) ?_
      case hyq0 => (intro u hu; go_simp; (try with_reducible rfl))
      (try simp only [Act.put, List.setIfInBounds_toArray, List.set_cons_zero, List.set_cons_succ])
      refine held_quiet (v := ?vq1) rfl rfl (Or.inl ⟨by rfl, ?hyq1⟩) ?_
      case hyq1 => (intro u hu; go_simp; (try with_reducible rfl))
      (try simp only [Act.put, List.setIfInBounds_toArray, List.set_cons_zero, List.set_cons_succ])
      refine held_quiet (v := ?vq2) rfl rfl (Or.inl ⟨by rfl, ?hyq2⟩) ?_
      case hyq2 => (intro u hu; go_simp; (try with_reducible rfl))
      (try simp only [Act.put, List.setIfInBounds_toArray, List.set_cons_zero, List.set_cons_succ])
      refine held_quiet (v := ?vq3) rfl rfl (Or.inl ⟨by rfl, ?hyq3⟩) ?_
      case hyq3 => (intro u hu; go_simp; (try with_reducible rfl))
      (try simp only [Act.put, List.setIfInBounds_toArray, List.set_cons_zero, List.set_cons_succ])
      refine held_read (v := ?vq4) rfl rfl (Or.inl ⟨by rfl, ?hyq4⟩) ?_
      case hyq4 => (intro u hu; obtain ⟨d0, d1⟩ := D0.out u hu; obtain ⟨f0, f1, f2, f3⟩ := D1.out u hu; go_simp; (try with_reducible rfl))
      (try simp only [Act.put, List.setIfInBounds_toArray, List.set_cons_zero, List.set_cons_succ])
      refine held_quiet (v := ?vq6) rfl rfl (Or.inl ⟨by rfl, ?hyq6⟩) ?_
      case hyq6 => (intro u hu; go_simp; (try with_reducible rfl))
      (try simp only [Act.put, List.setIfInBounds_toArray, List.set_cons_zero, List.set_cons_succ])
      refine held_quiet (v := ?vq7) rfl rfl (Or.inl ⟨by rfl, ?hyq7⟩) ?_
      case hyq7 => (intro u hu; go_simp; (try with_reducible rfl))
      (try simp only [Act.put, List.setIfInBounds_toArray, List.set_cons_zero, List.set_cons_succ])
      refine held_quiet (v := ?vq8) rfl rfl (Or.inl ⟨by rfl, ?hyq8⟩) ?_
      case hyq8 => (intro u hu; go_simp; (try with_reducible rfl))
      (try simp only [Act.put, List.setIfInBounds_toArray, List.set_cons_zero, List.set_cons_succ])
      refine held_quiet (v := ?vq9) rfl rfl (Or.inl ⟨by rfl, ?hyq9⟩) ?_
      case hyq9 => (intro u hu; go_simp; (try with_reducible rfl))
      (try simp only [Act.put, List.setIfInBounds_toArray, List.set_cons_zero, List.set_cons_succ])
      refine held_quiet (v := ?vq10) rfl rfl (Or.inl ⟨by rfl, ?hyq10⟩) ?_
      case hyq10 => (intro u hu; go_simp; (try with_reducible rfl))
      (try simp only [Act.put, List.setIfInBounds_toArray, List.set_cons_zero, List.set_cons_succ])
      refine held_read (v := ?vq11) rfl rfl (Or.inl ⟨by rfl, ?hyq11⟩) ?_
      case hyq11 => (intro u hu; obtain ⟨d0, d1⟩ := D0.out u hu; obtain ⟨f0, f1, f2, f3⟩ := D1.out u hu; go_simp; (try with_reducible rfl))
      (try simp only [Act.put, List.setIfInBounds_toArray, List.set_cons_zero, List.set_cons_succ])
      refine held_op rfl rfl (fun K hK => ?_)
      go_simp
      (go_at_call 93; (with_reducible refine (WH.out _ (by (repeat (first | with_reducible exact Grow.refl _ | with_reducible refine Grow.alloc ?_ _ | with_reducible refine Grow.drew ?_ | with_reducible refine Grow.drewN ?_ _ | (with_reducible refine Grow.setCell ?_ ?hp _; (case hp => (simp; try omega))) | with_reducible refine Grow.trans ?_ (by assumption))))).mono ?_); (rintro x u25 ⟨v25, rfl, hv25, hb25⟩; obtain ⟨s25, a25, l25, c25, t25, b25, k25, e25, rfl⟩ := hv25.form; have HV25 := Lib.hid hv25; clear hv25))
      (try go_wp2_with fail)
      refine hK.out _ _ ?hSq5 ?_
      case hSq5 => ((try dsimp only); (repeat (first | with_reducible exact Grow.refl _ | with_reducible refine Grow.alloc ?_ _ | with_reducible refine Grow.drew ?_ | with_reducible refine Grow.drewN ?_ _ | (with_reducible refine Grow.setCell ?_ ?hp _; (case hp => (simp; try omega))) | with_reducible refine Grow.trans ?_ (by assumption))))
      clear hK K
      (try simp only [Act.put, List.setIfInBounds_toArray, List.set_cons_zero, List.set_cons_succ])
      refine held_op rfl rfl (fun K hK => ?_)
      go_simp
      (go_at_call 34; (with_reducible refine (MU.out _ _ _ (HV25.out.grow (by (repeat (first | with_reducible exact Grow.refl _ | with_reducible refine Grow.alloc ?_ _ | with_reducible refine Grow.drew ?_ | with_reducible refine Grow.drewN ?_ _ | (with_reducible refine Grow.setCell ?_ ?hp _; (case hp => (simp; try omega))) | with_reducible refine Grow.trans ?_ (by assumption))))) (HE.out.grow (by (repeat (first | with_reducible exact Grow.refl _ | with_reducible refine Grow.alloc ?_ _ | with_reducible refine Grow.drew ?_ | with_reducible refine Grow.drewN ?_ _ | (with_reducible refine Grow.setCell ?_ ?hp _; (case hp => (simp; try omega))) | with_reducible refine Grow.trans ?_ (by assumption)))))).mono ?_); (rintro x u32 ⟨v32, rfl, hv32, hb32⟩; obtain ⟨s32, a32, l32, c32, t32, b32, k32, e32, rfl⟩ := hv32.form; have HV32 := Lib.hid hv32; clear hv32))
      (try go_wp2_with fail)
      refine hK.out _ _ ?hSq12 ?_
      case hSq12 => ((try dsimp only); (repeat (first | with_reducible exact Grow.refl _ | with_reducible refine Grow.alloc ?_ _ | with_reducible refine Grow.drew ?_ | with_reducible refine Grow.drewN ?_ _ | (with_reducible refine Grow.setCell ?_ ?hp _; (case hp => (simp; try omega))) | with_reducible refine Grow.trans ?_ (by assumption))))
      clear hK K
      (try simp only [Act.put, List.setIfInBounds_toArray, List.set_cons_zero, List.set_cons_succ])
      refine held_op rfl rfl (fun K hK => ?_)
      go_simp
      refine hK.out _ _ ?hSq13 ?_
      case hSq13 => ((try dsimp only); (repeat (first | with_reducible exact Grow.refl _ | with_reducible refine Grow.alloc ?_ _ | with_reducible refine Grow.drew ?_ | with_reducible refine Grow.drewN ?_ _ | (with_reducible refine Grow.setCell ?_ ?hp _; (case hp => (simp; try omega))) | with_reducible refine Grow.trans ?_ (by assumption))))
      clear hK K
      (try simp only [Act.put, List.setIfInBounds_toArray, List.set_cons_zero, List.set_cons_succ])
      refine held_last rfl rfl (fun K hK => ?_)
      (refine step_append_g (by rfl) _ _ _ (by rfl) 27 ir _ 4 64 Tryz.underlying87 hir irz0 irz1 irz2 rfl (by decide) rat_zero_nu (by decide) u3.heap.size _ k xs (by rfl) (HO.out.grow (by (repeat (first | with_reducible exact Grow.refl _ | with_reducible refine Grow.alloc ?_ _ | with_reducible refine Grow.drew ?_ | with_reducible refine Grow.drewN ?_ _ | (with_reducible refine Grow.setCell ?_ ?hp _; (case hp => (simp; try omega))) | with_reducible refine Grow.trans ?_ (by assumption))))) ⟨u32.heap.size, 0, none⟩ 1 [.bool s32, .slice a32 l32 c32, .bool t32, .slice b32 k32 e32] (by rfl) rfl (rat_news u32 s32 a32 l32 c32 t32 b32 k32 e32 27) (rat_one s32 a32 l32 c32 t32 b32 k32 e32) (rat_nu s32 a32 l32 c32 t32 b32 k32 e32) (by omega) (by have h1 := HG3.out.size; have h2 := (show Grow wr u32 by (repeat (first | with_reducible exact Grow.refl _ | with_reducible refine Grow.alloc ?_ _ | with_reducible refine Grow.drew ?_ | with_reducible refine Grow.drewN ?_ _ | (with_reducible refine Grow.setCell ?_ ?hp _; (case hp => (simp; try omega))) | with_reducible refine Grow.trans ?_ (by assumption)))).size; simp; omega) ?_; intro v7 w7 hown7 hb7; obtain ⟨a7, c7, rfl⟩ := hown7.form)
      refine hK.out _ _ ?_
      clear hK K
      (try simp only [Act.put, List.setIfInBounds_toArray, List.set_cons_zero, List.set_cons_succ])
      refine held_quiet (v := ?vq15) rfl rfl (Or.inl ⟨by rfl, ?hyq15⟩) ?_
      case hyq15 => (intro u hu; go_simp; (try with_reducible rfl))
      (try simp only [Act.put, List.setIfInBounds_toArray, List.set_cons_zero, List.set_cons_succ])
      refine held_done ?_
      clear e1 e1' y1 y1n
      have hga : Grow wr (u32.alloc (.cells #[.bool s32, .slice a32 l32 c32, .bool t32, .slice b32 k32 e32] 27)) := by (repeat (first | with_reducible exact Grow.refl _ | with_reducible refine Grow.alloc ?_ _ | with_reducible refine Grow.drew ?_ | with_reducible refine Grow.drewN ?_ _ | (with_reducible refine Grow.setCell ?_ ?hp _; (case hp => (simp; try omega))) | with_reducible refine Grow.trans ?_ (by assumption)))
      have hl7 := ((HL.out.grow hga).append ((listr_one HV32.out).grow (by (repeat (first | with_reducible exact Grow.refl _ | with_reducible refine Grow.alloc ?_ _ | with_reducible refine Grow.drew ?_ | with_reducible refine Grow.drewN ?_ _ | (with_reducible refine Grow.setCell ?_ ?hp _; (case hp => (simp; try omega))) | with_reducible refine Grow.trans ?_ (by assumption)))))).but hb7
      have HL7 := Lib.hid (hl7.cong (r' := plN) (fun j hj => by
        by_cases hjk : j < k
        · rw [if_pos hjk]
        · rw [if_neg hjk, show j = k by omega]))
      have HO7 := Lib.hid hown7
      have HB7 := Lib.hid (((HB.out.trans (hga.but _)).late hb7 (fun b hb hy => hy)))
      clear hl7 hown7 hb7 hga
      obtain ⟨e4, e4'⟩ := y4.out
      go_simp
      go_wp2_with fail
      clear e4 e4'
      go_roundg (2 - (k + 1))
      case measure => have := HGK.out; omega
      case rel => exact ⟨k + 1, a7, c7, _, rfl, rfl, by omega, Lib.hid rfl, HO7, HL7, HB7⟩
end Go.Proofs.YtbpkfcohbefphaaGreatDoor
