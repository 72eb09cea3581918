/- Lemmas, plain laws and walks that the statement LwValence leans on (texts VaB), conditions as each theorem says. -/
import Derived.Test.YtbpkfcohbefphaaGreatTopValG12
import Derived.Test.YtbpkfcohbefphaaGreatTopValG16

namespace Go.Proofs.YtbpkfcohbefphaaGreat
open Go Go.RowKit
theorem vS_b {N : Nat} {l : List Int} (h1 : 1 ≤ N) (h2 : N ≤ 60) (hl : l.length = (divs N).length) (hf : FitE l) : ∀ t, t ≤ (cusL N).length → (vS N l t).natAbs ≤ 732000 * t
  | 0, _ => by simp [vS, sumF]
  | t + 1, h => by
    have h3 := vS_b h1 h2 hl hf t (by omega)
    have h4 := sP_b h2 (cus_get h1 h2 (s := t) (by omega)).2.2.1 hl hf (divs N).length (Nat.le_refl _)
    have hdl := divs_len N
    have e : vS N l (t + 1) = vS N l t + sP N (cuQ N t) l (divs N).length := rfl
    rw [e]
    generalize vS N l t = x at *
    generalize sP N (cuQ N t) l (divs N).length = y at *
    omega
/-- Whether m is 0 or one of the first t cusps has a pole at m - 1. -/
def tgB (N : Nat) (l : List Int) (m : Int) : Nat → Bool
  | 0 => m == 0
  | t + 1 => tgB N l m t || decide (sE N (cuQ N t) l + 24 * ((m - 1) * (wdE N (cuQ N t) : Int)) < 0)
theorem tgB_mono (N : Nat) (l : List Int) (m : Int) (s : Nat) : ∀ t, s ≤ t → tgB N l m s = true → tgB N l m t = true
  | 0, h, h2 => by obtain rfl : s = 0 := by omega
                   exact h2
  | t + 1, h, h2 => by
    by_cases e : s = t + 1
    · subst e; exact h2
    · show (tgB N l m t || _) = true
      rw [tgB_mono N l m s t (by omega) h2]; rfl
theorem tgB_all {N : Nat} (l : List Int) (h1 : 1 ≤ N) (h2 : N ≤ 60) : tgB N l (pE N l) (cusL N).length = true := by
  rcases pole_tight l h1 h2 with h | ⟨s, hs, h⟩
  · exact tgB_mono N l _ 0 _ (Nat.zero_le _) (by show (pE N l == 0) = true; rw [h]; rfl)
  · refine tgB_mono N l _ (s + 1) _ hs ?_
    show (_ || decide _) = true
    rw [decide_eq_true h, Bool.or_true]
theorem tS_b {l : List Int} (hf : FitE l) : ∀ t, t ≤ l.length → (tS l t).natAbs ≤ 200 * t
  | 0, _ => by simp [tS, sumF]
  | t + 1, h => by
    have h3 := tS_b hf t (by omega)
    obtain ⟨h4, h5⟩ := hf t (by omega)
    have e : tS l (t + 1) = tS l t + l.getD t 0 := rfl
    rw [e]
    generalize tS l t = x at *
    generalize l.getD t 0 = y at *
    omega
theorem cusL_pos {N : Nat} (h1 : 1 ≤ N) (h2 : N ≤ 60) : 0 < (cusL N).length := by
  have hd := divs_pos N h1
  obtain ⟨x, hx, -⟩ := ((cus_at h1 h2).2.2 _ (getD_mem_divs (n := N) (i := 0) hd)).1
  exact List.length_pos_of_mem hx
theorem num_sg (x : Rat) (z : Int) (d : Int) (hd : 0 < d) (h : x = (z : Rat) / (d : Rat)) : sgI x.num = sgI z := by
  have hd0 : ((d : Int) : Rat) ≠ 0 := by intro e; rw [Rat.intCast_eq_zero_iff] at e; omega
  have h2 : x.num * d = z * x.den := by
    have e1 : x = (x.num : Rat) / ((x.den : Int) : Rat) := by
      rw [← Rat.divInt_eq_div, Rat.num_divInt_den]
    have hx0 : (((x.den : Int) : Int) : Rat) ≠ 0 := by intro e; rw [Rat.intCast_eq_zero_iff] at e; have := x.den_nz; omega
    have e2 : (x.num : Rat) * (d : Rat) = (z : Rat) * ((x.den : Int) : Rat) := by
      have h3 : (x.num : Rat) / ((x.den : Int) : Rat) = (z : Rat) / (d : Rat) := by rw [← e1, h]
      grind
    rw [← Rat.intCast_mul, ← Rat.intCast_mul, Rat.intCast_inj] at e2
    exact e2
  have hp : 0 < (x.den : Int) := by have := x.den_nz; omega
  unfold sgI
  rcases Int.lt_trichotomy x.num 0 with h3 | h3 | h3
  · have h4 : z * x.den < 0 := by rw [← h2]; exact Int.mul_neg_of_neg_of_pos h3 hd
    have h5 : z < 0 := by
      rcases Int.lt_or_le z 0 with h6 | h6
      · exact h6
      · have := Int.mul_nonneg h6 (Int.le_of_lt hp); omega
    simp [h3, h5]
  · rw [h3, Int.zero_mul] at h2
    have h5 : z = 0 := by
      rcases Int.mul_eq_zero.1 h2.symm with h6 | h6
      · exact h6
      · omega
    simp [h3, h5]
  · have h4 : 0 < z * x.den := by rw [← h2]; exact Int.mul_pos h3 hd
    have h5 : 0 < z := by
      rcases Int.lt_or_le 0 z with h6 | h6
      · exact h6
      · have := Int.mul_le_mul_of_nonneg_right h6 (Int.le_of_lt hp); omega
    have h6 : ¬ x.num < 0 := by omega
    have h7 : ¬ z < 0 := by omega
    simp [h3, h5, h6, h7]
theorem t24_int (s p : Int) : ((s : Int) / ((24 : Int) : Rat)) + ((p : Int) : Rat) = ((s + 24 * p : Int) : Rat) / ((24 : Int) : Rat) := by
  rw [Rat.intCast_add, Rat.intCast_mul]
  have h3 : ((24 : Int) : Rat) ≠ 0 := by decide +kernel
  grind
/-- The list of cusps in memory. -/
def CuR (w : World) (g N : Nat) : Prop := g < w.heap.size ∧ ∀ j, j < (cusL N).length → w.cell? ⟨g, j * 2, none⟩ = some (.int .i64 (cuP N j : Int)) ∧ w.cell? ⟨g, j * 2 + 1, none⟩ = some (.int .i64 (cuQ N j : Int))
theorem CuR.grow {w w' : World} {g N : Nat} (h : CuR w g N) (hg : Grow w w') : CuR w' g N :=
  ⟨Nat.lt_of_lt_of_le h.1 hg.size, fun j hj => ⟨(hg.cells _ _ h.1).trans (h.2 j hj).1, (hg.cells _ _ h.1).trans (h.2 j hj).2⟩⟩
theorem OwnCu.cur {w : World} {base : Nat} {v : Value} {N : Nat} (h : OwnCu w base v (cusL N)) (hn : 0 < (cusL N).length) : ∃ g cap, v = .slice (some ⟨g, 0, none⟩) (cusL N).length cap ∧ CuR w g N := by
  obtain ⟨g, cap, rfl, h1, h2⟩ := own_slice h hn
  refine ⟨g, cap, rfl, h2, fun j hj => ?_⟩
  obtain ⟨c1, c2⟩ := cellsP_at (cusL N) j hj
  have k1 := World.ownsRow.cells h (g := g) rfl _ _ c1
  have k2 := World.ownsRow.cells h (g := g) rfl _ _ c2
  have e : ∀ i, (⟨g, 0, none⟩ : Addr).add i = ⟨g, i, none⟩ := fun i => by cases i <;> simp [Addr.add]
  rw [e] at k1 k2
  exact ⟨k1, k2⟩
set_option maxRecDepth 20000 in
set_option maxHeartbeats 8000000 in
theorem topValQ0 (N : Nat) (l : List Int) (v : Value) (h1 : 1 ≤ N) (h2 : N ≤ 60) (hl : l.length = (divs N).length) (hf : FitE l) (w : World) (hv : RdInts w v l) : Calls Tryz.prog 4 #[.agg #[.int .i64 (N : Int), v]] w fun e w' => e = .returned (.bool true) ∧ Grow w w' := by
  have hdl := divs_len N
  have hdp := divs_pos N h1
  have hKp := cusL_pos h1 h2
  have hK60 := (cus_at h1 h2).2.1
  have TW := Lib.hid (fun u => twelveQ u)
  have CQ := Lib.hid (fun u hu => echeckOK N l v h1 h2 hl hf u hu)
  have LQ := Lib.hid (fun u => list0Q N h1 h2 u)
  have PS := Lib.hid (fun u => psiQ N h1 h2 u)
  have PQ := Lib.hid (fun u hu => poleQ N l v h1 h2 hl hf u hu)
  have OF := Lib.hid (fun u => ofQ 0 (by decide) u)
  have OQ := Lib.hid (fun s (hs : s < (cusL N).length) u hu => eOrderQ N (cuQ N s) l v h1 h2 (cus_get h1 h2 hs).2.2.1 hl hf u hu)
  have WQ := Lib.hid (fun s (hs : s < (cusL N).length) u => width0Q N (cuP N s) (cuQ N s) h1 h2 (cus_get h1 h2 hs).1 (cus_get h1 h2 hs).2.1 (by have := (divs_mem (cus_get h1 h2 hs).2.2.1); omega) (cus_get h1 h2 hs).2.2.2 u)
  have WB := Lib.hid (fun s => wdE_b (c := cuQ N s) h1 h2)
  have SB : Hid (∀ s, s < (cusL N).length → (sE N (cuQ N s) l).natAbs ≤ 732000) := Lib.hid (fun s hs => Nat.le_trans (sP_b h2 (cus_get h1 h2 hs).2.2.1 hl hf (divs N).length (Nat.le_refl _)) (by omega))
  have VB := Lib.hid (vS_b h1 h2 hl hf)
  have PB : Hid (0 ≤ pE N l ∧ pE N l ≤ 732001) := Lib.hid (pP_b h2 hl hf _ (Nat.le_refl _))
  have PO := Lib.hid (fun s (hs : s < (cusL N).length) => pole_ok l h1 h2 hs)
  have TA := Lib.hid (tgB_all l h1 h2)
  have TB := Lib.hid (tS_b hf)
  have FT := Lib.hid hf
  have VAL := Lib.hid (valence l h1 h2)
  obtain ⟨B, off, cap, rfl, hI⟩ := hv.cellsOf (by omega)
  obtain ⟨k, hk⟩ : ∃ k, (divs N).length = k := ⟨_, rfl⟩
  rw [hl] at CQ PQ OQ TB hI hv
  rw [hl]
  rw [hk] at CQ PQ OQ TB VAL hI hdl hdp hv
  rw [hk]
  have FT : Hid (∀ j, j < k → -200 ≤ l.getD j 0 ∧ l.getD j 0 ≤ 200) := Lib.hid (fun j hj => hf j (by omega))
  obtain ⟨m, hm⟩ : ∃ m, pE N l = m := ⟨_, rfl⟩
  rw [hm] at PQ PB PO TA
  obtain ⟨ps, hps⟩ : ∃ ps : Nat, psiN N = ps := ⟨_, rfl⟩
  rw [hps] at PS VAL
  obtain ⟨K, hKK⟩ : ∃ K, (cusL N).length = K := ⟨_, rfl⟩
  have HKK := Lib.hid hKK
  rw [hKK] at OQ WQ SB VB PO TA VAL hKp hK60
  clear hl hf hk hm hps hKK
  obtain ⟨W1, hW1⟩ : ∃ W1 : World, W1 = w.alloc (.cells #[.int .i64 (N : Int), .slice (some ⟨B, off, none⟩) k cap] 45) := ⟨_, rfl⟩
  have K1 := Lib.hid (ak2 hW1)
  have HG1 := Lib.hid (ag hW1)
  have HI := Lib.hid (hI.grow (ag hW1))
  have HV := Lib.hid (fun u (hu : Grow W1 u) => hv.grow ((ag hW1).trans hu))
  have HW1 := Lib.hid hW1
  clear hW1 hv hI
  obtain ⟨f0, f1, f2, f3⟩ := K1.out W1 (Grow.refl _)
  have y2 : decide ((N : Int) > 60) = false := by simp; omega
  go_enter Tryz.func4, Tryz.ntmps4
  go_upto_region 1 with fail
  rw [← HW1.out]
  go_upto_region 3 with (go_at_call 13; (with_reducible refine (CQ.out _ (HV.out _ (Grow.refl _))).mono ?_); (rintro e u3 ⟨rfl, hb3⟩; have HG3 := Lib.hid hb3; obtain ⟨g0, g1, g2, g3⟩ := K1.out u3 hb3; clear hb3))
  clear f0 f1 f2 f3 y2
  go_upto_region 4 with (go_at_call 15; (with_reducible refine (LQ.out _).mono ?_); (rintro e u4 ⟨v4, rfl, ho4, hb4⟩; have HO4 := Lib.hid ho4; have HG4 := Lib.hid (HG3.out.trans hb4); clear ho4 hb4))
  obtain ⟨g, cg, rfl, hcu4⟩ := HO4.out.cur (by rw [HKK.out]; exact hKp)
  rw [HKK.out]
  have HC4 := Lib.hid hcu4
  clear g0 g1 g2 g3 hcu4 HO4
  obtain ⟨f0, f1, f2, f3⟩ := K1.out u4 HG4.out
  go_upto_region 5 with (go_at_call 16; (with_reducible refine (PS.out _).mono ?_); (rintro e u5 ⟨rfl, hb5⟩; have HG5 := Lib.hid (HG4.out.trans hb5); have HC5 := Lib.hid (HC4.out.grow hb5); clear hb5))
  clear f0 f1 f2 f3
  obtain ⟨f0, f1, f2, f3⟩ := K1.out u5 HG5.out
  go_upto_region 8 with (go_at_call 17; (with_reducible refine (PQ.out _ (HV.out _ HG5.out)).mono ?_); (rintro e u6 ⟨rfl, hb6⟩; have HG6 := Lib.hid (HG5.out.trans hb6); have HC6 := Lib.hid (HC5.out.grow hb6); clear hb6))
  clear f0 f1 f2 f3
  go_upto_region 9 with (go_at_call 18; (with_reducible refine (OF.out _).mono ?_); (rintro e u8 ⟨v8, rfl, hv8, hb8⟩; obtain ⟨s8, a8, l8, c8, t8, b8, k8, e8, rfl⟩ := hv8.form; have HV8 := Lib.hid hv8; have HG8 := Lib.hid hb8; clear hv8 hb8))
  obtain ⟨W9, hW9⟩ : ∃ W9 : World, W9 = u8.alloc (.cells #[.bool s8, .slice a8 l8 c8, .bool t8, .slice b8 k8 e8] 36) := ⟨_, rfl⟩
  rw [← hW9]
  have HR9 := Lib.hid (rowq_lay hW9 HV8.out)
  have HG9 := Lib.hid (HG8.out.trans (ag hW9))
  have hz8 : u6.heap.size ≤ u8.heap.size := HG8.out.size
  have HF9 : Hid (∀ b, b = u8.heap.size → u6.heap.size ≤ b) := Lib.hid (fun b hb => by rw [hb]; exact hz8)
  clear hW9 hz8 HC4 HC5 HG4 HG5 HG3 HV8 HG8
  obtain ⟨F, hF⟩ : ∃ F, u8.heap.size = F := ⟨_, rfl⟩
  rw [hF] at HR9 HF9
  try rw [hF]
  clear hF
  go_wp2_with fail
  go_loopg [12, 11] K (fun gk t12 t11 wr => ∃ (i : Nat) (b : Bool), t12 = .int .i64 (i : Int) ∧ t11 = .bool b ∧ i ≤ K ∧ Hid (gk = K - i) ∧ Hid (b = tgB N l m i) ∧ Hid (RowQ wr F 0 1 (fun _ => (vS N l i : Int) / ((24 : Int) : Rat))) ∧ Hid (But (fun y => y = F) W9 wr))
  case atStart => exact ⟨0, _, rfl, rfl, Nat.zero_le _, Lib.hid rfl, Lib.hid rfl, Lib.hid (HR9.out.cong (fun j _ => by show ((0 : Int) : Rat) / ((24 : Int) : Rat) = _; decide +kernel)), Lib.hid (But.refl _ _)⟩
  case round =>
    obtain ⟨i, b, rfl, rfl, hi, HGK, HBT, HR, HB⟩ := hrel
    have hgr : Grow u6 wr := ((HG9.out.but _).trans HB.out).asGrow HF9.out
    have HGR := Lib.hid hgr
    have HCR := Lib.hid (HC6.out.grow hgr)
    obtain ⟨s3, a3, l3, c3, t3, b3, k3, e3, ⟨p0, p1, p2, p3⟩, hvb⟩ := RowQ.at4 HR.out (show 0 < 1 by omega)
    rw [Nat.zero_mul, Nat.add_zero] at p0 p1 p2 p3
    have HVB := Lib.hid hvb
    have hlB := HR.out.lt
    have hfB := HR.out.free
    have KK := Lib.hid (fun (u : World) (hg : Grow wr u) => K1.out u (HG6.out.trans (HGR.out.trans hg)))
    clear hgr hvb
    by_cases hik : i = K
    · have y1 : decide ((i : Int) < (K : Int)) = false := by simp; omega
      have y1' : decide (i < K) = false := by simp; omega
      have hb := HBT.out
      rw [hik, TA.out] at hb
      subst hb
      have hvv : vS N l i = (ps : Int) * tS l k := by rw [hik]; exact VAL.out
      have hvb2 := VB.out i (by omega)
      obtain ⟨vv, hvv2⟩ : ∃ vv, vS N l i = vv := ⟨_, rfl⟩
      rw [hvv2] at hvv hvb2 HVB
      have hvb3 : vv.natAbs ≤ 43920000 := by omega
      have HVV := Lib.hid hvv
      have D0 := Lib.hid (fun (u : World) (hg : Grow wr u) => (⟨(hg.cells _ _ hlB).trans p0, (hg.cells _ _ hlB).trans p1, (hg.cells _ _ hlB).trans p2, (hg.cells _ _ hlB).trans p3, fun o => (hg.frees _ _ hlB).trans (hfB o), Nat.lt_of_lt_of_le hlB hg.size⟩ : _ ∧ _ ∧ _ ∧ _ ∧ (∀ o, u.frozen? ⟨F, o, none⟩ = false) ∧ _))
      have HIE := Lib.hid (HI.out.grow (HG6.out.trans HGR.out))
      have FR := Lib.hid (fun u => frac24Q vv (by omega) u)
      have CM : Hid (∀ (u : World) (v1 v2 : Value), RatR u v1 ((vv : Int) / ((24 : Int) : Rat)) → RatR u v2 ((vv : Int) / ((24 : Int) : Rat)) → Calls Tryz.prog 23 #[v1, v2] u fun x w' => x = .returned (.int .i64 0) ∧ Grow u w') :=
        Lib.hid (fun u v1 v2 q1 q2 => by
          have h := cmpQ _ _ v1 v2 ((sm24 vv 43920000 hvb3).addB (sm24 vv 43920000 hvb3).neg (by omega) (by omega)) u q1 q2
          rw [Rat.sub_self] at h
          exact h)
      have EV := Lib.hid (w64n (n := vv) (by omega))
      have hgF : Grow u6 wr := HGR.out
      clear hvv hvb2 hvv2 hvb3 p0 p1 p2 p3 hfB hik
      go_wp2_with fail
      go_loopg [17, 10] k (fun gk2 t17 t10 wq => ∃ (j : Nat) (tt : Int), t17 = .int .i64 (j : Int) ∧ t10 = .int .i64 tt ∧ j ≤ k ∧ Hid (gk2 = k - j) ∧ Hid (tt = tS l j) ∧ Hid (Grow wr wq))
      case atStart => exact ⟨0, 0, rfl, rfl, Nat.zero_le _, Lib.hid rfl, Lib.hid rfl, Lib.hid (Grow.refl _)⟩
      case round =>
        obtain ⟨j, tt, rfl, rfl, hj, HGK2, HTT, HQ⟩ := hrel
        obtain ⟨f0, f1, f2, f3⟩ := KK.out wr HQ.out
        by_cases hjk : j = k
        · have z1 : decide ((j : Int) < (k : Int)) = false := by simp; omega
          have z1' : decide (j < k) = false := by simp; omega
          have htt : (ps : Int) * tt = vv := by rw [HTT.out, hjk]; exact HVV.out.symm
          have E5 : Hid (IntKind.i64.wrap ((ps : Int) * tt) = vv ∧ wrap64 ((ps : Int) * tt) = vv) := Lib.hid (by rw [htt]; exact EV.out)
          have D1 := Lib.hid (fun (u : World) (hg : Grow wr u) => D0.out u (HQ.out.trans hg))
          have HVQ := Lib.hid (HVB.out.grow HQ.out)
          clear htt hjk
          go_upto_region 25 with fail
          clear z1 z1' f0 f1 f2 f3
          obtain ⟨e5, e5'⟩ := E5.out
          refine region_held (id := 25) (fun u => Grow wr u) [0, 1, 2, 3, 4, 5, 6, 7, 8, 9, 10, 11, 12, 13] (kdL [0, 0, 1, 0, 0, 0, 2, 2, 0, 0, 0, 2, 0, 0]) (by kernel_rfl) (by kernel_rfl) (fun t ht => kdL_lt _ t ht) ?hS0z ?_
          case hS0z => ((try dsimp only); (repeat (first | with_reducible exact Grow.refl _ | with_reducible refine Grow.alloc ?_ _ | with_reducible refine Grow.drew ?_ | with_reducible refine Grow.drewN ?_ _ | (with_reducible refine Grow.setCell ?_ ?hp _; (case hp => (simp; try omega))) | with_reducible refine Grow.trans ?_ (by assumption))))
          refine held_quiet (v := ?vz0) rfl rfl (Or.inl ⟨by rfl, ?hyz0⟩) ?_
          case hyz0 => (intro u hu; go_simp; (try with_reducible rfl))
          (try simp only [Act.put, List.setIfInBounds_toArray, List.set_cons_zero, List.set_cons_succ])
          refine held_quiet (v := ?vz1) rfl rfl (Or.inl ⟨by rfl, ?hyz1⟩) ?_
          case hyz1 => (intro u hu; go_simp; (try with_reducible rfl))
          (try simp only [Act.put, List.setIfInBounds_toArray, List.set_cons_zero, List.set_cons_succ])
          refine held_read (v := ?vz2) rfl rfl (Or.inl ⟨by rfl, ?hyz2⟩) ?_
          case hyz2 => (intro u hu; obtain ⟨d0, d1, d2, d3, d4, d5⟩ := D1.out u hu; go_simp; (try with_reducible rfl))
          (try simp only [Act.put, List.setIfInBounds_toArray, List.set_cons_zero, List.set_cons_succ])
          refine held_quiet (v := ?vz3) rfl rfl (Or.inl ⟨by rfl, ?hyz3⟩) ?_
          case hyz3 => (intro u hu; go_simp; (try with_reducible rfl))
          (try simp only [Act.put, List.setIfInBounds_toArray, List.set_cons_zero, List.set_cons_succ])
          refine held_quiet (v := ?vz4) rfl rfl (Or.inl ⟨by rfl, ?hyz4⟩) ?_
          case hyz4 => (intro u hu; go_simp; (try with_reducible rfl))
          (try simp only [Act.put, List.setIfInBounds_toArray, List.set_cons_zero, List.set_cons_succ])
          refine held_quiet (v := ?vz5) rfl rfl (Or.inl ⟨by rfl, ?hyz5⟩) ?_
          case hyz5 => (intro u hu; go_simp; (try with_reducible rfl))
          (try simp only [Act.put, List.setIfInBounds_toArray, List.set_cons_zero, List.set_cons_succ])
          refine held_op rfl rfl (fun K hK => ?_)
          go_simp
          (go_at_call 24; (with_reducible refine (FR.out _).mono ?_); (rintro x u61 ⟨v61, rfl, hv61, hb61⟩; obtain ⟨s61, a61, l61, c61, t61, b61, k61, e61, rfl⟩ := hv61.form; have HV61 := Lib.hid hv61; clear hv61))
          (try go_wp2_with fail)
          refine hK.out _ _ ?hSz6 ?_
          case hSz6 => ((try dsimp only); (repeat (first | with_reducible exact Grow.refl _ | with_reducible refine Grow.alloc ?_ _ | with_reducible refine Grow.drew ?_ | with_reducible refine Grow.drewN ?_ _ | (with_reducible refine Grow.setCell ?_ ?hp _; (case hp => (simp; try omega))) | with_reducible refine Grow.trans ?_ (by assumption))))
          clear hK K
          (try simp only [Act.put, List.setIfInBounds_toArray, List.set_cons_zero, List.set_cons_succ])
          refine held_op rfl rfl (fun K hK => ?_)
          go_simp
          (go_at_call 23; (with_reducible refine (CM.out _ _ _ (HVQ.out.grow (by (repeat (first | with_reducible exact Grow.refl _ | with_reducible refine Grow.alloc ?_ _ | with_reducible refine Grow.drew ?_ | with_reducible refine Grow.drewN ?_ _ | (with_reducible refine Grow.setCell ?_ ?hp _; (case hp => (simp; try omega))) | with_reducible refine Grow.trans ?_ (by assumption))))) (HV61.out.grow (by (repeat (first | with_reducible exact Grow.refl _ | with_reducible refine Grow.alloc ?_ _ | with_reducible refine Grow.drew ?_ | with_reducible refine Grow.drewN ?_ _ | (with_reducible refine Grow.setCell ?_ ?hp _; (case hp => (simp; try omega))) | with_reducible refine Grow.trans ?_ (by assumption)))))).mono ?_); (rintro x u62 ⟨rfl, hb62⟩))
          (try go_wp2_with fail)
          refine hK.out _ _ ?hSz7 ?_
          case hSz7 => ((try dsimp only); (repeat (first | with_reducible exact Grow.refl _ | with_reducible refine Grow.alloc ?_ _ | with_reducible refine Grow.drew ?_ | with_reducible refine Grow.drewN ?_ _ | (with_reducible refine Grow.setCell ?_ ?hp _; (case hp => (simp; try omega))) | with_reducible refine Grow.trans ?_ (by assumption))))
          clear hK K
          (try simp only [Act.put, List.setIfInBounds_toArray, List.set_cons_zero, List.set_cons_succ])
          refine held_quiet (v := ?vz8) rfl rfl (Or.inl ⟨by rfl, ?hyz8⟩) ?_
          case hyz8 => (intro u hu; go_simp; (try with_reducible rfl))
          (try simp only [Act.put, List.setIfInBounds_toArray, List.set_cons_zero, List.set_cons_succ])
          refine held_quiet (v := ?vz9) rfl rfl (Or.inl ⟨by rfl, ?hyz9⟩) ?_
          case hyz9 => (intro u hu; go_simp; (try with_reducible rfl))
          (try simp only [Act.put, List.setIfInBounds_toArray, List.set_cons_zero, List.set_cons_succ])
          refine held_quiet (v := ?vz10) rfl rfl (Or.inl ⟨by rfl, ?hyz10⟩) ?_
          case hyz10 => (intro u hu; go_simp; (try with_reducible rfl))
          (try simp only [Act.put, List.setIfInBounds_toArray, List.set_cons_zero, List.set_cons_succ])
          refine held_op rfl rfl (fun K hK => ?_)
          go_simp
          (go_at_call 14; (with_reducible refine (TW.out _).mono ?_); (rintro x u63 ⟨rfl, hb63⟩))
          (try go_wp2_with fail)
          refine hK.out _ _ ?hSz11 ?_
          case hSz11 => ((try dsimp only); (repeat (first | with_reducible exact Grow.refl _ | with_reducible refine Grow.alloc ?_ _ | with_reducible refine Grow.drew ?_ | with_reducible refine Grow.drewN ?_ _ | (with_reducible refine Grow.setCell ?_ ?hp _; (case hp => (simp; try omega))) | with_reducible refine Grow.trans ?_ (by assumption))))
          clear hK K
          (try simp only [Act.put, List.setIfInBounds_toArray, List.set_cons_zero, List.set_cons_succ])
          refine held_quiet (v := ?vz12) rfl rfl (Or.inl ⟨by rfl, ?hyz12⟩) ?_
          case hyz12 => (intro u hu; go_simp; (try with_reducible rfl))
          (try simp only [Act.put, List.setIfInBounds_toArray, List.set_cons_zero, List.set_cons_succ])
          refine held_quiet (v := ?vz13) rfl rfl (Or.inl ⟨by rfl, ?hyz13⟩) ?_
          case hyz13 => (intro u hu; go_simp; (try with_reducible rfl))
          (try simp only [Act.put, List.setIfInBounds_toArray, List.set_cons_zero, List.set_cons_succ])
          refine held_done ?_
          clear e5 e5'
          go_simp
          go_wp2_with fail
          go_ret
          exact ⟨rfl, HG1.out.trans (HG6.out.trans (HGR.out.trans (HQ.out.trans (by (repeat (first | with_reducible exact Grow.refl _ | with_reducible refine Grow.alloc ?_ _ | with_reducible refine Grow.drew ?_ | with_reducible refine Grow.drewN ?_ _ | (with_reducible refine Grow.setCell ?_ ?hp _; (case hp => (simp; try omega))) | with_reducible refine Grow.trans ?_ (by assumption)))))))⟩
        · have hjk : j < k := by omega
          have z0 : (0 : Int) ≤ (j : Int) := by omega
          have z1 : decide ((j : Int) < (k : Int)) = true := by simp; omega
          have z2 : (j : Int) < (k : Int) := by omega
          have hec := (HIE.out.grow HQ.out).cell j hjk
          have hlt := (HIE.out.grow HQ.out).lt
          obtain ⟨x, hx⟩ : ∃ x, l.getD j 0 = x := ⟨_, rfl⟩
          rw [hx] at hec
          have htn : tS l (j + 1) = tS l j + l.getD j 0 := rfl
          rw [hx, ← HTT.out] at htn
          have htb := TB.out (j + 1) hjk
          obtain ⟨t', ht'⟩ : ∃ t', tt + x = t' := ⟨_, rfl⟩
          rw [ht'] at htn
          rw [htn] at htb
          have HTN := Lib.hid htn
          have E6 : Hid (IntKind.i64.wrap (tt + x) = t' ∧ wrap64 (tt + x) = t') := Lib.hid (by rw [ht']; exact w64n (by omega))
          have E4 := Lib.hid (inc_wrap (i := j) (n := 100) (by omega) (by omega))
          clear hx htn htb ht'
          obtain ⟨e6, e6'⟩ := E6.out
          obtain ⟨e4, e4'⟩ := E4.out
          go_wp2_with fail
          clear e6 e6' e4 e4'
          go_roundg (k - (j + 1))
          case measure => have := HGK2.out; omega
          case rel => exact ⟨j + 1, t', rfl, rfl, hjk, Lib.hid rfl, Lib.hid (by rw [HTN.out]), HQ⟩
    · have hik : i < K := by omega
      have y0 : (0 : Int) ≤ (i : Int) := by omega
      have y1 : decide ((i : Int) < (K : Int)) = true := by simp; omega
      have y2 : (i : Int) < (K : Int) := by omega
      have hOC := fun u hu => OQ.out i hik u (HV.out u hu)
      have hWQ := fun u => WQ.out i hik u
      have hsb := SB.out i hik
      have hpo := PO.out i hik
      obtain ⟨hw1, hw2⟩ := WB.out i
      obtain ⟨pm0, pm1⟩ := PB.out
      have hvb2 := VB.out i (by omega)
      have hvn : vS N l (i + 1) = vS N l i + sE N (cuQ N i) l := rfl
      have htn : tgB N l m (i + 1) = (tgB N l m i || decide (sE N (cuQ N i) l + 24 * ((m - 1) * (wdE N (cuQ N i) : Int)) < 0)) := rfl
      rw [← HBT.out] at htn
      have hcc := fun u (hu : Grow wr u) => (⟨((HCR.out.grow hu).2 i (by rw [HKK.out]; exact hik)).1, ((HCR.out.grow hu).2 i (by rw [HKK.out]; exact hik)).2, (HCR.out.grow hu).1⟩ : _ ∧ _ ∧ _)
      obtain ⟨q, hq⟩ : ∃ q, cuQ N i = q := ⟨_, rfl⟩
      obtain ⟨p, hp⟩ : ∃ p, cuP N i = p := ⟨_, rfl⟩
      rw [hq] at hOC hWQ hsb hpo hw1 hw2 hvn htn hcc
      rw [hp] at hWQ hcc
      obtain ⟨s, hs⟩ : ∃ s, sE N q l = s := ⟨_, rfl⟩
      rw [hs] at hOC hsb hpo hvn htn
      obtain ⟨f, hf⟩ : ∃ f, wdE N q = f := ⟨_, rfl⟩
      rw [hf] at hWQ hpo hw1 hw2 htn
      obtain ⟨x, hx⟩ : ∃ x, vS N l i = x := ⟨_, rfl⟩
      rw [hx] at hvb2 hvn HVB
      obtain ⟨mw, hmw⟩ : ∃ mw, m * (f : Int) = mw := ⟨_, rfl⟩
      obtain ⟨m1, hm1⟩ : ∃ m1, m - 1 = m1 := ⟨_, rfl⟩
      rw [hm1] at htn
      obtain ⟨nw, hnw⟩ : ∃ nw, m1 * (f : Int) = nw := ⟨_, rfl⟩
      rw [hmw] at hpo
      rw [hnw] at htn
      have hmwb : mw.natAbs ≤ 43920060 := by rw [← hmw]; exact abs_mul_le (a := 732001) (b := 60) (by omega) (by omega) (by omega)
      have hnwb : nw.natAbs ≤ 43920060 := by rw [← hnw]; exact abs_mul_le (a := 732001) (b := 60) (by omega) (by omega) (by omega)
      have OC : Hid (∀ u, Grow wr u → _) := Lib.hid (fun u (hu : Grow wr u) => hOC u (HG6.out.trans (HGR.out.trans hu)))
      have WI := Lib.hid hWQ
      have CC := Lib.hid hcc
      have OM := Lib.hid (fun u => ofQ mw (by omega) u)
      have ON := Lib.hid (fun u => ofQ nw (by omega) u)
      have AS : Hid (∀ (u : World) (v1 v2 : Value), RatR u v1 ((x : Int) / ((24 : Int) : Rat)) → RatR u v2 ((s : Int) / ((24 : Int) : Rat)) → Calls Tryz.prog 21 #[v1, v2] u fun x w' => ∃ v, x = .returned v ∧ RatR w' v ((vS N l (i + 1) : Int) / ((24 : Int) : Rat)) ∧ Grow u w') :=
        Lib.hid (fun u v1 v2 g1 g2 => by
          have h := addQ _ _ v1 v2 ((sm24 x 43920000 (by omega)).addB (sm24 s 732000 hsb) (by omega) (by omega)) u g1 g2
          rw [t24_add, ← hvn] at h
          exact h)
      have AW : Hid (∀ (z : Int), z.natAbs ≤ 43920060 → ∀ (u : World) (v1 v2 : Value), RatR u v1 ((s : Int) / ((24 : Int) : Rat)) → RatR u v2 ((z : Int) : Rat) → Calls Tryz.prog 21 #[v1, v2] u fun x w' => ∃ v, x = .returned v ∧ RatR w' v ((s + 24 * z : Int) / ((24 : Int) : Rat)) ∧ Grow u w') :=
        Lib.hid (fun z hz u v1 v2 g1 g2 => by
          have h := addQ _ _ v1 v2 ((sm24 s 732000 hsb).addB (Sm.mono (sm_int z) hz (Nat.le_refl _)) (by omega) (by omega)) u g1 g2
          rw [t24_int] at h
          exact h)
      have AM := Lib.hid (AW.out mw hmwb)
      have AN := Lib.hid (AW.out nw hnwb)
      have SG : Hid (∀ (z : Int) (v : Value) (u : World), RatR u v ((z : Int) / ((24 : Int) : Rat)) → Calls Tryz.prog 22 #[v] u fun x w' => x = .returned (.int .i64 (sgI z)) ∧ Grow u w') :=
        Lib.hid (fun z v u g1 => by
          have h := signQ _ v u g1
          rw [num_sg _ z 24 (by omega) rfl] at h
          exact h)
      have hs1 : decide (sgI (s + 24 * mw) < 0) = false := by unfold sgI; rw [if_neg (by omega)]; split <;> decide
      have hs2 : decide (sgI (s + 24 * nw) < 0) = decide (s + 24 * nw < 0) := by unfold sgI; by_cases h : s + 24 * nw < 0 <;> simp [h]; split <;> decide
      have S1 := Lib.hid hs1
      have S2 := Lib.hid hs2
      obtain ⟨z1, hz1⟩ : ∃ z1, sgI (s + 24 * mw) = z1 := ⟨_, rfl⟩
      obtain ⟨z2, hz2⟩ : ∃ z2, sgI (s + 24 * nw) = z2 := ⟨_, rfl⟩
      have SM := Lib.hid (SG.out (s + 24 * mw))
      have SN := Lib.hid (SG.out (s + 24 * nw))
      rw [hz1] at S1 SM
      rw [hz2] at S2 SN
      have HTN := Lib.hid htn
      have EM : Hid (IntKind.i64.wrap (m * (f : Int)) = mw ∧ wrap64 (m * (f : Int)) = mw) := Lib.hid (by rw [hmw]; exact w64n (by omega))
      have EN : Hid (IntKind.i64.wrap (m1 * (f : Int)) = nw ∧ wrap64 (m1 * (f : Int)) = nw) := Lib.hid (by rw [hnw]; exact w64n (by omega))
      have EO : Hid (IntKind.i64.wrap (m - 1) = m1 ∧ wrap64 (m - 1) = m1) := Lib.hid (by rw [hm1]; exact w64n (by omega))
      have E4 := Lib.hid (inc_wrap (i := i) (n := 100) (by omega) (by omega))
      have HLB := Lib.hid hlB
      have PP : Hid (_ ∧ _ ∧ _ ∧ _ ∧ _) := Lib.hid (⟨p0, p1, p2, p3, hfB⟩ : _ ∧ _ ∧ _ ∧ _ ∧ _)
      clear hOC hWQ hsb hpo hw1 hw2 pm0 pm1 hvb2 hvn htn hcc hq hp hs hf hx hmw hm1 hnw hmwb hnwb hs1 hs2 hz1 hz2 SG AW p0 p1 p2 p3 hfB
      go_upto_region 13 with fail
      refine region_flex (id := 13) wr [⟨10, 13, .cells #[.bool false, .slice none 0 0, .bool false, .slice none 0 0] 36⟩] [0, 1, 2, 3, 4, 5, 6, 7, 8, 9] [11, 12] (kdL [1, 0, 0, 0, 0, 1, 2, 0, 0, 0, 2, 3, 0]) (by kernel_rfl) (by kernel_rfl) (fun t ht => kdL_lt _ t ht) (by simp) (by simp) ?hgq ?halq ?_
      case hgq => (repeat (first | with_reducible exact Grow.refl _ | with_reducible refine Grow.alloc ?_ _ | with_reducible refine Grow.drew ?_ | with_reducible refine Grow.drewN ?_ _ | (with_reducible refine Grow.setCell ?_ ?hp _; (case hp => (simp; try omega))) | with_reducible refine Grow.trans ?_ (by assumption)))
      case halq => (intro x hx; simp only [List.mem_cons, List.not_mem_nil, or_false] at hx; subst hx; all_goals (refine ⟨⟨_, rfl, rfl⟩, fun K a u hK => ?_⟩; refine wpOp_step rfl (fun K' hK' => ?_); go_simp; exact hK' _ _ hK))
      refine flex_read (v := ?vq0) rfl rfl (fun t => Or.inl ⟨by rfl, ?hyq0⟩) ?_
      case hyq0 => (intro u hu; obtain ⟨f0, f1, f2, f3⟩ := KK.out u hu; obtain ⟨cc0, cc1, cc2⟩ := CC.out u hu; simp only [aof, List.foldl_cons, List.foldl_nil, Act.put, List.setIfInBounds_toArray, List.set_cons_zero, List.set_cons_succ]; go_simp; (try with_reducible rfl))
      (try simp only [Act.put, List.setIfInBounds_toArray, List.set_cons_zero, List.set_cons_succ])
      refine flex_quiet (v := ?vq1) rfl rfl (fun t => Or.inl ⟨by rfl, ?hyq1⟩) ?_
      case hyq1 => (intro u hu; simp only [aof, List.foldl_cons, List.foldl_nil, Act.put, List.setIfInBounds_toArray, List.set_cons_zero, List.set_cons_succ]; go_simp; (try with_reducible rfl))
      (try simp only [Act.put, List.setIfInBounds_toArray, List.set_cons_zero, List.set_cons_succ])
      refine flex_quiet (v := ?vq2) rfl rfl (fun t => Or.inl ⟨by rfl, ?hyq2⟩) ?_
      case hyq2 => (intro u hu; simp only [aof, List.foldl_cons, List.foldl_nil, Act.put, List.setIfInBounds_toArray, List.set_cons_zero, List.set_cons_succ]; go_simp; (try with_reducible rfl))
      (try simp only [Act.put, List.setIfInBounds_toArray, List.set_cons_zero, List.set_cons_succ])
      refine flex_quiet (v := ?vq3) rfl rfl (fun t => Or.inl ⟨by rfl, ?hyq3⟩) ?_
      case hyq3 => (intro u hu; simp only [aof, List.foldl_cons, List.foldl_nil, Act.put, List.setIfInBounds_toArray, List.set_cons_zero, List.set_cons_succ]; go_simp; (try with_reducible rfl))
      (try simp only [Act.put, List.setIfInBounds_toArray, List.set_cons_zero, List.set_cons_succ])
      refine flex_quiet (v := ?vq4) rfl rfl (fun t => Or.inl ⟨by rfl, ?hyq4⟩) ?_
      case hyq4 => (intro u hu; simp only [aof, List.foldl_cons, List.foldl_nil, Act.put, List.setIfInBounds_toArray, List.set_cons_zero, List.set_cons_succ]; go_simp; (try with_reducible rfl))
      (try simp only [Act.put, List.setIfInBounds_toArray, List.set_cons_zero, List.set_cons_succ])
      refine flex_read (v := ?vq5) rfl rfl (fun t => Or.inl ⟨by rfl, ?hyq5⟩) ?_
      case hyq5 => (intro u hu; obtain ⟨f0, f1, f2, f3⟩ := KK.out u hu; obtain ⟨cc0, cc1, cc2⟩ := CC.out u hu; simp only [aof, List.foldl_cons, List.foldl_nil, Act.put, List.setIfInBounds_toArray, List.set_cons_zero, List.set_cons_succ]; go_simp; (try with_reducible rfl))
      (try simp only [Act.put, List.setIfInBounds_toArray, List.set_cons_zero, List.set_cons_succ])
      refine flex_op rfl rfl (fun t6 u6 hu6 K hK => ?_)
      simp only [aof, List.foldl_cons, List.foldl_nil, Act.put, List.setIfInBounds_toArray, List.set_cons_zero, List.set_cons_succ]
      go_simp
      (go_at_call 19; (with_reducible refine (OC.out _ (by (repeat (first | with_reducible exact Grow.refl _ | with_reducible refine Grow.alloc ?_ _ | with_reducible refine Grow.drew ?_ | with_reducible refine Grow.drewN ?_ _ | (with_reducible refine Grow.setCell ?_ ?hp _; (case hp => (simp; try omega))) | with_reducible refine Grow.trans ?_ (by assumption))))).mono ?_); (rintro x u52 ⟨v52, rfl, hv52, hb52⟩; obtain ⟨s52, a52, l52, c52, t52, b52, k52, e52, rfl⟩ := hv52.form; have HV52 := Lib.hid hv52; clear hv52))
      (try go_wp2_with fail)
      refine hK.out _ (.tuple #[.agg #[.bool s52, .slice a52 l52 c52, .bool t52, .slice b52 k52 e52], .int .i64 0]) _ ?heq6 ?hgq6 ?_
      case heq6 => (simp only [aof, List.foldl_cons, List.foldl_nil, Act.put, List.setIfInBounds_toArray, List.set_cons_zero, List.set_cons_succ])
      case hgq6 => (repeat (first | with_reducible exact Grow.refl _ | with_reducible refine Grow.alloc ?_ _ | with_reducible refine Grow.drew ?_ | with_reducible refine Grow.drewN ?_ _ | (with_reducible refine Grow.setCell ?_ ?hp _; (case hp => (simp; try omega))) | with_reducible refine Grow.trans ?_ (by assumption)))
      clear hK K t6
      (try simp only [Act.put, List.setIfInBounds_toArray, List.set_cons_zero, List.set_cons_succ])
      refine flex_quiet (v := ?vq7) rfl rfl (fun t => Or.inl ⟨by rfl, ?hyq7⟩) ?_
      case hyq7 => (intro u hu; simp only [aof, List.foldl_cons, List.foldl_nil, Act.put, List.setIfInBounds_toArray, List.set_cons_zero, List.set_cons_succ]; go_simp; (try with_reducible rfl))
      (try simp only [Act.put, List.setIfInBounds_toArray, List.set_cons_zero, List.set_cons_succ])
      refine flex_quiet (v := ?vq8) rfl rfl (fun t => Or.inl ⟨by rfl, ?hyq8⟩) ?_
      case hyq8 => (intro u hu; simp only [aof, List.foldl_cons, List.foldl_nil, Act.put, List.setIfInBounds_toArray, List.set_cons_zero, List.set_cons_succ]; go_simp; (try with_reducible rfl))
      (try simp only [Act.put, List.setIfInBounds_toArray, List.set_cons_zero, List.set_cons_succ])
      refine flex_quiet (v := ?vq9) rfl rfl (fun t => Or.inl ⟨by rfl, ?hyq9⟩) ?_
      case hyq9 => (intro u hu; simp only [aof, List.foldl_cons, List.foldl_nil, Act.put, List.setIfInBounds_toArray, List.set_cons_zero, List.set_cons_succ]; go_simp; (try with_reducible rfl))
      (try simp only [Act.put, List.setIfInBounds_toArray, List.set_cons_zero, List.set_cons_succ])
      refine flex_done (fun Fq uq huq hFq hNq => ?_)
      have hFq0 := hFq ⟨10, 13, .cells #[.bool false, .slice none 0 0, .bool false, .slice none 0 0] 36⟩ (by simp)
      clear hFq hNq
      (try simp only [aof, List.foldl_cons, List.foldl_nil, Act.put, List.setIfInBounds_toArray, List.set_cons_zero, List.set_cons_succ, ptrX])
      generalize Fq 10 = Fbq0 at *
      clear Fq
      have hFX := hFq0
      obtain ⟨hFx, hF1, hF2, hF3⟩ := hFq0
      obtain ⟨o0, o1, o2, o3, of, oz⟩ := ak4 rfl _ hF3
      rw [hF2] at o0 o1 o2 o3 of oz
      refine held_last rfl rfl (fun K hK => ?_)
      go_simp
      refine hK.out _ _ ?_
      clear hK K
      (try simp only [Act.put])
      refine held_quiet (v := ?vq12) rfl rfl (Or.inl ⟨by rfl, ?hyq12⟩) ?_
      case hyq12 => (intro u hu; go_simp; (try with_reducible rfl))
      (try simp only [Act.put])
      refine held_done ?_
      obtain ⟨hQ, hG⟩ := FrX.putR hFX (HV52.out.grow huq)
      have hFb : F < Fbq0 := by
        obtain ⟨y, k1, k2, k3⟩ := hFX
        have := k1.size
        omega
      obtain ⟨w10, hw10⟩ : ∃ w10, st4 uq Fbq0 0 (.bool s52) (.slice a52 l52 c52) (.bool t52) (.slice b52 k52 e52) = w10 := ⟨_, rfl⟩
      have hw11 : ((((uq.setCell ⟨Fbq0, 0, none⟩ (.bool s52)).setCell ⟨Fbq0, 1, none⟩ (.slice a52 l52 c52)).setCell ⟨Fbq0, 2, none⟩ (.bool t52)).setCell ⟨Fbq0, 3, none⟩ (.slice b52 k52 e52)) = w10 := hw10
      rw [hw10] at hQ hG
      rw [hw11]
      have HRO := Lib.hid hQ
      have HG10 := Lib.hid hG
      have K10 := Lib.hid (fun (u : World) (hu : Grow w10 u) => KK.out u (HG10.out.trans hu))
      have C10 := Lib.hid (fun (u : World) (hu : Grow w10 u) => CC.out u (HG10.out.trans hu))
      clear hw10 hw11 hQ hG hFX o0 o1 o2 o3 of oz hFx hF1 hF2 hF3 huq HV52
      go_simp
      go_upto_region 14 with fail
      refine region_held (id := 14) (fun u => Grow w10 u) [0, 1, 2, 3, 4, 5, 6, 7, 8, 9, 10, 11] (kdL [0, 1, 0, 0, 0, 1, 2, 0, 0, 0, 0, 0]) (by kernel_rfl) (by kernel_rfl) (fun t ht => kdL_lt _ t ht) ?hS0r ?_
      case hS0r => ((try dsimp only); (repeat (first | with_reducible exact Grow.refl _ | with_reducible refine Grow.alloc ?_ _ | with_reducible refine Grow.drew ?_ | with_reducible refine Grow.drewN ?_ _ | (with_reducible refine Grow.setCell ?_ ?hp _; (case hp => (simp; try omega))) | with_reducible refine Grow.trans ?_ (by assumption))))
      refine held_quiet (v := ?vr0) rfl rfl (Or.inl ⟨by rfl, ?hyr0⟩) ?_
      case hyr0 => (intro u hu; go_simp; (try with_reducible rfl))
      (try simp only [Act.put, List.setIfInBounds_toArray, List.set_cons_zero, List.set_cons_succ])
      refine held_read (v := ?vr1) rfl rfl (Or.inl ⟨by rfl, ?hyr1⟩) ?_
      case hyr1 => (intro u hu; obtain ⟨f0, f1, f2, f3⟩ := K10.out u hu; obtain ⟨cc0, cc1, cc2⟩ := C10.out u hu; go_simp; (try with_reducible rfl))
      (try simp only [Act.put, List.setIfInBounds_toArray, List.set_cons_zero, List.set_cons_succ])
      refine held_quiet (v := ?vr2) rfl rfl (Or.inl ⟨by rfl, ?hyr2⟩) ?_
      case hyr2 => (intro u hu; go_simp; (try with_reducible rfl))
      (try simp only [Act.put, List.setIfInBounds_toArray, List.set_cons_zero, List.set_cons_succ])
      refine held_quiet (v := ?vr3) rfl rfl (Or.inl ⟨by rfl, ?hyr3⟩) ?_
      case hyr3 => (intro u hu; go_simp; (try with_reducible rfl))
      (try simp only [Act.put, List.setIfInBounds_toArray, List.set_cons_zero, List.set_cons_succ])
      refine held_quiet (v := ?vr4) rfl rfl (Or.inl ⟨by rfl, ?hyr4⟩) ?_
      case hyr4 => (intro u hu; go_simp; (try with_reducible rfl))
      (try simp only [Act.put, List.setIfInBounds_toArray, List.set_cons_zero, List.set_cons_succ])
      refine held_read (v := ?vr5) rfl rfl (Or.inl ⟨by rfl, ?hyr5⟩) ?_
      case hyr5 => (intro u hu; obtain ⟨f0, f1, f2, f3⟩ := K10.out u hu; obtain ⟨cc0, cc1, cc2⟩ := C10.out u hu; go_simp; (try with_reducible rfl))
      (try simp only [Act.put, List.setIfInBounds_toArray, List.set_cons_zero, List.set_cons_succ])
      refine held_op rfl rfl (fun K hK => ?_)
      go_simp
      (go_at_call 20; (with_reducible refine (WI.out _).mono ?_); (rintro x u71 ⟨rfl, hb71⟩))
      (try go_wp2_with fail)
      refine hK.out _ _ ?hSr6 ?_
      case hSr6 => ((try dsimp only); (repeat (first | with_reducible exact Grow.refl _ | with_reducible refine Grow.alloc ?_ _ | with_reducible refine Grow.drew ?_ | with_reducible refine Grow.drewN ?_ _ | (with_reducible refine Grow.setCell ?_ ?hp _; (case hp => (simp; try omega))) | with_reducible refine Grow.trans ?_ (by assumption))))
      clear hK K
      (try simp only [Act.put, List.setIfInBounds_toArray, List.set_cons_zero, List.set_cons_succ])
      refine held_quiet (v := ?vr7) rfl rfl (Or.inl ⟨by rfl, ?hyr7⟩) ?_
      case hyr7 => (intro u hu; go_simp; (try with_reducible rfl))
      (try simp only [Act.put, List.setIfInBounds_toArray, List.set_cons_zero, List.set_cons_succ])
      refine held_quiet (v := ?vr8) rfl rfl (Or.inl ⟨by rfl, ?hyr8⟩) ?_
      case hyr8 => (intro u hu; go_simp; (try with_reducible rfl))
      (try simp only [Act.put, List.setIfInBounds_toArray, List.set_cons_zero, List.set_cons_succ])
      refine held_quiet (v := ?vr9) rfl rfl (Or.inl ⟨by rfl, ?hyr9⟩) ?_
      case hyr9 => (intro u hu; go_simp; (try with_reducible rfl))
      (try simp only [Act.put, List.setIfInBounds_toArray, List.set_cons_zero, List.set_cons_succ])
      refine held_quiet (v := ?vr10) rfl rfl (Or.inl ⟨by rfl, ?hyr10⟩) ?_
      case hyr10 => (intro u hu; go_simp; (try with_reducible rfl))
      (try simp only [Act.put, List.setIfInBounds_toArray, List.set_cons_zero, List.set_cons_succ])
      refine held_quiet (v := ?vr11) rfl rfl (Or.inl ⟨by rfl, ?hyr11⟩) ?_
      case hyr11 => (intro u hu; go_simp; (try with_reducible rfl))
      (try simp only [Act.put, List.setIfInBounds_toArray, List.set_cons_zero, List.set_cons_succ])
      refine held_done ?_
      have hg71 : Grow w10 u71 := by (repeat (first | with_reducible exact Grow.refl _ | with_reducible refine Grow.alloc ?_ _ | with_reducible refine Grow.drew ?_ | with_reducible refine Grow.drewN ?_ _ | (with_reducible refine Grow.setCell ?_ ?hp _; (case hp => (simp; try omega))) | with_reducible refine Grow.trans ?_ (by assumption)))
      have hgw : Grow wr u71 := HG10.out.trans hg71
      have HG71 := Lib.hid hgw
      have HRO71 := Lib.hid (RowP.grow HRO.out hg71)
      have HV71 := Lib.hid (HVB.out.grow hgw)
      have D71 := Lib.hid (fun (u : World) (hu : Grow u71 u) => (⟨((hgw.trans hu).cells _ _ HLB.out).trans PP.out.1, ((hgw.trans hu).cells _ _ HLB.out).trans PP.out.2.1, ((hgw.trans hu).cells _ _ HLB.out).trans PP.out.2.2.1, ((hgw.trans hu).cells _ _ HLB.out).trans PP.out.2.2.2.1, fun o => ((hgw.trans hu).frees _ _ HLB.out).trans (PP.out.2.2.2.2 o), Nat.lt_of_lt_of_le HLB.out (hgw.trans hu).size⟩ : _ ∧ _ ∧ _ ∧ _ ∧ (∀ o, u.frozen? ⟨F, o, none⟩ = false) ∧ _))
      obtain ⟨s11, a11, l11, c11, t11, b11, k11, e11, ⟨x0, x1, x2, x3⟩, hv11⟩ := RowQ.at4 HRO71.out (show 0 < 1 by omega)
      rw [Nat.zero_mul, Nat.add_zero] at x0 x1 x2 x3
      have HV11 := Lib.hid hv11
      have HFB := Lib.hid hFb
      have hlx : Fbq0 < u71.heap.size := HRO71.out.lt
      clear hg71 hgw hv11 hb71
      obtain ⟨d0, d1, d2, d3, d4, d5⟩ := D71.out u71 (Grow.refl _)
      go_simp
      go_upto_region 18 with (go_at_call 21; (with_reducible refine (AS.out _ _ _ HV71.out HV11.out).mono ?_); (rintro e u17 ⟨v17, rfl, hv17, hb17⟩; obtain ⟨s17, a17, l17, c17, t17, b17, k17, e17, rfl⟩ := hv17.form; have HV17 := Lib.hid hv17; have HG17 := Lib.hid hb17; clear hv17 hb17 d0 d1 d2 d3 d4 d5; obtain ⟨d0, d1, d2, d3, d4, d5⟩ := D71.out u17 HG17.out))
      have hru := RowP.grow HR.out (HG71.out.trans HG17.out)
      have hst1 := RowP.set hru (show 0 < 1 by omega) HV17.out
      have hst2 := But.st4 (X := fun b => b = F) (But.refl _ u17) (.inr rfl) (hru.q4 (show 0 < 1 by omega)) s17 a17 l17 c17 t17 b17 k17 e17
      simp only [Nat.zero_mul, Nat.add_zero] at hst1 hst2
      obtain ⟨w18, hw18⟩ : ∃ w18, st4 u17 F 0 (.bool s17) (.slice a17 l17 c17) (.bool t17) (.slice b17 k17 e17) = w18 := ⟨_, rfl⟩
      have hw19 : ((((u17.setCell ⟨F, 0, none⟩ (.bool s17)).setCell ⟨F, 1, none⟩ (.slice a17 l17 c17)).setCell ⟨F, 2, none⟩ (.bool t17)).setCell ⟨F, 3, none⟩ (.slice b17 k17 e17)) = w18 := hw18
      rw [hw18] at hst1 hst2
      rw [hw19]
      have HRN : Hid (RowQ w18 F 0 1 (fun _ => (vS N l (i + 1) : Int) / ((24 : Int) : Rat))) := Lib.hid (RowP.mono hst1 (Nat.le_refl _) (fun j x hj hx => by rw [if_pos (by omega)]; exact hx))
      have HBN : Hid (But (fun y => y = F) W9 w18) := Lib.hid (HB.out.trans (((HG71.out.trans HG17.out).but _).trans hst2))
      have hr18 := RowP.but (RowP.grow HRO71.out HG17.out) (X := fun y => y = F) (by have := HFB.out; omega) hst2
      obtain ⟨s21, a21, l21, c21, t21, b21, k21, e21, ⟨y30, y31, y32, y33⟩, hv21⟩ := RowQ.at4 hr18 (show 0 < 1 by omega)
      rw [Nat.zero_mul, Nat.add_zero] at y30 y31 y32 y33
      have hl18 := hr18.lt
      have D18 := Lib.hid (fun (u : World) (hg : Grow w18 u) => (⟨(hg.cells _ _ hl18).trans y30, (hg.cells _ _ hl18).trans y31, (hg.cells _ _ hl18).trans y32, (hg.cells _ _ hl18).trans y33, Nat.lt_of_lt_of_le hl18 hg.size⟩ : _ ∧ _ ∧ _ ∧ _ ∧ _))
      have HVO := Lib.hid hv21
      clear hru hst1 hst2 hw18 hw19 hr18 y30 y31 y32 y33 hv21 hl18 d0 d1 d2 d3 d4 d5 x0 x1 x2 x3 hlx HV11 HV71 D71 HRO71 HRO HV17 HG17 HG71 C10 K10
      obtain ⟨em, em'⟩ := EM.out
      have hz1 := S1.out
      refine region_held (id := 18) (fun u => Grow w18 u) [0, 1, 2, 3, 4, 5, 6, 7] (kdL [1, 0, 0, 0, 2, 2, 2, 0]) (by kernel_rfl) (by kernel_rfl) (fun t ht => kdL_lt _ t ht) ?hS0s ?_
      case hS0s => ((try dsimp only); (repeat (first | with_reducible exact Grow.refl _ | with_reducible refine Grow.alloc ?_ _ | with_reducible refine Grow.drew ?_ | with_reducible refine Grow.drewN ?_ _ | (with_reducible refine Grow.setCell ?_ ?hp _; (case hp => (simp; try omega))) | with_reducible refine Grow.trans ?_ (by assumption))))
      refine held_read (v := ?vs0) rfl rfl (Or.inl ⟨by rfl, ?hys0⟩) ?_
      case hys0 => (intro u hu; obtain ⟨d0, d1, d2, d3, d4⟩ := D18.out u hu; go_simp; (try with_reducible rfl))
      (try simp only [Act.put, List.setIfInBounds_toArray, List.set_cons_zero, List.set_cons_succ])
      refine held_quiet (v := ?vs1) rfl rfl (Or.inl ⟨by rfl, ?hys1⟩) ?_
      case hys1 => (intro u hu; go_simp; (try with_reducible rfl))
      (try simp only [Act.put, List.setIfInBounds_toArray, List.set_cons_zero, List.set_cons_succ])
      refine held_quiet (v := ?vs2) rfl rfl (Or.inl ⟨by rfl, ?hys2⟩) ?_
      case hys2 => (intro u hu; go_simp; (try with_reducible rfl))
      (try simp only [Act.put, List.setIfInBounds_toArray, List.set_cons_zero, List.set_cons_succ])
      refine held_quiet (v := ?vs3) rfl rfl (Or.inl ⟨by rfl, ?hys3⟩) ?_
      case hys3 => (intro u hu; go_simp; (try with_reducible rfl))
      (try simp only [Act.put, List.setIfInBounds_toArray, List.set_cons_zero, List.set_cons_succ])
      refine held_op rfl rfl (fun K hK => ?_)
      go_simp
      (go_at_call 18; (with_reducible refine (OM.out _).mono ?_); (rintro x u81 ⟨v81, rfl, hv81, hb81⟩; obtain ⟨s81, a81, l81, c81, t81, b81, k81, e81, rfl⟩ := hv81.form; have HV81 := Lib.hid hv81; clear hv81))
      (try go_wp2_with fail)
      refine hK.out _ _ ?hSs4 ?_
      case hSs4 => ((try dsimp only); (repeat (first | with_reducible exact Grow.refl _ | with_reducible refine Grow.alloc ?_ _ | with_reducible refine Grow.drew ?_ | with_reducible refine Grow.drewN ?_ _ | (with_reducible refine Grow.setCell ?_ ?hp _; (case hp => (simp; try omega))) | with_reducible refine Grow.trans ?_ (by assumption))))
      clear hK K
      (try simp only [Act.put, List.setIfInBounds_toArray, List.set_cons_zero, List.set_cons_succ])
      refine held_op rfl rfl (fun K hK => ?_)
      go_simp
      (go_at_call 21; (with_reducible refine (AM.out _ _ _ (HVO.out.grow (by (repeat (first | with_reducible exact Grow.refl _ | with_reducible refine Grow.alloc ?_ _ | with_reducible refine Grow.drew ?_ | with_reducible refine Grow.drewN ?_ _ | (with_reducible refine Grow.setCell ?_ ?hp _; (case hp => (simp; try omega))) | with_reducible refine Grow.trans ?_ (by assumption))))) (HV81.out.grow (by (repeat (first | with_reducible exact Grow.refl _ | with_reducible refine Grow.alloc ?_ _ | with_reducible refine Grow.drew ?_ | with_reducible refine Grow.drewN ?_ _ | (with_reducible refine Grow.setCell ?_ ?hp _; (case hp => (simp; try omega))) | with_reducible refine Grow.trans ?_ (by assumption)))))).mono ?_); (rintro x u82 ⟨v82, rfl, hv82, hb82⟩; obtain ⟨s82, a82, l82, c82, t82, b82, k82, e82, rfl⟩ := hv82.form; have HV82 := Lib.hid hv82; clear hv82))
      (try go_wp2_with fail)
      refine hK.out _ _ ?hSs5 ?_
      case hSs5 => ((try dsimp only); (repeat (first | with_reducible exact Grow.refl _ | with_reducible refine Grow.alloc ?_ _ | with_reducible refine Grow.drew ?_ | with_reducible refine Grow.drewN ?_ _ | (with_reducible refine Grow.setCell ?_ ?hp _; (case hp => (simp; try omega))) | with_reducible refine Grow.trans ?_ (by assumption))))
      clear hK K
      (try simp only [Act.put, List.setIfInBounds_toArray, List.set_cons_zero, List.set_cons_succ])
      refine held_op rfl rfl (fun K hK => ?_)
      go_simp
      (go_at_call 22; (with_reducible refine (SM.out _ _ (HV82.out.grow (by (repeat (first | with_reducible exact Grow.refl _ | with_reducible refine Grow.alloc ?_ _ | with_reducible refine Grow.drew ?_ | with_reducible refine Grow.drewN ?_ _ | (with_reducible refine Grow.setCell ?_ ?hp _; (case hp => (simp; try omega))) | with_reducible refine Grow.trans ?_ (by assumption)))))).mono ?_); (rintro x u83 ⟨rfl, hb83⟩))
      (try go_wp2_with fail)
      refine hK.out _ _ ?hSs6 ?_
      case hSs6 => ((try dsimp only); (repeat (first | with_reducible exact Grow.refl _ | with_reducible refine Grow.alloc ?_ _ | with_reducible refine Grow.drew ?_ | with_reducible refine Grow.drewN ?_ _ | (with_reducible refine Grow.setCell ?_ ?hp _; (case hp => (simp; try omega))) | with_reducible refine Grow.trans ?_ (by assumption))))
      clear hK K
      (try simp only [Act.put, List.setIfInBounds_toArray, List.set_cons_zero, List.set_cons_succ])
      refine held_quiet (v := ?vs7) rfl rfl (Or.inl ⟨by rfl, ?hys7⟩) ?_
      case hys7 => (intro u hu; go_simp; (try with_reducible rfl))
      (try simp only [Act.put, List.setIfInBounds_toArray, List.set_cons_zero, List.set_cons_succ])
      refine held_done ?_
      have hg83 : Grow w18 u83 := by (repeat (first | with_reducible exact Grow.refl _ | with_reducible refine Grow.alloc ?_ _ | with_reducible refine Grow.drew ?_ | with_reducible refine Grow.drewN ?_ _ | (with_reducible refine Grow.setCell ?_ ?hp _; (case hp => (simp; try omega))) | with_reducible refine Grow.trans ?_ (by assumption)))
      have HG83 := Lib.hid hg83
      have D20 := Lib.hid (fun (u : World) (hg : Grow u83 u) => D18.out u (hg83.trans hg))
      have HVP := Lib.hid (HVO.out.grow hg83)
      clear hg83 hb83 em em'
      obtain ⟨e4, e4'⟩ := E4.out
      cases b with
      | true =>
        go_simp
        go_upto_region 20 with fail
        go_quiet (fail)
        go_wp2_with fail
        clear e4 e4' hz1
        go_roundg (K - (i + 1))
        case measure => have := HGK.out; omega
        case rel => exact ⟨i + 1, true, rfl, rfl, hik, Lib.hid rfl, Lib.hid (by rw [HTN.out]; rfl), Lib.hid (RowP.grow HRN.out (HG83.out.trans (by (repeat (first | with_reducible exact Grow.refl _ | with_reducible refine Grow.alloc ?_ _ | with_reducible refine Grow.drew ?_ | with_reducible refine Grow.drewN ?_ _ | (with_reducible refine Grow.setCell ?_ ?hp _; (case hp => (simp; try omega))) | with_reducible refine Grow.trans ?_ (by assumption)))))), Lib.hid (HBN.out.grow (HG83.out.trans (by (repeat (first | with_reducible exact Grow.refl _ | with_reducible refine Grow.alloc ?_ _ | with_reducible refine Grow.drew ?_ | with_reducible refine Grow.drewN ?_ _ | (with_reducible refine Grow.setCell ?_ ?hp _; (case hp => (simp; try omega))) | with_reducible refine Grow.trans ?_ (by assumption))))))⟩
      | false =>
        clear e4 e4'
        go_simp
        go_upto_region 20 with fail
        clear hz1
        obtain ⟨eo, eo'⟩ := EO.out
        obtain ⟨en, en'⟩ := EN.out
        refine region_held (id := 20) (fun u => Grow u83 u) [0, 1, 2, 3, 4, 5, 6, 7, 8, 9, 10, 11, 12] (kdL [0, 0, 1, 0, 0, 0, 0, 2, 2, 2, 0, 0, 0]) (by kernel_rfl) (by kernel_rfl) (fun t ht => kdL_lt _ t ht) ?hS0t ?_
        case hS0t => ((try dsimp only); (repeat (first | with_reducible exact Grow.refl _ | with_reducible refine Grow.alloc ?_ _ | with_reducible refine Grow.drew ?_ | with_reducible refine Grow.drewN ?_ _ | (with_reducible refine Grow.setCell ?_ ?hp _; (case hp => (simp; try omega))) | with_reducible refine Grow.trans ?_ (by assumption))))
        refine held_quiet (v := ?vt0) rfl rfl (Or.inl ⟨by rfl, ?hyt0⟩) ?_
        case hyt0 => (intro u hu; go_simp; (try with_reducible rfl))
        (try simp only [Act.put, List.setIfInBounds_toArray, List.set_cons_zero, List.set_cons_succ])
        refine held_quiet (v := ?vt1) rfl rfl (Or.inl ⟨by rfl, ?hyt1⟩) ?_
        case hyt1 => (intro u hu; go_simp; (try with_reducible rfl))
        (try simp only [Act.put, List.setIfInBounds_toArray, List.set_cons_zero, List.set_cons_succ])
        refine held_read (v := ?vt2) rfl rfl (Or.inl ⟨by rfl, ?hyt2⟩) ?_
        case hyt2 => (intro u hu; obtain ⟨d0, d1, d2, d3, d4⟩ := D20.out u hu; go_simp; (try with_reducible rfl))
        (try simp only [Act.put, List.setIfInBounds_toArray, List.set_cons_zero, List.set_cons_succ])
        refine held_quiet (v := ?vt3) rfl rfl (Or.inl ⟨by rfl, ?hyt3⟩) ?_
        case hyt3 => (intro u hu; go_simp; (try with_reducible rfl))
        (try simp only [Act.put, List.setIfInBounds_toArray, List.set_cons_zero, List.set_cons_succ])
        refine held_quiet (v := ?vt4) rfl rfl (Or.inl ⟨by rfl, ?hyt4⟩) ?_
        case hyt4 => (intro u hu; go_simp; (try with_reducible rfl))
        (try simp only [Act.put, List.setIfInBounds_toArray, List.set_cons_zero, List.set_cons_succ])
        refine held_quiet (v := ?vt5) rfl rfl (Or.inl ⟨by rfl, ?hyt5⟩) ?_
        case hyt5 => (intro u hu; go_simp; (try with_reducible rfl))
        (try simp only [Act.put, List.setIfInBounds_toArray, List.set_cons_zero, List.set_cons_succ])
        refine held_quiet (v := ?vt6) rfl rfl (Or.inl ⟨by rfl, ?hyt6⟩) ?_
        case hyt6 => (intro u hu; go_simp; (try with_reducible rfl))
        (try simp only [Act.put, List.setIfInBounds_toArray, List.set_cons_zero, List.set_cons_succ])
        refine held_op rfl rfl (fun K hK => ?_)
        go_simp
        (go_at_call 18; (with_reducible refine (ON.out _).mono ?_); (rintro x u91 ⟨v91, rfl, hv91, hb91⟩; obtain ⟨s91, a91, l91, c91, t91, b91, k91, e91, rfl⟩ := hv91.form; have HV91 := Lib.hid hv91; clear hv91))
        (try go_wp2_with fail)
        refine hK.out _ _ ?hSt7 ?_
        case hSt7 => ((try dsimp only); (repeat (first | with_reducible exact Grow.refl _ | with_reducible refine Grow.alloc ?_ _ | with_reducible refine Grow.drew ?_ | with_reducible refine Grow.drewN ?_ _ | (with_reducible refine Grow.setCell ?_ ?hp _; (case hp => (simp; try omega))) | with_reducible refine Grow.trans ?_ (by assumption))))
        clear hK K
        (try simp only [Act.put, List.setIfInBounds_toArray, List.set_cons_zero, List.set_cons_succ])
        refine held_op rfl rfl (fun K hK => ?_)
        go_simp
        (go_at_call 21; (with_reducible refine (AN.out _ _ _ (HVP.out.grow (by (repeat (first | with_reducible exact Grow.refl _ | with_reducible refine Grow.alloc ?_ _ | with_reducible refine Grow.drew ?_ | with_reducible refine Grow.drewN ?_ _ | (with_reducible refine Grow.setCell ?_ ?hp _; (case hp => (simp; try omega))) | with_reducible refine Grow.trans ?_ (by assumption))))) (HV91.out.grow (by (repeat (first | with_reducible exact Grow.refl _ | with_reducible refine Grow.alloc ?_ _ | with_reducible refine Grow.drew ?_ | with_reducible refine Grow.drewN ?_ _ | (with_reducible refine Grow.setCell ?_ ?hp _; (case hp => (simp; try omega))) | with_reducible refine Grow.trans ?_ (by assumption)))))).mono ?_); (rintro x u92 ⟨v92, rfl, hv92, hb92⟩; obtain ⟨s92, a92, l92, c92, t92, b92, k92, e92, rfl⟩ := hv92.form; have HV92 := Lib.hid hv92; clear hv92))
        (try go_wp2_with fail)
        refine hK.out _ _ ?hSt8 ?_
        case hSt8 => ((try dsimp only); (repeat (first | with_reducible exact Grow.refl _ | with_reducible refine Grow.alloc ?_ _ | with_reducible refine Grow.drew ?_ | with_reducible refine Grow.drewN ?_ _ | (with_reducible refine Grow.setCell ?_ ?hp _; (case hp => (simp; try omega))) | with_reducible refine Grow.trans ?_ (by assumption))))
        clear hK K
        (try simp only [Act.put, List.setIfInBounds_toArray, List.set_cons_zero, List.set_cons_succ])
        refine held_op rfl rfl (fun K hK => ?_)
        go_simp
        (go_at_call 22; (with_reducible refine (SN.out _ _ (HV92.out.grow (by (repeat (first | with_reducible exact Grow.refl _ | with_reducible refine Grow.alloc ?_ _ | with_reducible refine Grow.drew ?_ | with_reducible refine Grow.drewN ?_ _ | (with_reducible refine Grow.setCell ?_ ?hp _; (case hp => (simp; try omega))) | with_reducible refine Grow.trans ?_ (by assumption)))))).mono ?_); (rintro x u93 ⟨rfl, hb93⟩))
        (try go_wp2_with fail)
        refine hK.out _ _ ?hSt9 ?_
        case hSt9 => ((try dsimp only); (repeat (first | with_reducible exact Grow.refl _ | with_reducible refine Grow.alloc ?_ _ | with_reducible refine Grow.drew ?_ | with_reducible refine Grow.drewN ?_ _ | (with_reducible refine Grow.setCell ?_ ?hp _; (case hp => (simp; try omega))) | with_reducible refine Grow.trans ?_ (by assumption))))
        clear hK K
        (try simp only [Act.put, List.setIfInBounds_toArray, List.set_cons_zero, List.set_cons_succ])
        refine held_quiet (v := ?vt10) rfl rfl (Or.inl ⟨by rfl, ?hyt10⟩) ?_
        case hyt10 => (intro u hu; go_simp; (try with_reducible rfl))
        (try simp only [Act.put, List.setIfInBounds_toArray, List.set_cons_zero, List.set_cons_succ])
        refine held_quiet (v := ?vt11) rfl rfl (Or.inl ⟨by rfl, ?hyt11⟩) ?_
        case hyt11 => (intro u hu; go_simp; (try with_reducible rfl))
        (try simp only [Act.put, List.setIfInBounds_toArray, List.set_cons_zero, List.set_cons_succ])
        refine held_quiet (v := ?vt12) rfl rfl (Or.inl ⟨by rfl, ?hyt12⟩) ?_
        case hyt12 => (intro u hu; go_simp; (try with_reducible rfl))
        (try simp only [Act.put, List.setIfInBounds_toArray, List.set_cons_zero, List.set_cons_succ])
        refine held_done ?_
        clear eo eo' en en'
        obtain ⟨e4, e4'⟩ := E4.out
        go_simp
        go_wp2_with fail
        clear e4 e4'
        go_roundg (K - (i + 1))
        case measure => have := HGK.out; omega
        case rel => exact ⟨i + 1, _, rfl, rfl, hik, Lib.hid rfl, Lib.hid (by rw [HTN.out, Bool.false_or]; exact S2.out), Lib.hid (RowP.grow HRN.out (HG83.out.trans (by (repeat (first | with_reducible exact Grow.refl _ | with_reducible refine Grow.alloc ?_ _ | with_reducible refine Grow.drew ?_ | with_reducible refine Grow.drewN ?_ _ | (with_reducible refine Grow.setCell ?_ ?hp _; (case hp => (simp; try omega))) | with_reducible refine Grow.trans ?_ (by assumption)))))), Lib.hid (HBN.out.grow (HG83.out.trans (by (repeat (first | with_reducible exact Grow.refl _ | with_reducible refine Grow.alloc ?_ _ | with_reducible refine Grow.drew ?_ | with_reducible refine Grow.drewN ?_ _ | (with_reducible refine Grow.setCell ?_ ?hp _; (case hp => (simp; try omega))) | with_reducible refine Grow.trans ?_ (by assumption))))))⟩
set_option maxRecDepth 20000 in
set_option maxHeartbeats 8000000 in
theorem topValQ (N : Int) (l : List Int) (v : Value) (w : World) (hv : RdInts w v l) : Calls Tryz.prog 4 #[.agg #[.int .i64 N, v]] w fun e w' => e = .returned (.bool true) ∧ Grow w w' := by
  by_cases hok : EOK N l ∧ N ≤ 60
  · obtain ⟨⟨⟨h1, h0⟩, hl, hf⟩, h2⟩ := hok
    obtain ⟨n, rfl⟩ : ∃ n : Nat, N = (n : Int) := ⟨N.toNat, by omega⟩
    exact topValQ0 n l v (by omega) (by omega) hl hf w hv
  · have TW := Lib.hid (fun u => twelveQ u)
    obtain ⟨av, cap, rfl⟩ := hv.form
    have CQ := Lib.hid (fun u hu => echeckQ N l (.slice av l.length cap) u hu)
    obtain ⟨W1, hW1⟩ : ∃ W1 : World, W1 = w.alloc (.cells #[.int .i64 N, .slice av l.length cap] 45) := ⟨_, rfl⟩
    have K1 := Lib.hid (ak2 hW1)
    have HG1 := Lib.hid (ag hW1)
    have HV := Lib.hid (fun u (hu : Grow W1 u) => hv.grow ((ag hW1).trans hu))
    have HW1 := Lib.hid hW1
    clear hW1 hv
    obtain ⟨b0, b1, b2, b3⟩ := K1.out W1 (Grow.refl _)
    obtain ⟨P, hP⟩ : ∃ P, EOK N l = P := ⟨_, rfl⟩
    rw [hP] at CQ hok
    have HOK := Lib.hid hok
    clear hP hok
    by_cases hN : N > 60
    · have y2 : decide (N > 60) = true := by simp; omega
      go_enter Tryz.func4, Tryz.ntmps4
      go_upto_region 1 with fail
      rw [← HW1.out]
      go_wp2_with (first
        | (go_at_call 13; (with_reducible refine (CQ.out _ (HV.out _ (Grow.refl _))).mono ?_); (rintro e u3 ⟨⟨x, rfl, hx⟩, hb3⟩; have HG3 := Lib.hid hb3; obtain ⟨b0, b1, b2, b3⟩ := K1.out u3 hb3; clear hb3 hx; rcases Int.decEq x 0 with hx0 | hx0))
        | (go_at_call 14; (with_reducible refine (TW.out _).mono ?_); (rintro e u4 ⟨rfl, hb4⟩)))
      all_goals go_ret
      all_goals exact ⟨rfl, HG1.out.trans (HG3.out.trans hb4)⟩
    · have hN2 : N ≤ 60 := by omega
      have HNP : Hid (¬ P) := Lib.hid (fun h => HOK.out ⟨h, hN2⟩)
      clear hN HOK
      go_enter Tryz.func4, Tryz.ntmps4
      go_upto_region 1 with fail
      rw [← HW1.out]
      go_wp2_with (first
        | (go_at_call 13; (with_reducible refine (CQ.out _ (HV.out _ (Grow.refl _))).mono ?_); (rintro e u3 ⟨⟨x, rfl, hx⟩, hb3⟩; have HG3 := Lib.hid hb3; obtain ⟨b0, b1, b2, b3⟩ := K1.out u3 hb3; have hx0 : ¬ x = 0 := fun h => HNP.out (hx.1 h); clear hb3 hx))
        | (go_at_call 14; (with_reducible refine (TW.out _).mono ?_); (rintro e u4 ⟨rfl, hb4⟩)))
      all_goals go_ret
      all_goals exact ⟨rfl, HG1.out.trans (HG3.out.trans hb4)⟩
end Go.Proofs.YtbpkfcohbefphaaGreat
