/- Lemmas, plain laws and walks that the statement LwValence leans on (texts EtF, EtG), conditions as each theorem says. -/
import Derived.Test.YtbpkfcohbefphaaGreatTopValG13

namespace Go.Proofs.YtbpkfcohbefphaaGreat
open Go Go.RowKit
set_option maxRecDepth 20000 in
set_option maxHeartbeats 8000000 in
theorem ceilQ (x : Rat) (v1 : Value) (w : World) (h1 : RatR w v1 x) :
    Calls Tryz.prog 54 #[v1] w fun e w' => ∃ v, e = .returned v ∧ IntR w' v (-((-x).num / ((-x).den : Int))) ∧ Grow w w' := by
  obtain ⟨s1, a1, l1, c1, t1, b1, k1, e1, rfl⟩ := h1.form
  have NQ := Lib.hid (fun u hu => negQ x _ u (h1.grow hu))
  have FQ := Lib.hid (fun v u hu => floorQ (-x) v u hu)
  have NV := Lib.hid (fun v u hu => negV ((-x).num / ((-x).den : Int)) v u hu)
  clear h1
  obtain ⟨W1, hW1⟩ : ∃ W1 : World, W1 = w.alloc (.cells #[.bool s1, .slice a1 l1 c1, .bool t1, .slice b1 k1 e1] 36) := ⟨_, rfl⟩
  obtain ⟨W2, hW2⟩ : ∃ W2 : World, W2 = W1.alloc (.cells #[.bool false, .slice none 0 0] 34) := ⟨_, rfl⟩
  have hz1 : W1.heap.size = w.heap.size + 1 := by rw [hW1]; simp
  have hg2 : Grow w W2 := (ag hW1).trans (ag hW2)
  have HN2 : Hid (NoU W2 (w.heap.size + 1)) := Lib.hid (by rw [hW2, ← hz1]; exact NoU.alloc W1 _ 34 (noU2 false none 0 0))
  have K1 : Hid (∀ u : World, Grow W2 u → u.cell? ⟨w.heap.size, 0, none⟩ = some (.bool s1) ∧ u.cell? ⟨w.heap.size, 1, none⟩ = some (.slice a1 l1 c1) ∧ u.cell? ⟨w.heap.size, 2, none⟩ = some (.bool t1) ∧ u.cell? ⟨w.heap.size, 3, none⟩ = some (.slice b1 k1 e1) ∧ (∀ o, u.frozen? ⟨w.heap.size, o, none⟩ = false) ∧ w.heap.size < u.heap.size) := Lib.hid (fun u hu => ak4 hW1 u ((ag hW2).trans hu))
  have K2 : Hid (∀ u : World, Grow W2 u → u.cell? ⟨w.heap.size + 1, 0, none⟩ = some (.bool false) ∧ u.cell? ⟨w.heap.size + 1, 1, none⟩ = some (.slice none 0 0) ∧ (∀ o, u.frozen? ⟨w.heap.size + 1, o, none⟩ = false) ∧ w.heap.size + 1 < u.heap.size) := Lib.hid (fun u hu => by have := ak2 hW2 u hu; rw [hz1] at this; exact this)
  have hz2 : w.heap.size + 1 < W2.heap.size := by rw [hW2]; simp [hz1]
  have HG2 := Lib.hid hg2
  have HW1 := Lib.hid hW1
  have HW2 := Lib.hid hW2
  have HZ2 := Lib.hid hz2
  clear hW1 hW2 hz1 hg2 hz2
  obtain ⟨f0, f1, f2, f3, f4, f5⟩ := K1.out W2 (Grow.refl _)
  go_enter Tryz.func54, Tryz.ntmps54
  go_upto_region 1 with fail
  rw [← HW1.out, ← HW2.out]
  go_wp2_with (first
    | (go_at_call 36; (with_reducible refine (NQ.out _ (HG2.out)).mono ?_); (rintro e u4 ⟨v4, rfl, hv4, hb4⟩; obtain ⟨s4, a4, l4, c4, t4, b4, k4, e4, rfl⟩ := hv4.form; have HV4 := Lib.hid hv4; have HG4 := Lib.hid hb4; clear hv4 hb4))
    | (go_at_call 89; (with_reducible refine (FQ.out _ _ HV4.out).mono ?_); (rintro e u5 ⟨v5, rfl, hv5, hb5⟩; obtain ⟨s5, a5, l5, c5, rfl⟩ := hv5.form; have HV5 := Lib.hid hv5; have HG5 := Lib.hid (HG4.out.trans hb5); clear hv5 hb5))
    | (go_at_call 73; (with_reducible refine (NV.out _ _ HV5.out).mono ?_); (rintro e u6 ⟨v6, rfl, hv6, hb6⟩; obtain ⟨s6, a6, l6, c6, rfl⟩ := hv6.form; have HV6 := Lib.hid hv6; have HG6 := Lib.hid (HG5.out.trans hb6); clear hv6 hb6; obtain ⟨q0, q1, qf, qz⟩ := K2.out u6 HG6.out)))
  refine bodyPost_ret (v := .agg #[.bool s6, .slice a6 l6 c6]) (by rw [results_one rfl]; go_simp) rfl ⟨_, rfl, HV6.out.set2 (HN2.out.grow HZ2.out HG6.out) _ _ _ _, ((HG2.out.trans HG6.out).setCell (Nat.le_succ _) _).setCell (Nat.le_succ _) _⟩
/-- The power of Delta that eta.Pole names, after i divisors. -/
def pP (N : Nat) (l : List Int) : Nat → Int
  | 0 => 0
  | i + 1 => max (pP N l i) (-(sE N ((divs N).getD i 0) l / ((24 * wdE N ((divs N).getD i 0) : Nat) : Int)))
def pE (N : Nat) (l : List Int) : Int := pP N l (divs N).length
theorem wdE_b {N c : Nat} (h1 : 1 ≤ N) (hN : N ≤ 60) : 1 ≤ wdE N c ∧ wdE N c ≤ 60 := by
  unfold wdE
  have h0 : 0 < Nat.gcd (c * c) N := Nat.gcd_pos_of_pos_right _ (by omega)
  exact ⟨(Nat.le_div_iff_mul_le h0).2 (by rw [Nat.one_mul]; exact Nat.le_of_dvd (by omega) (Nat.gcd_dvd_right _ _)), Nat.le_trans (Nat.div_le_self _ _) hN⟩
theorem div_abs (s : Int) (n : Nat) : (s / (n : Int)).natAbs ≤ s.natAbs + 1 := by
  rcases Nat.eq_zero_or_pos n with h | h
  · subst h; simp
  · have h1 := Int.emod_nonneg s (b := (n : Int)) (by omega)
    have h2 := Int.emod_lt_of_pos s (b := (n : Int)) (by omega)
    have h3 := Int.mul_ediv_add_emod s (n : Int)
    rcases Int.lt_or_le (s / (n : Int)) 0 with h4 | h4
    · have h5 : (n : Int) * (s / (n : Int)) ≤ 1 * (s / (n : Int)) := Int.mul_le_mul_of_nonpos_right (by omega) (by omega)
      have h6 : (n : Int) * (s / (n : Int) + 1) ≤ 1 * (s / (n : Int) + 1) := Int.mul_le_mul_of_nonpos_right (by omega) (by omega)
      rw [Int.mul_add] at h6
      omega
    · have h5 : 1 * (s / (n : Int)) ≤ (n : Int) * (s / (n : Int)) := Int.mul_le_mul_of_nonneg_right (by omega) h4
      omega
theorem pole_q (s : Int) (w : Nat) (hw : 1 ≤ w) : (-((s : Int) / ((24 : Int) : Rat))) / ((w : Int) : Rat) = -((s : Int) / (((24 * w : Nat) : Int) : Rat)) := by
  have h0 : ((w : Int) : Rat) ≠ 0 := by intro h; rw [Rat.intCast_eq_zero_iff] at h; omega
  have h1 : (((24 * w : Nat) : Int) : Rat) = ((24 : Int) : Rat) * ((w : Int) : Rat) := by rw [Int.natCast_mul, Rat.intCast_mul]; rfl
  have h3 : ((24 : Int) : Rat) ≠ 0 := by decide +kernel
  rw [h1]
  grind
theorem pP_b {N : Nat} {l : List Int} (hN : N ≤ 60) (hl : l.length = (divs N).length) (hf : FitE l) : ∀ i, i ≤ (divs N).length → 0 ≤ pP N l i ∧ pP N l i ≤ 732001
  | 0, _ => by simp [pP]
  | i + 1, h => by
    obtain ⟨h1, h2⟩ := pP_b hN hl hf i (by omega)
    have hdl := divs_len N
    have h3 := sP_b hN (getD_mem_divs (n := N) (i := i) (by omega)) hl hf (divs N).length (Nat.le_refl _)
    have h4 := div_abs (sE N ((divs N).getD i 0) l) (24 * wdE N ((divs N).getD i 0))
    unfold sE at h4
    have h5 : pP N l (i + 1) = max (pP N l i) (-(sE N ((divs N).getD i 0) l / ((24 * wdE N ((divs N).getD i 0) : Nat) : Int))) := rfl
    rw [h5]
    unfold sE
    clear h5
    generalize sP N ((divs N).getD i 0) l (divs N).length = s at *
    generalize s / ((24 * wdE N ((divs N).getD i 0) : Nat) : Int) = q at *
    omega
set_option maxRecDepth 20000 in
set_option maxHeartbeats 8000000 in
theorem poleQ (N : Nat) (l : List Int) (v : Value) (hN0 : 1 ≤ N) (hN : N ≤ 60) (hl : l.length = (divs N).length) (hf : FitE l) (w : World) (hv : RdInts w v l) :
    Calls Tryz.prog 17 #[.agg #[.int .i64 (N : Int), v]] w fun e w' => e = .returned (.tuple #[.int .i64 (pE N l), .int .i64 0]) ∧ Grow w w' := by
  have hdl := divs_len N
  have CQ := Lib.hid (fun u hu => echeckOK N l v hN0 hN hl hf u hu)
  have DQ := Lib.hid (fun u => edivQ N hN0 (by omega) u)
  have OQ := Lib.hid (fun i hi u hu => orderQ N ((divs N).getD i 0) l v hN0 hN (getD_mem_divs (n := N) (i := i) hi) hl hf u hu)
  have MD := Lib.hid (fun i (hi : i < (divs N).length) => divs_mem (getD_mem_divs (n := N) (i := i) hi))
  have SB := Lib.hid (fun i (hi : i < (divs N).length) => sP_b hN (getD_mem_divs (n := N) (i := i) hi) hl hf (divs N).length (Nat.le_refl _))
  have PB := Lib.hid (pP_b hN hl hf)
  have HPE : Hid (pE N l = pP N l (divs N).length) := Lib.hid rfl
  have HSE : Hid (∀ c, sE N c l = sP N c l (divs N).length) := Lib.hid (fun _ => rfl)
  obtain ⟨av, cap, rfl⟩ := hv.form
  obtain ⟨k, hk⟩ : ∃ k, (divs N).length = k := ⟨_, rfl⟩
  rw [hl] at hv CQ OQ
  rw [hl]
  rw [hk] at DQ MD SB PB HPE HSE hdl hv CQ OQ
  rw [hk]
  obtain ⟨pe, hpe⟩ : ∃ pe, pE N l = pe := ⟨_, rfl⟩
  rw [hpe] at HPE
  rw [hpe]
  have HVW := Lib.hid hv
  clear hl hf hk hpe hv
  obtain ⟨W1, hW1⟩ : ∃ W1 : World, W1 = w.alloc (.cells #[.int .i64 (N : Int), .slice av k cap] 45) := ⟨_, rfl⟩
  have K1 := Lib.hid (ak2 hW1)
  have HG1 := Lib.hid (ag hW1)
  have HW1 := Lib.hid hW1
  have HV := Lib.hid (fun u (hu : Grow W1 u) => HVW.out.grow ((ag hW1).trans hu))
  clear hW1 HVW
  obtain ⟨f0, f1, f2, f3⟩ := K1.out W1 (Grow.refl _)
  go_enter Tryz.func17, Tryz.ntmps17
  go_upto_region 1 with fail
  rw [← HW1.out]
  go_upto_region 4 with (go_at_call 13; (with_reducible refine (CQ.out _ (HV.out _ (Grow.refl _))).mono ?_); (rintro e u3 ⟨rfl, hb3⟩; have HG3 := Lib.hid hb3; clear hb3))
  clear f0 f1 f2 f3
  obtain ⟨f0, f1, f2, f3⟩ := K1.out u3 HG3.out
  go_upto_region 6 with (go_at_call 41; (with_reducible refine (DQ.out _).mono ?_); (rintro e u5 ⟨g5, cap5, rfl, hi5, hb5, hw5⟩; have HI5 := Lib.hid hi5; have HG5 := Lib.hid (HG3.out.trans hb5); clear hi5 hb5 hw5))
  clear f0 f1 f2 f3
  go_loopg [21, 5] k (fun gk t21 t5 wr => ∃ (i : Nat) (m : Int), t21 = .int .i64 (i : Int) ∧ t5 = .int .i64 m ∧ i ≤ k ∧ Hid (gk = k - i) ∧ Hid (m = pP N l i) ∧ Hid (Grow u5 wr))
  case atStart => exact ⟨0, 0, rfl, rfl, Nat.zero_le _, Lib.hid rfl, Lib.hid rfl, Lib.hid (Grow.refl _)⟩
  case round =>
    obtain ⟨i, m, rfl, rfl, hi, HGK, HM, HGR⟩ := hrel
    by_cases hik : i = k
    · have y1 : decide ((i : Int) < (k : Int)) = false := by simp; omega
      rw [hik, ← HPE.out] at HM
      have HM2 := HM
      clear HM
      go_wp2_with fail
      exact bodyPost_ret (v := .tuple #[.int .i64 m, .int .i64 0]) (by rw [results_pair rfl]; first | rfl | go_simp) rfl ⟨by rw [HM2.out], HG1.out.trans (HG5.out.trans HGR.out)⟩
    · have hik : i < k := by omega
      have y0 : (0 : Int) ≤ (i : Int) := by omega
      have y1 : decide ((i : Int) < (k : Int)) = true := by simp; omega
      have y2 : (i : Int) < (k : Int) := by omega
      have hdc := (HI5.out.grow HGR.out).cell i hik
      rw [Nat.zero_add] at hdc
      obtain ⟨hd1, hd2, -⟩ := MD.out i hik
      have hsb := SB.out i hik
      rw [← HSE.out] at hsb
      obtain ⟨hm0, hm1⟩ := PB.out i hi
      rw [← HM.out] at hm0 hm1
      have hpn : pP N l (i + 1) = max (pP N l i) (-(sE N ((divs N).getD i 0) l / ((24 * wdE N ((divs N).getD i 0) : Nat) : Int))) := rfl
      rw [← HM.out] at hpn
      have HGW : Hid (Grow W1 wr) := Lib.hid (HG5.out.trans HGR.out)
      have OC := Lib.hid (fun u hu => OQ.out i hik u (HV.out u (HGW.out.trans hu)))
      obtain ⟨d, hd⟩ : ∃ d, (divs N).getD i 0 = d := ⟨_, rfl⟩
      rw [hd] at hdc hd1 hd2 hsb hpn OC
      obtain ⟨hw1, hw2⟩ := wdE_b (c := d) hN0 hN
      have WQ := Lib.hid (fun u => ewidthQ N d hN0 hN (by omega) u)
      obtain ⟨s, hs⟩ : ∃ s, sE N d l = s := ⟨_, rfl⟩
      rw [hs] at hsb hpn OC
      obtain ⟨f, hf⟩ : ∃ f, wdE N d = f := ⟨_, rfl⟩
      rw [hf] at hw1 hw2 hpn WQ
      have hs7 : s.natAbs ≤ 732000 := by omega
      have hq7 := div_abs s (24 * f)
      have NG := Lib.hid (fun v u hu => negQ ((s : Int) / ((24 : Int) : Rat)) v u hu)
      have OF := Lib.hid (fun u => ofQ (f : Int) (by omega) u)
      have QU : Hid (∀ (u : World) (v1 v2 : Value), RatR u v1 (-((s : Int) / ((24 : Int) : Rat))) → RatR u v2 ((f : Int) : Rat) → Calls Tryz.prog 50 #[v1, v2] u fun x w' => ∃ v, x = .returned (.tuple #[v, .int .i64 0]) ∧ RatR w' v (-((s : Int) / (((24 * f : Nat) : Int) : Rat))) ∧ Grow u w') :=
        Lib.hid (fun u v1 v2 g1 g2 => by
          obtain ⟨m1, m2⟩ := (sm24 s 732000 hs7).neg.quoB (Sm.mono (sm_int (f : Int)) (show (f : Int).natAbs ≤ 60 by omega) (Nat.le_refl _)) (by omega) (by omega)
          have h := quoQ _ _ v1 v2 (fun h => by rw [Rat.intCast_eq_zero_iff] at h; omega) m1 m2 u g1 g2
          rw [pole_q s f hw1] at h
          exact h)
      obtain ⟨z, hz⟩ : ∃ z, -(s / ((24 * f : Nat) : Int)) = z := ⟨_, rfl⟩
      have hzb : z.natAbs ≤ 732001 := by rw [← hz]; generalize s / ((24 * f : Nat) : Int) = q at *; omega
      have CE : Hid (∀ (v : Value) (u : World), RatR u v (-((s : Int) / (((24 * f : Nat) : Int) : Rat))) → Calls Tryz.prog 54 #[v] u fun x w' => ∃ v, x = .returned v ∧ IntR w' v z ∧ Grow u w') :=
        Lib.hid (fun v u hu => by
          have h := ceilQ _ v u hu
          rw [Rat.neg_neg, floor_frac s (by omega), hz] at h
          exact h)
      have SM := Lib.hid (fun v u hu => smallV z v u hu)
      rw [hz] at hpn
      obtain ⟨m', hm'⟩ : ∃ m', max m z = m' := ⟨_, rfl⟩
      rw [hm'] at hpn
      have HPN := Lib.hid hpn
      have hmx : Hid ((if z > m then z else m) = m') := Lib.hid (by rw [← hm']; split <;> omega)
      have HMX := Lib.hid hm'
      have KK := Lib.hid (fun (u : World) (hg : Grow wr u) => K1.out u (HGW.out.trans hg))
      have E4 := Lib.hid (w64n (n := (i : Int) + 1) (by omega))
      clear hd1 hd2 hsb hm0 hm1 hpn hd hw1 hw2 hs hf hs7 hq7 hz hzb hm'
      go_upto_region 8 with fail
      clear hdc
      refine region_flex (id := 8) wr [⟨13, 8, .cells #[.bool false, .slice none 0 0, .bool false, .slice none 0 0] 36⟩] [0, 1, 4, 5, 6, 2, 3, 7, 8, 9, 10, 11, 12] [14, 15] (kdL [1, 0, 2, 2, 0, 1, 0, 2, 2, 2, 0, 0, 0, 2, 3, 0]) (by kernel_rfl) (by kernel_rfl) (fun t ht => kdL_lt _ t ht) (by simp) (by simp) ?hgq ?halq ?_
      case hgq => (repeat (first | with_reducible exact Grow.refl _ | with_reducible refine Grow.alloc ?_ _ | with_reducible refine Grow.drew ?_ | with_reducible refine Grow.drewN ?_ _ | (with_reducible refine Grow.setCell ?_ ?hp _; (case hp => (simp; try omega))) | with_reducible refine Grow.trans ?_ (by assumption)))
      case halq => (intro x hx; simp only [List.mem_cons, List.not_mem_nil, or_false] at hx; subst hx; all_goals (refine ⟨⟨_, rfl, rfl⟩, fun K a u hK => ?_⟩; refine wpOp_step rfl (fun K' hK' => ?_); go_simp; exact hK' _ _ hK))
      refine flex_read (v := ?vq0) rfl rfl (fun t => Or.inl ⟨by rfl, ?hyq0⟩) ?_
      case hyq0 => (intro u hu; obtain ⟨f0, f1, f2, f3⟩ := KK.out u hu; simp only [aof, List.foldl_cons, List.foldl_nil, Act.put, List.setIfInBounds_toArray, List.set_cons_zero, List.set_cons_succ]; go_simp; (try with_reducible rfl))
      (try simp only [Act.put, List.setIfInBounds_toArray, List.set_cons_zero, List.set_cons_succ])
      refine flex_quiet (v := ?vq1) rfl rfl (fun t => Or.inl ⟨by rfl, ?hyq1⟩) ?_
      case hyq1 => (intro u hu; simp only [aof, List.foldl_cons, List.foldl_nil, Act.put, List.setIfInBounds_toArray, List.set_cons_zero, List.set_cons_succ]; go_simp; (try with_reducible rfl))
      (try simp only [Act.put, List.setIfInBounds_toArray, List.set_cons_zero, List.set_cons_succ])
      refine flex_quiet (v := ?vq4) rfl rfl (fun t => Or.inl ⟨by rfl, ?hyq4⟩) ?_
      case hyq4 => (intro u hu; simp only [aof, List.foldl_cons, List.foldl_nil, Act.put, List.setIfInBounds_toArray, List.set_cons_zero, List.set_cons_succ]; go_simp; (try with_reducible rfl))
      (try simp only [Act.put, List.setIfInBounds_toArray, List.set_cons_zero, List.set_cons_succ])
      refine flex_read (v := ?vq5) rfl rfl (fun t => Or.inl ⟨by rfl, ?hyq5⟩) ?_
      case hyq5 => (intro u hu; obtain ⟨f0, f1, f2, f3⟩ := KK.out u hu; simp only [aof, List.foldl_cons, List.foldl_nil, Act.put, List.setIfInBounds_toArray, List.set_cons_zero, List.set_cons_succ]; go_simp; (try with_reducible rfl))
      (try simp only [Act.put, List.setIfInBounds_toArray, List.set_cons_zero, List.set_cons_succ])
      refine flex_quiet (v := ?vq6) rfl rfl (fun t => Or.inl ⟨by rfl, ?hyq6⟩) ?_
      case hyq6 => (intro u hu; simp only [aof, List.foldl_cons, List.foldl_nil, Act.put, List.setIfInBounds_toArray, List.set_cons_zero, List.set_cons_succ]; go_simp; (try with_reducible rfl))
      (try simp only [Act.put, List.setIfInBounds_toArray, List.set_cons_zero, List.set_cons_succ])
      refine flex_op rfl rfl (fun t2 u2 hu2 K hK => ?_)
      simp only [aof, List.foldl_cons, List.foldl_nil, Act.put, List.setIfInBounds_toArray, List.set_cons_zero, List.set_cons_succ]
      go_simp
      (go_at_call 51; (with_reducible refine (OC.out _ (by (repeat (first | with_reducible exact Grow.refl _ | with_reducible refine Grow.alloc ?_ _ | with_reducible refine Grow.drew ?_ | with_reducible refine Grow.drewN ?_ _ | (with_reducible refine Grow.setCell ?_ ?hp _; (case hp => (simp; try omega))) | with_reducible refine Grow.trans ?_ (by assumption))))).mono ?_); (rintro x u52 ⟨v52, rfl, hv52, hb52⟩; obtain ⟨s52, a52, l52, c52, t52, b52, k52, e52, rfl⟩ := hv52.form; have HV52 := Lib.hid hv52; clear hv52))
      (try go_wp2_with fail)
      refine hK.out _ (.agg #[.bool s52, .slice a52 l52 c52, .bool t52, .slice b52 k52 e52]) _ ?heq2 ?hgq2 ?_
      case heq2 => (simp only [aof, List.foldl_cons, List.foldl_nil, Act.put, List.setIfInBounds_toArray, List.set_cons_zero, List.set_cons_succ])
      case hgq2 => (repeat (first | with_reducible exact Grow.refl _ | with_reducible refine Grow.alloc ?_ _ | with_reducible refine Grow.drew ?_ | with_reducible refine Grow.drewN ?_ _ | (with_reducible refine Grow.setCell ?_ ?hp _; (case hp => (simp; try omega))) | with_reducible refine Grow.trans ?_ (by assumption)))
      clear hK K t2
      (try simp only [Act.put, List.setIfInBounds_toArray, List.set_cons_zero, List.set_cons_succ])
      refine flex_op rfl rfl (fun t3 u3 hu3 K hK => ?_)
      simp only [aof, List.foldl_cons, List.foldl_nil, Act.put, List.setIfInBounds_toArray, List.set_cons_zero, List.set_cons_succ]
      go_simp
      (go_at_call 36; (with_reducible refine (NG.out _ _ (HV52.out.grow (by (repeat (first | with_reducible exact Grow.refl _ | with_reducible refine Grow.alloc ?_ _ | with_reducible refine Grow.drew ?_ | with_reducible refine Grow.drewN ?_ _ | (with_reducible refine Grow.setCell ?_ ?hp _; (case hp => (simp; try omega))) | with_reducible refine Grow.trans ?_ (by assumption)))))).mono ?_); (rintro x u53 ⟨v53, rfl, hv53, hb53⟩; obtain ⟨s53, a53, l53, c53, t53, b53, k53, e53, rfl⟩ := hv53.form; have HV53 := Lib.hid hv53; clear hv53))
      (try go_wp2_with fail)
      refine hK.out _ (.agg #[.bool s53, .slice a53 l53 c53, .bool t53, .slice b53 k53 e53]) _ ?heq3 ?hgq3 ?_
      case heq3 => (simp only [aof, List.foldl_cons, List.foldl_nil, Act.put, List.setIfInBounds_toArray, List.set_cons_zero, List.set_cons_succ])
      case hgq3 => (repeat (first | with_reducible exact Grow.refl _ | with_reducible refine Grow.alloc ?_ _ | with_reducible refine Grow.drew ?_ | with_reducible refine Grow.drewN ?_ _ | (with_reducible refine Grow.setCell ?_ ?hp _; (case hp => (simp; try omega))) | with_reducible refine Grow.trans ?_ (by assumption)))
      clear hK K t3
      (try simp only [Act.put, List.setIfInBounds_toArray, List.set_cons_zero, List.set_cons_succ])
      refine flex_op rfl rfl (fun t7 u7 hu7 K hK => ?_)
      simp only [aof, List.foldl_cons, List.foldl_nil, Act.put, List.setIfInBounds_toArray, List.set_cons_zero, List.set_cons_succ]
      go_simp
      (go_at_call 52; (with_reducible refine (WQ.out _).mono ?_); (rintro x u57 ⟨rfl, hb57⟩))
      (try go_wp2_with fail)
      refine hK.out _ (.int .i64 (f : Int)) _ ?heq7 ?hgq7 ?_
      case heq7 => (simp only [aof, List.foldl_cons, List.foldl_nil, Act.put, List.setIfInBounds_toArray, List.set_cons_zero, List.set_cons_succ])
      case hgq7 => (repeat (first | with_reducible exact Grow.refl _ | with_reducible refine Grow.alloc ?_ _ | with_reducible refine Grow.drew ?_ | with_reducible refine Grow.drewN ?_ _ | (with_reducible refine Grow.setCell ?_ ?hp _; (case hp => (simp; try omega))) | with_reducible refine Grow.trans ?_ (by assumption)))
      clear hK K t7
      (try simp only [Act.put, List.setIfInBounds_toArray, List.set_cons_zero, List.set_cons_succ])
      refine flex_op rfl rfl (fun t8 u8 hu8 K hK => ?_)
      simp only [aof, List.foldl_cons, List.foldl_nil, Act.put, List.setIfInBounds_toArray, List.set_cons_zero, List.set_cons_succ]
      go_simp
      (go_at_call 18; (with_reducible refine (OF.out _).mono ?_); (rintro x u58 ⟨v58, rfl, hv58, hb58⟩; obtain ⟨s58, a58, l58, c58, t58, b58, k58, e58, rfl⟩ := hv58.form; have HV58 := Lib.hid hv58; clear hv58))
      (try go_wp2_with fail)
      refine hK.out _ (.agg #[.bool s58, .slice a58 l58 c58, .bool t58, .slice b58 k58 e58]) _ ?heq8 ?hgq8 ?_
      case heq8 => (simp only [aof, List.foldl_cons, List.foldl_nil, Act.put, List.setIfInBounds_toArray, List.set_cons_zero, List.set_cons_succ])
      case hgq8 => (repeat (first | with_reducible exact Grow.refl _ | with_reducible refine Grow.alloc ?_ _ | with_reducible refine Grow.drew ?_ | with_reducible refine Grow.drewN ?_ _ | (with_reducible refine Grow.setCell ?_ ?hp _; (case hp => (simp; try omega))) | with_reducible refine Grow.trans ?_ (by assumption)))
      clear hK K t8
      (try simp only [Act.put, List.setIfInBounds_toArray, List.set_cons_zero, List.set_cons_succ])
      refine flex_op rfl rfl (fun t9 u9 hu9 K hK => ?_)
      simp only [aof, List.foldl_cons, List.foldl_nil, Act.put, List.setIfInBounds_toArray, List.set_cons_zero, List.set_cons_succ]
      go_simp
      (go_at_call 50; (with_reducible refine (QU.out _ _ _ (HV53.out.grow (by (repeat (first | with_reducible exact Grow.refl _ | with_reducible refine Grow.alloc ?_ _ | with_reducible refine Grow.drew ?_ | with_reducible refine Grow.drewN ?_ _ | (with_reducible refine Grow.setCell ?_ ?hp _; (case hp => (simp; try omega))) | with_reducible refine Grow.trans ?_ (by assumption))))) (HV58.out.grow (by (repeat (first | with_reducible exact Grow.refl _ | with_reducible refine Grow.alloc ?_ _ | with_reducible refine Grow.drew ?_ | with_reducible refine Grow.drewN ?_ _ | (with_reducible refine Grow.setCell ?_ ?hp _; (case hp => (simp; try omega))) | with_reducible refine Grow.trans ?_ (by assumption)))))).mono ?_); (rintro x u59 ⟨v59, rfl, hv59, hb59⟩; obtain ⟨s59, a59, l59, c59, t59, b59, k59, e59, rfl⟩ := hv59.form; have HV59 := Lib.hid hv59; clear hv59))
      (try go_wp2_with fail)
      refine hK.out _ (.tuple #[.agg #[.bool s59, .slice a59 l59 c59, .bool t59, .slice b59 k59 e59], .int .i64 0]) _ ?heq9 ?hgq9 ?_
      case heq9 => (simp only [aof, List.foldl_cons, List.foldl_nil, Act.put, List.setIfInBounds_toArray, List.set_cons_zero, List.set_cons_succ])
      case hgq9 => (repeat (first | with_reducible exact Grow.refl _ | with_reducible refine Grow.alloc ?_ _ | with_reducible refine Grow.drew ?_ | with_reducible refine Grow.drewN ?_ _ | (with_reducible refine Grow.setCell ?_ ?hp _; (case hp => (simp; try omega))) | with_reducible refine Grow.trans ?_ (by assumption)))
      clear hK K t9
      (try simp only [Act.put, List.setIfInBounds_toArray, List.set_cons_zero, List.set_cons_succ])
      refine flex_quiet (v := ?vq10) rfl rfl (fun t => Or.inl ⟨by rfl, ?hyq10⟩) ?_
      case hyq10 => (intro u hu; simp only [aof, List.foldl_cons, List.foldl_nil, Act.put, List.setIfInBounds_toArray, List.set_cons_zero, List.set_cons_succ]; go_simp; (try with_reducible rfl))
      (try simp only [Act.put, List.setIfInBounds_toArray, List.set_cons_zero, List.set_cons_succ])
      refine flex_quiet (v := ?vq11) rfl rfl (fun t => Or.inl ⟨by rfl, ?hyq11⟩) ?_
      case hyq11 => (intro u hu; simp only [aof, List.foldl_cons, List.foldl_nil, Act.put, List.setIfInBounds_toArray, List.set_cons_zero, List.set_cons_succ]; go_simp; (try with_reducible rfl))
      (try simp only [Act.put, List.setIfInBounds_toArray, List.set_cons_zero, List.set_cons_succ])
      refine flex_quiet (v := ?vq12) rfl rfl (fun t => Or.inl ⟨by rfl, ?hyq12⟩) ?_
      case hyq12 => (intro u hu; simp only [aof, List.foldl_cons, List.foldl_nil, Act.put, List.setIfInBounds_toArray, List.set_cons_zero, List.set_cons_succ]; go_simp; (try with_reducible rfl))
      (try simp only [Act.put, List.setIfInBounds_toArray, List.set_cons_zero, List.set_cons_succ])
      refine flex_done (fun Fq uq huq hFq hNq => ?_)
      have hFq0 := hFq ⟨13, 8, .cells #[.bool false, .slice none 0 0, .bool false, .slice none 0 0] 36⟩ (by simp)
      clear hFq hNq
      (try simp only [aof, List.foldl_cons, List.foldl_nil, Act.put, List.setIfInBounds_toArray, List.set_cons_zero, List.set_cons_succ, ptrX])
      generalize Fq 13 = Fbq0 at *
      clear Fq
      have hFX := hFq0
      obtain ⟨hFx, hF1, hF2, hF3⟩ := hFq0
      obtain ⟨o0, o1, o2, o3, of, oz⟩ := ak4 rfl _ hF3
      rw [hF2] at o0 o1 o2 o3 of oz
      refine held_last rfl rfl (fun K hK => ?_)
      go_simp
      refine hK.out _ _ ?_
      clear hK K
      (try simp only [Act.put])
      refine held_quiet (v := ?vq15) rfl rfl (Or.inl ⟨by rfl, ?hyq15⟩) ?_
      case hyq15 => (intro u hu; go_simp; (try with_reducible rfl))
      (try simp only [Act.put])
      refine held_done ?_
      obtain ⟨hQ, hG⟩ := FrX.putR hFX (HV59.out.grow huq)
      obtain ⟨w10, hw10⟩ : ∃ w10, st4 uq Fbq0 0 (.bool s59) (.slice a59 l59 c59) (.bool t59) (.slice b59 k59 e59) = w10 := ⟨_, rfl⟩
      have hw11 : ((((uq.setCell ⟨Fbq0, 0, none⟩ (.bool s59)).setCell ⟨Fbq0, 1, none⟩ (.slice a59 l59 c59)).setCell ⟨Fbq0, 2, none⟩ (.bool t59)).setCell ⟨Fbq0, 3, none⟩ (.slice b59 k59 e59)) = w10 := hw10
      rw [hw10] at hQ hG
      rw [hw11]
      obtain ⟨s11, a11, l11, c11, t11, b11, k11, e11, ⟨p0, p1, p2, p3⟩, hv11⟩ := RowQ.at4 hQ (show 0 < 1 by omega)
      rw [Nat.zero_mul, Nat.add_zero] at p0 p1 p2 p3
      have HV11 := Lib.hid hv11
      have HGT := Lib.hid (HGR.out.trans hG)
      clear hw10 hw11 hQ hG hv11 hFX o0 o1 o2 o3 of oz hFx hF1 hF2 hF3 huq HV52 HV53 HV58 HV59
      go_simp
      go_upto_region 10 with (first
        | (go_at_call 54; (with_reducible refine (CE.out _ _ HV11.out).mono ?_); (rintro x u12 ⟨v12, rfl, hv12, hb12⟩; obtain ⟨s12, a12, l12, c12, rfl⟩ := hv12.form; have HV12 := Lib.hid hv12; have HG12 := Lib.hid (HGT.out.trans hb12); clear hv12 hb12))
        | (go_at_call 53; (with_reducible refine (SM.out _ _ HV12.out).mono ?_); (rintro x u13 ⟨rfl, hb13⟩; have HG13 := Lib.hid (HG12.out.trans hb13); clear hb13)))
      clear p0 p1 p2 p3
      obtain ⟨e4, e4'⟩ := E4.out
      have hmx' := hmx.out
      have hm2 := HMX.out
      go_wp2_with fail
      clear e4 e4' hmx' hm2
      go_roundg (k - (i + 1))
      case measure => have := HGK.out; omega
      case rel => exact ⟨i + 1, m', rfl, rfl, hik, Lib.hid rfl, Lib.hid (by rw [HPN.out]), HG13⟩
end Go.Proofs.YtbpkfcohbefphaaGreat
namespace Go.Proofs.YtbpkfcohbefphaaGreat
open Go Go.RowKit
theorem RatR.parts {w : World} {n d : Int} {s t : Bool} {m1 m2 : Value} (g : Nat) (hd : 0 < d) (hg : Int.gcd n d = g) (h1 : IntR w (.agg #[.bool s, m1]) (n / (g : Int))) (h2 : IntR w (.agg #[.bool t, m2]) (d / (g : Int))) (h0 : 0 ≤ d / (g : Int)) :
    RatR w (.agg #[.bool s, m1, .bool t, m2]) ((n : Rat) / (d : Rat)) := by
  obtain ⟨p, hv, h1⟩ := h1
  obtain ⟨q, hv', h2⟩ := h2
  simp only [Value.agg.injEq, Array.mk.injEq, List.cons.injEq, Value.bool.injEq, and_true] at hv hv'
  obtain ⟨e1, rfl⟩ := hv
  obtain ⟨e3, rfl⟩ := hv'
  have h := RatR.mk (X := (n : Rat) / (d : Rat)) g hd (Rat.divInt_eq_div n d) hg h1 h2
  have e4 : sgB (d / (g : Int)) = false := by unfold sgB; simp; omega
  rw [e1, e3, e4]
  exact h
set_option maxRecDepth 20000 in
set_option maxHeartbeats 8000000 in
theorem frac24Q (n : Int) (hn : n.natAbs ≤ 1000000000) (w : World) :
    Calls Tryz.prog 24 #[.int .i64 n, .int .i64 24] w fun e w' => ∃ v, e = .returned v ∧ RatR w' v ((n : Int) / ((24 : Int) : Rat)) ∧ Grow w w' := by
  obtain ⟨A, hA⟩ : ∃ A : Nat, n.natAbs = A := ⟨_, rfl⟩
  obtain ⟨g, hg⟩ : ∃ g, Nat.gcd A 24 = g := ⟨_, rfl⟩
  have hig : Int.gcd n 24 = g := by rw [← hg, ← hA]; rfl
  have hg0 : 0 < g := by rw [← hg]; exact Nat.gcd_pos_of_pos_right _ (by omega)
  have hgd : g ∣ 24 := by rw [← hg]; exact Nat.gcd_dvd_right _ _
  have hgn : (g : Int) ∣ n := by
    rw [← hig]; exact Int.gcd_dvd_left ..
  have hg24 : g ≤ 24 := Nat.le_of_dvd (by omega) hgd
  obtain ⟨p, hp⟩ : ∃ p, n / (g : Int) = p := ⟨_, rfl⟩
  obtain ⟨q, hq⟩ : ∃ q, 24 / g = q := ⟨_, rfl⟩
  have hpb : p.natAbs ≤ 1000000001 := by have := div_abs n g; rw [hp] at this; omega
  have hqb : q ≤ 24 := by rw [← hq]; exact Nat.div_le_self _ _
  have ET : Hid (Int.tdiv n (g : Int) = p) := Lib.hid (by rw [Int.tdiv_eq_ediv_of_dvd hgn, hp])
  have EU : Hid (Int.tdiv 24 (g : Int) = (q : Int)) := Lib.hid (by rw [Int.tdiv_eq_ediv_of_nonneg (by omega), ← hq]; rfl)
  have EP := Lib.hid (w64n (n := p) (by omega))
  have EQ := Lib.hid (w64n (n := (q : Int)) (by omega))
  have EN := Lib.hid (w64n (n := -n) (by omega))
  have ZP := Lib.hid (fun u => zbV p (by omega) u)
  have ZQ := Lib.hid (fun u => zbV (q : Int) (by omega) u)
  have PR : Hid (∀ (u : World) (s t : Bool) (m1 m2 : Value), IntR u (.agg #[.bool s, m1]) p → IntR u (.agg #[.bool t, m2]) (q : Int) → RatR u (.agg #[.bool s, m1, .bool t, m2]) ((n : Int) / ((24 : Int) : Rat))) :=
    Lib.hid (fun u s t m1 m2 g1 g2 => RatR.parts (d := 24) g (by omega) hig (by rw [hp]; exact g1) (by rw [show (24 : Int) / (g : Int) = (q : Int) by rw [← hq]; rfl]; exact g2) (by rw [show (24 : Int) / (g : Int) = (q : Int) by rw [← hq]; rfl]; omega))
  have hm1 : max n (-n) = (A : Int) := by omega
  have hm2 : (if -n > n then -n else n) = (A : Int) := by split <;> omega
  have M1 := Lib.hid hm1
  have M2 := Lib.hid hm2
  have HGD := Lib.hid hg
  have hgn : ¬ g = 0 := by omega
  have hgz : ¬ (g : Int) = 0 := by omega
  have hAb : A ≤ 1000000000 := by omega
  clear hn hA hg hig hg0 hgd hg24 hp hq hpb hqb hm1 hm2
  obtain ⟨W1, hW1⟩ : ∃ W1 : World, W1 = w.alloc (.cells #[.bool false, .slice none 0 0, .bool false, .slice none 0 0] 36) := ⟨_, rfl⟩
  have hg1 := ag hW1
  have K1 := Lib.hid (ak4 hW1)
  have RC : Hid (RowP W1 w.heap.size 0 1 (fun _ => none)) := Lib.hid (by rw [hW1]; exact rowp_alloc w _)
  have HW1 := Lib.hid hW1
  clear hW1
  obtain ⟨en, en'⟩ := EN.out
  have m1 := M1.out
  have m2 := M2.out
  go_enter Tryz.func24, Tryz.ntmps24
  go_upto_region 1 with fail
  rw [← HW1.out]
  go_wp2_with fail
  clear en en' m1 m2
  go_loopg [5, 6] 24 (fun gk t5 t6 wr => ∃ a b : Nat, t5 = .int .i64 (a : Int) ∧ t6 = .int .i64 (b : Int) ∧ a ≤ 1000000000 ∧ b ≤ 24 ∧ Hid (gk = b) ∧ Hid (Nat.gcd a b = g) ∧ Hid (Grow W1 wr))
  case atStart => exact ⟨A, 24, rfl, rfl, hAb, by omega, Lib.hid rfl, HGD, Lib.hid (Grow.refl _)⟩
  case round =>
    obtain ⟨a, b, rfl, rfl, ha, hb, HGK, HGC, HGR⟩ := hrel
    by_cases hb0 : b = 0
    · subst hb0
      have hag : a = g := by have := HGC.out; simpa using this
      subst hag
      have ep := ET.out
      have eq := EU.out
      obtain ⟨e1, e2⟩ := EP.out
      obtain ⟨e3, e4⟩ := EQ.out
      have KK := Lib.hid (fun (u : World) (hu : Grow wr u) => K1.out u (HGR.out.trans hu))
      go_upto_region 6 with fail
      refine region_held (id := 6) (fun u => Grow wr u) [0, 1, 2, 4, 5, 6, 3, 7, 8, 9] (kdL [0, 0, 0, 2, 0, 0, 0, 2, 0, 3]) (by kernel_rfl) (by kernel_rfl) (fun t ht => kdL_lt _ t ht) ?hS0q ?_
      case hS0q => ((try dsimp only); (repeat (first | with_reducible exact Grow.refl _ | with_reducible refine Grow.alloc ?_ _ | with_reducible refine Grow.drew ?_ | with_reducible refine Grow.drewN ?_ _ | (with_reducible refine Grow.setCell ?_ ?hp _; (case hp => (simp; try omega))) | with_reducible refine Grow.trans ?_ (by assumption))))
      refine held_quiet (v := ?vq0) rfl rfl (Or.inl ⟨by rfl, ?hyq0⟩) ?_
      case hyq0 => (intro u hu; go_simp; (try with_reducible rfl))
      (try simp only [Act.put, List.setIfInBounds_toArray, List.set_cons_zero, List.set_cons_succ])
      refine held_quiet (v := ?vq1) rfl rfl (Or.inl ⟨by rfl, ?hyq1⟩) ?_
      case hyq1 => (intro u hu; go_simp; (try with_reducible rfl))
      (try simp only [Act.put, List.setIfInBounds_toArray, List.set_cons_zero, List.set_cons_succ])
      refine held_quiet (v := ?vq2) rfl rfl (Or.inl ⟨by rfl, ?hyq2⟩) ?_
      case hyq2 => (intro u hu; go_simp; (try with_reducible rfl))
      (try simp only [Act.put, List.setIfInBounds_toArray, List.set_cons_zero, List.set_cons_succ])
      refine held_quiet (v := ?vq4) rfl rfl (Or.inl ⟨by rfl, ?hyq4⟩) ?_
      case hyq4 => (intro u hu; go_simp; (try with_reducible rfl))
      (try simp only [Act.put, List.setIfInBounds_toArray, List.set_cons_zero, List.set_cons_succ])
      refine held_quiet (v := ?vq5) rfl rfl (Or.inl ⟨by rfl, ?hyq5⟩) ?_
      case hyq5 => (intro u hu; go_simp; (try with_reducible rfl))
      (try simp only [Act.put, List.setIfInBounds_toArray, List.set_cons_zero, List.set_cons_succ])
      refine held_quiet (v := ?vq6) rfl rfl (Or.inl ⟨by rfl, ?hyq6⟩) ?_
      case hyq6 => (intro u hu; go_simp; (try with_reducible rfl))
      (try simp only [Act.put, List.setIfInBounds_toArray, List.set_cons_zero, List.set_cons_succ])
      refine held_op rfl rfl (fun K hK => ?_)
      go_simp
      (go_at_call 39; (with_reducible refine (ZP.out _).mono ?_); (rintro x u53 ⟨v53, rfl, hv53, hb53⟩; obtain ⟨s53, a53, l53, c53, rfl⟩ := hv53.form; have HV53 := Lib.hid hv53; clear hv53))
      (try go_wp2_with fail)
      refine hK.out _ _ ?hSq3 ?_
      case hSq3 => ((try dsimp only); (repeat (first | with_reducible exact Grow.refl _ | with_reducible refine Grow.alloc ?_ _ | with_reducible refine Grow.drew ?_ | with_reducible refine Grow.drewN ?_ _ | (with_reducible refine Grow.setCell ?_ ?hp _; (case hp => (simp; try omega))) | with_reducible refine Grow.trans ?_ (by assumption))))
      clear hK K
      (try simp only [Act.put, List.setIfInBounds_toArray, List.set_cons_zero, List.set_cons_succ])
      refine held_op rfl rfl (fun K hK => ?_)
      go_simp
      (go_at_call 39; (with_reducible refine (ZQ.out _).mono ?_); (rintro x u57 ⟨v57, rfl, hv57, hb57⟩; obtain ⟨s57, a57, l57, c57, rfl⟩ := hv57.form; have HV57 := Lib.hid hv57; clear hv57); obtain ⟨d0, d1, d2, d3, d4, d5⟩ := KK.out u57 (by (repeat (first | with_reducible exact Grow.refl _ | with_reducible refine Grow.alloc ?_ _ | with_reducible refine Grow.drew ?_ | with_reducible refine Grow.drewN ?_ _ | (with_reducible refine Grow.setCell ?_ ?hp _; (case hp => (simp; try omega))) | with_reducible refine Grow.trans ?_ (by assumption)))))
      (try go_wp2_with fail)
      refine hK.out _ _ ?hSq7 ?_
      case hSq7 => ((try dsimp only); (repeat (first | with_reducible exact Grow.refl _ | with_reducible refine Grow.alloc ?_ _ | with_reducible refine Grow.drew ?_ | with_reducible refine Grow.drewN ?_ _ | (with_reducible refine Grow.setCell ?_ ?hp _; (case hp => (simp; try omega))) | with_reducible refine Grow.trans ?_ (by assumption))))
      clear hK K
      (try simp only [Act.put, List.setIfInBounds_toArray, List.set_cons_zero, List.set_cons_succ])
      refine held_quiet (v := ?vq8) rfl rfl (Or.inl ⟨by rfl, ?hyq8⟩) ?_
      case hyq8 => (intro u hu; go_simp; (try with_reducible rfl))
      (try simp only [Act.put, List.setIfInBounds_toArray, List.set_cons_zero, List.set_cons_succ])
      refine held_last rfl rfl (fun K hK => ?_)
      go_simp
      refine hK.out _ _ ?_
      clear hK K
      (try simp only [Act.put, List.setIfInBounds_toArray, List.set_cons_zero, List.set_cons_succ])
      refine held_done ?_
      have hgr : Grow W1 u57 := HGR.out.trans (by (repeat (first | with_reducible exact Grow.refl _ | with_reducible refine Grow.alloc ?_ _ | with_reducible refine Grow.drew ?_ | with_reducible refine Grow.drewN ?_ _ | (with_reducible refine Grow.setCell ?_ ?hp _; (case hp => (simp; try omega))) | with_reducible refine Grow.trans ?_ (by assumption))))
      have hx := PR.out u57 s53 s57 _ _ (HV53.out.grow hb57) HV57.out
      obtain ⟨h1, h2⟩ := rescell (w := w) (RC.out.grow hgr) (Nat.le_refl _) (hg1.trans hgr) hx
      clear hx hgr ep eq e1 e2 e3 e4
      go_simp
      go_wp2_with fail
      exact bodyPost_ret (v := .agg #[.bool s53, .slice a53 l53 c53, .bool s57, .slice a57 l57 c57]) (by rw [results_one rfl]; go_simp) rfl ⟨_, rfl, h1, h2⟩
    · have hbp : 0 < b := by omega
      have y1 : decide ((b : Int) > 0) = true := by simp; omega
      obtain ⟨r, hr⟩ : ∃ r, a % b = r := ⟨_, rfl⟩
      have hrb : r < b := by rw [← hr]; exact Nat.mod_lt _ hbp
      have E2 : Hid (Int.tmod (a : Int) (b : Int) = (r : Int)) := Lib.hid (by rw [← hr, Int.natCast_emod]; exact Int.tmod_eq_emod_of_nonneg (by omega))
      have E3 := Lib.hid (w64n (n := (r : Int)) (by omega))
      have HGC2 : Hid (Nat.gcd b r = g) := Lib.hid (by rw [← hr, ← Nat.gcd_comm, ← Nat.gcd_rec, Nat.gcd_comm]; exact HGC.out)
      have hbz : ¬ (b : Int) = 0 := by omega
      have hrb2 : r ≤ 24 := by omega
      have hb24 : b ≤ 1000000000 := by omega
      clear hr
      have e2 := E2.out
      obtain ⟨e3, e3'⟩ := E3.out
      go_wp2_with fail
      go_quiet (fail)
      go_wp2_with fail
      clear e2 e3 e3'
      go_roundg r
      case measure => have := HGK.out; omega
      case rel => exact ⟨b, r, rfl, rfl, hb24, hrb2, Lib.hid rfl, HGC2, Lib.hid (HGR.out.drewN _)⟩
end Go.Proofs.YtbpkfcohbefphaaGreat
