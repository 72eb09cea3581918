/- Lemmas, plain laws and walks that the statement LwValence leans on (texts EtD, EtE, CuA, CuM, CuB), conditions as each theorem says. -/
import Derived.Maps.OwnSet
import Derived.Laws.AppendOwn
import Derived.Carry
import Derived.Test.YtbpkfcohbefphaaGreatTopValG12

namespace Go.Proofs.YtbpkfcohbefphaaGreat
open Go Go.RowKit
/-- 24 times the order at a cusp of denominator c: the sum of the parts of the first i divisors. -/
def sP (N c : Nat) (l : List Int) : Nat → Int
  | 0 => 0
  | i + 1 => sP N c l i + (kE N c ((divs N).getD i 0) : Int) * l.getD i 0
def sE (N c : Nat) (l : List Int) : Int := sP N c l (divs N).length
theorem getD_mem_divs {n i : Nat} (h : i < (divs n).length) : (divs n).getD i 0 ∈ divs n := by
  rw [List.getD_eq_getElem?_getD, List.getElem?_eq_getElem h]; simp
theorem kr_b {N c i : Nat} {l : List Int} (hN : N ≤ 60) (hc : c ∈ divs N) (hl : l.length = (divs N).length) (hf : FitE l) (hi : i < (divs N).length) : ((kE N c ((divs N).getD i 0) : Int) * l.getD i 0).natAbs ≤ 12000 := by
  have h1 := (kE_spec hN hc (getD_mem_divs hi)).2.1
  obtain ⟨h2, h3⟩ := hf i (by omega)
  rw [Int.natAbs_mul]
  exact Nat.le_trans (Nat.mul_le_mul (show ((kE N c ((divs N).getD i 0) : Int)).natAbs ≤ 60 by omega) (show (l.getD i 0).natAbs ≤ 200 by omega)) (by omega)
theorem sP_b {N c : Nat} {l : List Int} (hN : N ≤ 60) (hc : c ∈ divs N) (hl : l.length = (divs N).length) (hf : FitE l) : ∀ i, i ≤ (divs N).length → (sP N c l i).natAbs ≤ 12000 * i
  | 0, _ => by simp [sP]
  | i + 1, h => by
    have h1 := sP_b hN hc hl hf i (by omega)
    have h2 := kr_b hN hc hl hf (i := i) (by omega)
    show (sP N c l i + (kE N c ((divs N).getD i 0) : Int) * l.getD i 0).natAbs ≤ 12000 * (i + 1)
    generalize (kE N c ((divs N).getD i 0) : Int) * l.getD i 0 = x at *
    generalize sP N c l i = y at *
    omega
theorem t24_mul (a r : Int) : ((a : Int) / ((24 : Int) : Rat)) * (r : Rat) = ((a * r : Int) : Rat) / ((24 : Int) : Rat) := by
  rw [Rat.intCast_mul]
  have h3 : ((24 : Int) : Rat) ≠ 0 := by decide +kernel
  grind
theorem t24_add (a b : Int) : ((a : Int) / ((24 : Int) : Rat)) + ((b : Int) / ((24 : Int) : Rat)) = ((a + b : Int) : Rat) / ((24 : Int) : Rat) := by
  rw [Rat.intCast_add]
  have h3 : ((24 : Int) : Rat) ≠ 0 := by decide +kernel
  grind
theorem sm24 (a : Int) (n : Nat) (h : a.natAbs ≤ n) : Sm ((a : Int) / ((24 : Int) : Rat)) n 24 := (sm_div a 24 (by omega)).mono h (Nat.le_refl _)
theorem RdInts.cellsOf {w : World} {v : Value} {l : List Int} (h : RdInts w v l) (hl : 0 < l.length) : ∃ B off cap, v = .slice (some ⟨B, off, none⟩) l.length cap ∧ IntQ w B off l.length (fun i => l.getD i 0) := by
  rcases h with ⟨a, cap, _, h⟩ | ⟨B, off, cap, hv, hlt, hc⟩
  · rw [h] at hl; simp at hl
  · exact ⟨B, off, cap, hv, hlt, hc⟩
set_option maxRecDepth 20000 in
set_option maxHeartbeats 8000000 in
theorem orderQ (N c : Nat) (l : List Int) (v : Value) (hN0 : 1 ≤ N) (hN : N ≤ 60) (hc : c ∈ divs N) (hl : l.length = (divs N).length) (hf : FitE l) (w : World) (hv : RdInts w v l) :
    Calls Tryz.prog 51 #[.agg #[.int .i64 (N : Int), v], .int .i64 (c : Int)] w fun e w' => ∃ v, e = .returned v ∧ RatR w' v ((sE N c l : Int) / ((24 : Int) : Rat)) ∧ Grow w w' := by
  have hdp := divs_pos N hN0
  have hdl := divs_len N
  obtain ⟨B, off, cap, rfl, hI⟩ := hv.cellsOf (by omega)
  rw [hl]
  rw [hl] at hI
  clear hv
  have OF := Lib.hid (fun u => ofQ 0 (by decide) u)
  have DQ := Lib.hid (fun u => edivQ N hN0 (by omega) u)
  have HB12 := Lib.hid (sP_b hN hc hl hf)
  have PQ := Lib.hid (fun i hi u => partQ N c ((divs N).getD i 0) hN hc (getD_mem_divs (n := N) (i := i) hi) u)
  have KB := Lib.hid (fun i hi => (kE_spec hN hc (getD_mem_divs (n := N) (i := i) hi)).2.1)
  have KR := Lib.hid (fun i hi => kr_b (i := i) hN hc hl hf hi)
  have HF := Lib.hid (fun i (hi : i < (divs N).length) => hf i (by omega))
  have HSE : Hid (sE N c l = sP N c l (divs N).length) := Lib.hid rfl
  obtain ⟨k, hk⟩ : ∃ k, (divs N).length = k := ⟨_, rfl⟩
  rw [hk] at HB12 PQ KB KR HF HSE DQ hI hdl hdp
  rw [hk]
  obtain ⟨sc, hsc⟩ : ∃ sc, sE N c l = sc := ⟨_, rfl⟩
  rw [hsc] at HSE
  rw [hsc]
  clear hc hl hf hk hsc
  obtain ⟨W1, hW1⟩ : ∃ W1 : World, W1 = w.alloc (.cells #[.int .i64 (N : Int), .slice (some ⟨B, off, none⟩) k cap] 45) := ⟨_, rfl⟩
  obtain ⟨W2, hW2⟩ : ∃ W2 : World, W2 = W1.alloc (.cells #[.bool false, .slice none 0 0, .bool false, .slice none 0 0] 36) := ⟨_, rfl⟩
  have hz1 : W1.heap.size = w.heap.size + 1 := by rw [hW1]; simp
  have hz2 : W2.heap.size = w.heap.size + 2 := by rw [hW2]; simp [hz1]
  have hg2 : Grow w W2 := (ag hW1).trans (ag hW2)
  have K1 : Hid (∀ u : World, Grow W2 u → u.cell? ⟨w.heap.size, 0, none⟩ = some (.int .i64 (N : Int)) ∧ u.cell? ⟨w.heap.size, 1, none⟩ = some (.slice (some ⟨B, off, none⟩) k cap) ∧ (∀ o, u.frozen? ⟨w.heap.size, o, none⟩ = false) ∧ w.heap.size < u.heap.size) := Lib.hid (fun u hu => ak2 hW1 u ((ag hW2).trans hu))
  have K2 : Hid (∀ u : World, Grow W2 u → u.cell? ⟨w.heap.size + 1, 0, none⟩ = some (.bool false) ∧ u.cell? ⟨w.heap.size + 1, 1, none⟩ = some (.slice none 0 0) ∧ u.cell? ⟨w.heap.size + 1, 2, none⟩ = some (.bool false) ∧ u.cell? ⟨w.heap.size + 1, 3, none⟩ = some (.slice none 0 0) ∧ (∀ o, u.frozen? ⟨w.heap.size + 1, o, none⟩ = false) ∧ w.heap.size + 1 < u.heap.size) := Lib.hid (fun u hu => by have := ak4 hW2 u hu; rw [hz1] at this; exact this)
  have RC : Hid (RowP W2 (w.heap.size + 1) 0 1 (fun _ => none)) := Lib.hid (by rw [hW2, ← hz1]; exact rowp_alloc W1 _)
  have HI := Lib.hid (hI.grow hg2)
  have HG2 := Lib.hid hg2
  have HZ2 := Lib.hid hz2
  have HW1 := Lib.hid hW1
  have HW2 := Lib.hid hW2
  clear hW1 hW2 hz1 hz2 hg2 hI
  go_enter Tryz.func51, Tryz.ntmps51
  go_upto_region 1 with fail
  rw [← HW1.out, ← HW2.out]
  go_upto_region 2 with (go_at_call 18; (with_reducible refine (OF.out _).mono ?_); (rintro e u3 ⟨v3, rfl, hv3, hb3⟩; obtain ⟨s3, a3, l3, c3, t3, b3, k3, e3, rfl⟩ := hv3.form; have HV3 := Lib.hid hv3; have HG3 := Lib.hid hb3; clear hv3 hb3))
  obtain ⟨W4, hW4⟩ : ∃ W4 : World, W4 = u3.alloc (.cells #[.bool s3, .slice a3 l3 c3, .bool t3, .slice b3 k3 e3] 36) := ⟨_, rfl⟩
  rw [← hW4]
  have HR4 := Lib.hid (rowq_lay hW4 HV3.out)
  have HG4 := Lib.hid (HG3.out.trans (ag hW4))
  have hz3 : w.heap.size + 2 ≤ u3.heap.size := by have := HG3.out.size; rw [HZ2.out] at this; exact this
  have hz4 : u3.heap.size < W4.heap.size := by rw [hW4]; simp
  clear hW4
  obtain ⟨F, hF⟩ : ∃ F, u3.heap.size = F := ⟨_, rfl⟩
  rw [hF] at HR4 hz3 hz4
  try rw [hF]
  obtain ⟨f0, f1, f2, f3⟩ := K1.out W4 HG4.out
  go_upto_region 3 with (go_at_call 41; (with_reducible refine (DQ.out _).mono ?_); (rintro e u5 ⟨g5, cap5, rfl, hi5, hb5, hw5⟩))
  have HI5 := Lib.hid hi5
  have HG5 := Lib.hid (HG4.out.trans hb5)
  have HR5 := Lib.hid (RowP.grow HR4.out hb5)
  have hne : ¬ g5 = F := by omega
  clear f0 f1 f2 f3 hi5 hb5 hw5 hz4 hF
  go_loopg [13] k (fun gk t13 wr => ∃ i : Nat, t13 = .int .i64 (i : Int) ∧ i ≤ k ∧ Hid (gk = k - i) ∧ Hid (RowQ wr F 0 1 (fun _ => (sP N c l i : Int) / ((24 : Int) : Rat))) ∧ Hid (But (fun y => y = F) u5 wr))
  case atStart => exact ⟨0, rfl, Nat.zero_le _, Lib.hid rfl, Lib.hid (RowP.mono HR5.out (Nat.le_refl _) (fun j x hj hx => by rw [← hx]; congr 1; show ((0 : Int) : Rat) = ((0 : Int) : Rat) / ((24 : Int) : Rat); decide +kernel)), Lib.hid (But.refl _ _)⟩
  case round =>
    obtain ⟨i, rfl, hi, HGK, HR, HB⟩ := hrel
    have hgr : Grow W2 wr := ((HG5.out.but _).trans HB.out).asGrow (fun y hy => by have := HZ2.out; omega)
    have HGR := Lib.hid hgr
    have hi5 := HI5.out.but (fun e => hne e) HB.out
    have HI6 := Lib.hid hi5
    have HIE := Lib.hid (HI.out.grow hgr)
    obtain ⟨s3, a3, l3, c3, t3, b3, k3, e3, ⟨p0, p1, p2, p3⟩, hvb⟩ := RowQ.at4 HR.out (show 0 < 1 by omega)
    rw [Nat.zero_mul, Nat.add_zero] at p0 p1 p2 p3
    have HVB := Lib.hid hvb
    have hlB := HR.out.lt
    have hfB := HR.out.free
    clear hgr hi5 hvb
    by_cases hik : i = k
    · have y1 : decide ((i : Int) < (k : Int)) = false := by simp; omega
      obtain ⟨q0, q1, q2, q3, qf, qz⟩ := K2.out wr HGR.out
      rw [hik, ← HSE.out] at HVB
      have HV := HVB
      clear HVB
      go_wp2_with fail
      obtain ⟨h1, h2⟩ := rescell (w := w) (RC.out.grow HGR.out) (Nat.le_succ _) (HG2.out.trans HGR.out) HV.out
      exact bodyPost_ret (v := .agg #[.bool s3, .slice a3 l3 c3, .bool t3, .slice b3 k3 e3]) (by rw [results_one rfl]; go_simp) rfl ⟨_, rfl, h1, h2⟩
    · have hik : i < k := by omega
      have y0 : (0 : Int) ≤ (i : Int) := by omega
      have y1 : decide ((i : Int) < (k : Int)) = true := by simp; omega
      have y2 : (i : Int) < (k : Int) := by omega
      have hdc := HI6.out.cell i hik
      have hec := HIE.out.cell i hik
      rw [Nat.zero_add] at hdc
      have hkr := KR.out i hik
      have hkb := KB.out i hik
      obtain ⟨hr1, hr2⟩ := HF.out i hik
      have hsb := HB12.out i hi
      have hse : sP N c l (i + 1) = sP N c l i + (kE N c ((divs N).getD i 0) : Int) * l.getD i 0 := rfl
      have PP := Lib.hid (PQ.out i hik)
      have HLE := Lib.hid HIE.out.lt
      obtain ⟨d, hd⟩ : ∃ d, (divs N).getD i 0 = d := ⟨_, rfl⟩
      obtain ⟨r, hr⟩ : ∃ r, l.getD i 0 = r := ⟨_, rfl⟩
      rw [hd] at hdc hkr hkb hse PP
      rw [hr] at hec hkr hr1 hr2 hse
      obtain ⟨K, hK⟩ : ∃ K, kE N c d = K := ⟨_, rfl⟩
      rw [hK] at hkr hkb hse PP
      obtain ⟨s, hs⟩ : ∃ s, sP N c l i = s := ⟨_, rfl⟩
      rw [hs] at hsb hse HVB
      obtain ⟨m, hm⟩ : ∃ m, (K : Int) * r = m := ⟨_, rfl⟩
      rw [hm] at hkr hse
      have hs61 : s.natAbs ≤ 732000 := by omega
      have OR := Lib.hid (fun u => ofQ r (by omega) u)
      have MU : Hid (∀ (u : World) (v1 v2 : Value), RatR u v1 (((K : Nat) : Int) / ((24 : Int) : Rat)) → RatR u v2 ((r : Int) : Rat) → Calls Tryz.prog 10 #[v1, v2] u fun x w' => ∃ v, x = .returned v ∧ RatR w' v ((m : Int) / ((24 : Int) : Rat)) ∧ Grow u w') :=
        Lib.hid (fun u v1 v2 g1 g2 => by
          obtain ⟨m1, m2⟩ := (sm24 ((K : Nat) : Int) 60 (by omega)).mulB (Sm.mono (sm_int r) (show r.natAbs ≤ 200 by omega) (Nat.le_refl _)) (by omega) (by omega)
          have h := mulQ _ _ v1 v2 m1 m2 u g1 g2
          rw [t24_mul, hm] at h
          exact h)
      have AD : Hid (∀ (u : World) (v1 v2 : Value), RatR u v1 ((s : Int) / ((24 : Int) : Rat)) → RatR u v2 ((m : Int) / ((24 : Int) : Rat)) → Calls Tryz.prog 21 #[v1, v2] u fun x w' => ∃ v, x = .returned v ∧ RatR w' v ((sP N c l (i + 1) : Int) / ((24 : Int) : Rat)) ∧ Grow u w') :=
        Lib.hid (fun u v1 v2 g1 g2 => by
          have h := addQ _ _ v1 v2 ((sm24 s 732000 hs61).addB (sm24 m 12000 hkr) (by omega) (by omega)) u g1 g2
          rw [t24_add, ← hse] at h
          exact h)
      have HST := Lib.hid (fun (u : World) (hu : Grow wr u) (s : Bool) (a : Option Addr) (l' c' : Nat) (t : Bool) (b : Option Addr) (k' e' : Nat) (hx : RatR u (.agg #[.bool s, .slice a l' c', .bool t, .slice b k' e']) ((sP N c l (i + 1) : Int) / ((24 : Int) : Rat))) => (⟨RowP.set (RowP.grow HR.out hu) (show 0 < 1 by omega) hx, But.st4 (X := fun b => b = F) (hu.but _) (.inr rfl) ((RowP.grow HR.out hu).q4 (show 0 < 1 by omega)) s a l' c' t b k' e'⟩ : _ ∧ _))
      simp only [Nat.zero_mul, Nat.add_zero] at HST
      have D0 := Lib.hid (fun (u : World) (hg : Grow wr u) => (⟨(hg.cells _ _ hlB).trans p0, (hg.cells _ _ hlB).trans p1, (hg.cells _ _ hlB).trans p2, (hg.cells _ _ hlB).trans p3, fun o => (hg.frees _ _ hlB).trans (hfB o), Nat.lt_of_lt_of_le hlB hg.size⟩ : _ ∧ _ ∧ _ ∧ _ ∧ (∀ o, u.frozen? ⟨F, o, none⟩ = false) ∧ _))
      have DE := Lib.hid (fun (u : World) (hg : Grow wr u) => (hg.cells _ _ HLE.out).trans hec)
      have KK := Lib.hid (fun (u : World) (hg : Grow wr u) => K1.out u (HGR.out.trans hg))
      have y4 := (w64n (n := (i : Int) + 1) (by omega))
      have E4 := Lib.hid y4
      have hgg := Lib.hid HI6.out.lt
      clear hkr hkb hr1 hr2 hsb hse hd hr hK hs hm hs61 p0 p1 p2 p3 hfB hec y4
      go_upto_region 5 with fail
      clear hdc
      refine region_held (id := 5) (fun u => Grow wr u) [0, 1, 2, 3, 4, 6, 7, 8, 9, 10, 5, 11, 12, 13, 14] (kdL [1, 0, 1, 0, 0, 2, 0, 1, 0, 0, 1, 2, 2, 2, 3]) (by kernel_rfl) (by kernel_rfl) (fun t ht => kdL_lt _ t ht) ?hS0q ?_
      case hS0q => ((try dsimp only); (repeat (first | with_reducible exact Grow.refl _ | with_reducible refine Grow.alloc ?_ _ | with_reducible refine Grow.drew ?_ | with_reducible refine Grow.drewN ?_ _ | (with_reducible refine Grow.setCell ?_ ?hp _; (case hp => (simp; try omega))) | with_reducible refine Grow.trans ?_ (by assumption))))
      refine held_read (v := ?vq0) rfl rfl (Or.inl ⟨by rfl, ?hyq0⟩) ?_
      case hyq0 => (intro u hu; obtain ⟨d0, d1, d2, d3, d4, d5⟩ := D0.out u hu; have he := DE.out u hu; obtain ⟨f0, f1, f2, f3⟩ := KK.out u hu; go_simp; (try with_reducible rfl))
      (try simp only [Act.put, List.setIfInBounds_toArray, List.set_cons_zero, List.set_cons_succ])
      refine held_quiet (v := ?vq1) rfl rfl (Or.inl ⟨by rfl, ?hyq1⟩) ?_
      case hyq1 => (intro u hu; go_simp; (try with_reducible rfl))
      (try simp only [Act.put, List.setIfInBounds_toArray, List.set_cons_zero, List.set_cons_succ])
      refine held_read (v := ?vq2) rfl rfl (Or.inl ⟨by rfl, ?hyq2⟩) ?_
      case hyq2 => (intro u hu; obtain ⟨d0, d1, d2, d3, d4, d5⟩ := D0.out u hu; have he := DE.out u hu; obtain ⟨f0, f1, f2, f3⟩ := KK.out u hu; go_simp; (try with_reducible rfl))
      (try simp only [Act.put, List.setIfInBounds_toArray, List.set_cons_zero, List.set_cons_succ])
      refine held_quiet (v := ?vq3) rfl rfl (Or.inl ⟨by rfl, ?hyq3⟩) ?_
      case hyq3 => (intro u hu; go_simp; (try with_reducible rfl))
      (try simp only [Act.put, List.setIfInBounds_toArray, List.set_cons_zero, List.set_cons_succ])
      refine held_quiet (v := ?vq4) rfl rfl (Or.inl ⟨by rfl, ?hyq4⟩) ?_
      case hyq4 => (intro u hu; go_simp; (try with_reducible rfl))
      (try simp only [Act.put, List.setIfInBounds_toArray, List.set_cons_zero, List.set_cons_succ])
      refine held_quiet (v := ?vq6) rfl rfl (Or.inl ⟨by rfl, ?hyq6⟩) ?_
      case hyq6 => (intro u hu; go_simp; (try with_reducible rfl))
      (try simp only [Act.put, List.setIfInBounds_toArray, List.set_cons_zero, List.set_cons_succ])
      refine held_read (v := ?vq7) rfl rfl (Or.inl ⟨by rfl, ?hyq7⟩) ?_
      case hyq7 => (intro u hu; obtain ⟨d0, d1, d2, d3, d4, d5⟩ := D0.out u hu; have he := DE.out u hu; obtain ⟨f0, f1, f2, f3⟩ := KK.out u hu; go_simp; (try with_reducible rfl))
      (try simp only [Act.put, List.setIfInBounds_toArray, List.set_cons_zero, List.set_cons_succ])
      refine held_quiet (v := ?vq8) rfl rfl (Or.inl ⟨by rfl, ?hyq8⟩) ?_
      case hyq8 => (intro u hu; go_simp; (try with_reducible rfl))
      (try simp only [Act.put, List.setIfInBounds_toArray, List.set_cons_zero, List.set_cons_succ])
      refine held_quiet (v := ?vq9) rfl rfl (Or.inl ⟨by rfl, ?hyq9⟩) ?_
      case hyq9 => (intro u hu; go_simp; (try with_reducible rfl))
      (try simp only [Act.put, List.setIfInBounds_toArray, List.set_cons_zero, List.set_cons_succ])
      refine held_read (v := ?vq10) rfl rfl (Or.inl ⟨by rfl, ?hyq10⟩) ?_
      case hyq10 => (intro u hu; obtain ⟨d0, d1, d2, d3, d4, d5⟩ := D0.out u hu; have he := DE.out u hu; obtain ⟨f0, f1, f2, f3⟩ := KK.out u hu; go_simp; (try with_reducible rfl))
      (try simp only [Act.put, List.setIfInBounds_toArray, List.set_cons_zero, List.set_cons_succ])
      refine held_op rfl rfl (fun K hK => ?_)
      go_simp
      (go_at_call 87; (with_reducible refine (PP.out _).mono ?_); (rintro x u25 ⟨v45, rfl, hv45, hb45⟩; obtain ⟨s45, a45, l45, c45, t45, b45, k45, e45, rfl⟩ := hv45.form; have HV45 := Lib.hid hv45; clear hv45))
      (try go_wp2_with fail)
      refine hK.out _ _ ?hSq5 ?_
      case hSq5 => ((try dsimp only); (repeat (first | with_reducible exact Grow.refl _ | with_reducible refine Grow.alloc ?_ _ | with_reducible refine Grow.drew ?_ | with_reducible refine Grow.drewN ?_ _ | (with_reducible refine Grow.setCell ?_ ?hp _; (case hp => (simp; try omega))) | with_reducible refine Grow.trans ?_ (by assumption))))
      clear hK K
      (try simp only [Act.put, List.setIfInBounds_toArray, List.set_cons_zero, List.set_cons_succ])
      refine held_op rfl rfl (fun K hK => ?_)
      go_simp
      (go_at_call 18; (with_reducible refine (OR.out _).mono ?_); (rintro x u11 ⟨v51, rfl, hv51, hb51⟩; obtain ⟨s51, a51, l51, c51, t51, b51, k51, e51, rfl⟩ := hv51.form; have HV51 := Lib.hid hv51; clear hv51))
      (try go_wp2_with fail)
      refine hK.out _ _ ?hSq11 ?_
      case hSq11 => ((try dsimp only); (repeat (first | with_reducible exact Grow.refl _ | with_reducible refine Grow.alloc ?_ _ | with_reducible refine Grow.drew ?_ | with_reducible refine Grow.drewN ?_ _ | (with_reducible refine Grow.setCell ?_ ?hp _; (case hp => (simp; try omega))) | with_reducible refine Grow.trans ?_ (by assumption))))
      clear hK K
      (try simp only [Act.put, List.setIfInBounds_toArray, List.set_cons_zero, List.set_cons_succ])
      refine held_op rfl rfl (fun K hK => ?_)
      go_simp
      (go_at_call 10; (with_reducible refine (MU.out _ _ _ (HV45.out.grow (by (repeat (first | with_reducible exact Grow.refl _ | with_reducible refine Grow.alloc ?_ _ | with_reducible refine Grow.drew ?_ | with_reducible refine Grow.drewN ?_ _ | (with_reducible refine Grow.setCell ?_ ?hp _; (case hp => (simp; try omega))) | with_reducible refine Grow.trans ?_ (by assumption))))) (HV51.out.grow (by (repeat (first | with_reducible exact Grow.refl _ | with_reducible refine Grow.alloc ?_ _ | with_reducible refine Grow.drew ?_ | with_reducible refine Grow.drewN ?_ _ | (with_reducible refine Grow.setCell ?_ ?hp _; (case hp => (simp; try omega))) | with_reducible refine Grow.trans ?_ (by assumption)))))).mono ?_); (rintro x u12 ⟨v52, rfl, hv52, hb52⟩; obtain ⟨s52, a52, l52, c52, t52, b52, k52, e52, rfl⟩ := hv52.form; have HV52 := Lib.hid hv52; clear hv52))
      (try go_wp2_with fail)
      refine hK.out _ _ ?hSq12 ?_
      case hSq12 => ((try dsimp only); (repeat (first | with_reducible exact Grow.refl _ | with_reducible refine Grow.alloc ?_ _ | with_reducible refine Grow.drew ?_ | with_reducible refine Grow.drewN ?_ _ | (with_reducible refine Grow.setCell ?_ ?hp _; (case hp => (simp; try omega))) | with_reducible refine Grow.trans ?_ (by assumption))))
      clear hK K
      (try simp only [Act.put, List.setIfInBounds_toArray, List.set_cons_zero, List.set_cons_succ])
      refine held_op rfl rfl (fun K hK => ?_)
      go_simp
      (go_at_call 21; (with_reducible refine (AD.out _ _ _ (HVB.out.grow (by (repeat (first | with_reducible exact Grow.refl _ | with_reducible refine Grow.alloc ?_ _ | with_reducible refine Grow.drew ?_ | with_reducible refine Grow.drewN ?_ _ | (with_reducible refine Grow.setCell ?_ ?hp _; (case hp => (simp; try omega))) | with_reducible refine Grow.trans ?_ (by assumption))))) (HV52.out.grow (by (repeat (first | with_reducible exact Grow.refl _ | with_reducible refine Grow.alloc ?_ _ | with_reducible refine Grow.drew ?_ | with_reducible refine Grow.drewN ?_ _ | (with_reducible refine Grow.setCell ?_ ?hp _; (case hp => (simp; try omega))) | with_reducible refine Grow.trans ?_ (by assumption)))))).mono ?_); (rintro x u13 ⟨v53, rfl, hv53, hb53⟩; obtain ⟨s53, a53, l53, c53, t53, b53, k53, e53, rfl⟩ := hv53.form; have HV53 := Lib.hid hv53; clear hv53); obtain ⟨d0, d1, d2, d3, d4, d5⟩ := D0.out u13 (by (repeat (first | with_reducible exact Grow.refl _ | with_reducible refine Grow.alloc ?_ _ | with_reducible refine Grow.drew ?_ | with_reducible refine Grow.drewN ?_ _ | (with_reducible refine Grow.setCell ?_ ?hp _; (case hp => (simp; try omega))) | with_reducible refine Grow.trans ?_ (by assumption)))))
      (try go_wp2_with fail)
      refine hK.out _ _ ?hSq13 ?_
      case hSq13 => ((try dsimp only); (repeat (first | with_reducible exact Grow.refl _ | with_reducible refine Grow.alloc ?_ _ | with_reducible refine Grow.drew ?_ | with_reducible refine Grow.drewN ?_ _ | (with_reducible refine Grow.setCell ?_ ?hp _; (case hp => (simp; try omega))) | with_reducible refine Grow.trans ?_ (by assumption))))
      clear hK K
      (try simp only [Act.put, List.setIfInBounds_toArray, List.set_cons_zero, List.set_cons_succ])
      refine held_last rfl rfl (fun K hK => ?_)
      go_simp
      refine hK.out _ _ ?_
      clear hK K
      (try simp only [Act.put, List.setIfInBounds_toArray, List.set_cons_zero, List.set_cons_succ])
      refine held_done ?_
      obtain ⟨hst1, hst2⟩ := HST.out u13 (by (repeat (first | with_reducible exact Grow.refl _ | with_reducible refine Grow.alloc ?_ _ | with_reducible refine Grow.drew ?_ | with_reducible refine Grow.drewN ?_ _ | (with_reducible refine Grow.setCell ?_ ?hp _; (case hp => (simp; try omega))) | with_reducible refine Grow.trans ?_ (by assumption)))) _ _ _ _ _ _ _ _ HV53.out
      obtain ⟨e4, e4'⟩ := E4.out
      go_simp
      go_wp2_with fail
      clear e4 e4'
      go_roundg (k - (i + 1))
      case measure => have := HGK.out; omega
      case rel => exact ⟨i + 1, rfl, hik, Lib.hid rfl, Lib.hid (RowP.mono hst1 (Nat.le_refl _) (fun j x hj hx => by rw [if_pos (by omega)]; exact hx)), Lib.hid (HB.out.trans hst2)⟩
end Go.Proofs.YtbpkfcohbefphaaGreat
namespace Go.Proofs.YtbpkfcohbefphaaGreat
open Go Go.RowKit
theorem echeckOK (N : Nat) (l : List Int) (v : Value) (hN0 : 1 ≤ N) (hN : N ≤ 60) (hl : l.length = (divs N).length) (hf : FitE l) (w : World) (hv : RdInts w v l) :
    Calls Tryz.prog 13 #[.agg #[.int .i64 (N : Int), v]] w fun e w' => e = .returned (.int .i64 0) ∧ Grow w w' :=
  (echeckQ (N : Int) l v w hv).mono fun _ _ ⟨⟨x, he, hx⟩, hg⟩ => by
    have : x = 0 := hx.2 ⟨⟨by omega, by omega⟩, by rw [hl]; rfl, hf⟩
    rw [this] at he
    exact ⟨he, hg⟩
set_option maxRecDepth 20000 in
set_option maxHeartbeats 8000000 in
theorem eOrderQ (N c : Nat) (l : List Int) (v : Value) (hN0 : 1 ≤ N) (hN : N ≤ 60) (hc : c ∈ divs N) (hl : l.length = (divs N).length) (hf : FitE l) (w : World) (hv : RdInts w v l) :
    Calls Tryz.prog 19 #[.agg #[.int .i64 (N : Int), v], .int .i64 (c : Int)] w fun e w' => ∃ v, e = .returned (.tuple #[v, .int .i64 0]) ∧ RatR w' v ((sE N c l : Int) / ((24 : Int) : Rat)) ∧ Grow w w' := by
  obtain ⟨hc1, hc2, hc3⟩ := divs_mem hc
  have CQ := Lib.hid (fun u hu => echeckOK N l v hN0 hN hl hf u hu)
  have OQ := Lib.hid (fun u hu => orderQ N c l v hN0 hN hc hl hf u hu)
  obtain ⟨a, cap, rfl⟩ := hv.form
  obtain ⟨k, hk⟩ : ∃ k, l.length = k := ⟨_, rfl⟩
  rw [hk] at CQ OQ hv
  rw [hk]
  obtain ⟨W1, hW1⟩ : ∃ W1 : World, W1 = w.alloc (.cells #[.int .i64 (N : Int), .slice a k cap] 45) := ⟨_, rfl⟩
  obtain ⟨W2, hW2⟩ : ∃ W2 : World, W2 = W1.alloc (.cells #[.bool false, .slice none 0 0, .bool false, .slice none 0 0] 36) := ⟨_, rfl⟩
  have hz1 : W1.heap.size = w.heap.size + 1 := by rw [hW1]; simp
  have hg2 : Grow w W2 := (ag hW1).trans (ag hW2)
  have K1 : Hid (∀ u : World, Grow W2 u → u.cell? ⟨w.heap.size, 0, none⟩ = some (.int .i64 (N : Int)) ∧ u.cell? ⟨w.heap.size, 1, none⟩ = some (.slice a k cap) ∧ (∀ o, u.frozen? ⟨w.heap.size, o, none⟩ = false) ∧ w.heap.size < u.heap.size) := Lib.hid (fun u hu => ak2 hW1 u ((ag hW2).trans hu))
  have K2 : Hid (∀ u : World, Grow W2 u → u.cell? ⟨w.heap.size + 1, 0, none⟩ = some (.bool false) ∧ u.cell? ⟨w.heap.size + 1, 1, none⟩ = some (.slice none 0 0) ∧ u.cell? ⟨w.heap.size + 1, 2, none⟩ = some (.bool false) ∧ u.cell? ⟨w.heap.size + 1, 3, none⟩ = some (.slice none 0 0) ∧ (∀ o, u.frozen? ⟨w.heap.size + 1, o, none⟩ = false) ∧ w.heap.size + 1 < u.heap.size) := Lib.hid (fun u hu => by have := ak4 hW2 u hu; rw [hz1] at this; exact this)
  have RC : Hid (RowP W2 (w.heap.size + 1) 0 1 (fun _ => none)) := Lib.hid (by rw [hW2, ← hz1]; exact rowp_alloc W1 _)
  have HV := Lib.hid (fun u (hu : Grow W2 u) => hv.grow (hg2.trans hu))
  have HG2 := Lib.hid hg2
  have HW1 := Lib.hid hW1
  have HW2 := Lib.hid hW2
  have y1 : decide ((c : Int) < 1) = false := by simp; omega
  have y2 : (Int.tmod (N : Int) (c : Int)) = 0 := by rw [Int.tmod_eq_emod_of_nonneg (by omega)]; show ((N % c : Nat) : Int) = 0; rw [hc3]; rfl
  have E2 := Lib.hid y2
  have hc0 : ¬ (c : Int) = 0 := by omega
  have hcn : ¬ c = 0 := by omega
  clear hW1 hW2 hz1 hg2 hv hk hl hf hc hc1 hc2 hc3 y2
  obtain ⟨f0, f1, f2, f3⟩ := K1.out W2 (Grow.refl _)
  go_enter Tryz.func19, Tryz.ntmps19
  go_upto_region 1 with fail
  rw [← HW1.out, ← HW2.out]
  go_upto_region 4 with (go_at_call 13; (with_reducible refine (CQ.out _ (HV.out _ (Grow.refl _))).mono ?_); (rintro e u3 ⟨rfl, hb3⟩))
  have HG3 := Lib.hid hb3
  clear f0 f1 f2 f3 hb3
  obtain ⟨f0, f1, f2, f3⟩ := K1.out u3 HG3.out
  have e2 := E2.out
  go_upto_region 6 with fail
  clear e2
  go_wp2_with (go_at_call 51; (with_reducible refine (OQ.out _ (HV.out _ HG3.out)).mono ?_); (rintro e u5 ⟨v5, rfl, hv5, hb5⟩; obtain ⟨s5, a5, l5, c5, t5, b5, k5, e5, rfl⟩ := hv5.form; have HV5 := Lib.hid hv5; have HG5 := Lib.hid (HG3.out.trans hb5); clear hv5 hb5; obtain ⟨q0, q1, q2, q3, qf, qz⟩ := K2.out u5 HG5.out))
  obtain ⟨h1, h2⟩ := rescell (w := w) (RC.out.grow HG5.out) (Nat.le_succ _) (HG2.out.trans HG5.out) HV5.out
  exact bodyPost_ret (v := .tuple #[.agg #[.bool s5, .slice a5 l5 c5, .bool t5, .slice b5 k5 e5], .int .i64 0]) (by rw [results_cell_tmp rfl]; go_simp) rfl ⟨_, rfl, h1, h2⟩
/-- The width of eta's cusp. -/
def wdE (N c : Nat) : Nat := N / Nat.gcd (c * c) N
set_option maxRecDepth 20000 in
set_option maxHeartbeats 8000000 in
theorem ewidthQ (N c : Nat) (hN0 : 1 ≤ N) (hN : N ≤ 60) (hc : c ≤ 60) (w : World) :
    Calls Tryz.prog 52 #[.int .i64 (N : Int), .int .i64 (c : Int)] w fun e w' => e = .returned (.int .i64 ((wdE N c : Nat) : Int)) ∧ Grow w w' := by
  obtain ⟨cc, hcc⟩ : ∃ cc, c * c = cc := ⟨_, rfl⟩
  have hccb : cc ≤ 3600 := by rw [← hcc]; exact Nat.mul_le_mul hc hc
  have GQ : Hid (∀ u, Calls Tryz.prog 46 #[.int .i64 (cc : Int), .int .i64 (N : Int)] u fun e w' => e = .returned (.int .i64 ((Nat.gcd cc N : Nat) : Int)) ∧ Grow u w') := Lib.hid (fun u => gcW_any cc N (by omega) (by omega) (by omega) (by omega) u)
  have hg0 : 0 < Nat.gcd cc N := Nat.gcd_pos_of_pos_right _ (by omega)
  have hwe : wdE N c = N / Nat.gcd cc N := by unfold wdE; rw [hcc]
  obtain ⟨g, hg⟩ : ∃ g, Nat.gcd cc N = g := ⟨_, rfl⟩
  rw [hg] at GQ hg0 hwe
  have hqb : N / g ≤ 60 := Nat.le_trans (Nat.div_le_self _ _) hN
  have E9 : Hid (Int.tdiv (N : Int) (g : Int) = ((N / g : Nat) : Int)) := Lib.hid (by rw [Int.tdiv_eq_ediv_of_nonneg (by omega)]; rfl)
  obtain ⟨q, hq⟩ : ∃ q, N / g = q := ⟨_, rfl⟩
  rw [hq] at E9 hqb hwe
  rw [hwe]
  have E1 := Lib.hid (w64m cc (by omega) (z := (c : Int) * (c : Int)) (by rw [← hcc]; simp))
  have E6 := Lib.hid (w64m q (by omega) (z := (q : Int)) rfl)
  have hc0 : ¬ (g : Int) = 0 := by omega
  have hcn : ¬ g = 0 := by omega
  clear hcc hccb hg0 hwe hg hqb hq
  obtain ⟨e1, e1'⟩ := E1.out
  obtain ⟨e6, e6'⟩ := E6.out
  have e9 := E9.out
  go_enter Tryz.func52, Tryz.ntmps52
  go_wp2_with (go_at_call 46; (with_reducible refine (GQ.out _).mono ?_); (rintro e u2 ⟨rfl, hb2⟩))
  go_ret
  exact ⟨rfl, hb2⟩
end Go.Proofs.YtbpkfcohbefphaaGreat
namespace Go.Proofs.YtbpkfcohbefphaaGreat
open Go Go.RowKit
set_option maxRecDepth 20000 in
set_option maxHeartbeats 8000000 in
theorem levelQ (N : Nat) (h1 : 1 ≤ N) (h2 : N ≤ 60) (w : World) :
    Calls Tryz.prog 44 #[.int .i64 (N : Int)] w fun e w' => e = .returned (.int .i64 0) ∧ w = w' := by
  have y1 : decide ((N : Int) < 1) = false := by simp; omega
  have y2 : decide ((N : Int) > 120) = false := by simp; omega
  go_enter Tryz.func44, Tryz.ntmps44
  go_wp2_with fail
  go_ret
  exact ⟨rfl, rfl⟩
set_option maxRecDepth 20000 in
set_option maxHeartbeats 8000000 in
theorem inQ (p : Nat) (h2 : p ≤ 60) (w : World) :
    Calls Tryz.prog 107 #[.int .i64 (p : Int)] w fun e w' => e = .returned (.bool true) ∧ w = w' := by
  have y1 : decide ((p : Int) ≥ -1073741824) = true := by rw [decide_eq_true_eq]; omega
  have y2 : decide ((p : Int) ≤ 1073741824) = true := by rw [decide_eq_true_eq]; omega
  go_enter Tryz.func107, Tryz.ntmps107
  go_wp2_with fail
  go_ret
  exact ⟨rfl, rfl⟩
set_option maxRecDepth 20000 in
set_option maxHeartbeats 8000000 in
theorem checkCuspQ (p q : Nat) (hp : 1 ≤ p) (hpq : p ≤ q) (hq : q ≤ 60) (hg : Nat.gcd p q = 1) (w : World) :
    Calls Tryz.prog 90 #[.agg #[.int .i64 (p : Int), .int .i64 (q : Int)]] w fun e w' => e = .returned (.int .i64 0) ∧ Grow w w' := by
  have IP := Lib.hid (fun u => inQ p (by omega) u)
  have IQ := Lib.hid (fun u => inQ q hq u)
  have GQ : Hid (∀ u, Calls Tryz.prog 46 #[.int .i64 (p : Int), .int .i64 (q : Int)] u fun e w' => e = .returned (.int .i64 1) ∧ Grow u w') := Lib.hid (fun u => by
    have h := gcW_any p q (by omega) (by omega) (by omega) (by omega) u
    rw [show ((Int.gcd (p : Int) (q : Int) : Nat) : Int) = 1 by show ((Nat.gcd p q : Nat) : Int) = 1; rw [hg]; rfl] at h
    exact h)
  have y1 : decide ((q : Int) < 0) = false := by simp
  have y2 : ((q : Int) == 0) = false := by simp; omega
  obtain ⟨W1, hW1⟩ : ∃ W1 : World, W1 = w.alloc (.cells #[.int .i64 (p : Int), .int .i64 (q : Int)] 55) := ⟨_, rfl⟩
  have K1 := Lib.hid (ak2 hW1)
  have hg1 := ag hW1
  have HW1 := Lib.hid hW1
  clear hW1 hg
  obtain ⟨b0, b1, b2, b3⟩ := K1.out W1 (Grow.refl _)
  go_enter Tryz.func90, Tryz.ntmps90
  go_upto_region 1 with fail
  rw [← HW1.out]
  go_wp2_with (first
    | (go_at_call 107; (first | (with_reducible refine (IP.out _).mono ?_) | (with_reducible refine (IQ.out _).mono ?_)); (rintro e u4 ⟨rfl, rfl⟩))
    | (go_at_call 46; (with_reducible refine (GQ.out _).mono ?_); (rintro e u5 ⟨rfl, hb5⟩; obtain ⟨b0, b1, b2, b3⟩ := K1.out u5 hb5)))
  go_ret
  exact ⟨rfl, by (repeat (first | with_reducible exact Grow.refl _ | with_reducible refine Grow.alloc ?_ _ | with_reducible refine Grow.drew ?_ | with_reducible refine Grow.drewN ?_ _ | (with_reducible refine Grow.setCell ?_ ?hp _; (case hp => (simp; try omega))) | with_reducible refine Grow.trans ?_ (by assumption)))⟩
set_option maxRecDepth 20000 in
set_option maxHeartbeats 8000000 in
theorem cuCheckQ (N p q B cap : Nat) (h1 : 1 ≤ N) (h2 : N ≤ 60) (hp : 1 ≤ p) (hpq : p ≤ q) (hq : q ≤ 60) (hg : Nat.gcd p q = 1) (w : World) (hB : B < w.heap.size) (hc0 : w.cell? ⟨B, 0, none⟩ = some (.int .i64 (p : Int))) (hc1 : w.cell? ⟨B, 1, none⟩ = some (.int .i64 (q : Int))) :
    Calls Tryz.prog 55 #[.int .i64 (N : Int), .slice (some ⟨B, 0, none⟩) 1 cap] w fun e w' => e = .returned (.int .i64 0) ∧ Grow w w' := by
  have LQ := Lib.hid (fun u => levelQ N h1 h2 u)
  have CQ := Lib.hid (fun u => checkCuspQ p q hp hpq hq hg u)
  have y1 : decide ((p : Int) < -1000) = false := by rw [decide_eq_false_iff_not]; omega
  have y2 : decide ((p : Int) > 1000) = false := by simp; omega
  have y3 : decide ((q : Int) > 1000) = false := by simp; omega
  clear hg
  go_enter Tryz.func55, Tryz.ntmps55
  go_wp2_with (go_at_call 44; (with_reducible refine (LQ.out _).mono ?_); (rintro e u2 ⟨rfl, rfl⟩))
  go_loopg [16] 1 (fun gk t16 wr => ∃ i : Nat, t16 = .int .i64 (i : Int) ∧ i ≤ 1 ∧ Hid (gk = 1 - i) ∧ Hid (Grow w wr))
  case atStart => exact ⟨0, rfl, by omega, Lib.hid rfl, Lib.hid (Grow.refl _)⟩
  case round =>
    obtain ⟨i, rfl, hi, HGK, HG⟩ := hrel
    rcases (by omega : i = 0 ∨ i = 1) with rfl | rfl
    · have hd0 := (HG.out.cells _ 0 hB).trans hc0
      have hd1 := (HG.out.cells _ 1 hB).trans hc1
      obtain ⟨W3, hW3⟩ : ∃ W3 : World, W3 = wr.alloc (.cells #[.int .i64 (p : Int), .int .i64 (q : Int)] 55) := ⟨_, rfl⟩
      have K3 := Lib.hid (ak2 hW3)
      have HG3 := Lib.hid (HG.out.trans (ag hW3))
      have HW3 := Lib.hid hW3
      clear hW3
      obtain ⟨b0, b1, b2, b3⟩ := K3.out W3 (Grow.refl _)
      go_upto_region 7 with fail
      rw [← HW3.out]
      go_wp2_with (go_at_call 90; (with_reducible refine (CQ.out _).mono ?_); (rintro e u4 ⟨rfl, hb4⟩; obtain ⟨b0, b1, b2, b3⟩ := K3.out u4 hb4))
      go_roundg 0
      case measure => have := HGK.out; omega
      case rel => exact ⟨1, rfl, by omega, Lib.hid rfl, Lib.hid (HG3.out.trans hb4)⟩
    · go_wp2_with fail
      go_ret
      exact ⟨rfl, HG.out⟩
set_option maxRecDepth 20000 in
set_option maxHeartbeats 8000000 in
theorem width0Q (N p q : Nat) (h1 : 1 ≤ N) (h2 : N ≤ 60) (hp : 1 ≤ p) (hpq : p ≤ q) (hq : q ≤ 60) (hg : Nat.gcd p q = 1) (w : World) :
    Calls Tryz.prog 20 #[.int .i64 (N : Int), .agg #[.int .i64 (p : Int), .int .i64 (q : Int)]] w fun e w' => e = .returned (.tuple #[.int .i64 ((wdE N q : Nat) : Int), .int .i64 0]) ∧ Grow w w' := by
  obtain ⟨cc, hcc⟩ : ∃ cc, q * q = cc := ⟨_, rfl⟩
  have hccb : cc ≤ 3600 := by rw [← hcc]; exact Nat.mul_le_mul hq hq
  have GQ : Hid (∀ u, Calls Tryz.prog 46 #[.int .i64 (N : Int), .int .i64 (cc : Int)] u fun e w' => e = .returned (.int .i64 ((Nat.gcd cc N : Nat) : Int)) ∧ Grow u w') := Lib.hid (fun u => by
    rw [Nat.gcd_comm]
    exact gcW_any N cc (by omega) (by omega) (by omega) (by omega) u)
  have hg0 : 0 < Nat.gcd cc N := Nat.gcd_pos_of_pos_right _ (by omega)
  have hwe : wdE N q = N / Nat.gcd cc N := by unfold wdE; rw [hcc]
  obtain ⟨g, hgg⟩ : ∃ g, Nat.gcd cc N = g := ⟨_, rfl⟩
  rw [hgg] at GQ hg0 hwe
  have hqb : N / g ≤ 60 := Nat.le_trans (Nat.div_le_self _ _) h2
  have E9 : Hid (Int.tdiv (N : Int) (g : Int) = ((N / g : Nat) : Int)) := Lib.hid (by rw [Int.tdiv_eq_ediv_of_nonneg (by omega)]; rfl)
  obtain ⟨r, hr⟩ : ∃ r, N / g = r := ⟨_, rfl⟩
  rw [hr] at E9 hqb hwe
  rw [hwe]
  have E1 := Lib.hid (w64m cc (by omega) (z := (q : Int) * (q : Int)) (by rw [← hcc]; simp))
  have E6 := Lib.hid (w64m r (by omega) (z := (r : Int)) rfl)
  have hc0 : ¬ (g : Int) = 0 := by omega
  have hcn : ¬ g = 0 := by omega
  have CK := Lib.hid (fun (B cap : Nat) (u : World) a b c => cuCheckQ N p q B cap h1 h2 hp hpq hq hg u a b c)
  clear hcc hccb hg0 hwe hgg hqb hr hg
  obtain ⟨W1, hW1⟩ : ∃ W1 : World, W1 = w.alloc (.cells #[.int .i64 (p : Int), .int .i64 (q : Int)] 55) := ⟨_, rfl⟩
  obtain ⟨W2, hW2⟩ : ∃ W2 : World, W2 = W1.alloc (.cells #[.int .i64 (p : Int), .int .i64 (q : Int)] 55) := ⟨_, rfl⟩
  have K1 := Lib.hid (ak2 hW1)
  have K2 := Lib.hid (ak2 hW2)
  have HW1 := Lib.hid hW1
  have HW2 := Lib.hid hW2
  have hz1 : W1.heap.size = w.heap.size + 1 := by rw [hW1]; simp
  have HG2 := Lib.hid (ag hW2)
  have hg1 := ag hW1
  clear hW1 hW2
  obtain ⟨b0, b1, b2, b3⟩ := K1.out W1 (Grow.refl _)
  obtain ⟨q0, q1, q2, q3⟩ := K2.out W2 (Grow.refl _)
  rw [hz1] at q0 q1 q2 q3
  have CK2 := Lib.hid (fun cap => CK.out _ cap W2 q3 q0 q1)
  go_enter Tryz.func20, Tryz.ntmps20
  go_upto_region 1 with fail
  rw [← HW1.out]
  go_upto_region 4 with (go_at_call 55; rw [← HW2.out]; (with_reducible refine (CK2.out _).mono ?_); (rintro e u4 ⟨rfl, hb4⟩; have HG4 := Lib.hid (HG2.out.trans hb4); clear hb4))
  clear b0 b1 b2 b3 q0 q1 q2 q3
  obtain ⟨b0, b1, b2, b3⟩ := K1.out u4 HG4.out
  obtain ⟨e1, e1'⟩ := E1.out
  obtain ⟨e6, e6'⟩ := E6.out
  have e9 := E9.out
  go_wp2_with (go_at_call 46; (with_reducible refine (GQ.out _).mono ?_); (rintro e u5 ⟨rfl, hb5⟩))
  exact bodyPost_ret (v := .tuple #[.int .i64 (r : Int), .int .i64 0]) (by rw [results_pair rfl]; first | rfl | go_simp) rfl ⟨rfl, hg1.trans (HG4.out.trans hb5)⟩
end Go.Proofs.YtbpkfcohbefphaaGreat
namespace Go.Proofs.YtbpkfcohbefphaaGreat
open Go Go.RowKit
/-- Block b is a map of at most n marks; S says where a mark is. -/
def SeenM (w : World) (b n : Nat) (S : Int → Bool) : Prop :=
  ∃ D : DataW Unit, w.ownsMap Tryz.prog 3 (plainElem Tryz.prog 4) b n D ∧ ∀ x : Int, (Lit.int .i64 x).wf = true → D.atKey (.int .i64 x) (.lit (.bool false)) = .lit (.bool (S x))
theorem keyedInt : Maps.Keyed Tryz.prog 3 := Maps.int_keyed Tryz.underlying3
theorem SeenM.made (w : World) : SeenM (w.alloc (.map #[] 0)) w.heap.size 0 (fun _ => false) :=
  ⟨_, World.ownsMap_made w _ _ _, fun _ _ => rfl⟩
theorem SeenM.kept {w w' : World} {b n : Nat} {S : Int → Bool} {row : Option Nat} (h : SeenM w b n S) (hg : w.grownBy w' row) (hne : some b ≠ row) : SeenM w' b n S := by
  obtain ⟨D, h1, h2⟩ := h
  exact ⟨D, h1.kept hg hne, h2⟩
theorem SeenM.lt {w : World} {b n : Nat} {S : Int → Bool} (h : SeenM w b n S) : b < w.heap.size := by
  obtain ⟨D, h1, h2⟩ := h
  exact h1.lt
theorem SeenM.grow {w w' : World} {b n : Nat} {S : Int → Bool} (h : SeenM w b n S) (hg : Grow w w') : SeenM w' b n S := by
  obtain ⟨D, ⟨es, clock, hb, r⟩, h2⟩ := h
  exact ⟨D, ⟨es, clock, (Below.block hg b (Array.getElem?_eq_some_iff.1 hb).1).trans hb, r⟩, h2⟩
theorem plainElem_bool_inv {H : Type} {P : Program} {e : TypeId} (he : P.underlying e = some .bool) {v : Value} {z : DataW H × List MemPlace} (h : plainElem P e v = some z) : ∃ x, v = .bool x ∧ z = (.lit (.bool x), []) := by
  unfold plainElem at h
  rw [he] at h
  cases v with
  | bool x => simp at h; exact ⟨x, rfl, h.symm⟩
  | _ => simp at h
set_option maxRecDepth 20000 in
theorem SeenM.look {w : World} {b n : Nat} {S : Int → Bool} (h : SeenM w b n S) {x : Int} (hx : (Lit.int .i64 x).wf = true) : (Instr.lookup 81 (.map (some b)) (.int .i64 x) false).run Tryz.prog w = .ok (.bool (S x)) w := by
  obtain ⟨D, h1, h2⟩ := h
  obtain ⟨v, ps, hrun, hv⟩ := h1.lookup keyedInt Tryz.underlying81 (z := .bool false) (by kernel_rfl) (plainElem_bool Tryz.underlying4 false) (key := .int .i64 x) (Maps.keyOf_int_mk Tryz.underlying3 hx)
  rw [h2 x hx] at hv
  rw [hrun]
  obtain ⟨x', rfl, e⟩ := plainElem_bool_inv Tryz.underlying4 hv
  injection e with e _
  injection e with e
  injection e with e
  rw [e]
set_option maxRecDepth 20000 in
theorem SeenM.put {w : World} {b n : Nat} {S : Int → Bool} (h : SeenM w b n S) (hn : n < 1000) {x : Int} (hx : (Lit.int .i64 x).wf = true) :
    ∃ w', (Instr.mapUpdate 81 (.map (some b)) (.int .i64 x) (.bool true)).run Tryz.prog w = .ok () w' ∧ SeenM w' b (n + 1) (fun y => y == x || S y) ∧ w.grownBy w' (some b) := by
  obtain ⟨D, h1, h2⟩ := h
  have hm := h1.isMap
  obtain ⟨w', hrun, r1, r2⟩ := h1.update keyedInt Tryz.underlying81 (by unfold maxLen; omega) (key := .int .i64 x) (Maps.keyOf_int_mk Tryz.underlying3 hx) (plainElem_bool Tryz.underlying4 true)
  refine ⟨w', hrun, ⟨_, r1, fun y hy => ?_⟩, r2⟩
  by_cases hyx : y = x
  · subst hyx
    rw [Maps.atKey_put_same hm (by exact True.intro)]
    simp
  · rw [Maps.atKey_put_other (by intro e; injection e with _ e; exact hyx e), h2 y hy]
    simp [hyx]
/-- Pairs as cells. -/
def cellsP : List (Nat × Nat) → List Value
  | [] => []
  | c :: l => .int .i64 (c.1 : Int) :: .int .i64 (c.2 : Int) :: cellsP l
theorem cellsP_append (x y : List (Nat × Nat)) : cellsP (x ++ y) = cellsP x ++ cellsP y := by
  induction x with
  | nil => rfl
  | cons c x ih => simp [cellsP, ih]
theorem cellsP_at : ∀ (l : List (Nat × Nat)) (j : Nat), j < l.length → (cellsP l)[j * 2]? = some (.int .i64 ((l.getD j (0, 0)).1 : Int)) ∧ (cellsP l)[j * 2 + 1]? = some (.int .i64 ((l.getD j (0, 0)).2 : Int))
  | [], j, h => by simp at h
  | c :: l, 0, _ => by simp [cellsP]
  | c :: l, j + 1, h => by
    have := cellsP_at l j (by simpa using h)
    rw [show (j + 1) * 2 = j * 2 + 1 + 1 by omega]
    simpa [cellsP] using this
/-- A list of cusps in memory of the call's own. -/
def OwnCu (w : World) (base : Nat) (v : Value) (l : List (Nat × Nat)) : Prop := w.ownsRow base 55 2 v l.length (cellsP l)
theorem own_ne_map {w : World} {base : Nat} {v : Value} {l : List (Nat × Nat)} {b n : Nat} {S : Int → Bool} (h : OwnCu w base v l) (hm : SeenM w b n S) : v.ownBlock = none ∨ v.ownBlock ≠ some b := by
  rcases h.2 with ⟨rfl, _⟩ | ⟨g, cap, cur, rfl, hb, hh, _⟩
  · exact .inl rfl
  · refine .inr (fun e => ?_)
    obtain ⟨D, ⟨es, clock, hb', _⟩, _⟩ := hm
    injection e with e
    subst e
    rw [hh] at hb'
    cases hb'
theorem infoCusp : (Tryz.prog.info? 55).map (fun i => (i.zero, i.size, i.bytes)) = some (some (.agg #[.int .i64 0, .int .i64 0]), 2, 16) := by kernel_rfl
theorem two_cellsP (w : World) (x y : Value) (t : TypeId) (n : Nat) (hn : n = w.heap.size) : ∀ j u, [x, y][j]? = some u → (w.alloc (.cells #[x, y] t)).cell? ((⟨n, 0, none⟩ : Addr).add j) = some u := by
  intro j u hj
  rw [Addr.add_lit, Nat.zero_add, World.cell?_alloc_at _ _ _ _ hn]
  match j, hj with
  | 0, hj => simpa using hj
  | 1, hj => simpa using hj
  | j + 2, hj => simp at hj
theorem two_oneP (x y : Int) : ∀ u ∈ [Value.int .i64 x, Value.int .i64 y], u.oneCell' = true := by
  intro u hu; simp at hu; rcases hu with rfl | rfl <;> rfl
/-- One step of the inner loop of List0. -/
def cuStep (d g p : Nat) (s : List Nat × List (Nat × Nat)) : List Nat × List (Nat × Nat) :=
  if (Nat.gcd p d == 1 && !(s.1.contains (p % g))) = true then ((p % g) :: s.1, s.2 ++ [(p, d)]) else s
def cuIn (d g : Nat) (s : List Nat × List (Nat × Nat)) : Nat → List Nat × List (Nat × Nat)
  | 0 => s
  | k + 1 => cuStep d g (k + 1) (cuIn d g s k)
def cuO (N : Nat) : Nat → List (Nat × Nat)
  | 0 => []
  | i + 1 => (cuIn ((divs N).getD i 0) (Nat.gcd ((divs N).getD i 0) (N / (divs N).getD i 0)) ([], cuO N i) ((divs N).getD i 0)).2
/-- The cusps of level N as the program lists them. -/
def cusL (N : Nat) : List (Nat × Nat) := cuO N (divs N).length
/-- The marks as a map has them. -/
def inS (s : List Nat) : Int → Bool := fun x => decide (0 ≤ x) && s.contains x.toNat
theorem inS_nat (s : List Nat) (n : Nat) : inS s (n : Int) = s.contains n := by simp [inS]
theorem inS_nil : inS [] = fun _ => false := by funext y; simp [inS]
theorem SeenM.mono {w : World} {b n n' : Nat} {S : Int → Bool} (h : SeenM w b n S) (hn : n ≤ n') : SeenM w b n' S := by
  obtain ⟨D, h1, h2⟩ := h
  exact ⟨D, h1.mono hn, h2⟩
theorem inS_cons (s : List Nat) (n : Nat) : inS (n :: s) = fun y => y == (n : Int) || inS s y := by
  funext y
  by_cases h0 : 0 ≤ y
  · obtain ⟨m, rfl⟩ : ∃ m : Nat, y = (m : Int) := ⟨y.toNat, by omega⟩
    rw [inS_nat, inS_nat, List.contains_cons]
    congr 1
    by_cases h : m = n
    · subst h; simp
    · have h1 : ¬ ((m : Int) = (n : Int)) := by omega
      rw [beq_eq_false_iff_ne.2 h, beq_eq_false_iff_ne.2 h1]
  · have h1 : ¬ (y = (n : Int)) := by omega
    simp [inS, h0, h1]
theorem cuIn_len (d g : Nat) (s : List Nat × List (Nat × Nat)) : ∀ k, (cuIn d g s k).2.length ≤ s.2.length + k
  | 0 => by simp [cuIn]
  | k + 1 => by
    have h := cuIn_len d g s k
    show (cuStep d g (k + 1) (cuIn d g s k)).2.length ≤ _
    unfold cuStep
    split
    · simp; omega
    · omega
theorem cuO_len {N : Nat} (hN : N ≤ 60) : ∀ i, i ≤ (divs N).length → (cuO N i).length ≤ 60 * i
  | 0, _ => by simp [cuO]
  | i + 1, hi => by
    have h := cuO_len hN i (by omega)
    have h1 := cuIn_len ((divs N).getD i 0) (Nat.gcd ((divs N).getD i 0) (N / (divs N).getD i 0)) ([], cuO N i) ((divs N).getD i 0)
    have h2 := (divs_mem (getD_mem_divs (n := N) (i := i) (by omega))).2.1
    show (cuIn _ _ _ _).2.length ≤ _
    simp only at h1
    omega
end Go.Proofs.YtbpkfcohbefphaaGreat
namespace Go.Proofs.YtbpkfcohbefphaaGreat
open Go Go.RowKit
theorem wf_nat (n : Nat) (h : n ≤ 1000) : (Lit.int .i64 (n : Int)).wf = true := by
  have h1 : (IntKind.min .i64 : Int) = -9223372036854775808 := by decide
  have h2 : (IntKind.max .i64 : Int) = 9223372036854775807 := by decide
  simp only [Lit.wf, Bool.and_eq_true, decide_eq_true_eq, h1, h2]
  omega
set_option maxRecDepth 20000 in
set_option maxHeartbeats 8000000 in
theorem list0Q (N : Nat) (h1 : 1 ≤ N) (h2 : N ≤ 60) (w : World) :
    Calls Tryz.prog 15 #[.int .i64 (N : Int)] w fun e w' => ∃ v, e = .returned (.tuple #[v, .int .i64 0]) ∧ OwnCu w' w.heap.size v (cusL N) ∧ Grow w w' := by
  obtain ⟨ic, hic, icz0, icz1, icz2⟩ := info_parts infoCusp
  have LQ := Lib.hid (fun u => levelQ N h1 h2 u)
  have DQ := Lib.hid (fun u => divisorsQ N h1 (by omega) u)
  have MD := Lib.hid (fun i (hi : i < (divs N).length) => divs_mem (getD_mem_divs (n := N) (i := i) hi))
  have HOL := Lib.hid (cuO_len h2)
  have hcl : cusL N = cuO N (divs N).length := rfl
  have hdl := divs_len N
  obtain ⟨k, hk⟩ : ∃ k, (divs N).length = k := ⟨_, rfl⟩
  rw [hk] at DQ MD HOL hcl hdl
  have HCL := Lib.hid hcl
  obtain ⟨cl, hcl'⟩ : ∃ cl, cusL N = cl := ⟨_, rfl⟩
  rw [hcl'] at HCL
  rw [hcl']
  clear hk hcl hcl'
  have hmm := @run_makeMap Tryz.prog
  go_enter Tryz.func15, Tryz.ntmps15
  go_upto_region 4 with (go_at_call 44; (with_reducible refine (LQ.out _).mono ?_); (rintro e u2 ⟨rfl, rfl⟩))
  go_upto_region 5 with (go_at_call 45; (with_reducible refine (DQ.out _).mono ?_); (rintro e u3 ⟨g5, cap5, rfl, hi5, hb5, hw5⟩))
  have HI := Lib.hid hi5
  have HG := Lib.hid hb5
  clear hi5 hb5 hw5
  obtain ⟨Z, hZ⟩ : ∃ Z, u3.heap.size = Z := ⟨_, rfl⟩
  have HZ := Lib.hid hZ
  clear hZ
  go_wp2_with fail
  go_loopg [25, 7] k (fun gk t25 t7 wr => ∃ i : Nat, t25 = .int .i64 (i : Int) ∧ i ≤ k ∧ Hid (gk = k - i) ∧ Hid (OwnCu wr Z t7 (cuO N i)) ∧ Hid (Grow u3 wr))
  case atStart => exact ⟨0, rfl, Nat.zero_le _, Lib.hid rfl, Lib.hid (World.ownsRow_nil _ _ _ _), Lib.hid (Grow.refl _)⟩
  case round =>
    obtain ⟨i, rfl, hi, HGK, HO, HGR⟩ := hrel
    have hI := HI.out.grow HGR.out
    have HII := Lib.hid hI
    clear hI
    by_cases hik : i = k
    · have y1 : decide ((i : Int) < (k : Int)) = false := by simp; omega
      rw [hik, ← HCL.out] at HO
      go_wp2_with fail
      refine bodyPost_ret (v := .tuple #[_, .int .i64 0]) (by rw [results_pair rfl]; first | rfl | go_simp) rfl ?_
      first | exact ⟨_, rfl, own_base HO.out (by rw [← HZ.out]; exact HG.out.size), HG.out.trans HGR.out⟩
    · have hik : i < k := by omega
      have y0 : (0 : Int) ≤ (i : Int) := by omega
      have y1 : decide ((i : Int) < (k : Int)) = true := by simp; omega
      have y2 : (i : Int) < (k : Int) := by omega
      have hdc := HII.out.cell i hik
      rw [Nat.zero_add] at hdc
      obtain ⟨hd1, hd2, -⟩ := MD.out i hik
      have hol := HOL.out (i + 1) (by omega)
      have hos : cuO N (i + 1) = (cuIn ((divs N).getD i 0) (Nat.gcd ((divs N).getD i 0) (N / (divs N).getD i 0)) ([], cuO N i) ((divs N).getD i 0)).2 := rfl
      obtain ⟨d, hd⟩ : ∃ d, (divs N).getD i 0 = d := ⟨_, rfl⟩
      rw [hd] at hdc hd1 hd2 hos
      obtain ⟨q, hq⟩ : ∃ q, N / d = q := ⟨_, rfl⟩
      have hqb : q ≤ 60 := by rw [← hq]; exact Nat.le_trans (Nat.div_le_self _ _) h2
      have E9 : Hid (Int.tdiv (N : Int) (d : Int) = (q : Int)) := Lib.hid (by rw [Int.tdiv_eq_ediv_of_nonneg (by omega), ← hq]; rfl)
      have E6 := Lib.hid (w64m q (by omega) (z := (q : Int)) rfl)
      have GQ : Hid (∀ u, Calls Tryz.prog 46 #[.int .i64 (d : Int), .int .i64 (q : Int)] u fun e w' => e = .returned (.int .i64 ((Nat.gcd d q : Nat) : Int)) ∧ Grow u w') := Lib.hid (fun u => gcW_any d q (by omega) (by omega) (by omega) (by omega) u)
      have hg0 : 0 < Nat.gcd d q := Nat.gcd_pos_of_pos_left _ (by omega)
      have hgb : Nat.gcd d q ≤ d := Nat.le_of_dvd (by omega) (Nat.gcd_dvd_left d q)
      rw [hq] at hos
      obtain ⟨g, hg⟩ : ∃ g, Nat.gcd d q = g := ⟨_, rfl⟩
      rw [hg] at GQ hg0 hos hgb
      have hc0 : ¬ (d : Int) = 0 := by omega
      have hcn : ¬ d = 0 := by omega
      have HOS := Lib.hid hos
      clear hd hq hg hos
      obtain ⟨e6, e6'⟩ := E6.out
      have e9 := E9.out
      go_upto_region 10 with (go_at_call 46; (with_reducible refine (GQ.out _).mono ?_); (rintro e u4 ⟨rfl, hb4⟩))
      clear e6 e6' e9 hdc y0 y1 y2
      have HG4 := Lib.hid (HGR.out.trans hb4)
      have HO4 := Lib.hid (own_into HO.out hb4)
      have HM0 := Lib.hid (SeenM.made u4)
      have HG5 : Hid (Grow u3 (u4.alloc (.map #[] 0))) := Lib.hid (HG4.out.alloc _)
      have HO5 : Hid (OwnCu (u4.alloc (.map #[] 0)) Z _ (cuO N i)) := Lib.hid (own_into HO4.out ((Grow.refl u4).alloc _))
      obtain ⟨b, hb⟩ : ∃ b, u4.heap.size = b := ⟨_, rfl⟩
      have HBZ : Hid (Z ≤ b) := Lib.hid (by rw [← hb, ← HZ.out]; exact HG4.out.size)
      rw [hb] at HM0
      clear hb4 HO4
      go_upto_region 11 with fail
      try rw [hb]
      clear hb
      generalize u4.alloc (.map #[] 0) = W5 at *
      have hlen0 := cuIn_len d g ([], cuO N i)
      have HLI : Hid (∀ j, j ≤ d → (cuIn d g ([], cuO N i) j).2.length ≤ 4000) := Lib.hid (fun j hj => by
        have h3 := hlen0 j
        have h4 := HOL.out i hi
        simp only at h3
        omega)
      clear hlen0 hol
      go_wp2_with fail
      clear hmm
      go_loopg [12, 7] d (fun gk2 t12 t7 wq => ∃ (j e : Nat), t12 = .int .i64 (e : Int) ∧ j ≤ d ∧ Hid (gk2 = d - j) ∧ Hid (e = j + 1) ∧ Hid (OwnCu wq Z t7 (cuIn d g ([], cuO N i) j).2) ∧ Hid (SeenM wq b j (inS (cuIn d g ([], cuO N i) j).1)) ∧ Hid (Grow u3 wq))
      case atStart => exact ⟨0, 1, rfl, Nat.zero_le _, Lib.hid rfl, Lib.hid rfl, HO5, Lib.hid (by show SeenM _ b 0 (inS []); rw [inS_nil]; exact HM0.out), HG5⟩
      case round =>
        obtain ⟨j, e, rfl, hj, HGK2, HE, HOQ, HMQ, HGQ⟩ := hrel
        have he := HE.out
        by_cases hjd : j = d
        · have y1 : decide (e ≤ d) = false := by simp; omega
          have y2 : decide ((e : Int) ≤ (d : Int)) = false := by simp; omega
          rw [hjd, ← HOS.out] at HOQ
          clear he
          have E4 := Lib.hid (w64n (n := (i : Int) + 1) (by omega))
          obtain ⟨e4, e4'⟩ := E4.out
          go_wp2_with fail
          clear e4 e4'
          go_roundg (k - (i + 1))
          case measure => have := HGK.out; omega
          case rel => exact ⟨i + 1, rfl, hik, Lib.hid rfl, HOQ, HGQ⟩
        · have hjl : j < d := by omega
          have y1 : decide (e ≤ d) = true := by simp; omega
          have y2 : decide ((e : Int) ≤ (d : Int)) = true := by simp; omega
          have hnx : cuIn d g ([], cuO N i) (j + 1) = cuStep d g (j + 1) (cuIn d g ([], cuO N i) j) := rfl
          rw [← he] at hnx
          unfold cuStep at hnx
          have hli := HLI.out j hj
          obtain ⟨s, hs⟩ : ∃ s, cuIn d g ([], cuO N i) j = s := ⟨_, rfl⟩
          rw [hs] at HOQ HMQ hnx hli
          have GE : Hid (∀ u, Calls Tryz.prog 46 #[.int .i64 (e : Int), .int .i64 (d : Int)] u fun x w' => x = .returned (.int .i64 ((Nat.gcd e d : Nat) : Int)) ∧ Grow u w') := Lib.hid (fun u => gcW_any e d (by omega) (by omega) (by omega) (by omega) u)
          obtain ⟨c, hc⟩ : ∃ c, Nat.gcd e d = c := ⟨_, rfl⟩
          rw [hc] at GE hnx
          obtain ⟨r, hr⟩ : ∃ r, e % g = r := ⟨_, rfl⟩
          rw [hr] at hnx
          have E2 : Hid (Int.tmod (e : Int) (g : Int) = (r : Int)) := Lib.hid (by rw [← hr, Int.natCast_emod]; exact Int.tmod_eq_emod_of_nonneg (by omega))
          have hrb : r ≤ 61 := by rw [← hr]; exact Nat.le_trans (Nat.mod_le _ _) (by omega)
          have E3 := Lib.hid (w64n (n := (r : Int)) (by omega))
          have E4 := Lib.hid (inc_wrap (i := e) (n := 100) (by have := HE.out; omega) (by omega))
          have hgn : ¬ g = 0 := by omega
          have hgz : ¬ (g : Int) = 0 := by omega
          have HWF := Lib.hid (wf_nat r (by omega))
          have HNX := Lib.hid hnx
          have HLL := Lib.hid hli
          clear hjd hnx hs hc hr hli y1 y2
          have y1 : decide (e ≤ d) = true := by simp; omega
          have y2 : decide ((e : Int) ≤ (d : Int)) = true := by simp; omega
          clear he
          by_cases hc1 : c = 1
          · subst hc1
            have GE1 : Hid (∀ u, Calls Tryz.prog 46 #[.int .i64 (e : Int), .int .i64 (d : Int)] u fun x w' => x = .returned (.int .i64 1) ∧ Grow u w') := Lib.hid (fun u => GE.out u)
            clear GE
            obtain ⟨B, hB⟩ : ∃ B, s.1.contains r = B := ⟨_, rfl⟩
            have HLK : Hid (∀ u, Grow wr u → (Instr.lookup 81 (.map (some b)) (.int .i64 (r : Int)) false).run Tryz.prog u = .ok (.bool B) u) := Lib.hid (fun u hu => by
              have h := (HMQ.out.grow hu).look HWF.out
              rw [inS_nat, hB] at h
              exact h)
            have HBB := Lib.hid hB
            clear hB
            cases B with
            | true =>
              have hnx2 : cuIn d g ([], cuO N i) (j + 1) = s := by rw [← HE.out]; exact HNX.out.trans (if_neg (by rw [HBB.out]; simp))
              have HN2 := Lib.hid hnx2
              clear hnx2
              have e2 := E2.out
              obtain ⟨e3, e3'⟩ := E3.out
              go_upto_region 13 with (go_at_call 46; (with_reducible refine (GE1.out _).mono ?_); (rintro x u6 ⟨rfl, hb6⟩; have hlk := HLK.out u6 hb6))
              clear hlk e2 e3 e3'
              obtain ⟨e4, e4'⟩ := E4.out
              go_wp2_with fail
              clear e4 e4'
              go_roundg (d - (j + 1))
              case measure => have := HGK2.out; omega
              case rel => exact ⟨j + 1, e + 1, rfl, hjl, Lib.hid rfl, Lib.hid (by rw [HE.out]), Lib.hid (by rw [HN2.out]; exact own_into HOQ.out hb6), Lib.hid (by rw [HN2.out]; exact (HMQ.out.grow hb6).mono (by omega)), Lib.hid (HGQ.out.trans hb6)⟩
            | false =>
              have hnx2 : cuIn d g ([], cuO N i) (j + 1) = (r :: s.1, s.2 ++ [(e, d)]) := by rw [← HE.out]; exact HNX.out.trans (if_pos (by rw [HBB.out]; simp))
              have HN2 := Lib.hid hnx2
              clear hnx2
              have e2 := E2.out
              obtain ⟨e3, e3'⟩ := E3.out
              go_upto_region 15 with (go_at_call 46; (with_reducible refine (GE1.out _).mono ?_); (rintro x u6 ⟨rfl, hb6⟩; have hlk := HLK.out u6 hb6))
              clear hlk
              have HM6 := Lib.hid (HMQ.out.grow hb6)
              have HO6 := Lib.hid (own_into HOQ.out hb6)
              have HG6 := Lib.hid (HGQ.out.trans hb6)
              obtain ⟨w7, hrun, hm7, hg7⟩ := HM6.out.put (by omega) HWF.out
              have HO7 : Hid (OwnCu w7 Z _ s.2) := Lib.hid (World.ownsRow.kept HO6.out hg7 (own_ne_map HO6.out HM6.out))
              have HG7 : Hid (Grow u3 w7) := Lib.hid (HG6.out.grown hg7 (fun q hq => by injection hq with hq; rw [← hq, HZ.out]; exact HBZ.out))
              have HM7 := Lib.hid hm7
              clear hm7 hg7 hb6
              go_upto_region 16 with fail
              clear hrun e2 e3 e3'
              have hZ7 : Z ≤ w7.heap.size := by rw [← HZ.out]; exact HG7.out.size
              obtain ⟨e4, e4'⟩ := E4.out
              go_wp2_with (at_builtin; refine wpList_append_own _ rfl _ _ 47 rfl Z 55 ic (.agg #[.int .i64 0, .int .i64 0]) 2 16 Tryz.underlying47 hic icz0 icz1 icz2 rfl (by decide) _ _ _ rfl (World.ownsRow.alloc HO7.out _) ⟨w7.heap.size, 0, none⟩ 1 1 [.int .i64 (e : Int), .int .i64 (d : Int)] rfl rfl (two_cellsP _ _ _ _ _ ?c1) (two_oneP _ _) ?c3 ?c4 ?c5 ?_)
              case c1 => simp
              case c3 => have := HLL.out; unfold maxLen; omega
              case c4 => have := HLL.out; omega
              case c5 => (try simp); omega
              intro v8 w8 ho8 hg8 _
              have HO8 : Hid (OwnCu w8 Z v8 (s.2 ++ [(e, d)])) := Lib.hid (by unfold OwnCu; rw [cellsP_append, show cellsP [(e, d)] = [.int .i64 (e : Int), .int .i64 (d : Int)] from rfl]; simpa using ho8)
              have HM8 : Hid (SeenM w8 b (j + 1) (inS (r :: s.1))) := Lib.hid (by
                rw [inS_cons]
                refine (HM7.out.grow ((Grow.refl w7).alloc _)).kept hg8 ?_
                rcases own_ne_map HO7.out HM7.out with h | h
                · rw [h]; simp
                · exact fun e => h e.symm)
              have HG8 : Hid (Grow u3 w8) := Lib.hid ((HG7.out.alloc _).grown hg8 (fun q hq => by rw [HZ.out]; exact (World.ownsRow.lt HO7.out q hq).1))
              clear ho8 hg8
              go_wp2_with fail
              clear e4 e4'
              go_roundg (d - (j + 1))
              case measure => have := HGK2.out; omega
              case rel => exact ⟨j + 1, e + 1, rfl, hjl, Lib.hid rfl, Lib.hid (by rw [HE.out]), Lib.hid (by rw [HN2.out]; exact HO8.out), Lib.hid (by rw [HN2.out]; exact HM8.out), HG8⟩
          · have hnx2 : cuIn d g ([], cuO N i) (j + 1) = s := by rw [← HE.out]; exact HNX.out.trans (if_neg (by simp [hc1]))
            have HN2 := Lib.hid hnx2
            have z1 : ((c : Int) == 1) = false := by simp; omega
            clear hnx2
            obtain ⟨e4, e4'⟩ := E4.out
            go_wp2_with (go_at_call 46; (with_reducible refine (GE.out _).mono ?_); (rintro x u6 ⟨rfl, hb6⟩))
            clear e4 e4'
            go_roundg (d - (j + 1))
            case measure => have := HGK2.out; omega
            case rel => exact ⟨j + 1, e + 1, rfl, hjl, Lib.hid rfl, Lib.hid (by rw [HE.out]), Lib.hid (by rw [HN2.out]; exact own_into HOQ.out hb6), Lib.hid (by rw [HN2.out]; exact (HMQ.out.grow hb6).mono (by omega)), Lib.hid (HGQ.out.trans hb6)⟩
end Go.Proofs.YtbpkfcohbefphaaGreat
