/- Lemmas, plain laws and walks that the statement LwKronecker leans on (texts GaB), conditions as each theorem says. -/
import Derived.Test.YtbpkfcohbefphaaGreatDoorTopKhG35

namespace Go.Proofs.YtbpkfcohbefphaaGreatDoor
open Go Go.RowKit
set_option maxRecDepth 20000 in
set_option maxHeartbeats 8000000 in
theorem genus0Q (w : World) (hT : TabB w) : Calls Tryz.prog 14 #[.int .i64 11] w fun e w' => e = .returned (.tuple #[.int .i64 1, .int .i64 0]) ∧ Grow w w' := by
  have FO := Lib.hid (formulaQ w hT)
  clear hT
  go_enter Tryz.func14, Tryz.ntmps14
  go_wp2_with (go_at_call 40; (with_reducible refine FO.out.mono ?_); (rintro e u2 ⟨rfl, hb2⟩))
  refine bodyPost_ret (v := .tuple #[.int .i64 1, .int .i64 0]) (by rw [results_pair rfl]; first | rfl | go_simp) rfl ?_
  exact ⟨rfl, by (repeat (first | with_reducible exact Grow.refl _ | with_reducible refine Grow.alloc ?_ _ | with_reducible refine Grow.drew ?_ | with_reducible refine Grow.drewN ?_ _ | (with_reducible refine Grow.setCell ?_ ?hp _; (case hp => (simp; try omega))) | with_reducible refine Grow.trans ?_ (by assumption)))⟩
theorem div_abs (s : Int) (n : Nat) : (s / (n : Int)).natAbs ≤ s.natAbs + 1 := by
  rcases Nat.eq_zero_or_pos n with h | h
  · subst h; simp
  · have h1 := Int.emod_nonneg s (b := (n : Int)) (by omega)
    have h2 := Int.emod_lt_of_pos s (b := (n : Int)) (by omega)
    have h3 := Int.mul_ediv_add_emod s (n : Int)
    rcases Int.lt_or_le (s / (n : Int)) 0 with h4 | h4
    · have h5 : (n : Int) * (s / (n : Int)) ≤ 1 * (s / (n : Int)) := Int.mul_le_mul_of_nonpos_right (by omega) (by omega)
      have h6 : (n : Int) * (s / (n : Int) + 1) ≤ 1 * (s / (n : Int) + 1) := Int.mul_le_mul_of_nonpos_right (by omega) (by omega)
      rw [Int.mul_add] at h6
      omega
    · have h5 : 1 * (s / (n : Int)) ≤ (n : Int) * (s / (n : Int)) := Int.mul_le_mul_of_nonneg_right (by omega) h4
      omega
theorem RatR.parts {w : World} {n d : Int} {s t : Bool} {m1 m2 : Value} (g : Nat) (hd : 0 < d) (hg : Int.gcd n d = g) (h1 : IntR w (.agg #[.bool s, m1]) (n / (g : Int))) (h2 : IntR w (.agg #[.bool t, m2]) (d / (g : Int))) (h0 : 0 ≤ d / (g : Int)) :
    RatR w (.agg #[.bool s, m1, .bool t, m2]) ((n : Rat) / (d : Rat)) := by
  obtain ⟨p, hv, h1⟩ := h1
  obtain ⟨q, hv', h2⟩ := h2
  simp only [Value.agg.injEq, Array.mk.injEq, List.cons.injEq, Value.bool.injEq, and_true] at hv hv'
  obtain ⟨e1, rfl⟩ := hv
  obtain ⟨e3, rfl⟩ := hv'
  have h := RatR.mk (X := (n : Rat) / (d : Rat)) g hd (Rat.divInt_eq_div n d) hg h1 h2
  have e4 : sgB (d / (g : Int)) = false := by unfold sgB; simp; omega
  rw [e1, e3, e4]
  exact h
set_option maxRecDepth 20000 in
set_option maxHeartbeats 8000000 in
theorem frac3Q (n : Int) (hn : n.natAbs ≤ 1000000000) (w : World) :
    Calls Tryz.prog 16 #[.int .i64 n, .int .i64 3] w fun e w' => ∃ v, e = .returned v ∧ RatR w' v ((n : Int) / ((3 : Int) : Rat)) ∧ Grow w w' := by
  obtain ⟨A, hA⟩ : ∃ A : Nat, n.natAbs = A := ⟨_, rfl⟩
  obtain ⟨g, hg⟩ : ∃ g, Nat.gcd A 3 = g := ⟨_, rfl⟩
  have hig : Int.gcd n 3 = g := by rw [← hg, ← hA]; rfl
  have hg0 : 0 < g := by rw [← hg]; exact Nat.gcd_pos_of_pos_right _ (by omega)
  have hgd : g ∣ 3 := by rw [← hg]; exact Nat.gcd_dvd_right _ _
  have hgn : (g : Int) ∣ n := by
    rw [← hig]; exact Int.gcd_dvd_left ..
  have hg24 : g ≤ 3 := Nat.le_of_dvd (by omega) hgd
  obtain ⟨p, hp⟩ : ∃ p, n / (g : Int) = p := ⟨_, rfl⟩
  obtain ⟨q, hq⟩ : ∃ q, 3 / g = q := ⟨_, rfl⟩
  have hpb : p.natAbs ≤ 1000000001 := by have := div_abs n g; rw [hp] at this; omega
  have hqb : q ≤ 3 := by rw [← hq]; exact Nat.div_le_self _ _
  have ET : Hid (Int.tdiv n (g : Int) = p) := Lib.hid (by rw [Int.tdiv_eq_ediv_of_dvd hgn, hp])
  have EU : Hid (Int.tdiv 3 (g : Int) = (q : Int)) := Lib.hid (by rw [Int.tdiv_eq_ediv_of_nonneg (by omega), ← hq]; rfl)
  have EP := Lib.hid (w64n (n := p) (by omega))
  have EQ := Lib.hid (w64n (n := (q : Int)) (by omega))
  have EN := Lib.hid (w64n (n := -n) (by omega))
  have ZP := Lib.hid (fun u => zbV p (by omega) u)
  have ZQ := Lib.hid (fun u => zbV (q : Int) (by omega) u)
  have PR : Hid (∀ (u : World) (s t : Bool) (m1 m2 : Value), IntR u (.agg #[.bool s, m1]) p → IntR u (.agg #[.bool t, m2]) (q : Int) → RatR u (.agg #[.bool s, m1, .bool t, m2]) ((n : Int) / ((3 : Int) : Rat))) :=
    Lib.hid (fun u s t m1 m2 g1 g2 => RatR.parts (d := 3) g (by omega) hig (by rw [hp]; exact g1) (by rw [show (3 : Int) / (g : Int) = (q : Int) by rw [← hq]; rfl]; exact g2) (by rw [show (3 : Int) / (g : Int) = (q : Int) by rw [← hq]; rfl]; omega))
  have hm1 : max n (-n) = (A : Int) := by omega
  have hm2 : (if -n > n then -n else n) = (A : Int) := by split <;> omega
  have M1 := Lib.hid hm1
  have M2 := Lib.hid hm2
  have HGD := Lib.hid hg
  have hgn : ¬ g = 0 := by omega
  have hgz : ¬ (g : Int) = 0 := by omega
  have hAb : A ≤ 1000000000 := by omega
  clear hn hA hg hig hg0 hgd hg24 hp hq hpb hqb hm1 hm2
  obtain ⟨W1, hW1⟩ : ∃ W1 : World, W1 = w.alloc (.cells #[.bool false, .slice none 0 0, .bool false, .slice none 0 0] 27) := ⟨_, rfl⟩
  have hg1 := ag hW1
  have K1 := Lib.hid (ak4 hW1)
  have RC : Hid (RowP W1 w.heap.size 0 1 (fun _ => none)) := Lib.hid (by rw [hW1]; exact rowp_alloc w _)
  have HW1 := Lib.hid hW1
  clear hW1
  obtain ⟨en, en'⟩ := EN.out
  have m1 := M1.out
  have m2 := M2.out
  go_enter Tryz.func16, Tryz.ntmps16
  go_upto_region 1 with fail
  rw [← HW1.out]
  go_wp2_with fail
  clear en en' m1 m2
  go_loopg [5, 6] 3 (fun gk t5 t6 wr => ∃ a b : Nat, t5 = .int .i64 (a : Int) ∧ t6 = .int .i64 (b : Int) ∧ a ≤ 1000000000 ∧ b ≤ 3 ∧ Hid (gk = b) ∧ Hid (Nat.gcd a b = g) ∧ Hid (Grow W1 wr))
  case atStart => exact ⟨A, 3, rfl, rfl, hAb, by omega, Lib.hid rfl, HGD, Lib.hid (Grow.refl _)⟩
  case round =>
    obtain ⟨a, b, rfl, rfl, ha, hb, HGK, HGC, HGR⟩ := hrel
    by_cases hb0 : b = 0
    · subst hb0
      have hag : a = g := by have := HGC.out; simpa using this
      subst hag
      have ep := ET.out
      have eq := EU.out
      obtain ⟨e1, e2⟩ := EP.out
      obtain ⟨e3, e4⟩ := EQ.out
      have KK := Lib.hid (fun (u : World) (hu : Grow wr u) => K1.out u (HGR.out.trans hu))
      go_upto_region 6 with fail
      refine region_held (id := 6) (fun u => Grow wr u) [0, 1, 2, 4, 5, 6, 3, 7, 8, 9] (kdL [0, 0, 0, 2, 0, 0, 0, 2, 0, 3]) (by kernel_rfl) (by kernel_rfl) (fun t ht => kdL_lt _ t ht) ?hS0q ?_
      case hS0q => ((try dsimp only); (repeat (first | with_reducible exact Grow.refl _ | with_reducible refine Grow.alloc ?_ _ | with_reducible refine Grow.drew ?_ | with_reducible refine Grow.drewN ?_ _ | (with_reducible refine Grow.setCell ?_ ?hp _; (case hp => (simp; try omega))) | with_reducible refine Grow.trans ?_ (by assumption))))
      refine held_quiet (v := ?vq0) rfl rfl (Or.inl ⟨by rfl, ?hyq0⟩) ?_
      case hyq0 => (intro u hu; go_simp; (try with_reducible rfl))
      (try simp only [Act.put, List.setIfInBounds_toArray, List.set_cons_zero, List.set_cons_succ])
      refine held_quiet (v := ?vq1) rfl rfl (Or.inl ⟨by rfl, ?hyq1⟩) ?_
      case hyq1 => (intro u hu; go_simp; (try with_reducible rfl))
      (try simp only [Act.put, List.setIfInBounds_toArray, List.set_cons_zero, List.set_cons_succ])
      refine held_quiet (v := ?vq2) rfl rfl (Or.inl ⟨by rfl, ?hyq2⟩) ?_
      case hyq2 => (intro u hu; go_simp; (try with_reducible rfl))
      (try simp only [Act.put, List.setIfInBounds_toArray, List.set_cons_zero, List.set_cons_succ])
      refine held_quiet (v := ?vq4) rfl rfl (Or.inl ⟨by rfl, ?hyq4⟩) ?_
      case hyq4 => (intro u hu; go_simp; (try with_reducible rfl))
      (try simp only [Act.put, List.setIfInBounds_toArray, List.set_cons_zero, List.set_cons_succ])
      refine held_quiet (v := ?vq5) rfl rfl (Or.inl ⟨by rfl, ?hyq5⟩) ?_
      case hyq5 => (intro u hu; go_simp; (try with_reducible rfl))
      (try simp only [Act.put, List.setIfInBounds_toArray, List.set_cons_zero, List.set_cons_succ])
      refine held_quiet (v := ?vq6) rfl rfl (Or.inl ⟨by rfl, ?hyq6⟩) ?_
      case hyq6 => (intro u hu; go_simp; (try with_reducible rfl))
      (try simp only [Act.put, List.setIfInBounds_toArray, List.set_cons_zero, List.set_cons_succ])
      refine held_op rfl rfl (fun K hK => ?_)
      go_simp
      (go_at_call 17; (with_reducible refine (ZP.out _).mono ?_); (rintro x u53 ⟨v53, rfl, hv53, hb53⟩; obtain ⟨s53, a53, l53, c53, rfl⟩ := hv53.form; have HV53 := Lib.hid hv53; clear hv53))
      (try go_wp2_with fail)
      refine hK.out _ _ ?hSq3 ?_
      case hSq3 => ((try dsimp only); (repeat (first | with_reducible exact Grow.refl _ | with_reducible refine Grow.alloc ?_ _ | with_reducible refine Grow.drew ?_ | with_reducible refine Grow.drewN ?_ _ | (with_reducible refine Grow.setCell ?_ ?hp _; (case hp => (simp; try omega))) | with_reducible refine Grow.trans ?_ (by assumption))))
      clear hK K
      (try simp only [Act.put, List.setIfInBounds_toArray, List.set_cons_zero, List.set_cons_succ])
      refine held_op rfl rfl (fun K hK => ?_)
      go_simp
      (go_at_call 17; (with_reducible refine (ZQ.out _).mono ?_); (rintro x u57 ⟨v57, rfl, hv57, hb57⟩; obtain ⟨s57, a57, l57, c57, rfl⟩ := hv57.form; have HV57 := Lib.hid hv57; clear hv57); obtain ⟨d0, d1, d2, d3, d4, d5⟩ := KK.out u57 (by (repeat (first | with_reducible exact Grow.refl _ | with_reducible refine Grow.alloc ?_ _ | with_reducible refine Grow.drew ?_ | with_reducible refine Grow.drewN ?_ _ | (with_reducible refine Grow.setCell ?_ ?hp _; (case hp => (simp; try omega))) | with_reducible refine Grow.trans ?_ (by assumption)))))
      (try go_wp2_with fail)
      refine hK.out _ _ ?hSq7 ?_
      case hSq7 => ((try dsimp only); (repeat (first | with_reducible exact Grow.refl _ | with_reducible refine Grow.alloc ?_ _ | with_reducible refine Grow.drew ?_ | with_reducible refine Grow.drewN ?_ _ | (with_reducible refine Grow.setCell ?_ ?hp _; (case hp => (simp; try omega))) | with_reducible refine Grow.trans ?_ (by assumption))))
      clear hK K
      (try simp only [Act.put, List.setIfInBounds_toArray, List.set_cons_zero, List.set_cons_succ])
      refine held_quiet (v := ?vq8) rfl rfl (Or.inl ⟨by rfl, ?hyq8⟩) ?_
      case hyq8 => (intro u hu; go_simp; (try with_reducible rfl))
      (try simp only [Act.put, List.setIfInBounds_toArray, List.set_cons_zero, List.set_cons_succ])
      refine held_last rfl rfl (fun K hK => ?_)
      go_simp
      refine hK.out _ _ ?_
      clear hK K
      (try simp only [Act.put, List.setIfInBounds_toArray, List.set_cons_zero, List.set_cons_succ])
      refine held_done ?_
      have hgr : Grow W1 u57 := HGR.out.trans (by (repeat (first | with_reducible exact Grow.refl _ | with_reducible refine Grow.alloc ?_ _ | with_reducible refine Grow.drew ?_ | with_reducible refine Grow.drewN ?_ _ | (with_reducible refine Grow.setCell ?_ ?hp _; (case hp => (simp; try omega))) | with_reducible refine Grow.trans ?_ (by assumption))))
      have hx := PR.out u57 s53 s57 _ _ (HV53.out.grow hb57) HV57.out
      obtain ⟨h1, h2⟩ := rescell (w := w) (RC.out.grow hgr) (Nat.le_refl _) (hg1.trans hgr) hx
      clear hx hgr ep eq e1 e2 e3 e4
      go_simp
      go_wp2_with fail
      exact bodyPost_ret (v := .agg #[.bool s53, .slice a53 l53 c53, .bool s57, .slice a57 l57 c57]) (by rw [results_one rfl]; go_simp) rfl ⟨_, rfl, h1, h2⟩
    · have hbp : 0 < b := by omega
      have y1 : decide ((b : Int) > 0) = true := by simp; omega
      obtain ⟨r, hr⟩ : ∃ r, a % b = r := ⟨_, rfl⟩
      have hrb : r < b := by rw [← hr]; exact Nat.mod_lt _ hbp
      have E2 : Hid (Int.tmod (a : Int) (b : Int) = (r : Int)) := Lib.hid (by rw [← hr, Int.natCast_emod]; exact Int.tmod_eq_emod_of_nonneg (by omega))
      have E3 := Lib.hid (w64n (n := (r : Int)) (by omega))
      have HGC2 : Hid (Nat.gcd b r = g) := Lib.hid (by rw [← hr, ← Nat.gcd_comm, ← Nat.gcd_rec, Nat.gcd_comm]; exact HGC.out)
      have hbz : ¬ (b : Int) = 0 := by omega
      have hrb2 : r ≤ 3 := by omega
      have hb24 : b ≤ 1000000000 := by omega
      clear hr
      have e2 := E2.out
      obtain ⟨e3, e3'⟩ := E3.out
      go_wp2_with fail
      go_quiet (fail)
      go_wp2_with fail
      clear e2 e3 e3'
      go_roundg r
      case measure => have := HGK.out; omega
      case rel => exact ⟨b, r, rfl, rfl, hb24, hrb2, Lib.hid rfl, HGC2, Lib.hid (HGR.out.drewN _)⟩
set_option maxRecDepth 20000 in
set_option maxHeartbeats 8000000 in
theorem groupsQ (w : World) (hT : TabB w) : Calls Tryz.prog 5 #[] w fun e w' => e = .returned (.bool true) ∧ Grow w w' := by
  have GE := Lib.hid (fun u (hu : Grow w u) => genus0Q u (hT.grow hu))
  have CO := Lib.hid (fun u => count4Q u)
  have HU : Hid (∀ u, Calls Tryz.prog 7 #[.int .i64 12] u fun e w' => ∃ v, e = .returned (.tuple #[v, .int .i64 0]) ∧ RatR w' v (((4 : Int) : Rat) / ((3 : Int) : Rat)) ∧ Grow u w') := Lib.hid (fun u => by
    have h := hurwitzQ 12 (by omega) (by omega) u
    rw [show (((hwN 12 : Nat) : Int) / ((6 : Int) : Rat) : Rat) = ((4 : Int) : Rat) / ((3 : Int) : Rat) by decide +kernel] at h
    exact h)
  have hq : QdOK (-23) := ⟨by decide, by decide, by decide +kernel⟩
  have BQ : Hid (∀ u, Grow w u → Calls Tryz.prog 11 #[.int .i64 1, .int .i64 (-23)] u fun e w' => ∃ v, e = .returned (.tuple #[v, .int .i64 0]) ∧ RatR w' v ((-3 : Int) : Rat) ∧ Grow u w') := Lib.hid (fun u hu => (bquadQ (-23) u (hT.grow hu)).mono (by
    rintro e w' ⟨⟨v, z, rfl, hz, -, hv⟩, hg⟩
    rw [show bqN (-23) = ((-3 : Int) : Rat) by decide +kernel] at hv
    exact ⟨v, by rw [hz.2 hq], hv hq, hg⟩))
  have FR : Hid (∀ u, Calls Tryz.prog 16 #[.int .i64 4, .int .i64 3] u fun e w' => ∃ v, e = .returned v ∧ RatR w' v (((4 : Int) : Rat) / ((3 : Int) : Rat)) ∧ Grow u w') := Lib.hid (fun u => frac3Q 4 (by decide) u)
  have QM := Lib.hid (fun u => qbQ (-3) (by decide) u)
  clear hq hT
  go_enter Tryz.func5, Tryz.ntmps5
  go_upto_region 3 with (first
    | (go_at_call 14; (with_reducible refine (GE.out _ (by (repeat (first | with_reducible exact Grow.refl _ | with_reducible refine Grow.alloc ?_ _ | with_reducible refine Grow.drew ?_ | with_reducible refine Grow.drewN ?_ _ | (with_reducible refine Grow.setCell ?_ ?hp _; (case hp => (simp; try omega))) | with_reducible refine Grow.trans ?_ (by assumption))))).mono ?_); (rintro e u2 ⟨rfl, hb2⟩))
    | (go_at_call 15; (with_reducible refine (CO.out _).mono ?_); (rintro e u3 ⟨rfl, hb3⟩)))
  have hg3 : Grow w u3 := hb2.trans hb3
  clear hb2 hb3
  go_upto_region 4 with (go_at_call 7; (with_reducible refine (HU.out _).mono ?_); (rintro e u4 ⟨v4, rfl, hv4, hb4⟩; obtain ⟨s4, a4, l4, c4, t4, b4, k4, e4, rfl⟩ := hv4.form; have HV4 := Lib.hid hv4; have HG4 := Lib.hid hb4; clear hv4 hb4))
  obtain ⟨W5, hW5⟩ : ∃ W5 : World, W5 = u4.alloc (.cells #[.bool s4, .slice a4 l4 c4, .bool t4, .slice b4 k4 e4] 27) := ⟨_, rfl⟩
  rw [← hW5]
  have hg5 := ag hW5
  have K5 := Lib.hid (ak4 hW5)
  have HV5 := Lib.hid (HV4.out.grow hg5)
  have HG5 : Hid (Grow w W5) := Lib.hid (hg3.trans (HG4.out.trans hg5))
  clear hW5 hg5 hg3 HV4 HG4
  go_upto_region 5 with (go_at_call 11; (with_reducible refine (BQ.out _ HG5.out).mono ?_); (rintro e u8 ⟨v8, rfl, hv8, hb8⟩; obtain ⟨s8, a8, l8, c8, t8, b8, k8, e8, rfl⟩ := hv8.form; have HV8 := Lib.hid hv8; have HG8 := Lib.hid hb8; clear hv8 hb8))
  obtain ⟨W9, hW9⟩ : ∃ W9 : World, W9 = u8.alloc (.cells #[.bool s8, .slice a8 l8 c8, .bool t8, .slice b8 k8 e8] 27) := ⟨_, rfl⟩
  rw [← hW9]
  have hg9 := ag hW9
  have D1 := Lib.hid (ak4 hW9)
  have D0 := Lib.hid (fun (u : World) (hu : Grow W9 u) => K5.out u (HG8.out.trans (hg9.trans hu)))
  have SA := Lib.hid (fun (v : Value) (u : World) (hu : Grow W9 u) (h : RatR u v (((4 : Int) : Rat) / ((3 : Int) : Rat))) => sameRatQ _ _ v u ((HV5.out.grow (HG8.out.trans hg9)).grow hu) h)
  have SB := Lib.hid (fun (v : Value) (u : World) (hu : Grow W9 u) (h : RatR u v ((-3 : Int) : Rat)) => sameRatQ _ _ v u ((HV8.out.grow hg9).grow hu) h)
  have HGW := Lib.hid (HG5.out.trans (HG8.out.trans hg9))
  clear hW9 hg9 K5 HV5 HV8 HG5 HG8 GE CO HU BQ
  refine region_held (id := 5) (fun u => Grow W9 u) [0, 1, 2, 3, 4, 5, 6, 7, 8, 9, 10, 11, 12, 13, 14, 15, 16, 17, 18, 19, 20, 21, 22, 23, 24, 25, 26, 27, 28, 29, 30, 31, 32] (kdL [0, 0, 0, 0, 0, 0, 0, 0, 0, 0, 0, 0, 0, 0, 0, 0, 0, 0, 0, 1, 2, 2, 0, 0, 0, 0, 0, 0, 1, 2, 2, 0, 0]) (by kernel_rfl) (by kernel_rfl) (fun t ht => kdL_lt _ t ht) ?hS0q ?_
  case hS0q => ((try dsimp only); (repeat (first | with_reducible exact Grow.refl _ | with_reducible refine Grow.alloc ?_ _ | with_reducible refine Grow.drew ?_ | with_reducible refine Grow.drewN ?_ _ | (with_reducible refine Grow.setCell ?_ ?hp _; (case hp => (simp; try omega))) | with_reducible refine Grow.trans ?_ (by assumption))))
  refine held_quiet (v := ?vq0) rfl rfl (Or.inl ⟨by rfl, ?hyq0⟩) ?_
  case hyq0 => (intro u hu; go_simp; (try with_reducible rfl))
  (try simp only [Act.put, List.setIfInBounds_toArray, List.set_cons_zero, List.set_cons_succ])
  refine held_quiet (v := ?vq1) rfl rfl (Or.inl ⟨by rfl, ?hyq1⟩) ?_
  case hyq1 => (intro u hu; go_simp; (try with_reducible rfl))
  (try simp only [Act.put, List.setIfInBounds_toArray, List.set_cons_zero, List.set_cons_succ])
  refine held_quiet (v := ?vq2) rfl rfl (Or.inl ⟨by rfl, ?hyq2⟩) ?_
  case hyq2 => (intro u hu; go_simp; (try with_reducible rfl))
  (try simp only [Act.put, List.setIfInBounds_toArray, List.set_cons_zero, List.set_cons_succ])
  refine held_quiet (v := ?vq3) rfl rfl (Or.inl ⟨by rfl, ?hyq3⟩) ?_
  case hyq3 => (intro u hu; go_simp; (try with_reducible rfl))
  (try simp only [Act.put, List.setIfInBounds_toArray, List.set_cons_zero, List.set_cons_succ])
  refine held_quiet (v := ?vq4) rfl rfl (Or.inl ⟨by rfl, ?hyq4⟩) ?_
  case hyq4 => (intro u hu; go_simp; (try with_reducible rfl))
  (try simp only [Act.put, List.setIfInBounds_toArray, List.set_cons_zero, List.set_cons_succ])
  refine held_quiet (v := ?vq5) rfl rfl (Or.inl ⟨by rfl, ?hyq5⟩) ?_
  case hyq5 => (intro u hu; go_simp; (try with_reducible rfl))
  (try simp only [Act.put, List.setIfInBounds_toArray, List.set_cons_zero, List.set_cons_succ])
  refine held_quiet (v := ?vq6) rfl rfl (Or.inl ⟨by rfl, ?hyq6⟩) ?_
  case hyq6 => (intro u hu; go_simp; (try with_reducible rfl))
  (try simp only [Act.put, List.setIfInBounds_toArray, List.set_cons_zero, List.set_cons_succ])
  refine held_quiet (v := ?vq7) rfl rfl (Or.inl ⟨by rfl, ?hyq7⟩) ?_
  case hyq7 => (intro u hu; go_simp; (try with_reducible rfl))
  (try simp only [Act.put, List.setIfInBounds_toArray, List.set_cons_zero, List.set_cons_succ])
  refine held_quiet (v := ?vq8) rfl rfl (Or.inl ⟨by rfl, ?hyq8⟩) ?_
  case hyq8 => (intro u hu; go_simp; (try with_reducible rfl))
  (try simp only [Act.put, List.setIfInBounds_toArray, List.set_cons_zero, List.set_cons_succ])
  refine held_quiet (v := ?vq9) rfl rfl (Or.inl ⟨by rfl, ?hyq9⟩) ?_
  case hyq9 => (intro u hu; go_simp; (try with_reducible rfl))
  (try simp only [Act.put, List.setIfInBounds_toArray, List.set_cons_zero, List.set_cons_succ])
  refine held_quiet (v := ?vq10) rfl rfl (Or.inl ⟨by rfl, ?hyq10⟩) ?_
  case hyq10 => (intro u hu; go_simp; (try with_reducible rfl))
  (try simp only [Act.put, List.setIfInBounds_toArray, List.set_cons_zero, List.set_cons_succ])
  refine held_quiet (v := ?vq11) rfl rfl (Or.inl ⟨by rfl, ?hyq11⟩) ?_
  case hyq11 => (intro u hu; go_simp; (try with_reducible rfl))
  (try simp only [Act.put, List.setIfInBounds_toArray, List.set_cons_zero, List.set_cons_succ])
  refine held_quiet (v := ?vq12) rfl rfl (Or.inl ⟨by rfl, ?hyq12⟩) ?_
  case hyq12 => (intro u hu; go_simp; (try with_reducible rfl))
  (try simp only [Act.put, List.setIfInBounds_toArray, List.set_cons_zero, List.set_cons_succ])
  refine held_quiet (v := ?vq13) rfl rfl (Or.inl ⟨by rfl, ?hyq13⟩) ?_
  case hyq13 => (intro u hu; go_simp; (try with_reducible rfl))
  (try simp only [Act.put, List.setIfInBounds_toArray, List.set_cons_zero, List.set_cons_succ])
  refine held_quiet (v := ?vq14) rfl rfl (Or.inl ⟨by rfl, ?hyq14⟩) ?_
  case hyq14 => (intro u hu; go_simp; (try with_reducible rfl))
  (try simp only [Act.put, List.setIfInBounds_toArray, List.set_cons_zero, List.set_cons_succ])
  refine held_quiet (v := ?vq15) rfl rfl (Or.inl ⟨by rfl, ?hyq15⟩) ?_
  case hyq15 => (intro u hu; go_simp; (try with_reducible rfl))
  (try simp only [Act.put, List.setIfInBounds_toArray, List.set_cons_zero, List.set_cons_succ])
  refine held_quiet (v := ?vq16) rfl rfl (Or.inl ⟨by rfl, ?hyq16⟩) ?_
  case hyq16 => (intro u hu; go_simp; (try with_reducible rfl))
  (try simp only [Act.put, List.setIfInBounds_toArray, List.set_cons_zero, List.set_cons_succ])
  refine held_quiet (v := ?vq17) rfl rfl (Or.inl ⟨by rfl, ?hyq17⟩) ?_
  case hyq17 => (intro u hu; go_simp; (try with_reducible rfl))
  (try simp only [Act.put, List.setIfInBounds_toArray, List.set_cons_zero, List.set_cons_succ])
  refine held_quiet (v := ?vq18) rfl rfl (Or.inl ⟨by rfl, ?hyq18⟩) ?_
  case hyq18 => (intro u hu; go_simp; (try with_reducible rfl))
  (try simp only [Act.put, List.setIfInBounds_toArray, List.set_cons_zero, List.set_cons_succ])
  refine held_read (v := ?vq19) rfl rfl (Or.inl ⟨by rfl, ?hyq19⟩) ?_
  case hyq19 => (intro u hu; obtain ⟨f0, f1, f2, f3, f4, f5⟩ := D0.out u hu; obtain ⟨g0, g1, g2, g3, g4, g5⟩ := D1.out u hu; go_simp; (try with_reducible rfl))
  (try simp only [Act.put, List.setIfInBounds_toArray, List.set_cons_zero, List.set_cons_succ])
  refine held_op rfl rfl (fun K hK => ?_)
  go_simp
  (go_at_call 16; (with_reducible refine (FR.out _).mono ?_); (rintro x u45 ⟨v45, rfl, hv45, hb45⟩; obtain ⟨s45, a45, l45, c45, t45, b45, k45, e45, rfl⟩ := hv45.form; have HV45 := Lib.hid hv45; clear hv45))
  (try go_wp2_with fail)
  refine hK.out _ _ ?hSq20 ?_
  case hSq20 => ((try dsimp only); (repeat (first | with_reducible exact Grow.refl _ | with_reducible refine Grow.alloc ?_ _ | with_reducible refine Grow.drew ?_ | with_reducible refine Grow.drewN ?_ _ | (with_reducible refine Grow.setCell ?_ ?hp _; (case hp => (simp; try omega))) | with_reducible refine Grow.trans ?_ (by assumption))))
  clear hK K
  (try simp only [Act.put, List.setIfInBounds_toArray, List.set_cons_zero, List.set_cons_succ])
  refine held_op rfl rfl (fun K hK => ?_)
  go_simp
  (go_at_call 10; (with_reducible refine (SA.out _ _ (by (repeat (first | with_reducible exact Grow.refl _ | with_reducible refine Grow.alloc ?_ _ | with_reducible refine Grow.drew ?_ | with_reducible refine Grow.drewN ?_ _ | (with_reducible refine Grow.setCell ?_ ?hp _; (case hp => (simp; try omega))) | with_reducible refine Grow.trans ?_ (by assumption)))) (HV45.out.grow (by (repeat (first | with_reducible exact Grow.refl _ | with_reducible refine Grow.alloc ?_ _ | with_reducible refine Grow.drew ?_ | with_reducible refine Grow.drewN ?_ _ | (with_reducible refine Grow.setCell ?_ ?hp _; (case hp => (simp; try omega))) | with_reducible refine Grow.trans ?_ (by assumption)))))).mono ?_); (rintro e u46 ⟨rfl, hb46⟩))
  (try go_wp2_with fail)
  refine hK.out _ _ ?hSq21 ?_
  case hSq21 => ((try dsimp only); (repeat (first | with_reducible exact Grow.refl _ | with_reducible refine Grow.alloc ?_ _ | with_reducible refine Grow.drew ?_ | with_reducible refine Grow.drewN ?_ _ | (with_reducible refine Grow.setCell ?_ ?hp _; (case hp => (simp; try omega))) | with_reducible refine Grow.trans ?_ (by assumption))))
  clear hK K
  (try simp only [Act.put, List.setIfInBounds_toArray, List.set_cons_zero, List.set_cons_succ])
  refine held_quiet (v := ?vq22) rfl rfl (Or.inl ⟨by rfl, ?hyq22⟩) ?_
  case hyq22 => (intro u hu; go_simp; (try with_reducible rfl))
  (try simp only [Act.put, List.setIfInBounds_toArray, List.set_cons_zero, List.set_cons_succ])
  refine held_quiet (v := ?vq23) rfl rfl (Or.inl ⟨by rfl, ?hyq23⟩) ?_
  case hyq23 => (intro u hu; go_simp; (try with_reducible rfl))
  (try simp only [Act.put, List.setIfInBounds_toArray, List.set_cons_zero, List.set_cons_succ])
  refine held_quiet (v := ?vq24) rfl rfl (Or.inl ⟨by rfl, ?hyq24⟩) ?_
  case hyq24 => (intro u hu; go_simp; (try with_reducible rfl))
  (try simp only [Act.put, List.setIfInBounds_toArray, List.set_cons_zero, List.set_cons_succ])
  refine held_quiet (v := ?vq25) rfl rfl (Or.inl ⟨by rfl, ?hyq25⟩) ?_
  case hyq25 => (intro u hu; go_simp; (try with_reducible rfl))
  (try simp only [Act.put, List.setIfInBounds_toArray, List.set_cons_zero, List.set_cons_succ])
  refine held_quiet (v := ?vq26) rfl rfl (Or.inl ⟨by rfl, ?hyq26⟩) ?_
  case hyq26 => (intro u hu; go_simp; (try with_reducible rfl))
  (try simp only [Act.put, List.setIfInBounds_toArray, List.set_cons_zero, List.set_cons_succ])
  refine held_quiet (v := ?vq27) rfl rfl (Or.inl ⟨by rfl, ?hyq27⟩) ?_
  case hyq27 => (intro u hu; go_simp; (try with_reducible rfl))
  (try simp only [Act.put, List.setIfInBounds_toArray, List.set_cons_zero, List.set_cons_succ])
  refine held_read (v := ?vq28) rfl rfl (Or.inl ⟨by rfl, ?hyq28⟩) ?_
  case hyq28 => (intro u hu; obtain ⟨f0, f1, f2, f3, f4, f5⟩ := D0.out u hu; obtain ⟨g0, g1, g2, g3, g4, g5⟩ := D1.out u hu; go_simp; (try with_reducible rfl))
  (try simp only [Act.put, List.setIfInBounds_toArray, List.set_cons_zero, List.set_cons_succ])
  refine held_op rfl rfl (fun K hK => ?_)
  go_simp
  (go_at_call 6; (with_reducible refine (QM.out _).mono ?_); (rintro x u54 ⟨v54, rfl, hv54, hb54⟩; obtain ⟨s54, a54, l54, c54, t54, b54, k54, e54, rfl⟩ := hv54.form; have HV54 := Lib.hid hv54; clear hv54))
  (try go_wp2_with fail)
  refine hK.out _ _ ?hSq29 ?_
  case hSq29 => ((try dsimp only); (repeat (first | with_reducible exact Grow.refl _ | with_reducible refine Grow.alloc ?_ _ | with_reducible refine Grow.drew ?_ | with_reducible refine Grow.drewN ?_ _ | (with_reducible refine Grow.setCell ?_ ?hp _; (case hp => (simp; try omega))) | with_reducible refine Grow.trans ?_ (by assumption))))
  clear hK K
  (try simp only [Act.put, List.setIfInBounds_toArray, List.set_cons_zero, List.set_cons_succ])
  refine held_op rfl rfl (fun K hK => ?_)
  go_simp
  (go_at_call 10; (with_reducible refine (SB.out _ _ (by (repeat (first | with_reducible exact Grow.refl _ | with_reducible refine Grow.alloc ?_ _ | with_reducible refine Grow.drew ?_ | with_reducible refine Grow.drewN ?_ _ | (with_reducible refine Grow.setCell ?_ ?hp _; (case hp => (simp; try omega))) | with_reducible refine Grow.trans ?_ (by assumption)))) (HV54.out.grow (by (repeat (first | with_reducible exact Grow.refl _ | with_reducible refine Grow.alloc ?_ _ | with_reducible refine Grow.drew ?_ | with_reducible refine Grow.drewN ?_ _ | (with_reducible refine Grow.setCell ?_ ?hp _; (case hp => (simp; try omega))) | with_reducible refine Grow.trans ?_ (by assumption)))))).mono ?_); (rintro e u55 ⟨rfl, hb55⟩))
  (try go_wp2_with fail)
  refine hK.out _ _ ?hSq30 ?_
  case hSq30 => ((try dsimp only); (repeat (first | with_reducible exact Grow.refl _ | with_reducible refine Grow.alloc ?_ _ | with_reducible refine Grow.drew ?_ | with_reducible refine Grow.drewN ?_ _ | (with_reducible refine Grow.setCell ?_ ?hp _; (case hp => (simp; try omega))) | with_reducible refine Grow.trans ?_ (by assumption))))
  clear hK K
  (try simp only [Act.put, List.setIfInBounds_toArray, List.set_cons_zero, List.set_cons_succ])
  refine held_quiet (v := ?vq31) rfl rfl (Or.inl ⟨by rfl, ?hyq31⟩) ?_
  case hyq31 => (intro u hu; go_simp; (try with_reducible rfl))
  (try simp only [Act.put, List.setIfInBounds_toArray, List.set_cons_zero, List.set_cons_succ])
  refine held_quiet (v := ?vq32) rfl rfl (Or.inl ⟨by rfl, ?hyq32⟩) ?_
  case hyq32 => (intro u hu; go_simp; (try with_reducible rfl))
  (try simp only [Act.put, List.setIfInBounds_toArray, List.set_cons_zero])
  refine held_done ?_
  go_simp
  go_wp2_with fail
  go_ret
  exact ⟨rfl, HGW.out.trans (by (repeat (first | with_reducible exact Grow.refl _ | with_reducible refine Grow.alloc ?_ _ | with_reducible refine Grow.drew ?_ | with_reducible refine Grow.drewN ?_ _ | (with_reducible refine Grow.setCell ?_ ?hp _; (case hp => (simp; try omega))) | with_reducible refine Grow.trans ?_ (by assumption))))⟩
end Go.Proofs.YtbpkfcohbefphaaGreatDoor
