/- Lemmas, plain laws and walks that the statement LwThreeSquares leans on (texts HwC, HwD, HwE), conditions as each theorem says. -/
import Derived.Test.YtbpkfcohbefphaaGreatTopThreeSquaresG23
import Derived.Test.YtbpkfcohbefphaaGreatTopThreeSquaresG24

/- Walk of quadform.classes: how many reduced primitive forms it lists. -/
namespace Go.Proofs.YtbpkfcohbefphaaGreat
open Go Go.RowKit

theorem three_sq {n k : Nat} (hn : n ≤ 4000) : (k < sqN (n / 3) → 3 * (k + 1) * (k + 1) ≤ n) ∧ (k = sqN (n / 3) → n < 3 * (k + 1) * (k + 1)) := by
  obtain ⟨h1, h2⟩ := sqN_spec (n := n / 3) (by omega)
  constructor
  · intro h
    have h3 : (k + 1) * (k + 1) ≤ sqN (n / 3) * sqN (n / 3) := Nat.mul_le_mul h h
    have h4 : 3 * (k + 1) * (k + 1) = 3 * ((k + 1) * (k + 1)) := Nat.mul_assoc _ _ _
    omega
  · intro h
    have h4 : 3 * (k + 1) * (k + 1) = 3 * ((k + 1) * (k + 1)) := Nat.mul_assoc _ _ _
    rw [← h] at h2
    omega
set_option maxRecDepth 20000 in
set_option maxHeartbeats 8000000 in
theorem classesQ (n : Nat) (d : Int) (hd : d = -(n : Int)) (h1 : 1 ≤ n) (h2 : n ≤ 4000) (w : World) :
    Calls Tryz.prog 71 #[.int .i64 d] w fun e w' => ∃ av cv, e = .returned (.slice av (clsN n) cv) ∧ Grow w w' := by
  obtain ⟨ir, hir, irz0, irz1, irz2⟩ := info_parts infoQF
  obtain ⟨K, hK⟩ : ∃ K, sqN (n / 3) = K := ⟨_, rfl⟩
  have hKb : K ≤ 36 := by rw [← hK]; exact sq3_le h2
  have HK := Lib.hid hK
  have HD := Lib.hid hd
  have E0 : Hid (IntKind.i64.wrap (-d) = (n : Int) ∧ wrap64 (-d) = (n : Int)) := Lib.hid (by rw [hd, Int.neg_neg]; exact w64n (by omega))
  have HIR := Lib.hid hir
  have HI0 := Lib.hid irz0
  have HI1 := Lib.hid irz1
  have HI2 := Lib.hid irz2
  clear hK hd hir irz0 irz1 irz2
  go_enter Tryz.func71, Tryz.ntmps71
  go_wp2_with fail
  go_loopg [3, 4] 37 (fun gk t3 t4 wr => ∃ (k l a cv : Nat) (av : Option Addr) (xs : List Value), t3 = .slice av l cv ∧ t4 = .int .i64 (a : Int) ∧ k ≤ K ∧ Hid (gk = 37 - k) ∧ Hid (a = k + 1) ∧ Hid (l = clsA n k) ∧ Hid (Grow w wr) ∧ Hid (OwnG wr w.heap.size 141 3 (.slice av l cv) l xs))
  case atStart => exact ⟨0, 0, 1, 0, none, [], rfl, rfl, Nat.zero_le _, Lib.hid rfl, Lib.hid rfl, Lib.hid rfl, Lib.hid (Grow.refl _), Lib.hid (OwnG.nil _ _ _ _)⟩
  case round =>
    obtain ⟨k, l, a, cv, av, xs, rfl, rfl, hk, HGK, HAK, HL, HG, HO⟩ := hrel
    have hak := HAK.out
    obtain ⟨p, hp⟩ : ∃ p : Nat, 3 * a = p := ⟨_, rfl⟩
    obtain ⟨s, hs⟩ : ∃ s : Nat, p * a = s := ⟨_, rfl⟩
    have hpb : p ≤ 111 := by omega
    have hsb : s ≤ 111 * 37 := by rw [← hs]; exact Nat.mul_le_mul hpb (by omega)
    have E1 : Hid (IntKind.i64.wrap (3 * (a : Int)) = (p : Int) ∧ wrap64 (3 * (a : Int)) = (p : Int)) := Lib.hid (by rw [show 3 * (a : Int) = (p : Int) by omega]; exact w64n (by omega))
    have E2 : Hid (IntKind.i64.wrap ((p : Int) * (a : Int)) = (s : Int) ∧ wrap64 ((p : Int) * (a : Int)) = (s : Int)) := Lib.hid (by rw [show (p : Int) * (a : Int) = (s : Int) by rw [← hs]; simp]; exact w64n (by omega))
    have hts := three_sq (n := n) (k := k) h2
    have hse : 3 * (k + 1) * (k + 1) = s := by rw [← hs, ← hp, hak]
    rw [hse, HK.out] at hts
    have HTS := Lib.hid hts
    clear hp hs hak hse hts
    by_cases hkk : k = K
    · have hnl : decide (s ≤ n) = false := by have := HTS.out.2 hkk; simp; omega
      have hnl2 : decide ((s : Int) ≤ (n : Int)) = false := by have := HTS.out.2 hkk; simp; omega
      have hlK : l = clsN n := by rw [HL.out, hkk, ← HK.out]; rfl
      have HLK := Lib.hid hlK
      clear hlK hkk
      obtain ⟨e1, e2⟩ := E1.out
      obtain ⟨e3, e4⟩ := E2.out
      obtain ⟨e5, e6⟩ := E0.out
      go_wp2_with fail
      go_ret
      first | exact ⟨av, ⟨cv, by rw [← HLK.out]; rfl⟩, HG.out⟩ | exact ⟨av, cv, by rw [← HLK.out]; rfl, HG.out⟩
    · have hle : s ≤ n := HTS.out.1 (by omega)
      have hle2 : decide ((s : Int) ≤ (n : Int)) = true := by simp; omega
      obtain ⟨z0, hz0⟩ : ∃ z, 1 - (a : Int) = z := ⟨_, rfl⟩
      have ha37 : a ≤ 36 := by have := HAK.out; omega
      have ha1 : 1 ≤ a := by have := HAK.out; omega
      have E3 : Hid (IntKind.i64.wrap (1 - (a : Int)) = z0 ∧ wrap64 (1 - (a : Int)) = z0) := Lib.hid (by rw [hz0]; exact w64n (by omega))
      have HZ0 := Lib.hid hz0
      obtain ⟨f4, hf4⟩ : ∃ f : Nat, 4 * a = f := ⟨_, rfl⟩
      have E4 : Hid (IntKind.i64.wrap (4 * (a : Int)) = (f4 : Int) ∧ wrap64 (4 * (a : Int)) = (f4 : Int)) := Lib.hid (by rw [show 4 * (a : Int) = (f4 : Int) by omega]; exact w64n (by omega))
      have HF4 := Lib.hid hf4
      have hf40 : ¬ ((f4 : Int) = 0) := by omega
      have hf41 : ¬ (f4 = 0) := by omega
      have hlb : l ≤ 1332 := by
        have h3 := clsA_le n k
        have h4 : k * (k + 1) ≤ 36 * 37 := Nat.mul_le_mul (by omega) (by omega)
        have := HL.out; omega
      clear hz0 hf4
      obtain ⟨e1, e2⟩ := E1.out
      obtain ⟨e3, e4⟩ := E2.out
      obtain ⟨e5, e6⟩ := E0.out
      obtain ⟨e7, e8⟩ := E3.out
      go_wp2_with fail
      clear e1 e2 e3 e4 e5 e6 e7 e8 hle hle2
      go_loopg [3, 5] (2 * a) (fun gk2 t3 t5 wx => ∃ (i l2 cv : Nat) (z : Int) (av : Option Addr) (xs : List Value), t3 = .slice av l2 cv ∧ t5 = .int .i64 z ∧ i ≤ 2 * a ∧ Hid (gk2 = 2 * a - i) ∧ Hid (z = 1 - (a : Int) + i) ∧ Hid (l2 = l + clsR n a i) ∧ Hid (Grow w wx) ∧ Hid (OwnG wx w.heap.size 141 3 (.slice av l2 cv) l2 xs))
      case atStart => exact ⟨0, l, cv, z0, av, xs, rfl, rfl, Nat.zero_le _, Lib.hid rfl, Lib.hid (by rw [← HZ0.out]; simp), Lib.hid rfl, HG, HO⟩
      case round =>
        clear HG HO
        obtain ⟨i, l2, cv, z, av, xs, rfl, rfl, hi2, HGK2, HZ, HL2, HG, HO⟩ := hrel
        by_cases hii : i = 2 * a
        · have y1 : decide (z ≤ (a : Int)) = false := by have := HZ.out; simp; omega
          have E5 := Lib.hid (inc_wrap (i := a) (n := 100) (by omega) (by omega))
          have HA2 : Hid (a + 1 = k + 1 + 1) := Lib.hid (by rw [HAK.out])
          have HLN : Hid (l2 = clsA n (k + 1)) := Lib.hid (by rw [HL2.out, HL.out, hii, HAK.out]; rfl)
          clear hii
          obtain ⟨e1, e2⟩ := E5.out
          go_wp2_with fail
          clear e1 e2
          go_roundg (37 - (k + 1))
          case measure => have := HGK.out; omega
          case rel => exact ⟨k + 1, l2, a + 1, cv, av, xs, rfl, rfl, by omega, Lib.hid rfl, HA2, HLN, HG, HO⟩
        · have hi : i < 2 * a := by omega
          have y1 : decide (z ≤ (a : Int)) = true := by have := HZ.out; simp; omega
          have hzb : z.natAbs ≤ 36 := by have := HZ.out; omega
          obtain ⟨zz, hzz⟩ : ∃ m, z * z = m := ⟨_, rfl⟩
          have hzz1 : zz.natAbs ≤ 1296 := by rw [← hzz]; exact abs_mul_le hzb hzb (by decide)
          have hzz0 : 0 ≤ zz := by rw [← hzz]; exact sq_nonneg z
          obtain ⟨q, hq⟩ : ∃ m, zz - d = m := ⟨_, rfl⟩
          have hqn : q = zz + n := by rw [← hq, HD.out]; omega
          have E5 : Hid (IntKind.i64.wrap (z * z) = zz ∧ wrap64 (z * z) = zz) := Lib.hid (by rw [hzz]; exact w64n (by omega))
          have E6 : Hid (IntKind.i64.wrap (zz - d) = q ∧ wrap64 (zz - d) = q) := Lib.hid (by rw [hq]; exact w64n (by omega))
          obtain ⟨m, hm⟩ : ∃ m, Int.tmod q (f4 : Int) = m := ⟨_, rfl⟩
          have hmn : m = (z * z + n) % (4 * a) := by rw [← hm, Int.tmod_eq_emod_of_nonneg (by omega), hqn, hzz, ← HF4.out]; simp
          have hmb : 0 ≤ m ∧ m < 1000 := by
            have h3 := Int.emod_nonneg q hf40
            have h4 := Int.emod_lt_of_pos q (show (0 : Int) < (f4 : Int) by omega)
            have h5 : m = q % (f4 : Int) := by rw [← hm, Int.tmod_eq_emod_of_nonneg (by omega)]
            have := HF4.out
            omega
          have E7 : Hid (Int.tmod q (f4 : Int) = m) := Lib.hid hm
          have E8 := Lib.hid (w64n (n := m) (by omega))
          obtain ⟨z1, hz1⟩ : ∃ m, z + 1 = m := ⟨_, rfl⟩
          have E9 : Hid (IntKind.i64.wrap (z + 1) = z1 ∧ wrap64 (z + 1) = z1) := Lib.hid (by rw [hz1]; exact w64n (by omega))
          have HZ1 : Hid (z1 = 1 - (a : Int) + ((i + 1 : Nat) : Int)) := Lib.hid (by rw [← hz1, HZ.out]; omega)
          have HCB : Hid (clsR n a (i + 1) = clsR n a i + if clsB n a z = true then 1 else 0) := Lib.hid (by rw [HZ.out]; rfl)
          have HQ := Lib.hid hqn
          have HM := Lib.hid hmn
          have HZZ := Lib.hid hzz
          have hq0 : 0 ≤ q := by omega
          have hqb : q ≤ 6000 := by omega
          clear hzz hq hm hmn hqn hz1 hii
          by_cases hm0 : m = 0
          · subst hm0
            obtain ⟨c, hc⟩ : ∃ m, Int.tdiv q (f4 : Int) = m := ⟨_, rfl⟩
            have hcd : c = q / (f4 : Int) := by rw [← hc, Int.tdiv_eq_ediv_of_nonneg hq0]
            have hcn : c = (z * z + n) / (4 * a) := by rw [hcd, HQ.out, HZZ.out, ← HF4.out]; simp
            have hcb : 0 ≤ c ∧ c ≤ 6000 := by
              rw [hcd]
              exact ⟨Int.ediv_nonneg hq0 (by omega), Int.le_trans (Int.ediv_le_self _ hq0) hqb⟩
            have E10 : Hid (Int.tdiv q (f4 : Int) = c) := Lib.hid hc
            have E11 := Lib.hid (w64n (n := c) (by omega))
            obtain ⟨g, hg⟩ : ∃ g, Int.gcd (Int.gcd (a : Int) z) c = g := ⟨_, rfl⟩
            have CT := Lib.hid (fun u => contentQ (a : Int) z c (by omega) (by omega) (by omega) u)
            rw [hg] at CT
            have hgb : g ≤ 6000 := by
              rw [← hg]
              rcases Nat.eq_zero_or_pos (Int.gcd (Int.gcd (a : Int) z) c) with h0 | h0
              · omega
              · have h5 : Int.gcd (a : Int) z ≤ 36 := Nat.le_trans (Nat.le_of_dvd (by omega) (Int.gcd_dvd_natAbs_left _ _)) (by simp; omega)
                have h6 : 0 < Int.gcd (a : Int) z := by
                  rcases Nat.eq_zero_or_pos (Int.gcd (a : Int) z) with h7 | h7
                  · have := (Int.gcd_eq_zero_iff.1 h7).1; omega
                  · exact h7
                exact Nat.le_trans (Nat.le_of_dvd (by omega) (Int.gcd_dvd_natAbs_left _ _)) (by simp; omega)
            have hcls : clsB n a z = (decide ((a : Int) ≤ c) && !(decide (c = (a : Int)) && decide (z < 0)) && decide (g ≤ 1)) := by
              unfold clsB
              rw [← hcn, hg, ← HM.out]
              simp
            have HCLS := Lib.hid hcls
            have hcase : ((decide (c < (a : Int)) = true ∧ clsB n a z = false) ∨ (decide (c < (a : Int)) = false ∧ (c == (a : Int)) = true ∧ decide (z < 0) = true ∧ clsB n a z = false) ∨
                (decide (c < (a : Int)) = false ∧ (c == (a : Int)) = true ∧ decide (z < 0) = false ∧ decide ((g : Int) > 1) = true ∧ clsB n a z = false) ∨ (decide (c < (a : Int)) = false ∧ (c == (a : Int)) = false ∧ decide ((g : Int) > 1) = true ∧ clsB n a z = false)) ∨
                ((decide (c < (a : Int)) = false ∧ (c == (a : Int)) = true ∧ decide (z < 0) = false ∧ decide ((g : Int) > 1) = false ∧ clsB n a z = true) ∨ (decide (c < (a : Int)) = false ∧ (c == (a : Int)) = false ∧ decide ((g : Int) > 1) = false ∧ clsB n a z = true)) := by
              rw [hcls]
              simp
              omega
            clear hc hcd hcn hg hcls HCLS
            rcases hcase with hA | hB
            · rcases hA with ⟨o1, hcb2⟩ | ⟨o1, o2, o3, hcb2⟩ | ⟨o1, o2, o3, o4, hcb2⟩ | ⟨o1, o2, o4, hcb2⟩
              all_goals
                have HNB : Hid (l2 = l + clsR n a (i + 1)) := Lib.hid (by rw [HCB.out, hcb2, HL2.out]; simp)
                clear hcb2
                obtain ⟨e1, e2⟩ := E4.out
                obtain ⟨e3, e4⟩ := E5.out
                obtain ⟨e5, e6⟩ := E6.out
                have e7 := E7.out
                have e8 := E10.out
                obtain ⟨e9, e10⟩ := E11.out
                go_upto_region 10 with fail
                obtain ⟨W9, hW9⟩ : ∃ W9 : World, W9 = wr.alloc (.cells #[.int .i64 (a : Int), .int .i64 z, .int .i64 c] 141) := ⟨_, rfl⟩
                rw [← hW9]
                have hg9 := ag hW9
                obtain ⟨b0, b1, b2, b3, b4⟩ := ak3 hW9 W9 (Grow.refl _)
                clear e1 e2 e3 e4 e5 e6 e7 e8 e9 e10 hW9
                obtain ⟨e1, e2⟩ := E9.out
                go_wp2_with (go_at_call 100; (with_reducible refine (CT.out _).mono ?_); (rintro e u11 ⟨rfl, hb11⟩))
                clear e1 e2
                go_roundg (2 * a - (i + 1))
                case' measure => have := HGK2.out; omega
                case' rel => exact ⟨i + 1, l2, cv, z1, av, xs, rfl, rfl, hi, Lib.hid rfl, HZ1, HNB, Lib.hid (HG.out.trans (hg9.trans (by (repeat (first | with_reducible exact Grow.refl _ | with_reducible refine Grow.alloc ?_ _ | with_reducible refine Grow.drew ?_ | with_reducible refine Grow.drewN ?_ _ | (with_reducible refine Grow.setCell ?_ ?hp _; (case hp => (simp; try omega))) | with_reducible refine Grow.trans ?_ (by assumption)))))), Lib.hid (HO.out.grow (hg9.trans (by (repeat (first | with_reducible exact Grow.refl _ | with_reducible refine Grow.alloc ?_ _ | with_reducible refine Grow.drew ?_ | with_reducible refine Grow.drewN ?_ _ | (with_reducible refine Grow.setCell ?_ ?hp _; (case hp => (simp; try omega))) | with_reducible refine Grow.trans ?_ (by assumption))))))⟩
            · rcases hB with ⟨o1, o2, o3, o4, hcb2⟩ | ⟨o1, o2, o4, hcb2⟩
              all_goals
                have HNB : Hid (l2 + 1 = l + clsR n a (i + 1)) := Lib.hid (by rw [HCB.out, hcb2, HL2.out, if_pos rfl]; omega)
                have hl2b : l2 + 1 ≤ 1000000 := by
                  have h5 := clsR_le n a i
                  have := HL2.out; omega
                clear hcb2
                obtain ⟨e1, e2⟩ := E4.out
                obtain ⟨e3, e4⟩ := E5.out
                obtain ⟨e5, e6⟩ := E6.out
                have e7 := E7.out
                have e8 := E10.out
                obtain ⟨e9, e10⟩ := E11.out
                go_upto_region 10 with fail
                obtain ⟨W9, hW9⟩ : ∃ W9 : World, W9 = wr.alloc (.cells #[.int .i64 (a : Int), .int .i64 z, .int .i64 c] 141) := ⟨_, rfl⟩
                rw [← hW9]
                have hg9 := ag hW9
                have K9 := Lib.hid (ak3 hW9)
                obtain ⟨b0, b1, b2, b3, b4⟩ := K9.out W9 (Grow.refl _)
                clear e1 e2 e3 e4 e5 e6 e7 e8 e9 e10 hW9
                have jir := HIR.out
                have ji0 := HI0.out
                have ji1 := HI1.out
                have ji2 := HI2.out
                go_wp2_with (first
                  | (go_at_call 100; (with_reducible refine (CT.out _).mono ?_); (rintro e u11 ⟨rfl, hb11⟩; obtain ⟨d0, d1, d2, d3, d4⟩ := K9.out u11 (by (repeat (first | with_reducible exact Grow.refl _ | with_reducible refine Grow.alloc ?_ _ | with_reducible refine Grow.drew ?_ | with_reducible refine Grow.drewN ?_ _ | (with_reducible refine Grow.setCell ?_ ?hp _; (case hp => (simp; try omega))) | with_reducible refine Grow.trans ?_ (by assumption)))); have HG11 := Lib.hid (hg9.trans hb11); clear hb11))
                  | (at_builtin; go_loud (refine wpList_append_g _ rfl _ _ 109 rfl 141 ir _ 3 24 Tryz.underlying109 jir ji0 ji1 ji2 rfl (by decide) qf_zero_nu (by decide) w.heap.size _ l2 xs rfl (HO.out.grow (HG11.out.trans (by (repeat (first | with_reducible exact Grow.refl _ | with_reducible refine Grow.alloc ?_ _ | with_reducible refine Grow.drew ?_ | with_reducible refine Grow.drewN ?_ _ | (with_reducible refine Grow.setCell ?_ ?hp _; (case hp => (simp; try omega))) | with_reducible refine Grow.trans ?_ (by assumption)))))) ⟨u11.heap.size, 0, none⟩ 1 [.int .i64 (a : Int), .int .i64 z, .int .i64 c] rfl rfl (qf_news u11 (a : Int) z c 141) (qf_one _ _ _) (qf_nu _ _ _) hl2b (Nat.le_trans (HG.out.trans HG11.out).size (by simp)) ?_)))
                intro v7 w7 hown7 hb7
                obtain ⟨a7, c7, hv7⟩ := hown7.form
                subst hv7
                have hga : Grow wr (u11.alloc (.cells #[.int .i64 (a : Int), .int .i64 z, .int .i64 c] 141)) := HG11.out.trans (by (repeat (first | with_reducible exact Grow.refl _ | with_reducible refine Grow.alloc ?_ _ | with_reducible refine Grow.drew ?_ | with_reducible refine Grow.drewN ?_ _ | (with_reducible refine Grow.setCell ?_ ?hp _; (case hp => (simp; try omega))) | with_reducible refine Grow.trans ?_ (by assumption))))
                have HGL := Lib.hid ((((HG.out.trans hga).but _).trans hb7).asGrow (fun b hb => hb))
                have HOL := Lib.hid hown7
                clear hga hb7 hown7 jir ji0 ji1 ji2 d0 d1 d2 d3 d4 b0 b1 b2 b3 b4
                obtain ⟨e1, e2⟩ := E9.out
                go_wp2_with fail
                clear e1 e2
                go_roundg (2 * a - (i + 1))
                case' measure => have := HGK2.out; omega
                case' rel => exact ⟨i + 1, l2 + 1, c7, z1, a7, _, rfl, rfl, hi, Lib.hid rfl, HZ1, HNB, HGL, HOL⟩
          · have hmne : (m != 0) = true := by simp; exact hm0
            have HNB : Hid (l2 = l + clsR n a (i + 1)) := Lib.hid (by
              have h5 : clsB n a z = false := by unfold clsB; rw [← HM.out]; simp [hm0]
              rw [HCB.out, h5, HL2.out]; simp)
            clear hm0
            obtain ⟨e1, e2⟩ := E4.out
            obtain ⟨e3, e4⟩ := E5.out
            obtain ⟨e5, e6⟩ := E6.out
            have e7 := E7.out
            obtain ⟨e8, e9⟩ := E8.out
            obtain ⟨e10, e11⟩ := E9.out
            go_wp2_with fail
            clear e1 e2 e3 e4 e5 e6 e7 e8 e9 e10 e11
            go_roundg (2 * a - (i + 1))
            case measure => have := HGK2.out; omega
            case rel => exact ⟨i + 1, l2, cv, z1, av, xs, rfl, rfl, hi, Lib.hid rfl, HZ1, HNB, HG, HO⟩
end Go.Proofs.YtbpkfcohbefphaaGreat
/- Walks: rational.Make, quadform.Weighted. -/
namespace Go.Proofs.YtbpkfcohbefphaaGreat
open Go Go.RowKit

set_option maxRecDepth 20000 in
set_option maxHeartbeats 8000000 in
theorem makeQ (y z : Int) (v1 v2 : Value) (h0 : z ≠ 0) (w : World) (h1 : IntR w v1 y) (h2 : IntR w v2 z) :
    Calls Tryz.prog 33 #[v1, v2] w fun e w' => ∃ v, e = .returned (.tuple #[v, .int .i64 0]) ∧ RatR w' v (Rat.divInt y z) ∧ Grow w w' := by
  obtain ⟨s1, a1, l1, c1, rfl⟩ := h1.form
  obtain ⟨s2, a2, l2, c2, rfl⟩ := h2.form
  have SG := Lib.hid (fun u (hu : Grow w u) => signV z _ u (h2.grow hu))
  have OV := Lib.hid (fun u (hu : Grow w u) => overV y z _ _ u (h1.grow hu) (h2.grow hu))
  have hs : (sgI z == 0) = false := by unfold sgI; split <;> (try split) <;> first | rfl | omega
  obtain ⟨sg, hsg⟩ : ∃ x, sgI z = x := ⟨_, rfl⟩
  rw [hsg] at SG hs
  clear h1 h2 hsg
  obtain ⟨W1, hW1⟩ : ∃ W1 : World, W1 = w.alloc (.cells #[.bool s1, .slice a1 l1 c1] 34) := ⟨_, rfl⟩
  obtain ⟨W2, hW2⟩ : ∃ W2 : World, W2 = W1.alloc (.cells #[.bool s2, .slice a2 l2 c2] 34) := ⟨_, rfl⟩
  obtain ⟨W3, hW3⟩ : ∃ W3 : World, W3 = W2.alloc (.cells #[.bool false, .slice none 0 0, .bool false, .slice none 0 0] 36) := ⟨_, rfl⟩
  have hg2 := ag hW2
  have hg3 := ag hW3
  have hgw : Grow w W3 := (ag hW1).trans (hg2.trans hg3)
  have hz1 : W1.heap.size = w.heap.size + 1 := by rw [hW1]; simp
  have hz2 : W2.heap.size = w.heap.size + 1 + 1 := by rw [hW2, World.size_alloc, hz1]
  have K1 := Lib.hid (fun u (hu : Grow W3 u) => ak2 hW1 u (hg2.trans (hg3.trans hu)))
  have K2 := Lib.hid (fun u (hu : Grow W3 u) => ak2 hW2 u (hg3.trans hu))
  have K3 := Lib.hid (ak4 hW3)
  have RC : Hid (RowP W3 W2.heap.size 0 1 (fun _ => none)) := Lib.hid (by rw [hW3]; exact rowp_alloc W2 _)
  rw [hz1] at K2
  rw [hz2] at K3 RC
  have HW1 := Lib.hid hW1
  have HW2 := Lib.hid hW2
  have HW3 := Lib.hid hW3
  clear hW1 hW2 hW3 hz1 hz2 hg2 hg3
  go_enter Tryz.func33, Tryz.ntmps33
  go_upto_region 1 with fail
  rw [← HW1.out, ← HW2.out, ← HW3.out]
  obtain ⟨b0, b1, b2, b3⟩ := K1.out W3 (Grow.refl _)
  obtain ⟨d0, d1, d2, d3⟩ := K2.out W3 (Grow.refl _)
  go_wp2_with (first
    | (go_at_call 56; (with_reducible refine (SG.out _ (by (repeat (first | with_reducible exact Grow.refl _ | with_reducible refine Grow.alloc ?_ _ | with_reducible refine Grow.drew ?_ | with_reducible refine Grow.drewN ?_ _ | (with_reducible refine Grow.setCell ?_ ?hp _; (case hp => (simp; try omega))) | with_reducible refine Grow.trans ?_ (by assumption))))).mono ?_); (rintro e u2 ⟨rfl, hb2⟩; obtain ⟨b0, b1, b2, b3⟩ := K1.out u2 (by (repeat (first | with_reducible exact Grow.refl _ | with_reducible refine Grow.alloc ?_ _ | with_reducible refine Grow.drew ?_ | with_reducible refine Grow.drewN ?_ _ | (with_reducible refine Grow.setCell ?_ ?hp _; (case hp => (simp; try omega))) | with_reducible refine Grow.trans ?_ (by assumption)))); obtain ⟨d0, d1, d2, d3⟩ := K2.out u2 (by (repeat (first | with_reducible exact Grow.refl _ | with_reducible refine Grow.alloc ?_ _ | with_reducible refine Grow.drew ?_ | with_reducible refine Grow.drewN ?_ _ | (with_reducible refine Grow.setCell ?_ ?hp _; (case hp => (simp; try omega))) | with_reducible refine Grow.trans ?_ (by assumption))))))
    | (go_at_call 37; (with_reducible refine (OV.out _ (by (repeat (first | with_reducible exact Grow.refl _ | with_reducible refine Grow.alloc ?_ _ | with_reducible refine Grow.drew ?_ | with_reducible refine Grow.drewN ?_ _ | (with_reducible refine Grow.setCell ?_ ?hp _; (case hp => (simp; try omega))) | with_reducible refine Grow.trans ?_ (by assumption))))).mono ?_); (rintro e u7 ⟨v7, rfl, hv7, hb7⟩; obtain ⟨s7, a7, l7, c7, t7, b7, k7, e7, rfl⟩ := hv7.form; have HV7 := Lib.hid hv7; clear hv7; obtain ⟨q0, q1, q2, q3, qf, qz⟩ := K3.out u7 (by (repeat (first | with_reducible exact Grow.refl _ | with_reducible refine Grow.alloc ?_ _ | with_reducible refine Grow.drew ?_ | with_reducible refine Grow.drewN ?_ _ | (with_reducible refine Grow.setCell ?_ ?hp _; (case hp => (simp; try omega))) | with_reducible refine Grow.trans ?_ (by assumption)))))))
  obtain ⟨h1, h2⟩ := rescell (w := w) (RC.out.grow (show Grow W3 u7 by (repeat (first | with_reducible exact Grow.refl _ | with_reducible refine Grow.alloc ?_ _ | with_reducible refine Grow.drew ?_ | with_reducible refine Grow.drewN ?_ _ | (with_reducible refine Grow.setCell ?_ ?hp _; (case hp => (simp; try omega))) | with_reducible refine Grow.trans ?_ (by assumption))))) (by omega) (hgw.trans (by (repeat (first | with_reducible exact Grow.refl _ | with_reducible refine Grow.alloc ?_ _ | with_reducible refine Grow.drew ?_ | with_reducible refine Grow.drewN ?_ _ | (with_reducible refine Grow.setCell ?_ ?hp _; (case hp => (simp; try omega))) | with_reducible refine Grow.trans ?_ (by assumption))))) HV7.out
  exact bodyPost_ret (v := .tuple #[.agg #[.bool s7, .slice a7 l7 c7, .bool t7, .slice b7 k7 e7], .int .i64 0]) (by rw [results_cell_tmp rfl]; go_simp) rfl ⟨_, rfl, h1, h2⟩
set_option maxRecDepth 20000 in
set_option maxHeartbeats 8000000 in
theorem weightedHQ (n : Nat) (d : Int) (hd : d = -(n : Int)) (h1 : 1 ≤ n) (h2 : n ≤ 4000) (hp : posB n = true) (w : World) :
    Calls Tryz.prog 35 #[.int .i64 d] w fun e w' => ∃ v, e = .returned (.tuple #[v, .int .i64 0]) ∧ RatR w' v ((((clsN n : Nat) : Int) : Rat) / (((unN n : Nat) : Int) : Rat)) ∧ Grow w w' := by
  have PO := Lib.hid (fun u => possQ n d hd h1 h2 u)
  have CL := Lib.hid (fun u => classesQ n d hd h1 h2 u)
  have UN := Lib.hid (fun u => unitsHQ n d hd u)
  rw [if_pos hp] at PO
  obtain ⟨c, hc⟩ : ∃ c, clsN n = c := ⟨_, rfl⟩
  have hcb : c ≤ 1332 := by rw [← hc]; exact clsN_le h2
  obtain ⟨q, hq⟩ : ∃ q, unN n = q := ⟨_, rfl⟩
  have hq0 : 0 < q := by rw [← hq]; exact unN_pos n
  have hq3 : q ≤ 3 := by rw [← hq]; exact unN_le n
  rw [hc] at CL ⊢
  rw [hq] at UN ⊢
  obtain ⟨q2, hq2⟩ : ∃ x, 2 * (q : Int) = x := ⟨_, rfl⟩
  rw [hq2] at UN
  have E1 : Hid (Int.tdiv q2 2 = (q : Int)) := Lib.hid (by rw [← hq2, Int.tdiv_eq_ediv_of_nonneg (by omega)]; omega)
  have E2 := Lib.hid (w64n (n := (q : Int)) (by omega))
  have O1 := Lib.hid (fun u => ofV (c : Int) (by omega) u)
  have O2 := Lib.hid (fun u => ofV (q : Int) (by omega) u)
  have MK := Lib.hid (fun (u : World) (v1 v2 : Value) (h1 : IntR u v1 (c : Int)) (h2 : IntR u v2 (q : Int)) => makeQ (c : Int) (q : Int) v1 v2 (by omega) u h1 h2)
  rw [Rat.divInt_eq_div] at MK
  clear hd hp hc hq hq2
  obtain ⟨W1, hW1⟩ : ∃ W1 : World, W1 = w.alloc (.cells #[.bool false, .slice none 0 0, .bool false, .slice none 0 0] 36) := ⟨_, rfl⟩
  have hg1 := ag hW1
  have K1 := Lib.hid (ak4 hW1)
  have RC : Hid (RowP W1 w.heap.size 0 1 (fun _ => none)) := Lib.hid (by rw [hW1]; exact rowp_alloc w _)
  have HW1 := Lib.hid hW1
  clear hW1
  go_enter Tryz.func35, Tryz.ntmps35
  go_upto_region 1 with fail
  rw [← HW1.out]
  go_upto_region 4 with (go_at_call 70; (with_reducible refine (PO.out _).mono ?_); (rintro e u2 ⟨rfl, rfl⟩))
  have e1 := E1.out
  obtain ⟨e2, e3⟩ := E2.out
  go_wp2_with (first
    | (go_at_call 71; (with_reducible refine (CL.out _).mono ?_); (rintro e u3 ⟨av, cv, rfl, hb3⟩))
    | (go_at_call 72; (with_reducible refine (UN.out _).mono ?_); (rintro e u2 ⟨rfl, rfl⟩))
    | (go_at_call 34; (with_reducible refine (O1.out _).mono ?_); (rintro e u4 ⟨v4, rfl, hv4, hb4⟩; obtain ⟨s4, a4, l4, c4, rfl⟩ := hv4.form; have HV4 := Lib.hid hv4; clear hv4))
    | (go_at_call 34; (with_reducible refine (O2.out _).mono ?_); (rintro e u5 ⟨v5, rfl, hv5, hb5⟩; obtain ⟨s5, a5, l5, c5, rfl⟩ := hv5.form; have HV5 := Lib.hid hv5; clear hv5))
    | (go_at_call 33; (with_reducible refine (MK.out _ _ _ (HV4.out.grow (by (repeat (first | with_reducible exact Grow.refl _ | with_reducible refine Grow.alloc ?_ _ | with_reducible refine Grow.drew ?_ | with_reducible refine Grow.drewN ?_ _ | (with_reducible refine Grow.setCell ?_ ?hp _; (case hp => (simp; try omega))) | with_reducible refine Grow.trans ?_ (by assumption))))) HV5.out).mono ?_); (rintro e u7 ⟨v7, rfl, hv7, hb7⟩; obtain ⟨s7, a7, l7, c7, t7, b7, k7, e7, rfl⟩ := hv7.form; have HV7 := Lib.hid hv7; clear hv7; obtain ⟨q0, q1, q2, q3, qf, qz⟩ := K1.out u7 (by (repeat (first | with_reducible exact Grow.refl _ | with_reducible refine Grow.alloc ?_ _ | with_reducible refine Grow.drew ?_ | with_reducible refine Grow.drewN ?_ _ | (with_reducible refine Grow.setCell ?_ ?hp _; (case hp => (simp; try omega))) | with_reducible refine Grow.trans ?_ (by assumption)))))))
  obtain ⟨h1, h2⟩ := rescell (w := w) (RC.out.grow (show Grow W1 u7 by (repeat (first | with_reducible exact Grow.refl _ | with_reducible refine Grow.alloc ?_ _ | with_reducible refine Grow.drew ?_ | with_reducible refine Grow.drewN ?_ _ | (with_reducible refine Grow.setCell ?_ ?hp _; (case hp => (simp; try omega))) | with_reducible refine Grow.trans ?_ (by assumption))))) (Nat.le_refl _) (hg1.trans (by (repeat (first | with_reducible exact Grow.refl _ | with_reducible refine Grow.alloc ?_ _ | with_reducible refine Grow.drew ?_ | with_reducible refine Grow.drewN ?_ _ | (with_reducible refine Grow.setCell ?_ ?hp _; (case hp => (simp; try omega))) | with_reducible refine Grow.trans ?_ (by assumption))))) HV7.out
  exact bodyPost_ret (v := .tuple #[.agg #[.bool s7, .slice a7 l7 c7, .bool t7, .slice b7 k7 e7], .int .i64 0]) (by rw [results_cell_tmp rfl]; go_simp) rfl ⟨_, rfl, h1, h2⟩
set_option maxRecDepth 20000 in
set_option maxHeartbeats 8000000 in
theorem weightedHN (n : Nat) (d : Int) (hd : d = -(n : Int)) (h1 : 1 ≤ n) (h2 : n ≤ 4000) (hp : posB n = false) (w : World) :
    Calls Tryz.prog 35 #[.int .i64 d] w fun e w' => e = .returned (.tuple #[.agg #[.bool false, .slice none 0 0, .bool false, .slice none 0 0], .int .i64 15]) ∧ Grow w w' := by
  have PO := Lib.hid (fun u => possQ n d hd h1 h2 u)
  rw [hp, if_neg (by decide)] at PO
  clear hd hp
  obtain ⟨W1, hW1⟩ : ∃ W1 : World, W1 = w.alloc (.cells #[.bool false, .slice none 0 0, .bool false, .slice none 0 0] 36) := ⟨_, rfl⟩
  have hg1 := ag hW1
  have K1 := Lib.hid (ak4 hW1)
  have HW1 := Lib.hid hW1
  clear hW1
  go_enter Tryz.func35, Tryz.ntmps35
  go_upto_region 1 with fail
  rw [← HW1.out]
  obtain ⟨q0, q1, q2, q3, qf, qz⟩ := K1.out W1 (Grow.refl _)
  go_wp2_with (go_at_call 70; (with_reducible refine (PO.out _).mono ?_); (rintro e u2 ⟨rfl, rfl⟩))
  exact bodyPost_ret (v := .tuple #[.agg #[.bool false, .slice none 0 0, .bool false, .slice none 0 0], .int .i64 15]) (by rw [results_cell_tmp rfl]; go_simp) rfl ⟨rfl, by have h := hg1; (repeat (first | with_reducible exact Grow.refl _ | with_reducible refine Grow.alloc ?_ _ | with_reducible refine Grow.drew ?_ | with_reducible refine Grow.drewN ?_ _ | (with_reducible refine Grow.setCell ?_ ?hp _; (case hp => (simp; try omega))) | with_reducible refine Grow.trans ?_ (by assumption)))⟩
end Go.Proofs.YtbpkfcohbefphaaGreat
/- Walk: quadform.Hurwitz. -/
namespace Go.Proofs.YtbpkfcohbefphaaGreat
open Go Go.RowKit

theorem rowq_lay {W W' : World} {s t : Bool} {a b : Option Addr} {l c k e : Nat} {ty : TypeId} {x : Rat} (hW : W' = W.alloc (.cells #[.bool s, .slice a l c, .bool t, .slice b k e] ty)) (hx : RatR W (.agg #[.bool s, .slice a l c, .bool t, .slice b k e]) x) : RowQ W' W.heap.size 0 1 (fun _ => x) := by
  obtain ⟨h0, h1, h2, h3, h4, h5⟩ := ak4 hW W' (Grow.refl _)
  refine ⟨h5, h4, fun j hj => ?_⟩
  obtain rfl : j = 0 := by omega
  exact ⟨s, a, l, c, t, b, k, e, ⟨h0, h1, h2, h3⟩, fun y hy => by injection hy with hy; rw [← hy]; exact hx.grow (ag hW)⟩
theorem sq_steps {n k : Nat} (hn : n ≤ 4000) : (k < sqN n → (k + 1) * (k + 1) ≤ n) ∧ (k = sqN n → n < (k + 1) * (k + 1)) := by
  obtain ⟨h1, h2⟩ := sqN_spec (n := n) (by omega)
  exact ⟨fun h => Nat.le_trans (Nat.mul_le_mul h h) h1, fun h => by rw [h]; exact h2⟩
set_option maxRecDepth 20000 in
set_option maxHeartbeats 8000000 in
theorem hurwitzQ (n : Nat) (h1 : 1 ≤ n) (h2 : n ≤ 4000) (w : World) :
    Calls Tryz.prog 8 #[.int .i64 (n : Int)] w fun e w' => ∃ v, e = .returned (.tuple #[v, .int .i64 0]) ∧ RatR w' v (((hwN n : Nat) : Int) / ((6 : Int) : Rat)) ∧ Grow w w' := by
  have OF := Lib.hid (fun u => ofQ 0 (by decide) u)
  obtain ⟨K, hK⟩ : ∃ K, sqN n = K := ⟨_, rfl⟩
  have hKb : K ≤ 63 := by rw [← hK]; exact sq_le4 h2
  have HK := Lib.hid hK
  obtain ⟨dn, hdn⟩ : ∃ dn, -(n : Int) = dn := ⟨_, rfl⟩
  have E0 : Hid (IntKind.i64.wrap (-(n : Int)) = dn ∧ wrap64 (-(n : Int)) = dn) := Lib.hid (by rw [hdn]; exact w64n (by omega))
  have HDN := Lib.hid hdn
  clear hK hdn
  obtain ⟨W1, hW1⟩ : ∃ W1 : World, W1 = w.alloc (.cells #[.bool false, .slice none 0 0, .bool false, .slice none 0 0] 36) := ⟨_, rfl⟩
  have hg1 := ag hW1
  have K1 := Lib.hid (ak4 hW1)
  have RC : Hid (RowP W1 w.heap.size 0 1 (fun _ => none)) := Lib.hid (by rw [hW1]; exact rowp_alloc w _)
  have HW1 := Lib.hid hW1
  clear hW1
  have y1 : decide ((n : Int) < 0) = false := by simp
  have y2 : decide ((n : Int) > 4000) = false := by simp; omega
  have y3 : ((n : Int) == 0) = false := by simp; omega
  go_enter Tryz.func8, Tryz.ntmps8
  go_upto_region 1 with fail
  rw [← HW1.out]
  go_upto_region 6 with (go_at_call 18; (with_reducible refine (OF.out _).mono ?_); (rintro e u2 ⟨v2, rfl, hv2, hb2⟩; obtain ⟨s2, a2, l2, c2, t2, b2, k2, e2, rfl⟩ := hv2.form; have HV2 := Lib.hid hv2; have HG2 := Lib.hid hb2; clear hv2 hb2))
  clear y1 y2 y3
  obtain ⟨W4, hW4⟩ : ∃ W4 : World, W4 = u2.alloc (.cells #[.bool s2, .slice a2 l2 c2, .bool t2, .slice b2 k2 e2] 36) := ⟨_, rfl⟩
  rw [← hW4]
  have HR4 := Lib.hid (rowq_lay hW4 HV2.out)
  have HG4 := Lib.hid (HG2.out.trans (ag hW4))
  have hz2 : w.heap.size < u2.heap.size := (K1.out u2 HG2.out).2.2.2.2.2
  clear hW4
  go_wp2_with fail
  go_loopg [5] K (fun gk t5 wr => ∃ (k e : Nat), t5 = .int .i64 (e : Int) ∧ k ≤ K ∧ Hid (gk = K - k) ∧ Hid (e = k + 1) ∧ Hid (RowQ wr u2.heap.size 0 1 (fun _ => ((hw6 n k : Nat) : Int) / ((6 : Int) : Rat))) ∧ Hid (But (fun y => y = u2.heap.size) W4 wr))
  case atStart => exact ⟨0, 1, rfl, Nat.zero_le _, Lib.hid rfl, Lib.hid rfl, Lib.hid (HR4.out.cong (fun j _ => by rw [show hw6 n 0 = 0 from rfl]; decide +kernel)), Lib.hid (But.refl _ _)⟩
  case round =>
    obtain ⟨k, e, rfl, hk, HGK, HE, HR, HB⟩ := hrel
    have he := HE.out
    obtain ⟨s, hs⟩ : ∃ s : Nat, e * e = s := ⟨_, rfl⟩
    have hsb : s ≤ 64 * 64 := by rw [← hs]; exact Nat.mul_le_mul (by omega) (by omega)
    have hs0 : 0 < s := by rw [← hs]; exact Nat.mul_pos (by omega) (by omega)
    have E1 : Hid (IntKind.i64.wrap ((e : Int) * (e : Int)) = (s : Int) ∧ wrap64 ((e : Int) * (e : Int)) = (s : Int)) := Lib.hid (by rw [show (e : Int) * (e : Int) = (s : Int) by rw [← hs]; simp]; exact w64n (by omega))
    have hst := sq_steps (n := n) (k := k) h2
    have hse : (k + 1) * (k + 1) = s := by rw [← hs, he]
    rw [hse, HK.out] at hst
    have HST := Lib.hid hst
    have HSE := Lib.hid hse
    have hgr : Grow W1 wr := ((HG4.out.but _).trans HB.out).asGrow (fun y hy => by have := HG2.out.size; omega)
    have HGR := Lib.hid hgr
    obtain ⟨s3, a3, l3, c3, t3, b3, k3, e3, ⟨p0, p1, p2, p3⟩, hvb⟩ := RowQ.at4 HR.out (show 0 < 1 by omega)
    rw [Nat.zero_mul, Nat.add_zero] at p0 p1 p2 p3
    have HVB := Lib.hid hvb
    have hlB := HR.out.lt
    have hfB := HR.out.free
    clear hs he hst hse hgr hvb
    by_cases hkk : k = K
    · have hnl : decide (s ≤ n) = false := by have := HST.out.2 hkk; simp; omega
      have hnl2 : decide ((s : Int) ≤ (n : Int)) = false := by have := HST.out.2 hkk; simp; omega
      have hh : hw6 n k = hwN n := by rw [hkk, ← HK.out]; rfl
      have HH := Lib.hid hh
      obtain ⟨q0, q1, q2, q3, qf, qz⟩ := K1.out wr HGR.out
      clear hh hkk
      obtain ⟨e1, e2⟩ := E1.out
      go_wp2_with fail
      clear e1 e2
      obtain ⟨h1, h2⟩ := rescell (w := w) (RC.out.grow HGR.out) (Nat.le_refl _) (hg1.trans HGR.out) HVB.out
      rw [HH.out] at h1
      exact bodyPost_ret (v := .tuple #[.agg #[.bool s3, .slice a3 l3 c3, .bool t3, .slice b3 k3 e3], .int .i64 0]) (by rw [results_cell_tmp rfl]; go_simp) rfl ⟨_, rfl, h1, h2⟩
    · have hkl : k < K := by omega
      have hle : decide (s ≤ n) = true := by have := HST.out.1 (by omega); simp; omega
      have hle2 : decide ((s : Int) ≤ (n : Int)) = true := by have := HST.out.1 (by omega); simp; omega
      have hsz : ¬ ((s : Int) = 0) := by omega
      have hsz2 : ¬ (s = 0) := by omega
      obtain ⟨r, hr⟩ : ∃ r, n % s = r := ⟨_, rfl⟩
      have E2 : Hid (Int.tmod (n : Int) (s : Int) = (r : Int)) := Lib.hid (by rw [← hr, Int.natCast_emod]; exact Int.tmod_eq_emod_of_nonneg (by omega))
      have hrb : r ≤ 4000 := by rw [← hr]; exact Nat.le_trans (Nat.mod_le _ _) h2
      have E3 := Lib.hid (w64n (n := (r : Int)) (by omega))
      have E4 := Lib.hid (inc_wrap (i := e) (n := 100) (by have := HE.out; omega) (by omega))
      have HHW : Hid (hw6 n (k + 1) = hw6 n k + if r = 0 ∧ posB (n / s) = true then 6 / unN (n / s) * clsN (n / s) else 0) := Lib.hid (by
        show hw6 n k + (if n % ((k + 1) * (k + 1)) = 0 ∧ posB (n / ((k + 1) * (k + 1))) = true then 6 / unN (n / ((k + 1) * (k + 1))) * clsN (n / ((k + 1) * (k + 1))) else 0) = _
        rw [HSE.out, hr])
      have HRM := Lib.hid hr
      clear hkk hr
      by_cases hr0 : r = 0
      · subst hr0
        obtain ⟨q, hq⟩ : ∃ q, n / s = q := ⟨_, rfl⟩
        have hqs : n = s * q := by
          have h3 := Nat.div_add_mod n s
          rw [HRM.out, hq] at h3
          omega
        have hq1 : 1 ≤ q := by
          rcases Nat.eq_zero_or_pos q with h0 | h0
          · rw [h0, Nat.mul_zero] at hqs; omega
          · exact h0
        have hq4 : q ≤ 4000 := by rw [← hq]; exact Nat.le_trans (Nat.div_le_self _ _) h2
        obtain ⟨dq, hdq⟩ : ∃ d, -(q : Int) = d := ⟨_, rfl⟩
        have E5 : Hid (Int.tdiv dn (s : Int) = dq) := Lib.hid (by
          rw [← HDN.out, Int.neg_tdiv, ← hdq, Int.tdiv_eq_ediv_of_nonneg (by omega), ← Int.natCast_ediv, hq])
        have E6 := Lib.hid (w64n (n := dq) (by omega))
        rw [hq] at HHW
        rcases Bool.eq_false_or_eq_true (posB q) with hp | hp
        · have WG := Lib.hid (fun u => weightedHQ q dq hdq.symm hq1 hq4 hp u)
          rw [wn_six] at WG
          obtain ⟨g6, hg6⟩ : ∃ g, 6 / unN q * clsN q = g := ⟨_, rfl⟩
          have hg6b : g6 ≤ 6 * 1332 := by rw [← hg6]; exact Nat.mul_le_mul (Nat.div_le_self _ _) (clsN_le hq4)
          rw [hg6] at WG HHW
          have hhk : hw6 n (k + 1) = hw6 n k + g6 := by rw [HHW.out, if_pos ⟨rfl, hp⟩]
          obtain ⟨x, hx⟩ : ∃ x, hw6 n k = x := ⟨_, rfl⟩
          have hxb : x ≤ 63 * 7992 := by rw [← hx]; exact Nat.le_trans (hw6_le h2 k) (Nat.mul_le_mul_right _ (by omega))
          rw [hx] at hhk HVB
          have HX := Lib.hid hhk
          have AD : Hid (∀ (u : World) (v1 v2 : Value), RatR u v1 ((x : Int) / ((6 : Int) : Rat)) → RatR u v2 ((g6 : Int) / ((6 : Int) : Rat)) → Calls Tryz.prog 21 #[v1, v2] u fun e w' => ∃ v, e = .returned v ∧ RatR w' v (((hw6 n (k + 1) : Nat) : Int) / ((6 : Int) : Rat)) ∧ Grow u w') := Lib.hid (fun u v1 v2 h3 h4 => by
            rw [hhk, ← six_add]
            exact addQ _ _ v1 v2 ((Sm.mono (sm_div (x : Int) 6 (by omega)) (show (x : Int).natAbs ≤ 503496 by omega) (Nat.le_refl _)).addB (Sm.mono (sm_div (g6 : Int) 6 (by omega)) (show (g6 : Int).natAbs ≤ 7992 by omega) (Nat.le_refl _)) (by omega) (by omega)) u h3 h4)
          have HST2 := Lib.hid (fun (u : World) (hu : Grow wr u) (s : Bool) (a : Option Addr) (l c : Nat) (t : Bool) (b : Option Addr) (k' e' : Nat) (hx : RatR u (.agg #[.bool s, .slice a l c, .bool t, .slice b k' e']) (((hw6 n (k + 1) : Nat) : Int) / ((6 : Int) : Rat))) => (⟨RowP.set (RowP.grow HR.out hu) (show 0 < 1 by omega) hx, But.st4 (X := fun b => b = u2.heap.size) (hu.but _) (.inr rfl) ((RowP.grow HR.out hu).q4 (show 0 < 1 by omega)) s a l c t b k' e'⟩ : _ ∧ _))
          simp only [Nat.zero_mul, Nat.add_zero] at HST2
          have D0 := Lib.hid (fun (u : World) (hg : Grow wr u) => (⟨(hg.cells _ _ hlB).trans p0, (hg.cells _ _ hlB).trans p1, (hg.cells _ _ hlB).trans p2, (hg.cells _ _ hlB).trans p3, fun o => (hg.frees _ _ hlB).trans (hfB o), Nat.lt_of_lt_of_le hlB hg.size⟩ : _ ∧ _ ∧ _ ∧ _ ∧ (∀ o, u.frozen? ⟨u2.heap.size, o, none⟩ = false) ∧ _))
          clear hq hqs hdq hp hg6 hhk hx p0 p1 p2 p3 hfB
          obtain ⟨e1, e2⟩ := E1.out
          have e3 := E2.out
          obtain ⟨e4, e5⟩ := E3.out
          obtain ⟨e6, e7⟩ := E0.out
          have e8 := E5.out
          obtain ⟨e9, e10⟩ := E6.out
          go_upto_region 11 with (go_at_call 35; (with_reducible refine (WG.out _).mono ?_); (rintro e u5 ⟨v5, rfl, hv5, hb5⟩; obtain ⟨s5, a5, l5, c5, t5, b5, k5, e5', rfl⟩ := hv5.form; have HV5 := Lib.hid hv5; have HG5 := Lib.hid hb5; clear hv5 hb5))
          clear e1 e2 e3 e4 e5 e6 e7 e8 e9 e10
          obtain ⟨W6, hW6⟩ : ∃ W6 : World, W6 = u5.alloc (.cells #[.bool s5, .slice a5 l5 c5, .bool t5, .slice b5 k5 e5'] 36) := ⟨_, rfl⟩
          rw [← hW6]
          have HG6 := Lib.hid (HG5.out.trans (ag hW6))
          have HV6 := Lib.hid (HV5.out.grow (ag hW6))
          obtain ⟨x0, x1, x2, x3, x4, x5⟩ := ak4 hW6 W6 (Grow.refl _)
          obtain ⟨d0, d1, d2, d3, d4, d5⟩ := D0.out W6 HG6.out
          clear hW6
          obtain ⟨e1, e2⟩ := E4.out
          go_wp2_with (go_at_call 21; (with_reducible refine (AD.out _ _ _ (HVB.out.grow HG6.out) HV6.out).mono ?_); (rintro e u9 ⟨v9, rfl, hv9, hb9⟩; obtain ⟨s9, a9, l9, c9, t9, b9, k9, e9, rfl⟩ := hv9.form; have HV9 := Lib.hid hv9; clear hv9; obtain ⟨d0, d1, d2, d3, d4, d5⟩ := D0.out u9 (HG6.out.trans hb9)))
          clear e1 e2
          obtain ⟨hst1, hst2⟩ := HST2.out u9 (HG6.out.trans (by (repeat (first | with_reducible exact Grow.refl _ | with_reducible refine Grow.alloc ?_ _ | with_reducible refine Grow.drew ?_ | with_reducible refine Grow.drewN ?_ _ | (with_reducible refine Grow.setCell ?_ ?hp _; (case hp => (simp; try omega))) | with_reducible refine Grow.trans ?_ (by assumption))))) _ _ _ _ _ _ _ _ HV9.out
          go_roundg (K - (k + 1))
          case measure => have := HGK.out; omega
          case rel => exact ⟨k + 1, e + 1, rfl, hkl, Lib.hid rfl, Lib.hid (by rw [HE.out]), Lib.hid (RowP.mono hst1 (Nat.le_refl _) (fun j x hj hx => by rw [if_pos (by omega)]; exact hx)), Lib.hid (HB.out.trans hst2)⟩
        · have WG := Lib.hid (fun u => weightedHN q dq hdq.symm hq1 hq4 hp u)
          have HX : Hid (hw6 n (k + 1) = hw6 n k) := Lib.hid (by rw [HHW.out, if_neg (by rw [hp]; simp)]; rfl)
          clear hq hqs hdq hp p0 p1 p2 p3 hfB
          obtain ⟨e1, e2⟩ := E1.out
          have e3 := E2.out
          obtain ⟨e4, e5⟩ := E3.out
          obtain ⟨e6, e7⟩ := E0.out
          have e8 := E5.out
          obtain ⟨e9, e10⟩ := E6.out
          go_upto_region 11 with (go_at_call 35; (with_reducible refine (WG.out _).mono ?_); (rintro e u5 ⟨rfl, hb5⟩; have HG5 := Lib.hid hb5; clear hb5))
          clear e1 e2 e3 e4 e5 e6 e7 e8 e9 e10
          obtain ⟨e1, e2⟩ := E4.out
          go_wp2_with fail
          clear e1 e2
          go_roundg (K - (k + 1))
          case measure => have := HGK.out; omega
          case rel =>
            have hg9 := HG5.out
            exact ⟨k + 1, e + 1, rfl, hkl, Lib.hid rfl, Lib.hid (by rw [HE.out]), Lib.hid (by rw [HX.out]; exact RowP.grow HR.out (hg9.trans (by (repeat (first | with_reducible exact Grow.refl _ | with_reducible refine Grow.alloc ?_ _ | with_reducible refine Grow.drew ?_ | with_reducible refine Grow.drewN ?_ _ | (with_reducible refine Grow.setCell ?_ ?hp _; (case hp => (simp; try omega))) | with_reducible refine Grow.trans ?_ (by assumption)))))), Lib.hid (HB.out.grow (hg9.trans (by (repeat (first | with_reducible exact Grow.refl _ | with_reducible refine Grow.alloc ?_ _ | with_reducible refine Grow.drew ?_ | with_reducible refine Grow.drewN ?_ _ | (with_reducible refine Grow.setCell ?_ ?hp _; (case hp => (simp; try omega))) | with_reducible refine Grow.trans ?_ (by assumption))))))⟩
      · have hrne : ((r : Int) != 0) = true := by simp; omega
        have HX : Hid (hw6 n (k + 1) = hw6 n k) := Lib.hid (by rw [HHW.out, if_neg (by simp [hr0])]; rfl)
        clear hr0 p0 p1 p2 p3 hfB
        obtain ⟨e1, e2⟩ := E1.out
        have e3 := E2.out
        obtain ⟨e4, e5⟩ := E3.out
        obtain ⟨e6, e7⟩ := E4.out
        go_wp2_with fail
        clear e1 e2 e3 e4 e5 e6 e7
        go_roundg (K - (k + 1))
        case measure => have := HGK.out; omega
        case rel => exact ⟨k + 1, e + 1, rfl, hkl, Lib.hid rfl, Lib.hid (by rw [HE.out]), Lib.hid (by rw [HX.out]; exact HR.out), HB⟩
end Go.Proofs.YtbpkfcohbefphaaGreat
