/- Lemmas, plain laws and walks that the statement LwThreeSquares leans on (texts BiM, BiN), conditions as each theorem says. -/
import Derived.Test.YtbpkfcohbefphaaGreatTopThreeSquaresG04

/- Walks over fractions: over. -/
namespace Go.Proofs.YtbpkfcohbefphaaGreat
open Go Go.RowKit

set_option maxRecDepth 20000 in
set_option maxHeartbeats 16000000 in
theorem over_any (n d : Int) (m1 m2 : Value) (w : World) (h1 : MagR w m1 n.natAbs) (h2 : MagR w m2 d.natAbs) :
    Calls Tryz.prog 37 #[.agg #[.bool (sgB n), m1], .agg #[.bool (sgB d), m2]] w fun e w' => ∃ v, e = .returned v ∧ RatR w' v (Rat.divInt n d) ∧ Grow w w' := by
  obtain ⟨a1, c1, rfl⟩ := h1.form
  obtain ⟨a2, c2, rfl⟩ := h2.form
  obtain ⟨X, hX⟩ : ∃ X, Rat.divInt n d = X := ⟨_, rfl⟩
  rw [hX]
  have N1 := Lib.hid (fun u hu => normal_any n _ u (h1.grow hu))
  have N2 := Lib.hid (fun u hu => normal_any d _ u (h2.grow hu))
  have OV := Lib.hid (OvS.lay h1 h2 34 34 36)
  obtain ⟨nn, hnn⟩ : ∃ nn, n.natAbs = nn := ⟨_, rfl⟩
  obtain ⟨nd, hnd⟩ : ∃ nd, d.natAbs = nd := ⟨_, rfl⟩
  obtain ⟨s1, hs1⟩ : ∃ s, sgB n = s := ⟨_, rfl⟩
  obtain ⟨s2, hs2⟩ : ∃ s, sgB d = s := ⟨_, rfl⟩
  rw [hnn] at N1 h1
  rw [hnd] at N2 h2
  simp only [hnn, hnd, hs1, hs2] at OV
  rw [hs1] at N1 ⊢
  rw [hs2] at N2 ⊢
  rw [hnn]
  rw [hnd]
  have HX := Lib.hid hX
  have HNN := Lib.hid hnn
  have HND := Lib.hid hnd
  have HS1 := Lib.hid hs1
  have HS2 := Lib.hid hs2
  generalize (if nn = 0 then 0 else 1) = l1 at *
  generalize (if nd = 0 then 0 else 1) = l2 at *
  clear h1 h2 hnn hnd hs1 hs2 hX
  go_enter Tryz.func37, Tryz.ntmps37
  have CC := Lib.hid (OvC.lay w s1 s2 a1 l1 c1 a2 l2 c2 34 34 36)
  go_upto_region 1 with fail
  go_cut [] (fun wx => Hid (OvS w n d wx))
  case first =>
    go_region_with (go_at_call 74; first | ((with_reducible refine (N1.out _ (by (repeat (first | with_reducible exact Grow.refl _ | with_reducible refine Grow.alloc ?_ _ | with_reducible refine Grow.drew ?_ | with_reducible refine Grow.drewN ?_ _ | (with_reducible refine Grow.setCell ?_ ?hp _; (case hp => (simp; try omega))) | with_reducible refine Grow.trans ?_ (by assumption))))).mono ?_); (rintro e u4 ⟨m4, rfl, hm4, hb4⟩; obtain ⟨a4, c4, rfl⟩ := hm4.form; generalize (if nn = 0 then 0 else 1) = l4 at hm4 ⊢; have HM4 := Lib.hid hm4; clear hm4; obtain ⟨x204, x214, x304, x314, xf24, xf34, xf44, x404, x414, x424, x434, xz4⟩ := CC.out u4 (by (repeat (first | with_reducible exact Grow.refl _ | with_reducible refine Grow.alloc ?_ _ | with_reducible refine Grow.drew ?_ | with_reducible refine Grow.drewN ?_ _ | (with_reducible refine Grow.setCell ?_ ?hp _; (case hp => (simp; try omega))) | with_reducible refine Grow.trans ?_ (by assumption)))))) | ((with_reducible refine (N2.out _ (by (repeat (first | with_reducible exact Grow.refl _ | with_reducible refine Grow.alloc ?_ _ | with_reducible refine Grow.drew ?_ | with_reducible refine Grow.drewN ?_ _ | (with_reducible refine Grow.setCell ?_ ?hp _; (case hp => (simp; try omega))) | with_reducible refine Grow.trans ?_ (by assumption))))).mono ?_); (rintro e u5 ⟨m5, rfl, hm5, hb5⟩; obtain ⟨a5, c5, rfl⟩ := hm5.form; generalize (if nd = 0 then 0 else 1) = l5 at hm5 ⊢; have HM5 := Lib.hid hm5; clear hm5; obtain ⟨x205, x215, x305, x315, xf25, xf35, xf45, x405, x415, x425, x435, xz5⟩ := CC.out u5 (by (repeat (first | with_reducible exact Grow.refl _ | with_reducible refine Grow.alloc ?_ _ | with_reducible refine Grow.drew ?_ | with_reducible refine Grow.drewN ?_ _ | (with_reducible refine Grow.setCell ?_ ?hp _; (case hp => (simp; try omega))) | with_reducible refine Grow.trans ?_ (by assumption)))))))
    all_goals go_wp2
    all_goals go_meet
    all_goals (have q4 := HM4.out.grow hb5; rw [← HNN.out] at q4; have q5 := HM5.out; rw [← HND.out] at q5; rw [← HS1.out, ← HS2.out]; exact Lib.hid (OvS.put (OV.out.grow (by (repeat (first | with_reducible exact Grow.refl _ | with_reducible refine Grow.alloc ?_ _ | with_reducible refine Grow.drew ?_ | with_reducible refine Grow.drewN ?_ _ | (with_reducible refine Grow.setCell ?_ ?hp _; (case hp => (simp; try omega))) | with_reducible refine Grow.trans ?_ (by assumption))))) q4 q5))
  case rest =>
    clear CC N1 N2 OV HNN HND HS1 HS2
    obtain ⟨wx, rfl⟩ : ∃ wx, wx = wc := ⟨_, rfl⟩
    have OV := hcut
    clear hcut
    have hgx := OV.out.1
    go_upto_block 0 with fail
    go_cut [] (fun wy => ∃ n' d' : Int, Hid (0 < d' ∧ n' ≠ 0 ∧ Rat.divInt n' d' = X) ∧ Hid (OvS w n' d' wy))
    case first =>
      obtain ⟨a0, l0, c0, b0, k0, e0, hm0, hn0, cc0⟩ := OV.out.read
      have CC0 := Lib.hid cc0
      clear cc0
      obtain ⟨y200, y210, y300, y310, yf20, yf30, yf40, y400, y410, y420, y430, yz0⟩ := CC0.out wx (Grow.refl _)
      obtain ⟨nn, hnn⟩ : ∃ nn, n.natAbs = nn := ⟨_, rfl⟩
      obtain ⟨nd, hnd⟩ : ∃ nd, d.natAbs = nd := ⟨_, rfl⟩
      by_cases hd0 : d = 0
      · have hl : k0 = 0 := by subst hd0; exact hn0.len0
        subst hl
        have hX0 : Rat.divInt n d = 0 := by rw [hd0]; exact Rat.divInt_zero n
        have HX0 := Lib.hid hX0
        clear hm0 hn0 hd0 hX0 hnn hnd
        have OF1 := Lib.hid (fun u => of_any 1 (by decide) u)
        rw [show sgB 1 = false from rfl, show Int.natAbs 1 = 1 from rfl] at OF1
        go_wp2_with (go_at_call 34; (with_reducible refine (OF1.out _).mono ?_); (rintro e u6 ⟨m6, rfl, hm6, hb6⟩; obtain ⟨a6, c6, rfl⟩ := hm6.form; rw [if_neg (by decide)] at hm6 ⊢; have HM6 := Lib.hid hm6; clear hm6; obtain ⟨y206, y216, y306, y316, yf26, yf36, yf46, y406, y416, y426, y436, yz6⟩ := CC0.out u6 (by (repeat (first | with_reducible exact Grow.refl _ | with_reducible refine Grow.alloc ?_ _ | with_reducible refine Grow.drew ?_ | with_reducible refine Grow.drewN ?_ _ | (with_reducible refine Grow.setCell ?_ ?hp _; (case hp => (simp; try omega))) | with_reducible refine Grow.trans ?_ (by assumption))))))
        refine bodyPost_ret (v := .agg #[.bool false, .slice none 0 0, .bool false, .slice a6 1 c6]) (by rw [results_one rfl]; go_simp) rfl ⟨_, rfl, ?_, by (repeat (first | with_reducible exact Grow.refl _ | with_reducible refine Grow.alloc ?_ _ | with_reducible refine Grow.drew ?_ | with_reducible refine Grow.drewN ?_ _ | (with_reducible refine Grow.setCell ?_ ?hp _; (case hp => (simp; try omega))) | with_reducible refine Grow.trans ?_ (by assumption)))⟩
        rw [← HX.out, HX0.out]
        exact ⟨_, _, rfl, .inl ⟨rfl, none, 0, rfl⟩, HM6.out.set4 (OV.out.nou (by (repeat (first | with_reducible exact Grow.refl _ | with_reducible refine Grow.alloc ?_ _ | with_reducible refine Grow.drew ?_ | with_reducible refine Grow.drewN ?_ _ | (with_reducible refine Grow.setCell ?_ ?hp _; (case hp => (simp; try omega))) | with_reducible refine Grow.trans ?_ (by assumption))))) _ _ _ _ _ _ _ _⟩

      · by_cases hn0' : n = 0
        · have hl : k0 = 1 := hn0.len1 (by omega)
          have hl2 : l0 = 0 := by subst hn0'; exact hm0.len0
          subst hl hl2
          have hX0 : Rat.divInt n d = 0 := by rw [hn0']; exact Rat.zero_divInt d
          have HX0 := Lib.hid hX0
          clear hm0 hn0 hd0 hn0' hX0 hnn hnd
          have OF1 := Lib.hid (fun u => of_any 1 (by decide) u)
          rw [show sgB 1 = false from rfl, show Int.natAbs 1 = 1 from rfl] at OF1
          go_wp2_with (go_at_call 34; (with_reducible refine (OF1.out _).mono ?_); (rintro e u6 ⟨m6, rfl, hm6, hb6⟩; obtain ⟨a6, c6, rfl⟩ := hm6.form; rw [if_neg (by decide)] at hm6 ⊢; have HM6 := Lib.hid hm6; clear hm6; obtain ⟨y206, y216, y306, y316, yf26, yf36, yf46, y406, y416, y426, y436, yz6⟩ := CC0.out u6 (by (repeat (first | with_reducible exact Grow.refl _ | with_reducible refine Grow.alloc ?_ _ | with_reducible refine Grow.drew ?_ | with_reducible refine Grow.drewN ?_ _ | (with_reducible refine Grow.setCell ?_ ?hp _; (case hp => (simp; try omega))) | with_reducible refine Grow.trans ?_ (by assumption))))))
          refine bodyPost_ret (v := .agg #[.bool false, .slice none 0 0, .bool false, .slice a6 1 c6]) (by rw [results_one rfl]; go_simp) rfl ⟨_, rfl, ?_, by (repeat (first | with_reducible exact Grow.refl _ | with_reducible refine Grow.alloc ?_ _ | with_reducible refine Grow.drew ?_ | with_reducible refine Grow.drewN ?_ _ | (with_reducible refine Grow.setCell ?_ ?hp _; (case hp => (simp; try omega))) | with_reducible refine Grow.trans ?_ (by assumption)))⟩
          rw [← HX.out, HX0.out]
          exact ⟨_, _, rfl, .inl ⟨rfl, none, 0, rfl⟩, HM6.out.set4 (OV.out.nou (by (repeat (first | with_reducible exact Grow.refl _ | with_reducible refine Grow.alloc ?_ _ | with_reducible refine Grow.drew ?_ | with_reducible refine Grow.drewN ?_ _ | (with_reducible refine Grow.setCell ?_ ?hp _; (case hp => (simp; try omega))) | with_reducible refine Grow.trans ?_ (by assumption))))) _ _ _ _ _ _ _ _⟩

        · have hl : k0 = 1 := hn0.len1 (by omega)
          have hl2 : l0 = 1 := hm0.len1 (by omega)
          subst hl hl2
          by_cases hneg : d < 0
          · have e1 : sgB d = true := by simp [sgB, hneg]
            have HP := Lib.hid (show 0 < -d ∧ -n ≠ 0 ∧ Rat.divInt (-n) (-d) = X from ⟨by omega, by omega, by rw [Rat.neg_divInt_neg]; exact HX.out⟩)
            have N1 := Lib.hid (fun u hu => neg_any n _ u (hm0.grow hu))
            have N2 := Lib.hid (fun u hu => neg_any d _ u (hn0.grow hu))
            obtain ⟨s1, hs1⟩ : ∃ s, sgB n = s := ⟨_, rfl⟩
            obtain ⟨t1, ht1⟩ : ∃ s, sgB (-n) = s := ⟨_, rfl⟩
            obtain ⟨t2, ht2⟩ : ∃ s, sgB (-d) = s := ⟨_, rfl⟩
            obtain ⟨mn, hmn⟩ : ∃ s, (-n).natAbs = s := ⟨_, rfl⟩
            obtain ⟨md, hmd⟩ : ∃ s, (-d).natAbs = s := ⟨_, rfl⟩
            rw [hs1] at N1 CC0 y200
            rw [ht1, hmn] at N1
            rw [ht2, hmd] at N2
            rw [e1] at N2 CC0 y300
            have HT1 := Lib.hid ht1
            have HT2 := Lib.hid ht2
            have HMN := Lib.hid hmn
            have HMD := Lib.hid hmd
            clear hm0 hn0 hd0 hn0' hneg hnn hnd e1 hs1 ht1 ht2 hmn hmd
            have CC := CC0
            go_upto_region 5 with fail
            go_region_with (go_at_call 73; first | ((with_reducible refine (N1.out _ (by (repeat (first | with_reducible exact Grow.refl _ | with_reducible refine Grow.alloc ?_ _ | with_reducible refine Grow.drew ?_ | with_reducible refine Grow.drewN ?_ _ | (with_reducible refine Grow.setCell ?_ ?hp _; (case hp => (simp; try omega))) | with_reducible refine Grow.trans ?_ (by assumption))))).mono ?_); (rintro e u4 ⟨m4, rfl, hm4, hb4⟩; obtain ⟨a4, c4, rfl⟩ := hm4.form; generalize (if mn = 0 then 0 else 1) = l4 at hm4 ⊢; have HM4 := Lib.hid hm4; clear hm4; obtain ⟨x204, x214, x304, x314, xf24, xf34, xf44, x404, x414, x424, x434, xz4⟩ := CC.out u4 (by (repeat (first | with_reducible exact Grow.refl _ | with_reducible refine Grow.alloc ?_ _ | with_reducible refine Grow.drew ?_ | with_reducible refine Grow.drewN ?_ _ | (with_reducible refine Grow.setCell ?_ ?hp _; (case hp => (simp; try omega))) | with_reducible refine Grow.trans ?_ (by assumption)))))) | ((with_reducible refine (N2.out _ (by (repeat (first | with_reducible exact Grow.refl _ | with_reducible refine Grow.alloc ?_ _ | with_reducible refine Grow.drew ?_ | with_reducible refine Grow.drewN ?_ _ | (with_reducible refine Grow.setCell ?_ ?hp _; (case hp => (simp; try omega))) | with_reducible refine Grow.trans ?_ (by assumption))))).mono ?_); (rintro e u5 ⟨m5, rfl, hm5, hb5⟩; obtain ⟨a5, c5, rfl⟩ := hm5.form; generalize (if md = 0 then 0 else 1) = l5 at hm5 ⊢; have HM5 := Lib.hid hm5; clear hm5; obtain ⟨x205, x215, x305, x315, xf25, xf35, xf45, x405, x415, x425, x435, xz5⟩ := CC.out u5 (by (repeat (first | with_reducible exact Grow.refl _ | with_reducible refine Grow.alloc ?_ _ | with_reducible refine Grow.drew ?_ | with_reducible refine Grow.drewN ?_ _ | (with_reducible refine Grow.setCell ?_ ?hp _; (case hp => (simp; try omega))) | with_reducible refine Grow.trans ?_ (by assumption)))))))
            all_goals go_wp2
            all_goals go_meet
            all_goals (have q4 := HM4.out.grow hb5; rw [← HMN.out] at q4; have q5 := HM5.out; rw [← HMD.out] at q5; rw [← HT1.out, ← HT2.out]; exact ⟨_, _, HP, Lib.hid (OvS.put (OV.out.grow (by (repeat (first | with_reducible exact Grow.refl _ | with_reducible refine Grow.alloc ?_ _ | with_reducible refine Grow.drew ?_ | with_reducible refine Grow.drewN ?_ _ | (with_reducible refine Grow.setCell ?_ ?hp _; (case hp => (simp; try omega))) | with_reducible refine Grow.trans ?_ (by assumption))))) q4 q5)⟩)
          · have e1 : sgB d = false := by simp [sgB]; omega
            have HP := Lib.hid (show 0 < d ∧ n ≠ 0 ∧ Rat.divInt n d = X from ⟨by omega, hn0', HX.out⟩)
            rw [e1] at CC0 y300
            clear hm0 hn0 hd0 hn0' hneg hnn hnd e1
            go_wp2
            go_meet
            exact ⟨_, _, HP, OV⟩
    case rest =>
      obtain ⟨n', d', HP, OV1⟩ := hcut
      clear OV hgx
      obtain ⟨wy, rfl⟩ : ∃ wy, wy = wc := ⟨_, rfl⟩
      have hgy := OV1.out.1
      obtain ⟨a1, l1, c1, b1, k1, e1', hm1, hn1, cc1⟩ := OV1.out.read
      have CC1 := Lib.hid cc1
      clear cc1
      obtain ⟨y201, y211, y301, y311, yf21, yf31, yf41, y401, y411, y421, y431, yz1⟩ := CC1.out wy (Grow.refl _)
      have hp := HP.out
      have hl : k1 = 1 := hn1.len1 (by omega)
      have hl2 : l1 = 1 := hm1.len1 (by omega)
      subst hl hl2
      have e1 : sgB d' = false := by simp [sgB]; omega
      rw [e1] at CC1 y301
      have ON := Lib.hid (fun u hu => one_any d' _ u (hn1.grow hu))
      rw [e1] at ON
      by_cases h1 : d' = 1
      · simp only [decide_eq_true h1] at ON
        have HR := Lib.hid (fun (u : World) (q1 : MagR u (.slice a1 1 c1) n'.natAbs) (q2 : MagR u (.slice b1 1 e1') d'.natAbs) => RatR.mk (w := u) (m1 := .slice a1 1 c1) (m2 := .slice b1 1 e1') 1 hp.1 hp.2.2 (by rw [h1]; simp) (by simpa using q1) (by simpa using q2))
        simp only [Int.natCast_one, Int.ediv_one] at HR
        obtain ⟨T, hT⟩ : ∃ T, sgB n' = T := ⟨_, rfl⟩
        rw [hT] at CC1 y201
        simp only [hT] at HR
        have HM1 := Lib.hid hm1
        have HN1 := Lib.hid hn1
        clear hp hm1 hn1 e1 h1 hT
        go_wp2_with (go_at_call 57; (with_reducible refine (ON.out _ (by (repeat (first | with_reducible exact Grow.refl _ | with_reducible refine Grow.alloc ?_ _ | with_reducible refine Grow.drew ?_ | with_reducible refine Grow.drewN ?_ _ | (with_reducible refine Grow.setCell ?_ ?hp _; (case hp => (simp; try omega))) | with_reducible refine Grow.trans ?_ (by assumption))))).mono ?_); (rintro e u7 ⟨rfl, hb7⟩; obtain ⟨y207, y217, y307, y317, yf27, yf37, yf47, y407, y417, y427, y437, yz7⟩ := CC1.out u7 (by (repeat (first | with_reducible exact Grow.refl _ | with_reducible refine Grow.alloc ?_ _ | with_reducible refine Grow.drew ?_ | with_reducible refine Grow.drewN ?_ _ | (with_reducible refine Grow.setCell ?_ ?hp _; (case hp => (simp; try omega))) | with_reducible refine Grow.trans ?_ (by assumption))))))
        refine bodyPost_ret (v := .agg #[.bool T, .slice a1 1 c1, .bool false, .slice b1 1 e1']) (by rw [results_one rfl]; go_simp) rfl ⟨_, rfl, ?_, by (repeat (first | with_reducible exact Grow.refl _ | with_reducible refine Grow.alloc ?_ _ | with_reducible refine Grow.drew ?_ | with_reducible refine Grow.drewN ?_ _ | (with_reducible refine Grow.setCell ?_ ?hp _; (case hp => (simp; try omega))) | with_reducible refine Grow.trans ?_ (by assumption)))⟩
        exact HR.out _ ((HM1.out.grow (by (repeat (first | with_reducible exact Grow.refl _ | with_reducible refine Grow.alloc ?_ _ | with_reducible refine Grow.drew ?_ | with_reducible refine Grow.drewN ?_ _ | (with_reducible refine Grow.setCell ?_ ?hp _; (case hp => (simp; try omega))) | with_reducible refine Grow.trans ?_ (by assumption))))).set4 (OV1.out.nou (by (repeat (first | with_reducible exact Grow.refl _ | with_reducible refine Grow.alloc ?_ _ | with_reducible refine Grow.drew ?_ | with_reducible refine Grow.drewN ?_ _ | (with_reducible refine Grow.setCell ?_ ?hp _; (case hp => (simp; try omega))) | with_reducible refine Grow.trans ?_ (by assumption))))) _ _ _ _ _ _ _ _) ((HN1.out.grow (by (repeat (first | with_reducible exact Grow.refl _ | with_reducible refine Grow.alloc ?_ _ | with_reducible refine Grow.drew ?_ | with_reducible refine Grow.drewN ?_ _ | (with_reducible refine Grow.setCell ?_ ?hp _; (case hp => (simp; try omega))) | with_reducible refine Grow.trans ?_ (by assumption))))).set4 (OV1.out.nou (by (repeat (first | with_reducible exact Grow.refl _ | with_reducible refine Grow.alloc ?_ _ | with_reducible refine Grow.drew ?_ | with_reducible refine Grow.drewN ?_ _ | (with_reducible refine Grow.setCell ?_ ?hp _; (case hp => (simp; try omega))) | with_reducible refine Grow.trans ?_ (by assumption))))) _ _ _ _ _ _ _ _)
      · simp only [decide_eq_false h1] at ON
        have GC := Lib.hid (fun u hu => gcdI_any n' d' _ _ u (hm1.grow hu) (hn1.grow hu))
        rw [e1] at GC
        obtain ⟨g, hg⟩ : ∃ g, Int.gcd n' d' = g := ⟨_, rfl⟩
        rw [hg] at GC
        have hg0 : g ≠ 0 := by rw [← hg]; intro h; rw [Int.gcd_eq_zero_iff] at h; omega
        have hgd : (g : Int) ∣ d' := by rw [← hg]; exact Int.gcd_dvd_right ..
        have hgn : (g : Int) ∣ n' := by rw [← hg]; exact Int.gcd_dvd_left ..
        have hd1 : d' / (g : Int) ≠ 0 := by intro h; have := Int.ediv_mul_cancel hgd; rw [h] at this; omega
        have hn1' : n' / (g : Int) ≠ 0 := by intro h; have := Int.ediv_mul_cancel hgn; rw [h] at this; omega
        have hds : sgB (d' / (g : Int)) = false := by
          have : 0 ≤ d' / (g : Int) := Int.ediv_nonneg (by omega) (by omega)
          simp [sgB]; omega
        have HR := Lib.hid (fun (u : World) (m1 m2 : Value) (q1 : MagR u m1 (n' / (g : Int)).natAbs) (q2 : MagR u m2 (d' / (g : Int)).natAbs) => RatR.mk (w := u) g hp.1 hp.2.2 hg q1 q2)
        have EX1 := Lib.hid (fun u m1 m2 (q1 : MagR u m1 n'.natAbs) (q2 : MagR u m2 g) => exact_any n' (g : Int) m1 m2 (by omega) hgn u q1 (by simpa using q2))
        have EX2 := Lib.hid (fun u m1 m2 (q1 : MagR u m1 d'.natAbs) (q2 : MagR u m2 g) => exact_any d' (g : Int) m1 m2 (by omega) hgd u q1 (by simpa using q2))
        have OG := Lib.hid (fun u m (q : MagR u m g) => one_any (g : Int) m u (by simpa using q))
        simp only [sgB_nat, hds, e1] at EX1 EX2 OG
        obtain ⟨T, hT⟩ : ∃ T, sgB n' = T := ⟨_, rfl⟩
        rw [hT] at CC1 y201 GC
        simp only [hT] at EX1
        obtain ⟨nn, hnn⟩ : ∃ nn, n'.natAbs = nn := ⟨_, rfl⟩
        obtain ⟨nd, hnd⟩ : ∃ nn, d'.natAbs = nn := ⟨_, rfl⟩
        rw [hnn] at hm1
        rw [hnd] at hn1
        simp only [hnn] at EX1
        simp only [hnd] at EX2
        have HM1 := Lib.hid hm1
        have HN1 := Lib.hid hn1
        have HG0 := Lib.hid hg0
        by_cases h2 : g = 1
        · have h3 : ((g : Int) = 1) := by omega
          simp only [decide_eq_true h3] at OG
          have f1 : n' / (g : Int) = n' := by rw [h3, Int.ediv_one]
          have f2 : d' / (g : Int) = d' := by rw [h3, Int.ediv_one]
          simp only [f1, f2, hT, hnn, hnd] at HR
          clear EX1 EX2 hp hm1 hn1 e1 h1 hT hnn hnd hg hg0 hgd hgn hd1 hn1' hds h2 h3 f1 f2
          go_wp2_with (first | (go_at_call 57; (with_reducible refine (ON.out _ (by (repeat (first | with_reducible exact Grow.refl _ | with_reducible refine Grow.alloc ?_ _ | with_reducible refine Grow.drew ?_ | with_reducible refine Grow.drewN ?_ _ | (with_reducible refine Grow.setCell ?_ ?hp _; (case hp => (simp; try omega))) | with_reducible refine Grow.trans ?_ (by assumption))))).mono ?_); (rintro e u7 ⟨rfl, hb7⟩; obtain ⟨y207, y217, y307, y317, yf27, yf37, yf47, y407, y417, y427, y437, yz7⟩ := CC1.out u7 (by (repeat (first | with_reducible exact Grow.refl _ | with_reducible refine Grow.alloc ?_ _ | with_reducible refine Grow.drew ?_ | with_reducible refine Grow.drewN ?_ _ | (with_reducible refine Grow.setCell ?_ ?hp _; (case hp => (simp; try omega))) | with_reducible refine Grow.trans ?_ (by assumption)))))) | (go_at_call 75; (with_reducible refine (GC.out _ (by (repeat (first | with_reducible exact Grow.refl _ | with_reducible refine Grow.alloc ?_ _ | with_reducible refine Grow.drew ?_ | with_reducible refine Grow.drewN ?_ _ | (with_reducible refine Grow.setCell ?_ ?hp _; (case hp => (simp; try omega))) | with_reducible refine Grow.trans ?_ (by assumption))))).mono ?_); (rintro e u8 ⟨m8, rfl, hm8, hb8⟩; obtain ⟨a8, c8, rfl⟩ := hm8.form; rw [if_neg HG0.out] at hm8 ⊢; have HM8 := Lib.hid hm8; clear hm8; obtain ⟨y208, y218, y308, y318, yf28, yf38, yf48, y408, y418, y428, y438, yz8⟩ := CC1.out u8 (by (repeat (first | with_reducible exact Grow.refl _ | with_reducible refine Grow.alloc ?_ _ | with_reducible refine Grow.drew ?_ | with_reducible refine Grow.drewN ?_ _ | (with_reducible refine Grow.setCell ?_ ?hp _; (case hp => (simp; try omega))) | with_reducible refine Grow.trans ?_ (by assumption)))))) | (go_at_call 57; (with_reducible refine (OG.out _ _ (HM8.out.grow ((Grow.refl _).alloc _))).mono ?_); (rintro e u9 ⟨rfl, hb9⟩; obtain ⟨y209, y219, y309, y319, yf29, yf39, yf49, y409, y419, y429, y439, yz9⟩ := CC1.out u9 (by (repeat (first | with_reducible exact Grow.refl _ | with_reducible refine Grow.alloc ?_ _ | with_reducible refine Grow.drew ?_ | with_reducible refine Grow.drewN ?_ _ | (with_reducible refine Grow.setCell ?_ ?hp _; (case hp => (simp; try omega))) | with_reducible refine Grow.trans ?_ (by assumption)))))))
          refine bodyPost_ret (v := .agg #[.bool T, .slice a1 1 c1, .bool false, .slice b1 1 e1']) (by rw [results_one rfl]; go_simp) rfl ⟨_, rfl, ?_, by (repeat (first | with_reducible exact Grow.refl _ | with_reducible refine Grow.alloc ?_ _ | with_reducible refine Grow.drew ?_ | with_reducible refine Grow.drewN ?_ _ | (with_reducible refine Grow.setCell ?_ ?hp _; (case hp => (simp; try omega))) | with_reducible refine Grow.trans ?_ (by assumption)))⟩
          exact HR.out _ _ _ ((HM1.out.grow (by (repeat (first | with_reducible exact Grow.refl _ | with_reducible refine Grow.alloc ?_ _ | with_reducible refine Grow.drew ?_ | with_reducible refine Grow.drewN ?_ _ | (with_reducible refine Grow.setCell ?_ ?hp _; (case hp => (simp; try omega))) | with_reducible refine Grow.trans ?_ (by assumption))))).set4 (OV1.out.nou (by (repeat (first | with_reducible exact Grow.refl _ | with_reducible refine Grow.alloc ?_ _ | with_reducible refine Grow.drew ?_ | with_reducible refine Grow.drewN ?_ _ | (with_reducible refine Grow.setCell ?_ ?hp _; (case hp => (simp; try omega))) | with_reducible refine Grow.trans ?_ (by assumption))))) _ _ _ _ _ _ _ _) ((HN1.out.grow (by (repeat (first | with_reducible exact Grow.refl _ | with_reducible refine Grow.alloc ?_ _ | with_reducible refine Grow.drew ?_ | with_reducible refine Grow.drewN ?_ _ | (with_reducible refine Grow.setCell ?_ ?hp _; (case hp => (simp; try omega))) | with_reducible refine Grow.trans ?_ (by assumption))))).set4 (OV1.out.nou (by (repeat (first | with_reducible exact Grow.refl _ | with_reducible refine Grow.alloc ?_ _ | with_reducible refine Grow.drew ?_ | with_reducible refine Grow.drewN ?_ _ | (with_reducible refine Grow.setCell ?_ ?hp _; (case hp => (simp; try omega))) | with_reducible refine Grow.trans ?_ (by assumption))))) _ _ _ _ _ _ _ _)
        · have h3 : ¬ ((g : Int) = 1) := by omega
          simp only [decide_eq_false h3] at OG
          obtain ⟨T2, hT2⟩ : ∃ T, sgB (n' / (g : Int)) = T := ⟨_, rfl⟩
          obtain ⟨Q1, hQ1⟩ : ∃ T, (n' / (g : Int)).natAbs = T := ⟨_, rfl⟩
          obtain ⟨Q2, hQ2⟩ : ∃ T, (d' / (g : Int)).natAbs = T := ⟨_, rfl⟩
          have hq1 : Q1 ≠ 0 := by omega
          have hq2 : Q2 ≠ 0 := by omega
          simp only [hT2, hQ1] at EX1
          simp only [hQ2] at EX2
          simp only [hT2, hQ1, hQ2] at HR
          have HQ1 := Lib.hid hq1
          have HQ2 := Lib.hid hq2
          clear hp hm1 hn1 e1 h1 hT hnn hnd hg hg0 hgd hgn hd1 hn1' hds h2 h3 hT2 hQ1 hQ2 hq1 hq2
          go_wp2_with (first | (go_at_call 57; (with_reducible refine (ON.out _ (by (repeat (first | with_reducible exact Grow.refl _ | with_reducible refine Grow.alloc ?_ _ | with_reducible refine Grow.drew ?_ | with_reducible refine Grow.drewN ?_ _ | (with_reducible refine Grow.setCell ?_ ?hp _; (case hp => (simp; try omega))) | with_reducible refine Grow.trans ?_ (by assumption))))).mono ?_); (rintro e u7 ⟨rfl, hb7⟩; obtain ⟨y207, y217, y307, y317, yf27, yf37, yf47, y407, y417, y427, y437, yz7⟩ := CC1.out u7 (by (repeat (first | with_reducible exact Grow.refl _ | with_reducible refine Grow.alloc ?_ _ | with_reducible refine Grow.drew ?_ | with_reducible refine Grow.drewN ?_ _ | (with_reducible refine Grow.setCell ?_ ?hp _; (case hp => (simp; try omega))) | with_reducible refine Grow.trans ?_ (by assumption)))))) | (go_at_call 75; (with_reducible refine (GC.out _ (by (repeat (first | with_reducible exact Grow.refl _ | with_reducible refine Grow.alloc ?_ _ | with_reducible refine Grow.drew ?_ | with_reducible refine Grow.drewN ?_ _ | (with_reducible refine Grow.setCell ?_ ?hp _; (case hp => (simp; try omega))) | with_reducible refine Grow.trans ?_ (by assumption))))).mono ?_); (rintro e u8 ⟨m8, rfl, hm8, hb8⟩; obtain ⟨a8, c8, rfl⟩ := hm8.form; rw [if_neg HG0.out] at hm8 ⊢; have HM8 := Lib.hid hm8; clear hm8; obtain ⟨y208, y218, y308, y318, yf28, yf38, yf48, y408, y418, y428, y438, yz8⟩ := CC1.out u8 (by (repeat (first | with_reducible exact Grow.refl _ | with_reducible refine Grow.alloc ?_ _ | with_reducible refine Grow.drew ?_ | with_reducible refine Grow.drewN ?_ _ | (with_reducible refine Grow.setCell ?_ ?hp _; (case hp => (simp; try omega))) | with_reducible refine Grow.trans ?_ (by assumption)))))) | (go_at_call 57; (with_reducible refine (OG.out _ _ (HM8.out.grow ((Grow.refl _).alloc _))).mono ?_); (rintro e u9 ⟨rfl, hb9⟩; obtain ⟨y209, y219, y309, y319, yf29, yf39, yf49, y409, y419, y429, y439, yz9⟩ := CC1.out u9 (by (repeat (first | with_reducible exact Grow.refl _ | with_reducible refine Grow.alloc ?_ _ | with_reducible refine Grow.drew ?_ | with_reducible refine Grow.drewN ?_ _ | (with_reducible refine Grow.setCell ?_ ?hp _; (case hp => (simp; try omega))) | with_reducible refine Grow.trans ?_ (by assumption)))); have gb9 := gbx _ _ _ _ _ _ u9 (by (repeat (first | with_reducible exact Grow.refl _ | with_reducible refine Grow.alloc ?_ _ | with_reducible refine Grow.drew ?_ | with_reducible refine Grow.drewN ?_ _ | (with_reducible refine Grow.setCell ?_ ?hp _; (case hp => (simp; try omega))) | with_reducible refine Grow.trans ?_ (by assumption)))); obtain ⟨gc9, gd9, gz9⟩ := gb9)) | (go_at_call 76; (with_reducible refine (EX1.out _ _ _ (HM1.out.grow (by (repeat (first | with_reducible exact Grow.refl _ | with_reducible refine Grow.alloc ?_ _ | with_reducible refine Grow.drew ?_ | with_reducible refine Grow.drewN ?_ _ | (with_reducible refine Grow.setCell ?_ ?hp _; (case hp => (simp; try omega))) | with_reducible refine Grow.trans ?_ (by assumption))))) (HM8.out.grow (by (repeat (first | with_reducible exact Grow.refl _ | with_reducible refine Grow.alloc ?_ _ | with_reducible refine Grow.drew ?_ | with_reducible refine Grow.drewN ?_ _ | (with_reducible refine Grow.setCell ?_ ?hp _; (case hp => (simp; try omega))) | with_reducible refine Grow.trans ?_ (by assumption)))))).mono ?_); (rintro e u10 ⟨m10, rfl, hm10, hb10⟩; obtain ⟨a10, c10, rfl⟩ := hm10.form; rw [if_neg HQ1.out] at hm10 ⊢; have HM10 := Lib.hid hm10; clear hm10; obtain ⟨y2010, y2110, y3010, y3110, yf210, yf310, yf410, y4010, y4110, y4210, y4310, yz10⟩ := CC1.out u10 (by (repeat (first | with_reducible exact Grow.refl _ | with_reducible refine Grow.alloc ?_ _ | with_reducible refine Grow.drew ?_ | with_reducible refine Grow.drewN ?_ _ | (with_reducible refine Grow.setCell ?_ ?hp _; (case hp => (simp; try omega))) | with_reducible refine Grow.trans ?_ (by assumption)))); have gb10 := gbx _ _ _ _ _ _ u10 (Grow.trans hb9 hb10); obtain ⟨gc10, gd10, gz10⟩ := gb10)) | (go_at_call 76; (with_reducible refine (EX2.out _ _ _ ((HN1.out.grow (by (repeat (first | with_reducible exact Grow.refl _ | with_reducible refine Grow.alloc ?_ _ | with_reducible refine Grow.drew ?_ | with_reducible refine Grow.drewN ?_ _ | (with_reducible refine Grow.setCell ?_ ?hp _; (case hp => (simp; try omega))) | with_reducible refine Grow.trans ?_ (by assumption))))).set2 (OV1.out.nou1 (by (repeat (first | with_reducible exact Grow.refl _ | with_reducible refine Grow.alloc ?_ _ | with_reducible refine Grow.drew ?_ | with_reducible refine Grow.drewN ?_ _ | (with_reducible refine Grow.setCell ?_ ?hp _; (case hp => (simp; try omega))) | with_reducible refine Grow.trans ?_ (by assumption))))) _ _ _ _) ((HM8.out.grow (by (repeat (first | with_reducible exact Grow.refl _ | with_reducible refine Grow.alloc ?_ _ | with_reducible refine Grow.drew ?_ | with_reducible refine Grow.drewN ?_ _ | (with_reducible refine Grow.setCell ?_ ?hp _; (case hp => (simp; try omega))) | with_reducible refine Grow.trans ?_ (by assumption))))).set2 (OV1.out.nou1 (by (repeat (first | with_reducible exact Grow.refl _ | with_reducible refine Grow.alloc ?_ _ | with_reducible refine Grow.drew ?_ | with_reducible refine Grow.drewN ?_ _ | (with_reducible refine Grow.setCell ?_ ?hp _; (case hp => (simp; try omega))) | with_reducible refine Grow.trans ?_ (by assumption))))) _ _ _ _)).mono ?_); (rintro e u11 ⟨m11, rfl, hm11, hb11⟩; obtain ⟨a11, c11, rfl⟩ := hm11.form; rw [if_neg HQ2.out] at hm11 ⊢; have HM11 := Lib.hid hm11; clear hm11; obtain ⟨y2011, y2111, y3011, y3111, yf211, yf311, yf411, y4011, y4111, y4211, y4311, yz11⟩ := ((CC1.out u10 (by (repeat (first | with_reducible exact Grow.refl _ | with_reducible refine Grow.alloc ?_ _ | with_reducible refine Grow.drew ?_ | with_reducible refine Grow.drewN ?_ _ | (with_reducible refine Grow.setCell ?_ ?hp _; (case hp => (simp; try omega))) | with_reducible refine Grow.trans ?_ (by assumption))))).put1 T2 a10 1 c10).grow hb11)))
          refine bodyPost_ret (v := .agg #[.bool T2, .slice a10 1 c10, .bool false, .slice a11 1 c11]) (by rw [results_one rfl]; go_simp) rfl ⟨_, rfl, ?_, by (repeat (first | with_reducible exact Grow.refl _ | with_reducible refine Grow.alloc ?_ _ | with_reducible refine Grow.drew ?_ | with_reducible refine Grow.drewN ?_ _ | (with_reducible refine Grow.setCell ?_ ?hp _; (case hp => (simp; try omega))) | with_reducible refine Grow.trans ?_ (by assumption)))⟩
          have N3 : NoU u11 (w.heap.size + 1) := ((OV1.out.nou2 (by (repeat (first | with_reducible exact Grow.refl _ | with_reducible refine Grow.alloc ?_ _ | with_reducible refine Grow.drew ?_ | with_reducible refine Grow.drewN ?_ _ | (with_reducible refine Grow.setCell ?_ ?hp _; (case hp => (simp; try omega))) | with_reducible refine Grow.trans ?_ (by assumption)))) : NoU u10 _).off (by omega) 0 1 (.bool T2) (.slice a10 1 c10)).grow (by (try simp); omega) hb11
          have N4 : NoU u11 (w.heap.size + 1 + 1) := ((OV1.out.nou (by (repeat (first | with_reducible exact Grow.refl _ | with_reducible refine Grow.alloc ?_ _ | with_reducible refine Grow.drew ?_ | with_reducible refine Grow.drewN ?_ _ | (with_reducible refine Grow.setCell ?_ ?hp _; (case hp => (simp; try omega))) | with_reducible refine Grow.trans ?_ (by assumption)))) : NoU u10 _).off (by omega) 0 1 (.bool T2) (.slice a10 1 c10)).grow (by (try simp); omega) hb11
          exact HR.out _ _ _ ((((HM10.out.set2 (OV1.out.nou1 (by (repeat (first | with_reducible exact Grow.refl _ | with_reducible refine Grow.alloc ?_ _ | with_reducible refine Grow.drew ?_ | with_reducible refine Grow.drewN ?_ _ | (with_reducible refine Grow.setCell ?_ ?hp _; (case hp => (simp; try omega))) | with_reducible refine Grow.trans ?_ (by assumption))))) _ _ _ _).grow hb11).set2 N3 _ _ _ _).set4 (N4.off (by omega) _ _ _ _) _ _ _ _ _ _ _ _) ((HM11.out.set2 N3 _ _ _ _).set4 (N4.off (by omega) _ _ _ _) _ _ _ _ _ _ _ _)
end Go.Proofs.YtbpkfcohbefphaaGreat
/- Integers and fractions as values: the contracts of bigint and of one, over restated. -/
namespace Go.Proofs.YtbpkfcohbefphaaGreat
open Go Go.RowKit

/-- The value v is the integer z. -/
def IntR (w : World) (v : Value) (z : Int) : Prop := ∃ m, v = .agg #[.bool (sgB z), m] ∧ MagR w m z.natAbs
theorem IntR.grow {w w' : World} {v : Value} {z : Int} (h : IntR w v z) (hg : Grow w w') : IntR w' v z := by
  obtain ⟨m, hv, h⟩ := h
  exact ⟨m, hv, h.grow hg⟩
theorem IntR.form {w : World} {v : Value} {z : Int} (h : IntR w v z) : ∃ s a l c, v = .agg #[.bool s, .slice a l c] := by
  obtain ⟨m, hv, h⟩ := h
  obtain ⟨a, c, rfl⟩ := h.form
  exact ⟨_, a, _, c, hv⟩
theorem IntR.lt {w : World} {v : Value} {z : Int} (h : IntR w v z) : z.natAbs < 4294967296 := by
  obtain ⟨m, hv, h⟩ := h
  exact h.lt
theorem IntR.set2 {w : World} {v : Value} {z : Int} {B : Nat} (h : IntR w v z) (hB : NoU w B) (o1 o2 : Nat) (v1 v2 : Value) : IntR ((w.setCell ⟨B, o1, none⟩ v1).setCell ⟨B, o2, none⟩ v2) v z := by
  obtain ⟨m, hv, h⟩ := h
  exact ⟨m, hv, h.set2 hB _ _ _ _⟩
theorem IntR.set4 {w : World} {v : Value} {z : Int} {B : Nat} (h : IntR w v z) (hB : NoU w B) (o1 o2 o3 o4 : Nat) (v1 v2 v3 v4 : Value) : IntR ((((w.setCell ⟨B, o1, none⟩ v1).setCell ⟨B, o2, none⟩ v2).setCell ⟨B, o3, none⟩ v3).setCell ⟨B, o4, none⟩ v4) v z := by
  obtain ⟨m, hv, h⟩ := h
  exact ⟨m, hv, h.set4 hB _ _ _ _ _ _ _ _⟩
theorem RatR.form {w : World} {v : Value} {x : Rat} (h : RatR w v x) : ∃ s a l c t b k e, v = .agg #[.bool s, .slice a l c, .bool t, .slice b k e] := by
  obtain ⟨m1, m2, hv, h1, h2⟩ := h
  obtain ⟨a, c, rfl⟩ := h1.form
  obtain ⟨b, e, rfl⟩ := h2.form
  exact ⟨_, a, _, c, _, b, _, e, hv⟩
theorem RatR.set4 {w : World} {v : Value} {x : Rat} {B : Nat} (h : RatR w v x) (hB : NoU w B) (o1 o2 o3 o4 : Nat) (v1 v2 v3 v4 : Value) : RatR ((((w.setCell ⟨B, o1, none⟩ v1).setCell ⟨B, o2, none⟩ v2).setCell ⟨B, o3, none⟩ v3).setCell ⟨B, o4, none⟩ v4) v x := by
  obtain ⟨m1, m2, hv, h1, h2⟩ := h
  exact ⟨m1, m2, hv, h1.set4 hB _ _ _ _ _ _ _ _, h2.set4 hB _ _ _ _ _ _ _ _⟩
theorem RatR.set2 {w : World} {v : Value} {x : Rat} {B : Nat} (h : RatR w v x) (hB : NoU w B) (o1 o2 : Nat) (v1 v2 : Value) : RatR ((w.setCell ⟨B, o1, none⟩ v1).setCell ⟨B, o2, none⟩ v2) v x := by
  obtain ⟨m1, m2, hv, h1, h2⟩ := h
  exact ⟨m1, m2, hv, h1.set2 hB _ _ _ _, h2.set2 hB _ _ _ _⟩
theorem RatR.num {w : World} {x : Rat} {s t : Bool} {m1 m2 : Value} (h : RatR w (.agg #[.bool s, m1, .bool t, m2]) x) : IntR w (.agg #[.bool s, m1]) x.num := by
  obtain ⟨p, q, hv, h1, h2⟩ := h
  simp only [Value.agg.injEq, Array.mk.injEq, List.cons.injEq, Value.bool.injEq, and_true] at hv
  obtain ⟨e1, rfl, e3, rfl⟩ := hv
  exact ⟨_, by rw [e1], h1⟩
theorem RatR.den {w : World} {x : Rat} {s t : Bool} {m1 m2 : Value} (h : RatR w (.agg #[.bool s, m1, .bool t, m2]) x) : IntR w (.agg #[.bool t, m2]) (x.den : Int) := by
  obtain ⟨p, q, hv, h1, h2⟩ := h
  simp only [Value.agg.injEq, Array.mk.injEq, List.cons.injEq, Value.bool.injEq, and_true] at hv
  obtain ⟨e1, rfl, e3, rfl⟩ := hv
  exact ⟨_, by rw [e3, sgB_nat], by simpa using h2⟩
theorem RatR.whole {w : World} {z : Int} {s t : Bool} {m1 m2 : Value} (h1 : IntR w (.agg #[.bool s, m1]) z) (h2 : IntR w (.agg #[.bool t, m2]) 1) : RatR w (.agg #[.bool s, m1, .bool t, m2]) (z : Rat) := by
  obtain ⟨p, hv, h1⟩ := h1
  obtain ⟨q, hv', h2⟩ := h2
  simp only [Value.agg.injEq, Array.mk.injEq, List.cons.injEq, Value.bool.injEq, and_true] at hv hv'
  obtain ⟨e1, rfl⟩ := hv
  obtain ⟨e3, rfl⟩ := hv'
  exact ⟨_, _, by rw [e1, e3]; rfl, h1, h2⟩
theorem ofV (z : Int) (h : z.natAbs < 4294967296) (w : World) : Calls Tryz.prog 34 #[.int .i64 z] w fun e w' => ∃ v, e = .returned v ∧ IntR w' v z ∧ Grow w w' :=
  (of_any z h w).mono fun _ _ ⟨m, he, hm, hg⟩ => ⟨_, he, ⟨m, rfl, hm⟩, hg⟩
theorem normalV (z : Int) (v : Value) (w : World) (h : IntR w v z) : Calls Tryz.prog 74 #[v] w fun e w' => ∃ v', e = .returned v' ∧ IntR w' v' z ∧ Grow w w' := by
  obtain ⟨m, rfl, h⟩ := h
  exact (normal_any z m w h).mono fun _ _ ⟨m, he, hm, hg⟩ => ⟨_, he, ⟨m, rfl, hm⟩, hg⟩
theorem negV (z : Int) (v : Value) (w : World) (h : IntR w v z) : Calls Tryz.prog 73 #[v] w fun e w' => ∃ v', e = .returned v' ∧ IntR w' v' (-z) ∧ Grow w w' := by
  obtain ⟨m, rfl, h⟩ := h
  exact (neg_any z m w h).mono fun _ _ ⟨m, he, hm, hg⟩ => ⟨_, he, ⟨m, rfl, hm⟩, hg⟩
theorem signV (z : Int) (v : Value) (w : World) (h : IntR w v z) : Calls Tryz.prog 56 #[v] w fun e w' => e = .returned (.int .i64 (sgI z)) ∧ Grow w w' := by
  obtain ⟨m, rfl, h⟩ := h
  exact signI_any z m w h
theorem oneV (z : Int) (v : Value) (w : World) (h : IntR w v z) : Calls Tryz.prog 57 #[v] w fun e w' => e = .returned (.bool (decide (z = 1))) ∧ Grow w w' := by
  obtain ⟨m, rfl, h⟩ := h
  exact one_any z m w h
theorem addV (y z : Int) (u v : Value) (hb : (y + z).natAbs < 4294967296) (w : World) (h1 : IntR w u y) (h2 : IntR w v z) : Calls Tryz.prog 58 #[u, v] w fun e w' => ∃ v', e = .returned v' ∧ IntR w' v' (y + z) ∧ Grow w w' := by
  obtain ⟨m1, rfl, h1⟩ := h1
  obtain ⟨m2, rfl, h2⟩ := h2
  exact (addI_any y z m1 m2 hb w h1 h2).mono fun _ _ ⟨m, he, hm, hg⟩ => ⟨_, he, ⟨m, rfl, hm⟩, hg⟩
theorem mulV (y z : Int) (u v : Value) (hb : (y * z).natAbs < 4294967296) (w : World) (h1 : IntR w u y) (h2 : IntR w v z) : Calls Tryz.prog 38 #[u, v] w fun e w' => ∃ v', e = .returned v' ∧ IntR w' v' (y * z) ∧ Grow w w' := by
  obtain ⟨m1, rfl, h1⟩ := h1
  obtain ⟨m2, rfl, h2⟩ := h2
  exact (mul_any y z m1 m2 hb w h1 h2).mono fun _ _ ⟨m, he, hm, hg⟩ => ⟨_, he, ⟨m, rfl, hm⟩, hg⟩
theorem divmodV (y z : Int) (u v : Value) (h0 : z ≠ 0) (w : World) (h1 : IntR w u y) (h2 : IntR w v z) : Calls Tryz.prog 103 #[u, v] w fun e w' => ∃ q r, e = .returned (.tuple #[q, r, .int .i64 0]) ∧ IntR w' q (y / z) ∧ IntR w' r (y % z) ∧ Grow w w' := by
  obtain ⟨m1, rfl, h1⟩ := h1
  obtain ⟨m2, rfl, h2⟩ := h2
  refine (divmod_any y z m1 m2 h0 w h1 h2).mono fun _ _ ⟨q, r, he, hq, hr, hg⟩ => ⟨_, _, he, ⟨q, rfl, hq⟩, ⟨r, ?_, hr⟩, hg⟩
  have : ¬ (y % z < 0) := by have := Int.emod_nonneg y h0; omega
  rw [sgB, decide_eq_false this]
theorem overV (y z : Int) (u v : Value) (w : World) (h1 : IntR w u y) (h2 : IntR w v z) : Calls Tryz.prog 37 #[u, v] w fun e w' => ∃ v', e = .returned v' ∧ RatR w' v' (Rat.divInt y z) ∧ Grow w w' := by
  obtain ⟨m1, rfl, h1⟩ := h1
  obtain ⟨m2, rfl, h2⟩ := h2
  exact over_any y z m1 m2 w h1 h2
/-- Fraction identities with the fields spelled out. -/
theorem divInt_num_den (x : Rat) : Rat.divInt x.num (x.den : Int) = x := Rat.num_divInt_den x
theorem divInt_mulQ (x y : Rat) : Rat.divInt (x.num * y.num) ((x.den : Int) * (y.den : Int)) = x * y := by
  rw [← Rat.divInt_mul_divInt, Rat.num_divInt_den, Rat.num_divInt_den]
theorem divInt_addQ (x y : Rat) : Rat.divInt (x.num * (y.den : Int) + y.num * (x.den : Int)) ((x.den : Int) * (y.den : Int)) = x + y := by
  have h1 : (x.den : Int) ≠ 0 := by have := x.den_nz; omega
  have h2 : (y.den : Int) ≠ 0 := by have := y.den_nz; omega
  rw [← Rat.divInt_add_divInt _ _ h1 h2, Rat.num_divInt_den, Rat.num_divInt_den]
theorem divInt_negQ (x : Rat) : Rat.divInt (-x.num) (x.den : Int) = -x := by
  rw [← Rat.neg_divInt, Rat.num_divInt_den]
theorem divInt_quoQ (x y : Rat) : Rat.divInt (x.num * (y.den : Int)) ((x.den : Int) * y.num) = x / y := by
  rw [← Rat.divInt_mul_divInt, Rat.num_divInt_den, ← Rat.inv_def]; rfl
end Go.Proofs.YtbpkfcohbefphaaGreat
