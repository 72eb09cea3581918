/- Walk: Chains of the reference. -/
import Derived.Test.YtalidpojcpmcbaaHcH
namespace Go.Proofs.Ytalidpojcpmcbaa
open Go Go.RowKit

set_option maxRecDepth 20000 in
set_option maxHeartbeats 4000000 in
theorem refChains_core (n : Int) (l : List Int) (vc : Value) (h1 : 1 ≤ n) (h2 : n ≤ 24) (M : List M2) (hM : Hid (chF l n = M)) (hML : M.length ≤ 100000) (hlen : l.length ≤ 1152921504606846976) (w : World) (hrd : RdInts w vc l) :
    Calls Try.prog 21 #[.int .i64 n, vc] w fun e w' => ∃ v, e = .returned (.tuple #[v, .int .i64 0]) ∧ OwnMats w' w.heap.size v M ∧ Grow w w' := by
  obtain ⟨i0, hi, iz0, iz1, iz2⟩ := info_parts infoM
  have k1 : ¬ n < 1 := by omega
  have k2 : ¬ 128 < n := by omega
  obtain ⟨ac, cc, rfl⟩ := hrd.form
  have HRD := Lib.hid hrd
  have HLEN := Lib.hid hlen
  clear hrd hlen
  go_enter Try.func21, Try.ntmps21
  go_wp2_with fail
  go_loopg [6, 7, 8] 30 (fun f t6 t7 t8 wr => ∃ (a : Int) (u : Nat) (acc : List M2), t8 = .int .i64 a ∧ t7 = .int .i64 u ∧ 1 ≤ a ∧ Hid (a + f = 31 ∧ a ≤ 25 ∧ u + 900 * f ≤ 27000) ∧ Hid (acc ++ chA f l n a u = M) ∧ Hid (OwnMats wr w.heap.size t6 acc) ∧ Hid (Grow w wr))
  case atStart =>
    refine ⟨1, 0, [], rfl, rfl, by omega, Lib.hid (by omega), hM.out, World.ownsRow_nil _ _ _ _, ?_⟩
    show Grow w _
    (repeat (first | with_reducible exact Grow.refl _ | with_reducible refine Grow.alloc ?_ _ | with_reducible refine Grow.drew ?_ | with_reducible refine Grow.drewN ?_ _ | (with_reducible refine Grow.setCell ?_ ?hp _; (case hp => (simp; try omega))) | with_reducible refine Grow.trans ?_ (by assumption)))
  case round =>
    clear hM
    obtain ⟨a, u, acc, rfl, rfl, ha1, hfu, hacc, hown, hgr⟩ := hrel
    obtain ⟨g1, hgk⟩ : ∃ g1, gk = g1 + 1 := ⟨gk - 1, by have := hfu.out; omega⟩
    by_cases hle : a ≤ n
    · have k4 : ¬ a = 0 := by omega
      have k5 : (a == 0) = false := by simpa using k4
      have k6 : ¬ n < a := by omega
      obtain ⟨q, hq⟩ : ∃ q, n.tdiv a = q := ⟨_, rfl⟩
      obtain ⟨t, ht⟩ : ∃ t, n.tmod a = t := ⟨_, rfl⟩
      have hq0 : 0 ≤ q := by rw [← hq]; exact Int.tdiv_nonneg (by omega) (by omega)
      have hq1 : q ≤ 24 := by rw [← hq]; exact Int.le_trans (Int.tdiv_le_self _ (by omega)) h2
      have ht0 : 0 ≤ t := by rw [← ht]; exact Int.tmod_nonneg _ (by omega)
      have ht1 : t < a := by rw [← ht]; exact Int.tmod_lt_of_pos _ (by omega)
      have y1 : IntKind.i64.wrap q = q := IntWalk.i64_in _ (by omega)
      have y2 : IntKind.i64.wrap t = t := IntWalk.i64_in _ (by omega)
      obtain ⟨wr0, hw0⟩ : ∃ x, x = wr := ⟨wr, rfl⟩
      subst hw0
      by_cases hmod : t = 0
      · subst hmod
        have hacc2 := hacc.out
        rw [hgk, chA_step hle ht] at hacc2
        have HA := Lib.hid hacc2
        have HT := Lib.hid ht
        clear hacc hacc2 ht0 ht1
        go_wp2_with fail
        go_loopg [6, 7, 9] 30 (fun f t6 t7 t9 wr => ∃ (b : Int) (u2 : Nat) (acc : List M2), t9 = .int .i64 b ∧ t7 = .int .i64 u2 ∧ 0 ≤ b ∧ Hid (b + f = 30 ∧ b ≤ a ∧ u2 + 30 * f ≤ u + 900) ∧ Hid (acc ++ cB f l n a b u2 (fun u3 => chA g1 l n (a + 1) u3) = M) ∧ Hid (OwnMats wr w.heap.size t6 acc) ∧ Hid (Grow w wr))
        case atStart => exact ⟨0, u, acc, rfl, rfl, by omega, Lib.hid (by omega), HA.out, hown.out, hgr.out⟩
        case round =>
          clear HA hown hgr
          obtain ⟨b, u2, acc, rfl, rfl, hb0, hfb, hacc, hown, hgr⟩ := hrel
          obtain ⟨g2, hgk2⟩ : ∃ g2, gk = g2 + 1 := ⟨gk - 1, by have := hfb.out; have := hfu.out; omega⟩
          by_cases hlt : b < a
          · have hacc2 := hacc.out
            rw [hgk2, cB_step hlt, hq] at hacc2
            have hinv := ch_start (n := n) (a := a) (b := b) h1 h2 ha1 hle hb0 hlt HT.out
            rw [hq] at hinv
            have hlen := acc_le hacc2 hML
            have HA := Lib.hid hacc2
            have HIN := Lib.hid hinv
            clear hacc hacc2 hinv
            obtain ⟨wr1, hw1⟩ : ∃ x, x = wr := ⟨wr, rfl⟩
            subst hw1
            have hzz := hgr.out.size
            go_wp2_with (at_builtin; refine wpList_append_own_at _ rfl _ _ 24 rfl (w.heap.size) 39 i0 (.agg #[.int .i64 0, .int .i64 0, .int .i64 0, .int .i64 0]) 4 32 Try.underlying24 hi iz0 iz1 iz2 rfl (by decide) _ _ _ rfl ((hown.out.alloc _).alloc _) ⟨wr1.heap.size + 1, 0, none⟩ 1 1 [.int .i64 a, .int .i64 b, .int .i64 0, .int .i64 q] rfl rfl (four_cells _ _ _ _ _ _ _ ?c1) (four_oneCell _ _ _ _) ?c3 ?c4 ?c5 ?_)
            case c1 => simp
            case c3 => unfold maxLen; omega
            case c4 => omega
            case c5 => (try simp); omega
            intro v2 w2 hown2 hgrow2 _ hat2
            have hG2 : Grow w w2 := own_grow ((hgr.out.alloc _).alloc _) ((hown.out.alloc _).alloc _) hgrow2 (by omega)
            obtain ⟨hcc, hff⟩ := own_far hown.out hgrow2 wr1.heap.size (Nat.le_refl _) (by (try simp); omega)
            have hsz := hgrow2.size
            simp at hsz
            have hh2 : wr1.heap.size < wr1.heap.size + 1 + 1 := by omega
            have hne2 : ∀ k, v2.ownBlock = some k → k ≠ wr1.heap.size := by
              intro k hk
              rcases hat2 with h | h
              · rw [h] at hk; have := (hown.out.lt k hk).2; omega
              · rw [h] at hk; simp at hk; omega
            have HC : Hid (CrMem w wr1.heap.size ⟨a, b, 0, q⟩ v2 (acc ++ [(⟨a, b, 0, q⟩ : M2)]) w2) := by
              refine ⟨?_, ?_, ?_, ?_, ?_, by omega, hzz, ?_, hne2, hG2⟩
              · rw [hcc]; go_simp
              · rw [hcc]; go_simp
              · rw [hcc]; go_simp
              · rw [hcc]; go_simp
              · intro o; rw [hff]; go_simp
              · unfold OwnMats; rw [cellsM_snoc]; simpa using hown2
            clear hown2 hgrow2 hat2 hG2 hcc hff hne2 hown hgr hlen
            go_wp2_with fail
            go_loopg [6, 7] 30 (fun f t6 t7 wx => ∃ (g : M2) (u3 : Nat) (acc : List M2), t7 = .int .i64 u3 ∧ Hid (g.b.natAbs < f ∧ u3 + f ≤ u2 + 30) ∧ Hid (ChInv n g) ∧ Hid (acc ++ cI f l u3 g (fun u4 => cB g2 l n a (b + 1) u4 (fun u5 => chA g1 l n (a + 1) u5)) = M) ∧ Hid (CrMem w wr1.heap.size g t6 acc wx))
            case atStart => exact ⟨⟨a, b, 0, q⟩, u2, acc ++ [(⟨a, b, 0, q⟩ : M2)], rfl, Lib.hid (by show b.natAbs < 30 ∧ _; have := hfb.out; have := hfu.out; omega), HIN.out, (List.append_assoc _ _ _).trans HA.out, HC.out⟩
            case round =>
              clear HA HC hh2 HIN
              obtain ⟨g, u3, acc, rfl, hfg, hinv, hacc, hmem⟩ := hrel
              obtain ⟨m1, m2, m3, m4, mfz, mlt, mge, mrest⟩ := hmem.out
              obtain ⟨hown, hne, hgr⟩ := mrest.out
              obtain ⟨g3, hgk3⟩ : ∃ g3, gk = g3 + 1 := ⟨gk - 1, by have := hfg.out; omega⟩
              have HOW := Lib.hid hown
              have HNE := Lib.hid hne
              have HGR := Lib.hid hgr
              have hz2 := hgr.size
              clear hown hne hgr mrest
              by_cases hb0' : g.b = 0
              · have e1 : (g.b == 0) = true := by simpa using hb0'
                have e2 : (g.b != 0) = false := by simpa using hb0'
                have hacc2 := hacc.out
                rw [hgk3, cI_end hb0'] at hacc2
                have HA := Lib.hid hacc2
                clear hacc hacc2 hb0'
                go_wp2_with fail
                go_roundg g2
                case measure => omega
                case rel =>
                  have hf := hfb.out
                  have hf2 := hfg.out
                  exact ⟨b + 1, u3, acc, rfl, rfl, by omega, Lib.hid (by omega), HA.out, HOW.out, HGR.out⟩
              · have e1 : (g.b == 0) = false := by simpa using hb0'
                have e2 : (g.b != 0) = true := by simpa using hb0'
                obtain ⟨qq, hqq⟩ : ∃ qq, chQ l u3 g.a g.b = qq := ⟨_, rfl⟩
                obtain ⟨hinv2, hb2, hq1', hq2'⟩ := ch_step h1 h2 hinv.out hb0' hqq
                have hsm := ch_sm hinv.out
                have hacc2 := hacc.out
                rw [hgk3, cI_step hb0', hqq] at hacc2
                obtain ⟨m', hm'⟩ : ∃ m', nxF g qq = m' := ⟨_, rfl⟩
                have INX := Lib.hid (fun w => refnext_any g qq hsm (by omega) (by omega) w)
                rw [hm'] at INX hacc2 hinv2 hb2
                have hu3 : u3 ≤ 1000000 := by have := hfg.out; have := hfb.out; have := hfu.out; omega
                have hgb := hinv.out.2.2.1
                have hga := hinv.out.2.1
                have hlen := acc_le hacc2 hML
                have HA := Lib.hid hacc2
                have HI2 := Lib.hid hinv2
                have HB2 := Lib.hid hb2
                obtain ⟨r0, hr0⟩ : ∃ r0, flF g.a g.b = r0 := ⟨_, rfl⟩
                have FL := Lib.hid (fun w => refFloor_any g.a g.b (by omega) (by omega) (by omega) (by omega) hb0' w)
                rw [hr0] at FL
                have hrb := fl_bd (a := g.a) (b := g.b) (by omega) (by omega) hb0'
                have hrem := (fl_rem (x := g.a) hb0').2.2
                rw [hr0] at hrb hrem
                obtain ⟨rb, hrbb⟩ : ∃ rb, r0 * g.b = rb := ⟨_, rfl⟩
                obtain ⟨mb1, mb2⟩ := mul_bd (a := r0) (x := g.b) 10000 24 hrb.1 hrb.2 (by omega) (by omega)
                rw [hrbb] at hrem mb1 mb2
                have y3 : IntKind.i64.wrap rb = rb := IntWalk.i64_in _ (by omega)
                have y5 : IntKind.i64.wrap (r0 + 1) = r0 + 1 := IntWalk.i64_in _ (by omega)
                have y4 : IntKind.i64.wrap ((u3 : Int) + 1) = (u3 + 1 : Nat) := (IntWalk.i64_in _ (by omega)).trans (by omega)
                have HREM := Lib.hid hrem
                have HQQ := Lib.hid hqq
                have HR0 := Lib.hid hr0
                clear hacc hacc2 hinv hinv2 hb2 hqq hm' hb0' hsm hq1' hq2' hu3 hrem hr0 hrb mb1 mb2 hga hgb hmem
                go_upto_if 54 with (go_at_call 27; with_reducible refine (FL.out _).mono ?_; rintro e w1 ⟨rfl, rfl⟩)
                go_cut [7, 11] (fun t7 t11 wc => t7 = .int .i64 (chU l u3 : Nat) ∧ t11 = .int .i64 qq ∧ wc = wr)
                case first =>
                  by_cases hl : l = []
                  · have hq3 : r0 = qq := by
                      have h := HQQ.out
                      unfold chQ at h
                      rw [if_pos hl, HR0.out] at h
                      exact h
                    have hu4 : chU l u3 = u3 := by unfold chU; rw [if_pos hl]
                    have hn0 : (l.length : Int) = 0 := by rw [hl]; rfl
                    have hn1 : ¬ (0 : Int) < l.length := by omega
                    have HU4 := Lib.hid hu4
                    have HQ3 := Lib.hid hq3
                    clear hl hq3 hu4 hn0
                    go_wp2_with fail
                    go_meet
                    case rel => exact ⟨by rw [HU4.out], by rw [HQ3.out], rfl⟩
                  · obtain ⟨k, hk⟩ : ∃ k, u3 % l.length = k := ⟨_, rfl⟩
                    have hl0 : 0 < l.length := by
                      cases l with
                      | nil => exact absurd rfl hl
                      | cons a r => simp
                    have hkl : k < l.length := by rw [← hk]; exact Nat.mod_lt _ hl0
                    obtain ⟨b0, off, rfl, hb0', hc0⟩ : ∃ b0 off, ac = some ⟨b0, off, none⟩ ∧ b0 < w.heap.size ∧ w.cell? ⟨b0, off + k, none⟩ = some (.int .i64 (l.getD k 0)) := by
                      rcases HRD.out with ⟨a', cap', e, e2⟩ | ⟨b, off, cap', e, hb, hc⟩
                      · exact absurd e2 hl
                      · injection e with e1 _ _
                        exact ⟨b, off, e1, hb, hc k hkl⟩
                    have hc := (HGR.out.cells b0 (off + k) hb0').trans hc0
                    obtain ⟨c, hcc⟩ : ∃ c, l.getD k 0 = c := ⟨_, rfl⟩
                    rw [hcc] at hc
                    obtain ⟨t, ht⟩ : ∃ t, c.tmod 2 = t := ⟨_, rfl⟩
                    have htb : t.natAbs ≤ 1 := by
                      rw [← ht, Int.natAbs_tmod]
                      have := Nat.mod_lt c.natAbs (show 0 < (2 : Int).natAbs by decide)
                      have h2 : (2 : Int).natAbs = 2 := rfl
                      omega
                    have hq3 : (if t ≠ 0 ∧ g.a.tmod g.b ≠ 0 then r0 + 1 else r0) = qq := by
                      have h := HQQ.out
                      unfold chQ at h
                      rw [if_neg hl, hk, hcc, ht, HR0.out] at h
                      exact h
                    have hu4 : chU l u3 = u3 + 1 := by unfold chU; rw [if_neg hl]
                    have HU4 := Lib.hid hu4
                    have HQ3 := Lib.hid hq3
                    have hln := HLEN.out
                    have hm1 : ((u3 : Int)).tmod (l.length : Int) = k := by rw [← hk]; exact (Int.ofNat_tmod u3 l.length).symm
                    have hm2 : ((u3 : Int)) % (l.length : Int) = k := by rw [← hk]; exact (Int.natCast_emod u3 l.length).symm
                    have z1 : ¬ (l.length : Int) = 0 := by omega
                    have z2 : ((l.length : Int) == 0) = false := by simpa using z1
                    have z3 : (0 : Int) ≤ k := by omega
                    have z4 : (k : Int) < l.length := by omega
                    have z6 : (0 : Int) < l.length := by omega
                    have x1 : IntKind.i64.wrap (k : Int) = k := IntWalk.i64_in _ (by omega)
                    have x2 : IntKind.i64.wrap t = t := IntWalk.i64_in _ (by omega)
                    clear hl hq3 hu4 hcc hk hc0 htb
                    by_cases ht0 : t = 0
                    · have e3 : (t == 0) = true := by simpa using ht0
                      have e4 : (t != 0) = false := by simpa using ht0
                      have hr := HQ3.out
                      rw [if_neg (fun h => h.1 ht0)] at hr
                      have HRR := Lib.hid hr
                      clear hr ht0
                      go_wp2_with fail
                      go_meet
                      case rel => exact ⟨by rw [HU4.out]; rfl, by rw [HRR.out], rfl⟩
                    · have e3 : (t == 0) = false := by simpa using ht0
                      have e4 : (t != 0) = true := by simpa using ht0
                      by_cases hs0 : rb = g.a
                      · have e5 : (rb == g.a) = true := by simpa using hs0
                        have e6 : (rb != g.a) = false := by simpa using hs0
                        have hr := HQ3.out
                        rw [if_neg (fun h => h.2 (HREM.out.2 hs0))] at hr
                        have HRR := Lib.hid hr
                        clear hr ht0 hs0
                        go_wp2_with fail
                        go_meet
                        case rel => exact ⟨by rw [HU4.out]; rfl, by rw [HRR.out], rfl⟩
                      · have e5 : (rb == g.a) = false := by simpa using hs0
                        have e6 : (rb != g.a) = true := by simpa using hs0
                        have hr := HQ3.out
                        rw [if_pos ⟨ht0, fun h => hs0 (HREM.out.1 h)⟩] at hr
                        have HRR := Lib.hid hr
                        clear hr ht0 hs0
                        go_wp2_with fail
                        go_meet
                        case rel => exact ⟨by rw [HU4.out]; rfl, by rw [HRR.out], rfl⟩
                case rest =>
                  obtain ⟨rfl, rfl, rfl⟩ := hcut
                  clear HREM HQQ HR0 y3 y5 y4 hrbb FL
                  go_wp2_with fail
                  (go_at_call 28; refine (INX.out _).mono ?_; rintro e w1 ⟨rfl, hb1⟩; have hc1 := hb1.cells; have hf1 := hb1.frees; have hz1 := hb1.size; (try simp at hz1))
                  have mlt1 := Nat.lt_of_lt_of_le mlt hz1
                  have HO1 := Lib.hid (OwnMats.into HOW.out hb1)
                  have GR1 := Lib.hid (HGR.out.trans hb1)
                  have HO2 := Lib.hid (((own_put (own_put (own_put (own_put HO1.out (a := ⟨wr1.heap.size, 0, none⟩) HNE.out (.int .i64 m'.a)) (a := ⟨wr1.heap.size, 1, none⟩) HNE.out (.int .i64 m'.b)) (a := ⟨wr1.heap.size, 2, none⟩) HNE.out (.int .i64 m'.c)) (a := ⟨wr1.heap.size, 3, none⟩) HNE.out (.int .i64 m'.d))).alloc (.cells #[.int .i64 m'.a, .int .i64 m'.b, .int .i64 m'.c, .int .i64 m'.d] 39))
                  have GR2 := Lib.hid ((((((GR1.out.setCell (p := ⟨wr1.heap.size, 0, none⟩) mge (.int .i64 m'.a)).setCell (p := ⟨wr1.heap.size, 1, none⟩) mge (.int .i64 m'.b)).setCell (p := ⟨wr1.heap.size, 2, none⟩) mge (.int .i64 m'.c)).setCell (p := ⟨wr1.heap.size, 3, none⟩) mge (.int .i64 m'.d))).alloc (.cells #[.int .i64 m'.a, .int .i64 m'.b, .int .i64 m'.c, .int .i64 m'.d] 39))
                  go_wp2_with (at_builtin; refine wpList_append_own_at _ rfl _ _ 24 rfl (w.heap.size) 39 i0 (.agg #[.int .i64 0, .int .i64 0, .int .i64 0, .int .i64 0]) 4 32 Try.underlying24 hi iz0 iz1 iz2 rfl (by decide) _ _ _ rfl (HO2.out) ⟨w1.heap.size, 0, none⟩ 1 1 [.int .i64 m'.a, .int .i64 m'.b, .int .i64 m'.c, .int .i64 m'.d] rfl rfl (four_cells _ _ _ _ _ _ _ ?c1) (four_oneCell _ _ _ _) ?c3 ?c4 ?c5 ?_)
                  case c1 => simp
                  case c3 => unfold maxLen; omega
                  case c4 => omega
                  case c5 => (try simp); omega
                  intro v2 w2 hown2 hgrow2 hbeg2 hat2
                  have hG2 : Grow w w2 := own_grow GR2.out HO2.out hgrow2 (Nat.le_refl _)
                  obtain ⟨hcc, hff⟩ := own_by hgrow2 wr1.heap.size HNE.out (by (try simp); omega)
                  have hsz := hgrow2.size
                  simp at hsz
                  have HC2 : Hid (CrMem w wr1.heap.size m' v2 (acc ++ [m']) w2) := by
                    refine ⟨?_, ?_, ?_, ?_, ?_, by omega, mge, ?_, ?_, hG2⟩
                    · rw [hcc]; go_simp
                    · rw [hcc]; go_simp
                    · rw [hcc]; go_simp
                    · rw [hcc]; go_simp
                    · intro o; rw [hff]; go_simp
                    · unfold OwnMats; rw [cellsM_snoc]; simpa using hown2
                    · intro k hk
                      rcases hat2 with h | h
                      · rw [h] at hk; exact HNE.out k hk
                      · rw [h] at hk; simp at hk; omega
                  clear hown2 hgrow2 hat2 hbeg2 hG2 hcc hff HO1 HO2 GR1 GR2 HOW HNE HGR
                  go_wp2
                  go_roundg g3
                  case measure => omega
                  case rel =>
                    have hf := hfg.out
                    have hul := chU_le l u3
                    exact ⟨m', chU l u3, acc ++ [m'], rfl, Lib.hid (by have := HB2.out; omega), HI2.out, (List.append_assoc _ _ _).trans HA.out, HC2.out⟩
          · have hbe : b = a := by have := hfb.out; omega
            have hacc2 := hacc.out
            rw [hgk2, cB_end hlt] at hacc2
            have HA := Lib.hid hacc2
            have HBE := Lib.hid hbe
            clear hacc hacc2 hbe
            go_wp2_with fail
            go_roundg g1
            case measure => omega
            case rel =>
              have hf := hfu.out
              have hf2 := hfb.out
              exact ⟨a + 1, u2, acc, rfl, rfl, by omega, Lib.hid (by omega), HA.out, hown.out, hgr.out⟩
      · have e1 : (t == 0) = false := by simpa using hmod
        have e2 : (t != 0) = true := by simpa using hmod
        have hacc2 := hacc.out
        rw [hgk, chA_skip hle (by rw [ht]; exact hmod)] at hacc2
        have HA := Lib.hid hacc2
        have k7 : ¬ a ≤ 0 := by omega
        have k8 : 0 < a := by omega
        clear hacc hacc2
        go_wp2_with fail
        go_loopw [6, 7, 9] (fun t6 t7 t9 wr => t6 = u6 ∧ t7 = .int .i64 u ∧ t9 = .int .i64 0 ∧ wr = wr0) (fun _ _ _ _ => 0)
        case atStart => exact ⟨rfl, rfl, rfl, rfl⟩
        case round =>
          obtain ⟨rfl, rfl, rfl, rfl⟩ := hrel
          go_wp2_with fail
          go_roundg g1
          case measure => omega
          case rel =>
            have hf := hfu.out
            exact ⟨a + 1, u, acc, rfl, rfl, by omega, Lib.hid (by omega), HA.out, hown.out, hgr.out⟩
    · have hacc2 := hacc.out
      rw [hgk, chA_end hle, List.append_nil] at hacc2
      subst hacc2
      clear hacc
      go_wp2_with fail
      exact bodyPost_ret (v := .tuple #[u6, .int .i64 0]) (by simp only [results, Try.results21]; go_simp) rfl ⟨_, rfl, hown.out, hgr.out⟩
end Go.Proofs.Ytalidpojcpmcbaa
