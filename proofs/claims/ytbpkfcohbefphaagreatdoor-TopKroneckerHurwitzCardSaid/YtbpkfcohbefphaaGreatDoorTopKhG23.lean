/- Lemmas, plain laws and walks that the statement LwKronecker leans on (texts HwE, KhA, FxR, PwA), conditions as each theorem says. -/
import Derived.Test.YtbpkfcohbefphaaGreatDoorTopKhG20
import Derived.Test.YtbpkfcohbefphaaGreatDoorTopKhG22

namespace Go.Proofs.YtbpkfcohbefphaaGreatDoor
open Go Go.RowKit
theorem rowq_lay {W W' : World} {s t : Bool} {a b : Option Addr} {l c k e : Nat} {ty : TypeId} {x : Rat} (hW : W' = W.alloc (.cells #[.bool s, .slice a l c, .bool t, .slice b k e] ty)) (hx : RatR W (.agg #[.bool s, .slice a l c, .bool t, .slice b k e]) x) : RowQ W' W.heap.size 0 1 (fun _ => x) := by
  obtain ⟨h0, h1, h2, h3, h4, h5⟩ := ak4 hW W' (Grow.refl _)
  refine ⟨h5, h4, fun j hj => ?_⟩
  obtain rfl : j = 0 := by omega
  exact ⟨s, a, l, c, t, b, k, e, ⟨h0, h1, h2, h3⟩, fun y hy => by injection hy with hy; rw [← hy]; exact hx.grow (ag hW)⟩
theorem sq_steps {n k : Nat} (hn : n ≤ 4000) : (k < sqN n → (k + 1) * (k + 1) ≤ n) ∧ (k = sqN n → n < (k + 1) * (k + 1)) := by
  obtain ⟨h1, h2⟩ := sqN_spec (n := n) (by omega)
  exact ⟨fun h => Nat.le_trans (Nat.mul_le_mul h h) h1, fun h => by rw [h]; exact h2⟩
set_option maxRecDepth 20000 in
set_option maxHeartbeats 8000000 in
theorem hurwitzQ (n : Nat) (h1 : 1 ≤ n) (h2 : n ≤ 4000) (w : World) :
    Calls Tryz.prog 7 #[.int .i64 (n : Int)] w fun e w' => ∃ v, e = .returned (.tuple #[v, .int .i64 0]) ∧ RatR w' v (((hwN n : Nat) : Int) / ((6 : Int) : Rat)) ∧ Grow w w' := by
  have OF := Lib.hid (fun u => ofQ 0 (by decide) u)
  obtain ⟨K, hK⟩ : ∃ K, sqN n = K := ⟨_, rfl⟩
  have hKb : K ≤ 63 := by rw [← hK]; exact sq_le4 h2
  have HK := Lib.hid hK
  obtain ⟨dn, hdn⟩ : ∃ dn, -(n : Int) = dn := ⟨_, rfl⟩
  have E0 : Hid (IntKind.i64.wrap (-(n : Int)) = dn ∧ wrap64 (-(n : Int)) = dn) := Lib.hid (by rw [hdn]; exact w64n (by omega))
  have HDN := Lib.hid hdn
  clear hK hdn
  obtain ⟨W1, hW1⟩ : ∃ W1 : World, W1 = w.alloc (.cells #[.bool false, .slice none 0 0, .bool false, .slice none 0 0] 27) := ⟨_, rfl⟩
  have hg1 := ag hW1
  have K1 := Lib.hid (ak4 hW1)
  have RC : Hid (RowP W1 w.heap.size 0 1 (fun _ => none)) := Lib.hid (by rw [hW1]; exact rowp_alloc w _)
  have HW1 := Lib.hid hW1
  clear hW1
  have y1 : decide ((n : Int) < 0) = false := by simp
  have y2 : decide ((n : Int) > 4000) = false := by simp; omega
  have y3 : ((n : Int) == 0) = false := by simp; omega
  go_enter Tryz.func7, Tryz.ntmps7
  go_upto_region 1 with fail
  rw [← HW1.out]
  go_upto_region 6 with (go_at_call 20; (with_reducible refine (OF.out _).mono ?_); (rintro e u2 ⟨v2, rfl, hv2, hb2⟩; obtain ⟨s2, a2, l2, c2, t2, b2, k2, e2, rfl⟩ := hv2.form; have HV2 := Lib.hid hv2; have HG2 := Lib.hid hb2; clear hv2 hb2))
  clear y1 y2 y3
  obtain ⟨W4, hW4⟩ : ∃ W4 : World, W4 = u2.alloc (.cells #[.bool s2, .slice a2 l2 c2, .bool t2, .slice b2 k2 e2] 27) := ⟨_, rfl⟩
  rw [← hW4]
  have HR4 := Lib.hid (rowq_lay hW4 HV2.out)
  have HG4 := Lib.hid (HG2.out.trans (ag hW4))
  have hz2 : w.heap.size < u2.heap.size := (K1.out u2 HG2.out).2.2.2.2.2
  clear hW4
  go_wp2_with fail
  go_loopg [5] K (fun gk t5 wr => ∃ (k e : Nat), t5 = .int .i64 (e : Int) ∧ k ≤ K ∧ Hid (gk = K - k) ∧ Hid (e = k + 1) ∧ Hid (RowQ wr u2.heap.size 0 1 (fun _ => ((hw6 n k : Nat) : Int) / ((6 : Int) : Rat))) ∧ Hid (But (fun y => y = u2.heap.size) W4 wr))
  case atStart => exact ⟨0, 1, rfl, Nat.zero_le _, Lib.hid rfl, Lib.hid rfl, Lib.hid (HR4.out.cong (fun j _ => by rw [show hw6 n 0 = 0 from rfl]; decide +kernel)), Lib.hid (But.refl _ _)⟩
  case round =>
    obtain ⟨k, e, rfl, hk, HGK, HE, HR, HB⟩ := hrel
    have he := HE.out
    obtain ⟨s, hs⟩ : ∃ s : Nat, e * e = s := ⟨_, rfl⟩
    have hsb : s ≤ 64 * 64 := by rw [← hs]; exact Nat.mul_le_mul (by omega) (by omega)
    have hs0 : 0 < s := by rw [← hs]; exact Nat.mul_pos (by omega) (by omega)
    have E1 : Hid (IntKind.i64.wrap ((e : Int) * (e : Int)) = (s : Int) ∧ wrap64 ((e : Int) * (e : Int)) = (s : Int)) := Lib.hid (by rw [show (e : Int) * (e : Int) = (s : Int) by rw [← hs]; simp]; exact w64n (by omega))
    have hst := sq_steps (n := n) (k := k) h2
    have hse : (k + 1) * (k + 1) = s := by rw [← hs, he]
    rw [hse, HK.out] at hst
    have HST := Lib.hid hst
    have HSE := Lib.hid hse
    have hgr : Grow W1 wr := ((HG4.out.but _).trans HB.out).asGrow (fun y hy => by have := HG2.out.size; omega)
    have HGR := Lib.hid hgr
    obtain ⟨s3, a3, l3, c3, t3, b3, k3, e3, ⟨p0, p1, p2, p3⟩, hvb⟩ := RowQ.at4 HR.out (show 0 < 1 by omega)
    rw [Nat.zero_mul, Nat.add_zero] at p0 p1 p2 p3
    have HVB := Lib.hid hvb
    have hlB := HR.out.lt
    have hfB := HR.out.free
    clear hs he hst hse hgr hvb
    by_cases hkk : k = K
    · have hnl : decide (s ≤ n) = false := by have := HST.out.2 hkk; simp; omega
      have hnl2 : decide ((s : Int) ≤ (n : Int)) = false := by have := HST.out.2 hkk; simp; omega
      have hh : hw6 n k = hwN n := by rw [hkk, ← HK.out]; rfl
      have HH := Lib.hid hh
      obtain ⟨q0, q1, q2, q3, qf, qz⟩ := K1.out wr HGR.out
      clear hh hkk
      obtain ⟨e1, e2⟩ := E1.out
      go_wp2_with fail
      clear e1 e2
      obtain ⟨h1, h2⟩ := rescell (w := w) (RC.out.grow HGR.out) (Nat.le_refl _) (hg1.trans HGR.out) HVB.out
      rw [HH.out] at h1
      exact bodyPost_ret (v := .tuple #[.agg #[.bool s3, .slice a3 l3 c3, .bool t3, .slice b3 k3 e3], .int .i64 0]) (by rw [results_cell_tmp rfl]; go_simp) rfl ⟨_, rfl, h1, h2⟩
    · have hkl : k < K := by omega
      have hle : decide (s ≤ n) = true := by have := HST.out.1 (by omega); simp; omega
      have hle2 : decide ((s : Int) ≤ (n : Int)) = true := by have := HST.out.1 (by omega); simp; omega
      have hsz : ¬ ((s : Int) = 0) := by omega
      have hsz2 : ¬ (s = 0) := by omega
      obtain ⟨r, hr⟩ : ∃ r, n % s = r := ⟨_, rfl⟩
      have E2 : Hid (Int.tmod (n : Int) (s : Int) = (r : Int)) := Lib.hid (by rw [← hr, Int.natCast_emod]; exact Int.tmod_eq_emod_of_nonneg (by omega))
      have hrb : r ≤ 4000 := by rw [← hr]; exact Nat.le_trans (Nat.mod_le _ _) h2
      have E3 := Lib.hid (w64n (n := (r : Int)) (by omega))
      have E4 := Lib.hid (inc_wrap (i := e) (n := 100) (by have := HE.out; omega) (by omega))
      have HHW : Hid (hw6 n (k + 1) = hw6 n k + if r = 0 ∧ posB (n / s) = true then 6 / unN (n / s) * clsN (n / s) else 0) := Lib.hid (by
        show hw6 n k + (if n % ((k + 1) * (k + 1)) = 0 ∧ posB (n / ((k + 1) * (k + 1))) = true then 6 / unN (n / ((k + 1) * (k + 1))) * clsN (n / ((k + 1) * (k + 1))) else 0) = _
        rw [HSE.out, hr])
      have HRM := Lib.hid hr
      clear hkk hr
      by_cases hr0 : r = 0
      · subst hr0
        obtain ⟨q, hq⟩ : ∃ q, n / s = q := ⟨_, rfl⟩
        have hqs : n = s * q := by
          have h3 := Nat.div_add_mod n s
          rw [HRM.out, hq] at h3
          omega
        have hq1 : 1 ≤ q := by
          rcases Nat.eq_zero_or_pos q with h0 | h0
          · rw [h0, Nat.mul_zero] at hqs; omega
          · exact h0
        have hq4 : q ≤ 4000 := by rw [← hq]; exact Nat.le_trans (Nat.div_le_self _ _) h2
        obtain ⟨dq, hdq⟩ : ∃ d, -(q : Int) = d := ⟨_, rfl⟩
        have E5 : Hid (Int.tdiv dn (s : Int) = dq) := Lib.hid (by
          rw [← HDN.out, Int.neg_tdiv, ← hdq, Int.tdiv_eq_ediv_of_nonneg (by omega), ← Int.natCast_ediv, hq])
        have E6 := Lib.hid (w64n (n := dq) (by omega))
        rw [hq] at HHW
        rcases Bool.eq_false_or_eq_true (posB q) with hp | hp
        · have WG := Lib.hid (fun u => weightedHQ q dq hdq.symm hq1 hq4 hp u)
          rw [wn_six] at WG
          obtain ⟨g6, hg6⟩ : ∃ g, 6 / unN q * clsN q = g := ⟨_, rfl⟩
          have hg6b : g6 ≤ 6 * 1332 := by rw [← hg6]; exact Nat.mul_le_mul (Nat.div_le_self _ _) (clsN_le hq4)
          rw [hg6] at WG HHW
          have hhk : hw6 n (k + 1) = hw6 n k + g6 := by rw [HHW.out, if_pos ⟨rfl, hp⟩]
          obtain ⟨x, hx⟩ : ∃ x, hw6 n k = x := ⟨_, rfl⟩
          have hxb : x ≤ 63 * 7992 := by rw [← hx]; exact Nat.le_trans (hw6_le h2 k) (Nat.mul_le_mul_right _ (by omega))
          rw [hx] at hhk HVB
          have HX := Lib.hid hhk
          have AD : Hid (∀ (u : World) (v1 v2 : Value), RatR u v1 ((x : Int) / ((6 : Int) : Rat)) → RatR u v2 ((g6 : Int) / ((6 : Int) : Rat)) → Calls Tryz.prog 8 #[v1, v2] u fun e w' => ∃ v, e = .returned v ∧ RatR w' v (((hw6 n (k + 1) : Nat) : Int) / ((6 : Int) : Rat)) ∧ Grow u w') := Lib.hid (fun u v1 v2 h3 h4 => by
            rw [hhk, ← six_add]
            exact addQ _ _ v1 v2 ((Sm.mono (sm_div (x : Int) 6 (by omega)) (show (x : Int).natAbs ≤ 503496 by omega) (Nat.le_refl _)).addB (Sm.mono (sm_div (g6 : Int) 6 (by omega)) (show (g6 : Int).natAbs ≤ 7992 by omega) (Nat.le_refl _)) (by omega) (by omega)) u h3 h4)
          have HST2 := Lib.hid (fun (u : World) (hu : Grow wr u) (s : Bool) (a : Option Addr) (l c : Nat) (t : Bool) (b : Option Addr) (k' e' : Nat) (hx : RatR u (.agg #[.bool s, .slice a l c, .bool t, .slice b k' e']) (((hw6 n (k + 1) : Nat) : Int) / ((6 : Int) : Rat))) => (⟨RowP.set (RowP.grow HR.out hu) (show 0 < 1 by omega) hx, But.st4 (X := fun b => b = u2.heap.size) (hu.but _) (.inr rfl) ((RowP.grow HR.out hu).q4 (show 0 < 1 by omega)) s a l c t b k' e'⟩ : _ ∧ _))
          simp only [Nat.zero_mul, Nat.add_zero] at HST2
          have D0 := Lib.hid (fun (u : World) (hg : Grow wr u) => (⟨(hg.cells _ _ hlB).trans p0, (hg.cells _ _ hlB).trans p1, (hg.cells _ _ hlB).trans p2, (hg.cells _ _ hlB).trans p3, fun o => (hg.frees _ _ hlB).trans (hfB o), Nat.lt_of_lt_of_le hlB hg.size⟩ : _ ∧ _ ∧ _ ∧ _ ∧ (∀ o, u.frozen? ⟨u2.heap.size, o, none⟩ = false) ∧ _))
          clear hq hqs hdq hp hg6 hhk hx p0 p1 p2 p3 hfB
          obtain ⟨e1, e2⟩ := E1.out
          have e3 := E2.out
          obtain ⟨e4, e5⟩ := E3.out
          obtain ⟨e6, e7⟩ := E0.out
          have e8 := E5.out
          obtain ⟨e9, e10⟩ := E6.out
          go_upto_region 11 with (go_at_call 12; (with_reducible refine (WG.out _).mono ?_); (rintro e u5 ⟨v5, rfl, hv5, hb5⟩; obtain ⟨s5, a5, l5, c5, t5, b5, k5, e5', rfl⟩ := hv5.form; have HV5 := Lib.hid hv5; have HG5 := Lib.hid hb5; clear hv5 hb5))
          clear e1 e2 e3 e4 e5 e6 e7 e8 e9 e10
          obtain ⟨W6, hW6⟩ : ∃ W6 : World, W6 = u5.alloc (.cells #[.bool s5, .slice a5 l5 c5, .bool t5, .slice b5 k5 e5'] 27) := ⟨_, rfl⟩
          rw [← hW6]
          have HG6 := Lib.hid (HG5.out.trans (ag hW6))
          have HV6 := Lib.hid (HV5.out.grow (ag hW6))
          obtain ⟨x0, x1, x2, x3, x4, x5⟩ := ak4 hW6 W6 (Grow.refl _)
          obtain ⟨d0, d1, d2, d3, d4, d5⟩ := D0.out W6 HG6.out
          clear hW6
          obtain ⟨e1, e2⟩ := E4.out
          go_wp2_with (go_at_call 8; (with_reducible refine (AD.out _ _ _ (HVB.out.grow HG6.out) HV6.out).mono ?_); (rintro e u9 ⟨v9, rfl, hv9, hb9⟩; obtain ⟨s9, a9, l9, c9, t9, b9, k9, e9, rfl⟩ := hv9.form; have HV9 := Lib.hid hv9; clear hv9; obtain ⟨d0, d1, d2, d3, d4, d5⟩ := D0.out u9 (HG6.out.trans hb9)))
          clear e1 e2
          obtain ⟨hst1, hst2⟩ := HST2.out u9 (HG6.out.trans (by (repeat (first | with_reducible exact Grow.refl _ | with_reducible refine Grow.alloc ?_ _ | with_reducible refine Grow.drew ?_ | with_reducible refine Grow.drewN ?_ _ | (with_reducible refine Grow.setCell ?_ ?hp _; (case hp => (simp; try omega))) | with_reducible refine Grow.trans ?_ (by assumption))))) _ _ _ _ _ _ _ _ HV9.out
          go_roundg (K - (k + 1))
          case measure => have := HGK.out; omega
          case rel => exact ⟨k + 1, e + 1, rfl, hkl, Lib.hid rfl, Lib.hid (by rw [HE.out]), Lib.hid (RowP.mono hst1 (Nat.le_refl _) (fun j x hj hx => by rw [if_pos (by omega)]; exact hx)), Lib.hid (HB.out.trans hst2)⟩
        · have WG := Lib.hid (fun u => weightedHN q dq hdq.symm hq1 hq4 hp u)
          have HX : Hid (hw6 n (k + 1) = hw6 n k) := Lib.hid (by rw [HHW.out, if_neg (by rw [hp]; simp)]; rfl)
          clear hq hqs hdq hp p0 p1 p2 p3 hfB
          obtain ⟨e1, e2⟩ := E1.out
          have e3 := E2.out
          obtain ⟨e4, e5⟩ := E3.out
          obtain ⟨e6, e7⟩ := E0.out
          have e8 := E5.out
          obtain ⟨e9, e10⟩ := E6.out
          go_upto_region 11 with (go_at_call 12; (with_reducible refine (WG.out _).mono ?_); (rintro e u5 ⟨rfl, hb5⟩; have HG5 := Lib.hid hb5; clear hb5))
          clear e1 e2 e3 e4 e5 e6 e7 e8 e9 e10
          obtain ⟨e1, e2⟩ := E4.out
          go_wp2_with fail
          clear e1 e2
          go_roundg (K - (k + 1))
          case measure => have := HGK.out; omega
          case rel =>
            have hg9 := HG5.out
            exact ⟨k + 1, e + 1, rfl, hkl, Lib.hid rfl, Lib.hid (by rw [HE.out]), Lib.hid (by rw [HX.out]; exact RowP.grow HR.out (hg9.trans (by (repeat (first | with_reducible exact Grow.refl _ | with_reducible refine Grow.alloc ?_ _ | with_reducible refine Grow.drew ?_ | with_reducible refine Grow.drewN ?_ _ | (with_reducible refine Grow.setCell ?_ ?hp _; (case hp => (simp; try omega))) | with_reducible refine Grow.trans ?_ (by assumption)))))), Lib.hid (HB.out.grow (hg9.trans (by (repeat (first | with_reducible exact Grow.refl _ | with_reducible refine Grow.alloc ?_ _ | with_reducible refine Grow.drew ?_ | with_reducible refine Grow.drewN ?_ _ | (with_reducible refine Grow.setCell ?_ ?hp _; (case hp => (simp; try omega))) | with_reducible refine Grow.trans ?_ (by assumption))))))⟩
      · have hrne : ((r : Int) != 0) = true := by simp; omega
        have HX : Hid (hw6 n (k + 1) = hw6 n k) := Lib.hid (by rw [HHW.out, if_neg (by simp [hr0])]; rfl)
        clear hr0 p0 p1 p2 p3 hfB
        obtain ⟨e1, e2⟩ := E1.out
        have e3 := E2.out
        obtain ⟨e4, e5⟩ := E3.out
        obtain ⟨e6, e7⟩ := E4.out
        go_wp2_with fail
        clear e1 e2 e3 e4 e5 e6 e7
        go_roundg (K - (k + 1))
        case measure => have := HGK.out; omega
        case rel => exact ⟨k + 1, e + 1, rfl, hkl, Lib.hid rfl, Lib.hid (by rw [HE.out]), Lib.hid (by rw [HX.out]; exact HR.out), HB⟩
end Go.Proofs.YtbpkfcohbefphaaGreatDoor
namespace Go.Proofs.YtbpkfcohbefphaaGreatDoor
open Go Go.RowKit
set_option maxRecDepth 20000 in
set_option maxHeartbeats 8000000 in
theorem hurwitz0Q (w : World) : Calls Tryz.prog 7 #[.int .i64 0] w fun e w' => ∃ v, e = .returned (.tuple #[v, .int .i64 0]) ∧ RatR w' v (((-1 : Int) : Rat) / ((12 : Int) : Rat)) ∧ Grow w w' := by
  have OA := Lib.hid (fun u => ofV (-1) (by decide) u)
  have OB := Lib.hid (fun u => ofV 12 (by decide) u)
  have MK := Lib.hid (fun v1 v2 (u : World) h1 h2 => makeQ (-1) 12 v1 v2 (by decide) u h1 h2)
  rw [Rat.divInt_eq_div] at MK
  obtain ⟨W1, hW1⟩ : ∃ W1 : World, W1 = w.alloc (.cells #[.bool false, .slice none 0 0, .bool false, .slice none 0 0] 27) := ⟨_, rfl⟩
  have hg1 := ag hW1
  have K1 := Lib.hid (ak4 hW1)
  have RC : Hid (RowP W1 w.heap.size 0 1 (fun _ => none)) := Lib.hid (by rw [hW1]; exact rowp_alloc w _)
  have HG1 := Lib.hid hg1
  have HW1 := Lib.hid hW1
  clear hW1 hg1
  go_enter Tryz.func7, Tryz.ntmps7
  go_upto_region 1 with fail
  rw [← HW1.out]
  go_wp2_with (first
    | (go_at_call 19; (with_reducible refine (OA.out _).mono ?_); clear OA; (rintro e u6 ⟨v6, rfl, hv6, hb6⟩; obtain ⟨s6, a6, l6, c6, rfl⟩ := hv6.form; have HV6 := Lib.hid hv6; have HG6 := Lib.hid hb6; clear hv6 hb6))
    | (go_at_call 19; (with_reducible refine (OB.out _).mono ?_); (rintro e u7 ⟨v7, rfl, hv7, hb7⟩; obtain ⟨s7, a7, l7, c7, rfl⟩ := hv7.form; have HV7 := Lib.hid hv7; have HG7 := Lib.hid hb7; clear hv7 hb7))
    | (go_at_call 18; (with_reducible refine (MK.out _ _ _ (HV6.out.grow HG7.out) HV7.out).mono ?_); (rintro e u8 ⟨v8, rfl, hv8, hb8⟩; obtain ⟨s8, a8, l8, c8, t8, b8, k8, e8, rfl⟩ := hv8.form; have HV8 := Lib.hid hv8; have HG8 := Lib.hid (HG6.out.trans (HG7.out.trans hb8)); clear hv8 hb8; obtain ⟨q0, q1, q2, q3, qf, qz⟩ := K1.out u8 HG8.out)))
  obtain ⟨h1, h2⟩ := rescell (w := w) (RC.out.grow HG8.out) (Nat.le_refl _) (HG1.out.trans HG8.out) HV8.out
  exact bodyPost_ret (v := .tuple #[.agg #[.bool s8, .slice a8 l8 c8, .bool t8, .slice b8 k8 e8], .int .i64 0]) (by rw [results_cell_tmp rfl]; go_simp) rfl ⟨_, rfl, h1, h2⟩
end Go.Proofs.YtbpkfcohbefphaaGreatDoor
namespace Go.Proofs.YtbpkfcohbefphaaGreatDoor
open Go Go.RowKit
theorem FrX.putR {w0 u : World} {t : TypeId} {F : Nat} {x : Rat} {s tt : Bool} {a b : Option Addr} {l c k e : Nat} (h : FrX w0 u (.cells #[.bool false, .slice none 0 0, .bool false, .slice none 0 0] t) F) (hx : RatR u (.agg #[.bool s, .slice a l c, .bool tt, .slice b k e]) x) :
    RowQ (st4 u F 0 (.bool s) (.slice a l c) (.bool tt) (.slice b k e)) F 0 1 (fun _ => x) ∧ Grow w0 (st4 u F 0 (.bool s) (.slice a l c) (.bool tt) (.slice b k e)) := by
  obtain ⟨y, h1, rfl, h3⟩ := h
  have hr : RowP u y.heap.size 0 1 (fun _ => none) := (rowp_alloc y t).grow h3
  have h4 := RowP.set hr (show 0 < 1 by omega) hx
  have h5 := But.st4 (X := fun b => b = y.heap.size) (But.refl _ u) (.inr rfl) (hr.q4 (show 0 < 1 by omega)) s a l c tt b k e
  simp only [Nat.zero_mul, Nat.add_zero] at h4 h5
  exact ⟨h4.mono (Nat.le_refl _) (fun j x hj hx => by rw [if_pos (by omega)]; exact hx), (((h1.trans (((Grow.refl y).alloc _).trans h3)).but _).trans h5).asGrow (fun b hb => by have := h1.size; omega)⟩
end Go.Proofs.YtbpkfcohbefphaaGreatDoor
namespace Go.Proofs.YtbpkfcohbefphaaGreatDoor
open Go Go.RowKit
set_option maxRecDepth 20000 in
set_option maxHeartbeats 8000000 in
theorem pow0V (z : Int) (u1 : Value) (w : World) (h1 : IntR w u1 z) : Calls Tryz.prog 96 #[u1, .int .i64 0] w fun e w' => ∃ v, e = .returned (.tuple #[v, .int .i64 0]) ∧ IntR w' v 1 ∧ Grow w w' := by
  obtain ⟨s1, a1, l1, c1, rfl⟩ := h1.form
  have BT := Lib.hid (fun (u : World) (hu : Grow w u) => bitsV z _ u (h1.grow hu))
  have hb32 : Lib.bitLen z.natAbs ≤ 32 := Lib.bitLen_le _ 32 (by omega) (by have := h1.lt; omega)
  obtain ⟨B, hB⟩ : ∃ B, Lib.bitLen z.natAbs = B := ⟨_, rfl⟩
  rw [hB] at BT hb32
  have O1 := Lib.hid (fun u => ofV 1 (by decide) u)
  have LN : Hid (∀ u, Calls Tryz.prog 52 #[.int .u64 0] u fun e w' => e = .returned (.int .i64 0) ∧ w' = u) := Lib.hid (fun u => by
    have h := len_int 0 u (by omega) (by omega)
    rw [show ((Lib.bitLen (0 : Int).toNat : Nat) : Int) = 0 by decide +kernel] at h
    exact h)
  obtain ⟨W1, hW1⟩ : ∃ W1 : World, W1 = w.alloc (.cells #[.bool s1, .slice a1 l1 c1] 25) := ⟨_, rfl⟩
  obtain ⟨W2, hW2⟩ : ∃ W2 : World, W2 = W1.alloc (.cells #[.bool false, .slice none 0 0] 25) := ⟨_, rfl⟩
  have hg2 : Grow w W2 := (ag hW1).trans (ag hW2)
  have K1 := Lib.hid (fun u (hu : Grow W2 u) => ak2 hW1 u ((ag hW2).trans hu))
  have hz1 : W1.heap.size = w.heap.size + 1 := by rw [hW1]; simp
  have RB : Hid (BxV W2 (w.heap.size + 1) 0) := Lib.hid (by rw [hW2, ← hz1]; exact BxV.zero W1 _)
  have HW1 := Lib.hid hW1
  have HW2 := Lib.hid hW2
  have G2 := Lib.hid hg2
  clear h1 hW1 hW2 hz1 hB hg2
  obtain ⟨Q, hQ⟩ : ∃ Q : Int, Int.tdiv 1048576 (B : Int) = Q := ⟨_, rfl⟩
  have hQ0 : 0 ≤ Q ∧ Q ≤ 1048576 := by
    rw [← hQ, Int.tdiv_eq_ediv_of_nonneg (by omega)]
    exact ⟨Int.ediv_nonneg (by omega) (by omega), Int.ediv_le_self _ (by omega)⟩
  have TQ := Lib.hid hQ
  have VQ := Lib.hid (w64n (n := Q) (by omega))
  have yQ : decide ((0 : Int) > Q) = false := by simp; omega
  clear hQ
  have b0 := K1.out W2 (Grow.refl _)
  obtain ⟨b0, b1, b2, b3⟩ := b0
  have hmin : min (0 : Int) 2 = 0 := by decide
  by_cases hB1 : 1 < B
  · have y1 : decide ((B : Int) > 1) = true := by simp; omega
    have y1n : decide (1 < B) = true := by simp; omega
    have y2 : decide ((B : Int) ≤ 1) = false := by simp; omega
    have y2n : decide (B ≤ 1) = false := by simp; omega
    have hz : ¬ ((B : Int) = 0) := by omega
    have hzn : ¬ (B = 0) := by omega
    clear hB1
    have tq := TQ.out
    obtain ⟨vq, vq'⟩ := VQ.out
    go_enter Tryz.func96, Tryz.ntmps96
    go_upto_region 1 with fail
    rw [← HW1.out, ← HW2.out]
    go_upto_region 9 with (first
      | (go_at_call 117; (with_reducible refine (BT.out _ (G2.out.trans (by (repeat (first | with_reducible exact Grow.refl _ | with_reducible refine Grow.alloc ?_ _ | with_reducible refine Grow.drew ?_ | with_reducible refine Grow.drewN ?_ _ | (with_reducible refine Grow.setCell ?_ ?hp _; (case hp => (simp; try omega))) | with_reducible refine Grow.trans ?_ (by assumption)))))).mono ?_); (rintro e u3 ⟨rfl, hb3⟩))
      | (go_at_call 19; (with_reducible refine (O1.out _).mono ?_); (rintro e u4 ⟨v4, rfl, hv4, hb4⟩; obtain ⟨s4, a4, l4, c4, rfl⟩ := hv4.form; have HV4 := Lib.hid hv4; clear hv4)))
    clear y1 y1n y2 y2n tq vq vq' hz hzn
    have hgx : Grow W2 (u4.alloc (.cells #[.bool s4, .slice a4 l4 c4] 25)) := by (repeat (first | with_reducible exact Grow.refl _ | with_reducible refine Grow.alloc ?_ _ | with_reducible refine Grow.drew ?_ | with_reducible refine Grow.drewN ?_ _ | (with_reducible refine Grow.setCell ?_ ?hp _; (case hp => (simp; try omega))) | with_reducible refine Grow.trans ?_ (by assumption)))
    obtain ⟨X, hX⟩ : ∃ X, u4.heap.size = X := ⟨_, rfl⟩
    obtain ⟨w5, hw5⟩ : ∃ w5, w5 = u4.alloc (.cells #[.bool s4, .slice a4 l4 c4] 25) := ⟨_, rfl⟩
    rw [← hw5] at hgx
    rw [← hw5]
    obtain ⟨x0, x1, x2, x3⟩ := ak2 hw5 w5 (Grow.refl _)
    have HV5 := Lib.hid (HV4.out.grow (ag hw5))
    have HGX := Lib.hid hgx
    rw [hX] at x0 x1 x2 x3
    try rw [hX]
    clear hw5 hX hgx hb3 hb4 HV4 b0 b1 b2 b3
    go_wp2_with (go_at_call 52; (with_reducible refine (LN.out _).mono ?_); (rintro e u6 ⟨rfl, rfl⟩))
    go_loopg [8] 0 (fun gk t8 wr => t8 = .int .i64 (-1) ∧ wr = u6)
    case atStart => exact ⟨rfl, rfl⟩
    case round =>
      obtain ⟨rfl, rfl⟩ := hrel
      obtain ⟨sr, ar, lr, cr, hcR, -⟩ := int_cells (RB.out.grow HGX.out)
      obtain ⟨r0, r1, r2, r3⟩ := hcR wr (Grow.refl _)
      have HNR := Lib.hid (RB.out.grow HGX.out).2.1
      have HG9 := Lib.hid (G2.out.trans HGX.out)
      clear hcR
      go_wp2_with fail
      refine bodyPost_ret (v := .tuple #[.agg #[.bool s4, .slice a4 l4 c4], .int .i64 0]) (by rw [results_cell_tmp rfl]; go_simp) rfl ⟨_, rfl, HV5.out.set2 HNR.out _ _ _ _, ?_⟩
      exact (HG9.out.setCell (by show w.heap.size ≤ w.heap.size + 1; omega) _).setCell (by show w.heap.size ≤ w.heap.size + 1; omega) _
  · have y1 : decide ((B : Int) > 1) = false := by simp; omega
    have y1n : decide (1 < B) = false := by simp; omega
    have y2 : decide ((B : Int) ≤ 1) = true := by simp; omega
    have y2n : decide (B ≤ 1) = true := by simp; omega
    clear hB1
    go_enter Tryz.func96, Tryz.ntmps96
    go_upto_region 1 with fail
    rw [← HW1.out, ← HW2.out]
    go_upto_region 9 with (first
      | (go_at_call 117; (with_reducible refine (BT.out _ (G2.out.trans (by (repeat (first | with_reducible exact Grow.refl _ | with_reducible refine Grow.alloc ?_ _ | with_reducible refine Grow.drew ?_ | with_reducible refine Grow.drewN ?_ _ | (with_reducible refine Grow.setCell ?_ ?hp _; (case hp => (simp; try omega))) | with_reducible refine Grow.trans ?_ (by assumption)))))).mono ?_); (rintro e u3 ⟨rfl, hb3⟩))
      | (go_at_call 19; (with_reducible refine (O1.out _).mono ?_); (rintro e u4 ⟨v4, rfl, hv4, hb4⟩; obtain ⟨s4, a4, l4, c4, rfl⟩ := hv4.form; have HV4 := Lib.hid hv4; clear hv4)))
    clear y1 y1n y2 y2n
    have hgx : Grow W2 (u4.alloc (.cells #[.bool s4, .slice a4 l4 c4] 25)) := by (repeat (first | with_reducible exact Grow.refl _ | with_reducible refine Grow.alloc ?_ _ | with_reducible refine Grow.drew ?_ | with_reducible refine Grow.drewN ?_ _ | (with_reducible refine Grow.setCell ?_ ?hp _; (case hp => (simp; try omega))) | with_reducible refine Grow.trans ?_ (by assumption)))
    obtain ⟨X, hX⟩ : ∃ X, u4.heap.size = X := ⟨_, rfl⟩
    obtain ⟨w5, hw5⟩ : ∃ w5, w5 = u4.alloc (.cells #[.bool s4, .slice a4 l4 c4] 25) := ⟨_, rfl⟩
    rw [← hw5] at hgx
    rw [← hw5]
    obtain ⟨x0, x1, x2, x3⟩ := ak2 hw5 w5 (Grow.refl _)
    have HV5 := Lib.hid (HV4.out.grow (ag hw5))
    have HGX := Lib.hid hgx
    rw [hX] at x0 x1 x2 x3
    try rw [hX]
    clear hw5 hX hgx hb3 hb4 HV4 b0 b1 b2 b3
    go_wp2_with (go_at_call 52; (with_reducible refine (LN.out _).mono ?_); (rintro e u6 ⟨rfl, rfl⟩))
    go_loopg [8] 0 (fun gk t8 wr => t8 = .int .i64 (-1) ∧ wr = u6)
    case atStart => exact ⟨rfl, rfl⟩
    case round =>
      obtain ⟨rfl, rfl⟩ := hrel
      obtain ⟨sr, ar, lr, cr, hcR, -⟩ := int_cells (RB.out.grow HGX.out)
      obtain ⟨r0, r1, r2, r3⟩ := hcR wr (Grow.refl _)
      have HNR := Lib.hid (RB.out.grow HGX.out).2.1
      have HG9 := Lib.hid (G2.out.trans HGX.out)
      clear hcR
      go_wp2_with fail
      refine bodyPost_ret (v := .tuple #[.agg #[.bool s4, .slice a4 l4 c4], .int .i64 0]) (by rw [results_cell_tmp rfl]; go_simp) rfl ⟨_, rfl, HV5.out.set2 HNR.out _ _ _ _, ?_⟩
      exact (HG9.out.setCell (by show w.heap.size ≤ w.heap.size + 1; omega) _).setCell (by show w.heap.size ≤ w.heap.size + 1; omega) _
set_option maxRecDepth 20000 in
set_option maxHeartbeats 8000000 in
theorem bitsRQ (x : Rat) (v1 : Value) (w : World) (h1 : RatR w v1 x) : Calls Tryz.prog 95 #[v1] w fun e w' => (∃ s : Nat, e = .returned (.int .i64 (s : Int)) ∧ s ≤ 64) ∧ Grow w w' := by
  obtain ⟨s1, a1, l1, c1, t1, b1, k1, e1, rfl⟩ := h1.form
  have NQ := Lib.hid (fun u hu => normalQ x _ u (h1.grow hu))
  obtain ⟨W1, hW1⟩ : ∃ W1 : World, W1 = w.alloc (.cells #[.bool s1, .slice a1 l1 c1, .bool t1, .slice b1 k1 e1] 27) := ⟨_, rfl⟩
  have HR1 := Lib.hid (rowq_lay hW1 h1)
  have HG1 := Lib.hid (ag hW1)
  have K1 := Lib.hid (ak4 hW1)
  have HW1 := Lib.hid hW1
  clear hW1 h1
  obtain ⟨f0, f1, f2, f3, f4, f5⟩ := K1.out W1 (Grow.refl _)
  go_enter Tryz.func95, Tryz.ntmps95
  go_upto_region 1 with fail
  rw [← HW1.out]
  go_upto_region 2 with (go_at_call 22; (with_reducible refine (NQ.out _ HG1.out).mono ?_); (rintro e u2 ⟨v2, rfl, hv2, hb2⟩; obtain ⟨s2, a2, l2, c2, t2, b2, k2, e2, rfl⟩ := hv2.form; have HV2 := Lib.hid hv2; have HG2 := Lib.hid hb2; clear hv2 hb2 f0 f1 f2 f3 f4 f5; obtain ⟨f0, f1, f2, f3, f4, f5⟩ := K1.out u2 HG2.out))
  have hru := RowP.grow HR1.out HG2.out
  have hst1 := RowP.set hru (show 0 < 1 by omega) HV2.out
  have hst2 := But.st4 (X := fun b => b = w.heap.size) (HG2.out.but _) (.inr rfl) (hru.q4 (show 0 < 1 by omega)) s2 a2 l2 c2 t2 b2 k2 e2
  simp only [Nat.zero_mul, Nat.add_zero] at hst1 hst2
  obtain ⟨w3, hw3⟩ : ∃ w3, st4 u2 w.heap.size 0 (.bool s2) (.slice a2 l2 c2) (.bool t2) (.slice b2 k2 e2) = w3 := ⟨_, rfl⟩
  have hw4 : ((((u2.setCell ⟨w.heap.size, 0, none⟩ (.bool s2)).setCell ⟨w.heap.size, 1, none⟩ (.slice a2 l2 c2)).setCell ⟨w.heap.size, 2, none⟩ (.bool t2)).setCell ⟨w.heap.size, 3, none⟩ (.slice b2 k2 e2)) = w3 := hw3
  rw [hw3] at hst1 hst2
  rw [hw4]
  have HG3 : Hid (Grow w w3) := Lib.hid (((HG1.out.but _).trans hst2).asGrow (fun b hb => by omega))
  have hr3 : RowQ w3 w.heap.size 0 1 (fun _ => x) := RowP.mono hst1 (Nat.le_refl _) (fun j y hj hy => by rw [if_pos (by omega)]; exact hy)
  obtain ⟨s4, a4, l4, c4, t4, b4, k4, e4, ⟨p0, p1, p2, p3⟩, hv4⟩ := RowQ.at4 hr3 (show 0 < 1 by omega)
  rw [Nat.zero_mul, Nat.add_zero] at p0 p1 p2 p3
  have hl3 := hr3.lt
  have D3 := Lib.hid (fun (u : World) (hg : Grow w3 u) => (⟨(hg.cells _ _ hl3).trans p0, (hg.cells _ _ hl3).trans p1, (hg.cells _ _ hl3).trans p2, (hg.cells _ _ hl3).trans p3, Nat.lt_of_lt_of_le hl3 hg.size⟩ : _ ∧ _ ∧ _ ∧ _ ∧ _))
  have hn := hv4.num
  have hd := hv4.den
  have BN := Lib.hid (fun u (hu : Grow w3 u) => bitsV x.num _ u (hn.grow hu))
  have BD := Lib.hid (fun u (hu : Grow w3 u) => bitsV (x.den : Int) _ u (hd.grow hu))
  have hb1 : Lib.bitLen x.num.natAbs ≤ 32 := Lib.bitLen_le _ 32 (by omega) (by have := hn.lt; omega)
  have hb2 : Lib.bitLen (x.den : Int).natAbs ≤ 32 := Lib.bitLen_le _ 32 (by omega) (by have := hd.lt; omega)
  obtain ⟨n1, hn1⟩ : ∃ n1, Lib.bitLen x.num.natAbs = n1 := ⟨_, rfl⟩
  obtain ⟨n2, hn2⟩ : ∃ n2, Lib.bitLen (x.den : Int).natAbs = n2 := ⟨_, rfl⟩
  rw [hn1] at BN hb1
  rw [hn2] at BD hb2
  obtain ⟨M, hM⟩ : ∃ M, max n1 n2 = M := ⟨_, rfl⟩
  have X1 : Hid (max (n1 : Int) (n2 : Int) = (M : Int)) := Lib.hid (by omega)
  have X2 : Hid ((if (n2 : Int) > (n1 : Int) then (n2 : Int) else (n1 : Int)) = (M : Int)) := Lib.hid (by split <;> omega)
  have X3 : Hid ((if n2 > n1 then (n2 : Int) else (n1 : Int)) = (M : Int)) := Lib.hid (by split <;> omega)
  have hMb : M ≤ 64 := by omega
  clear hru hst1 hst2 hw3 hw4 hr3 p0 p1 p2 p3 hv4 hl3 hn hd hb1 hb2 hn1 hn2 hM f0 f1 f2 f3 f4 f5
  have x1 := X1.out
  have x2 := X2.out
  have x3 := X3.out
  refine region_held (id := 2) (fun v => Grow w3 v) [0, 1, 3, 4, 2, 5, 6, 7] (kdL [0, 1, 2, 0, 1, 2, 2, 0]) (by kernel_rfl) (by kernel_rfl) (fun t ht => kdL_lt _ t ht) ?hS0p ?_
  case hS0p => ((try dsimp only); (repeat (first | with_reducible exact Grow.refl _ | with_reducible refine Grow.alloc ?_ _ | with_reducible refine Grow.drew ?_ | with_reducible refine Grow.drewN ?_ _ | (with_reducible refine Grow.setCell ?_ ?hp _; (case hp => (simp; try omega))) | with_reducible refine Grow.trans ?_ (by assumption))))
  refine held_quiet (v := ?vp0) rfl rfl (Or.inl ⟨by rfl, ?hyp0⟩) ?_
  case hyp0 => (intro u hu; go_simp; (try with_reducible rfl))
  (try simp only [Act.put, List.setIfInBounds_toArray, List.set_cons_zero, List.set_cons_succ])
  refine held_read (v := ?vp1) rfl rfl (Or.inl ⟨by rfl, ?hyp1⟩) ?_
  case hyp1 => (intro u hu; obtain ⟨d0, d1, d2, d3, d4⟩ := D3.out u hu; go_simp; (try with_reducible rfl))
  (try simp only [Act.put, List.setIfInBounds_toArray, List.set_cons_zero, List.set_cons_succ])
  refine held_quiet (v := ?vp3) rfl rfl (Or.inl ⟨by rfl, ?hyp3⟩) ?_
  case hyp3 => (intro u hu; go_simp; (try with_reducible rfl))
  (try simp only [Act.put, List.setIfInBounds_toArray, List.set_cons_zero, List.set_cons_succ])
  refine held_read (v := ?vp4) rfl rfl (Or.inl ⟨by rfl, ?hyp4⟩) ?_
  case hyp4 => (intro u hu; obtain ⟨d0, d1, d2, d3, d4⟩ := D3.out u hu; go_simp; (try with_reducible rfl))
  (try simp only [Act.put, List.setIfInBounds_toArray, List.set_cons_zero, List.set_cons_succ])
  refine held_op rfl rfl (fun K hK => ?_)
  go_simp
  (go_at_call 117; (with_reducible refine (BN.out _ (by (repeat (first | with_reducible exact Grow.refl _ | with_reducible refine Grow.alloc ?_ _ | with_reducible refine Grow.drew ?_ | with_reducible refine Grow.drewN ?_ _ | (with_reducible refine Grow.setCell ?_ ?hp _; (case hp => (simp; try omega))) | with_reducible refine Grow.trans ?_ (by assumption))))).mono ?_); (rintro x u41 ⟨rfl, hb41⟩))
  (try go_wp2_with fail)
  refine hK.out _ _ ?hSp2 ?_
  case hSp2 => ((try dsimp only); (repeat (first | with_reducible exact Grow.refl _ | with_reducible refine Grow.alloc ?_ _ | with_reducible refine Grow.drew ?_ | with_reducible refine Grow.drewN ?_ _ | (with_reducible refine Grow.setCell ?_ ?hp _; (case hp => (simp; try omega))) | with_reducible refine Grow.trans ?_ (by assumption))))
  clear hK K
  (try simp only [Act.put, List.setIfInBounds_toArray, List.set_cons_zero, List.set_cons_succ])
  refine held_op rfl rfl (fun K hK => ?_)
  go_simp
  (go_at_call 117; (with_reducible refine (BD.out _ (by (repeat (first | with_reducible exact Grow.refl _ | with_reducible refine Grow.alloc ?_ _ | with_reducible refine Grow.drew ?_ | with_reducible refine Grow.drewN ?_ _ | (with_reducible refine Grow.setCell ?_ ?hp _; (case hp => (simp; try omega))) | with_reducible refine Grow.trans ?_ (by assumption))))).mono ?_); (rintro x u42 ⟨rfl, hb42⟩))
  (try go_wp2_with fail)
  refine hK.out _ _ ?hSp5 ?_
  case hSp5 => ((try dsimp only); (repeat (first | with_reducible exact Grow.refl _ | with_reducible refine Grow.alloc ?_ _ | with_reducible refine Grow.drew ?_ | with_reducible refine Grow.drewN ?_ _ | (with_reducible refine Grow.setCell ?_ ?hp _; (case hp => (simp; try omega))) | with_reducible refine Grow.trans ?_ (by assumption))))
  clear hK K
  (try simp only [Act.put, List.setIfInBounds_toArray, List.set_cons_zero, List.set_cons_succ])
  refine held_op rfl rfl (fun K hK => ?_)
  go_simp
  refine hK.out _ _ ?hSp6 ?_
  case hSp6 => ((try dsimp only); (repeat (first | with_reducible exact Grow.refl _ | with_reducible refine Grow.alloc ?_ _ | with_reducible refine Grow.drew ?_ | with_reducible refine Grow.drewN ?_ _ | (with_reducible refine Grow.setCell ?_ ?hp _; (case hp => (simp; try omega))) | with_reducible refine Grow.trans ?_ (by assumption))))
  clear hK K
  (try simp only [Act.put, List.setIfInBounds_toArray, List.set_cons_zero, List.set_cons_succ])
  refine held_quiet (v := ?vp7) rfl rfl (Or.inl ⟨by rfl, ?hyp7⟩) ?_
  case hyp7 => (intro u hu; go_simp; (try with_reducible rfl))
  (try simp only [Act.put, List.setIfInBounds_toArray, List.set_cons_zero, List.set_cons_succ])
  refine held_done ?_
  go_simp
  go_wp2_with fail
  clear x1 x2 x3
  go_ret
  exact ⟨⟨M, rfl, hMb⟩, HG3.out.trans (by (repeat (first | with_reducible exact Grow.refl _ | with_reducible refine Grow.alloc ?_ _ | with_reducible refine Grow.drew ?_ | with_reducible refine Grow.drewN ?_ _ | (with_reducible refine Grow.setCell ?_ ?hp _; (case hp => (simp; try omega))) | with_reducible refine Grow.trans ?_ (by assumption))))⟩
set_option maxRecDepth 20000 in
set_option maxHeartbeats 8000000 in
theorem pow0Q (x : Rat) (v1 : Value) (w : World) (h1 : RatR w v1 x) : Calls Tryz.prog 57 #[v1, .int .i64 0] w fun e w' => ∃ v, e = .returned (.tuple #[v, .int .i64 0]) ∧ RatR w' v ((1 : Int) : Rat) ∧ Grow w w' := by
  obtain ⟨s1, a1, l1, c1, t1, b1, k1, e1, rfl⟩ := h1.form
  have NQ := Lib.hid (fun u hu => normalQ x _ u (h1.grow hu))
  have BQ := Lib.hid (fun v u hu => bitsRQ x v u hu)
  have PV := Lib.hid (fun z v u hu => pow0V z v u hu)
  have WH := Lib.hid (fun v u hu => wholeQ 1 v u hu)
  have OV : Hid (∀ (v v' : Value) (u : World), IntR u v 1 → IntR u v' 1 → Calls Tryz.prog 26 #[v, v'] u fun e w' => ∃ r, e = .returned r ∧ RatR w' r ((1 : Int) : Rat) ∧ Grow u w') := Lib.hid (fun v v' u g1 g2 => by
    have h := overV 1 1 v v' u g1 g2
    rw [show Rat.divInt 1 1 = ((1 : Int) : Rat) by decide +kernel] at h
    exact h)
  obtain ⟨W1, hW1⟩ : ∃ W1 : World, W1 = w.alloc (.cells #[.bool s1, .slice a1 l1 c1, .bool t1, .slice b1 k1 e1] 27) := ⟨_, rfl⟩
  obtain ⟨W2, hW2⟩ : ∃ W2 : World, W2 = W1.alloc (.cells #[.bool false, .slice none 0 0, .bool false, .slice none 0 0] 27) := ⟨_, rfl⟩
  have hz1 : W1.heap.size = w.heap.size + 1 := by rw [hW1]; simp
  have hg2 : Grow w W2 := (ag hW1).trans (ag hW2)
  have HR1 := Lib.hid (RowP.grow (rowq_lay hW1 h1) (ag hW2))
  have K1 : Hid (∀ u : World, Grow W2 u → u.cell? ⟨w.heap.size, 0, none⟩ = some (.bool s1) ∧ u.cell? ⟨w.heap.size, 1, none⟩ = some (.slice a1 l1 c1) ∧ u.cell? ⟨w.heap.size, 2, none⟩ = some (.bool t1) ∧ u.cell? ⟨w.heap.size, 3, none⟩ = some (.slice b1 k1 e1) ∧ (∀ o, u.frozen? ⟨w.heap.size, o, none⟩ = false) ∧ w.heap.size < u.heap.size) := Lib.hid (fun u hu => ak4 hW1 u ((ag hW2).trans hu))
  have K20 : ∀ u : World, Grow W2 u → u.cell? ⟨w.heap.size + 1, 0, none⟩ = some (.bool false) ∧ u.cell? ⟨w.heap.size + 1, 1, none⟩ = some (.slice none 0 0) ∧ u.cell? ⟨w.heap.size + 1, 2, none⟩ = some (.bool false) ∧ u.cell? ⟨w.heap.size + 1, 3, none⟩ = some (.slice none 0 0) ∧ (∀ o, u.frozen? ⟨w.heap.size + 1, o, none⟩ = false) ∧ w.heap.size + 1 < u.heap.size := fun u hu => by have := ak4 hW2 u hu; rw [hz1] at this; exact this
  have RC : Hid (RowP W2 (w.heap.size + 1) 0 1 (fun _ => none)) := Lib.hid (by rw [hW2, ← hz1]; exact rowp_alloc W1 _)
  have HG2 := Lib.hid hg2
  have HW1 := Lib.hid hW1
  have HW2 := Lib.hid hW2
  have K2 := Lib.hid K20
  clear hW1 hW2 hz1 hg2 h1 K20
  obtain ⟨f0, f1, f2, f3, f4, f5⟩ := K1.out W2 (Grow.refl _)
  go_enter Tryz.func57, Tryz.ntmps57
  go_upto_region 1 with fail
  rw [← HW1.out, ← HW2.out]
  go_upto_region 2 with (go_at_call 22; (with_reducible refine (NQ.out _ HG2.out).mono ?_); (rintro e u2 ⟨v2, rfl, hv2, hb2⟩; obtain ⟨s2, a2, l2, c2, t2, b2, k2, e2, rfl⟩ := hv2.form; have HV2 := Lib.hid hv2; have HGB := Lib.hid hb2; clear hv2 hb2 f0 f1 f2 f3 f4 f5; obtain ⟨f0, f1, f2, f3, f4, f5⟩ := K1.out u2 HGB.out))
  have hru := RowP.grow HR1.out HGB.out
  have hst1 := RowP.set hru (show 0 < 1 by omega) HV2.out
  have hst2 := But.st4 (X := fun b => b = w.heap.size) (HGB.out.but _) (.inr rfl) (hru.q4 (show 0 < 1 by omega)) s2 a2 l2 c2 t2 b2 k2 e2
  simp only [Nat.zero_mul, Nat.add_zero] at hst1 hst2
  obtain ⟨w3, hw3⟩ : ∃ w3, st4 u2 w.heap.size 0 (.bool s2) (.slice a2 l2 c2) (.bool t2) (.slice b2 k2 e2) = w3 := ⟨_, rfl⟩
  have hw4 : ((((u2.setCell ⟨w.heap.size, 0, none⟩ (.bool s2)).setCell ⟨w.heap.size, 1, none⟩ (.slice a2 l2 c2)).setCell ⟨w.heap.size, 2, none⟩ (.bool t2)).setCell ⟨w.heap.size, 3, none⟩ (.slice b2 k2 e2)) = w3 := hw3
  rw [hw3] at hst1 hst2
  rw [hw4]
  have HG3 : Hid (Grow w w3) := Lib.hid (((HG2.out.but _).trans hst2).asGrow (fun b hb => by omega))
  have HB3 := Lib.hid hst2
  have hr3 : RowQ w3 w.heap.size 0 1 (fun _ => x) := RowP.mono hst1 (Nat.le_refl _) (fun j y hj hy => by rw [if_pos (by omega)]; exact hy)
  obtain ⟨s4, a4, l4, c4, t4, b4, k4, e4, ⟨p0, p1, p2, p3⟩, hv4⟩ := RowQ.at4 hr3 (show 0 < 1 by omega)
  rw [Nat.zero_mul, Nat.add_zero] at p0 p1 p2 p3
  have hl3 := hr3.lt
  have D3 := Lib.hid (fun (u : World) (hg : Grow w3 u) => (⟨(hg.cells _ _ hl3).trans p0, (hg.cells _ _ hl3).trans p1, (hg.cells _ _ hl3).trans p2, (hg.cells _ _ hl3).trans p3, Nat.lt_of_lt_of_le hl3 hg.size⟩ : _ ∧ _ ∧ _ ∧ _ ∧ _))
  have RC3 : Hid (RowP w3 (w.heap.size + 1) 0 1 (fun _ => none)) := Lib.hid (RowP.but RC.out (X := fun b => b = w.heap.size) (by omega) HB3.out)
  have KR : Hid (∀ u : World, Grow w3 u → ∃ s a l c t b k e, u.cell? ⟨w.heap.size + 1, 0, none⟩ = some (.bool s) ∧ u.cell? ⟨w.heap.size + 1, 1, none⟩ = some (.slice a l c) ∧ u.cell? ⟨w.heap.size + 1, 2, none⟩ = some (.bool t) ∧ u.cell? ⟨w.heap.size + 1, 3, none⟩ = some (.slice b k e) ∧ (∀ o, u.frozen? ⟨w.heap.size + 1, o, none⟩ = false) ∧ w.heap.size + 1 < u.heap.size) := Lib.hid (fun u hu => by
    have h := RowP.grow RC3.out hu
    obtain ⟨s, a, l, c, t, b, k, e, q0, q1, q2, q3⟩ := h.q4 (show 0 < 1 by omega)
    simp only [Nat.zero_mul, Nat.add_zero, Nat.zero_add] at q0 q1 q2 q3
    exact ⟨s, a, l, c, t, b, k, e, q0, q1, q2, q3, h.free, h.lt⟩)
  have HV4 := Lib.hid hv4
  clear hru hst1 hst2 hw3 hw4 hr3 p0 p1 p2 p3 hv4 hl3 f0 f1 f2 f3 f4 f5 HR1 HB3
  obtain ⟨d0, d1, d2, d3, d4⟩ := D3.out w3 (Grow.refl _)
  go_upto_region 5 with (go_at_call 95; (with_reducible refine (BQ.out _ _ HV4.out).mono ?_); (rintro e u5 ⟨⟨s, rfl, hs⟩, hb5⟩; have HG5 := Lib.hid hb5; clear hb5 d0 d1 d2 d3 d4; obtain ⟨d0, d1, d2, d3, d4⟩ := D3.out u5 HG5.out))
  by_cases hs1 : s ≤ 1
  · have y1 : decide ((s : Int) ≤ 1) = true := by simp; omega
    have y1n : decide (s ≤ 1) = true := by simp; omega
    clear hs1
    go_upto_region 10 with (go_at_call 96; (with_reducible refine (PV.out x.num _ _ ((HV4.out.grow HG5.out).num)).mono ?_); (rintro e u6 ⟨v6, rfl, hv6, hb6⟩; obtain ⟨s6, a6, l6, c6, rfl⟩ := hv6.form; have HV6 := Lib.hid hv6; have HG6 := Lib.hid (HG5.out.trans hb6); clear hv6 hb6))
    clear y1 y1n d0 d1 d2 d3 d4
    obtain ⟨W7, hW7⟩ : ∃ W7 : World, W7 = u6.alloc (.cells #[.bool s6, .slice a6 l6 c6] 25) := ⟨_, rfl⟩
    rw [← hW7]
    have HG7 := Lib.hid (HG6.out.trans (ag hW7))
    have HV7 := Lib.hid (HV6.out.grow (ag hW7))
    obtain ⟨x0, x1, x2, x3⟩ := ak2 hW7 W7 (Grow.refl _)
    clear hW7
    go_wp2_with (go_at_call 93; (with_reducible refine (WH.out _ _ HV7.out).mono ?_); (rintro e u8 ⟨v8, rfl, hv8, hb8⟩; obtain ⟨s8, a8, l8, c8, t8, b8, k8, e8, rfl⟩ := hv8.form; have HV8 := Lib.hid hv8; have HG8 := Lib.hid (HG7.out.trans hb8); clear hv8 hb8; obtain ⟨qs, qa, ql, qc, qt, qb, qk, qe, q0, q1, q2, q3, qf, qz⟩ := KR.out u8 HG8.out))
    obtain ⟨h1, h2⟩ := rescell (w := w) (RowP.grow RC3.out HG8.out) (Nat.le_succ _) (HG3.out.trans HG8.out) HV8.out
    exact bodyPost_ret (v := .tuple #[.agg #[.bool s8, .slice a8 l8 c8, .bool t8, .slice b8 k8 e8], .int .i64 0]) (by rw [results_cell_tmp rfl]; go_simp) rfl ⟨_, rfl, h1, h2⟩
  · have y1 : decide ((s : Int) ≤ 1) = false := by simp; omega
    have y1n : decide (s ≤ 1) = false := by simp; omega
    obtain ⟨Q, hQ⟩ : ∃ Q : Int, Int.tdiv 1048576 (s : Int) = Q := ⟨_, rfl⟩
    have hQ0 : 0 ≤ Q ∧ Q ≤ 1048576 := by
      rw [← hQ, Int.tdiv_eq_ediv_of_nonneg (by omega)]
      exact ⟨Int.ediv_nonneg (by omega) (by omega), Int.ediv_le_self _ (by omega)⟩
    have TQ := Lib.hid hQ
    have VQ := Lib.hid (w64n (n := Q) (by omega))
    have VN := Lib.hid (w64n (n := -Q) (by omega))
    have yQ : decide ((0 : Int) > Q) = false := by simp; omega
    have yN : decide ((0 : Int) < -Q) = false := by simp; omega
    have yQ2 : decide (Q < 0) = false := by simp; omega
    have hsz : ¬ ((s : Int) = 0) := by omega
    have hsn : ¬ (s = 0) := by omega
    clear hQ hs1 hQ0
    have tq := TQ.out
    obtain ⟨vq, vq'⟩ := VQ.out
    obtain ⟨vn, vn'⟩ := VN.out
    go_upto_region 14 with (go_at_call 96; (with_reducible refine (PV.out x.num _ _ ((HV4.out.grow HG5.out).num)).mono ?_); (rintro e u6 ⟨v6, rfl, hv6, hb6⟩; obtain ⟨s6, a6, l6, c6, rfl⟩ := hv6.form; have HV6 := Lib.hid hv6; have HG6 := Lib.hid (HG5.out.trans hb6); clear hv6 hb6))
    clear y1 y1n yQ yN yQ2 tq vq vq' vn vn' d0 d1 d2 d3 d4
    obtain ⟨W7, hW7⟩ : ∃ W7 : World, W7 = u6.alloc (.cells #[.bool s6, .slice a6 l6 c6] 25) := ⟨_, rfl⟩
    rw [← hW7]
    have HG7 := Lib.hid (HG6.out.trans (ag hW7))
    have HV7 := Lib.hid (HV6.out.grow (ag hW7))
    have K7 := Lib.hid (ak2 hW7)
    obtain ⟨X, hX⟩ : ∃ X, u6.heap.size = X := ⟨_, rfl⟩
    rw [hX] at K7
    try rw [hX]
    clear hW7 hX
    obtain ⟨d0, d1, d2, d3, d4⟩ := D3.out W7 HG7.out
    go_upto_region 15 with (go_at_call 96; (with_reducible refine (PV.out (x.den : Int) _ _ ((HV4.out.grow HG7.out).den)).mono ?_); (rintro e u8 ⟨v8, rfl, hv8, hb8⟩; obtain ⟨s8, a8, l8, c8, rfl⟩ := hv8.form; have HV8 := Lib.hid hv8; have HG8 := Lib.hid hb8; clear hv8 hb8))
    clear d0 d1 d2 d3 d4
    obtain ⟨W9, hW9⟩ : ∃ W9 : World, W9 = u8.alloc (.cells #[.bool s8, .slice a8 l8 c8] 25) := ⟨_, rfl⟩
    rw [← hW9]
    have HG9 := Lib.hid (HG8.out.trans (ag hW9))
    have HV9 := Lib.hid (HV8.out.grow (ag hW9))
    obtain ⟨x0, x1, x2, x3⟩ := ak2 hW9 W9 (Grow.refl _)
    obtain ⟨z0, z1, z2, z3⟩ := K7.out W9 HG9.out
    clear hW9
    go_wp2_with (go_at_call 26; (with_reducible refine (OV.out _ _ _ (HV7.out.grow HG9.out) HV9.out).mono ?_); (rintro e u10 ⟨v10, rfl, hv10, hb10⟩; obtain ⟨s10, a10, l10, c10, t10, b10, k10, e10, rfl⟩ := hv10.form; have HV10 := Lib.hid hv10; have HG10 := Lib.hid (HG7.out.trans (HG9.out.trans hb10)); clear hv10 hb10; obtain ⟨qs, qa, ql, qc, qt, qb, qk, qe, q0, q1, q2, q3, qf, qz⟩ := KR.out u10 HG10.out))
    obtain ⟨h1, h2⟩ := rescell (w := w) (RowP.grow RC3.out HG10.out) (Nat.le_succ _) (HG3.out.trans HG10.out) HV10.out
    exact bodyPost_ret (v := .tuple #[.agg #[.bool s10, .slice a10 l10 c10, .bool t10, .slice b10 k10 e10], .int .i64 0]) (by rw [results_cell_tmp rfl]; go_simp) rfl ⟨_, rfl, h1, h2⟩
end Go.Proofs.YtbpkfcohbefphaaGreatDoor
