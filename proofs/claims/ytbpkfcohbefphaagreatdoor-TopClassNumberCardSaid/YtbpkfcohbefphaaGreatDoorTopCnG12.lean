/- Lemmas, plain laws and walks that the statement LwClassNumber leans on (texts HwE, RwX, FxR), conditions as each theorem says. -/
import Derived.Test.YtbpkfcohbefphaaGreatDoorTopCnG01
import Derived.Test.YtbpkfcohbefphaaGreatDoorTopCnG07
import Derived.Test.YtbpkfcohbefphaaGreatDoorTopCnG11

namespace Go.Proofs.YtbpkfcohbefphaaGreatDoor
open Go Go.RowKit
theorem rowq_lay {W W' : World} {s t : Bool} {a b : Option Addr} {l c k e : Nat} {ty : TypeId} {x : Rat} (hW : W' = W.alloc (.cells #[.bool s, .slice a l c, .bool t, .slice b k e] ty)) (hx : RatR W (.agg #[.bool s, .slice a l c, .bool t, .slice b k e]) x) : RowQ W' W.heap.size 0 1 (fun _ => x) := by
  obtain ⟨h0, h1, h2, h3, h4, h5⟩ := ak4 hW W' (Grow.refl _)
  refine ⟨h5, h4, fun j hj => ?_⟩
  obtain rfl : j = 0 := by omega
  exact ⟨s, a, l, c, t, b, k, e, ⟨h0, h1, h2, h3⟩, fun y hy => by injection hy with hy; rw [← hy]; exact hx.grow (ag hW)⟩
theorem sq_steps {n k : Nat} (hn : n ≤ 4000) : (k < sqN n → (k + 1) * (k + 1) ≤ n) ∧ (k = sqN n → n < (k + 1) * (k + 1)) := by
  obtain ⟨h1, h2⟩ := sqN_spec (n := n) (by omega)
  exact ⟨fun h => Nat.le_trans (Nat.mul_le_mul h h) h1, fun h => by rw [h]; exact h2⟩
set_option maxRecDepth 20000 in
set_option maxHeartbeats 8000000 in
theorem hurwitzQ (n : Nat) (h1 : 1 ≤ n) (h2 : n ≤ 4000) (w : World) :
    Calls Tryz.prog 7 #[.int .i64 (n : Int)] w fun e w' => ∃ v, e = .returned (.tuple #[v, .int .i64 0]) ∧ RatR w' v (((hwN n : Nat) : Int) / ((6 : Int) : Rat)) ∧ Grow w w' := by
  have OF := Lib.hid (fun u => ofQ 0 (by decide) u)
  obtain ⟨K, hK⟩ : ∃ K, sqN n = K := ⟨_, rfl⟩
  have hKb : K ≤ 63 := by rw [← hK]; exact sq_le4 h2
  have HK := Lib.hid hK
  obtain ⟨dn, hdn⟩ : ∃ dn, -(n : Int) = dn := ⟨_, rfl⟩
  have E0 : Hid (IntKind.i64.wrap (-(n : Int)) = dn ∧ wrap64 (-(n : Int)) = dn) := Lib.hid (by rw [hdn]; exact w64n (by omega))
  have HDN := Lib.hid hdn
  clear hK hdn
  obtain ⟨W1, hW1⟩ : ∃ W1 : World, W1 = w.alloc (.cells #[.bool false, .slice none 0 0, .bool false, .slice none 0 0] 27) := ⟨_, rfl⟩
  have hg1 := ag hW1
  have K1 := Lib.hid (ak4 hW1)
  have RC : Hid (RowP W1 w.heap.size 0 1 (fun _ => none)) := Lib.hid (by rw [hW1]; exact rowp_alloc w _)
  have HW1 := Lib.hid hW1
  clear hW1
  have y1 : decide ((n : Int) < 0) = false := by simp
  have y2 : decide ((n : Int) > 4000) = false := by simp; omega
  have y3 : ((n : Int) == 0) = false := by simp; omega
  go_enter Tryz.func7, Tryz.ntmps7
  go_upto_region 1 with fail
  rw [← HW1.out]
  go_upto_region 6 with (go_at_call 20; (with_reducible refine (OF.out _).mono ?_); (rintro e u2 ⟨v2, rfl, hv2, hb2⟩; obtain ⟨s2, a2, l2, c2, t2, b2, k2, e2, rfl⟩ := hv2.form; have HV2 := Lib.hid hv2; have HG2 := Lib.hid hb2; clear hv2 hb2))
  clear y1 y2 y3
  obtain ⟨W4, hW4⟩ : ∃ W4 : World, W4 = u2.alloc (.cells #[.bool s2, .slice a2 l2 c2, .bool t2, .slice b2 k2 e2] 27) := ⟨_, rfl⟩
  rw [← hW4]
  have HR4 := Lib.hid (rowq_lay hW4 HV2.out)
  have HG4 := Lib.hid (HG2.out.trans (ag hW4))
  have hz2 : w.heap.size < u2.heap.size := (K1.out u2 HG2.out).2.2.2.2.2
  clear hW4
  go_wp2_with fail
  go_loopg [5] K (fun gk t5 wr => ∃ (k e : Nat), t5 = .int .i64 (e : Int) ∧ k ≤ K ∧ Hid (gk = K - k) ∧ Hid (e = k + 1) ∧ Hid (RowQ wr u2.heap.size 0 1 (fun _ => ((hw6 n k : Nat) : Int) / ((6 : Int) : Rat))) ∧ Hid (But (fun y => y = u2.heap.size) W4 wr))
  case atStart => exact ⟨0, 1, rfl, Nat.zero_le _, Lib.hid rfl, Lib.hid rfl, Lib.hid (HR4.out.cong (fun j _ => by rw [show hw6 n 0 = 0 from rfl]; decide +kernel)), Lib.hid (But.refl _ _)⟩
  case round =>
    obtain ⟨k, e, rfl, hk, HGK, HE, HR, HB⟩ := hrel
    have he := HE.out
    obtain ⟨s, hs⟩ : ∃ s : Nat, e * e = s := ⟨_, rfl⟩
    have hsb : s ≤ 64 * 64 := by rw [← hs]; exact Nat.mul_le_mul (by omega) (by omega)
    have hs0 : 0 < s := by rw [← hs]; exact Nat.mul_pos (by omega) (by omega)
    have E1 : Hid (IntKind.i64.wrap ((e : Int) * (e : Int)) = (s : Int) ∧ wrap64 ((e : Int) * (e : Int)) = (s : Int)) := Lib.hid (by rw [show (e : Int) * (e : Int) = (s : Int) by rw [← hs]; simp]; exact w64n (by omega))
    have hst := sq_steps (n := n) (k := k) h2
    have hse : (k + 1) * (k + 1) = s := by rw [← hs, he]
    rw [hse, HK.out] at hst
    have HST := Lib.hid hst
    have HSE := Lib.hid hse
    have hgr : Grow W1 wr := ((HG4.out.but _).trans HB.out).asGrow (fun y hy => by have := HG2.out.size; omega)
    have HGR := Lib.hid hgr
    obtain ⟨s3, a3, l3, c3, t3, b3, k3, e3, ⟨p0, p1, p2, p3⟩, hvb⟩ := RowQ.at4 HR.out (show 0 < 1 by omega)
    rw [Nat.zero_mul, Nat.add_zero] at p0 p1 p2 p3
    have HVB := Lib.hid hvb
    have hlB := HR.out.lt
    have hfB := HR.out.free
    clear hs he hst hse hgr hvb
    by_cases hkk : k = K
    · have hnl : decide (s ≤ n) = false := by have := HST.out.2 hkk; simp; omega
      have hnl2 : decide ((s : Int) ≤ (n : Int)) = false := by have := HST.out.2 hkk; simp; omega
      have hh : hw6 n k = hwN n := by rw [hkk, ← HK.out]; rfl
      have HH := Lib.hid hh
      obtain ⟨q0, q1, q2, q3, qf, qz⟩ := K1.out wr HGR.out
      clear hh hkk
      obtain ⟨e1, e2⟩ := E1.out
      go_wp2_with fail
      clear e1 e2
      obtain ⟨h1, h2⟩ := rescell (w := w) (RC.out.grow HGR.out) (Nat.le_refl _) (hg1.trans HGR.out) HVB.out
      rw [HH.out] at h1
      exact bodyPost_ret (v := .tuple #[.agg #[.bool s3, .slice a3 l3 c3, .bool t3, .slice b3 k3 e3], .int .i64 0]) (by rw [results_cell_tmp rfl]; go_simp) rfl ⟨_, rfl, h1, h2⟩
    · have hkl : k < K := by omega
      have hle : decide (s ≤ n) = true := by have := HST.out.1 (by omega); simp; omega
      have hle2 : decide ((s : Int) ≤ (n : Int)) = true := by have := HST.out.1 (by omega); simp; omega
      have hsz : ¬ ((s : Int) = 0) := by omega
      have hsz2 : ¬ (s = 0) := by omega
      obtain ⟨r, hr⟩ : ∃ r, n % s = r := ⟨_, rfl⟩
      have E2 : Hid (Int.tmod (n : Int) (s : Int) = (r : Int)) := Lib.hid (by rw [← hr, Int.natCast_emod]; exact Int.tmod_eq_emod_of_nonneg (by omega))
      have hrb : r ≤ 4000 := by rw [← hr]; exact Nat.le_trans (Nat.mod_le _ _) h2
      have E3 := Lib.hid (w64n (n := (r : Int)) (by omega))
      have E4 := Lib.hid (inc_wrap (i := e) (n := 100) (by have := HE.out; omega) (by omega))
      have HHW : Hid (hw6 n (k + 1) = hw6 n k + if r = 0 ∧ posB (n / s) = true then 6 / unN (n / s) * clsN (n / s) else 0) := Lib.hid (by
        show hw6 n k + (if n % ((k + 1) * (k + 1)) = 0 ∧ posB (n / ((k + 1) * (k + 1))) = true then 6 / unN (n / ((k + 1) * (k + 1))) * clsN (n / ((k + 1) * (k + 1))) else 0) = _
        rw [HSE.out, hr])
      have HRM := Lib.hid hr
      clear hkk hr
      by_cases hr0 : r = 0
      · subst hr0
        obtain ⟨q, hq⟩ : ∃ q, n / s = q := ⟨_, rfl⟩
        have hqs : n = s * q := by
          have h3 := Nat.div_add_mod n s
          rw [HRM.out, hq] at h3
          omega
        have hq1 : 1 ≤ q := by
          rcases Nat.eq_zero_or_pos q with h0 | h0
          · rw [h0, Nat.mul_zero] at hqs; omega
          · exact h0
        have hq4 : q ≤ 4000 := by rw [← hq]; exact Nat.le_trans (Nat.div_le_self _ _) h2
        obtain ⟨dq, hdq⟩ : ∃ d, -(q : Int) = d := ⟨_, rfl⟩
        have E5 : Hid (Int.tdiv dn (s : Int) = dq) := Lib.hid (by
          rw [← HDN.out, Int.neg_tdiv, ← hdq, Int.tdiv_eq_ediv_of_nonneg (by omega), ← Int.natCast_ediv, hq])
        have E6 := Lib.hid (w64n (n := dq) (by omega))
        rw [hq] at HHW
        rcases Bool.eq_false_or_eq_true (posB q) with hp | hp
        · have WG := Lib.hid (fun u => weightedHQ q dq hdq.symm hq1 hq4 hp u)
          rw [wn_six] at WG
          obtain ⟨g6, hg6⟩ : ∃ g, 6 / unN q * clsN q = g := ⟨_, rfl⟩
          have hg6b : g6 ≤ 6 * 1332 := by rw [← hg6]; exact Nat.mul_le_mul (Nat.div_le_self _ _) (clsN_le hq4)
          rw [hg6] at WG HHW
          have hhk : hw6 n (k + 1) = hw6 n k + g6 := by rw [HHW.out, if_pos ⟨rfl, hp⟩]
          obtain ⟨x, hx⟩ : ∃ x, hw6 n k = x := ⟨_, rfl⟩
          have hxb : x ≤ 63 * 7992 := by rw [← hx]; exact Nat.le_trans (hw6_le h2 k) (Nat.mul_le_mul_right _ (by omega))
          rw [hx] at hhk HVB
          have HX := Lib.hid hhk
          have AD : Hid (∀ (u : World) (v1 v2 : Value), RatR u v1 ((x : Int) / ((6 : Int) : Rat)) → RatR u v2 ((g6 : Int) / ((6 : Int) : Rat)) → Calls Tryz.prog 8 #[v1, v2] u fun e w' => ∃ v, e = .returned v ∧ RatR w' v (((hw6 n (k + 1) : Nat) : Int) / ((6 : Int) : Rat)) ∧ Grow u w') := Lib.hid (fun u v1 v2 h3 h4 => by
            rw [hhk, ← six_add]
            exact addQ _ _ v1 v2 ((Sm.mono (sm_div (x : Int) 6 (by omega)) (show (x : Int).natAbs ≤ 503496 by omega) (Nat.le_refl _)).addB (Sm.mono (sm_div (g6 : Int) 6 (by omega)) (show (g6 : Int).natAbs ≤ 7992 by omega) (Nat.le_refl _)) (by omega) (by omega)) u h3 h4)
          have HST2 := Lib.hid (fun (u : World) (hu : Grow wr u) (s : Bool) (a : Option Addr) (l c : Nat) (t : Bool) (b : Option Addr) (k' e' : Nat) (hx : RatR u (.agg #[.bool s, .slice a l c, .bool t, .slice b k' e']) (((hw6 n (k + 1) : Nat) : Int) / ((6 : Int) : Rat))) => (⟨RowP.set (RowP.grow HR.out hu) (show 0 < 1 by omega) hx, But.st4 (X := fun b => b = u2.heap.size) (hu.but _) (.inr rfl) ((RowP.grow HR.out hu).q4 (show 0 < 1 by omega)) s a l c t b k' e'⟩ : _ ∧ _))
          simp only [Nat.zero_mul, Nat.add_zero] at HST2
          have D0 := Lib.hid (fun (u : World) (hg : Grow wr u) => (⟨(hg.cells _ _ hlB).trans p0, (hg.cells _ _ hlB).trans p1, (hg.cells _ _ hlB).trans p2, (hg.cells _ _ hlB).trans p3, fun o => (hg.frees _ _ hlB).trans (hfB o), Nat.lt_of_lt_of_le hlB hg.size⟩ : _ ∧ _ ∧ _ ∧ _ ∧ (∀ o, u.frozen? ⟨u2.heap.size, o, none⟩ = false) ∧ _))
          clear hq hqs hdq hp hg6 hhk hx p0 p1 p2 p3 hfB
          obtain ⟨e1, e2⟩ := E1.out
          have e3 := E2.out
          obtain ⟨e4, e5⟩ := E3.out
          obtain ⟨e6, e7⟩ := E0.out
          have e8 := E5.out
          obtain ⟨e9, e10⟩ := E6.out
          go_upto_region 11 with (go_at_call 12; (with_reducible refine (WG.out _).mono ?_); (rintro e u5 ⟨v5, rfl, hv5, hb5⟩; obtain ⟨s5, a5, l5, c5, t5, b5, k5, e5', rfl⟩ := hv5.form; have HV5 := Lib.hid hv5; have HG5 := Lib.hid hb5; clear hv5 hb5))
          clear e1 e2 e3 e4 e5 e6 e7 e8 e9 e10
          obtain ⟨W6, hW6⟩ : ∃ W6 : World, W6 = u5.alloc (.cells #[.bool s5, .slice a5 l5 c5, .bool t5, .slice b5 k5 e5'] 27) := ⟨_, rfl⟩
          rw [← hW6]
          have HG6 := Lib.hid (HG5.out.trans (ag hW6))
          have HV6 := Lib.hid (HV5.out.grow (ag hW6))
          obtain ⟨x0, x1, x2, x3, x4, x5⟩ := ak4 hW6 W6 (Grow.refl _)
          obtain ⟨d0, d1, d2, d3, d4, d5⟩ := D0.out W6 HG6.out
          clear hW6
          obtain ⟨e1, e2⟩ := E4.out
          go_wp2_with (go_at_call 8; (with_reducible refine (AD.out _ _ _ (HVB.out.grow HG6.out) HV6.out).mono ?_); (rintro e u9 ⟨v9, rfl, hv9, hb9⟩; obtain ⟨s9, a9, l9, c9, t9, b9, k9, e9, rfl⟩ := hv9.form; have HV9 := Lib.hid hv9; clear hv9; obtain ⟨d0, d1, d2, d3, d4, d5⟩ := D0.out u9 (HG6.out.trans hb9)))
          clear e1 e2
          obtain ⟨hst1, hst2⟩ := HST2.out u9 (HG6.out.trans (by (repeat (first | with_reducible exact Grow.refl _ | with_reducible refine Grow.alloc ?_ _ | with_reducible refine Grow.drew ?_ | with_reducible refine Grow.drewN ?_ _ | (with_reducible refine Grow.setCell ?_ ?hp _; (case hp => (simp; try omega))) | with_reducible refine Grow.trans ?_ (by assumption))))) _ _ _ _ _ _ _ _ HV9.out
          go_roundg (K - (k + 1))
          case measure => have := HGK.out; omega
          case rel => exact ⟨k + 1, e + 1, rfl, hkl, Lib.hid rfl, Lib.hid (by rw [HE.out]), Lib.hid (RowP.mono hst1 (Nat.le_refl _) (fun j x hj hx => by rw [if_pos (by omega)]; exact hx)), Lib.hid (HB.out.trans hst2)⟩
        · have WG := Lib.hid (fun u => weightedHN q dq hdq.symm hq1 hq4 hp u)
          have HX : Hid (hw6 n (k + 1) = hw6 n k) := Lib.hid (by rw [HHW.out, if_neg (by rw [hp]; simp)]; rfl)
          clear hq hqs hdq hp p0 p1 p2 p3 hfB
          obtain ⟨e1, e2⟩ := E1.out
          have e3 := E2.out
          obtain ⟨e4, e5⟩ := E3.out
          obtain ⟨e6, e7⟩ := E0.out
          have e8 := E5.out
          obtain ⟨e9, e10⟩ := E6.out
          go_upto_region 11 with (go_at_call 12; (with_reducible refine (WG.out _).mono ?_); (rintro e u5 ⟨rfl, hb5⟩; have HG5 := Lib.hid hb5; clear hb5))
          clear e1 e2 e3 e4 e5 e6 e7 e8 e9 e10
          obtain ⟨e1, e2⟩ := E4.out
          go_wp2_with fail
          clear e1 e2
          go_roundg (K - (k + 1))
          case measure => have := HGK.out; omega
          case rel =>
            have hg9 := HG5.out
            exact ⟨k + 1, e + 1, rfl, hkl, Lib.hid rfl, Lib.hid (by rw [HE.out]), Lib.hid (by rw [HX.out]; exact RowP.grow HR.out (hg9.trans (by (repeat (first | with_reducible exact Grow.refl _ | with_reducible refine Grow.alloc ?_ _ | with_reducible refine Grow.drew ?_ | with_reducible refine Grow.drewN ?_ _ | (with_reducible refine Grow.setCell ?_ ?hp _; (case hp => (simp; try omega))) | with_reducible refine Grow.trans ?_ (by assumption)))))), Lib.hid (HB.out.grow (hg9.trans (by (repeat (first | with_reducible exact Grow.refl _ | with_reducible refine Grow.alloc ?_ _ | with_reducible refine Grow.drew ?_ | with_reducible refine Grow.drewN ?_ _ | (with_reducible refine Grow.setCell ?_ ?hp _; (case hp => (simp; try omega))) | with_reducible refine Grow.trans ?_ (by assumption))))))⟩
      · have hrne : ((r : Int) != 0) = true := by simp; omega
        have HX : Hid (hw6 n (k + 1) = hw6 n k) := Lib.hid (by rw [HHW.out, if_neg (by simp [hr0])]; rfl)
        clear hr0 p0 p1 p2 p3 hfB
        obtain ⟨e1, e2⟩ := E1.out
        have e3 := E2.out
        obtain ⟨e4, e5⟩ := E3.out
        obtain ⟨e6, e7⟩ := E4.out
        go_wp2_with fail
        clear e1 e2 e3 e4 e5 e6 e7
        go_roundg (K - (k + 1))
        case measure => have := HGK.out; omega
        case rel => exact ⟨k + 1, e + 1, rfl, hkl, Lib.hid rfl, Lib.hid (by rw [HE.out]), Lib.hid (by rw [HX.out]; exact HR.out), HB⟩
end Go.Proofs.YtbpkfcohbefphaaGreatDoor
namespace Go.Proofs.YtbpkfcohbefphaaGreatDoor
open Go
/-- An allocation of a region: the operation, its slot, what it lays. -/
structure AlX where
  p : Nat
  d : Nat
  z : Obj
/-- The state with the allocations' slots as t has them. -/
def aof (al : List AlX) (b : Act) (t : Nat → Value) : Act := al.foldl (fun a x => a.put (some x.d) (t x.p)) b
/-- Block F was laid since w0. -/
def FrX (w0 u : World) (z : Obj) (F : Nat) : Prop := ∃ x : World, Grow w0 x ∧ x.heap.size = F ∧ Grow (x.alloc z) u
theorem FrX.grow {w0 u u' : World} {z : Obj} {F : Nat} (h : FrX w0 u z F) (hg : Grow u u') : FrX w0 u' z F := by
  obtain ⟨x, h1, h2, h3⟩ := h
  exact ⟨x, h1, h2, h3.trans hg⟩
theorem FrX.lt {w0 u : World} {z : Obj} {F : Nat} (h : FrX w0 u z F) : F < u.heap.size := by
  obtain ⟨x, h1, h2, h3⟩ := h
  have := h3.size
  simp at this
  omega
def ptrX (F : Nat) : Value := .pointer (some ⟨F, 0, none⟩)
theorem aof_put (al : List AlX) (b : Act) (t : Nat → Value) (dst : Option Tmp) (v : Value) (h : ∀ x ∈ al, dst ≠ some x.d) : aof al (b.put dst v) t = (aof al b t).put dst v := by
  induction al generalizing b with
  | nil => rfl
  | cons x rest ih =>
    show aof rest ((b.put dst v).put (some x.d) (t x.p)) t = (aof rest (b.put (some x.d) (t x.p)) t).put dst v
    rw [← ih _ (fun y hy => h y (by simp [hy])), Act.put_comm b (x := dst) (y := some x.d) v (t x.p) (fun d hd e => h x (by simp) (by rw [hd, e]))]
theorem put_put (a : Act) (d : Nat) (u v : Value) : (a.put (some d) u).put (some d) v = a.put (some d) v := by
  simp [Act.put]
theorem aof_cong (b : Act) (t t' : Nat → Value) : ∀ (l : List AlX), (∀ x ∈ l, t x.p = t' x.p) → aof l b t = aof l b t'
  | [], _ => rfl
  | x :: l, h => by
    show aof l (b.put (some x.d) (t x.p)) t = aof l (b.put (some x.d) (t' x.p)) t'
    rw [h x (by simp)]
    exact aof_cong _ t t' l (fun y hy => h y (by simp [hy]))
theorem aof_set (al : List AlX) (b : Act) (t : Nat → Value) (x : AlX) (v : Value) (hx : x ∈ al) (hd : al.Pairwise (fun x y => x.d ≠ y.d)) (hp : al.Pairwise (fun x y => x.p ≠ y.p)) : (aof al b t).put (some x.d) v = aof al b (fun i => if i = x.p then v else t i) := by
  induction al generalizing b with
  | nil => cases hx
  | cons y rest ih =>
    obtain ⟨hd1, hd2⟩ := List.pairwise_cons.1 hd
    obtain ⟨hp1, hp2⟩ := List.pairwise_cons.1 hp
    show (aof rest (b.put (some y.d) (t y.p)) t).put (some x.d) v = aof rest (b.put (some y.d) ((fun i => if i = x.p then v else t i) y.p)) (fun i => if i = x.p then v else t i)
    dsimp only
    rcases List.mem_cons.1 hx with rfl | hx'
    · rw [if_pos rfl, ← aof_put rest _ t (some x.d) v (fun z hz e => hd1 z hz (by injection e)), put_put]
      exact aof_cong _ t (fun i => if i = x.p then v else t i) rest (fun z hz => by rw [if_neg (fun e => hp1 z hz e.symm)])
    · rw [if_neg (hp1 x hx'), ih _ hx' hd2 hp2]
theorem put_self (a : Act) (d : Nat) : a.put (some d) (a.tmps.getD d undef) = a := by
  obtain ⟨tm, df⟩ := a
  simp only [Act.put, Act.mk.injEq, and_true]
  apply Array.ext_getElem?
  intro i
  by_cases hi : d = i
  · subst hi
    rw [Array.getElem?_setIfInBounds_self]
    by_cases hlt : d < tm.size
    · simp [hlt]
    · simp [hlt]
  · rw [Array.getElem?_setIfInBounds_ne hi]
theorem aof_same (a : Act) (t : Nat → Value) : ∀ (l : List AlX), (∀ x ∈ l, t x.p = a.tmps.getD x.d undef) → aof l a t = a
  | [], _ => rfl
  | x :: l, h => by
    show aof l (a.put (some x.d) (t x.p)) t = a
    rw [h x (by simp), put_self]
    exact aof_same a t l (fun y hy => h y (by simp [hy]))
theorem aof_self (al : List AlX) (a : Act) (hp : al.Pairwise (fun x y => x.p ≠ y.p)) : ∃ t, aof al a t = a := by
  have h : ∀ (l : List AlX), l.Pairwise (fun x y => x.p ≠ y.p) → ∃ t : Nat → Value, ∀ x ∈ l, t x.p = a.tmps.getD x.d undef := by
    intro l
    induction l with
    | nil => intro _; exact ⟨fun _ => undef, fun _ h => by cases h⟩
    | cons x l ih =>
      intro h
      obtain ⟨h1, h2⟩ := List.pairwise_cons.1 h
      obtain ⟨t, ht⟩ := ih h2
      refine ⟨fun i => if i = x.p then a.tmps.getD x.d undef else t i, fun y hy => ?_⟩
      rcases List.mem_cons.1 hy with rfl | hy
      · simp
      · simp only [if_neg (fun e : y.p = x.p => h1 y hy e.symm)]; exact ht y hy
  obtain ⟨t, ht⟩ := h al hp
  exact ⟨t, aof_same a t al ht⟩
/-- The marks of a list of operations. -/
def mkA (n : Nat) (L : List Nat) : Array Bool := L.foldl (fun a i => a.setIfInBounds i true) (Array.replicate n false)
theorem mkA_size (n : Nat) (L : List Nat) : (mkA n L).size = n := by
  have : ∀ (L : List Nat) (a : Array Bool), (L.foldl (fun a i => a.setIfInBounds i true) a).size = a.size := by
    intro L
    induction L with
    | nil => intro a; rfl
    | cons i L ih => intro a; rw [List.foldl_cons, ih]; simp
  unfold mkA; rw [this]; simp
theorem mkA_get (n : Nat) (L : List Nat) (j : Nat) (hj : j < n) : (mkA n L).getD j false = decide (j ∈ L) := by
  have : ∀ (L : List Nat) (a : Array Bool), j < a.size → (L.foldl (fun a i => a.setIfInBounds i true) a).getD j false = (a.getD j false || decide (j ∈ L)) := by
    intro L
    induction L with
    | nil => intro a _; simp
    | cons i L ih =>
      intro a ha
      rw [List.foldl_cons, ih _ (by simpa using ha)]
      by_cases hij : i = j
      · subst hij; simp [ha]
      · rw [getD_set_ne false hij]
        have : (decide (j ∈ i :: L)) = decide (j ∈ L) := by simp [Ne.symm hij]
        rw [this]
  unfold mkA
  rw [this L _ (by simpa using hj)]
  simp [hj]
theorem arr_eq {n : Nat} {listed : Array Bool} {L : List Nat} (hs : listed.size = n) (h : ∀ j, j < n → listed.getD j false = decide (j ∈ L)) : listed = mkA n L := by
  apply Array.ext
  · rw [hs, mkA_size]
  · intro j h1 h2
    have h3 := h j (by omega)
    have h4 := mkA_get n L j (by omega)
    rw [← h4] at h3
    simpa [h1, h2] using h3
section
variable {P : Program} {ops : Array Oper} {Q : Exit → Act → World → Prop} {S : World → Prop} {md : Region.Mode} {kd : Nat → Nat} {al : List AlX}
/-- The walk of what comes before any use of the allocations. -/
def wpFlex (P : Program) (ops : Array Oper) (Q : Exit → Act → World → Prop) (S : World → Prop) (kd : Nat → Nat) (al : List AlX) (K : Act → World → Prop) : List Nat → Act → World → Prop
  | [], b, w => K b w
  | i :: rest, b, w =>
    match kd i with
    | 0 => ∃ o v, ops[i]? = some o ∧ (∀ t, YieldsIf P ops (fun _ => True) o v (aof al b t)) ∧ wpFlex P ops Q S kd al K rest (b.put o.dst v) w
    | 1 => ∃ o v, ops[i]? = some o ∧ (∀ t, YieldsIf P ops S o v (aof al b t)) ∧ wpFlex P ops Q S kd al K rest (b.put o.dst v) w
    | _ => ∃ o, ops[i]? = some o ∧ ∀ t u, Grow w u → wpOp P ops Q i (fun a' w' => Grow u w' ∧ ∃ v, a' = (aof al b t).put o.dst v ∧ wpFlex P ops Q S kd al K rest (b.put o.dst v) w') (aof al b t) u
/-- What may be checked without the program. -/
def flexB (md : Region.Mode) (ops : Array Oper) (kd : Nat → Nat) (al : List AlX) (L2 : List Nat) : List Nat → List Nat → Bool
  | [], L0 =>
    (List.range ops.size).all (fun j => L0.contains j || (al.map (·.p)).contains j || (al.all fun x => (ops[j]?.map (fun o => o.after.any (fun e => Region.binds md e && e.on == x.p))).getD false)) &&
    heldB md ops kd L2 (mkA ops.size (al.map (·.p) ++ L0))
  | i :: rest, L0 =>
    decide (i < ops.size) && !(al.map (·.p)).contains i && !L0.contains i &&
    (ops[i]?.map (fun o => o.after.all (fun e => !Region.binds md e || (decide (e.on < ops.size) && L0.contains e.on)) && al.all (fun x => o.dst != some x.d))).getD false &&
    (if kd i ≤ 1 then Region.free md ops (mkA ops.size L0) i && (kd i == 0 || (List.range ops.size).all (fun t => kd t != 3 || anc md ops ops.size i t)) else (kd i == 2) && Region.ready md ops (mkA ops.size (al.map (·.p) ++ L0)) == [i]) &&
    flexB md ops kd al L2 rest (i :: L0)
/-- What runs an allocation. -/
def AlRun (P : Program) (ops : Array Oper) (Q : Exit → Act → World → Prop) (al : List AlX) : Prop :=
  ∀ x ∈ al, (∃ o, ops[x.p]? = some o ∧ o.after = #[]) ∧ ∀ K a u, K (a.put (some x.d) (ptrX u.heap.size)) (u.alloc x.z) → wpOp P ops Q x.p K a u
/-- The state while the region runs. -/
structure FlS (md : Region.Mode) (ops : Array Oper) (al : List AlX) (w0 w : World) (L0 : List Nat) (b : Act) (listed : Array Bool) (a : Act) (u : World) (t : Nat → Value) (F : Nat → Nat) : Prop where
  act : a = aof al b t
  g0 : Grow w0 u
  g1 : Grow w u
  clo : Clo md ops listed
  off : ∀ j, j < ops.size → (∀ x ∈ al, x.p ≠ j) → listed.getD j false = decide (j ∈ L0)
  on : ∀ x ∈ al, listed.getD x.p false = true → t x.p = ptrX (F x.p) ∧ FrX w0 u x.z (F x.p)
  far : ∀ x ∈ al, ∀ y ∈ al, listed.getD x.p false = true → listed.getD y.p false = true → x.p ≠ y.p → F x.p ≠ F y.p
theorem FlS.alloc {w0 w u : World} {L0 : List Nat} {b a : Act} {listed : Array Bool} {t : Nat → Value} {F : Nat → Nat} (h : FlS md ops al w0 w L0 b listed a u t F) {x : AlX} (hx : x ∈ al) (hr : x.p ∈ Region.ready md ops listed) (hd : al.Pairwise (fun x y => x.d ≠ y.d)) (hp : al.Pairwise (fun x y => x.p ≠ y.p)) (hxp : ∀ y ∈ al, y.p = x.p → y = x) :
    FlS md ops al w0 w L0 b (listed.setIfInBounds x.p true) (a.put (some x.d) (ptrX u.heap.size)) (u.alloc x.z) (fun i => if i = x.p then ptrX u.heap.size else t i) (fun i => if i = x.p then u.heap.size else F i) := by
  have hg : Grow u (u.alloc x.z) := (Grow.refl u).alloc _
  have hun := getD_both (mem_ready.1 hr).1
  refine ⟨by rw [h.act, aof_set al b t x _ hx hd hp], h.g0.trans hg, h.g1.trans hg, h.clo.set hr, fun j hj hn => ?_, fun y hy hl => ?_, fun y hy z hz hl hl' hne => ?_⟩
  · rw [getD_set_ne false (hn x hx)]; exact h.off j hj hn
  · by_cases hyx : y.p = x.p
    · obtain rfl := hxp y hy hyx
      simp only
      exact ⟨rfl, u, h.g0, rfl, Grow.refl _⟩
    · simp only [if_neg hyx]
      rw [getD_set_ne false (Ne.symm hyx)] at hl
      obtain ⟨h1, h2⟩ := h.on y hy hl
      exact ⟨h1, h2.grow hg⟩
  · by_cases hyx : y.p = x.p
    · by_cases hzx : z.p = x.p
      · exact absurd (hyx.trans hzx.symm) hne
      · simp only [if_pos hyx, if_neg hzx]
        rw [getD_set_ne false (Ne.symm hzx)] at hl'
        have := (h.on z hz hl').2.lt
        omega
    · by_cases hzx : z.p = x.p
      · simp only [if_neg hyx, if_pos hzx]
        rw [getD_set_ne false (Ne.symm hyx)] at hl
        have := (h.on y hy hl).2.lt
        omega
      · simp only [if_neg hyx, if_neg hzx]
        rw [getD_set_ne false (Ne.symm hyx)] at hl
        rw [getD_set_ne false (Ne.symm hzx)] at hl'
        exact h.far y hy z hz hl hl' hne
theorem FlS.step {w0 w u u' : World} {L0 : List Nat} {b a : Act} {listed : Array Bool} {t : Nat → Value} {F : Nat → Nat} (h : FlS md ops al w0 w L0 b listed a u t F) {i : Nat} {o : Oper} {v : Value} (hi : i < ops.size) (hal : ∀ x ∈ al, x.p ≠ i) (hr : i ∈ Region.ready md ops listed) (hdst : ∀ x ∈ al, o.dst ≠ some x.d) (hg : Grow u u') {w2 : World} (h2 : Grow w2 u') :
    FlS md ops al w0 w2 (i :: L0) (b.put o.dst v) (listed.setIfInBounds i true) (a.put o.dst v) u' t F := by
  refine ⟨by rw [h.act, aof_put al b t o.dst v hdst], h.g0.trans hg, h2, h.clo.set hr, fun j hj hn => ?_, fun y hy hl => ?_, fun y hy z hz hl hl' hne => ?_⟩
  · by_cases hij : i = j
    · subst hij
      have : i < listed.size := by rw [h.clo.size]; exact hi
      simp [this]
    · rw [getD_set_ne false hij, h.off j hj hn]
      have hji : ¬ j = i := fun e => hij e.symm
      simp [hji]
  · rw [getD_set_ne false (Ne.symm (hal y hy))] at hl
    obtain ⟨h1, h2⟩ := h.on y hy hl
    exact ⟨h1, h2.grow hg⟩
  · rw [getD_set_ne false (Ne.symm (hal y hy))] at hl
    rw [getD_set_ne false (Ne.symm (hal z hz))] at hl'
    exact h.far y hy z hz hl hl' hne
/-- What is left when all allocations have come up. -/
def flexEnd (P : Program) (ops : Array Oper) (Q : Exit → Act → World → Prop) (S : World → Prop) (kd : Nat → Nat) (al : List AlX) (w0 : World) (L2 : List Nat) (b : Act) (w : World) : Prop :=
  ∀ (F : Nat → Nat) u, Grow w u → (∀ x ∈ al, FrX w0 u x.z (F x.p)) → (∀ x ∈ al, ∀ y ∈ al, x.p ≠ y.p → F x.p ≠ F y.p) → wpHeld P ops Q S kd L2 (aof al b (fun p => ptrX (F p))) u
theorem cnt_step {listed : Array Bool} {x : AlX} {n : Nat} (hs : listed.size = n) (hxn : x.p < n) (hun : listed.getD x.p false = false) : ∀ (al : List AlX), x ∈ al → al.Pairwise (fun x y => x.p ≠ y.p) →
    (al.filter (fun y => !listed.getD y.p false)).length = (al.filter (fun y => !(listed.setIfInBounds x.p true).getD y.p false)).length + 1
  | [], h, _ => by cases h
  | y :: l, h, hp => by
    obtain ⟨h1, h2⟩ := List.pairwise_cons.1 hp
    rcases List.mem_cons.1 h with rfl | h
    · have e1 : (l.filter (fun y => !(listed.setIfInBounds x.p true).getD y.p false)) = l.filter (fun y => !listed.getD y.p false) := by
        apply List.filter_congr
        intro z hz
        rw [getD_set_ne false (h1 z hz)]
      have e2 : (listed.setIfInBounds x.p true).getD x.p false = true := by
        have : x.p < listed.size := by omega
        simp [this]
      rw [List.filter_cons, List.filter_cons, e1, e2, hun]
      simp
    · have ih := cnt_step hs hxn hun l h h2
      have hne : x.p ≠ y.p := fun e => h1 x h e.symm
      rw [List.filter_cons, List.filter_cons, getD_set_ne false hne]
      split
      · simp only [List.length_cons]; omega
      · exact ih
theorem cnt_same {listed : Array Bool} {i : Nat} (al : List AlX) (h : ∀ x ∈ al, x.p ≠ i) : (al.filter (fun y => !(listed.setIfInBounds i true).getD y.p false)).length = (al.filter (fun y => !listed.getD y.p false)).length := by
  congr 1
  apply List.filter_congr
  intro z hz
  rw [getD_set_ne false (Ne.symm (h z hz))]
theorem getD_tf {listed : Array Bool} {i : Nat} (hi : i < listed.size) (h : listed.getD i false = false) : listed.getD i true = false := by
  simpa [hi] using h
theorem in_size {listed : Array Bool} {i : Nat} (h : listed.getD i false = true) : i < listed.size := by
  rcases Nat.lt_or_ge i listed.size with h1 | h1
  · exact h1
  · simp [Array.getElem?_eq_none h1] at h
theorem flex_main {L2 : List Nat} {w0 : World} (hsel : Region.noSelect ops = true) (hQ : ∀ c a d v w, Q (.panic c) (a.put d v) w → Q (.panic c) a w) (hk : ∀ t, kd t = 3 → t < ops.size) (hS : ∀ u, Grow w0 u → S u) (hal : AlRun P ops Q al)
    (hd : al.Pairwise (fun x y => x.d ≠ y.d)) (hp : al.Pairwise (fun x y => x.p ≠ y.p)) (hxp : ∀ x ∈ al, ∀ y ∈ al, y.p = x.p → y = x) :
    ∀ (L1 L0 : List Nat) (b : Act) (w : World), wpFlex P ops Q S kd al (flexEnd P ops Q S kd al w0 L2) L1 b w → flexB md ops kd al L2 L1 L0 = true → (∀ x ∈ al, x.p ∉ L0) →
    ∀ (m : Nat) (listed : Array Bool) (a : Act) (u : World) (t : Nat → Value) (F : Nat → Nat), FlS md ops al w0 w L0 b listed a u t F → (al.filter (fun x => !listed.getD x.p false)).length = m →
    heldTo P md ops Q S (fun t => kd t != 3) (L1.length + m + L2.length) listed a u := by
  intro L1
  induction L1 with
  | nil =>
    intro L0 b w hw hB hL0 m
    simp only [flexB, Bool.and_eq_true] at hB
    obtain ⟨hB1, hB2⟩ := hB
    induction m with
    | zero =>
      intro listed a u t F hs hc
      have hall : ∀ x ∈ al, listed.getD x.p false = true := by
        intro x hx
        cases h : listed.getD x.p false with
        | true => rfl
        | false =>
          have h1 : x ∈ al.filter (fun x => !listed.getD x.p false) := List.mem_filter.2 ⟨hx, by simp only [h]; rfl⟩
          have h2 := List.length_pos_of_mem h1
          omega
      have hl : listed = mkA ops.size (al.map (·.p) ++ L0) := arr_eq hs.clo.size (fun j hj => by
        by_cases hja : ∃ x ∈ al, x.p = j
        · obtain ⟨x, hx, rfl⟩ := hja
          rw [hall x hx]
          symm
          rw [decide_eq_true_eq, List.mem_append]
          exact .inl (List.mem_map.2 ⟨x, hx, rfl⟩)
        · rw [hs.off j hj (fun x hx e => hja ⟨x, hx, e⟩)]
          have h1 : j ∉ al.map (·.p) := fun h => by
            obtain ⟨x, hx, e⟩ := List.mem_map.1 h
            exact hja ⟨x, hx, e⟩
          simp only [List.mem_append, decide_eq_decide]
          exact ⟨fun h => .inr h, fun h => h.resolve_left h1⟩)
      have ha : a = aof al b (fun p => ptrX (F p)) := hs.act.trans (aof_cong b _ _ al (fun x hx => (hs.on x hx (hall x hx)).1))
      have hh := hw F u hs.g1 (fun x hx => (hs.on x hx (hall x hx)).2) (fun x hx y hy hne => hs.far x hx y hy (hall x hx) (hall y hy) hne)
      rw [← ha] at hh
      have := heldTo_of_walk (kd := kd) hsel hQ L2 listed a u hs.clo (by rw [hl]; exact hB2) (fun _ => hS u hs.g0) hk hh
      simpa using this
    | succ m ih =>
      intro listed a u t F hs hc
      obtain ⟨x0, hx0⟩ : ∃ x, x ∈ al.filter (fun x => !listed.getD x.p false) := by
        cases h : al.filter (fun x => !listed.getD x.p false) with
        | nil => rw [h] at hc; cases hc
        | cons x l => exact ⟨x, by simp⟩
      obtain ⟨hx0a, hx0b⟩ := List.mem_filter.1 hx0
      have hx0f : listed.getD x0.p false = false := by
        cases h : listed.getD x0.p false with
        | false => rfl
        | true => simp only [h] at hx0b; cases hx0b
      obtain ⟨⟨o0, ho0, haf⟩, -⟩ := hal x0 hx0a
      have hsz0 : x0.p < ops.size := (Array.getElem?_eq_some_iff.1 ho0).1
      have hr0 : x0.p ∈ Region.ready md ops listed := mem_ready.2 ⟨getD_tf (by rw [hs.clo.size]; exact hsz0) hx0f, o0, ho0, fun e he => by rw [haf] at he; simp at he⟩
      rw [show ([] : List Nat).length + (m + 1) + L2.length = ([] : List Nat).length + m + L2.length + 1 by omega]
      refine ⟨fun h => (by rw [h] at hr0; cases hr0), fun j hj => ?_⟩
      by_cases hja : ∃ x ∈ al, x.p = j
      · obtain ⟨x, hx, rfl⟩ := hja
        have hst := hs.alloc hx hj hd hp (hxp x hx)
        obtain ⟨⟨o, ho, -⟩, hrun⟩ := hal x hx
        refine hrun _ a u ⟨fun _ _ => hS _ hst.g0, ih _ _ _ _ _ hst ?_⟩
        have := cnt_step hs.clo.size (Array.getElem?_eq_some_iff.1 ho).1 (getD_both (mem_ready.1 hj).1) al hx hp
        omega
      · exfalso
        obtain ⟨hju, oj, hoj, hdeps⟩ := mem_ready.1 hj
        have hjs : j < ops.size := (Array.getElem?_eq_some_iff.1 hoj).1
        have h1 := hs.off j hjs (fun x hx e => hja ⟨x, hx, e⟩)
        rw [getD_both hju] at h1
        have hjL : j ∉ L0 := by simpa using h1.symm
        have h2 := List.all_eq_true.1 hB1 j (List.mem_range.2 hjs)
        simp only [Bool.or_eq_true, hoj, Option.map_some, Option.getD_some] at h2
        rcases h2 with (h2 | h2) | h2
        · exact hjL (by simpa using h2)
        · have h3 : j ∈ al.map (·.p) := by simpa using h2
          obtain ⟨x, hx, e⟩ := List.mem_map.1 h3
          exact hja ⟨x, hx, e⟩
        · have h3 := List.all_eq_true.1 h2 x0 hx0a
          obtain ⟨e, he, hb⟩ := Array.any_eq_true'.1 h3
          simp only [Bool.and_eq_true, beq_iff_eq] at hb
          have := hdeps e he hb.1
          rw [hb.2, hx0f] at this
          cases this
  | cons i rest ihL =>
    intro L0 b w hw hB hL0 m
    simp only [flexB, Bool.and_eq_true, decide_eq_true_eq, Bool.not_eq_true'] at hB
    obtain ⟨⟨⟨⟨⟨hi, hia⟩, hiL⟩, hdep⟩, hkd⟩, hrest⟩ := hB
    obtain ⟨o, ho⟩ : ∃ o, ops[i]? = some o := ⟨ops[i], by simp [hi]⟩
    rw [ho, Option.map_some, Option.getD_some, Bool.and_eq_true] at hdep
    obtain ⟨hdep1, hdst0⟩ := hdep
    have hnal : ∀ x ∈ al, x.p ≠ i := fun x hx e => by
      have : i ∈ al.map (·.p) := List.mem_map.2 ⟨x, hx, e⟩
      rw [show (al.map (·.p)).contains i = true by simpa using this] at hia
      cases hia
    have hnL : i ∉ L0 := fun h => by
      rw [show L0.contains i = true by simpa using h] at hiL
      cases hiL
    have hdst : ∀ x ∈ al, o.dst ≠ some x.d := fun x hx => by
      have := List.all_eq_true.1 hdst0 x hx
      simpa using this
    have hdeps : ∀ e ∈ o.after, Region.binds md e = true → e.on < ops.size ∧ e.on ∈ L0 := fun e he hb => by
      have := Array.all_eq_true_iff_forall_mem.1 hdep1 e he
      simpa [hb] using this
    have hL0' : ∀ x ∈ al, x.p ∉ i :: L0 := fun x hx h => by
      rcases List.mem_cons.1 h with e | h
      · exact hnal x hx e
      · exact hL0 x hx h
    have hrdy : ∀ (listed : Array Bool) (a : Act) (u : World) (t : Nat → Value) (F : Nat → Nat), FlS md ops al w0 w L0 b listed a u t F → i ∈ Region.ready md ops listed := by
      intro listed a u t F hs
      refine mem_ready.2 ⟨getD_tf (by rw [hs.clo.size]; exact hi) (by rw [hs.off i hi hnal]; simpa using hnL), o, ho, fun e he hb => ?_⟩
      obtain ⟨h1, h2⟩ := hdeps e he hb
      rw [hs.off e.on h1 (fun x hx e' => hL0 x hx (by rw [e']; exact h2))]
      simpa using h2
    have hfr : kd i ≤ 1 → ∀ (listed : Array Bool) (a : Act) (u : World) (t : Nat → Value) (F : Nat → Nat), FlS md ops al w0 w L0 b listed a u t F → ∀ j oj, ops[j]? = some oj → j ≠ i → listed.getD j true = false → (∀ e ∈ oj.after, Region.binds md e = true → e.on ≠ i) → o.apart ops oj = true := by
      intro hk1 listed a u t F hs j oj hoj hji hju hno
      rw [if_pos hk1] at hkd
      simp only [Bool.and_eq_true] at hkd
      have hjs : j < ops.size := (Array.getElem?_eq_some_iff.1 hoj).1
      refine Region.free_spec ho hkd.1 j oj hoj hji ?_ hno
      refine getD_tf (by rw [mkA_size]; exact hjs) ?_
      rw [mkA_get _ _ _ hjs]
      by_cases hja : ∃ x ∈ al, x.p = j
      · obtain ⟨x, hx, rfl⟩ := hja
        simpa using hL0 x hx
      · rw [← hs.off j hjs (fun x hx e => hja ⟨x, hx, e⟩)]
        exact getD_both hju
    unfold wpFlex at hw
    split at hw
    · rename_i hk0
      intro listed a u t F hs hc
      obtain ⟨o', v, ho', hy, hw'⟩ := hw
      obtain rfl : o' = o := Option.some.inj (ho'.symm.trans ho)
      rw [show (i :: rest).length + m + L2.length = rest.length + m + L2.length + 1 by simp only [List.length_cons]; omega]
      refine heldTo_first ho (Region.noSelect_spec hsel) (fun c a w => hQ c a _ _ w) (.inl fun _ => trivial) _ listed a u hs.clo (hfr (by omega) listed a u t F hs) (hrdy listed a u t F hs) (by rw [hs.act]; exact hy t) trivial ?_
      exact ihL _ _ _ hw' hrest hL0' m _ _ _ _ _ (hs.step hi hnal (hrdy listed a u t F hs) hdst (Grow.refl u) hs.g1) (by rw [cnt_same al hnal]; exact hc)
    · rename_i hk1
      intro listed a u t F hs hc
      obtain ⟨o', v, ho', hy, hw'⟩ := hw
      obtain rfl : o' = o := Option.some.inj (ho'.symm.trans ho)
      have ha : ∀ t, t < ops.size → kd t = 3 → anc md ops ops.size i t = true := fun t ht h3 => by
        rw [if_pos (by omega)] at hkd
        simp only [Bool.and_eq_true, Bool.or_eq_true, beq_iff_eq, hk1] at hkd
        have h4 := List.all_eq_true.1 (hkd.2.resolve_left (by omega)) t (List.mem_range.2 ht)
        simpa [h3] using h4
      rw [show (i :: rest).length + m + L2.length = rest.length + m + L2.length + 1 by simp only [List.length_cons]; omega]
      refine heldTo_first ho (Region.noSelect_spec hsel) (fun c a w => hQ c a _ _ w) (.inr ⟨rfl, fun t ht h3 => ⟨_, ha t ht (by simpa using h3)⟩⟩) _ listed a u hs.clo (hfr (by omega) listed a u t F hs) (hrdy listed a u t F hs) (by rw [hs.act]; exact hy t) (hS u hs.g0) ?_
      exact ihL _ _ _ hw' hrest hL0' m _ _ _ _ _ (hs.step hi hnal (hrdy listed a u t F hs) hdst (Grow.refl u) hs.g1) (by rw [cnt_same al hnal]; exact hc)
    · rename_i hk0 hk1
      have hk2 : ¬ kd i ≤ 1 := by
        intro hle
        rcases Nat.le_one_iff_eq_zero_or_eq_one.1 hle with h | h
        · exact hk0 h
        · exact hk1 h
      rw [if_neg hk2] at hkd
      simp only [Bool.and_eq_true, beq_iff_eq] at hkd
      obtain ⟨hkd2, hrd⟩ := hkd
      obtain ⟨o', ho', hw'⟩ := hw
      obtain rfl : o' = o := Option.some.inj (ho'.symm.trans ho)
      have honly : ∀ (listed : Array Bool) (a : Act) (u : World) (t : Nat → Value) (F : Nat → Nat), FlS md ops al w0 w L0 b listed a u t F → ∀ j ∈ Region.ready md ops listed, (¬ ∃ x ∈ al, x.p = j) → j = i := by
        intro listed a u t F hs j hj hja
        obtain ⟨hju, oj, hoj, hdj⟩ := mem_ready.1 hj
        have hjs : j < ops.size := (Array.getElem?_eq_some_iff.1 hoj).1
        have h1 := hs.off j hjs (fun x hx e => hja ⟨x, hx, e⟩)
        rw [getD_both hju] at h1
        have hjL : j ∉ L0 := by simpa using h1.symm
        have hjA : j ∉ al.map (·.p) := fun h => by
          obtain ⟨x, hx, e⟩ := List.mem_map.1 h
          exact hja ⟨x, hx, e⟩
        have : j ∈ Region.ready md ops (mkA ops.size (al.map (·.p) ++ L0)) := by
          refine mem_ready.2 ⟨getD_tf (by rw [mkA_size]; exact hjs) ?_, oj, hoj, fun e he hb => ?_⟩
          · rw [mkA_get _ _ _ hjs, decide_eq_false_iff_not, List.mem_append]
            exact fun h => h.elim hjA hjL
          · have h2 := hdj e he hb
            have h3 : e.on < ops.size := by have := in_size h2; rwa [hs.clo.size] at this
            rw [mkA_get _ _ _ h3, decide_eq_true_eq, List.mem_append]
            by_cases hea : ∃ x ∈ al, x.p = e.on
            · obtain ⟨x, hx, ex⟩ := hea
              exact .inl (List.mem_map.2 ⟨x, hx, ex⟩)
            · rw [hs.off e.on h3 (fun x hx e' => hea ⟨x, hx, e'⟩)] at h2
              exact .inr (by simpa using h2)
        rw [hrd] at this
        simpa using this
      have hgo : ∀ (m : Nat) (listed : Array Bool) (a : Act) (u : World) (t : Nat → Value) (F : Nat → Nat), FlS md ops al w0 w L0 b listed a u t F → (al.filter (fun x => !listed.getD x.p false)).length = m →
          wpOp P ops Q i (fun a' w' => ((fun t => kd t != 3) i = true → S u → S w') ∧ heldTo P md ops Q S (fun t => kd t != 3) (rest.length + m + L2.length) (listed.setIfInBounds i true) a' w') a u := by
        intro m listed a u t F hs hc
        have h1 := hw' t u hs.g1
        rw [← hs.act] at h1
        refine wpOp_mono (fun a' w'' h3 => ?_) h1
        obtain ⟨hg, v, ha', hwr⟩ := h3
        subst ha'
        exact ⟨fun _ _ => hS _ (hs.g0.trans hg), ihL _ _ _ hwr hrest hL0' m _ _ _ _ _ (hs.step hi hnal (hrdy listed a u t F hs) hdst hg (Grow.refl w'')) (by rw [cnt_same al hnal]; exact hc)⟩
      induction m with
      | zero =>
        intro listed a u t F hs hc
        have hr := hrdy listed a u t F hs
        rw [show (i :: rest).length + 0 + L2.length = rest.length + 0 + L2.length + 1 by simp only [List.length_cons]; omega]
        refine ⟨fun h => (by rw [h] at hr; cases hr), fun j hj => ?_⟩
        by_cases hja : ∃ x ∈ al, x.p = j
        · exfalso
          obtain ⟨x, hx, rfl⟩ := hja
          have h1 : x ∈ al.filter (fun x => !listed.getD x.p false) := List.mem_filter.2 ⟨hx, by rw [getD_both (mem_ready.1 hj).1]; rfl⟩
          have h2 := List.length_pos_of_mem h1
          omega
        · obtain rfl := honly listed a u t F hs j hj hja
          exact hgo 0 listed a u t F hs hc
      | succ m ih =>
        intro listed a u t F hs hc
        have hr := hrdy listed a u t F hs
        rw [show (i :: rest).length + (m + 1) + L2.length = rest.length + (m + 1) + L2.length + 1 by simp only [List.length_cons]; omega]
        refine ⟨fun h => (by rw [h] at hr; cases hr), fun j hj => ?_⟩
        by_cases hja : ∃ x ∈ al, x.p = j
        · obtain ⟨x, hx, rfl⟩ := hja
          have hst := hs.alloc hx hj hd hp (hxp x hx)
          obtain ⟨⟨ox, hox, -⟩, hrun⟩ := hal x hx
          refine hrun _ a u ⟨fun _ _ => hS _ hst.g0, ?_⟩
          have h1 := cnt_step hs.clo.size (Array.getElem?_eq_some_iff.1 hox).1 (getD_both (mem_ready.1 hj).1) al hx hp
          have h2 := ih _ _ _ _ _ hst (by omega)
          rwa [show (i :: rest).length + m + L2.length = rest.length + (m + 1) + L2.length by simp only [List.length_cons]; omega] at h2
        · obtain rfl := honly listed a u t F hs j hj hja
          exact hgo (m + 1) listed a u t F hs hc
end
section
variable {P : Program} {Q : Exit → Act → World → Prop} {S : World → Prop} {kd : Nat → Nat} {al : List AlX}
theorem al_inj : ∀ (al : List AlX), al.Pairwise (fun x y => x.p ≠ y.p) → ∀ x ∈ al, ∀ y ∈ al, y.p = x.p → y = x
  | [], _, x, hx, _, _, _ => by cases hx
  | z :: l, h, x, hx, y, hy, e => by
    obtain ⟨h1, h2⟩ := List.pairwise_cons.1 h
    rcases List.mem_cons.1 hx with hx' | hx'
    · rcases List.mem_cons.1 hy with hy' | hy'
      · rw [hx', hy']
      · exact absurd (by rw [← hx', e]) (h1 y hy')
    · rcases List.mem_cons.1 hy with hy' | hy'
      · exact absurd (by rw [← hy', e]) (h1 x hx')
      · exact al_inj l h2 x hx' y hy' e
/-- A region that allocates: L1 comes before any use of the allocations, L2 behind them all. -/
theorem region_flex {id : Nat} {a : Act} {w : World} {l : List Oper} (w0 : World) (al : List AlX) (L1 L2 : List Nat) (kd : Nat → Nat) (hm : P.follows .mixedOrders = true)
    (hB : (Region.noSelect l.toArray && decide (L1.length + al.length + L2.length = l.length) && flexB .any l.toArray kd al L2 L1 []) = true)
    (hk : ∀ t, kd t = 3 → t < l.toArray.size) (hd : al.Pairwise (fun x y => x.d ≠ y.d)) (hp : al.Pairwise (fun x y => x.p ≠ y.p)) (hg : Grow w0 w.drew) (hal : AlRun P l.toArray (NoPanic Q) al)
    (h : wpFlex P l.toArray (NoPanic Q) (fun u => Grow w0 u) kd al (flexEnd P l.toArray (NoPanic Q) (fun u => Grow w0 u) kd al w0 L2) L1 a w.drew) : (Code.region id l.toArray true).wp P Q a w := by
  refine wp_region_noPanic ?_
  simp only [Bool.and_eq_true, decide_eq_true_eq] at hB
  obtain ⟨⟨hsel, hlen⟩, hB⟩ := hB
  refine wp_region_any hm ?_
  obtain ⟨t, ht⟩ := aof_self al a hp
  have hfl : al.filter (fun x => !(Array.replicate l.toArray.size false).getD x.p false) = al := by
    rw [List.filter_eq_self]
    intro x _
    rw [getD_replicate_false]; rfl
  have H := flex_main (md := .any) (Q := NoPanic Q) (S := fun u => Grow w0 u) (w0 := w0) hsel (fun _ _ _ _ _ h => h) hk (fun _ h => h) hal hd hp (al_inj al hp) L1 [] a w.drew h hB (fun _ _ h => by cases h) al.length
    (Array.replicate l.toArray.size false) a w.drew t (fun _ => 0) ⟨ht.symm, hg, Grow.refl _, ⟨by simp, fun j oj _ hl => (by rw [getD_replicate_false] at hl; cases hl)⟩, fun j _ _ => by rw [getD_replicate_false]; simp, fun x _ hl => (by rw [getD_replicate_false] at hl; cases hl), fun x _ y _ hl => (by rw [getD_replicate_false] at hl; cases hl)⟩ (by rw [hfl])
  have := any_of_heldTo _ _ _ _ H
  rw [hlen] at this
  exact this
theorem flex_quiet {l : List Oper} {i : Nat} {rest : List Nat} {o : Oper} {v : Value} {b : Act} {w : World} {K : Act → World → Prop} (hk : kd i = 0) (ho : l[i]? = some o)
    (hy : ∀ t, YieldsIf P l.toArray (fun _ => True) o v (aof al b t)) (h : wpFlex P l.toArray Q S kd al K rest (b.put o.dst v) w) : wpFlex P l.toArray Q S kd al K (i :: rest) b w := by
  unfold wpFlex; rw [hk]; exact ⟨o, v, by simpa using ho, hy, h⟩
theorem flex_read {l : List Oper} {i : Nat} {rest : List Nat} {o : Oper} {v : Value} {b : Act} {w : World} {K : Act → World → Prop} (hk : kd i = 1) (ho : l[i]? = some o)
    (hy : ∀ t, YieldsIf P l.toArray S o v (aof al b t)) (h : wpFlex P l.toArray Q S kd al K rest (b.put o.dst v) w) : wpFlex P l.toArray Q S kd al K (i :: rest) b w := by
  unfold wpFlex; rw [hk]; exact ⟨o, v, by simpa using ho, hy, h⟩
theorem flex_op {l : List Oper} {i : Nat} {rest : List Nat} {o : Oper} {b : Act} {w : World} {K : Act → World → Prop} (hk : kd i = 2) (ho : l[i]? = some o)
    (h : ∀ t u, Grow w u → ∀ K' : Act → World → Prop, Shut (∀ a' v w', a' = (aof al b t).put o.dst v → Grow u w' → wpFlex P l.toArray Q S kd al K rest (b.put o.dst v) w' → K' a' w') →
      if Region.wanted o (yielded l.toArray (aof al b t).tmps) = true then Oper.wp P o (aof al b t) u K' Q else K' ((aof al b t).put o.dst undef) u) : wpFlex P l.toArray Q S kd al K (i :: rest) b w := by
  unfold wpFlex; rw [hk]
  refine ⟨o, by simpa using ho, fun t u hu => ?_⟩
  exact wpOp_step (by simpa using ho) (fun K' hK => h t u hu K' (fun a' v w' ha hg hW => hK _ _ ⟨hg, v, ha, hW⟩))
theorem flex_done {l : List Oper} {b : Act} {w w0 : World} {L2 : List Nat}
    (h : ∀ (F : Nat → Nat) u, Grow w u → (∀ x ∈ al, FrX w0 u x.z (F x.p)) → (∀ x ∈ al, ∀ y ∈ al, x.p ≠ y.p → F x.p ≠ F y.p) → wpHeld P l.toArray Q S kd L2 (aof al b (fun p => ptrX (F p))) u) : wpFlex P l.toArray Q S kd al (flexEnd P l.toArray Q S kd al w0 L2) [] b w := h
end
end Go.Proofs.YtbpkfcohbefphaaGreatDoor
namespace Go.Proofs.YtbpkfcohbefphaaGreatDoor
open Go Go.RowKit
theorem FrX.putR {w0 u : World} {t : TypeId} {F : Nat} {x : Rat} {s tt : Bool} {a b : Option Addr} {l c k e : Nat} (h : FrX w0 u (.cells #[.bool false, .slice none 0 0, .bool false, .slice none 0 0] t) F) (hx : RatR u (.agg #[.bool s, .slice a l c, .bool tt, .slice b k e]) x) :
    RowQ (st4 u F 0 (.bool s) (.slice a l c) (.bool tt) (.slice b k e)) F 0 1 (fun _ => x) ∧ Grow w0 (st4 u F 0 (.bool s) (.slice a l c) (.bool tt) (.slice b k e)) := by
  obtain ⟨y, h1, rfl, h3⟩ := h
  have hr : RowP u y.heap.size 0 1 (fun _ => none) := (rowp_alloc y t).grow h3
  have h4 := RowP.set hr (show 0 < 1 by omega) hx
  have h5 := But.st4 (X := fun b => b = y.heap.size) (But.refl _ u) (.inr rfl) (hr.q4 (show 0 < 1 by omega)) s a l c tt b k e
  simp only [Nat.zero_mul, Nat.add_zero] at h4 h5
  exact ⟨h4.mono (Nat.le_refl _) (fun j x hj hx => by rw [if_pos (by omega)]; exact hx), (((h1.trans (((Grow.refl y).alloc _).trans h3)).but _).trans h5).asGrow (fun b hb => by have := h1.size; omega)⟩
end Go.Proofs.YtbpkfcohbefphaaGreatDoor
