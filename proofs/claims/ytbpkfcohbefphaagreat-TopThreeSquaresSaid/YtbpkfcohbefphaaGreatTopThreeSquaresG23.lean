/- Lemmas, plain laws and walks that the statement LwThreeSquares leans on (texts TwG, TwH, ThC, ThG, TbB), conditions as each theorem says. -/
import Derived.Test.YtbpkfcohbefphaaGreatTopThreeSquaresG12
import Derived.Test.YtbpkfcohbefphaaGreatTopThreeSquaresG13
import Derived.Test.YtbpkfcohbefphaaGreatTopThreeSquaresG15
import Derived.Test.YtbpkfcohbefphaaGreatTopThreeSquaresG22

/- Walk: theta.weighted without a polynomial. -/
namespace Go.Proofs.YtbpkfcohbefphaaGreat
open Go Go.RowKit

theorem make_out0 {w' : World} {base g n : Nat} {t : TypeId} {z : Value} (h : w'.ownsRow base t 1 (.slice (some ⟨g, 0, none⟩) n n) n (madeCells #[z] n).toList) :
    g < w'.heap.size ∧ (∀ k, k < n → w'.cell? ⟨g, k, none⟩ = some z) ∧ (∀ o, w'.frozen? ⟨g, o, none⟩ = false) := by
  rcases Nat.eq_zero_or_pos n with h0 | h0
  · rcases h.2 with ⟨hv, -⟩ | ⟨g', cap, cur, hv, hb, hh, hle, hr⟩
    · simp at hv
    · simp only [Value.slice.injEq, Option.some.injEq, Addr.mk.injEq] at hv
      obtain ⟨⟨rfl, -⟩, -, -⟩ := hv
      exact ⟨(Array.getElem?_eq_some_iff.1 hh).1, fun k hk => by omega, fun o => frozen_plain hh o⟩
  · exact make_out h h0
theorem boxN_mono (b : Nat → Nat) : ∀ (n i : Nat), i ≤ n → boxN b i ≤ boxN b n
  | 0, i, h => by rw [show i = 0 by omega]; exact Nat.le_refl _
  | n + 1, i, h => by
    by_cases e : i = n + 1
    · rw [e]; exact Nat.le_refl _
    · exact Nat.le_trans (boxN_mono b n i (by omega)) (Nat.le_mul_of_pos_right _ (by omega))
theorem boxN_each {b : Nat → Nat} {n T : Nat} (h : boxN b n ≤ T) (i : Nat) (hi : i < n) : b i ≤ T := by
  have h1 := boxN_mono b n (i + 1) hi
  have h2 : 2 * b i + 1 ≤ boxN b (i + 1) := Nat.le_mul_of_pos_left _ (boxN_pos b i)
  omega
/-- All that a theta series' form owes. -/
structure ThH (n N prec m : Nat) (tm : Int) (f : Nat → Int) (M : Nat → Nat → Rat) (v : Nat → Rat) (qf b q : Nat → Nat) : Prop where
  hN : N = n * n
  hn0 : 0 < n
  hn : n ≤ 8
  hf : ∀ i, i < N → -1000 ≤ f i ∧ f i ≤ 1000
  hM : ∀ i j, M i j = (f (i * n + j) : Rat)
  hB : ∀ c, c < n → RedB n (n + n) c (redD n c (besU n M)) (redM n c (besU n M))
  hp : prec ≤ 1000
  hm : m = prec - 1
  htm : tm = 2 * (m : Int)
  hv : ∀ i, i < n → redM n n (besU n M) i (n + i) = v i
  hmul : ∀ i, i < n → MulB (tm : Rat) (v i)
  hq : ∀ i, i < n → ((tm : Rat) * v i).num / (((tm : Rat) * v i).den : Int) = (qf i : Int) ∧ qf i ≤ 1000000000
  hb : ∀ i, i < n → sqN (qf i) = b i
  hT : boxN b n ≤ 1048576
  hvq : ∀ t, t < boxN b n → ssN n f (dig b n t) n = 2 * (q t : Int)
  h1 : 0 < prec → 0 < hist (fun t => (q t : Int)) (boxN b n) 0
set_option maxRecDepth 20000 in
set_option maxHeartbeats 8000000 in
theorem weightedT (n N B off c prec m : Nat) (tm : Int) (f : Nat → Int) (M : Nat → Nat → Rat) (v : Nat → Rat) (qf b q : Nat → Nat) (HH : ThH n N prec m tm f M v qf b q) (w : World) (hA : IntQ w B off N f) :
    Calls Tryz.prog 28 #[.agg #[.int .i64 (n : Int), .slice (some ⟨B, off, none⟩) N c], .slice none 0 0, .int .i64 (prec : Int)] w fun e w' =>
      ∃ B' c', e = .returned (.tuple #[.agg #[.int .i64 0, .slice (some ⟨B', 0, none⟩) prec c'], .int .i64 0]) ∧ RowQ w' B' 0 prec (fun j => ((((hist (fun t => (q t : Int)) (boxN b n) (j : Int) : Nat) : Int)) : Rat)) ∧ Grow w w' ∧ w.heap.size ≤ B' := by
  have BX := Lib.hid (fun (u : World) (hu : Grow w u) => boxT n N B off c m tm f M v qf b HH.hN HH.hn0 HH.hn HH.hf HH.hM HH.hB (by have := HH.hm; have := HH.hp; omega) HH.htm HH.hv HH.hmul HH.hq HH.hb (fun i hi => Nat.le_trans (boxN_mono b n i hi) HH.hT) u (hA.grow hu))
  have hpm := HH.hm
  have hpp := HH.hp
  have hNp : 0 < N := by rw [HH.hN]; exact Nat.mul_pos HH.hn0 HH.hn0
  have hlB := hA.lt
  have HA := Lib.hid hA
  have HHH := Lib.hid HH
  clear hA HH
  obtain ⟨ii, hii, iiz0, iiz1, iiz2⟩ := info_parts infoInt
  obtain ⟨ir, hir, irz0, irz1, irz2⟩ := info_parts infoRat
  obtain ⟨W1, hW1⟩ : ∃ W1 : World, W1 = w.alloc (.cells #[.int .i64 (n : Int), .slice (some ⟨B, off, none⟩) N c] 31) := ⟨_, rfl⟩
  obtain ⟨W2, hW2⟩ : ∃ W2 : World, W2 = W1.alloc (.cells #[.slice none 0 0] 97) := ⟨_, rfl⟩
  obtain ⟨W3, hW3⟩ : ∃ W3 : World, W3 = W2.alloc (.cells #[.int .i64 (prec : Int)] 3) := ⟨_, rfl⟩
  obtain ⟨W4, hW4⟩ : ∃ W4 : World, W4 = W3.alloc (.cells #[.int .i64 0, .slice none 0 0] 25) := ⟨_, rfl⟩
  have hg1 := ag hW1
  have hg2 := ag hW2
  have hg3 := ag hW3
  have hg4 := ag hW4
  have hz1 : W1.heap.size = w.heap.size + 1 := by rw [hW1]; simp
  have hz2 : W2.heap.size = w.heap.size + 1 + 1 := by rw [hW2, World.size_alloc, hz1]
  have hz3 : W3.heap.size = w.heap.size + 1 + 1 + 1 := by rw [hW3, World.size_alloc, hz2]
  have K1 := Lib.hid (fun u (hu : Grow W4 u) => ak2 hW1 u (hg2.trans (hg3.trans (hg4.trans hu))))
  have K2 := Lib.hid (fun u (hu : Grow W4 u) => ak1 hW2 u (hg3.trans (hg4.trans hu)))
  have K3 := Lib.hid (fun u (hu : Grow W4 u) => ak1 hW3 u (hg4.trans hu))
  have K4 := Lib.hid (ak2 hW4)
  rw [hz1] at K2
  rw [hz2] at K3
  rw [hz3] at K4
  have HW1 := Lib.hid hW1
  have HW2 := Lib.hid hW2
  have HW3 := Lib.hid hW3
  have HW4 := Lib.hid hW4
  have HGW := Lib.hid (hg1.trans (hg2.trans (hg3.trans hg4)))
  clear hW1 hW2 hW3 hW4 hg1 hg2 hg3 hg4 hz1 hz2 hz3
  obtain ⟨zp, hzp⟩ : ∃ z, (prec : Int) - 1 = z := ⟨_, rfl⟩
  have EZ : Hid (IntKind.i64.wrap ((prec : Int) - 1) = zp ∧ wrap64 ((prec : Int) - 1) = zp) := Lib.hid (by rw [hzp]; exact w64n (by omega))
  have y1 : max (0 : Int) zp = (m : Int) := by omega
  have y2 : decide ((prec : Int) < 0) = false := by simp
  have y3 : decide ((prec : Int) > 1000) = false := by simp; omega
  have Y1 := Lib.hid y1
  have HZP := Lib.hid hzp
  clear hzp y1 hpm
  obtain ⟨e1, e2⟩ := EZ.out
  go_enter Tryz.func28, Tryz.ntmps28
  go_upto_region 1 with fail
  rw [← HW1.out, ← HW2.out, ← HW3.out, ← HW4.out]
  obtain ⟨b0, b1, b2, b3⟩ := K1.out W4 (Grow.refl _)
  obtain ⟨d0, d1, d2⟩ := K3.out W4 (Grow.refl _)
  have y1 := Y1.out
  go_upto_region 6 with (go_at_call 63; (with_reducible refine (BX.out _ HGW.out).mono ?_); (rintro e u5 ⟨B5, c5, rfl, hr5, hb5⟩; have HR5 := Lib.hid hr5; have HG5 := Lib.hid hb5; clear hr5 hb5))
  clear e1 e2 y1 y2 y3 b0 b1 b2 b3 d0 d1 d2 BX
  obtain ⟨d0, d1, d2⟩ := K3.out u5 HG5.out
  go_wp2_with (at_make; refine wpList_make_full _ rfl _ _ 29 rfl (u5.heap.size) 3 ii (.int .i64 0) 1 Tryz.underlying29 hii iiz0 iiz1 .i64 .i64 (prec : Int) (prec : Int) prec rfl rfl rfl rfl ?m1 ?m2 (Nat.le_refl _) ?_)
  case m1 => rw [iiz2]; omega
  case m2 => unfold maxLen; omega
  intro u6 hown6 hgrow6
  have hg6 : Grow u5 u6 := (Grow.refl u5).grown hgrow6 (fun k hk => by cases hk)
  have HM6 := Lib.hid (make_out0 hown6)
  have HG6 := Lib.hid hg6
  clear hown6 hgrow6 d0 d1 d2 hii iiz0 iiz1 iiz2
  obtain ⟨d0, d1, d2⟩ := K3.out u6 (HG5.out.trans hg6)
  go_upto_region 7 with fail
  obtain ⟨W7, hW7⟩ : ∃ W7 : World, W7 = u6.alloc (.cells #[.slice (some ⟨u5.heap.size, 0, none⟩) prec prec] 29) := ⟨_, rfl⟩
  rw [← hW7]
  have HG7 := Lib.hid (hg6.trans (ag hW7))
  have K7 := Lib.hid (ak1 hW7)
  have hz6 : u5.heap.size < u6.heap.size := HM6.out.1
  have hz7 : u6.heap.size < W7.heap.size := (K7.out W7 (Grow.refl _)).2.2
  have HW7 := Lib.hid hW7
  clear d0 d1 d2 hW7 hg6
  obtain ⟨d0, d1, d2⟩ := K3.out W7 (HG5.out.trans HG7.out)
  go_wp2_with (at_make; refine wpList_make_full _ rfl _ _ 23 rfl (W7.heap.size) 36 ir (.agg #[.bool false, .slice none 0 0, .bool false, .slice none 0 0]) 4 Tryz.underlying23 hir irz0 irz1 .i64 .i64 (prec : Int) (prec : Int) prec rfl rfl rfl rfl ?m3 ?m4 (Nat.le_refl _) ?_)
  case m3 => rw [irz2]; omega
  case m4 => unfold maxLen; omega
  intro u8 hown8 hgrow8
  have HM8 := Lib.hid (made_row (g := W7.heap.size) hown8)
  have hg8 : Grow W7 u8 := (Grow.refl W7).grown hgrow8 (fun k hk => by cases hk)
  have HG8 := Lib.hid hg8
  clear hown8 hgrow8 d0 d1 d2 hir irz0 irz1 irz2
  go_upto_region 8 with fail
  obtain ⟨W9, hW9⟩ : ∃ W9 : World, W9 = u8.alloc (.cells #[.slice (some ⟨W7.heap.size, 0, none⟩) prec prec] 23) := ⟨_, rfl⟩
  rw [← hW9]
  have HG9 := Lib.hid (hg8.trans (ag hW9))
  have K9 := Lib.hid (ak1 hW9)
  have hz8 : W7.heap.size < u8.heap.size := HM8.out.lt
  have hz9 : u8.heap.size < W9.heap.size := (K9.out W9 (Grow.refl _)).2.2
  have HG49 := Lib.hid (HG5.out.trans (HG7.out.trans HG9.out))
  have hz5 : w.heap.size + 1 + 1 + 1 < u5.heap.size := (K4.out u5 HG5.out).2.2.2
  have hB5 : B5 < u5.heap.size := HR5.out.lt
  have HMAN : Hid (ManS W9 (w.heap.size + 1 + 1) u6.heap.size (w.heap.size + 1) u5.heap.size prec prec (fun _ => 0)) := Lib.hid (by
    obtain ⟨m1, m2, m3⟩ := HM6.out
    have hg69 : Grow u6 W9 := (show Grow u6 W7 from ag HW7.out).trans HG9.out
    exact ⟨(K3.out W9 HG49.out).1, (K7.out W9 HG9.out).1, (K2.out W9 HG49.out).1, by omega, by omega, by omega, ⟨by omega, fun i hi => by rw [Nat.zero_add]; exact (hg69.cells _ _ m1).trans (m2 i hi)⟩, fun o => (hg69.frees _ _ m1).trans (m3 o), by omega, by omega, by omega⟩)
  have EA := Lib.hid (eachT n N B off c B5 c5 (w.heap.size + 1 + 1) u6.heap.size (w.heap.size + 1) u5.heap.size prec prec (.pointer (some ⟨u8.heap.size, 0, none⟩)) f b q HHH.out.hN HHH.out.hn0 HHH.out.hn (fun i hi => by have := HHH.out.hf i hi; omega) (fun i hi => boxN_each HHH.out.hT i hi) HHH.out.hT HHH.out.hvq W9 (HA.out.grow (HGW.out.trans HG49.out)) (HR5.out.grow (HG7.out.trans HG9.out)) HMAN.out (by omega) (by omega))
  have hmf : ∀ (fn : Fn) (first cap : Array Value) (w : World), (Instr.makeFunc fn first cap).run Tryz.prog w = .ok (.func fn first cap) w := fun _ _ _ _ => rfl
  have HR9 := Lib.hid (RowP.grow HM8.out (ag hW9))
  clear hW9 hg8 HMAN HM8 HM6
  obtain ⟨b0, b1, b2, b3⟩ := K1.out W9 HG49.out
  go_upto_region 9 with (go_at_call 64; (with_reducible refine EA.out.mono ?_); (rintro e u10 ⟨rfl, hm10, hb10⟩; have HM10 := Lib.hid hm10; have HB10 := Lib.hid hb10; clear hm10 hb10))
  clear b0 b1 b2 b3 hmf EA
  have HR10 := Lib.hid (RowP.but HR9.out (show ¬ (W7.heap.size = u5.heap.size) by omega) HB10.out)
  have HGT := Lib.hid (show Grow W4 u10 from ((HG49.out.but _).trans HB10.out).asGrow (fun y hy => by have := HG5.out.size; omega))
  have HK11 : Hid (u10.cell? ⟨u8.heap.size, 0, none⟩ = some (.slice (some ⟨W7.heap.size, 0, none⟩) prec prec)) := Lib.hid ((HB10.out.cells _ _ hz9 (by omega)).trans (K9.out W9 (Grow.refl _)).1)
  have x0 := HM10.out.c4
  have x1 := HM10.out.c3
  have x2 := HK11.out
  have heq : ∀ u : World, (binOp .eql 97 (.slice none 0 0) (.slice none 0 0)).run Tryz.prog u = .ok (.bool true) u := fun u => eql_nil (P := Tryz.prog) u 97 102 none 0 0 Tryz.underlying97
  go_wp2_with fail
  clear x0 x1 x2 heq
  go_loopg [44] prec (fun gk t44 wr => ∃ j : Nat, t44 = .int .i64 (j : Int) ∧ j ≤ prec ∧ Hid (gk = prec - j) ∧ Hid (But (fun y => y = W7.heap.size) u10 wr) ∧ Hid (RowP wr W7.heap.size 0 prec (fun i => if i < j then some (((((hist (fun t => (q t : Int)) (boxN b n) (i : Int) : Nat) : Int)) : Rat)) else none)))
  case atStart => exact ⟨0, rfl, Nat.zero_le _, Lib.hid rfl, Lib.hid (But.refl _ _), Lib.hid (HR10.out.mono (Nat.le_refl _) (fun i x _ hx => by rw [if_neg (Nat.not_lt_zero _)] at hx; cases hx))⟩
  case round =>
    obtain ⟨j, rfl, hj2, HGK, HB, HRA⟩ := hrel
    have x2 : wr.cell? ⟨u8.heap.size, 0, none⟩ = some (.slice (some ⟨W7.heap.size, 0, none⟩) prec prec) := (HB.out.cells _ _ (Nat.lt_of_lt_of_le hz9 HB10.out.size) (by omega)).trans HK11.out
    by_cases hjn : j = prec
    · have y1 : decide ((j : Int) < (prec : Int)) = false := by simp; omega
      have y2 : ¬ (j < prec) := by omega
      have HRF := Lib.hid (show RowQ wr W7.heap.size 0 prec (fun j => ((((hist (fun t => (q t : Int)) (boxN b n) (j : Int) : Nat) : Int)) : Rat)) from HRA.out.full (fun i hi => by rw [if_pos (show i < j by omega)]))
      have NR := Lib.hid (snormalQ prec W7.heap.size prec _ hpp (Nat.le_refl _) (fun hp e => by have h2 := HHH.out.h1 hp; simp at e; omega) wr HRF.out)
      have hgw : Grow W4 wr := ((HGT.out.but _).trans HB.out).asGrow (fun y hy => by have := (HG5.out.trans HG7.out).size; omega)
      have HGR := Lib.hid hgw
      clear hgw hjn HRA HRF
      go_wp2_with (go_at_call 67; (with_reducible refine NR.out.mono ?_); (rintro e u12 ⟨B12, c12, rfl, hr12, hb12, hB12⟩; have HR12 := Lib.hid hr12; have HG12 := Lib.hid hb12; clear hr12 hb12; obtain ⟨q0, q1, q2, q3⟩ := K4.out u12 (HGR.out.trans HG12.out)))
      have hwr : w.heap.size + 1 + 1 + 1 < wr.heap.size := (K4.out wr HGR.out).2.2.2
      obtain ⟨hb, hgF⟩ := ser_cell (w := w) (by omega) q3 q0 q1 (fun x => by simp) (fun x => by simp) (HGW.out.trans (HGR.out.trans HG12.out)) (.int .i64 0) (.slice (some ⟨B12, 0, none⟩) prec c12) (fun x => by simp)
      exact bodyPost_ret (v := .tuple #[.agg #[.int .i64 0, .slice (some ⟨B12, 0, none⟩) prec c12], .int .i64 0]) (by rw [results_cell_tmp rfl]; go_simp) rfl ⟨B12, c12, rfl, RowP.but HR12.out (by omega) hb, hgF, by omega⟩
    · have hj : j < prec := by omega
      have y0 : (0 : Int) ≤ (j : Int) := by omega
      have y2 : (j : Int) < (prec : Int) := by omega
      have hcm := (HM10.out.row.but (show ¬ (u5.heap.size = W7.heap.size) by omega) HB.out).cell j hj
      rw [Nat.zero_add] at hcm
      obtain ⟨z, hz⟩ : ∃ z, ((hist (fun t => (q t : Int)) (boxN b n) (j : Int) : Nat) : Int) = z := ⟨_, rfl⟩
      have hzb : z.natAbs < 4294967296 := by have h1 := hist_le (fun t => (q t : Int)) (j : Int) (boxN b n); have h2 := HHH.out.hT; omega
      rw [hz] at hcm
      have OF := Lib.hid (fun u => ofQ z hzb u)
      have HZ := Lib.hid hz
      obtain ⟨s3, a3, l3, c3, t3, b3, k3, e3, q0, q1, q2, q3⟩ := RowP.q4 HRA.out hj
      rw [Nat.zero_add] at q0 q1 q2 q3
      have hlA := HRA.out.lt
      have hfA := HRA.out.free
      have hl11 : u8.heap.size < wr.heap.size := Nat.lt_of_lt_of_le hz9 (Nat.le_trans HB10.out.size HB.out.size)
      have d0 : ∀ u : World, Grow wr u → u.cell? ⟨u8.heap.size, 0, none⟩ = some (.slice (some ⟨W7.heap.size, 0, none⟩) prec prec) ∧ u.cell? ⟨W7.heap.size, j * 4, none⟩ = some (.bool s3) ∧ u.cell? ⟨W7.heap.size, j * 4 + 1, none⟩ = some (.slice a3 l3 c3) ∧ u.cell? ⟨W7.heap.size, j * 4 + 2, none⟩ = some (.bool t3) ∧ u.cell? ⟨W7.heap.size, j * 4 + 3, none⟩ = some (.slice b3 k3 e3) ∧ (∀ o, u.frozen? ⟨W7.heap.size, o, none⟩ = false) ∧ W7.heap.size < u.heap.size :=
        fun u hg => ⟨(hg.cells _ _ hl11).trans x2, (hg.cells _ _ hlA).trans q0, (hg.cells _ _ hlA).trans q1, (hg.cells _ _ hlA).trans q2, (hg.cells _ _ hlA).trans q3, fun o => (hg.frees _ _ hlA).trans (hfA o), Nat.lt_of_lt_of_le hlA hg.size⟩
      have D0 := Lib.hid d0
      have HST := Lib.hid (fun (u : World) (hu : Grow wr u) (s : Bool) (a : Option Addr) (l c : Nat) (t : Bool) (b : Option Addr) (k e : Nat) (hx : RatR u (.agg #[.bool s, .slice a l c, .bool t, .slice b k e]) (z : Rat)) => (⟨RowP.set (RowP.grow HRA.out hu) hj hx, But.st4 (X := fun b => b = W7.heap.size) (hu.but _) (.inr rfl) ((RowP.grow HRA.out hu).q4 hj) s a l c t b k e⟩ : _ ∧ _))
      simp only [Nat.zero_add] at HST
      clear d0 q0 q1 q2 q3 hfA x2 hz hjn
      go_upto_region 13 with fail
      clear hcm
      refine region_held (id := 13) (fun u => Grow wr u) [0, 1, 2, 3, 4, 5] (kdL [1, 0, 0, 2, 0, 3]) (by kernel_rfl) (by kernel_rfl) (fun t ht => kdL_lt _ t ht) ?hS0p ?_
      case hS0p => ((try dsimp only); (repeat (first | with_reducible exact Grow.refl _ | with_reducible refine Grow.alloc ?_ _ | with_reducible refine Grow.drew ?_ | with_reducible refine Grow.drewN ?_ _ | (with_reducible refine Grow.setCell ?_ ?hp _; (case hp => (simp; try omega))) | with_reducible refine Grow.trans ?_ (by assumption))))
      refine held_read (v := ?vp0) rfl rfl (Or.inl ⟨by rfl, ?hyp0⟩) ?_
      case hyp0 => (intro u hu; obtain ⟨f0, f1, f2, f3, f4, f5, f6⟩ := D0.out u hu; go_simp; (try with_reducible rfl))
      (try simp only [Act.put, List.setIfInBounds_toArray])
      refine held_quiet (v := ?vp1) rfl rfl (Or.inl ⟨by rfl, ?hyp1⟩) ?_
      case hyp1 => (intro u hu; go_simp; (try with_reducible rfl))
      (try simp only [Act.put])
      refine held_quiet (v := ?vp2) rfl rfl (Or.inl ⟨by rfl, ?hyp2⟩) ?_
      case hyp2 => (intro u hu; go_simp; (try with_reducible rfl))
      (try simp only [Act.put])
      refine held_op rfl rfl (fun K hK => ?_)
      go_simp
      (go_at_call 18; (with_reducible refine (OF.out _).mono ?_); (rintro e u13 ⟨v13, rfl, hv13, hb13⟩; obtain ⟨s13, a13, l13, c13, t13, b13, k13, e13, rfl⟩ := hv13.form; have HV13 := Lib.hid hv13; clear hv13; obtain ⟨f0, f1, f2, f3, f4, f5, f6⟩ := D0.out u13 (by (repeat (first | with_reducible exact Grow.refl _ | with_reducible refine Grow.alloc ?_ _ | with_reducible refine Grow.drew ?_ | with_reducible refine Grow.drewN ?_ _ | (with_reducible refine Grow.setCell ?_ ?hp _; (case hp => (simp; try omega))) | with_reducible refine Grow.trans ?_ (by assumption))))))
      (try go_wp2_with fail)
      refine hK.out _ _ ?hSp3 ?_
      case hSp3 => ((try dsimp only); (repeat (first | with_reducible exact Grow.refl _ | with_reducible refine Grow.alloc ?_ _ | with_reducible refine Grow.drew ?_ | with_reducible refine Grow.drewN ?_ _ | (with_reducible refine Grow.setCell ?_ ?hp _; (case hp => (simp; try omega))) | with_reducible refine Grow.trans ?_ (by assumption))))
      clear hK K
      (try simp only [Act.put])
      refine held_quiet (v := ?vp4) rfl rfl (Or.inl ⟨by rfl, ?hyp4⟩) ?_
      case hyp4 => (intro u hu; go_simp; (try with_reducible rfl))
      (try simp only [Act.put])
      refine held_last rfl rfl (fun K hK => ?_)
      go_simp
      refine hK.out _ _ ?_
      clear hK K
      (try simp only [Act.put])
      refine held_done ?_
      have YI := Lib.hid (inc_wrap hj (by omega))
      obtain ⟨e8, e9⟩ := YI.out
      go_wp2_with fail
      clear e8 e9
      obtain ⟨hst1, hst2⟩ := HST.out u13 (by (repeat (first | with_reducible exact Grow.refl _ | with_reducible refine Grow.alloc ?_ _ | with_reducible refine Grow.drew ?_ | with_reducible refine Grow.drewN ?_ _ | (with_reducible refine Grow.setCell ?_ ?hp _; (case hp => (simp; try omega))) | with_reducible refine Grow.trans ?_ (by assumption)))) _ _ _ _ _ _ _ _ HV13.out
      go_roundg (prec - (j + 1))
      case measure => have := HGK.out; omega
      case rel =>
        refine ⟨j + 1, rfl, hj, Lib.hid rfl, Lib.hid (HB.out.trans hst2), Lib.hid (RowP.mono hst1 (Nat.le_refl _) ?_)⟩
        intro i x hi hx
        by_cases hij : i = j
        · subst hij; rw [if_pos rfl]; rw [if_pos (by omega)] at hx; rw [← hx, HZ.out]
        · rw [if_neg hij]
          by_cases h3 : i < j
          · rw [if_pos h3]; rw [if_pos (by omega)] at hx; exact hx
          · rw [if_neg (by omega)] at hx; cases hx
end Go.Proofs.YtbpkfcohbefphaaGreat
/- Walk: theta.Expansion. -/
namespace Go.Proofs.YtbpkfcohbefphaaGreat
open Go Go.RowKit

/-- What Check asks of a form beside ThH. -/
structure ThC (n : Nat) (f : Nat → Int) (M : Nat → Nat → Rat) : Prop where
  hsym : ∀ i k, i < n → k < n → f (i * n + k) = f (k * n + i)
  hev : ∀ i, i < n → Int.tmod (f (i * n + i)) 2 = 0
  hS : ∀ i j, j < i → i < n → M i j = M j i ∧ AddB (M i j) (-(M j i))
  hB : ∀ k, k < n → SigSB n k (sigM n k M)
set_option maxRecDepth 20000 in
set_option maxHeartbeats 8000000 in
theorem expansionT (n N B off c prec m : Nat) (tm : Int) (f : Nat → Int) (M : Nat → Nat → Rat) (v : Nat → Rat) (qf b q : Nat → Nat) (HH : ThH n N prec m tm f M v qf b q) (HC : ThC n f M) (w : World) (hA : IntQ w B off N f) :
    Calls Tryz.prog 6 #[.agg #[.int .i64 (n : Int), .slice (some ⟨B, off, none⟩) N c], .int .i64 (prec : Int)] w fun e w' =>
      ∃ B' c', e = .returned (.tuple #[.agg #[.int .i64 0, .slice (some ⟨B', 0, none⟩) prec c'], .int .i64 0]) ∧ RowQ w' B' 0 prec (fun j => ((((hist (fun t => (q t : Int)) (boxN b n) (j : Int) : Nat) : Int)) : Rat)) ∧ Grow w w' := by
  have CK := Lib.hid (fun (u : World) (hu : Grow w u) => checkT n N B off c f M HH.hN HH.hn0 HH.hn HH.hf HC.hsym HC.hev HH.hM HC.hS HC.hB u (hA.grow hu))
  have WT := Lib.hid (fun (u : World) (hu : Grow w u) => weightedT n N B off c prec m tm f M v qf b q HH u (hA.grow hu))
  clear hA HH HC
  obtain ⟨W1, hW1⟩ : ∃ W1 : World, W1 = w.alloc (.cells #[.int .i64 (n : Int), .slice (some ⟨B, off, none⟩) N c] 31) := ⟨_, rfl⟩
  obtain ⟨W2, hW2⟩ : ∃ W2 : World, W2 = W1.alloc (.cells #[.int .i64 0, .slice none 0 0] 25) := ⟨_, rfl⟩
  have hg2 : Grow w W2 := (ag hW1).trans (ag hW2)
  have K1 := Lib.hid (fun u (hu : Grow W2 u) => ak2 hW1 u ((ag hW2).trans hu))
  have K2 := Lib.hid (ak2 hW2)
  have hz1 : W1.heap.size = w.heap.size + 1 := by rw [hW1]; simp
  rw [hz1] at K2
  have HW1 := Lib.hid hW1
  have HW2 := Lib.hid hW2
  clear hW1 hW2
  go_enter Tryz.func6, Tryz.ntmps6
  go_upto_region 1 with fail
  rw [← HW1.out, ← HW2.out]
  obtain ⟨b0, b1, b2, b3⟩ := K1.out W2 (Grow.refl _)
  go_wp2_with (first
    | (go_at_call 27; (with_reducible refine (CK.out _ (by (repeat (first | with_reducible exact Grow.refl _ | with_reducible refine Grow.alloc ?_ _ | with_reducible refine Grow.drew ?_ | with_reducible refine Grow.drewN ?_ _ | (with_reducible refine Grow.setCell ?_ ?hp _; (case hp => (simp; try omega))) | with_reducible refine Grow.trans ?_ (by assumption))))).mono ?_); (rintro e u2 ⟨rfl, hb2⟩; obtain ⟨b0, b1, b2, b3⟩ := K1.out u2 (by (repeat (first | with_reducible exact Grow.refl _ | with_reducible refine Grow.alloc ?_ _ | with_reducible refine Grow.drew ?_ | with_reducible refine Grow.drewN ?_ _ | (with_reducible refine Grow.setCell ?_ ?hp _; (case hp => (simp; try omega))) | with_reducible refine Grow.trans ?_ (by assumption))))))
    | (go_at_call 28; (with_reducible refine (WT.out _ (by (repeat (first | with_reducible exact Grow.refl _ | with_reducible refine Grow.alloc ?_ _ | with_reducible refine Grow.drew ?_ | with_reducible refine Grow.drewN ?_ _ | (with_reducible refine Grow.setCell ?_ ?hp _; (case hp => (simp; try omega))) | with_reducible refine Grow.trans ?_ (by assumption))))).mono ?_); (rintro e u3 ⟨B3, c3, rfl, hr3, hb3, hB3⟩; have HR3 := Lib.hid hr3; clear hr3; obtain ⟨q0, q1, q2, q3⟩ := K2.out u3 (by (repeat (first | with_reducible exact Grow.refl _ | with_reducible refine Grow.alloc ?_ _ | with_reducible refine Grow.drew ?_ | with_reducible refine Grow.drewN ?_ _ | (with_reducible refine Grow.setCell ?_ ?hp _; (case hp => (simp; try omega))) | with_reducible refine Grow.trans ?_ (by assumption)))))))
  have hgw : Grow w u3 := hg2.trans (by (repeat (first | with_reducible exact Grow.refl _ | with_reducible refine Grow.alloc ?_ _ | with_reducible refine Grow.drew ?_ | with_reducible refine Grow.drewN ?_ _ | (with_reducible refine Grow.setCell ?_ ?hp _; (case hp => (simp; try omega))) | with_reducible refine Grow.trans ?_ (by assumption))))
  have h9 : w.heap.size + 1 < W2.heap.size := (K2.out W2 (Grow.refl _)).2.2.2
  have h8 : W2.heap.size ≤ u2.heap.size := (show Grow W2 u2 by (repeat (first | with_reducible exact Grow.refl _ | with_reducible refine Grow.alloc ?_ _ | with_reducible refine Grow.drew ?_ | with_reducible refine Grow.drewN ?_ _ | (with_reducible refine Grow.setCell ?_ ?hp _; (case hp => (simp; try omega))) | with_reducible refine Grow.trans ?_ (by assumption)))).size
  obtain ⟨hb, hgF⟩ := ser_cell (w := w) (by omega) q3 q0 q1 (fun x => by simp) (fun x => by simp) hgw (.int .i64 0) (.slice (some ⟨B3, 0, none⟩) prec c3) (fun x => by simp)
  exact bodyPost_ret (v := .tuple #[.agg #[.int .i64 0, .slice (some ⟨B3, 0, none⟩) prec c3], .int .i64 0]) (by rw [results_cell_tmp rfl]; go_simp) rfl ⟨B3, c3, rfl, RowP.but HR3.out (by omega) hb, hgF⟩
end Go.Proofs.YtbpkfcohbefphaaGreat
/- Plain law: bounds of the elimination and of the diagonal form, for two by two. -/
namespace Go.Proofs.YtbpkfcohbefphaaGreat

/-- A fraction with a small numerator and a small denominator. -/
def Sm (x : Rat) (a b : Nat) : Prop := x.num.natAbs ≤ a ∧ x.den ≤ b
theorem Sm.mono {x : Rat} {a b a' b' : Nat} (h : Sm x a b) (ha : a ≤ a') (hb : b ≤ b') : Sm x a' b' := ⟨Nat.le_trans h.1 ha, Nat.le_trans h.2 hb⟩
theorem sm_mk (p : Int) (q : Nat) (hq : 0 < q) : Sm (mkRat p q) p.natAbs q := by
  have hr := Rat.num_mkRat p q
  have hd := Rat.den_mkRat p q
  have hne : q ≠ 0 := by omega
  rw [if_neg hne] at hr hd
  constructor
  · rw [hr, Int.natAbs_ediv_of_dvd (Int.natAbs_dvd_natAbs.1 (by simpa using Nat.gcd_dvd_right _ _))]
    exact Nat.div_le_self _ _
  · rw [hd]
    exact Nat.div_le_self _ _
theorem sm_div (p : Int) (q : Nat) (hq : 0 < q) : Sm ((p : Rat) / (q : Rat)) p.natAbs q := by
  rw [← Rat.mkRat_eq_div]; exact sm_mk p q hq
theorem sm_int (z : Int) : Sm (z : Rat) z.natAbs 1 := ⟨by simp, by simp⟩
theorem Sm.neg {x : Rat} {a b : Nat} (h : Sm x a b) : Sm (-x) a b := ⟨by simpa using h.1, by simpa using h.2⟩
theorem Sm.mul {x y : Rat} {a b c d : Nat} (h : Sm x a b) (h' : Sm y c d) : Sm (x * y) (a * c) (b * d) := by
  rw [Rat.mul_def']
  refine (sm_mk _ _ (Nat.mul_pos x.den_pos y.den_pos)).mono ?_ (Nat.mul_le_mul h.2 h'.2)
  rw [Int.natAbs_mul]
  exact Nat.mul_le_mul h.1 h'.1
theorem Sm.add {x y : Rat} {a b c d : Nat} (h : Sm x a b) (h' : Sm y c d) : Sm (x + y) (a * d + c * b) (b * d) := by
  rw [Rat.add_def']
  refine (sm_mk _ _ (Nat.mul_pos x.den_pos y.den_pos)).mono ?_ (Nat.mul_le_mul h.2 h'.2)
  refine Nat.le_trans (Int.natAbs_add_le _ _) (Nat.add_le_add ?_ ?_)
  · rw [Int.natAbs_mul]; exact Nat.mul_le_mul h.1 (by simpa using h'.2)
  · rw [Int.natAbs_mul]; exact Nat.mul_le_mul h'.1 (by simpa using h.2)
theorem Sm.mulB {x y : Rat} {a b c d : Nat} (h : Sm x a b) (h' : Sm y c d) (h1 : a * c < 4294967296) (h2 : b * d < 4294967296) : MulB x y := by
  constructor
  · rw [Int.natAbs_mul]; exact Nat.lt_of_le_of_lt (Nat.mul_le_mul h.1 h'.1) h1
  · rw [Int.natAbs_mul]; exact Nat.lt_of_le_of_lt (Nat.mul_le_mul (by simpa using h.2) (by simpa using h'.2)) h2
theorem Sm.quoB {x y : Rat} {a b c d : Nat} (h : Sm x a b) (h' : Sm y c d) (h1 : a * d < 4294967296) (h2 : b * c < 4294967296) : QuoB x y := by
  constructor
  · rw [Int.natAbs_mul]; exact Nat.lt_of_le_of_lt (Nat.mul_le_mul h.1 (by simpa using h'.2)) h1
  · rw [Int.natAbs_mul]; exact Nat.lt_of_le_of_lt (Nat.mul_le_mul (by simpa using h.2) h'.1) h2
theorem Sm.addB {x y : Rat} {a b c d : Nat} (h : Sm x a b) (h' : Sm y c d) (h1 : a * d + c * b < 4294967296) (h2 : b * d < 4294967296) : AddB x y := by
  have e1 : (x.num * (y.den : Int)).natAbs ≤ a * d := by rw [Int.natAbs_mul]; exact Nat.mul_le_mul h.1 (by simpa using h'.2)
  have e2 : (y.num * (x.den : Int)).natAbs ≤ c * b := by rw [Int.natAbs_mul]; exact Nat.mul_le_mul h'.1 (by simpa using h.2)
  have e3 : ((x.den : Int) * (y.den : Int)).natAbs ≤ b * d := by rw [Int.natAbs_mul]; exact Nat.mul_le_mul (by simpa using h.2) (by simpa using h'.2)
  have e4 := Int.natAbs_add_le (x.num * (y.den : Int)) (y.num * (x.den : Int))
  exact ⟨by omega, by omega, by omega, by omega⟩
theorem Sm.of_eq {x : Rat} (p : Int) (q : Nat) (hq : 0 < q) (h : x = (p : Rat) / (q : Rat)) : Sm x p.natAbs q := by rw [h]; exact sm_div p q hq

section
variable {M : Nat → Nat → Rat} {p q r D : Int}
theorem piv2 {p D : Int} (hp : 0 < p) (hD0 : 0 < D) : (0 : Rat) < (D : Rat) / (p : Rat) :=
  by rw [Rat.div_def]; exact Rat.mul_pos (by exact_mod_cast hD0) (Rat.inv_pos.2 (by exact_mod_cast hp))
theorem diag2 (hp : 0 < p) (hD : D = p * r - q * q) : ((r : Rat) + -((q : Rat) / p) * q) + -((q : Rat) / p) * ((q : Rat) + -((q : Rat) / p) * p) = (D : Rat) / p := by
  have h1 : (p : Rat) ≠ 0 := by exact_mod_cast (show p ≠ 0 by omega)
  have h2 : (D : Rat) = p * r - q * q := by rw [hD]; push_cast; rfl
  grind
/-- Two by two: the first step of the diagonal form. -/
theorem sig2_0 (h00 : M 0 0 = p) (h01 : M 0 1 = q) (h10 : M 1 0 = q) (h11 : M 1 1 = r) (hp : 0 < p) (hp1 : p ≤ 120) (hq : q.natAbs ≤ 120) (hr : r.natAbs ≤ 120) : SigSB 2 0 M := by
  have s1 : Sm (M 1 0) 120 1 := by rw [h10]; exact (sm_int q).mono hq (Nat.le_refl _)
  have s0 : Sm (M 0 1) 120 1 := by rw [h01]; exact (sm_int q).mono hq (Nat.le_refl _)
  have s2 : Sm (M 0 0) 120 1 := by rw [h00]; exact (sm_int p).mono (by omega) (Nat.le_refl _)
  have s3 : Sm (M 1 1) 120 1 := by rw [h11]; exact (sm_int r).mono hr (Nat.le_refl _)
  have sf : Sm (-(M 1 0 / M 0 0)) 120 120 := by
    rw [h10, h00]
    refine Sm.neg ?_
    have h := sm_div q p.toNat (by omega)
    rw [show ((p.toNat : Nat) : Rat) = (p : Rat) by rw [← Rat.intCast_natCast, Int.toNat_of_nonneg (by omega)]] at h
    exact h.mono hq (by omega)
  refine ⟨by rw [h00]; exact_mod_cast hp, fun i h1 h2 _ => ?_⟩
  obtain rfl : i = 1 := by omega
  have e : sigJ 0 1 M = M := by simp [sigJ]
  rw [e]
  have a0 : Sm (sigA (-(M 1 0 / M 0 0)) 0 1 M 1 0) 28800 120 := by
    have := s1.add (sf.mul s2); simpa [sigA] using this
  have a1 : Sm (sigA (-(M 1 0 / M 0 0)) 0 1 M 1 1) 28800 120 := by
    have := s3.add (sf.mul s0); simpa [sigA] using this
  have b0 : Sm (sigA (-(M 1 0 / M 0 0)) 0 1 M 0 0) 120 1 := by simpa [sigA] using s2
  have b1 : Sm (sigA (-(M 1 0 / M 0 0)) 0 1 M 0 1) 120 1 := by simpa [sigA] using s0
  refine ⟨s1.quoB s2 (by omega) (by omega), fun c hc => ?_, fun c hc => ?_⟩
  · rcases (by omega : c = 0 ∨ c = 1) with rfl | rfl
    · exact ⟨sf.mulB s2 (by omega) (by omega), s1.addB (sf.mul s2) (by omega) (by omega)⟩
    · exact ⟨sf.mulB s0 (by omega) (by omega), s3.addB (sf.mul s0) (by omega) (by omega)⟩
  · rcases (by omega : c = 0 ∨ c = 1) with rfl | rfl
    · exact ⟨sf.mulB b0 (by omega) (by omega), b1.addB (sf.mul b0) (by omega) (by omega)⟩
    · exact ⟨sf.mulB a0 (by omega) (by omega), a1.addB (sf.mul a0) (by omega) (by omega)⟩
theorem sig2_1 (h00 : M 0 0 = p) (h01 : M 0 1 = q) (h10 : M 1 0 = q) (h11 : M 1 1 = r) (hp : 0 < p) (hD : D = p * r - q * q) (hD0 : 0 < D) : SigSB 2 1 (sigM 2 1 M) := by
  refine ⟨?_, fun i h1 h2 => by omega⟩
  have e : sigM 2 1 M = sigRow 0 1 M := by simp [sigM, sigJ]
  rw [e]
  by_cases hz : M 1 0 = 0
  · rw [sigRow_zero hz, h11]
    rw [h10] at hz
    have hq0 : q = 0 := by exact_mod_cast hz
    subst hq0
    have : 0 < r := by
      rcases Int.lt_or_le 0 r with h | h
      · exact h
      · have := Int.mul_nonpos_of_nonneg_of_nonpos (Int.le_of_lt hp) h
        omega
    exact_mod_cast this
  · rw [sigRow_pos hz]
    have h3 := diag2 (r := r) hp hD
    have h4 := piv2 hp hD0
    simp only [sigB, sigA, h00, h01, h10, h11, if_true]
    rw [h3]; exact h4

/-- Two by four: the matrix beside the unit. -/
structure Half (M : Nat → Nat → Rat) (p q r : Int) : Prop where
  h00 : M 0 0 = p
  h01 : M 0 1 = q
  h02 : M 0 2 = 1
  h03 : M 0 3 = 0
  h10 : M 1 0 = q
  h11 : M 1 1 = r
  h12 : M 1 2 = 0
  h13 : M 1 3 = 1
theorem nat_rat {p : Int} (hp : 0 < p) : ((p.toNat : Nat) : Rat) = (p : Rat) := by rw [← Rat.intCast_natCast, Int.toNat_of_nonneg (by omega)]
theorem sm_frac (a : Int) {b : Int} (hb : 0 < b) : Sm ((a : Rat) / (b : Rat)) a.natAbs b.toNat := by
  have h := sm_div a b.toNat (by omega)
  rwa [nat_rat hb] at h
theorem half_red0 (h : Half M p q r) (hp : 0 < p) (hp1 : p ≤ 120) (hq : q.natAbs ≤ 120) (hr : r.natAbs ≤ 120) : RedB 2 4 0 (redD 2 0 M) (redM 2 0 M) := by
  have hp0 : (p : Rat) ≠ 0 := by exact_mod_cast (show p ≠ 0 by omega)
  have sp : Sm (p : Rat) 120 1 := (sm_int p).mono (by omega) (Nat.le_refl _)
  have sq : Sm (q : Rat) 120 1 := (sm_int q).mono hq (Nat.le_refl _)
  have sr : Sm (r : Rat) 120 1 := (sm_int r).mono hr (Nat.le_refl _)
  have s1 : Sm (1 : Rat) 1 1 := by constructor <;> decide
  have s0 : Sm (0 : Rat) 0 1 := by constructor <;> decide
  have sqp : Sm ((q : Rat) / (p : Rat)) 120 120 := (sm_frac q hp).mono hq (by omega)
  have s1p : Sm ((1 : Rat) / (p : Rat)) 1 120 := by have := (sm_frac 1 hp).mono (Nat.le_refl _) (show p.toNat ≤ 120 by omega); simpa using this
  show RedB 2 4 0 1 M
  refine ⟨by rw [h.h00]; exact hp0, by rw [h.h00]; exact s1.mulB sp (by omega) (by omega), fun i _ hi hne => ?_, fun j hj hj0 hne i _ hi hi0 => ?_⟩
  · rw [h.h00]
    rcases (by omega : i = 0 ∨ i = 1 ∨ i = 2 ∨ i = 3) with rfl | rfl | rfl | rfl
    · rw [h.h00]; exact sp.quoB sp (by omega) (by omega)
    · rw [h.h01]; exact sq.quoB sp (by omega) (by omega)
    · rw [h.h02]; exact s1.quoB sp (by omega) (by omega)
    · exact absurd h.h03 hne
  · obtain rfl : j = 1 := by omega
    have e : elimP 0 M 0 = fun i => M 0 i / M 0 0 := by rw [elimP, upd_same]; funext i; rw [if_pos (Nat.zero_le _)]
    rw [e, h.h10]
    simp only [h.h00]
    rcases (by omega : i = 0 ∨ i = 1 ∨ i = 2 ∨ i = 3) with rfl | rfl | rfl | rfl
    · rw [h.h00, h.h10, show (p : Rat) / p = 1 by grind]
      exact ⟨sq.neg.mulB s1 (by omega) (by omega), sq.addB (sq.neg.mul s1) (by omega) (by omega)⟩
    · rw [h.h01, h.h11]
      exact ⟨sq.neg.mulB sqp (by omega) (by omega), sr.addB (sq.neg.mul sqp) (by omega) (by omega)⟩
    · rw [h.h02, h.h12]
      exact ⟨sq.neg.mulB s1p (by omega) (by omega), s0.addB (sq.neg.mul s1p) (by omega) (by omega)⟩
    · exfalso
      rw [e] at hi0
      exact hi0 (by show M 0 3 / M 0 0 = 0; rw [h.h03, h.h00]; grind)
/-- After the first column. -/
structure Half1 (M : Nat → Nat → Rat) (p q D : Int) : Prop where
  h01 : M 0 1 = (q : Rat) / p
  h02 : M 0 2 = 1 / (p : Rat)
  h03 : M 0 3 = 0
  h11 : M 1 1 = (D : Rat) / p
  h12 : M 1 2 = -((q : Rat) / p)
  h13 : M 1 3 = 1
theorem half1 (h : Half M p q r) (hp : 0 < p) (hD : D = p * r - q * q) : Half1 (redM 2 1 M) p q D := by
  have hp0 : (p : Rat) ≠ 0 := by exact_mod_cast (show p ≠ 0 by omega)
  have h2 : (D : Rat) = p * r - q * q := by rw [hD]; push_cast; rfl
  have e0 : ∀ i, redM 2 1 M 0 i = M 0 i / M 0 0 := fun i => by simp [redM, elim, elimJ, elimP, upd]
  have e1 : ∀ i, redM 2 1 M 1 i = M 1 i + -(M 1 0) * (M 0 i / M 0 0) := fun i => by simp [redM, elim, elimJ, elimP, upd]
  refine ⟨?_, ?_, ?_, ?_, ?_, ?_⟩
  · rw [e0, h.h01, h.h00]
  · rw [e0, h.h02, h.h00]
  · rw [e0, h.h03, h.h00]; grind
  · rw [e1, h.h11, h.h10, h.h01, h.h00]; grind
  · rw [e1, h.h12, h.h10, h.h02, h.h00]; grind
  · rw [e1, h.h13, h.h10, h.h03, h.h00]; grind
theorem half_red1 (h : Half M p q r) (hp : 0 < p) (hD : D = p * r - q * q) (hD0 : 0 < D) (hp1 : p ≤ 120) (hq : q.natAbs ≤ 120) (hr : r.natAbs ≤ 120) : RedB 2 4 1 (redD 2 1 M) (redM 2 1 M) := by
  have hp0 : (p : Rat) ≠ 0 := by exact_mod_cast (show p ≠ 0 by omega)
  have hD0' : (D : Rat) ≠ 0 := by exact_mod_cast (show D ≠ 0 by omega)
  have h1 := half1 h hp hD
  have hDb : D ≤ 14400 := by
    have hr' : r ≤ 120 := by omega
    have h3 : p * r ≤ 120 * 120 := Int.le_trans (Int.mul_le_mul_of_nonneg_left hr' (by omega)) (Int.mul_le_mul_of_nonneg_right hp1 (by omega))
    have h5 : 0 ≤ q * q := by
      rcases Int.le_total 0 q with h | h
      · exact Int.mul_nonneg h h
      · have := Int.mul_nonneg (a := -q) (b := -q) (by omega) (by omega)
        rwa [Int.neg_mul_neg] at this
    omega
  have hpD : 0 < p * D := Int.mul_pos hp hD0
  have hpDb : p * D ≤ 120 * 14400 := Int.le_trans (Int.mul_le_mul_of_nonneg_left hDb (by omega)) (Int.mul_le_mul_of_nonneg_right hp1 (by omega))
  have hqq : (q * q).natAbs ≤ 14400 := by rw [Int.natAbs_mul]; exact Nat.mul_le_mul hq hq
  have sp : Sm (p : Rat) 120 1 := (sm_int p).mono (by omega) (Nat.le_refl _)
  have s1 : Sm (1 : Rat) 1 1 := by constructor <;> decide
  have s0 : Sm (0 : Rat) 0 1 := by constructor <;> decide
  have sqp : Sm ((q : Rat) / (p : Rat)) 120 120 := (sm_frac q hp).mono hq (by omega)
  have s1p : Sm ((1 : Rat) / (p : Rat)) 1 120 := by have := (sm_frac 1 hp).mono (Nat.le_refl _) (show p.toNat ≤ 120 by omega); simpa using this
  have sDp : Sm ((D : Rat) / (p : Rat)) 14400 120 := (sm_frac D hp).mono (by omega) (by omega)
  have sqD : Sm (-((q : Rat) / (D : Rat))) 120 14400 := ((sm_frac q hD0).mono hq (by omega)).neg
  have spD : Sm ((p : Rat) / (D : Rat)) 120 14400 := (sm_frac p hD0).mono (by omega) (by omega)
  have sqqpD : Sm (((q * q : Int) : Rat) / ((p * D : Int) : Rat)) 14400 1728000 := (sm_frac (q * q) hpD).mono hqq (by omega)
  have d1 : redD 2 1 M = (p : Rat) := by
    show redD 2 0 M * redM 2 0 M 0 0 = p
    show (1 : Rat) * M 0 0 = p
    rw [h.h00, Rat.one_mul]
  rw [d1]
  refine ⟨?_, ?_, fun i hi1 hi hne => ?_, fun j hj hj0 hne i hi1 hi hi0 => ?_⟩
  · rw [h1.h11]; grind
  · rw [h1.h11]; exact sp.mulB sDp (by omega) (by omega)
  · rw [h1.h11]
    rcases (by omega : i = 1 ∨ i = 2 ∨ i = 3) with rfl | rfl | rfl
    · rw [h1.h11]; exact sDp.quoB sDp (by omega) (by omega)
    · rw [h1.h12]; exact sqp.neg.quoB sDp (by omega) (by omega)
    · rw [h1.h13]; exact s1.quoB sDp (by omega) (by omega)
  · obtain rfl : j = 0 := by omega
    obtain ⟨N, hN⟩ : ∃ N, redM 2 1 M = N := ⟨_, rfl⟩
    rw [hN] at h1 hi0 ⊢
    have e : ∀ i, 1 ≤ i → elimP 1 N 1 i = N 1 i / N 1 1 := fun i hi => by rw [elimP, upd_same, if_pos hi]
    rw [e i hi1, h1.h01, h1.h11]
    rcases (by omega : i = 1 ∨ i = 2 ∨ i = 3) with rfl | rfl | rfl
    · rw [h1.h11, h1.h01, show (D : Rat) / p / (D / p) = 1 by grind]
      exact ⟨sqp.neg.mulB s1 (by omega) (by omega), sqp.addB (sqp.neg.mul s1) (by omega) (by omega)⟩
    · rw [h1.h12, h1.h02, show -((q : Rat) / p) / (D / p) = -((q : Rat) / D) by grind]
      refine ⟨sqp.neg.mulB sqD (by omega) (by omega), ?_⟩
      rw [show -((q : Rat) / p) * -((q : Rat) / D) = ((q * q : Int) : Rat) / ((p * D : Int) : Rat) by push_cast; grind]
      exact s1p.addB sqqpD (by omega) (by omega)
    · rw [h1.h13, h1.h03, show (1 : Rat) / (D / p) = (p : Rat) / D by grind]
      exact ⟨sqp.neg.mulB spD (by omega) (by omega), s0.addB (sqp.neg.mul spD) (by omega) (by omega)⟩
/-- The inverse's diagonal. -/
theorem half_inv (h : Half M p q r) (hp : 0 < p) (hD : D = p * r - q * q) (hD0 : 0 < D) : redM 2 2 M 0 2 = (r : Rat) / D ∧ redM 2 2 M 1 3 = (p : Rat) / D := by
  have hp0 : (p : Rat) ≠ 0 := by exact_mod_cast (show p ≠ 0 by omega)
  have hD0' : (D : Rat) ≠ 0 := by exact_mod_cast (show D ≠ 0 by omega)
  have h2 : (D : Rat) = p * r - q * q := by rw [hD]; push_cast; rfl
  have h1 := half1 h hp hD
  have e : redM 2 2 M = elim 2 1 (redM 2 1 M) := rfl
  rw [e]
  obtain ⟨N, hN⟩ : ∃ N, redM 2 1 M = N := ⟨_, rfl⟩
  rw [hN] at h1 ⊢
  constructor
  · have e0 : elim 2 1 N 0 2 = N 0 2 + -(N 0 1) * (N 1 2 / N 1 1) := by simp [elim, elimJ, elimP, upd]
    rw [e0, h1.h02, h1.h01, h1.h12, h1.h11]
    grind
  · have e1 : elim 2 1 N 1 3 = N 1 3 / N 1 1 := by simp [elim, elimJ, elimP, upd]
    rw [e1, h1.h13, h1.h11]
    grind
end
end Go.Proofs.YtbpkfcohbefphaaGreat
/- Plain law: a binary form meets what theta.Expansion asks, and what it counts. -/
namespace Go.Proofs.YtbpkfcohbefphaaGreat
open Go Go.RowKit

theorem floor_frac (a : Int) {b : Int} (hb : 0 < b) : ((a : Rat) / (b : Rat)).num / (((a : Rat) / (b : Rat)).den : Int) = a / b := by
  rw [← Rat.divInt_eq_div]
  obtain ⟨h1, h2⟩ := divInt_low (n := a) hb
  rw [h1, h2]
  obtain ⟨g, hg⟩ : ∃ g : Int, (Int.gcd a b : Int) = g := ⟨_, rfl⟩
  have hg0 : 0 < g := by rw [← hg]; have := Int.gcd_pos_of_ne_zero_right a (show b ≠ 0 by omega); omega
  obtain ⟨a', ha⟩ : g ∣ a := by rw [← hg]; exact Int.gcd_dvd_left _ _
  obtain ⟨b', hb'⟩ : g ∣ b := by rw [← hg]; exact Int.gcd_dvd_right _ _
  rw [hg, ha, hb', Int.mul_ediv_cancel_left _ (by omega), Int.mul_ediv_cancel_left _ (by omega), Int.mul_ediv_mul_of_pos _ _ hg0]
def bnF (A B C : Int) : Nat → Int := fun k => if k = 0 then 2 * A else if k = 3 then 2 * C else B
def bnM (A B C : Int) : Nat → Nat → Rat := fun i j => (bnF A B C (i * 2 + j) : Rat)
def bnV (A C D : Int) : Nat → Rat := fun i => if i = 0 then ((2 * C : Int) : Rat) / (D : Rat) else ((2 * A : Int) : Rat) / (D : Rat)
def bnQ (A C D : Int) (m : Nat) : Nat → Nat := fun i => if i = 0 then (4 * (m : Int) * C / D).toNat else (4 * (m : Int) * A / D).toNat
def bnB (A C D : Int) (m : Nat) : Nat → Nat := fun i => sqN (bnQ A C D m i)
def bnX (A B C D : Int) (m : Nat) : Nat → Nat := fun t => (fq A B C (dig (bnB A C D m) 2 t 0, dig (bnB A C D m) 2 t 1)).toNat
theorem bn_half {A B C : Int} : Half (besU 2 (bnM A B C)) (2 * A) B (2 * C) := by
  constructor <;> simp [besU, bnM, bnF]
theorem bnQ_le {A B C D : Int} (h : QI A B C D) {m : Nat} (hm : m ≤ 59) (i : Nat) : bnQ A C D m i ≤ 14160 := by
  have hh : ∀ X : Int, 0 < X → X ≤ 60 → (4 * (m : Int) * X / D).toNat ≤ 14160 := by
    intro X h0 h1
    have h2 : 4 * (m : Int) * X ≤ 14160 := by
      have h3 : (m : Int) * X ≤ 59 * 60 := Int.mul_le_mul (by omega) h1 (by omega) (by omega)
      rw [Int.mul_assoc]; omega
    have h3 : 4 * (m : Int) * X / D ≤ 14160 := by
      have h5 : 0 ≤ 4 * (m : Int) * X := Int.mul_nonneg (by omega) (by omega)
      exact Int.le_trans (Int.ediv_le_self _ h5) h2
    omega
  unfold bnQ
  split
  · exact hh C h.c0 h.c1
  · exact hh A h.a0 h.a1
theorem bnB_le {A B C D : Int} (h : QI A B C D) {m : Nat} (hm : m ≤ 59) (i : Nat) : bnB A C D m i ≤ 118 := by
  have h1 := bnQ_le h hm i
  exact sqN_le (by omega) (by omega)
theorem bnQ_box {A B C D : Int} (h : QI A B C D) {m : Nat} (hm : m ≤ 59) : 4 * (m : Int) * C / (4 * A * C - B * B) < ((bnB A C D m 0 : Int) + 1) * ((bnB A C D m 0 : Int) + 1) ∧ 4 * (m : Int) * A / (4 * A * C - B * B) < ((bnB A C D m 1 : Int) + 1) * ((bnB A C D m 1 : Int) + 1) := by
  rw [h.d]
  have hh : ∀ (i : Nat) (X : Int), bnQ A C D m i = (X).toNat → X < ((bnB A C D m i : Int) + 1) * ((bnB A C D m i : Int) + 1) := by
    intro i X hX
    have h1 := (sqN_spec (n := bnQ A C D m i) (by have := bnQ_le h hm i; omega)).2
    have h2 : ((bnQ A C D m i : Nat) : Int) < (((bnB A C D m i + 1) * (bnB A C D m i + 1) : Nat) : Int) := by exact_mod_cast h1
    rw [Int.natCast_mul, Int.natCast_add, hX] at h2
    have h3 : X ≤ (X.toNat : Int) := by omega
    exact Int.lt_of_le_of_lt h3 (by simpa using h2)
  exact ⟨hh 0 _ (by simp [bnQ]), hh 1 _ (by simp [bnQ])⟩
theorem bn_pos {A B C D : Int} (h : QI A B C D) : 0 < 4 * A * C - B * B := by rw [h.d]; exact h.d0
theorem bn_cnt {A B C D : Int} (h : QI A B C D) {m : Nat} (hm : m ≤ 59) (j : Nat) (hj : j ≤ m) : Cnt A B C j (hist (fun t => (bnX A B C D m t : Int)) (boxN (bnB A C D m) 2) (j : Int)) := by
  obtain ⟨h0, h1⟩ := bnQ_box h hm
  have h2 := cnt_box (m := m) h.a0 h.c0 (bn_pos h) h0 h1 (j : Int) (by omega)
  rwa [hist_cong _ (fun t => (bnX A B C D m t : Int)) _ _ (fun t _ => by
    have := fq_nonneg h.a0 (bn_pos h) (dig (bnB A C D m) 2 t 0, dig (bnB A C D m) 2 t 1)
    show _ = (((fq A B C (dig (bnB A C D m) 2 t 0, dig (bnB A C D m) 2 t 1)).toNat : Nat) : Int)
    omega)] at h2
theorem bn_thh {A B C D : Int} (h : QI A B C D) {prec m : Nat} (hp : prec ≤ 60) (hm : m = prec - 1) : ThH 2 4 prec m (2 * (m : Int)) (bnF A B C) (bnM A B C) (bnV A C D) (bnQ A C D m) (bnB A C D m) (bnX A B C D m) := by
  have hp0 : 0 < 2 * A := by have := h.a0; omega
  have hD : D = 2 * A * (2 * C) - B * B := by rw [← h.d]; grind
  have hD0 := h.d0
  have hm59 : m ≤ 59 := by omega
  have a1 := h.a1
  have b1 := h.b1
  have c0 := h.c0
  have c1 := h.c1
  have hdl := h.dle
  have hH : Half (besU 2 (bnM A B C)) (2 * A) B (2 * C) := bn_half
  have hfl : ∀ X : Int, 0 < X → X ≤ 60 → (((2 * (m : Int) : Int) : Rat) * (((2 * X : Int) : Rat) / (D : Rat))).num / ((((2 * (m : Int) : Int) : Rat) * (((2 * X : Int) : Rat) / (D : Rat))).den : Int) = ((4 * (m : Int) * X / D).toNat : Int) := by
    intro X hX _
    have e : ((2 * (m : Int) : Int) : Rat) * (((2 * X : Int) : Rat) / (D : Rat)) = ((4 * (m : Int) * X : Int) : Rat) / (D : Rat) := by
      rw [Rat.div_def, Rat.div_def, ← Rat.mul_assoc, ← Rat.intCast_mul]
      congr 2; grind
    rw [e, floor_frac _ hD0]
    have : 0 ≤ 4 * (m : Int) * X / D := Int.ediv_nonneg (Int.mul_nonneg (by omega) (by omega)) (by omega)
    omega
  have hML : ∀ X : Int, 0 < X → X ≤ 60 → MulB ((2 * (m : Int) : Int) : Rat) (((2 * X : Int) : Rat) / (D : Rat)) := by
    intro X hX hX2
    exact (Sm.mono (sm_int (2 * (m : Int))) (show (2 * (m : Int)).natAbs ≤ 118 by omega) (Nat.le_refl _)).mulB (Sm.mono (sm_frac (2 * X) hD0) (show (2 * X).natAbs ≤ 120 by omega) (show D.toNat ≤ 14400 by omega)) (by omega) (by omega)
  refine ⟨rfl, by omega, by omega, ?_, fun i j => rfl, ?_, by omega, hm, rfl, ?_, ?_, ?_, fun i hi => rfl, ?_, ?_, ?_⟩
  · intro i _
    unfold bnF
    split
    · omega
    · split <;> omega
  · intro c hc
    rcases (by omega : c = 0 ∨ c = 1) with rfl | rfl
    · exact half_red0 hH hp0 (by omega) (by omega) (by omega)
    · exact half_red1 hH hp0 hD hD0 (by omega) (by omega) (by omega)
  · intro i hi
    have hv := half_inv hH hp0 hD hD0
    rcases (by omega : i = 0 ∨ i = 1) with rfl | rfl
    · exact hv.1
    · exact hv.2
  · intro i hi
    rcases (by omega : i = 0 ∨ i = 1) with rfl | rfl
    · exact hML C c0 c1
    · exact hML A h.a0 a1
  · intro i hi
    refine ⟨?_, by have := bnQ_le h hm59 i; omega⟩
    rcases (by omega : i = 0 ∨ i = 1) with rfl | rfl
    · exact hfl C c0 c1
    · exact hfl A h.a0 a1
  · show 1 * (2 * bnB A C D m 0 + 1) * (2 * bnB A C D m 1 + 1) ≤ 1048576
    have h0 := bnB_le h hm59 0
    have h1 := bnB_le h hm59 1
    exact Nat.le_trans (Nat.mul_le_mul (show 1 * (2 * bnB A C D m 0 + 1) ≤ 237 by omega) (show 2 * bnB A C D m 1 + 1 ≤ 237 by omega)) (by omega)
  · intro t _
    have h1 := fq_nonneg h.a0 (bn_pos h) (dig (bnB A C D m) 2 t 0, dig (bnB A C D m) 2 t 1)
    have h2 : ((bnX A B C D m t : Nat) : Int) = fq A B C (dig (bnB A C D m) 2 t 0, dig (bnB A C D m) 2 t 1) := by unfold bnX; omega
    rw [h2]
    generalize dig (bnB A C D m) 2 t = x
    simp only [ssN, psN, fq, bnF]
    simp
    grind
  · intro _
    obtain ⟨l, -, hl, hm⟩ := bn_cnt h hm59 0 (Nat.zero_le _)
    have h0 : ((0 : Int), (0 : Int)) ∈ l := (hm _).2 (by simp [fq])
    have h1 := List.length_pos_of_mem h0
    rw [hl] at h1
    exact h1
theorem bn_thc {A B C D : Int} (h : QI A B C D) : ThC 2 (bnF A B C) (bnM A B C) := by
  have hp0 : 0 < 2 * A := by have := h.a0; omega
  have hD : D = 2 * A * (2 * C) - B * B := by rw [← h.d]; grind
  have a1 := h.a1
  have b1 := h.b1
  have c0 := h.c0
  have c1 := h.c1
  refine ⟨?_, ?_, ?_, ?_⟩
  · intro i k hi hk
    rcases (by omega : i = 0 ∨ i = 1) with rfl | rfl <;> rcases (by omega : k = 0 ∨ k = 1) with rfl | rfl <;> rfl
  · intro i hi
    rcases (by omega : i = 0 ∨ i = 1) with rfl | rfl
    · show Int.tmod (2 * A) 2 = 0; simp
    · show Int.tmod (2 * C) 2 = 0; simp
  · intro i j hj hi
    obtain rfl : i = 1 := by omega
    obtain rfl : j = 0 := by omega
    refine ⟨rfl, ?_⟩
    have e1 : bnM A B C 1 0 = (B : Rat) := rfl
    have e2 : bnM A B C 0 1 = (B : Rat) := rfl
    rw [e1]
    exact (Sm.mono (sm_int B) b1 (Nat.le_refl _)).addB (Sm.mono (sm_int B) b1 (Nat.le_refl _)).neg (by omega) (by omega)
  · intro k hk
    rcases (by omega : k = 0 ∨ k = 1) with rfl | rfl
    · exact sig2_0 (M := bnM A B C) (p := 2 * A) (q := B) (r := 2 * C) (by simp [bnM, bnF]) (by simp [bnM, bnF]) (by simp [bnM, bnF]) (by simp [bnM, bnF]) hp0 (by omega) (by omega) (by omega)
    · exact sig2_1 (M := bnM A B C) (p := 2 * A) (q := B) (r := 2 * C) (by simp [bnM, bnF]) (by simp [bnM, bnF]) (by simp [bnM, bnF]) (by simp [bnM, bnF]) hp0 hD h.d0
end Go.Proofs.YtbpkfcohbefphaaGreat
/- Walks of the statements' helpers: equal integers and fractions. -/
namespace Go.Proofs.YtbpkfcohbefphaaGreat
open Go Go.RowKit

set_option maxRecDepth 20000 in
set_option maxHeartbeats 8000000 in
theorem sameIntV (z : Int) (v1 v2 : Value) (w : World) (h1 : IntR w v1 z) (h2 : IntR w v2 z) :
    Calls Tryz.prog 40 #[v1, v2] w fun e w' => e = .returned (.bool true) ∧ Grow w w' := by
  obtain ⟨m1, rfl, h1⟩ := h1
  obtain ⟨m2, rfl, h2⟩ := h2
  generalize sgB z = s
  generalize z.natAbs = n at h1 h2
  rcases h1 with ⟨p0, a1, c1, rfl⟩ | ⟨p0, p1, b1, o1, c1, rfl, k1, q1, d1⟩
  · rcases h2 with ⟨-, a2, c2, rfl⟩ | ⟨p2, -⟩
    · go_enter Tryz.func40, Tryz.ntmps40
      go_wp2_with fail
      go_loopg [5] 0 (fun gk t5 wr => t5 = .int .i64 0 ∧ Hid (Grow w wr) ∧ wr.cell? ⟨w.heap.size, 0, none⟩ = some (.bool s) ∧ wr.cell? ⟨w.heap.size, 1, none⟩ = some (.slice a1 0 c1))
      case atStart =>
        refine ⟨rfl, Lib.hid (by (repeat (first | with_reducible exact Grow.refl _ | with_reducible refine Grow.alloc ?_ _ | with_reducible refine Grow.drew ?_ | with_reducible refine Grow.drewN ?_ _ | (with_reducible refine Grow.setCell ?_ ?hp _; (case hp => (simp; try omega))) | with_reducible refine Grow.trans ?_ (by assumption)))), by go_simp, by go_simp⟩
      case round =>
        obtain ⟨rfl, HG, x0, x1⟩ := hrel
        go_wp2_with fail
        go_ret
        exact ⟨rfl, HG.out⟩
    · omega
  · rcases h2 with ⟨p2, -⟩ | ⟨-, -, b2, o2, c2, rfl, k2, q2, d2⟩
    · omega
    · obtain ⟨W1, hW1⟩ : ∃ W1 : World, W1 = w.alloc (.cells #[.bool s, .slice (some ⟨b1, o1, none⟩) 1 c1] 34) := ⟨_, rfl⟩
      obtain ⟨W2, hW2⟩ : ∃ W2 : World, W2 = W1.alloc (.cells #[.bool s, .slice (some ⟨b2, o2, none⟩) 1 c2] 34) := ⟨_, rfl⟩
      have hg2 : Grow w W2 := (ag hW1).trans (ag hW2)
      have K1 := Lib.hid (fun u (hu : Grow W2 u) => ak2 hW1 u ((ag hW2).trans hu))
      have hz1 : W1.heap.size = w.heap.size + 1 := by rw [hW1]; simp
      have K2 := Lib.hid (ak2 hW2)
      rw [hz1] at K2
      have D1 := Lib.hid (fun u (hu : Grow W2 u) => ((hg2.trans hu).cells _ _ q1).trans d1)
      have D2 := Lib.hid (fun u (hu : Grow W2 u) => ((hg2.trans hu).cells _ _ q2).trans d2)
      have HW1 := Lib.hid hW1
      have HW2 := Lib.hid hW2
      have HG2 := Lib.hid hg2
      clear hW1 hW2 hg2 d1 d2 hz1
      go_enter Tryz.func40, Tryz.ntmps40
      go_upto_region 1 with fail
      rw [← HW1.out, ← HW2.out]
      obtain ⟨e0, e1, e2, e3⟩ := K1.out W2 (Grow.refl _)
      obtain ⟨f0, f1, f2, f3⟩ := K2.out W2 (Grow.refl _)
      go_wp2_with fail
      clear e0 e1 e2 e3 f0 f1 f2 f3
      go_loopg [5] 1 (fun gk t5 wr => ∃ j : Nat, t5 = .int .i64 (j : Int) ∧ j ≤ 1 ∧ Hid (gk = 1 - j) ∧ Hid (Grow W2 wr))
      case atStart => exact ⟨0, rfl, by omega, Lib.hid rfl, Lib.hid (by (repeat (first | with_reducible exact Grow.refl _ | with_reducible refine Grow.alloc ?_ _ | with_reducible refine Grow.drew ?_ | with_reducible refine Grow.drewN ?_ _ | (with_reducible refine Grow.setCell ?_ ?hp _; (case hp => (simp; try omega))) | with_reducible refine Grow.trans ?_ (by assumption))))⟩
      case round =>
        obtain ⟨j, rfl, hj, HGK, HG⟩ := hrel
        obtain ⟨e0, e1, e2, e3⟩ := K1.out wr HG.out
        obtain ⟨f0, f1, f2, f3⟩ := K2.out wr HG.out
        have d1 := D1.out wr HG.out
        have d2 := D2.out wr HG.out
        rcases (by omega : j = 0 ∨ j = 1) with rfl | rfl
        · go_upto_region 6 with fail
          go_quiet (fail)
          go_wp2_with fail
          go_roundg 0
          case measure => have := HGK.out; omega
          case rel => exact ⟨1, rfl, by omega, Lib.hid rfl, Lib.hid (HG.out.trans (by (repeat (first | with_reducible exact Grow.refl _ | with_reducible refine Grow.alloc ?_ _ | with_reducible refine Grow.drew ?_ | with_reducible refine Grow.drewN ?_ _ | (with_reducible refine Grow.setCell ?_ ?hp _; (case hp => (simp; try omega))) | with_reducible refine Grow.trans ?_ (by assumption)))))⟩
        · go_wp2_with fail
          go_ret
          exact ⟨rfl, HG2.out.trans (HG.out.trans (by (repeat (first | with_reducible exact Grow.refl _ | with_reducible refine Grow.alloc ?_ _ | with_reducible refine Grow.drew ?_ | with_reducible refine Grow.drewN ?_ _ | (with_reducible refine Grow.setCell ?_ ?hp _; (case hp => (simp; try omega))) | with_reducible refine Grow.trans ?_ (by assumption)))))⟩
set_option maxRecDepth 20000 in
set_option maxHeartbeats 8000000 in
theorem sameRatQ (x : Rat) (v1 v2 : Value) (w : World) (h1 : RatR w v1 x) (h2 : RatR w v2 x) :
    Calls Tryz.prog 12 #[v1, v2] w fun e w' => e = .returned (.bool true) ∧ Grow w w' := by
  obtain ⟨s1, a1, l1, c1, t1, b1, k1, e1, rfl⟩ := h1.form
  obtain ⟨s2, a2, l2, c2, t2, b2, k2, e2, rfl⟩ := h2.form
  have SN := Lib.hid (fun u (hu : Grow w u) => sameIntV _ _ _ u (h1.num.grow hu) (h2.num.grow hu))
  have SD := Lib.hid (fun u (hu : Grow w u) => sameIntV _ _ _ u (h1.den.grow hu) (h2.den.grow hu))
  clear h1 h2
  obtain ⟨W1, hW1⟩ : ∃ W1 : World, W1 = w.alloc (.cells #[.bool s1, .slice a1 l1 c1, .bool t1, .slice b1 k1 e1] 36) := ⟨_, rfl⟩
  obtain ⟨W2, hW2⟩ : ∃ W2 : World, W2 = W1.alloc (.cells #[.bool s2, .slice a2 l2 c2, .bool t2, .slice b2 k2 e2] 36) := ⟨_, rfl⟩
  have hg2 : Grow w W2 := (ag hW1).trans (ag hW2)
  have K1 := Lib.hid (fun u (hu : Grow W2 u) => ak4 hW1 u ((ag hW2).trans hu))
  have hz1 : W1.heap.size = w.heap.size + 1 := by rw [hW1]; simp
  have K2 := Lib.hid (ak4 hW2)
  rw [hz1] at K2
  have HW1 := Lib.hid hW1
  have HW2 := Lib.hid hW2
  clear hW1 hW2 hz1
  go_enter Tryz.func12, Tryz.ntmps12
  go_upto_region 1 with fail
  rw [← HW1.out, ← HW2.out]
  obtain ⟨x0, x1, x2, x3, x4, x5⟩ := K1.out W2 (Grow.refl _)
  obtain ⟨y0, y1, y2, y3, y4, y5⟩ := K2.out W2 (Grow.refl _)
  go_wp2_with (first
    | (go_at_call 40; (with_reducible refine (SN.out _ (by (repeat (first | with_reducible exact Grow.refl _ | with_reducible refine Grow.alloc ?_ _ | with_reducible refine Grow.drew ?_ | with_reducible refine Grow.drewN ?_ _ | (with_reducible refine Grow.setCell ?_ ?hp _; (case hp => (simp; try omega))) | with_reducible refine Grow.trans ?_ (by assumption))))).mono ?_); (rintro e u1 ⟨rfl, hb1⟩; obtain ⟨x0, x1, x2, x3, x4, x5⟩ := K1.out u1 (by (repeat (first | with_reducible exact Grow.refl _ | with_reducible refine Grow.alloc ?_ _ | with_reducible refine Grow.drew ?_ | with_reducible refine Grow.drewN ?_ _ | (with_reducible refine Grow.setCell ?_ ?hp _; (case hp => (simp; try omega))) | with_reducible refine Grow.trans ?_ (by assumption)))); obtain ⟨y0, y1, y2, y3, y4, y5⟩ := K2.out u1 (by (repeat (first | with_reducible exact Grow.refl _ | with_reducible refine Grow.alloc ?_ _ | with_reducible refine Grow.drew ?_ | with_reducible refine Grow.drewN ?_ _ | (with_reducible refine Grow.setCell ?_ ?hp _; (case hp => (simp; try omega))) | with_reducible refine Grow.trans ?_ (by assumption))))))
    | (go_at_call 40; (with_reducible refine (SD.out _ (by (repeat (first | with_reducible exact Grow.refl _ | with_reducible refine Grow.alloc ?_ _ | with_reducible refine Grow.drew ?_ | with_reducible refine Grow.drewN ?_ _ | (with_reducible refine Grow.setCell ?_ ?hp _; (case hp => (simp; try omega))) | with_reducible refine Grow.trans ?_ (by assumption))))).mono ?_); (rintro e u3 ⟨rfl, hb3⟩)))
  go_ret
  exact ⟨rfl, by (repeat (first | with_reducible exact Grow.refl _ | with_reducible refine Grow.alloc ?_ _ | with_reducible refine Grow.drew ?_ | with_reducible refine Grow.drewN ?_ _ | (with_reducible refine Grow.setCell ?_ ?hp _; (case hp => (simp; try omega))) | with_reducible refine Grow.trans ?_ (by assumption)))⟩
end Go.Proofs.YtbpkfcohbefphaaGreat
