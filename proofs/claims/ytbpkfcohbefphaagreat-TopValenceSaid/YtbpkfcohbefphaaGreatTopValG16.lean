/- Lemmas, plain laws and walks that the statement LwValence leans on (texts PrB, VaA, VaT), conditions as each theorem says. -/
import Derived.Test.YtbpkfcohbefphaaGreatTopValG14
import Derived.Test.YtbpkfcohbefphaaGreatTopValG15

namespace Go.Proofs.YtbpkfcohbefphaaGreat
open Go Go.RowKit
set_option maxRecDepth 20000 in
set_option maxHeartbeats 8000000 in
theorem insideL (w : World) : Calls Tryz.prog 79 #[.int .i64 4] w fun e w' => e = .returned (.bool true) ∧ w = w' := by
  go_enter Tryz.func79, Tryz.ntmps79
  go_wp2_with fail
  go_ret
  exact ⟨rfl, rfl⟩
set_option maxRecDepth 20000 in
set_option maxHeartbeats 8000000 in
theorem deltaQ (w : World) : Calls Tryz.prog 43 #[.int .i64 4] w fun e w' =>
    ∃ B' c', e = .returned (.tuple #[.agg #[.int .i64 1, .slice (some ⟨B', 0, none⟩) 3 c'], .int .i64 0]) ∧ RowQ w' B' 0 3 cf3 ∧ Grow w w' := by
  obtain ⟨ir, hir, irz0, irz1, irz2⟩ := info_parts infoRat
  have IN := Lib.hid (fun u => insideL u)
  have OF := Lib.hid (fun u => ofQ 24 (by decide) u)
  have PR : Hid (∀ (g : Nat) (u : World), RowQ u g 0 2 (fun _ => ((24 : Int) : Rat)) → Calls Tryz.prog 81 #[.int .i64 1, .slice (some ⟨g, 0, none⟩) 2 2] u fun e w' =>
      ∃ B' c', e = .returned (.tuple #[.agg #[.int .i64 1, .slice (some ⟨B', 0, none⟩) 3 c'], .int .i64 0]) ∧ RowQ w' B' 0 3 cf3 ∧ Grow u w') := Lib.hid (fun g u h => prodQ 2 _ cf3 prH24 g 2 u h)
  obtain ⟨W1, hW1⟩ : ∃ W1 : World, W1 = w.alloc (.cells #[.int .i64 0, .slice none 0 0] 25) := ⟨_, rfl⟩
  have hg1 := ag hW1
  have K1 := Lib.hid (ak2 hW1)
  have HW1 := Lib.hid hW1
  clear hW1
  go_enter Tryz.func43, Tryz.ntmps43
  go_upto_region 1 with fail
  rw [← HW1.out]
  go_upto_region 5 with (go_at_call 79; (with_reducible refine (IN.out _).mono ?_); (rintro e u2 ⟨rfl, rfl⟩))
  go_wp2_with (at_make; refine wpList_make_full _ rfl _ _ 23 rfl (W1.heap.size) 36 ir _ 4 Tryz.underlying23 hir irz0 irz1 .i64 .i64 (2 : Int) (2 : Int) 2 rfl rfl rfl rfl ?m1 ?m2 (Nat.le_refl _) ?_)
  case m1 => rw [irz2]; omega
  case m2 => unfold maxLen; omega
  intro w2 hown2 hgrow2
  obtain ⟨hrow2, -⟩ := made_rat hown2
  have hg2 : Grow W1 w2 := (Grow.refl W1).grown hgrow2 (fun k hk => by cases hk)
  have HR2 := Lib.hid hrow2
  have HG2 := Lib.hid hg2
  obtain ⟨g, hgq⟩ : ∃ g, W1.heap.size = g := ⟨_, rfl⟩
  rw [hgq] at HR2
  try rw [hgq]
  have HGQ := Lib.hid hgq
  clear hown2 hgrow2 hrow2 hg2 hgq
  go_wp2_with fail
  go_loopg [19] 2 (fun gk t19 wr => ∃ i : Nat, t19 = .int .i64 (i : Int) ∧ i ≤ 2 ∧ Hid (gk = 2 - i) ∧ Hid (RowP wr g 0 2 (fun j => if j < i then some ((24 : Int) : Rat) else none)) ∧ Hid (But (fun y => y = g) w2 wr))
  case atStart => exact ⟨0, rfl, by omega, Lib.hid rfl, Lib.hid (HR2.out.mono (Nat.le_refl _) (fun j x _ hx => by simp at hx)), Lib.hid (But.refl _ _)⟩
  case round =>
    obtain ⟨i, rfl, hi, HGK, HR, HB⟩ := hrel
    have HGR : Hid (Grow W1 wr) := Lib.hid (((HG2.out.but _).trans HB.out).asGrow (fun y hy => by have := HGQ.out; omega))
    by_cases hi2 : i = 2
    · subst hi2
      have PR2 := Lib.hid (PR.out g wr (RowP.mono HR.out (Nat.le_refl _) (fun j x hj hx => by rw [if_pos (by omega)]; exact hx)))
      go_wp2_with (go_at_call 81; (with_reducible refine PR2.out.mono ?_); (rintro e u9 ⟨B9, c9, rfl, hr9, hb9⟩; have HR9 := Lib.hid hr9; have HG9 := Lib.hid (HGR.out.trans hb9); clear hr9 hb9; obtain ⟨q0, q1, q2, q3⟩ := K1.out u9 HG9.out))
      obtain ⟨hb, hgF⟩ := ser_cell (w := w) (Nat.le_refl _) q3 q0 q1 (fun x => by simp) (fun x => by simp) (hg1.trans HG9.out) (.int .i64 1) (.slice (some ⟨B9, 0, none⟩) 3 c9) (fun x => by simp)
      have hne : ¬ (B9 = w.heap.size) := by
        intro h
        obtain ⟨s, a, l, c, t, b, k, e, ⟨x0, -⟩, -⟩ := RowQ.at4 HR9.out (show 0 < 3 by omega)
        rw [Nat.zero_mul, Nat.add_zero, h] at x0
        dsimp only at x0
        rw [q0] at x0
        cases x0
      exact bodyPost_ret (v := .tuple #[.agg #[.int .i64 1, .slice (some ⟨B9, 0, none⟩) 3 c9], .int .i64 0]) (by rw [results_cell_tmp rfl]; go_simp) rfl ⟨B9, c9, rfl, RowP.but HR9.out hne hb, hgF⟩
    · have hil : i < 2 := by omega
      have y1 : decide (i < 2) = true := by simp; omega
      have y2 : decide ((i : Int) < 2) = true := by simp; omega
      have q0 : (0 : Int) ≤ (i : Int) := by omega
      have q2 : (i : Int) < 2 := by omega
      obtain ⟨s4, a4, l4, c4, t4, b4, k4, e4, ⟨p0, p1, p2, p3⟩, -⟩ := HR.out.at4 i hil
      rw [Nat.zero_add] at p0 p1 p2 p3
      have hlg := HR.out.lt
      have hfg := HR.out.free
      have DG := Lib.hid (fun (u : World) (hg : Grow wr u) => (⟨(hg.cells _ _ hlg).trans p0, (hg.cells _ _ hlg).trans p1, (hg.cells _ _ hlg).trans p2, (hg.cells _ _ hlg).trans p3, fun o => (hg.frees _ _ hlg).trans (hfg o), Nat.lt_of_lt_of_le hlg hg.size⟩ : _ ∧ _ ∧ _ ∧ _ ∧ (∀ o, u.frozen? ⟨g, o, none⟩ = false) ∧ _))
      have HST := Lib.hid (fun (u : World) (hu : Grow wr u) (s : Bool) (a : Option Addr) (l' c' : Nat) (t : Bool) (b : Option Addr) (k' e' : Nat) (hx : RatR u (.agg #[.bool s, .slice a l' c', .bool t, .slice b k' e']) ((24 : Int) : Rat)) => (⟨RowP.set (RowP.grow HR.out hu) hil hx, But.st4 (X := fun b => b = g) (hu.but _) (.inr rfl) ((RowP.grow HR.out hu).q4 hil) s a l' c' t b k' e'⟩ : _ ∧ _))
      simp only [Nat.zero_add] at HST
      have E4 := Lib.hid (w64n (n := (i : Int) + 1) (by omega))
      clear p0 p1 p2 p3 hfg hi2
      obtain ⟨e4, e4'⟩ := E4.out
      go_wp2_with (go_at_call 18; (with_reducible refine (OF.out _).mono ?_); (rintro e u5 ⟨v5, rfl, hv5, hb5⟩; obtain ⟨s5, a5, l5, c5, t5, b5, k5, e5, rfl⟩ := hv5.form; have HV5 := Lib.hid hv5; clear hv5; obtain ⟨d0, d1, d2, d3, d4, d5⟩ := DG.out u5 hb5))
      clear e4 e4'
      obtain ⟨hst1, hst2⟩ := HST.out u5 hb5 _ _ _ _ _ _ _ _ HV5.out
      go_roundg (2 - (i + 1))
      case measure => have := HGK.out; omega
      case rel => exact ⟨i + 1, rfl, by omega, Lib.hid rfl, Lib.hid (RowP.mono hst1 (Nat.le_refl _) (fun j x hj hx => by
        by_cases hji : j = i
        · rw [if_pos hji]; rw [if_pos (by omega)] at hx; exact hx
        · rw [if_neg hji]
          by_cases hjl : j < i
          · rw [if_pos (by omega)] at hx; rw [if_pos hjl]; exact hx
          · rw [if_neg (by omega)] at hx; cases hx)), Lib.hid (HB.out.trans hst2)⟩
end Go.Proofs.YtbpkfcohbefphaaGreat
namespace Go.Proofs.YtbpkfcohbefphaaGreat
open Go Go.RowKit
def twF (j : Nat) : Int := if j = 0 then 1 else if j = 1 then -24 else 252
theorem cf3_tw (j : Nat) (hj : j < 3) : cf3 j = (twF j : Rat) := by
  rcases (by omega : j = 0 ∨ j = 1 ∨ j = 2) with rfl | rfl | rfl <;> decide +kernel
set_option maxRecDepth 20000 in
set_option maxHeartbeats 8000000 in
theorem twelveQ (w : World) : Calls Tryz.prog 14 #[] w fun e w' => e = .returned (.bool true) ∧ Grow w w' := by
  have EX := Lib.hid (fun u => deltaQ u)
  have QS : Hid (∀ (u v : World), Grow (u.alloc (.cells #[.int .i64 1, .int .i64 (-24), .int .i64 252] 3)) v → Calls Tryz.prog 26 #[.slice (some ⟨u.heap.size, 0, none⟩) 3 3] v fun e w' => ∃ B' c', e = .returned (.slice (some ⟨B', 0, none⟩) 3 c') ∧ RowQ w' B' 0 3 (fun j => (twF j : Rat)) ∧ Grow v w') :=
    Lib.hid (fun u v hv => qsQ 3 u.heap.size 0 3 twF (by decide) (by decide) (fun i hi => by unfold twF; split <;> (try split) <;> decide) _ ((int3 u 1 (-24) 252 3).grow hv))
  go_enter Tryz.func14, Tryz.ntmps14
  go_upto_region 2 with (go_at_call 43; (with_reducible refine (EX.out _).mono ?_); (rintro e u4 ⟨B4, c4, rfl, hr4, hb4⟩; have HR4 := Lib.hid hr4; clear hr4))
  obtain ⟨W5, hW5⟩ : ∃ W5 : World, W5 = u4.alloc (.cells #[.int .i64 1, .slice (some ⟨B4, 0, none⟩) 3 c4] 25) := ⟨_, rfl⟩
  rw [← hW5]
  have hg5 := ag hW5
  have D0 := Lib.hid (ak2 hW5)
  have SS := Lib.hid (fun (u : World) (B c : Nat) (hu : Grow W5 u) (h : RowQ u B 0 3 (fun j => (twF j : Rat))) => sameSeriesQ 1 3 B4 0 c4 B 0 c _ _ (by decide) cf3_tw u (RowP.grow HR4.out (hg5.trans hu)) h)
  clear hW5
  refine region_held (id := 2) (fun u => Grow W5 u) [0, 1, 2, 3, 4, 5, 6, 7, 8, 9] (kdL [0, 0, 0, 1, 2, 2, 0, 2, 0, 0]) (by kernel_rfl) (by kernel_rfl) (fun t ht => kdL_lt _ t ht) ?hS0p ?_
  case hS0p => ((try dsimp only); (repeat (first | with_reducible exact Grow.refl _ | with_reducible refine Grow.alloc ?_ _ | with_reducible refine Grow.drew ?_ | with_reducible refine Grow.drewN ?_ _ | (with_reducible refine Grow.setCell ?_ ?hp _; (case hp => (simp; try omega))) | with_reducible refine Grow.trans ?_ (by assumption))))
  refine held_quiet (v := ?vp0) rfl rfl (Or.inl ⟨by rfl, ?hyp0⟩) ?_
  case hyp0 => (intro u hu; go_simp; (try with_reducible rfl))
  (try simp only [Act.put, List.setIfInBounds_toArray])
  refine held_quiet (v := ?vp1) rfl rfl (Or.inl ⟨by rfl, ?hyp1⟩) ?_
  case hyp1 => (intro u hu; go_simp; (try with_reducible rfl))
  (try simp only [Act.put])
  refine held_quiet (v := ?vp2) rfl rfl (Or.inl ⟨by rfl, ?hyp2⟩) ?_
  case hyp2 => (intro u hu; go_simp; (try with_reducible rfl))
  (try simp only [Act.put])
  refine held_read (v := ?vp3) rfl rfl (Or.inl ⟨by rfl, ?hyp3⟩) ?_
  case hyp3 => (intro u hu; obtain ⟨f0, f1, f2, f3⟩ := D0.out u hu; go_simp; (try with_reducible rfl))
  (try simp only [Act.put])
  refine held_op rfl rfl (fun K hK => ?_)
  go_simp
  refine hK.out _ _ ?hSp4 ?_
  case hSp4 => ((try dsimp only); (repeat (first | with_reducible exact Grow.refl _ | with_reducible refine Grow.alloc ?_ _ | with_reducible refine Grow.drew ?_ | with_reducible refine Grow.drewN ?_ _ | (with_reducible refine Grow.setCell ?_ ?hp _; (case hp => (simp; try omega))) | with_reducible refine Grow.trans ?_ (by assumption))))
  clear hK K
  (try simp only [Act.put])
  refine held_op rfl rfl (fun K hK => ?_)
  go_simp
  (go_at_call 26; (with_reducible refine (QS.out W5 _ ?hgx).mono ?_); (case hgx => (repeat (first | with_reducible exact Grow.refl _ | with_reducible refine Grow.alloc ?_ _ | with_reducible refine Grow.drew ?_ | with_reducible refine Grow.drewN ?_ _ | (with_reducible refine Grow.setCell ?_ ?hp _; (case hp => (simp; try omega))) | with_reducible refine Grow.trans ?_ (by assumption)))); (rintro e u6 ⟨B6, c6, rfl, hr6, hb6⟩; have HR6 := Lib.hid hr6; clear hr6))
  (try go_wp2_with fail)
  refine hK.out _ _ ?hSp5 ?_
  case hSp5 => ((try dsimp only); (repeat (first | with_reducible exact Grow.refl _ | with_reducible refine Grow.alloc ?_ _ | with_reducible refine Grow.drew ?_ | with_reducible refine Grow.drewN ?_ _ | (with_reducible refine Grow.setCell ?_ ?hp _; (case hp => (simp; try omega))) | with_reducible refine Grow.trans ?_ (by assumption))))
  clear hK K
  (try simp only [Act.put])
  refine held_quiet (v := ?vp6) rfl rfl (Or.inl ⟨by rfl, ?hyp6⟩) ?_
  case hyp6 => (intro u hu; go_simp; (try with_reducible rfl))
  (try simp only [Act.put])
  refine held_op rfl rfl (fun K hK => ?_)
  go_simp
  (go_at_call 25; (with_reducible refine (SS.out _ _ _ (by (repeat (first | with_reducible exact Grow.refl _ | with_reducible refine Grow.alloc ?_ _ | with_reducible refine Grow.drew ?_ | with_reducible refine Grow.drewN ?_ _ | (with_reducible refine Grow.setCell ?_ ?hp _; (case hp => (simp; try omega))) | with_reducible refine Grow.trans ?_ (by assumption)))) HR6.out).mono ?_); (rintro e u8 ⟨rfl, hb8⟩))
  (try go_wp2_with fail)
  refine hK.out _ _ ?hSp7 ?_
  case hSp7 => ((try dsimp only); (repeat (first | with_reducible exact Grow.refl _ | with_reducible refine Grow.alloc ?_ _ | with_reducible refine Grow.drew ?_ | with_reducible refine Grow.drewN ?_ _ | (with_reducible refine Grow.setCell ?_ ?hp _; (case hp => (simp; try omega))) | with_reducible refine Grow.trans ?_ (by assumption))))
  clear hK K
  (try simp only [Act.put])
  refine held_quiet (v := ?vp8) rfl rfl (Or.inl ⟨by rfl, ?hyp8⟩) ?_
  case hyp8 => (intro u hu; go_simp; (try with_reducible rfl))
  (try simp only [Act.put])
  refine held_quiet (v := ?vp9) rfl rfl (Or.inl ⟨by rfl, ?hyp9⟩) ?_
  case hyp9 => (intro u hu; go_simp; (try with_reducible rfl))
  (try simp only [Act.put])
  refine held_done ?_
  go_simp
  go_wp2_with fail
  go_ret
  exact ⟨rfl, by (repeat (first | with_reducible exact Grow.refl _ | with_reducible refine Grow.alloc ?_ _ | with_reducible refine Grow.drew ?_ | with_reducible refine Grow.drewN ?_ _ | (with_reducible refine Grow.setCell ?_ ?hp _; (case hp => (simp; try omega))) | with_reducible refine Grow.trans ?_ (by assumption)))⟩
end Go.Proofs.YtbpkfcohbefphaaGreat
namespace Go.Proofs.YtbpkfcohbefphaaGreat
open Go
def sumF (f : Nat → Int) : Nat → Int
  | 0 => 0
  | n + 1 => sumF f n + f n
theorem sumF_add (f g : Nat → Int) : ∀ n, sumF (fun i => f i + g i) n = sumF f n + sumF g n
  | 0 => rfl
  | n + 1 => by show sumF _ n + (f n + g n) = _; rw [sumF_add f g n]; show _ = (sumF f n + f n) + (sumF g n + g n); omega
theorem sumF_zero : ∀ n, sumF (fun _ => 0) n = 0
  | 0 => rfl
  | n + 1 => by show sumF _ n + 0 = 0; rw [sumF_zero n]; rfl
theorem sumF_comm (f : Nat → Nat → Int) (k : Nat) : ∀ t, sumF (fun s => sumF (fun j => f s j) k) t = sumF (fun j => sumF (fun s => f s j) t) k
  | 0 => (sumF_zero k).symm
  | t + 1 => by
    show sumF _ t + sumF (fun j => f t j) k = _
    rw [sumF_comm f k t, ← sumF_add]
    rfl
theorem sumF_mul (f : Nat → Int) (c : Int) : ∀ n, sumF (fun i => f i * c) n = sumF f n * c
  | 0 => by simp [sumF]
  | n + 1 => by show sumF _ n + f n * c = (sumF f n + f n) * c; rw [sumF_mul f c n, Int.add_mul]
theorem sumF_mulL (f : Nat → Int) (c : Int) : ∀ n, sumF (fun i => c * f i) n = c * sumF f n
  | 0 => by simp [sumF]
  | n + 1 => by show sumF _ n + c * f n = c * (sumF f n + f n); rw [sumF_mulL f c n, Int.mul_add]
theorem sumF_cong {f g : Nat → Int} : ∀ n, (∀ i, i < n → f i = g i) → sumF f n = sumF g n
  | 0, _ => rfl
  | n + 1, h => by show sumF f n + f n = sumF g n + g n; rw [sumF_cong n (fun i hi => h i (by omega)), h n (by omega)]
theorem sP_sum (N c : Nat) (l : List Int) : ∀ i, sP N c l i = sumF (fun j => (kE N c ((divs N).getD j 0) : Int) * l.getD j 0) i
  | 0 => rfl
  | i + 1 => by show sP N c l i + _ = _; rw [sP_sum N c l i]; rfl
/-- The cusp's denominator. -/
def cuQ (N s : Nat) : Nat := ((cusL N).getD s (0, 0)).2
def cuP (N s : Nat) : Nat := ((cusL N).getD s (0, 0)).1
/-- The orders' sum over the first t cusps, times 24. -/
def vS (N : Nat) (l : List Int) (t : Nat) : Int := sumF (fun s => sE N (cuQ N s) l) t
def tS (l : List Int) (n : Nat) : Int := sumF (fun j => l.getD j 0) n
def sumN (f : Nat → Nat) : Nat → Nat
  | 0 => 0
  | n + 1 => sumN f n + f n
theorem sumN_cast (f : Nat → Nat) : ∀ n, ((sumN f n : Nat) : Int) = sumF (fun i => (f i : Int)) n
  | 0 => rfl
  | n + 1 => by show ((sumN f n + f n : Nat) : Int) = sumF _ n + (f n : Int); rw [← sumN_cast f n]; omega
theorem cus_tab : (List.range 61).all (fun N => N == 0 || ((cusL N).all (fun x => decide (1 ≤ x.1) && decide (x.1 ≤ x.2) && (divs N).contains x.2 && Nat.gcd x.1 x.2 == 1) && decide ((cusL N).length ≤ 60) && (divs N).all (fun d => (cusL N).any (fun x => x.2 == d) && ((cusL N).map (fun x => kE N x.2 d)).sum == psiN N))) = true := by decide +kernel
theorem cus_at {N : Nat} (h1 : 1 ≤ N) (h2 : N ≤ 60) : (∀ x ∈ cusL N, 1 ≤ x.1 ∧ x.1 ≤ x.2 ∧ x.2 ∈ divs N ∧ Nat.gcd x.1 x.2 = 1) ∧ (cusL N).length ≤ 60 ∧ ∀ d ∈ divs N, (∃ x ∈ cusL N, x.2 = d) ∧ ((cusL N).map (fun x => kE N x.2 d)).sum = psiN N := by
  have h := List.all_eq_true.1 cus_tab N (List.mem_range.2 (by omega))
  rw [Bool.or_eq_true] at h
  rcases h with h | h
  · simp at h; omega
  · simp only [Bool.and_eq_true, List.all_eq_true, decide_eq_true_eq, beq_iff_eq, List.any_eq_true, List.contains_iff_mem] at h
    obtain ⟨⟨a, b⟩, c⟩ := h
    exact ⟨fun x hx => by obtain ⟨⟨⟨p, q⟩, r⟩, s⟩ := a x hx; exact ⟨p, q, r, s⟩, b, c⟩
theorem cus_get {N s : Nat} (h1 : 1 ≤ N) (h2 : N ≤ 60) (hs : s < (cusL N).length) : 1 ≤ cuP N s ∧ cuP N s ≤ cuQ N s ∧ cuQ N s ∈ divs N ∧ Nat.gcd (cuP N s) (cuQ N s) = 1 := by
  refine (cus_at h1 h2).1 ((cusL N).getD s (0, 0)) ?_
  rw [List.getD_eq_getElem?_getD, List.getElem?_eq_getElem hs]; simp
theorem sum_map_sumN {α : Type} (g : α → Nat) (z : α) : ∀ (l : List α), (l.map g).sum = sumN (fun s => g (l.getD s z)) l.length := by
  intro l
  have key : ∀ (l' : List α) (k : Nat), k ≤ l'.length → ((l'.take k).map g).sum = sumN (fun s => g (l'.getD s z)) k := by
    intro l' k
    induction k with
    | zero => intro _; simp [sumN]
    | succ k ih =>
      intro hk
      rw [List.take_succ_eq_append_getElem (by omega)]
      simp only [List.map_append, List.sum_append, List.map_cons, List.map_nil, List.sum_cons, List.sum_nil]
      rw [ih (by omega)]
      show _ = sumN _ k + g (l'.getD k z)
      rw [List.getD_eq_getElem?_getD, List.getElem?_eq_getElem (by omega)]
      simp
  have := key l l.length (Nat.le_refl _)
  rwa [List.take_length] at this
/-- THE VALENCE FORMULA. -/
theorem valence {N : Nat} (l : List Int) (h1 : 1 ≤ N) (h2 : N ≤ 60) : vS N l (cusL N).length = (psiN N : Int) * tS l (divs N).length := by
  have e1 : vS N l (cusL N).length = sumF (fun s => sumF (fun j => (kE N (cuQ N s) ((divs N).getD j 0) : Int) * l.getD j 0) (divs N).length) (cusL N).length :=
    sumF_cong _ (fun s _ => sP_sum N (cuQ N s) l _)
  rw [e1, sumF_comm]
  have e2 : sumF (fun j => sumF (fun s => (kE N (cuQ N s) ((divs N).getD j 0) : Int) * l.getD j 0) (cusL N).length) (divs N).length = sumF (fun j => (psiN N : Int) * l.getD j 0) (divs N).length := by
    refine sumF_cong _ (fun j hj => ?_)
    rw [sumF_mul (fun s => (kE N (cuQ N s) ((divs N).getD j 0) : Int))]
    congr 1
    rw [← sumN_cast (fun s => kE N (cuQ N s) ((divs N).getD j 0))]
    have h3 := ((cus_at h1 h2).2.2 _ (getD_mem_divs hj)).2
    rw [sum_map_sumN (fun x : Nat × Nat => kE N x.2 ((divs N).getD j 0)) (0, 0)] at h3
    rw [← h3]; rfl
  rw [e2, sumF_mulL]; rfl
theorem pP_ge (N : Nat) (l : List Int) : ∀ k j, j < k → -(sE N ((divs N).getD j 0) l / ((24 * wdE N ((divs N).getD j 0) : Nat) : Int)) ≤ pP N l k
  | 0, j, h => by omega
  | k + 1, j, h => by
    have h1 := pP_ge N l k j
    show _ ≤ max (pP N l k) (-(sE N ((divs N).getD k 0) l / ((24 * wdE N ((divs N).getD k 0) : Nat) : Int)))
    by_cases hjk : j = k
    · subst hjk; omega
    · have := h1 (by omega); omega
theorem pP_hit (N : Nat) (l : List Int) : ∀ k, pP N l k = 0 ∨ ∃ j, j < k ∧ pP N l k = -(sE N ((divs N).getD j 0) l / ((24 * wdE N ((divs N).getD j 0) : Nat) : Int))
  | 0 => .inl rfl
  | k + 1 => by
    have h : pP N l (k + 1) = max (pP N l k) (-(sE N ((divs N).getD k 0) l / ((24 * wdE N ((divs N).getD k 0) : Nat) : Int))) := rfl
    rcases Int.le_total (-(sE N ((divs N).getD k 0) l / ((24 * wdE N ((divs N).getD k 0) : Nat) : Int))) (pP N l k) with h1 | h1
    · rw [Int.max_eq_left h1] at h
      rw [h]
      rcases pP_hit N l k with h2 | ⟨j, h2, h3⟩
      · exact .inl h2
      · exact .inr ⟨j, by omega, h3⟩
    · rw [Int.max_eq_right h1] at h
      exact .inr ⟨k, by omega, h⟩
theorem div_lo (s : Int) (w : Nat) (m : Int) (hw : 1 ≤ w) (h : -(s / ((24 * w : Nat) : Int)) ≤ m) : 0 ≤ s + 24 * (m * (w : Int)) := by
  have h1 := Int.mul_ediv_add_emod s ((24 * w : Nat) : Int)
  have h2 := Int.emod_nonneg s (b := ((24 * w : Nat) : Int)) (by omega)
  have h3 : ((24 * w : Nat) : Int) * (-(s / ((24 * w : Nat) : Int))) ≤ ((24 * w : Nat) : Int) * m := Int.mul_le_mul_of_nonneg_left h (by omega)
  have h4 : ((24 * w : Nat) : Int) * m = 24 * (m * (w : Int)) := by rw [Int.natCast_mul]; grind
  rw [Int.mul_neg] at h3
  omega
theorem div_hi (s : Int) (w : Nat) (m : Int) (hw : 1 ≤ w) (h : m = -(s / ((24 * w : Nat) : Int))) : s + 24 * ((m - 1) * (w : Int)) < 0 := by
  have h1 := Int.mul_ediv_add_emod s ((24 * w : Nat) : Int)
  have h2 := Int.emod_lt_of_pos s (b := ((24 * w : Nat) : Int)) (by omega)
  have h4 : ((24 * w : Nat) : Int) * m = 24 * (m * (w : Int)) := by rw [Int.natCast_mul]; grind
  have h5 : 24 * ((m - 1) * (w : Int)) = 24 * (m * (w : Int)) - ((24 * w : Nat) : Int) := by rw [Int.natCast_mul]; grind
  have h6 : ((24 * w : Nat) : Int) * m = -(((24 * w : Nat) : Int) * (s / ((24 * w : Nat) : Int))) := by rw [h, Int.mul_neg]
  omega
theorem mem_getD {n c : Nat} (h : c ∈ divs n) : ∃ j, j < (divs n).length ∧ (divs n).getD j 0 = c := by
  obtain ⟨j, hj, e⟩ := List.getElem_of_mem h
  exact ⟨j, hj, by rw [List.getD_eq_getElem?_getD, List.getElem?_eq_getElem hj]; simp [e]⟩
/-- No cusp has a pole once the m-th power of Delta is there. -/
theorem pole_ok {N s : Nat} (l : List Int) (h1 : 1 ≤ N) (h2 : N ≤ 60) (hs : s < (cusL N).length) : 0 ≤ sE N (cuQ N s) l + 24 * (pE N l * (wdE N (cuQ N s) : Int)) := by
  obtain ⟨-, -, hq, -⟩ := cus_get h1 h2 hs
  obtain ⟨j, hj, e⟩ := mem_getD hq
  have h := pP_ge N l _ j hj
  rw [e] at h
  exact div_lo _ _ _ (wdE_b h1 h2).1 h
/-- .. and m is the least: 0, or a cusp has a pole at m - 1. -/
theorem pole_tight {N : Nat} (l : List Int) (h1 : 1 ≤ N) (h2 : N ≤ 60) : pE N l = 0 ∨ ∃ s, s < (cusL N).length ∧ sE N (cuQ N s) l + 24 * ((pE N l - 1) * (wdE N (cuQ N s) : Int)) < 0 := by
  rcases pP_hit N l (divs N).length with h | ⟨j, hj, h⟩
  · exact .inl h
  · right
    obtain ⟨x, hx, e⟩ := ((cus_at h1 h2).2.2 _ (getD_mem_divs hj)).1
    obtain ⟨s, hs, e2⟩ := List.getElem_of_mem hx
    refine ⟨s, hs, ?_⟩
    have hc : cuQ N s = (divs N).getD j 0 := by
      unfold cuQ
      rw [List.getD_eq_getElem?_getD, List.getElem?_eq_getElem hs]
      simp only [Option.getD_some]
      rw [e2, e]
    rw [hc]
    exact div_hi _ _ _ (wdE_b h1 h2).1 h
end Go.Proofs.YtbpkfcohbefphaaGreat
