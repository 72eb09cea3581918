/- Lemmas, plain laws and walks that the statement LwThreeSquares leans on (texts TwA, TwB, TwC), conditions as each theorem says. -/
import Derived.Test.YtbpkfcohbefphaaGreatTopThreeSquaresG17
import Derived.Test.YtbpkfcohbefphaaGreatTopThreeSquaresG18
import Derived.Test.YtbpkfcohbefphaaGreatTopThreeSquaresG19

/- Walks of theta: inside, over. -/
namespace Go.Proofs.YtbpkfcohbefphaaGreat
open Go Go.RowKit

/-- Block B holds the ints f from off on. -/
structure IntQ (w : World) (B off n : Nat) (f : Nat → Int) : Prop where
  lt : B < w.heap.size
  cell : ∀ i, i < n → w.cell? ⟨B, off + i, none⟩ = some (.int .i64 (f i))
theorem IntQ.grow {w w' : World} {B off n : Nat} {f : Nat → Int} (h : IntQ w B off n f) (hg : Grow w w') : IntQ w' B off n f :=
  ⟨Nat.lt_of_lt_of_le h.lt hg.size, fun i hi => (hg.cells _ _ h.lt).trans (h.cell i hi)⟩
set_option maxRecDepth 20000 in
set_option maxHeartbeats 8000000 in
theorem insideQ (n B off c : Nat) (f : Nat → Int) (hn : n ≤ 1000) (hf : ∀ i, i < n → -1000 ≤ f i ∧ f i ≤ 1000) (w : World) (hA : IntQ w B off n f) :
    Calls Tryz.prog 60 #[.slice (some ⟨B, off, none⟩) n c] w fun e w' => e = .returned (.bool true) ∧ w = w' := by
  have HA := Lib.hid hA
  have HF := Lib.hid hf
  clear hA hf
  go_enter Tryz.func60, Tryz.ntmps60
  go_wp2_with fail
  go_loopg [7] n (fun gk t7 wr => ∃ i : Nat, t7 = .int .i64 (i : Int) ∧ i ≤ n ∧ Hid (gk = n - i) ∧ wr = w)
  case atStart => exact ⟨0, rfl, Nat.zero_le _, Lib.hid rfl, rfl⟩
  case round =>
    obtain ⟨i, rfl, hi2, HGK, rfl⟩ := hrel
    by_cases hin : i = n
    · have y1 : decide ((i : Int) < (n : Int)) = false := by simp; omega
      go_wp2_with fail
      go_ret
      exact ⟨rfl, rfl⟩
    · have hi : i < n := by omega
      have y0 : (0 : Int) ≤ (i : Int) := by omega
      have y2 : (i : Int) < (n : Int) := by omega
      have hc := HA.out.cell i hi
      obtain ⟨h1, h2⟩ := HF.out i hi
      have y5 : decide (f i < -1000) = false := by simp; omega
      have y6 : decide (f i > 1000) = false := by simp; omega
      have y4 := (w64n (n := (i : Int) + 1) (by omega)).2
      go_wp2_with fail
      clear y4
      go_roundg (n - (i + 1))
      case measure => have := HGK.out; omega
      case rel => exact ⟨i + 1, rfl, by omega, Lib.hid rfl, rfl⟩
theorem listr_one {u : World} {s : Bool} {a : Option Addr} {l c : Nat} {t : Bool} {b : Option Addr} {k e : Nat} {x : Rat} (h : RatR u (.agg #[.bool s, .slice a l c, .bool t, .slice b k e]) x) : ListR u [.bool s, .slice a l c, .bool t, .slice b k e] 1 (fun _ => x) := by
  refine ⟨rfl, fun y hy => ?_, fun j hj => ?_⟩
  · simp only [List.mem_cons, List.not_mem_nil, or_false] at hy
    rcases hy with rfl | rfl | rfl | rfl <;> rfl
  · have hj0 : j = 0 := by omega
    subst hj0
    exact ⟨s, a, l, c, t, b, k, e, ⟨rfl, rfl, rfl, rfl⟩, h⟩
theorem O3.keep {X : Nat → Prop} {u u' : World} {B : Nat} {v0 v1 v2 : Value} (h : O3 u B v0 v1 v2) (hg : But X u u') (hX : ¬ X B) : O3 u' B v0 v1 v2 :=
  ⟨(hg.cells _ _ h.lt hX).trans h.c0, (hg.cells _ _ h.lt hX).trans h.c1, (hg.cells _ _ h.lt hX).trans h.c2, fun o => (hg.frees _ _ h.lt).trans (h.fr o), Nat.lt_of_lt_of_le h.lt hg.size⟩
/-- The blocks of over: the result, the matrix. -/
structure OverS (w u : World) (n : Nat) (av : Option Addr) (L cv : Nat) : Prop where
  grow : Grow w u
  r : O3 u w.heap.size (.int .i64 0) (.int .i64 0) (.slice none 0 0)
  o : O3 u (w.heap.size + 1) (.int .i64 (n : Int)) (.int .i64 (n : Int)) (.slice av L cv)
set_option maxRecDepth 20000 in
set_option maxHeartbeats 8000000 in
theorem overT (n N B off c : Nat) (f : Nat → Int) (hN0 : 0 < N) (hN : N ≤ 1000) (hf : ∀ i, i < N → (f i).natAbs < 4294967296) (w : World) (hA : IntQ w B off N f) :
    Calls Tryz.prog 62 #[.int .i64 (n : Int), .slice (some ⟨B, off, none⟩) N c] w fun e w' =>
    ∃ B' c', e = .returned (.agg #[.int .i64 (n : Int), .int .i64 (n : Int), .slice (some ⟨B', 0, none⟩) N c']) ∧ RowQ w' B' 0 N (fun i => (f i : Rat)) ∧ Grow w w' := by
  obtain ⟨ir, hir, irz0, irz1, irz2⟩ := info_parts infoRat
  have HA := Lib.hid hA
  have HF := Lib.hid hf
  clear hA hf
  obtain ⟨W1, hW1⟩ : ∃ W1 : World, W1 = w.alloc (.cells #[.int .i64 0, .int .i64 0, .slice none 0 0] 95) := ⟨_, rfl⟩
  obtain ⟨W2, hW2⟩ : ∃ W2 : World, W2 = W1.alloc (.cells #[.int .i64 (n : Int), .int .i64 (n : Int), .slice none 0 0] 95) := ⟨_, rfl⟩
  have hz1 : W1.heap.size = w.heap.size + 1 := by rw [hW1]; simp
  have HS : Hid (OverS w W2 n none 0 0) := Lib.hid ⟨(ag hW1).trans (ag hW2), (O3.lay hW1).grow (ag hW2), by rw [← hz1]; exact O3.lay hW2⟩
  have HW1 := Lib.hid hW1
  have HW2 := Lib.hid hW2
  clear hW1 hW2 hz1
  go_enter Tryz.func62, Tryz.ntmps62
  go_upto_region 2 with fail
  rw [← HW1.out, ← HW2.out]
  go_wp2_with fail
  go_loopg [13] N (fun gk t13 wr => ∃ (j cv : Nat) (av : Option Addr) (xs : List Value), t13 = .int .i64 (j : Int) ∧ j ≤ N ∧ Hid (gk = N - j) ∧ Hid (OverS w wr n av j cv) ∧ Hid (OwnG wr (w.heap.size + 1 + 1) 36 4 (.slice av j cv) j xs) ∧ Hid (ListR wr xs j (fun i => (f i : Rat))))
  case atStart => exact ⟨0, 0, none, [], rfl, Nat.zero_le _, Lib.hid rfl, HS, Lib.hid (OwnG.nil _ _ _ _), Lib.hid (ListR.nil _ _)⟩
  case round =>
    clear HS
    obtain ⟨j, cv, av, xs, rfl, hj2, HGK, HS, HO, HX⟩ := hrel
    obtain ⟨hg, ⟨c0, c1, c2, c3, c4⟩, ⟨d0, d1, d2, d3, d4⟩⟩ := HS.out
    by_cases hjn : j = N
    · have y1 : decide ((j : Int) < (N : Int)) = false := by simp; omega
      subst hjn
      obtain ⟨g, cap, hv, hg1, hg2⟩ := own_slice HO.out.own hN0
      injection hv with h1 h2 h3
      subst h1 h3
      have HO' := Lib.hid HO.out.own
      have HGR := Lib.hid hg
      clear HO hg
      go_wp2_with fail
      have e1 := own_set (own_set (own_set HO'.out (a := ⟨w.heap.size, 0, none⟩) (by show w.heap.size < _; omega) (.int .i64 (n : Int))) (a := ⟨w.heap.size, 1, none⟩) (by show w.heap.size < _; omega) (.int .i64 (n : Int))) (a := ⟨w.heap.size, 2, none⟩) (by show w.heap.size < _; omega) (.slice (some ⟨g, 0, none⟩) j cv)
      have hgF : Grow w (((wr.setCell ⟨w.heap.size, 0, none⟩ (.int .i64 (n : Int))).setCell ⟨w.heap.size, 1, none⟩ (.int .i64 (n : Int))).setCell ⟨w.heap.size, 2, none⟩ (.slice (some ⟨g, 0, none⟩) j cv)) := ((HGR.out.setCell (Nat.le_refl _) _).setCell (Nat.le_refl _) _).setCell (Nat.le_refl _) _
      have hbt := set3_but (u := wr) (B := w.heap.size) ⟨c0, c1, c2, c3, c4⟩ (by simp) (by simp) (by simp) (.int .i64 (n : Int)) (.int .i64 (n : Int)) (.slice (some ⟨g, 0, none⟩) j cv)
      refine bodyPost_ret (v := .agg #[.int .i64 (n : Int), .int .i64 (n : Int), .slice (some ⟨g, 0, none⟩) j cv]) (by rw [results_one rfl]; go_simp) rfl (by first | exact ⟨g, cv, rfl, own_rowq e1 (HX.out.but hbt), hgF⟩ | exact ⟨g, ⟨cv, rfl⟩, own_rowq e1 (HX.out.but hbt), hgF⟩)
    · have hj : j < N := by omega
      have y0 : (0 : Int) ≤ (j : Int) := by omega
      have y2 : (j : Int) < (N : Int) := by omega
      have hcA := (HA.out.grow hg).cell j hj
      have OF := Lib.hid (fun u => ofQ (f j) (HF.out j hj) u)
      have hz : w.heap.size + 1 < wr.heap.size := d4
      have OC := Lib.hid (fun (u : World) (hu : Grow wr u) => HS.out.o.grow hu)
      clear c0 c1 c2 c3 c4 d0 d1 d2 d3 d4
      go_upto_region 5 with fail
      refine region_held (id := 5) (fun u => Grow wr u) [0, 1, 2, 3, 4, 5, 6, 7] (kdL [0, 1, 0, 2, 2, 3, 0, 3]) (by kernel_rfl) (by kernel_rfl) (fun t ht => kdL_lt _ t ht) ?hS0p ?_
      case hS0p => ((try dsimp only); (repeat (first | with_reducible exact Grow.refl _ | with_reducible refine Grow.alloc ?_ _ | with_reducible refine Grow.drew ?_ | with_reducible refine Grow.drewN ?_ _ | (with_reducible refine Grow.setCell ?_ ?hp _; (case hp => (simp; try omega))) | with_reducible refine Grow.trans ?_ (by assumption))))
      refine held_quiet (v := ?vp0) rfl rfl (Or.inl ⟨by rfl, ?hyp0⟩) ?_
      case hyp0 => (intro u hu; go_simp; (try with_reducible rfl))
      (try simp only [Act.put, List.setIfInBounds_toArray])
      refine held_read (v := ?vp1) rfl rfl (Or.inl ⟨by rfl, ?hyp1⟩) ?_
      case hyp1 => (intro u hu; obtain ⟨d0, d1, d2, d3, d4⟩ := OC.out u hu; go_simp; (try with_reducible rfl))
      (try simp only [Act.put])
      refine held_quiet (v := ?vp2) rfl rfl (Or.inl ⟨by rfl, ?hyp2⟩) ?_
      case hyp2 => (intro u hu; go_simp; (try with_reducible rfl))
      (try simp only [Act.put])
      refine held_op rfl rfl (fun K hK => ?_)
      go_simp
      (go_at_call 18; (with_reducible refine (OF.out _).mono ?_); (rintro e u6 ⟨v6, rfl, hv6, hb6⟩; obtain ⟨s6, a6, l6, c6, t6, b6, k6, e6, rfl⟩ := hv6.form; have HV6 := Lib.hid hv6; clear hv6))
      (try go_wp2_with fail)
      refine hK.out _ _ ?hSp3 ?_
      case hSp3 => ((try dsimp only); (repeat (first | with_reducible exact Grow.refl _ | with_reducible refine Grow.alloc ?_ _ | with_reducible refine Grow.drew ?_ | with_reducible refine Grow.drewN ?_ _ | (with_reducible refine Grow.setCell ?_ ?hp _; (case hp => (simp; try omega))) | with_reducible refine Grow.trans ?_ (by assumption))))
      clear hK K
      (try simp only [Act.put])
      refine held_op rfl rfl (fun K hK => ?_)
      go_simp
      refine hK.out _ _ ?hSp4 ?_
      case hSp4 => ((try dsimp only); (repeat (first | with_reducible exact Grow.refl _ | with_reducible refine Grow.alloc ?_ _ | with_reducible refine Grow.drew ?_ | with_reducible refine Grow.drewN ?_ _ | (with_reducible refine Grow.setCell ?_ ?hp _; (case hp => (simp; try omega))) | with_reducible refine Grow.trans ?_ (by assumption))))
      clear hK K
      (try simp only [Act.put])
      refine held_last rfl rfl (fun K hK => ?_)
      (refine step_append_g (by rfl) _ _ _ (by rfl) 36 ir _ 4 64 Tryz.underlying23 hir irz0 irz1 irz2 rfl (by decide) rat_zero_nu (by decide) (w.heap.size + 1 + 1) _ j xs (by rfl) (HO.out.grow (by (repeat (first | with_reducible exact Grow.refl _ | with_reducible refine Grow.alloc ?_ _ | with_reducible refine Grow.drew ?_ | with_reducible refine Grow.drewN ?_ _ | (with_reducible refine Grow.setCell ?_ ?hp _; (case hp => (simp; try omega))) | with_reducible refine Grow.trans ?_ (by assumption))))) ⟨u6.heap.size, 0, none⟩ 1 [.bool s6, .slice a6 l6 c6, .bool t6, .slice b6 k6 e6] (by rfl) rfl (rat_news u6 s6 a6 l6 c6 t6 b6 k6 e6 36) (rat_one s6 a6 l6 c6 t6 b6 k6 e6) (rat_nu s6 a6 l6 c6 t6 b6 k6 e6) (by omega) (by have := (show Grow wr u6 by (repeat (first | with_reducible exact Grow.refl _ | with_reducible refine Grow.alloc ?_ _ | with_reducible refine Grow.drew ?_ | with_reducible refine Grow.drewN ?_ _ | (with_reducible refine Grow.setCell ?_ ?hp _; (case hp => (simp; try omega))) | with_reducible refine Grow.trans ?_ (by assumption)))).size; simp; omega) ?_; intro v7 w7 hown7 hb7; obtain ⟨a7, c7, rfl⟩ := hown7.form; have hoc := (OC.out u6 (by (repeat (first | with_reducible exact Grow.refl _ | with_reducible refine Grow.alloc ?_ _ | with_reducible refine Grow.drew ?_ | with_reducible refine Grow.drewN ?_ _ | (with_reducible refine Grow.setCell ?_ ?hp _; (case hp => (simp; try omega))) | with_reducible refine Grow.trans ?_ (by assumption))))).grow ((Grow.refl u6).alloc (.cells #[.bool s6, .slice a6 l6 c6, .bool t6, .slice b6 k6 e6] 36)); have hoc7 := hoc.keep hb7 (by omega); obtain ⟨m0, m1, m2, m3, m4⟩ := hoc7)
      refine hK.out _ _ ?_
      clear hK K
      (try simp only [Act.put])
      refine held_quiet (v := ?vp6) rfl rfl (Or.inl ⟨by rfl, ?hyp6⟩) ?_
      case hyp6 => (intro u hu; go_simp; (try with_reducible rfl))
      (try simp only [Act.put])
      refine held_last rfl rfl (fun K hK => ?_)
      go_simp
      refine hK.out _ _ ?_
      clear hK K
      (try simp only [Act.put])
      refine held_done ?_
      have hga : Grow wr (u6.alloc (.cells #[.bool s6, .slice a6 l6 c6, .bool t6, .slice b6 k6 e6] 36)) := by (repeat (first | with_reducible exact Grow.refl _ | with_reducible refine Grow.alloc ?_ _ | with_reducible refine Grow.drew ?_ | with_reducible refine Grow.drewN ?_ _ | (with_reducible refine Grow.setCell ?_ ?hp _; (case hp => (simp; try omega))) | with_reducible refine Grow.trans ?_ (by assumption)))
      have hx7 := (HX.out.grow hga).but hb7
      have hl7 := ((listr_one HV6.out).grow ((Grow.refl u6).alloc (.cells #[.bool s6, .slice a6 l6 c6, .bool t6, .slice b6 k6 e6] 36))).but hb7
      have hxl := (hx7.append hl7).cong (r' := fun i => (f i : Rat)) (fun i hi => by
        by_cases hij : i < j
        · rw [if_pos hij]
        · rw [if_neg hij, show i = j by omega])
      have hbs : But (fun b => b = w.heap.size + 1) w7 (w7.setCell ⟨w.heap.size + 1, 2, none⟩ (.slice a7 (j + 1) c7)) := (But.refl _ w7).set _ (.inr rfl) (fun x => by rw [m2]; simp)
      have hg7 : Grow w w7 := (((hg.trans hga).but _).trans hb7).asGrow (fun b hb => by omega)
      have hr7 := (HS.out.r.grow hga).keep hb7 (by omega)
      have HS8 : Hid (OverS w (w7.setCell ⟨w.heap.size + 1, 2, none⟩ (.slice a7 (j + 1) c7)) n a7 (j + 1) c7) := Lib.hid ⟨hg7.setCell (by show w.heap.size ≤ w.heap.size + 1; omega) _, hr7.off (by omega) _ _, O3.set2 ⟨m0, m1, m2, m3, m4⟩ _⟩
      have HO8 := Lib.hid (hown7.but hbs (fun b hb e => by omega))
      have HX8 := Lib.hid (hxl.but hbs)
      clear hga hx7 hl7 hxl hbs hg7 hr7 hb7 hown7 m0 m1 m2 m3 m4 HV6 hoc hir irz0 irz1 irz2 hg
      have y4 := (w64n (n := (j : Int) + 1) (by omega)).2
      go_wp2_with fail
      clear y4
      go_roundg (N - (j + 1))
      case measure => have := HGK.out; omega
      case rel => exact ⟨j + 1, c7, a7, _, rfl, by omega, Lib.hid rfl, HS8, HO8, HX8⟩
end Go.Proofs.YtbpkfcohbefphaaGreat
/- Walks of theta: Check, inverse. -/
namespace Go.Proofs.YtbpkfcohbefphaaGreat
open Go Go.RowKit

theorem ix_lt {i k n : Nat} (hi : i < n) (hk : k < n) (hn : n ≤ 8) : i * n + k < n * n ∧ i * n ≤ 64 ∧ i * n + k ≤ 128 := by
  have h1 := Nat.mul_le_mul_right n (show i + 1 ≤ n from hi)
  rw [Nat.add_mul, Nat.one_mul] at h1
  have h2 : n * n ≤ 8 * 8 := Nat.mul_le_mul hn hn
  omega
/-- Index arithmetic of a square. -/
theorem ix_wrap {i k n q : Nat} (hi : i < n) (hk : k < n) (hn : n ≤ 8) (hq : i * n + k = q) : ∃ p : Nat, IntKind.i64.wrap ((i : Int) * (n : Int)) = (p : Int) ∧ wrap64 ((i : Int) * (n : Int)) = (p : Int) ∧ IntKind.i64.wrap ((p : Int) + (k : Int)) = (q : Int) ∧ wrap64 ((p : Int) + (k : Int)) = (q : Int) := by
  obtain ⟨h1, h2, h3⟩ := ix_lt hi hk hn
  refine ⟨i * n, ?_⟩
  have e1 : (i : Int) * (n : Int) = ((i * n : Nat) : Int) := by simp
  have e2 : ((i * n : Nat) : Int) + (k : Int) = (q : Int) := by rw [← hq]; simp
  obtain ⟨a, b⟩ := w64n (n := ((i * n : Nat) : Int)) (by omega)
  obtain ⟨c, d⟩ := w64n (n := (q : Int)) (by omega)
  exact ⟨by rw [e1]; exact a, by rw [e1]; exact b, by rw [e2]; exact c, by rw [e2]; exact d⟩
set_option maxRecDepth 20000 in
set_option maxHeartbeats 8000000 in
theorem checkT (n N B off c : Nat) (f : Nat → Int) (M : Nat → Nat → Rat) (hN : N = n * n) (hn0 : 0 < n) (hn : n ≤ 8) (hf : ∀ i, i < N → -1000 ≤ f i ∧ f i ≤ 1000) (hsym : ∀ i k, i < n → k < n → f (i * n + k) = f (k * n + i)) (hev : ∀ i, i < n → Int.tmod (f (i * n + i)) 2 = 0)
    (hM : ∀ i j, M i j = (f (i * n + j) : Rat)) (hS : ∀ i j, j < i → i < n → M i j = M j i ∧ AddB (M i j) (-(M j i))) (hB : ∀ k, k < n → SigSB n k (sigM n k M)) (w : World) (hA : IntQ w B off N f) :
    Calls Tryz.prog 27 #[.agg #[.int .i64 (n : Int), .slice (some ⟨B, off, none⟩) N c]] w fun e w' => e = .returned (.int .i64 0) ∧ Grow w w' := by
  have hNb : N ≤ 64 := by rw [hN]; exact Nat.mul_le_mul hn hn
  have hNp : 0 < N := by rw [hN]; exact Nat.mul_pos hn0 hn0
  have IN := Lib.hid (fun (u : World) (hu : Grow w u) => insideQ N B off c f (by omega) hf u (hA.grow hu))
  have OV := Lib.hid (fun (u : World) (hu : Grow w u) => overT n N B off c f hNp (by omega) (fun i hi => by have := hf i hi; omega) u (hA.grow hu))
  have SG := Lib.hid (fun (u : World) (B' c' : Nat) (hr : RowQ u B' 0 N (fun i => (f i : Rat))) => signatureQ n N B' 0 c' (fun i => (f i : Rat)) M hN (by omega) (fun i j => hM i j) hS hB u hr)
  have HA := Lib.hid hA
  have HSY := Lib.hid hsym
  have HEV := Lib.hid hev
  have HN := Lib.hid hN
  have e0 : (n : Int) * (n : Int) = (N : Int) := by rw [hN]; simp
  have y0 := Lib.hid (w64n (n := (N : Int)) (by omega))
  have y1 : IntKind.i64.wrap ((n : Int) * (n : Int)) = (N : Int) ∧ wrap64 ((n : Int) * (n : Int)) = (N : Int) := by rw [e0]; exact y0.out
  have Y1 := Lib.hid y1
  clear hA hsym hev hN hM hS hB e0 y0 y1 hf
  obtain ⟨W1, hW1⟩ : ∃ W1 : World, W1 = w.alloc (.cells #[.int .i64 (n : Int), .slice (some ⟨B, off, none⟩) N c] 31) := ⟨_, rfl⟩
  have hg1 := ag hW1
  have K1 := Lib.hid (ak2 hW1)
  have HW1 := Lib.hid hW1
  clear hW1
  obtain ⟨y1a, y1b⟩ := Y1.out
  have x0 : decide ((n : Int) < 1) = false := by simp; omega
  have x1 : decide ((n : Int) > 8) = false := by simp; omega
  go_enter Tryz.func27, Tryz.ntmps27
  go_upto_region 1 with fail
  rw [← HW1.out]
  obtain ⟨b0, b1, b2, b3⟩ := K1.out W1 (Grow.refl _)
  go_wp2_with (go_at_call 60; (with_reducible refine (IN.out _ (by (repeat (first | with_reducible exact Grow.refl _ | with_reducible refine Grow.alloc ?_ _ | with_reducible refine Grow.drew ?_ | with_reducible refine Grow.drewN ?_ _ | (with_reducible refine Grow.setCell ?_ ?hp _; (case hp => (simp; try omega))) | with_reducible refine Grow.trans ?_ (by assumption))))).mono ?_); (rintro e u1 ⟨rfl, rfl⟩))
  clear y1a y1b x0 x1
  go_loopg [33] n (fun gk t33 wr => ∃ i : Nat, t33 = .int .i64 (i : Int) ∧ i ≤ n ∧ Hid (gk = n - i) ∧ Hid (Grow W1 wr))
  case atStart => exact ⟨0, rfl, Nat.zero_le _, Lib.hid rfl, Lib.hid (Grow.refl _)⟩
  case round =>
    obtain ⟨i, rfl, hi2, HGK, HG⟩ := hrel
    by_cases hin : i = n
    · have y1 : decide ((i : Int) < (n : Int)) = false := by simp; omega
      have y2 : ¬ (i < n) := by omega
      obtain ⟨d0, d1, d2, d3⟩ := K1.out wr HG.out
      have hgw : Grow w wr := hg1.trans HG.out
      have HGW := Lib.hid hgw
      clear hg1 b0 b1 b2 b3 hgw
      go_wp2_with (first
        | (go_at_call 62; (with_reducible refine (OV.out _ HGW.out).mono ?_); (rintro e u2 ⟨B2, c2, rfl, hr2, hb2⟩; have HR2 := Lib.hid hr2; clear hr2))
        | (go_at_call 61; (with_reducible refine (SG.out _ _ _ HR2.out).mono ?_); (rintro e u3 ⟨rfl, hb3⟩)))
      go_ret
      exact ⟨rfl, HGW.out.trans (by (repeat (first | with_reducible exact Grow.refl _ | with_reducible refine Grow.alloc ?_ _ | with_reducible refine Grow.drew ?_ | with_reducible refine Grow.drewN ?_ _ | (with_reducible refine Grow.setCell ?_ ?hp _; (case hp => (simp; try omega))) | with_reducible refine Grow.trans ?_ (by assumption))))⟩
    · have hi : i < n := by omega
      have z0 : (0 : Int) ≤ (i : Int) := by omega
      have z1 : (i : Int) < (n : Int) := by omega
      go_wp2_with fail
      go_loopg [37] n (fun gk2 t37 wx => ∃ k : Nat, t37 = .int .i64 (k : Int) ∧ k ≤ n ∧ Hid (gk2 = n - k) ∧ Hid (Grow W1 wx))
      case atStart => exact ⟨0, rfl, Nat.zero_le _, Lib.hid rfl, HG⟩
      case round =>
        clear HG
        obtain ⟨k, rfl, hk2, HGK2, HG⟩ := hrel
        by_cases hkn : k = n
        · have Hi := Lib.hid hi
          have v1 : decide ((k : Int) < (n : Int)) = false := by simp; omega
          have v2 : ¬ (k < n) := by omega
          obtain ⟨d0, d1, d2, d3⟩ := K1.out wr HG.out
          obtain ⟨q, hq⟩ : ∃ q, i * n + i = q := ⟨_, rfl⟩
          have AW := Lib.hid (ix_wrap hi hi hn hq)
          have Y4 := Lib.hid (inc_wrap hi (by omega))
          have hqN : q < N := by rw [HN.out, ← hq]; exact (ix_lt hi hi hn).1
          have hcq := ((HA.out.grow hg1).grow HG.out).cell q hqN
          have hev := HEV.out i hi
          rw [hq] at hev
          have p0 : (0 : Int) ≤ (q : Int) := by omega
          have p1 : (q : Int) < (N : Int) := by omega
          clear hq hkn hk2 hi2 hi hin
          obtain ⟨pq, a1, a2, a3, a4⟩ := AW.out
          obtain ⟨y4, y3⟩ := Y4.out
          have y5 : IntKind.i64.wrap (0 : Int) = 0 := by decide
          go_wp2_with fail
          clear y4 y3 a1 a2 a3 a4 y5
          go_roundg (n - (i + 1))
          case measure => have := HGK.out; have := Hi.out; omega
          case rel => exact ⟨i + 1, rfl, Hi.out, Lib.hid rfl, HG⟩
        · have hk : k < n := by omega
          have v0 : (0 : Int) ≤ (k : Int) := by omega
          have v1 : (k : Int) < (n : Int) := by omega
          have KC := Lib.hid (fun (u : World) (hu : Grow wr u) => K1.out u (HG.out.trans hu))
          obtain ⟨q, hq⟩ : ∃ q, i * n + k = q := ⟨_, rfl⟩
          obtain ⟨r, hr⟩ : ∃ r, k * n + i = r := ⟨_, rfl⟩
          have hqN : q < N := by rw [HN.out, ← hq]; exact (ix_lt hi hk hn).1
          have hrN : r < N := by rw [HN.out, ← hr]; exact (ix_lt hk hi hn).1
          have CQ := Lib.hid (fun (u : World) (hu : Grow wr u) => (((HA.out.grow hg1).grow HG.out).grow hu).cell q hqN)
          have CR := Lib.hid (fun (u : World) (hu : Grow wr u) => (((HA.out.grow hg1).grow HG.out).grow hu).cell r hrN)
          have hsy := HSY.out i k hi hk
          rw [hq, hr] at hsy
          obtain ⟨fq, hfq⟩ : ∃ x, f q = x := ⟨_, rfl⟩
          rw [hfq] at hsy CQ
          rw [← hsy] at CR
          have p0 : (0 : Int) ≤ (q : Int) := by omega
          have p1 : (q : Int) < (N : Int) := by omega
          have p2 : (0 : Int) ≤ (r : Int) := by omega
          have p3 : (r : Int) < (N : Int) := by omega
          have AW := Lib.hid (ix_wrap hi hk hn hq)
          have AX := Lib.hid (ix_wrap hk hi hn hr)
          have Y4 := Lib.hid (inc_wrap hk (by omega))
          clear hq hr hsy hfq
          obtain ⟨s0, s1, s2, s3⟩ := KC.out wr (Grow.refl _)
          have s4 := CQ.out wr (Grow.refl _)
          have s5 := CR.out wr (Grow.refl _)
          obtain ⟨pq, a1, a2, a3, a4⟩ := AW.out
          obtain ⟨pr, a5, a6, a7, a8⟩ := AX.out
          go_upto_region 14 with fail
          clear s0 s1 s2 s3 s4 s5 b0 b1 b2 b3
          refine region_held (id := 14) (fun u => Grow wr u) [0, 1, 2, 3, 4, 5, 6, 7, 8, 9, 10, 11, 12, 13, 14, 15, 16, 17, 18] (kdL [0, 1, 0, 0, 0, 0, 0, 0, 1, 0, 1, 0, 0, 0, 0, 0, 0, 1, 0]) (by kernel_rfl) (by kernel_rfl) (fun t ht => kdL_lt _ t ht) ?hS0p ?_
          case hS0p => ((try dsimp only); (repeat (first | with_reducible exact Grow.refl _ | with_reducible refine Grow.alloc ?_ _ | with_reducible refine Grow.drew ?_ | with_reducible refine Grow.drewN ?_ _ | (with_reducible refine Grow.setCell ?_ ?hp _; (case hp => (simp; try omega))) | with_reducible refine Grow.trans ?_ (by assumption))))
          refine held_quiet (v := ?vp0) rfl rfl (Or.inl ⟨by rfl, ?hyp0⟩) ?_
          case hyp0 => (intro u hu; go_simp; (try with_reducible rfl))
          (try simp only [Act.put, List.setIfInBounds_toArray])
          refine held_read (v := ?vp1) rfl rfl (Or.inl ⟨by rfl, ?hyp1⟩) ?_
          case hyp1 => (intro u hu; obtain ⟨s0, s1, s2, s3⟩ := KC.out u hu; have s4 := CQ.out u hu; have s5 := CR.out u hu; go_simp; (try with_reducible rfl))
          (try simp only [Act.put])
          refine held_quiet (v := ?vp2) rfl rfl (Or.inl ⟨by rfl, ?hyp2⟩) ?_
          case hyp2 => (intro u hu; go_simp; (try with_reducible rfl))
          (try simp only [Act.put])
          refine held_quiet (v := ?vp3) rfl rfl (Or.inl ⟨by rfl, ?hyp3⟩) ?_
          case hyp3 => (intro u hu; go_simp; (try with_reducible rfl))
          (try simp only [Act.put])
          refine held_quiet (v := ?vp4) rfl rfl (Or.inl ⟨by rfl, ?hyp4⟩) ?_
          case hyp4 => (intro u hu; go_simp; (try with_reducible rfl))
          (try simp only [Act.put])
          refine held_quiet (v := ?vp5) rfl rfl (Or.inl ⟨by rfl, ?hyp5⟩) ?_
          case hyp5 => (intro u hu; go_simp; (try with_reducible rfl))
          (try simp only [Act.put])
          refine held_quiet (v := ?vp6) rfl rfl (Or.inl ⟨by rfl, ?hyp6⟩) ?_
          case hyp6 => (intro u hu; go_simp; (try with_reducible rfl))
          (try simp only [Act.put])
          refine held_quiet (v := ?vp7) rfl rfl (Or.inl ⟨by rfl, ?hyp7⟩) ?_
          case hyp7 => (intro u hu; go_simp; (try with_reducible rfl))
          (try simp only [Act.put])
          refine held_read (v := ?vp8) rfl rfl (Or.inl ⟨by rfl, ?hyp8⟩) ?_
          case hyp8 => (intro u hu; obtain ⟨s0, s1, s2, s3⟩ := KC.out u hu; have s4 := CQ.out u hu; have s5 := CR.out u hu; go_simp; (try with_reducible rfl))
          (try simp only [Act.put])
          refine held_quiet (v := ?vp9) rfl rfl (Or.inl ⟨by rfl, ?hyp9⟩) ?_
          case hyp9 => (intro u hu; go_simp; (try with_reducible rfl))
          (try simp only [Act.put])
          refine held_read (v := ?vp10) rfl rfl (Or.inl ⟨by rfl, ?hyp10⟩) ?_
          case hyp10 => (intro u hu; obtain ⟨s0, s1, s2, s3⟩ := KC.out u hu; have s4 := CQ.out u hu; have s5 := CR.out u hu; go_simp; (try with_reducible rfl))
          (try simp only [Act.put])
          refine held_quiet (v := ?vp11) rfl rfl (Or.inl ⟨by rfl, ?hyp11⟩) ?_
          case hyp11 => (intro u hu; go_simp; (try with_reducible rfl))
          (try simp only [Act.put])
          refine held_quiet (v := ?vp12) rfl rfl (Or.inl ⟨by rfl, ?hyp12⟩) ?_
          case hyp12 => (intro u hu; go_simp; (try with_reducible rfl))
          (try simp only [Act.put])
          refine held_quiet (v := ?vp13) rfl rfl (Or.inl ⟨by rfl, ?hyp13⟩) ?_
          case hyp13 => (intro u hu; go_simp; (try with_reducible rfl))
          (try simp only [Act.put])
          refine held_quiet (v := ?vp14) rfl rfl (Or.inl ⟨by rfl, ?hyp14⟩) ?_
          case hyp14 => (intro u hu; go_simp; (try with_reducible rfl))
          (try simp only [Act.put])
          refine held_quiet (v := ?vp15) rfl rfl (Or.inl ⟨by rfl, ?hyp15⟩) ?_
          case hyp15 => (intro u hu; go_simp; (try with_reducible rfl))
          (try simp only [Act.put])
          refine held_quiet (v := ?vp16) rfl rfl (Or.inl ⟨by rfl, ?hyp16⟩) ?_
          case hyp16 => (intro u hu; go_simp; (try with_reducible rfl))
          (try simp only [Act.put])
          refine held_read (v := ?vp17) rfl rfl (Or.inl ⟨by rfl, ?hyp17⟩) ?_
          case hyp17 => (intro u hu; obtain ⟨s0, s1, s2, s3⟩ := KC.out u hu; have s4 := CQ.out u hu; have s5 := CR.out u hu; go_simp; (try with_reducible rfl))
          (try simp only [Act.put])
          refine held_quiet (v := ?vp18) rfl rfl (Or.inl ⟨by rfl, ?hyp18⟩) ?_
          case hyp18 => (intro u hu; go_simp; (try with_reducible rfl))
          (try simp only [Act.put])
          refine held_done ?_
          clear a1 a2 a3 a4 a5 a6 a7 a8
          obtain ⟨y4, y3⟩ := Y4.out
          go_simp
          go_wp2_with fail
          clear y4 y3
          go_roundg (n - (k + 1))
          case measure => have := HGK2.out; omega
          case rel => exact ⟨k + 1, rfl, by omega, Lib.hid rfl, Lib.hid (HG.out.trans (by (repeat (first | with_reducible exact Grow.refl _ | with_reducible refine Grow.alloc ?_ _ | with_reducible refine Grow.drew ?_ | with_reducible refine Grow.drewN ?_ _ | (with_reducible refine Grow.setCell ?_ ?hp _; (case hp => (simp; try omega))) | with_reducible refine Grow.trans ?_ (by assumption)))))⟩
end Go.Proofs.YtbpkfcohbefphaaGreat
/- Walk: theta.inverse. -/
namespace Go.Proofs.YtbpkfcohbefphaaGreat
open Go Go.RowKit

set_option maxRecDepth 20000 in
set_option maxHeartbeats 8000000 in
theorem inverseT (n N B off c : Nat) (f : Nat → Int) (M : Nat → Nat → Rat) (hN : N = n * n) (hn0 : 0 < n) (hn : n ≤ 8) (hf : ∀ i, i < N → -1000 ≤ f i ∧ f i ≤ 1000)
    (hM : ∀ i j, M i j = (f (i * n + j) : Rat)) (hB : ∀ c, c < n → RedB n (n + n) c (redD n c (besU n M)) (redM n c (besU n M))) (w : World) (hA : IntQ w B off N f) :
    Calls Tryz.prog 97 #[.agg #[.int .i64 (n : Int), .slice (some ⟨B, off, none⟩) N c]] w fun e w' =>
      ∃ B' L c', e = .returned (.slice (some ⟨B', 0, none⟩) L c') ∧ L = n * n ∧ RowQ w' B' 0 L (fun k => redM n n (besU n M) (k / n) (n + k % n)) ∧ Grow w w' := by
  have hNb : N ≤ 64 := by rw [hN]; exact Nat.mul_le_mul hn hn
  have hNp : 0 < N := by rw [hN]; exact Nat.mul_pos hn0 hn0
  have OV := Lib.hid (fun (u : World) (hu : Grow w u) => overT n N B off c f hNp (by omega) (fun i hi => by have := hf i hi; omega) u (hA.grow hu))
  have INV := Lib.hid (fun (u : World) (B' c' : Nat) (hr : RowQ u B' 0 N (fun i => (f i : Rat))) => inverseMQ n N B' 0 c' (fun i => (f i : Rat)) M hN hn0 (by omega) (fun i j => hM i j) hB u hr)
  clear hA hN hM hB hf
  obtain ⟨W1, hW1⟩ : ∃ W1 : World, W1 = w.alloc (.cells #[.int .i64 (n : Int), .slice (some ⟨B, off, none⟩) N c] 31) := ⟨_, rfl⟩
  have hg1 := ag hW1
  have K1 := Lib.hid (ak2 hW1)
  have HW1 := Lib.hid hW1
  clear hW1
  go_enter Tryz.func97, Tryz.ntmps97
  go_upto_region 1 with fail
  rw [← HW1.out]
  obtain ⟨b0, b1, b2, b3⟩ := K1.out W1 (Grow.refl _)
  go_upto_region 2 with (first
        | (go_at_call 62; (with_reducible refine (OV.out _ (by (repeat (first | with_reducible exact Grow.refl _ | with_reducible refine Grow.alloc ?_ _ | with_reducible refine Grow.drew ?_ | with_reducible refine Grow.drewN ?_ _ | (with_reducible refine Grow.setCell ?_ ?hp _; (case hp => (simp; try omega))) | with_reducible refine Grow.trans ?_ (by assumption))))).mono ?_); (rintro e u2 ⟨B2, c2, rfl, hr2, hb2⟩; have HR2 := Lib.hid hr2; clear hr2))
        | (go_at_call 113; (with_reducible refine (INV.out _ _ _ HR2.out).mono ?_); (rintro e u3 ⟨B3, L3, c3, rfl, hL3, hr3, hb3⟩; have HL3 := Lib.hid hL3; have HR3 := Lib.hid hr3; clear hL3 hr3)))
  obtain ⟨W4, hW4⟩ : ∃ W4 : World, W4 = u3.alloc (.cells #[.int .i64 (n : Int), .int .i64 (n : Int), .slice (some ⟨B3, 0, none⟩) L3 c3] 95) := ⟨_, rfl⟩
  have hg4 := ag hW4
  obtain ⟨d0, d1, d2, d3, d4⟩ := ak3 hW4 W4 (Grow.refl _)
  rw [← hW4]
  clear hW4 b0 b1 b2 b3
  go_wp2_with fail
  go_ret
  exact ⟨B3, L3, c3, rfl, HL3.out, RowP.grow HR3.out hg4, by (repeat (first | with_reducible exact Grow.refl _ | with_reducible refine Grow.alloc ?_ _ | with_reducible refine Grow.drew ?_ | with_reducible refine Grow.drewN ?_ _ | (with_reducible refine Grow.setCell ?_ ?hp _; (case hp => (simp; try omega))) | with_reducible refine Grow.trans ?_ (by assumption)))⟩
end Go.Proofs.YtbpkfcohbefphaaGreat
