/- Lemmas, plain laws and walks that the statement LwThreeSquares leans on (texts RwN, RwO), conditions as each theorem says. -/
import Derived.Test.YtbpkfcohbefphaaGreatTopThreeSquaresG11

/- Walk: reduce. -/
namespace Go.Proofs.YtbpkfcohbefphaaGreat
open Go Go.RowKit
theorem rowq_alloc (u : World) (ty : TypeId) {s t : Bool} {a b : Option Addr} {l c k e : Nat} {x : Rat} (hx : RatR u (.agg #[.bool s, .slice a l c, .bool t, .slice b k e]) x) : RowQ (u.alloc (.cells #[.bool s, .slice a l c, .bool t, .slice b k e] ty)) u.heap.size 0 1 (fun _ => x) := by
  refine ⟨by simp, fun o => by go_simp, fun j hj => ?_⟩
  have hj0 : j = 0 := by omega
  subst hj0
  refine ⟨s, a, l, c, t, b, k, e, ⟨?_, ?_, ?_, ?_⟩, fun y hy => by injection hy with hy; rw [← hy]; exact hx.grow ((Grow.refl u).alloc _)⟩ <;> go_simp
theorem rowp_alloc (u : World) (ty : TypeId) : RowP (u.alloc (.cells #[.bool false, .slice none 0 0, .bool false, .slice none 0 0] ty)) u.heap.size 0 1 (fun _ => none) := by
  refine ⟨by simp, fun o => by go_simp, fun j hj => ?_⟩
  have hj0 : j = 0 := by omega
  subst hj0
  refine ⟨false, none, 0, 0, false, none, 0, 0, ⟨?_, ?_, ?_, ?_⟩, fun y hy => by cases hy⟩ <;> go_simp
/-- The cells of an element, in every grown world. -/
theorem row_cells {w : World} {B off m : Nat} {r : Nat → Rat} (h : RowQ w B off m r) {j : Nat} (hj : j < m) : ∃ s a l c t b k e, (∀ u, Grow w u → u.cell? ⟨B, off + j * 4, none⟩ = some (.bool s) ∧ u.cell? ⟨B, off + j * 4 + 1, none⟩ = some (.slice a l c) ∧ u.cell? ⟨B, off + j * 4 + 2, none⟩ = some (.bool t) ∧ u.cell? ⟨B, off + j * 4 + 3, none⟩ = some (.slice b k e) ∧ (∀ o, u.frozen? ⟨B, o, none⟩ = false) ∧ B < u.heap.size) ∧
    RatR w (.agg #[.bool s, .slice a l c, .bool t, .slice b k e]) (r j) := by
  obtain ⟨s, a, l, c, t, b, k, e, ⟨h1, h2, h3, h4⟩, h5⟩ := RowQ.at4 h hj
  refine ⟨s, a, l, c, t, b, k, e, fun u hu => ⟨(hu.cells _ _ h.lt).trans h1, (hu.cells _ _ h.lt).trans h2, (hu.cells _ _ h.lt).trans h3, (hu.cells _ _ h.lt).trans h4, fun o => (hu.frees _ _ h.lt).trans (h.free o), Nat.lt_of_lt_of_le h.lt hu.size⟩, h5⟩
theorem rowp_cells {w : World} {B off m : Nat} {r : Nat → Option Rat} (h : RowP w B off m r) {j : Nat} (hj : j < m) : ∃ s a l c t b k e, ∀ u, Grow w u → u.cell? ⟨B, off + j * 4, none⟩ = some (.bool s) ∧ u.cell? ⟨B, off + j * 4 + 1, none⟩ = some (.slice a l c) ∧ u.cell? ⟨B, off + j * 4 + 2, none⟩ = some (.bool t) ∧ u.cell? ⟨B, off + j * 4 + 3, none⟩ = some (.slice b k e) ∧ (∀ o, u.frozen? ⟨B, o, none⟩ = false) ∧ B < u.heap.size := by
  obtain ⟨s, a, l, c, t, b, k, e, h1, h2, h3, h4⟩ := h.q4 hj
  exact ⟨s, a, l, c, t, b, k, e, fun u hu => ⟨(hu.cells _ _ h.lt).trans h1, (hu.cells _ _ h.lt).trans h2, (hu.cells _ _ h.lt).trans h3, (hu.cells _ _ h.lt).trans h4, fun o => (hu.frees _ _ h.lt).trans (h.free o), Nat.lt_of_lt_of_le h.lt hu.size⟩⟩
theorem GridQ.cells {w : World} {G n m : Nat} {R O C : Nat → Nat} {M : Nat → Nat → Rat} (h : GridQ w G n R O C m M) {i : Nat} (hi : i < n) : ∀ u : World, Grow w u → u.cell? ⟨G, i, none⟩ = some (.slice (some ⟨R i, O i, none⟩) m (C i)) := fun _ hu => (hu.cells _ _ h.lt).trans (h.cell i hi)
theorem results_tmp_cell {fn : Func} {p q : Tmp} {ty : TypeId} (h : fn.results = #[.tmp p, .cell q ty]) (tmps : Array Value) (P : Program) (w : World) :
    (results fn tmps).run P w = ((asAddr (tmps.getD q undef)).run P w).andThen fun a w₁ => ((loadVar ty a).run P w₁).andThen fun x w₂ => .ok (.tuple #[tmps.getD p undef, x]) w₂ := by
  simp [results, h, Sem.run_bind, Result.andThen]
theorem rd_one (u : World) (v : Value) (h1 : v.oneCell' = true) (ty : TypeId) : RdRow (u.alloc (.cells #[v] ty)) 1 (.slice (some ⟨u.heap.size, 0, none⟩) 1 1) 1 [v] := by
  refine ⟨rfl, fun x hx => by rw [List.mem_singleton.1 hx]; exact h1, .inr ⟨u.heap.size, 0, 1, rfl, by simp, Nat.le_refl _, fun j x hj => ?_⟩⟩
  match j, hj with
  | 0, hj =>
    simp only [List.getElem?_cons_zero, Option.some.injEq] at hj
    subst hj
    go_simp
theorem infoInt : (Tryz.prog.info? 3).map (fun i => (i.zero, i.size, i.bytes)) = some (some (.int .i64 0), 1, 8) := by kernel_rfl
set_option maxRecDepth 20000 in
set_option maxHeartbeats 8000000 in
theorem reduceQ (n m G ca : Nat) (R O C : Nat → Nat) (M : Nat → Nat → Rat) (hn' : n ≤ 1000) (hnm : n ≤ m) (hm' : m ≤ 1000) (hB : ∀ c, c < n → RedB n m c (redD n c M) (redM n c M)) (w : World) (hG : GridQ w G n R O C m M) :
    Calls Tryz.prog 135 #[.slice (some ⟨G, 0, none⟩) n ca, .int .i64 (n : Int)] w fun e w' =>
    ∃ av cv v, e = .returned (.tuple #[.slice av n cv, v]) ∧ But (fun b => ∃ i, i < n ∧ b = R i) w w' ∧ GridQ w' G n R O C m (redM n n M) ∧ RatR w' v (redD n n M) := by
  have HB := Lib.hid hB
  have HG := Lib.hid hG
  clear hB hG
  have OF := Lib.hid (fun u => ofQ 1 (by decide) u)
  go_enter Tryz.func135, Tryz.ntmps135
  go_upto_region 3 with (go_at_call 18; (with_reducible refine (OF.out _).mono ?_); (rintro e u1 ⟨v1, rfl, hv1, hb1⟩; obtain ⟨s1, a1, l1, c1, t1, b1, k1, e1, rfl⟩ := hv1.form; have HV1 := Lib.hid hv1; clear hv1))
  obtain ⟨D, hD⟩ : ∃ D, u1.heap.size = D := ⟨_, rfl⟩
  obtain ⟨B0, hB0⟩ : ∃ B0, w.heap.size = B0 := ⟨_, rfl⟩
  obtain ⟨W3, hW3⟩ : ∃ W3, W3 = u1.alloc (.cells #[.bool s1, .slice a1 l1 c1, .bool t1, .slice b1 k1 e1] 36) := ⟨_, rfl⟩
  have hsz := hb1.size
  have RD0 : RedS w B0 D G n m R O C W3 (redD n 0 M) (redM n 0 M) := by
    have hg1 : Grow w u1 := by (repeat (first | with_reducible exact Grow.refl _ | with_reducible refine Grow.alloc ?_ _ | with_reducible refine Grow.drew ?_ | with_reducible refine Grow.drewN ?_ _ | (with_reducible refine Grow.setCell ?_ ?hp _; (case hp => (simp; try omega))) | with_reducible refine Grow.trans ?_ (by assumption)))
    have hg3 : Grow w W3 := by rw [hW3]; (repeat (first | with_reducible exact Grow.refl _ | with_reducible refine Grow.alloc ?_ _ | with_reducible refine Grow.drew ?_ | with_reducible refine Grow.drewN ?_ _ | (with_reducible refine Grow.setCell ?_ ?hp _; (case hp => (simp; try omega))) | with_reducible refine Grow.trans ?_ (by assumption)))
    simp at hsz
    refine ⟨hg3.but _, HG.out.grow hg3, ?_, ?_, by omega, fun i hi => by have := (HG.out.row i hi).lt; omega, by have := HG.out.lt; omega, by omega⟩
    · rw [hW3, ← hD]; exact rowq_alloc u1 _ HV1.out
    · rw [hW3, ← hB0]; exact ((rowp_alloc w 36).grow hb1).grow ((Grow.refl _).alloc _)
  have HRD := Lib.hid RD0
  rw [hD, hB0, ← hW3]
  clear hD hB0 hW3 hb1 hsz RD0 HV1
  go_wp2_with fail
  go_loopg [6, 8] n (fun gk t6 t8 wr => ∃ (c cv : Nat) (av : Option Addr) (xs : List Value), t6 = .slice av c cv ∧ t8 = .int .i64 (c : Int) ∧ c ≤ n ∧ Hid (gk = n - c) ∧ Hid (RedS w B0 D G n m R O C wr (redD n c M) (redM n c M)) ∧ Hid (OwnI wr (D + 1) (.slice av c cv) c xs))
  case atStart => exact ⟨0, 0, none, [], rfl, rfl, Nat.zero_le _, Lib.hid rfl, HRD, Lib.hid (OwnI.nil _ _)⟩
  case round =>
    obtain ⟨c, cv, av, xs, rfl, rfl, hc2, HGK, HS, HO⟩ := hrel
    clear HRD
    by_cases hcn : c = n
    · have y1 : decide ((c : Int) < (n : Int)) = false := by simp; omega
      subst hcn
      obtain ⟨s3, a3, l3, c3, t3, b3, k3, e3, hcD, hvD⟩ := row_cells HS.out.det (show 0 < 1 by omega)
      obtain ⟨s4, a4, l4, c4, t4, b4, k4, e4, hcB⟩ := rowp_cells HS.out.res (show 0 < 1 by omega)
      simp only [Nat.zero_mul, Nat.add_zero, Nat.zero_add] at hcD hcB
      have DD := Lib.hid hcD
      have DB := Lib.hid hcB
      have hfar := HS.out.far1
      have hbase := HS.out.base
      clear hcD hcB
      go_upto_region 22 with fail
      obtain ⟨g0, g1, g2, g3, g4, g5⟩ := DB.out wr (Grow.refl _)
      refine region_held (id := 22) (fun u => Grow wr u) [0, 1, 2, 3] (kdL [0, 1, 0, 3]) (by kernel_rfl) (by kernel_rfl) (fun t ht => kdL_lt _ t ht) ?hS0z ?_
      case hS0z => ((try dsimp only); (repeat (first | with_reducible exact Grow.refl _ | with_reducible refine Grow.alloc ?_ _ | with_reducible refine Grow.drew ?_ | with_reducible refine Grow.drewN ?_ _ | (with_reducible refine Grow.setCell ?_ ?hp _; (case hp => (simp; try omega))) | with_reducible refine Grow.trans ?_ (by assumption))))
      refine held_quiet (v := ?vz0) rfl rfl (Or.inl ⟨by rfl, ?hyz0⟩) ?_
      case hyz0 => (intro u hu; go_simp; (try with_reducible rfl))
      (try simp only [Act.put, List.setIfInBounds_toArray])
      refine held_read (v := ?vz1) rfl rfl (Or.inl ⟨by rfl, ?hyz1⟩) ?_
      case hyz1 => (intro u hu; obtain ⟨f0, f1, f2, f3, f4, f5⟩ := DD.out u (by (repeat (first | with_reducible exact Grow.refl _ | with_reducible refine Grow.alloc ?_ _ | with_reducible refine Grow.drew ?_ | with_reducible refine Grow.drewN ?_ _ | (with_reducible refine Grow.setCell ?_ ?hp _; (case hp => (simp; try omega))) | with_reducible refine Grow.trans ?_ (by assumption)))); obtain ⟨g0, g1, g2, g3, g4, g5⟩ := DB.out u (by (repeat (first | with_reducible exact Grow.refl _ | with_reducible refine Grow.alloc ?_ _ | with_reducible refine Grow.drew ?_ | with_reducible refine Grow.drewN ?_ _ | (with_reducible refine Grow.setCell ?_ ?hp _; (case hp => (simp; try omega))) | with_reducible refine Grow.trans ?_ (by assumption)))); go_simp; (try with_reducible rfl))
      (try simp only [Act.put])
      refine held_quiet (v := ?vz2) rfl rfl (Or.inl ⟨by rfl, ?hyz2⟩) ?_
      case hyz2 => (intro u hu; go_simp; (try with_reducible rfl))
      (try simp only [Act.put])
      refine held_last rfl rfl (fun K hK => ?_)
      go_simp
      refine hK.out _ _ ?_
      clear hK K
      (try simp only [Act.put])
      refine held_done ?_
      have h5 := DD.out wr (Grow.refl _)
      have hst : But (fun b => b = B0) wr (st4 wr B0 0 (.bool s3) (.slice a3 l3 c3) (.bool t3) (.slice b3 k3 e3)) := But.st4 (X := fun b => b = B0) (But.refl _ _) (.inr rfl) (by have := RowP.q4 HS.out.res (show 0 < 1 by omega); simpa using this) _ _ _ _ _ _ _ _
      have hvF : RatR (st4 wr B0 0 (.bool s3) (.slice a3 l3 c3) (.bool t3) (.slice b3 k3 e3)).drew (.agg #[.bool s3, .slice a3 l3 c3, .bool t3, .slice b3 k3 e3]) (redD c c M) := (hvD.but hst).grow (Grow.refl _).drew
      have hbF : But (fun b => ∃ i, i < c ∧ b = R i) w (st4 wr B0 0 (.bool s3) (.slice a3 l3 c3) (.bool t3) (.slice b3 k3 e3)).drew := (HS.out.but.late hst (fun b h1 h2 => by omega)).grow (Grow.refl _).drew
      have hgF : GridQ (st4 wr B0 0 (.bool s3) (.slice a3 l3 c3) (.bool t3) (.slice b3 k3 e3)).drew G c R O C m (redM c c M) := (HS.out.grid.but (by have := HS.out.far3; omega) (fun i hi e => by have := HS.out.far2 i hi; omega) hst).grow (Grow.refl _).drew
      go_wp2_with fail
      ((try simp only [Exit.inBlock, Exit.then]); refine bodyPost_ret (v := .tuple #[.slice av c cv, .agg #[.bool s3, .slice a3 l3 c3, .bool t3, .slice b3 k3 e3]]) (by rw [results_tmp_cell rfl]; go_simp) rfl ⟨av, cv, _, rfl, hbF, hgF, hvF⟩)
    · have hc : c < n := by omega
      have y0 : (0 : Int) ≤ (c : Int) := by omega
      have y1 : (c : Int) < (n : Int) := by omega
      have y2 : (c : Int) < (m : Int) := by omega
      have yb : ((c : Int) == (n : Int)) = false := by simp; omega
      have HRB := Lib.hid (HB.out c hc)
      have hstepM : redM n (c + 1) M = elim n c (redM n c M) := rfl
      have hstepD : redD n (c + 1) M = redD n c M * redM n c M c c := rfl
      obtain ⟨N, hN⟩ : ∃ N, redM n c M = N := ⟨_, rfl⟩
      obtain ⟨d, hd⟩ : ∃ d, redD n c M = d := ⟨_, rfl⟩
      rw [hN] at hstepM HS HRB
      rw [hd, hN] at hstepD
      rw [hd] at HS HRB
      have HSM := Lib.hid hstepM
      have HSD := Lib.hid hstepD
      clear hN hd hstepM hstepD
      obtain ⟨s2, a2, l2, c2, t2, b2, k2, e2, hcP, hvP⟩ := row_cells (HS.out.grid.row c hc) (show c < m by omega)
      obtain ⟨s3, a3, l3, c3, t3, b3, k3, e3, hcD, hvD⟩ := row_cells HS.out.det (show 0 < 1 by omega)
      simp only [Nat.zero_mul, Nat.add_zero, Nat.zero_add] at hcD
      have hcG := HS.out.grid.cells hc
      have PC := Lib.hid hcP
      have DC := Lib.hid hcD
      have GC := Lib.hid hcG
      have NZ := Lib.hid (fun u hu => nonzeroQ (N c c) _ u (hvP.grow hu))
      rw [decide_eq_true HRB.out.piv] at NZ
      have ML := Lib.hid (fun u hu => mulQ d (N c c) _ _ HRB.out.det.1 HRB.out.det.2 u (hvD.grow hu) (hvP.grow hu))
      clear hcP hcD hcG hvP hvD
      obtain ⟨wo, rfl⟩ : ∃ wo, wo = wr := ⟨_, rfl⟩
      obtain ⟨f0, f1, f2, f3, f4, f5⟩ := PC.out wo (Grow.refl _)
      have f6 := GC.out wo (Grow.refl _)
      go_wp2_with fail
      go_loopw [10] (fun t10 wx => t10 = .int .i64 (c : Int) ∧ wo = wx) (fun _ _ => 0)
      case atStart => exact ⟨rfl, rfl⟩
      case round =>
        obtain ⟨rfl, rfl⟩ := hrel
        go_upto_region 13 with (go_at_call 96; (with_reducible refine (NZ.out _ (by (repeat (first | with_reducible exact Grow.refl _ | with_reducible refine Grow.alloc ?_ _ | with_reducible refine Grow.drew ?_ | with_reducible refine Grow.drewN ?_ _ | (with_reducible refine Grow.setCell ?_ ?hp _; (case hp => (simp; try omega))) | with_reducible refine Grow.trans ?_ (by assumption))))).mono ?_); (rintro e u4 ⟨rfl, hb4⟩))
        clear f0 f1 f2 f3 f4 f5 f6
        obtain ⟨h0, h1, h2, h3, h4, h5⟩ := DC.out u4 (by (repeat (first | with_reducible exact Grow.refl _ | with_reducible refine Grow.alloc ?_ _ | with_reducible refine Grow.drew ?_ | with_reducible refine Grow.drewN ?_ _ | (with_reducible refine Grow.setCell ?_ ?hp _; (case hp => (simp; try omega))) | with_reducible refine Grow.trans ?_ (by assumption))))
        refine region_held (id := 13) (fun u => Grow wo u) [0, 1, 2, 3, 4, 5, 6, 7, 8, 9] (kdL [1, 0, 0, 0, 1, 0, 0, 1, 2, 3]) (by kernel_rfl) (by kernel_rfl) (fun t ht => kdL_lt _ t ht) ?hS0p ?_
        case hS0p => ((try dsimp only); (repeat (first | with_reducible exact Grow.refl _ | with_reducible refine Grow.alloc ?_ _ | with_reducible refine Grow.drew ?_ | with_reducible refine Grow.drewN ?_ _ | (with_reducible refine Grow.setCell ?_ ?hp _; (case hp => (simp; try omega))) | with_reducible refine Grow.trans ?_ (by assumption))))
        refine held_read (v := ?vp0) rfl rfl (Or.inl ⟨by rfl, ?hyp0⟩) ?_
        case hyp0 => (intro u hu; obtain ⟨f0, f1, f2, f3, f4, f5⟩ := DC.out u (by (repeat (first | with_reducible exact Grow.refl _ | with_reducible refine Grow.alloc ?_ _ | with_reducible refine Grow.drew ?_ | with_reducible refine Grow.drewN ?_ _ | (with_reducible refine Grow.setCell ?_ ?hp _; (case hp => (simp; try omega))) | with_reducible refine Grow.trans ?_ (by assumption)))); obtain ⟨g0, g1, g2, g3, g4, g5⟩ := PC.out u (by (repeat (first | with_reducible exact Grow.refl _ | with_reducible refine Grow.alloc ?_ _ | with_reducible refine Grow.drew ?_ | with_reducible refine Grow.drewN ?_ _ | (with_reducible refine Grow.setCell ?_ ?hp _; (case hp => (simp; try omega))) | with_reducible refine Grow.trans ?_ (by assumption)))); have hg := GC.out u (by (repeat (first | with_reducible exact Grow.refl _ | with_reducible refine Grow.alloc ?_ _ | with_reducible refine Grow.drew ?_ | with_reducible refine Grow.drewN ?_ _ | (with_reducible refine Grow.setCell ?_ ?hp _; (case hp => (simp; try omega))) | with_reducible refine Grow.trans ?_ (by assumption)))); go_simp; (try with_reducible rfl))
        (try simp only [Act.put, List.setIfInBounds_toArray])
        refine held_quiet (v := ?vp1) rfl rfl (Or.inl ⟨by rfl, ?hyp1⟩) ?_
        case hyp1 => (intro u hu; go_simp; (try with_reducible rfl))
        (try simp only [Act.put])
        refine held_quiet (v := ?vp2) rfl rfl (Or.inl ⟨by rfl, ?hyp2⟩) ?_
        case hyp2 => (intro u hu; go_simp; (try with_reducible rfl))
        (try simp only [Act.put])
        refine held_quiet (v := ?vp3) rfl rfl (Or.inl ⟨by rfl, ?hyp3⟩) ?_
        case hyp3 => (intro u hu; go_simp; (try with_reducible rfl))
        (try simp only [Act.put])
        refine held_read (v := ?vp4) rfl rfl (Or.inl ⟨by rfl, ?hyp4⟩) ?_
        case hyp4 => (intro u hu; obtain ⟨f0, f1, f2, f3, f4, f5⟩ := DC.out u (by (repeat (first | with_reducible exact Grow.refl _ | with_reducible refine Grow.alloc ?_ _ | with_reducible refine Grow.drew ?_ | with_reducible refine Grow.drewN ?_ _ | (with_reducible refine Grow.setCell ?_ ?hp _; (case hp => (simp; try omega))) | with_reducible refine Grow.trans ?_ (by assumption)))); obtain ⟨g0, g1, g2, g3, g4, g5⟩ := PC.out u (by (repeat (first | with_reducible exact Grow.refl _ | with_reducible refine Grow.alloc ?_ _ | with_reducible refine Grow.drew ?_ | with_reducible refine Grow.drewN ?_ _ | (with_reducible refine Grow.setCell ?_ ?hp _; (case hp => (simp; try omega))) | with_reducible refine Grow.trans ?_ (by assumption)))); have hg := GC.out u (by (repeat (first | with_reducible exact Grow.refl _ | with_reducible refine Grow.alloc ?_ _ | with_reducible refine Grow.drew ?_ | with_reducible refine Grow.drewN ?_ _ | (with_reducible refine Grow.setCell ?_ ?hp _; (case hp => (simp; try omega))) | with_reducible refine Grow.trans ?_ (by assumption)))); go_simp; (try with_reducible rfl))
        (try simp only [Act.put])
        refine held_quiet (v := ?vp5) rfl rfl (Or.inl ⟨by rfl, ?hyp5⟩) ?_
        case hyp5 => (intro u hu; go_simp; (try with_reducible rfl))
        (try simp only [Act.put])
        refine held_quiet (v := ?vp6) rfl rfl (Or.inl ⟨by rfl, ?hyp6⟩) ?_
        case hyp6 => (intro u hu; go_simp; (try with_reducible rfl))
        (try simp only [Act.put])
        refine held_read (v := ?vp7) rfl rfl (Or.inl ⟨by rfl, ?hyp7⟩) ?_
        case hyp7 => (intro u hu; obtain ⟨f0, f1, f2, f3, f4, f5⟩ := DC.out u (by (repeat (first | with_reducible exact Grow.refl _ | with_reducible refine Grow.alloc ?_ _ | with_reducible refine Grow.drew ?_ | with_reducible refine Grow.drewN ?_ _ | (with_reducible refine Grow.setCell ?_ ?hp _; (case hp => (simp; try omega))) | with_reducible refine Grow.trans ?_ (by assumption)))); obtain ⟨g0, g1, g2, g3, g4, g5⟩ := PC.out u (by (repeat (first | with_reducible exact Grow.refl _ | with_reducible refine Grow.alloc ?_ _ | with_reducible refine Grow.drew ?_ | with_reducible refine Grow.drewN ?_ _ | (with_reducible refine Grow.setCell ?_ ?hp _; (case hp => (simp; try omega))) | with_reducible refine Grow.trans ?_ (by assumption)))); have hg := GC.out u (by (repeat (first | with_reducible exact Grow.refl _ | with_reducible refine Grow.alloc ?_ _ | with_reducible refine Grow.drew ?_ | with_reducible refine Grow.drewN ?_ _ | (with_reducible refine Grow.setCell ?_ ?hp _; (case hp => (simp; try omega))) | with_reducible refine Grow.trans ?_ (by assumption)))); go_simp; (try with_reducible rfl))
        (try simp only [Act.put])
        refine held_op rfl rfl (fun K hK => ?_)
        go_simp
        (go_at_call 10; (with_reducible refine (ML.out _ (by (repeat (first | with_reducible exact Grow.refl _ | with_reducible refine Grow.alloc ?_ _ | with_reducible refine Grow.drew ?_ | with_reducible refine Grow.drewN ?_ _ | (with_reducible refine Grow.setCell ?_ ?hp _; (case hp => (simp; try omega))) | with_reducible refine Grow.trans ?_ (by assumption))))).mono ?_); (rintro e u6 ⟨v6, rfl, hv6, hb6⟩; obtain ⟨s6, a6, l6, c6, t6, b6, k6, e6, rfl⟩ := hv6.form; have HV6 := Lib.hid hv6; clear hv6; obtain ⟨i0, i1, i2, i3, i4, i5⟩ := DC.out u6 (by (repeat (first | with_reducible exact Grow.refl _ | with_reducible refine Grow.alloc ?_ _ | with_reducible refine Grow.drew ?_ | with_reducible refine Grow.drewN ?_ _ | (with_reducible refine Grow.setCell ?_ ?hp _; (case hp => (simp; try omega))) | with_reducible refine Grow.trans ?_ (by assumption))))))
        (try go_wp2_with fail)
        refine hK.out _ _ ?hSp8 ?_
        case hSp8 => ((try dsimp only); (repeat (first | with_reducible exact Grow.refl _ | with_reducible refine Grow.alloc ?_ _ | with_reducible refine Grow.drew ?_ | with_reducible refine Grow.drewN ?_ _ | (with_reducible refine Grow.setCell ?_ ?hp _; (case hp => (simp; try omega))) | with_reducible refine Grow.trans ?_ (by assumption))))
        clear hK K
        (try simp only [Act.put])
        refine held_last rfl rfl (fun K hK => ?_)
        go_simp
        refine hK.out _ _ ?_
        clear hK K
        (try simp only [Act.put])
        refine held_done ?_
        have hst := (HS.out.grow (show Grow wo u6 by (repeat (first | with_reducible exact Grow.refl _ | with_reducible refine Grow.alloc ?_ _ | with_reducible refine Grow.drew ?_ | with_reducible refine Grow.drewN ?_ _ | (with_reducible refine Grow.setCell ?_ ?hp _; (case hp => (simp; try omega))) | with_reducible refine Grow.trans ?_ (by assumption))))).setD HV6.out
        have hO6 := OwnI.but (HO.out.grow (show Grow wo u6 by (repeat (first | with_reducible exact Grow.refl _ | with_reducible refine Grow.alloc ?_ _ | with_reducible refine Grow.drew ?_ | with_reducible refine Grow.drewN ?_ _ | (with_reducible refine Grow.setCell ?_ ?hp _; (case hp => (simp; try omega))) | with_reducible refine Grow.trans ?_ (by assumption))))) (But.st4 (X := fun b => b = D) (But.refl _ u6) (.inr rfl) (by have := RowP.q4 (HS.out.grow (show Grow wo u6 by (repeat (first | with_reducible exact Grow.refl _ | with_reducible refine Grow.alloc ?_ _ | with_reducible refine Grow.drew ?_ | with_reducible refine Grow.drewN ?_ _ | (with_reducible refine Grow.setCell ?_ ?hp _; (case hp => (simp; try omega))) | with_reducible refine Grow.trans ?_ (by assumption))))).det (show 0 < 1 by omega); simpa using this) s6 a6 l6 c6 t6 b6 k6 e6) (fun b hb e => by omega)
        obtain ⟨w6, hw6⟩ : ∃ w6, (((u6.setCell ⟨D, 0, none⟩ (.bool s6)).setCell ⟨D, 1, none⟩ (.slice a6 l6 c6)).setCell ⟨D, 2, none⟩ (.bool t6)).setCell ⟨D, 3, none⟩ (.slice b6 k6 e6) = w6 := ⟨_, rfl⟩
        rw [hw6]
        have HS6 : Hid (RedS w B0 D G n m R O C w6 (d * N c c) N) := Lib.hid (by rw [← hw6]; exact hst)
        have HO6 : Hid (OwnI w6 (D + 1) (.slice av c cv) c xs) := Lib.hid (by rw [← hw6]; exact hO6)
        clear hst hO6 hw6 HV6 NZ ML PC DC GC HS HO hb4 h0 h1 h2 h3 h4 h5
        obtain ⟨s7, a7, l7, c7, t7, b7, k7, e7, hcP, hvP⟩ := row_cells (HS6.out.grid.row c hc) (show c < m by omega)
        have PC := Lib.hid hcP
        have GC := Lib.hid (HS6.out.grid.cells hc)
        have DV := Lib.hid (fun u hu => divideQ (N c c) _ (R c) (O c) m (C c) c (N c) HRB.out.piv (by omega) (by omega) HRB.out.quo u (hvP.grow hu) (RowP.grow (HS6.out.grid.row c hc) hu))
        clear hcP hvP
        go_upto_region 14 with fail
        refine region_held (id := 14) (fun u => Grow w6 u) [0, 1, 2, 3, 4, 5, 6, 7, 8, 9, 10, 11, 12] (kdL [0, 0, 0, 1, 0, 0, 0, 1, 0, 0, 1, 0, 3]) (by kernel_rfl) (by kernel_rfl) (fun t ht => kdL_lt _ t ht) ?hS0q ?_
        case hS0q => ((try dsimp only); (repeat (first | with_reducible exact Grow.refl _ | with_reducible refine Grow.alloc ?_ _ | with_reducible refine Grow.drew ?_ | with_reducible refine Grow.drewN ?_ _ | (with_reducible refine Grow.setCell ?_ ?hp _; (case hp => (simp; try omega))) | with_reducible refine Grow.trans ?_ (by assumption))))
        refine held_quiet (v := ?vq0) rfl rfl (Or.inl ⟨by rfl, ?hyq0⟩) ?_
        case hyq0 => (intro u hu; go_simp; (try with_reducible rfl))
        (try simp only [Act.put, List.setIfInBounds_toArray])
        refine held_quiet (v := ?vq1) rfl rfl (Or.inl ⟨by rfl, ?hyq1⟩) ?_
        case hyq1 => (intro u hu; go_simp; (try with_reducible rfl))
        (try simp only [Act.put])
        refine held_quiet (v := ?vq2) rfl rfl (Or.inl ⟨by rfl, ?hyq2⟩) ?_
        case hyq2 => (intro u hu; go_simp; (try with_reducible rfl))
        (try simp only [Act.put])
        refine held_read (v := ?vq3) rfl rfl (Or.inl ⟨by rfl, ?hyq3⟩) ?_
        case hyq3 => (intro u hu; obtain ⟨g0, g1, g2, g3, g4, g5⟩ := PC.out u (by (repeat (first | with_reducible exact Grow.refl _ | with_reducible refine Grow.alloc ?_ _ | with_reducible refine Grow.drew ?_ | with_reducible refine Grow.drewN ?_ _ | (with_reducible refine Grow.setCell ?_ ?hp _; (case hp => (simp; try omega))) | with_reducible refine Grow.trans ?_ (by assumption)))); have hg := GC.out u (by (repeat (first | with_reducible exact Grow.refl _ | with_reducible refine Grow.alloc ?_ _ | with_reducible refine Grow.drew ?_ | with_reducible refine Grow.drewN ?_ _ | (with_reducible refine Grow.setCell ?_ ?hp _; (case hp => (simp; try omega))) | with_reducible refine Grow.trans ?_ (by assumption)))); go_simp; (try with_reducible rfl))
        (try simp only [Act.put])
        refine held_quiet (v := ?vq4) rfl rfl (Or.inl ⟨by rfl, ?hyq4⟩) ?_
        case hyq4 => (intro u hu; go_simp; (try with_reducible rfl))
        (try simp only [Act.put])
        refine held_quiet (v := ?vq5) rfl rfl (Or.inl ⟨by rfl, ?hyq5⟩) ?_
        case hyq5 => (intro u hu; go_simp; (try with_reducible rfl))
        (try simp only [Act.put])
        refine held_quiet (v := ?vq6) rfl rfl (Or.inl ⟨by rfl, ?hyq6⟩) ?_
        case hyq6 => (intro u hu; go_simp; (try with_reducible rfl))
        (try simp only [Act.put])
        refine held_read (v := ?vq7) rfl rfl (Or.inl ⟨by rfl, ?hyq7⟩) ?_
        case hyq7 => (intro u hu; obtain ⟨g0, g1, g2, g3, g4, g5⟩ := PC.out u (by (repeat (first | with_reducible exact Grow.refl _ | with_reducible refine Grow.alloc ?_ _ | with_reducible refine Grow.drew ?_ | with_reducible refine Grow.drewN ?_ _ | (with_reducible refine Grow.setCell ?_ ?hp _; (case hp => (simp; try omega))) | with_reducible refine Grow.trans ?_ (by assumption)))); have hg := GC.out u (by (repeat (first | with_reducible exact Grow.refl _ | with_reducible refine Grow.alloc ?_ _ | with_reducible refine Grow.drew ?_ | with_reducible refine Grow.drewN ?_ _ | (with_reducible refine Grow.setCell ?_ ?hp _; (case hp => (simp; try omega))) | with_reducible refine Grow.trans ?_ (by assumption)))); go_simp; (try with_reducible rfl))
        (try simp only [Act.put])
        refine held_quiet (v := ?vq8) rfl rfl (Or.inl ⟨by rfl, ?hyq8⟩) ?_
        case hyq8 => (intro u hu; go_simp; (try with_reducible rfl))
        (try simp only [Act.put])
        refine held_quiet (v := ?vq9) rfl rfl (Or.inl ⟨by rfl, ?hyq9⟩) ?_
        case hyq9 => (intro u hu; go_simp; (try with_reducible rfl))
        (try simp only [Act.put])
        refine held_read (v := ?vq10) rfl rfl (Or.inl ⟨by rfl, ?hyq10⟩) ?_
        case hyq10 => (intro u hu; obtain ⟨g0, g1, g2, g3, g4, g5⟩ := PC.out u (by (repeat (first | with_reducible exact Grow.refl _ | with_reducible refine Grow.alloc ?_ _ | with_reducible refine Grow.drew ?_ | with_reducible refine Grow.drewN ?_ _ | (with_reducible refine Grow.setCell ?_ ?hp _; (case hp => (simp; try omega))) | with_reducible refine Grow.trans ?_ (by assumption)))); have hg := GC.out u (by (repeat (first | with_reducible exact Grow.refl _ | with_reducible refine Grow.alloc ?_ _ | with_reducible refine Grow.drew ?_ | with_reducible refine Grow.drewN ?_ _ | (with_reducible refine Grow.setCell ?_ ?hp _; (case hp => (simp; try omega))) | with_reducible refine Grow.trans ?_ (by assumption)))); go_simp; (try with_reducible rfl))
        (try simp only [Act.put])
        refine held_quiet (v := ?vq11) rfl rfl (Or.inl ⟨by rfl, ?hyq11⟩) ?_
        case hyq11 => (intro u hu; go_simp; (try with_reducible rfl))
        (try simp only [Act.put])
        refine held_last rfl rfl (fun K hK => ?_)
        go_simp
        (go_at_call 149; (with_reducible refine (DV.out _ (by (repeat (first | with_reducible exact Grow.refl _ | with_reducible refine Grow.alloc ?_ _ | with_reducible refine Grow.drew ?_ | with_reducible refine Grow.drewN ?_ _ | (with_reducible refine Grow.setCell ?_ ?hp _; (case hp => (simp; try omega))) | with_reducible refine Grow.trans ?_ (by assumption))))).mono ?_); (rintro e w8 ⟨rfl, hb8, hr8⟩))
        (try go_wp2_with fail)
        refine hK.out _ _ ?_
        clear hK K
        (try simp only [Act.put])
        refine held_done ?_
        have hfr := HS6.out.far1
        have hfr2 := HS6.out.far2 c hc
        have HS8 : Hid (RedS w B0 D G n m R O C w8 (d * N c c) (elimJ c 0 (elimP c N))) := Lib.hid (((HS6.out.grow (show Grow w6 w6.drew by (repeat (first | with_reducible exact Grow.refl _ | with_reducible refine Grow.alloc ?_ _ | with_reducible refine Grow.drew ?_ | with_reducible refine Grow.drewN ?_ _ | (with_reducible refine Grow.setCell ?_ ?hp _; (case hp => (simp; try omega))) | with_reducible refine Grow.trans ?_ (by assumption))))).row hc hb8 hr8).cong (fun a i ha hi => by
          rw [elimJ_zero]
          by_cases hac : a = c
          · subst hac
            rw [elimP, upd_same, upd_same]
            by_cases h : a ≤ i
            · rw [if_pos h, if_pos ⟨h, hi⟩]
            · rw [if_neg h, if_neg (by omega)]
          · rw [elimP_other _ hac, upd_other _ _ hac]))
        have HO8 : Hid (OwnI w8 (D + 1) (.slice av c cv) c xs) := Lib.hid (OwnI.but (HO6.out.grow (show Grow w6 w6.drew by (repeat (first | with_reducible exact Grow.refl _ | with_reducible refine Grow.alloc ?_ _ | with_reducible refine Grow.drew ?_ | with_reducible refine Grow.drewN ?_ _ | (with_reducible refine Grow.setCell ?_ ?hp _; (case hp => (simp; try omega))) | with_reducible refine Grow.trans ?_ (by assumption))))) hb8 (fun b hb e => by omega))
        clear HS6 HO6 hb8 hr8 PC GC DV
        go_wp2_with fail
        go_loopg [93] n (fun gk2 t93 wx => ∃ j : Nat, t93 = .int .i64 (j : Int) ∧ j ≤ n ∧ Hid (gk2 = n - j) ∧ Hid (RedS w B0 D G n m R O C wx (d * N c c) (elimJ c j (elimP c N))) ∧ Hid (OwnI wx (D + 1) (.slice av c cv) c xs))
        case atStart => exact ⟨0, rfl, Nat.zero_le _, Lib.hid rfl, HS8, HO8⟩
        case round =>
          obtain ⟨j, rfl, hj2, HGK2, HSJ, HOJ⟩ := hrel
          clear HS8 HO8
          by_cases hjn : j = n
          · have z1 : decide ((j : Int) < (n : Int)) = false := by simp; omega
            obtain ⟨ii, hii, iiz0, iiz1, iiz2⟩ := info_parts infoInt
            have hzJ := HSJ.out.det.lt
            rw [hjn] at HSJ
            have hc1 : c + 1 ≤ 1000000 := by omega
            have hDs : D + 1 ≤ (wr.alloc (.cells #[.int .i64 (c : Int)] 3)).heap.size := by simp; omega
            have hcell : (wr.alloc (.cells #[.int .i64 (c : Int)] 3)).cell? ⟨wr.heap.size, 0, none⟩ = some (.int .i64 (c : Int)) := by rw [World.cell?_alloc_at _ _ _ _ rfl]; rfl
            have hoc : OwnI (wr.alloc (.cells #[.int .i64 (c : Int)] 3)) (D + 1) (.slice av c cv) c xs := HOJ.out.grow ((Grow.refl _).alloc _)
            have y4 : IntKind.i64.wrap ((c : Int) + 1) = ((c + 1 : Nat) : Int) := (IntWalk.i64_in ((c : Int) + 1) (by omega)).trans (by omega)
            have y3 : wrap64 ((c : Int) + 1) = ((c + 1 : Nat) : Int) := by clear y4; unfold wrap64; omega
            go_wp2_with (at_builtin; refine wpList_append_int _ rfl _ _ 29 rfl ii Tryz.underlying29 hii iiz0 iiz1 iiz2 (D + 1) (.slice av c cv) c xs rfl hoc ⟨wr.heap.size, 0, none⟩ 1 (c : Int) rfl hcell hc1 hDs ?_)
            intro v9 w9 hown9 hb9
            obtain ⟨a9, c9, rfl⟩ := hown9.form
            have HS9 := Lib.hid ((HSJ.out.grow ((Grow.refl _).alloc _)).app hb9)
            have HO9 := Lib.hid hown9
            clear hown9 hb9 hii iiz0 iiz1 iiz2 hcell hoc
            go_wp2_with fail
            clear y3 y4
            go_roundg (n - (c + 1))
            case measure => have := HGK.out; omega
            case rel => exact ⟨c + 1, c9, a9, _, rfl, rfl, by omega, Lib.hid rfl, Lib.hid (by rw [HSM.out, HSD.out]; exact HS9.out), HO9⟩
          · have hj : j < n := by omega
            have x0 : (0 : Int) ≤ (j : Int) := by omega
            have x1 : (j : Int) < (n : Int) := by omega
            by_cases hjc : j = c
            · obtain rfl : c = j := hjc.symm
              have y4 : IntKind.i64.wrap ((c : Int) + 1) = ((c + 1 : Nat) : Int) := (IntWalk.i64_in ((c : Int) + 1) (by omega)).trans (by omega)
              have y3 : wrap64 ((c : Int) + 1) = ((c + 1 : Nat) : Int) := by clear y4; unfold wrap64; omega
              go_wp2_with fail
              clear y3 y4
              go_roundg (n - (c + 1))
              case measure => have := HGK2.out; omega
              case rel => exact ⟨c + 1, rfl, by omega, Lib.hid rfl, Lib.hid (by rw [elimJ_skip]; exact HSJ.out), HOJ⟩
            · have e1 : elimJ c j (elimP c N) j = N j := by rw [elimJ_at, elimP_other _ hjc]
              have hrow := HSJ.out.grid.row j hj
              have hrowc := HSJ.out.grid.row c hc
              rw [e1] at hrow
              rw [elimJ_pivot] at hrowc
              obtain ⟨s2, a2, l2, c2, t2, b2, k2, e2, hcJ, hvJ⟩ := row_cells hrow (show c < m by omega)
              have JC := Lib.hid hcJ
              have GJ := Lib.hid (HSJ.out.grid.cells hj)
              have GC := Lib.hid (HSJ.out.grid.cells hc)
              have NZ := Lib.hid (fun u hu => nonzeroQ (N j c) _ u (hvJ.grow hu))
              have xn : ¬ ((j : Int) = (c : Int)) := by omega
              have hRne : R j ≠ R c := fun e => hjc (HSJ.out.grid.inj j c hj hc e)
              clear hcJ
              obtain ⟨f0, f1, f2, f3, f4, f5⟩ := JC.out wr (Grow.refl _)
              have f6 := GJ.out wr (Grow.refl _)
              by_cases hz : N j c = 0
              · rw [decide_eq_false (show ¬ N j c ≠ 0 by simpa using hz)] at NZ
                clear hrow hrowc hvJ
                have y4 : IntKind.i64.wrap ((j : Int) + 1) = ((j + 1 : Nat) : Int) := (IntWalk.i64_in ((j : Int) + 1) (by omega)).trans (by omega)
                have y3 : wrap64 ((j : Int) + 1) = ((j + 1 : Nat) : Int) := by clear y4; unfold wrap64; omega
                go_wp2_with (go_at_call 96; (with_reducible refine (NZ.out _ (by (repeat (first | with_reducible exact Grow.refl _ | with_reducible refine Grow.alloc ?_ _ | with_reducible refine Grow.drew ?_ | with_reducible refine Grow.drewN ?_ _ | (with_reducible refine Grow.setCell ?_ ?hp _; (case hp => (simp; try omega))) | with_reducible refine Grow.trans ?_ (by assumption))))).mono ?_); (rintro e u4 ⟨rfl, hb4⟩))
                clear y3 y4
                go_roundg (n - (j + 1))
                case measure => have := HGK2.out; omega
                case rel => exact ⟨j + 1, rfl, by omega, Lib.hid rfl, Lib.hid (by rw [elimJ_zero_row _ _ _ (by rw [elimP_other _ hjc]; exact hz)]; exact HSJ.out.grow (by (repeat (first | with_reducible exact Grow.refl _ | with_reducible refine Grow.alloc ?_ _ | with_reducible refine Grow.drew ?_ | with_reducible refine Grow.drewN ?_ _ | (with_reducible refine Grow.setCell ?_ ?hp _; (case hp => (simp; try omega))) | with_reducible refine Grow.trans ?_ (by assumption))))), Lib.hid (HOJ.out.grow (by (repeat (first | with_reducible exact Grow.refl _ | with_reducible refine Grow.alloc ?_ _ | with_reducible refine Grow.drew ?_ | with_reducible refine Grow.drewN ?_ _ | (with_reducible refine Grow.setCell ?_ ?hp _; (case hp => (simp; try omega))) | with_reducible refine Grow.trans ?_ (by assumption)))))⟩
              · rw [decide_eq_true (show N j c ≠ 0 from hz)] at NZ
                have NG := Lib.hid (fun u hu => negQ (N j c) _ u (hvJ.grow hu))
                have CB : Hid (∀ u v, RatR u v (-(N j c)) → Grow wr u → _) := Lib.hid (fun u v hv hu => combineQ (-(N j c)) v (R j) (O j) m (C j) (R c) (O c) m (C c) c (N j) (elimP c N c) hRne (by omega) (Nat.le_refl _) (by omega) (HRB.out.row j hj hjc hz) u hv (RowP.grow hrow hu) (RowP.grow hrowc hu))
                clear hrow hrowc hvJ
                go_upto_region 19 with (go_at_call 96; (with_reducible refine (NZ.out _ (by (repeat (first | with_reducible exact Grow.refl _ | with_reducible refine Grow.alloc ?_ _ | with_reducible refine Grow.drew ?_ | with_reducible refine Grow.drewN ?_ _ | (with_reducible refine Grow.setCell ?_ ?hp _; (case hp => (simp; try omega))) | with_reducible refine Grow.trans ?_ (by assumption))))).mono ?_); (rintro e u4 ⟨rfl, hb4⟩))
                clear f0 f1 f2 f3 f4 f5 f6
                refine region_held (id := 19) (fun u => Grow wr u) [0, 1, 2, 3, 4, 5, 6, 7, 8, 9, 10, 11, 12, 13, 14, 16, 15, 17] (kdL [0, 0, 0, 1, 0, 0, 0, 1, 0, 0, 0, 1, 0, 0, 1, 2, 0, 3]) (by kernel_rfl) (by kernel_rfl) (fun t ht => kdL_lt _ t ht) ?hS0r ?_
                case hS0r => ((try dsimp only); (repeat (first | with_reducible exact Grow.refl _ | with_reducible refine Grow.alloc ?_ _ | with_reducible refine Grow.drew ?_ | with_reducible refine Grow.drewN ?_ _ | (with_reducible refine Grow.setCell ?_ ?hp _; (case hp => (simp; try omega))) | with_reducible refine Grow.trans ?_ (by assumption))))
                refine held_quiet (v := ?vr0) rfl rfl (Or.inl ⟨by rfl, ?hyr0⟩) ?_
                case hyr0 => (intro u hu; go_simp; (try with_reducible rfl))
                (try simp only [Act.put, List.setIfInBounds_toArray])
                refine held_quiet (v := ?vr1) rfl rfl (Or.inl ⟨by rfl, ?hyr1⟩) ?_
                case hyr1 => (intro u hu; go_simp; (try with_reducible rfl))
                (try simp only [Act.put])
                refine held_quiet (v := ?vr2) rfl rfl (Or.inl ⟨by rfl, ?hyr2⟩) ?_
                case hyr2 => (intro u hu; go_simp; (try with_reducible rfl))
                (try simp only [Act.put])
                refine held_read (v := ?vr3) rfl rfl (Or.inl ⟨by rfl, ?hyr3⟩) ?_
                case hyr3 => (intro u hu; obtain ⟨g0, g1, g2, g3, g4, g5⟩ := JC.out u (by (repeat (first | with_reducible exact Grow.refl _ | with_reducible refine Grow.alloc ?_ _ | with_reducible refine Grow.drew ?_ | with_reducible refine Grow.drewN ?_ _ | (with_reducible refine Grow.setCell ?_ ?hp _; (case hp => (simp; try omega))) | with_reducible refine Grow.trans ?_ (by assumption)))); have hg := GC.out u (by (repeat (first | with_reducible exact Grow.refl _ | with_reducible refine Grow.alloc ?_ _ | with_reducible refine Grow.drew ?_ | with_reducible refine Grow.drewN ?_ _ | (with_reducible refine Grow.setCell ?_ ?hp _; (case hp => (simp; try omega))) | with_reducible refine Grow.trans ?_ (by assumption)))); have hg2 := GJ.out u (by (repeat (first | with_reducible exact Grow.refl _ | with_reducible refine Grow.alloc ?_ _ | with_reducible refine Grow.drew ?_ | with_reducible refine Grow.drewN ?_ _ | (with_reducible refine Grow.setCell ?_ ?hp _; (case hp => (simp; try omega))) | with_reducible refine Grow.trans ?_ (by assumption)))); go_simp; (try with_reducible rfl))
                (try simp only [Act.put])
                refine held_quiet (v := ?vr4) rfl rfl (Or.inl ⟨by rfl, ?hyr4⟩) ?_
                case hyr4 => (intro u hu; go_simp; (try with_reducible rfl))
                (try simp only [Act.put])
                refine held_quiet (v := ?vr5) rfl rfl (Or.inl ⟨by rfl, ?hyr5⟩) ?_
                case hyr5 => (intro u hu; go_simp; (try with_reducible rfl))
                (try simp only [Act.put])
                refine held_quiet (v := ?vr6) rfl rfl (Or.inl ⟨by rfl, ?hyr6⟩) ?_
                case hyr6 => (intro u hu; go_simp; (try with_reducible rfl))
                (try simp only [Act.put])
                refine held_read (v := ?vr7) rfl rfl (Or.inl ⟨by rfl, ?hyr7⟩) ?_
                case hyr7 => (intro u hu; obtain ⟨g0, g1, g2, g3, g4, g5⟩ := JC.out u (by (repeat (first | with_reducible exact Grow.refl _ | with_reducible refine Grow.alloc ?_ _ | with_reducible refine Grow.drew ?_ | with_reducible refine Grow.drewN ?_ _ | (with_reducible refine Grow.setCell ?_ ?hp _; (case hp => (simp; try omega))) | with_reducible refine Grow.trans ?_ (by assumption)))); have hg := GC.out u (by (repeat (first | with_reducible exact Grow.refl _ | with_reducible refine Grow.alloc ?_ _ | with_reducible refine Grow.drew ?_ | with_reducible refine Grow.drewN ?_ _ | (with_reducible refine Grow.setCell ?_ ?hp _; (case hp => (simp; try omega))) | with_reducible refine Grow.trans ?_ (by assumption)))); have hg2 := GJ.out u (by (repeat (first | with_reducible exact Grow.refl _ | with_reducible refine Grow.alloc ?_ _ | with_reducible refine Grow.drew ?_ | with_reducible refine Grow.drewN ?_ _ | (with_reducible refine Grow.setCell ?_ ?hp _; (case hp => (simp; try omega))) | with_reducible refine Grow.trans ?_ (by assumption)))); go_simp; (try with_reducible rfl))
                (try simp only [Act.put])
                refine held_quiet (v := ?vr8) rfl rfl (Or.inl ⟨by rfl, ?hyr8⟩) ?_
                case hyr8 => (intro u hu; go_simp; (try with_reducible rfl))
                (try simp only [Act.put])
                refine held_quiet (v := ?vr9) rfl rfl (Or.inl ⟨by rfl, ?hyr9⟩) ?_
                case hyr9 => (intro u hu; go_simp; (try with_reducible rfl))
                (try simp only [Act.put])
                refine held_quiet (v := ?vr10) rfl rfl (Or.inl ⟨by rfl, ?hyr10⟩) ?_
                case hyr10 => (intro u hu; go_simp; (try with_reducible rfl))
                (try simp only [Act.put])
                refine held_read (v := ?vr11) rfl rfl (Or.inl ⟨by rfl, ?hyr11⟩) ?_
                case hyr11 => (intro u hu; obtain ⟨g0, g1, g2, g3, g4, g5⟩ := JC.out u (by (repeat (first | with_reducible exact Grow.refl _ | with_reducible refine Grow.alloc ?_ _ | with_reducible refine Grow.drew ?_ | with_reducible refine Grow.drewN ?_ _ | (with_reducible refine Grow.setCell ?_ ?hp _; (case hp => (simp; try omega))) | with_reducible refine Grow.trans ?_ (by assumption)))); have hg := GC.out u (by (repeat (first | with_reducible exact Grow.refl _ | with_reducible refine Grow.alloc ?_ _ | with_reducible refine Grow.drew ?_ | with_reducible refine Grow.drewN ?_ _ | (with_reducible refine Grow.setCell ?_ ?hp _; (case hp => (simp; try omega))) | with_reducible refine Grow.trans ?_ (by assumption)))); have hg2 := GJ.out u (by (repeat (first | with_reducible exact Grow.refl _ | with_reducible refine Grow.alloc ?_ _ | with_reducible refine Grow.drew ?_ | with_reducible refine Grow.drewN ?_ _ | (with_reducible refine Grow.setCell ?_ ?hp _; (case hp => (simp; try omega))) | with_reducible refine Grow.trans ?_ (by assumption)))); go_simp; (try with_reducible rfl))
                (try simp only [Act.put])
                refine held_quiet (v := ?vr12) rfl rfl (Or.inl ⟨by rfl, ?hyr12⟩) ?_
                case hyr12 => (intro u hu; go_simp; (try with_reducible rfl))
                (try simp only [Act.put])
                refine held_quiet (v := ?vr13) rfl rfl (Or.inl ⟨by rfl, ?hyr13⟩) ?_
                case hyr13 => (intro u hu; go_simp; (try with_reducible rfl))
                (try simp only [Act.put])
                refine held_read (v := ?vr14) rfl rfl (Or.inl ⟨by rfl, ?hyr14⟩) ?_
                case hyr14 => (intro u hu; obtain ⟨g0, g1, g2, g3, g4, g5⟩ := JC.out u (by (repeat (first | with_reducible exact Grow.refl _ | with_reducible refine Grow.alloc ?_ _ | with_reducible refine Grow.drew ?_ | with_reducible refine Grow.drewN ?_ _ | (with_reducible refine Grow.setCell ?_ ?hp _; (case hp => (simp; try omega))) | with_reducible refine Grow.trans ?_ (by assumption)))); have hg := GC.out u (by (repeat (first | with_reducible exact Grow.refl _ | with_reducible refine Grow.alloc ?_ _ | with_reducible refine Grow.drew ?_ | with_reducible refine Grow.drewN ?_ _ | (with_reducible refine Grow.setCell ?_ ?hp _; (case hp => (simp; try omega))) | with_reducible refine Grow.trans ?_ (by assumption)))); have hg2 := GJ.out u (by (repeat (first | with_reducible exact Grow.refl _ | with_reducible refine Grow.alloc ?_ _ | with_reducible refine Grow.drew ?_ | with_reducible refine Grow.drewN ?_ _ | (with_reducible refine Grow.setCell ?_ ?hp _; (case hp => (simp; try omega))) | with_reducible refine Grow.trans ?_ (by assumption)))); go_simp; (try with_reducible rfl))
                (try simp only [Act.put])
                refine held_quiet (v := ?vr16) rfl rfl (Or.inl ⟨by rfl, ?hyr16⟩) ?_
                case hyr16 => (intro u hu; go_simp; (try with_reducible rfl))
                (try simp only [Act.put])
                refine held_op rfl rfl (fun K hK => ?_)
                go_simp
                (go_at_call 36; (with_reducible refine (NG.out _ (by (repeat (first | with_reducible exact Grow.refl _ | with_reducible refine Grow.alloc ?_ _ | with_reducible refine Grow.drew ?_ | with_reducible refine Grow.drewN ?_ _ | (with_reducible refine Grow.setCell ?_ ?hp _; (case hp => (simp; try omega))) | with_reducible refine Grow.trans ?_ (by assumption))))).mono ?_); (rintro e u5 ⟨v5, rfl, hv5, hb5⟩; obtain ⟨s5, a5, l5, c5, t5, b5, k5, e5, rfl⟩ := hv5.form; have HV5 := Lib.hid hv5; clear hv5))
                (try go_wp2_with fail)
                refine hK.out _ _ ?hSr15 ?_
                case hSr15 => ((try dsimp only); (repeat (first | with_reducible exact Grow.refl _ | with_reducible refine Grow.alloc ?_ _ | with_reducible refine Grow.drew ?_ | with_reducible refine Grow.drewN ?_ _ | (with_reducible refine Grow.setCell ?_ ?hp _; (case hp => (simp; try omega))) | with_reducible refine Grow.trans ?_ (by assumption))))
                clear hK K
                (try simp only [Act.put])
                refine held_last rfl rfl (fun K hK => ?_)
                go_simp
                (go_at_call 150; (with_reducible refine (CB.out _ _ HV5.out (by (repeat (first | with_reducible exact Grow.refl _ | with_reducible refine Grow.alloc ?_ _ | with_reducible refine Grow.drew ?_ | with_reducible refine Grow.drewN ?_ _ | (with_reducible refine Grow.setCell ?_ ?hp _; (case hp => (simp; try omega))) | with_reducible refine Grow.trans ?_ (by assumption))))).mono ?_); (rintro e w9 ⟨rfl, hb9, hr9⟩))
                (try go_wp2_with fail)
                refine hK.out _ _ ?_
                clear hK K
                (try simp only [Act.put])
                refine held_done ?_
                have HS9 : Hid (RedS w B0 D G n m R O C w9 (d * N c c) (elimJ c (j + 1) (elimP c N))) := Lib.hid (((HSJ.out.grow (show Grow wr u5 by (repeat (first | with_reducible exact Grow.refl _ | with_reducible refine Grow.alloc ?_ _ | with_reducible refine Grow.drew ?_ | with_reducible refine Grow.drewN ?_ _ | (with_reducible refine Grow.setCell ?_ ?hp _; (case hp => (simp; try omega))) | with_reducible refine Grow.trans ?_ (by assumption))))).row hj hb9 hr9).cong (fun a i ha hi => by
                  rw [elimJ_row _ _ _ hjc]
                  by_cases haj : a = j
                  · subst haj
                    rw [upd_same, upd_same, elimP_other _ hjc]
                    by_cases h : c ≤ i
                    · rw [if_pos h, if_pos ⟨h, hi⟩]
                    · rw [if_neg h, if_neg (by omega)]
                  · rw [upd_other _ _ haj, upd_other _ _ haj]))
                have hfar2 := HSJ.out.far2 j hj
                have hfar1 := HSJ.out.far1
                have HO9 : Hid (OwnI w9 (D + 1) (.slice av c cv) c xs) := Lib.hid (OwnI.but (HOJ.out.grow (show Grow wr u5 by (repeat (first | with_reducible exact Grow.refl _ | with_reducible refine Grow.alloc ?_ _ | with_reducible refine Grow.drew ?_ | with_reducible refine Grow.drewN ?_ _ | (with_reducible refine Grow.setCell ?_ ?hp _; (case hp => (simp; try omega))) | with_reducible refine Grow.trans ?_ (by assumption))))) hb9 (fun b hb e => by omega))
                clear hb9 hr9
                have y4 : IntKind.i64.wrap ((j : Int) + 1) = ((j + 1 : Nat) : Int) := (IntWalk.i64_in ((j : Int) + 1) (by omega)).trans (by omega)
                have y3 : wrap64 ((j : Int) + 1) = ((j + 1 : Nat) : Int) := by clear y4; unfold wrap64; omega
                go_wp2_with fail
                clear y3 y4
                go_roundg (n - (j + 1))
                case measure => have := HGK2.out; omega
                case rel => exact ⟨j + 1, rfl, by omega, Lib.hid rfl, HS9, HO9⟩
end Go.Proofs.YtbpkfcohbefphaaGreat
/- The diagonal form of a symmetric matrix: the plain steps and their bounds. -/
namespace Go.Proofs.YtbpkfcohbefphaaGreat
open Go Go.RowKit

/-- Row i times f added to row r. -/
def sigA (f : Rat) (i r : Nat) (M : Nat → Nat → Rat) : Nat → Nat → Rat := fun a b => if a = r then M r b + f * M i b else M a b
/-- Column i times f added to column r. -/
def sigB (f : Rat) (i r : Nat) (M : Nat → Nat → Rat) : Nat → Nat → Rat := fun a b => if b = r then M a r + f * M a i else M a b
/-- Row r and column r cleared by the pivot i. -/
def sigRow (i r : Nat) (M : Nat → Nat → Rat) : Nat → Nat → Rat :=
  if M r i = 0 then M else sigB (-(M r i / M i i)) i r (sigA (-(M r i / M i i)) i r M)
/-- Rows before j cleared. -/
def sigJ (i : Nat) : Nat → (Nat → Nat → Rat) → (Nat → Nat → Rat)
  | 0, M => M
  | j + 1, M => if j ≤ i then sigJ i j M else sigRow i j (sigJ i j M)
def sigM (n : Nat) : Nat → (Nat → Nat → Rat) → (Nat → Nat → Rat)
  | 0, M => M
  | k + 1, M => sigJ k n (sigM n k M)
/-- One row stays in one digit. -/
structure SigRB (n i r : Nat) (M : Nat → Nat → Rat) : Prop where
  quo : QuoB (M r i) (M i i)
  row : ∀ c, c < n → MulB (-(M r i / M i i)) (M i c) ∧ AddB (M r c) (-(M r i / M i i) * M i c)
  col : ∀ c, c < n → MulB (-(M r i / M i i)) (sigA (-(M r i / M i i)) i r M c i) ∧ AddB (sigA (-(M r i / M i i)) i r M c r) (-(M r i / M i i) * sigA (-(M r i / M i i)) i r M c i)
/-- One step stays in one digit; the pivot is positive. -/
structure SigSB (n i : Nat) (M : Nat → Nat → Rat) : Prop where
  piv : 0 < M i i
  rows : ∀ r, i < r → r < n → sigJ i r M r i ≠ 0 → SigRB n i r (sigJ i r M)
theorem sigA_other {f : Rat} {i r a : Nat} (M : Nat → Nat → Rat) (h : a ≠ r) : sigA f i r M a = M a := by
  funext b; simp [sigA, h]
theorem sigA_row (f : Rat) (i r : Nat) (M : Nat → Nat → Rat) : sigA f i r M r = fun b => M r b + f * M i b := by
  funext b; simp [sigA]
theorem sigRow_zero {i r : Nat} {M : Nat → Nat → Rat} (h : M r i = 0) : sigRow i r M = M := by simp [sigRow, h]
theorem sigRow_pos {i r : Nat} {M : Nat → Nat → Rat} (h : M r i ≠ 0) : sigRow i r M = sigB (-(M r i / M i i)) i r (sigA (-(M r i / M i i)) i r M) := by simp [sigRow, h]
theorem sigRow_at (i r : Nat) (M : Nat → Nat → Rat) (a b : Nat) (ha : a ≠ r) (hb : b ≠ r) : sigRow i r M a b = M a b := by
  unfold sigRow
  split
  · rfl
  · simp [sigB, sigA, ha, hb]
theorem sigJ_at (i : Nat) : ∀ (j : Nat) (M : Nat → Nat → Rat) (a b : Nat), (a ≤ i ∨ j ≤ a) → (b ≤ i ∨ j ≤ b) → sigJ i j M a b = M a b
  | 0, _, _, _, _, _ => rfl
  | j + 1, M, a, b, ha, hb => by
    unfold sigJ
    split
    · exact sigJ_at i j M a b (by omega) (by omega)
    · rw [sigRow_at _ _ _ _ _ (by omega) (by omega)]
      exact sigJ_at i j M a b (by omega) (by omega)
end Go.Proofs.YtbpkfcohbefphaaGreat
