/- Lemmas, plain laws and walks that the statement LwKronecker leans on (texts BnE), conditions as each theorem says. -/
import Derived.Test.YtbpkfcohbefphaaGreatDoorTopKhG22
import Derived.Test.YtbpkfcohbefphaaGreatDoorTopKhG26

namespace Go.Proofs.YtbpkfcohbefphaaGreatDoor
open Go Go.RowKit Go.Shelf
theorem MagR.kept {w w' : World} {m : Value} {n : Nat} {row : Option Nat} (h : MagR w m n) (hg : w.grownBy w' row) (hr : ∀ q, row = some q → ∃ o : Obj, w.heap[q]? = some o ∧ o.isCells = false) : MagR w' m n := by
  rcases h with h | ⟨h0, h1, b, off, cap, hm, hk, hb, hc⟩
  · exact .inl h
  · exact .inr ⟨h0, h1, b, off, cap, hm, hk, Nat.lt_of_lt_of_le hb hg.size, cell_kept hc hg hr⟩
theorem RatR.kept {w w' : World} {v : Value} {x : Rat} {row : Option Nat} (h : RatR w v x) (hg : w.grownBy w' row) (hr : ∀ q, row = some q → ∃ o : Obj, w.heap[q]? = some o ∧ o.isCells = false) : RatR w' v x := by
  obtain ⟨m1, m2, hv, h1, h2⟩ := h
  exact ⟨m1, m2, hv, h1.kept hg hr, h2.kept hg hr⟩
theorem RowP.kept {w w' : World} {B : Nat} {r : Nat → Option Rat} {row : Option Nat} (h : RowP w B 0 1 r) (hg : w.grownBy w' row) (hr : ∀ q, row = some q → ∃ o : Obj, w.heap[q]? = some o ∧ o.isCells = false) : RowP w' B 0 1 r := by
  obtain ⟨_, _, _, _, _, _, _, _, h1, -⟩ := h.at4 0 (by omega)
  obtain ⟨o, ho, hc⟩ := cells_of_cell (a := ⟨B, 0 + 0 * 4, none⟩) h1.1
  have hb : w'.heap[B]? = w.heap[B]? := grownBy_keeps_cells hg hr ho hc
  refine ⟨Nat.lt_of_lt_of_le h.lt hg.size, fun o => (World.frozen?_of_block hb).trans (h.free o), fun j hj => ?_⟩
  obtain ⟨s, a, l, c, t, b, k, e, ⟨q1, q2, q3, q4⟩, hx⟩ := h.at4 j hj
  exact ⟨s, a, l, c, t, b, k, e, ⟨(World.cell?_of_block hb).trans q1, (World.cell?_of_block hb).trans q2, (World.cell?_of_block hb).trans q3, (World.cell?_of_block hb).trans q4⟩, fun x h2 => (hx x h2).kept hg hr⟩
theorem rowp_own {β : Type} (B : Nat) (f : β → Nat → Option Rat) : Own (fun s W => RowP W B 0 1 (f s)) := fun _ _ _ _ hs hg hr => RowP.kept hs hg hr
/-- out, when pre has come. -/
def stE (x : Rat) (pre : List (Fin 2)) : Rat := pre.foldl (fun s i => s * x + plN i.val) 0
theorem stE_snoc (x : Rat) (pre : List (Fin 2)) (i : Fin 2) : stE x (pre ++ [i]) = stE x pre * x + plN i.val := by simp [stE]
theorem sm_pl (i : Nat) : Sm (plN i) 1 2 := by
  unfold plN
  split
  · exact ⟨by decide +kernel, by decide +kernel⟩
  · exact ⟨by decide +kernel, by decide +kernel⟩
theorem sm_stE (x : Rat) (pre : List (Fin 2)) (h : pre.length < 2) : Sm (stE x pre) 1 2 := by
  match pre, h with
  | [], _ =>
    have h1 : stE x [] = 0 := rfl
    rw [h1]; exact ⟨by decide +kernel, by decide +kernel⟩
  | [i], _ =>
    have h1 : stE x [i] = plN i.val := by simp [stE, Rat.zero_mul, Rat.zero_add]
    rw [h1]; exact sm_pl _
  | _ :: _ :: _, h => simp at h; omega
theorem stE_all (x : Rat) : stE x [1, 0] = x + mkRat (-1) 2 := by
  have h1 : plN 1 = 1 := by decide +kernel
  have h0 : plN 0 = mkRat (-1) 2 := by decide +kernel
  show (0 * x + plN 1) * x + plN 0 = _
  rw [h1, h0, Rat.zero_mul, Rat.zero_add, Rat.one_mul]
attribute [local go_sem] Oper.semAt_some
set_option maxRecDepth 100000 in
set_option maxHeartbeats 8000000 in
theorem evalQ (g c : Nat) (x : Rat) (v1 : Value) (hx : Sm x 60 60) (w : World) (hr : RowQ w g 0 2 plN) (h1 : RatR w v1 x) : Calls Tryz.prog 58 #[.slice (some ⟨g, 0, none⟩) 2 c, v1] w fun e w' => ∃ v, e = .returned v ∧ RatR w' v (x + mkRat (-1) 2) ∧ Grow w w' := by
  obtain ⟨s1, a1, l1, c1, t1, b1, k1, e1, rfl⟩ := h1.form
  obtain ⟨r, hr0, hr1⟩ : ∃ r : Fin 2 → RV, (∀ u, Grow w u → u.cell? ⟨g, 0, none⟩ = some (.bool (r 0).s) ∧ u.cell? ⟨g, 1, none⟩ = some (.slice (r 0).a (r 0).l (r 0).c) ∧ u.cell? ⟨g, 2, none⟩ = some (.bool (r 0).t) ∧ u.cell? ⟨g, 3, none⟩ = some (.slice (r 0).b (r 0).k (r 0).e) ∧ u.cell? ⟨g, 4, none⟩ = some (.bool (r 1).s) ∧ u.cell? ⟨g, 5, none⟩ = some (.slice (r 1).a (r 1).l (r 1).c) ∧ u.cell? ⟨g, 6, none⟩ = some (.bool (r 1).t) ∧ u.cell? ⟨g, 7, none⟩ = some (.slice (r 1).b (r 1).k (r 1).e)) ∧ ∀ i : Fin 2, RatR w (r i).val (plN i.val) := by
    obtain ⟨s7, a7, l7, c7, t7, b7, k7, e7, hc7, hv7⟩ := RowQ.cellj hr 0 (by omega)
    obtain ⟨s8, a8, l8, c8, t8, b8, k8, e8, hc8, hv8⟩ := RowQ.cellj hr 1 (by omega)
    simp only [Nat.zero_mul, Nat.zero_add, Nat.one_mul] at hc7 hc8
    refine ⟨fun i => if i.val = 0 then ⟨s7, a7, l7, c7, t7, b7, k7, e7⟩ else ⟨s8, a8, l8, c8, t8, b8, k8, e8⟩, fun u hu => ?_, fun i => ?_⟩
    · obtain ⟨p0, p1, p2, p3⟩ := hc7 u hu
      obtain ⟨q0, q1, q2, q3⟩ := hc8 u hu
      exact ⟨p0, p1, p2, p3, q0, q1, q2, q3⟩
    · match i with
      | 0 => exact hv7
      | 1 => exact hv8
  have hgl := hr.lt
  have O0 := Lib.hid (fun u => ofQ 0 (by decide) u)
  have HRC := Lib.hid hr0
  have HRV := Lib.hid hr1
  have MU := Lib.hid (fun (pre : List (Fin 2)) (hp : pre.length < 2) (u : World) v v' (g1 : RatR u v (stE x pre)) (g2 : RatR u v' x) => mulQ (stE x pre) x v v' ((sm_stE x pre hp).mulB hx (by omega) (by omega)).1 ((sm_stE x pre hp).mulB hx (by omega) (by omega)).2 u g1 g2)
  have AD := Lib.hid (fun (pre : List (Fin 2)) (i : Fin 2) (hp : pre.length < 2) (u : World) v v' (g1 : RatR u v (stE x pre * x)) (g2 : RatR u v' (plN i.val)) => addQ (stE x pre * x) (plN i.val) v v' (((sm_stE x pre hp).mul hx).addB (sm_pl i.val) (by omega) (by omega)) u g1 g2)
  obtain ⟨W1, hW1⟩ : ∃ W1 : World, W1 = w.alloc (.cells #[.bool s1, .slice a1 l1 c1, .bool t1, .slice b1 k1 e1] 27) := ⟨_, rfl⟩
  obtain ⟨W2, hW2⟩ : ∃ W2 : World, W2 = W1.alloc (.cells #[.bool false, .slice none 0 0, .bool false, .slice none 0 0] 27) := ⟨_, rfl⟩
  have hz1 : W1.heap.size = w.heap.size + 1 := by rw [hW1]; simp
  have hz2 : W2.heap.size = w.heap.size + 2 := by rw [hW2]; simp [hz1]
  have hg2 : Grow w W2 := (ag hW1).trans (ag hW2)
  have HB3 : Hid (RowQ W2 w.heap.size 0 1 (fun _ => x)) := Lib.hid (RowP.grow (rowq_lay hW1 h1) (ag hW2))
  have HB4 : Hid (RowP W2 (w.heap.size + 1) 0 1 (fun _ => none)) := Lib.hid (by rw [hW2, ← hz1]; exact rowp_alloc W1 _)
  have HG2 := Lib.hid hg2
  clear hr0 hr1 h1 hr hg2
  refine (callsIn_wide (n := 5)).1 ?_
  refine callsIn_of_wp_marks Tryz.func58 rfl trivial ?_ rfl
  simp only [Tryz.ntmps58, List.size_toArray, List.length_cons, List.length_nil, Nat.reduceAdd, Nat.reduceSub, Array.replicate_succ, Array.replicate_zero, List.push_toArray, List.append_toArray, List.nil_append, List.cons_append]
  refine wpIn_wide.2 ?_
  go_upto_region 1 with fail
  rw [← hW1, ← hW2]
  have HZ2 := Lib.hid hz2
  clear hW1 hW2 hz1 hz2
  go_upto_region 2 with (go_at_call 20; (with_reducible refine (O0.out _).mono ?_); (rintro e u3 ⟨v3, rfl, hv3, hb3⟩; obtain ⟨s3, a3, l3, c3, t3, b3, k3, e3, rfl⟩ := hv3.form; have HV3 := Lib.hid hv3; have HG3 := Lib.hid hb3; clear hv3 hb3))
  obtain ⟨W4, hW4⟩ : ∃ W4 : World, W4 = u3.alloc (.cells #[.bool s3, .slice a3 l3 c3, .bool t3, .slice b3 k3 e3] 27) := ⟨_, rfl⟩
  rw [← hW4]
  have HX4 := Lib.hid (rowq_lay hW4 HV3.out)
  have HG4 := Lib.hid (HG3.out.trans (ag hW4))
  have hz3 : w.heap.size + 2 ≤ u3.heap.size := by have := HG3.out.size; rw [HZ2.out] at this; exact this
  have hz4 : W4.heap.size = u3.heap.size + 1 := by rw [hW4]; simp
  obtain ⟨X, hX⟩ : ∃ X, u3.heap.size = X := ⟨_, rfl⟩
  rw [hX] at HX4 hz3 hz4
  try rw [hX]
  clear hW4 hX HV3 HG3 O0
  go_wp2_with (go_at_call 97; (with_reducible refine (backQ _ _ _ _).mono ?_); (rintro e u5 ⟨rfl, hW5⟩))
  obtain ⟨W5, hW6⟩ : ∃ W5 : World, W5 = W4.alloc (.cells #[.slice (some ⟨g, 0, none⟩) 2 c] 87) := ⟨_, rfl⟩
  rw [← hW6]
  obtain ⟨z0, -, z2⟩ := ak1 hW6 W5 (Grow.refl _)
  have hg45 := ag hW6
  have hz5 : W5.heap.size = X + 2 := by rw [hW6]; simp [hz4]
  rw [hz4] at z0 z2
  have hG5 : Grow w W5 := HG2.out.trans (HG4.out.trans hg45)
  have hB3 : RowQ W5 w.heap.size 0 1 (fun _ => x) := RowP.grow HB3.out (HG4.out.trans hg45)
  have hB4 : RowP W5 (w.heap.size + 1) 0 1 (fun _ => none) := RowP.grow HB4.out (HG4.out.trans hg45)
  have hX5 : RowQ W5 X 0 1 (fun _ => ((0 : Int) : Rat)) := RowP.grow HX4.out hg45
  obtain ⟨p0, p1, p2, p3, p4, p5, p6, p7⟩ := HRC.out W5 hG5
  clear hW6 hg45 HB3 HB4 HX4 HG4 HRC hz4
  refine (wpIn_wide (n := 5)).1 ?_
  refine wpIn_rangeFunc_ownH (F := Fence.wide) rfl (by omega) (gf := 118) (lb := #[.pointer (some ⟨X + 1, 0, none⟩)]) rfl trivial (enters_of Tryz.func118 (by kernel_rfl) rfl)
    (back_stops (5 - 1) (by omega) (X + 1) g c (X + 2) X r (by omega) (by omega) (by omega) (by omega) W5 hz5.symm z0 p0 p1 p2 p3 p4 p5 p6 p7)
    (fun h h' => KpX.trans h h') (fun W l o o' hl ho _ _ => ⟨(grownBy_putObj' W l o').size, fun k hk _ => World.putObj_heap_other (fun e => by omega)⟩) (Below.refl _ _) (fun _ => rfl)
    (fun pre W => ((RowP W X 0 1 (fun _ => some (stE x pre)) ∧ RowP W w.heap.size 0 1 (fun _ => some x)) ∧ RowP W (w.heap.size + 1) 0 1 (fun _ => none)) ∧ (Below w.heap.size w W ∧ X + 2 ≤ W.heap.size))
    (fun _ _ _ => False)
    (OwnFrom.and (OwnFrom.and (OwnFrom.and (Own.from (rowp_own X (fun pre _ => some (stE x pre))) _) (Own.from (rowp_own w.heap.size (fun _ _ => some x)) _)) (Own.from (rowp_own (w.heap.size + 1) (fun _ _ => none)) _)) (OwnFrom.and (ownFrom_below (Nat.le_refl _) (by omega)) (fun _ _ _ _ hs hg _ => Nat.le_trans hs hg.size)))
    (fun _ _ _ _ _ hs _ _ => hs)
    ⟨⟨⟨hX5, hB3⟩, hB4⟩, hG5, by omega⟩
    (fun i a' W => ∃ Bx, X < Bx ∧ W.heap[Bx]? = some (.cells #[.bool (r i).s, .slice (r i).a (r i).l (r i).c, .bool (r i).t, .slice (r i).b (r i).k (r i).e] 27 (0, 0)) ∧ a' = { tmps := #[.slice (some ⟨g, 0, none⟩) 2 c, .agg #[.bool s1, .slice a1 l1 c1, .bool t1, .slice b1 k1 e1], undef, .pointer (some ⟨w.heap.size, 0, none⟩), .pointer (some ⟨w.heap.size + 1, 0, none⟩), .pointer (some ⟨X, 0, none⟩), undef, .pointer (some ⟨Bx, 0, none⟩), .agg #[.bool s3, .slice a3 l3 c3, .bool t3, .slice b3 k3 e3], .slice (some ⟨g, 0, none⟩) 2 c, .func (.func 118) #[] #[.pointer (some ⟨X + 1, 0, none⟩)], .int .i64 (i.val : Int), (r i).val, undef, undef, undef, undef, undef, undef], defers := [] })
    (fun i a' _ W W' row hs hg hr => by
      obtain ⟨Bx, h1, h2, h3⟩ := hs
      exact ⟨Bx, h1, (grownBy_keeps_cells hg (fun q e => (hr q e).2) h2 rfl).trans h2, h3⟩)
    ?assign ?body ?done ?stop
  case assign =>
    rintro l pre i W K ⟨⟨⟨i1, i2⟩, i3⟩, i4, i5⟩ hK
    clear hX5 hB3 hB4 p0 p1 p2 p3 p4 p5 p6 p7 z0
    simp only [evI, RV.val]
    gi_wp2
    have hal : ∀ o : Obj, Grow W (W.alloc o) := fun o => (Grow.refl W).alloc o
    exact hK _ _ ((KeepsOthers.alloc _ _).from _) ⟨(hal _).size, fun k hk _ => Below.block (hal _) k (by omega)⟩ ⟨⟨⟨RowP.grow i1 (hal _), RowP.grow i2 (hal _)⟩, RowP.grow i3 (hal _)⟩, i4.trans ((hal _).mono i4.size), Nat.le_trans i5 (hal _).size⟩ ⟨W.heap.size, by omega, World.alloc_heap_new W _, rfl⟩
  case body =>
    rintro l pre i a' W hl - ⟨⟨⟨i1, i2⟩, i3⟩, i4, i5⟩ ⟨Bx, j1, j2, rfl⟩ hlt
    clear hX5 hB3 hB4 p0 p1 p2 p3 p4 p5 p6 p7 z0
    have hmx : Tryz.prog.follows .mixedOrders = true := by kernel_rfl
    obtain ⟨sx, ax, lx, cx, tx, bx, kx, ex, hcX, hvX⟩ := RowQ.cell4 (r := fun _ => stE x pre) i1
    obtain ⟨sy, ay, ly, cy, ty, by', ky, ey, hcY, hvY⟩ := RowQ.cell4 (r := fun _ => x) i2
    have hcZ : ∀ o, W.cell? ⟨Bx, o, none⟩ = (#[.bool (r i).s, .slice (r i).a (r i).l (r i).c, .bool (r i).t, .slice (r i).b (r i).k (r i).e] : Array Value)[o]? := fun o => by simp [World.cell?, j2]
    have hzl : Bx < W.heap.size := (Array.getElem?_eq_some_iff.1 j2).1
    have XC := Lib.hid hcX
    have YC := Lib.hid hcY
    have ZC := Lib.hid (fun (u : World) (hu : Grow W u) => (⟨(hu.cells _ _ hzl).trans (hcZ 0), (hu.cells _ _ hzl).trans (hcZ 1), (hu.cells _ _ hzl).trans (hcZ 2), (hu.cells _ _ hzl).trans (hcZ 3)⟩ : u.cell? ⟨Bx, 0, none⟩ = some (.bool (r i).s) ∧ u.cell? ⟨Bx, 1, none⟩ = some (.slice (r i).a (r i).l (r i).c) ∧ u.cell? ⟨Bx, 2, none⟩ = some (.bool (r i).t) ∧ u.cell? ⟨Bx, 3, none⟩ = some (.slice (r i).b (r i).k (r i).e)))
    have HVX := Lib.hid hvX
    have HVY := Lib.hid hvY
    have HVZ : Hid (RatR W (.agg #[.bool (r i).s, .slice (r i).a (r i).l (r i).c, .bool (r i).t, .slice (r i).b (r i).k (r i).e]) (plN i.val)) := Lib.hid ((HRV.out i).grow i4)
    have I1 := Lib.hid i1
    have I2 := Lib.hid i2
    have I3 := Lib.hid i3
    have I4 := Lib.hid i4
    obtain ⟨x0, x1, x2, x3, x4, x5⟩ := hcX W (Grow.refl _)
    obtain ⟨y0, y1, y2, y3, y4, y5⟩ := hcY W (Grow.refl _)
    obtain ⟨w0, w1, w2, w3⟩ := ZC.out W (Grow.refl _)
    clear hcX hvX hcY hvY hcZ j2 i1 i2 i3 i4
    gi_wp2
    gi_region_with_o (first
      | (refine ⟨trivial, ?_⟩; gi_at_call 34; (refine (CallsIn.inRound l (callsIn_wide.2 (MU.out pre hlt _ _ _ (HVX.out.grow (by (repeat (first | with_reducible exact Grow.refl _ | with_reducible refine Grow.alloc ?_ _ | with_reducible refine Grow.drew ?_ | with_reducible refine Grow.drewN ?_ _ | (with_reducible refine Grow.setCell ?_ ?hp _; (case hp => (simp; try omega))) | with_reducible refine Grow.trans ?_ (by assumption))))) (HVY.out.grow (by (repeat (first | with_reducible exact Grow.refl _ | with_reducible refine Grow.alloc ?_ _ | with_reducible refine Grow.drew ?_ | with_reducible refine Grow.drewN ?_ _ | (with_reducible refine Grow.setCell ?_ ?hp _; (case hp => (simp; try omega))) | with_reducible refine Grow.trans ?_ (by assumption)))))))).mono ?_); (rintro e u6 ⟨v6, rfl, hv6, hb6⟩; obtain ⟨s6, a6, l6, c6, t6, b6, k6, e6, rfl⟩ := hv6.form; have HV6 := Lib.hid hv6; clear hv6; have hg6 : Grow W u6 := (by (repeat (first | with_reducible exact Grow.refl _ | with_reducible refine Grow.alloc ?_ _ | with_reducible refine Grow.drew ?_ | with_reducible refine Grow.drewN ?_ _ | (with_reducible refine Grow.setCell ?_ ?hp _; (case hp => (simp; try omega))) | with_reducible refine Grow.trans ?_ (by assumption)))); obtain ⟨m0, m1, m2, m3⟩ := ZC.out u6 hg6))
      | (refine ⟨trivial, ?_⟩; gi_at_call 8; (refine (CallsIn.inRound l (callsIn_wide.2 (AD.out pre i hlt _ _ _ (HV6.out.grow (by (repeat (first | with_reducible exact Grow.refl _ | with_reducible refine Grow.alloc ?_ _ | with_reducible refine Grow.drew ?_ | with_reducible refine Grow.drewN ?_ _ | (with_reducible refine Grow.setCell ?_ ?hp _; (case hp => (simp; try omega))) | with_reducible refine Grow.trans ?_ (by assumption))))) (HVZ.out.grow (by (repeat (first | with_reducible exact Grow.refl _ | with_reducible refine Grow.alloc ?_ _ | with_reducible refine Grow.drew ?_ | with_reducible refine Grow.drewN ?_ _ | (with_reducible refine Grow.setCell ?_ ?hp _; (case hp => (simp; try omega))) | with_reducible refine Grow.trans ?_ (by assumption)))))))).mono ?_); (rintro e u7 ⟨v7, rfl, hv7, hb7⟩; obtain ⟨s7, a7, l7, c7, t7, b7, k7, e7, rfl⟩ := hv7.form; have HV7 := Lib.hid hv7; clear hv7; have hg7 : Grow W u7 := (by (repeat (first | with_reducible exact Grow.refl _ | with_reducible refine Grow.alloc ?_ _ | with_reducible refine Grow.drew ?_ | with_reducible refine Grow.drewN ?_ _ | (with_reducible refine Grow.setCell ?_ ?hp _; (case hp => (simp; try omega))) | with_reducible refine Grow.trans ?_ (by assumption)))); obtain ⟨n0, n1, n2, n3, n4, n5⟩ := XC.out u7 hg7)))
    all_goals gi_wp2
    all_goals
      obtain ⟨q1, q2⟩ := RowQ.put (r := fun _ => stE x pre) I1.out hg7 HV7.out
      exact ⟨⟨q2.size, fun k o hB hk _ => (q2.block k (Array.getElem?_eq_some_iff.1 hk).1 (by omega)).trans hk⟩, ⟨q2.size, fun k hk hx => q2.block k (by omega) hx⟩, ⟨⟨⟨by rw [stE_snoc]; exact q1, RowP.but I2.out (by omega) q2⟩, RowP.but I3.out (by omega) q2⟩, (((Grow.but I4.out _).trans q2).asGrow (fun b hb => by omega) : Grow w _), Nat.le_trans i5 q2.size⟩⟩
  case done =>
    rintro D ys W hD rfl ⟨⟨⟨i1, i2⟩, i3⟩, i4, i5⟩ hK
    clear hX5 hB3 hB4 p0 p1 p2 p3 p4 p5 p6 p7 z0 i2
    obtain ⟨sx, ax, lx, cx, tx, bx, kx, ex, hcX, hvX⟩ := RowQ.cell4 (r := fun _ => stE x [1, 0]) i1
    obtain ⟨x0, x1, x2, x3, x4, x5⟩ := hcX W (Grow.refl _)
    obtain ⟨sz, az, lz, cz, tz, bz, kz, ez, z0, z1, z2, z3⟩ := i3.q4 (show 0 < 1 by omega)
    simp only [Nat.zero_mul, Nat.zero_add] at z0 z1 z2 z3
    have zf := i3.free
    have zl := i3.lt
    rw [stE_all] at hvX
    obtain ⟨h1, h2⟩ := rescell (w := w) i3 (Nat.le_succ _) i4 hvX
    have HK : Hid ((st4 W (w.heap.size + 1) 0 (.bool sx) (.slice ax lx cx) (.bool tx) (.slice bx kx ex)).heap[D]? = some (.deferred (some []))) := Lib.hid ((((KeepsOthers.setCell W ⟨w.heap.size + 1, 0, none⟩ (.bool sx)).trans (KeepsOthers.setCell _ ⟨w.heap.size + 1, 1, none⟩ (.slice ax lx cx))).trans (KeepsOthers.setCell _ ⟨w.heap.size + 1, 2, none⟩ (.bool tx))).trans (KeepsOthers.setCell _ ⟨w.heap.size + 1, 3, none⟩ (.slice bx kx ex)) |>.same D _ hK rfl)
    have H1 := Lib.hid h1
    have H2 := Lib.hid h2
    clear hcX hvX h1 h2 i1 hK
    have c0 : (st4 W (w.heap.size + 1) 0 (.bool sx) (.slice ax lx cx) (.bool tx) (.slice bx kx ex)).cell? ⟨w.heap.size + 1, 0, none⟩ = some (.bool sx) := by simp only [st4]; go_simp
    have c1 : (st4 W (w.heap.size + 1) 0 (.bool sx) (.slice ax lx cx) (.bool tx) (.slice bx kx ex)).cell? ⟨w.heap.size + 1, 1, none⟩ = some (.slice ax lx cx) := by simp only [st4]; go_simp
    have c2 : (st4 W (w.heap.size + 1) 0 (.bool sx) (.slice ax lx cx) (.bool tx) (.slice bx kx ex)).cell? ⟨w.heap.size + 1, 2, none⟩ = some (.bool tx) := by simp only [st4]; go_simp
    have c3 : (st4 W (w.heap.size + 1) 0 (.bool sx) (.slice ax lx cx) (.bool tx) (.slice bx kx ex)).cell? ⟨w.heap.size + 1, 3, none⟩ = some (.slice bx kx ex) := by simp only [st4]; go_simp
    have CC := Lib.hid (⟨c0, c1, c2, c3⟩ : _ ∧ _ ∧ _ ∧ _)
    clear c0 c1 c2 c3
    go_wp2_with fail
    have hst : ((((W.setCell ⟨w.heap.size + 1, 0, none⟩ (.bool sx)).setCell ⟨w.heap.size + 1, 1, none⟩ (.slice ax lx cx)).setCell ⟨w.heap.size + 1, 2, none⟩ (.bool tx)).setCell ⟨w.heap.size + 1, 3, none⟩ (.slice bx kx ex)) = st4 W (w.heap.size + 1) 0 (.bool sx) (.slice ax lx cx) (.bool tx) (.slice bx kx ex) := rfl
    rw [hst]
    clear hst x0 x1 x2 x3 x4 x5 z0 z1 z2 z3 zf zl
    obtain ⟨V, hV⟩ : ∃ V, st4 W (w.heap.size + 1) 0 (.bool sx) (.slice ax lx cx) (.bool tx) (.slice bx kx ex) = V := ⟨_, rfl⟩
    rw [hV] at HK H1 H2 CC
    rw [hV]
    clear hV
    have hK := HK.out
    have hrow : ∀ q, some D = some q → ∃ o : Obj, V.heap[q]? = some o ∧ o.isCells = false := fun q e => by cases e; exact ⟨_, hK, rfl⟩
    have hg := grownBy_putObj' V D (.deferred none)
    obtain ⟨c0, c1, c2, c3⟩ := CC.out
    have d0 := cell_kept c0 hg hrow
    have d1 := cell_kept c1 hg hrow
    have d2 := cell_kept c2 hg hrow
    have d3 := cell_kept c3 hg hrow
    refine ⟨by simp, .inl ⟨_, _, rfl, run_takeDeferred hK, ?_⟩⟩
    refine ⟨.agg #[.bool sx, .slice ax lx cx, .bool tx, .slice bx kx ex], by rw [results_one rfl]; go_simp, _, rfl, H1.out.kept hg hrow, Below.trans H2.out (belowK_b (w := w) (Nat.le_refl _) V D _ _ (by omega) hK rfl rfl)⟩
  case stop =>
    rintro D cc pre W _ _ h _
    exact h.elim
end Go.Proofs.YtbpkfcohbefphaaGreatDoor
