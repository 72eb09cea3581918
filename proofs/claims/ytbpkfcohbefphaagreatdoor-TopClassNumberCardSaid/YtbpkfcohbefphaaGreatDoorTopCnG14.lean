/- Lemmas, plain laws and walks that the statement LwClassNumber leans on (texts RwV, TwA, BnB, BnC), conditions as each theorem says. -/
import Derived.Test.YtbpkfcohbefphaaGreatDoorTopCnG10
import Derived.Test.YtbpkfcohbefphaaGreatDoorTopCnG11
import Derived.Test.YtbpkfcohbefphaaGreatDoorTopCnG12
import Derived.Test.YtbpkfcohbefphaaGreatDoorTopCnG13

namespace Go.Proofs.YtbpkfcohbefphaaGreatDoor
open Go Go.RowKit
/-- The grid while its rows are cut. -/
structure CutS (u : World) (G n m : Nat) (R O C : Nat → Nat) (N : Nat → Nat → Rat) (i : Nat) : Prop where
  lt : G < u.heap.size
  free : ∀ o, u.frozen? ⟨G, o, none⟩ = false
  done : ∀ k, k < n → k < i → u.cell? ⟨G, k, none⟩ = some (.slice (some ⟨R k, O k + n * 4, none⟩) n (C k - n))
  left : ∀ k, k < n → i ≤ k → u.cell? ⟨G, k, none⟩ = some (.slice (some ⟨R k, O k, none⟩) m (C k))
  row : ∀ k, k < n → RowQ u (R k) (O k) m (N k)
  far : ∀ k, k < n → R k ≠ G
theorem CutS.grow {u u' : World} {G n m i : Nat} {R O C : Nat → Nat} {N : Nat → Nat → Rat} (h : CutS u G n m R O C N i) (hg : Grow u u') : CutS u' G n m R O C N i :=
  ⟨Nat.lt_of_lt_of_le h.lt hg.size, fun o => (hg.frees _ _ h.lt).trans (h.free o), fun k hk hi => (hg.cells _ _ h.lt).trans (h.done k hk hi), fun k hk hi => (hg.cells _ _ h.lt).trans (h.left k hk hi), fun k hk => RowP.grow (h.row k hk) hg, h.far⟩
theorem CutS.next {u : World} {G n m i : Nat} {R O C : Nat → Nat} {N : Nat → Nat → Rat} (h : CutS u G n m R O C N i) (hi : i < n) : CutS (u.setCell ⟨G, i, none⟩ (.slice (some ⟨R i, O i + n * 4, none⟩) n (C i - n))) G n m R O C N (i + 1) := by
  have hb : But (fun b => b = G) u (u.setCell ⟨G, i, none⟩ (.slice (some ⟨R i, O i + n * 4, none⟩) n (C i - n))) := (But.refl _ u).set _ (.inr rfl) (fun x => by rw [h.left i hi (Nat.le_refl _)]; simp)
  refine ⟨by simpa [World.setCell] using h.lt, fun o => by simpa using h.free o, fun k hk hki => ?_, fun k hk hki => ?_, fun k hk => RowP.but (h.row k hk) (h.far k hk) hb, h.far⟩
  · by_cases e : k = i
    · subst e; exact World.cell?_setCell_same _ _ _ (h.left k hk (Nat.le_refl _))
    · rw [World.cell?_setCell_other _ _ _ _ (by simp; try omega)]
      exact h.done k hk (by omega)
  · rw [World.cell?_setCell_other _ _ _ _ (by simp; try omega)]
    exact h.left k hk (by omega)
theorem CutS.grid {u : World} {G n m : Nat} {R O C : Nat → Nat} {N : Nat → Nat → Rat} (h : CutS u G n m R O C N n) (hm : m = n + n) (hc : ∀ i, i < n → m ≤ C i) (hj : ∀ i k, i < n → k < n → R i = R k → i = k) : GridQ u G n R (fun i => O i + n * 4) (fun i => C i - n) n (fun i k => N i (n + k)) := by
  refine ⟨h.lt, h.free, fun i hi => ?_, fun i hi => by have := hc i hi; omega, fun i hi => ?_, h.far, hj⟩
  · exact h.done i hi hi
  · have h1 := RowP.tail (h.row i hi) n (by omega)
    rw [hm, Nat.add_sub_cancel] at h1
    exact h1
end Go.Proofs.YtbpkfcohbefphaaGreatDoor
namespace Go.Proofs.YtbpkfcohbefphaaGreatDoor
open Go Go.RowKit
/-- Block B holds the ints f from off on. -/
structure IntQ (w : World) (B off n : Nat) (f : Nat → Int) : Prop where
  lt : B < w.heap.size
  cell : ∀ i, i < n → w.cell? ⟨B, off + i, none⟩ = some (.int .i64 (f i))
theorem IntQ.grow {w w' : World} {B off n : Nat} {f : Nat → Int} (h : IntQ w B off n f) (hg : Grow w w') : IntQ w' B off n f :=
  ⟨Nat.lt_of_lt_of_le h.lt hg.size, fun i hi => (hg.cells _ _ h.lt).trans (h.cell i hi)⟩
theorem listr_one {u : World} {s : Bool} {a : Option Addr} {l c : Nat} {t : Bool} {b : Option Addr} {k e : Nat} {x : Rat} (h : RatR u (.agg #[.bool s, .slice a l c, .bool t, .slice b k e]) x) : ListR u [.bool s, .slice a l c, .bool t, .slice b k e] 1 (fun _ => x) := by
  refine ⟨rfl, fun y hy => ?_, fun j hj => ?_⟩
  · simp only [List.mem_cons, List.not_mem_nil, or_false] at hy
    rcases hy with rfl | rfl | rfl | rfl <;> rfl
  · have hj0 : j = 0 := by omega
    subst hj0
    exact ⟨s, a, l, c, t, b, k, e, ⟨rfl, rfl, rfl, rfl⟩, h⟩
theorem O3.keep {X : Nat → Prop} {u u' : World} {B : Nat} {v0 v1 v2 : Value} (h : O3 u B v0 v1 v2) (hg : But X u u') (hX : ¬ X B) : O3 u' B v0 v1 v2 :=
  ⟨(hg.cells _ _ h.lt hX).trans h.c0, (hg.cells _ _ h.lt hX).trans h.c1, (hg.cells _ _ h.lt hX).trans h.c2, fun o => (hg.frees _ _ h.lt).trans (h.fr o), Nat.lt_of_lt_of_le h.lt hg.size⟩
end Go.Proofs.YtbpkfcohbefphaaGreatDoor
namespace Go.Proofs.YtbpkfcohbefphaaGreatDoor
open Go Go.RowKit
theorem mulQk (x y z : Rat) (h : x * y = z ∧ (x.num * y.num).natAbs < 4294967296 ∧ ((x.den : Int) * (y.den : Int)).natAbs < 4294967296) (v1 v2 : Value) (w : World) (h1 : RatR w v1 x) (h2 : RatR w v2 y) : Calls Tryz.prog 34 #[v1, v2] w fun e w' => ∃ v, e = .returned v ∧ RatR w' v z ∧ Grow w w' := by
  have h3 := mulQ x y v1 v2 h.2.1 h.2.2 w h1 h2
  rw [h.1] at h3
  exact h3
theorem addQk (x y z : Rat) (h : x + y = z ∧ (x.num * (y.den : Int)).natAbs < 4294967296 ∧ (y.num * (x.den : Int)).natAbs < 4294967296 ∧ (x.num * (y.den : Int) + y.num * (x.den : Int)).natAbs < 4294967296 ∧ ((x.den : Int) * (y.den : Int)).natAbs < 4294967296) (v1 v2 : Value) (w : World) (h1 : RatR w v1 x) (h2 : RatR w v2 y) : Calls Tryz.prog 8 #[v1, v2] w fun e w' => ∃ v, e = .returned v ∧ RatR w' v z ∧ Grow w w' := by
  have h3 := addQ x y v1 v2 h.2 w h1 h2
  rw [h.1] at h3
  exact h3
theorem quoQk (x y z : Rat) (h : x / y = z ∧ y ≠ 0 ∧ (x.num * (y.den : Int)).natAbs < 4294967296 ∧ ((x.den : Int) * y.num).natAbs < 4294967296) (v1 v2 : Value) (w : World) (h1 : RatR w v1 x) (h2 : RatR w v2 y) : Calls Tryz.prog 115 #[v1, v2] w fun e w' => ∃ v, e = .returned (.tuple #[v, .int .i64 0]) ∧ RatR w' v z ∧ Grow w w' := by
  have h3 := quoQ x y v1 v2 h.2.1 h.2.2.1 h.2.2.2 w h1 h2
  rw [h.1] at h3
  exact h3
/-- The first two Bernoulli numbers. -/
def nbN (j : Nat) : Rat := if j = 0 then 1 else mkRat (-1) 2
theorem OwnG.butg {X : Nat → Prop} {w w1 : World} {base g c size n : Nat} {t : TypeId} {xs : List Value} (h : OwnG w base t size (.slice (some ⟨g, 0, none⟩) n c) n xs) (hg : But X w w1) (hX : ¬ X g) : OwnG w1 base t size (.slice (some ⟨g, 0, none⟩) n c) n xs := by
  refine ⟨h.1, ?_⟩
  rcases h.2 with h2 | ⟨g', cap, cur, hv, hb, hh, h3⟩
  · exact .inl h2
  · refine .inr ⟨g', cap, cur, hv, hb, ?_, h3⟩
    injection hv with e1 e2 e3
    injection e1 with e1
    injection e1 with e1
    subst e1
    exact (hg.block g (Array.getElem?_eq_some_iff.1 hh).1 hX).trans hh
theorem RowZ.butg {X : Nat → Prop} {w w' : World} {B m : Nat} {r : Nat → Int} (h : RowZ w B m r) (hg : But X w w') (hX : ¬ X B) : RowZ w' B m r :=
  ⟨Nat.lt_of_lt_of_le h.lt hg.size, fun j hj => by
    obtain ⟨s, a, l, c, h1, h2, h3⟩ := h.at2 j hj
    exact ⟨s, a, l, c, (hg.cells _ _ h.lt hX).trans h1, (hg.cells _ _ h.lt hX).trans h2, h3.but hg⟩⟩
/-- One cell block of a fraction: what it reads as later. -/
theorem RowQ.cell4 {w : World} {B : Nat} {r : Nat → Rat} (h : RowQ w B 0 1 r) : ∃ s a l c t b k e, (∀ u, Grow w u → u.cell? ⟨B, 0, none⟩ = some (.bool s) ∧ u.cell? ⟨B, 1, none⟩ = some (.slice a l c) ∧ u.cell? ⟨B, 2, none⟩ = some (.bool t) ∧ u.cell? ⟨B, 3, none⟩ = some (.slice b k e) ∧ (∀ o, u.frozen? ⟨B, o, none⟩ = false) ∧ B < u.heap.size) ∧ RatR w (.agg #[.bool s, .slice a l c, .bool t, .slice b k e]) (r 0) := by
  obtain ⟨s, a, l, c, t, b, k, e, ⟨p0, p1, p2, p3⟩, hv⟩ := RowQ.at4 h (show 0 < 1 by omega)
  rw [Nat.zero_mul, Nat.add_zero] at p0 p1 p2 p3
  have hl := h.lt
  have hf := h.free
  exact ⟨s, a, l, c, t, b, k, e, fun u hg => ⟨(hg.cells _ _ hl).trans p0, (hg.cells _ _ hl).trans p1, (hg.cells _ _ hl).trans p2, (hg.cells _ _ hl).trans p3, fun o => (hg.frees _ _ hl).trans (hf o), Nat.lt_of_lt_of_le hl hg.size⟩, hv⟩
/-- A fraction stored into its cell. -/
theorem RowQ.put {w u : World} {B : Nat} {r : Nat → Rat} (h : RowQ w B 0 1 r) (hu : Grow w u) {s : Bool} {a : Option Addr} {l c : Nat} {t : Bool} {b : Option Addr} {k e : Nat} {x : Rat} (hx : RatR u (.agg #[.bool s, .slice a l c, .bool t, .slice b k e]) x) :
    RowQ (st4 u B 0 (.bool s) (.slice a l c) (.bool t) (.slice b k e)) B 0 1 (fun _ => x) ∧ But (fun y => y = B) w (st4 u B 0 (.bool s) (.slice a l c) (.bool t) (.slice b k e)) := by
  have h1 := RowP.set (RowP.grow h hu) (show 0 < 1 by omega) hx
  have h2 := But.st4 (X := fun b => b = B) (hu.but _) (.inr rfl) ((RowP.grow h hu).q4 (show 0 < 1 by omega)) s a l c t b k e
  simp only [Nat.zero_mul, Nat.add_zero] at h1 h2
  exact ⟨RowP.mono h1 (Nat.le_refl _) (fun j x hj hx => by rw [if_pos (by omega)]; exact hx), h2⟩
/-- An element of an own row. -/
theorem RowQ.cellj {w : World} {B n : Nat} {r : Nat → Rat} (h : RowQ w B 0 n r) (j : Nat) (hj : j < n) : ∃ s a l c t b k e, (∀ u, Grow w u → u.cell? ⟨B, j * 4, none⟩ = some (.bool s) ∧ u.cell? ⟨B, j * 4 + 1, none⟩ = some (.slice a l c) ∧ u.cell? ⟨B, j * 4 + 2, none⟩ = some (.bool t) ∧ u.cell? ⟨B, j * 4 + 3, none⟩ = some (.slice b k e)) ∧ RatR w (.agg #[.bool s, .slice a l c, .bool t, .slice b k e]) (r j) := by
  obtain ⟨s, a, l, c, t, b, k, e, ⟨p0, p1, p2, p3⟩, hv⟩ := RowQ.at4 h hj
  rw [Nat.zero_add] at p0 p1 p2 p3
  have hl := h.lt
  exact ⟨s, a, l, c, t, b, k, e, fun u hg => ⟨(hg.cells _ _ hl).trans p0, (hg.cells _ _ hl).trans p1, (hg.cells _ _ hl).trans p2, (hg.cells _ _ hl).trans p3⟩, hv⟩
set_option maxRecDepth 20000 in
set_option maxHeartbeats 8000000 in
theorem numbers1Q (w : World) : Calls Tryz.prog 91 #[.int .i64 1] w fun e w' => ∃ g c, e = .returned (.slice (some ⟨g, 0, none⟩) 2 c) ∧ RowQ w' g 0 2 nbN ∧ Grow w w' ∧ w.heap.size ≤ g := by
  obtain ⟨ir, hir, irz0, irz1, irz2⟩ := info_parts infoRat
  have O1 := Lib.hid (fun u => ofQ 1 (by decide) u)
  have O0 := Lib.hid (fun u => ofQ 0 (by decide) u)
  have BR : Hid (∀ u, Calls Tryz.prog 92 #[.int .i64 2] u fun e w' => ∃ g c, e = .returned (.slice (some ⟨g, 0, none⟩) 3 c) ∧ RowZ w' g 3 (bnN 2) ∧ Grow u w' ∧ u.heap.size ≤ g) := Lib.hid (fun u => bnrowQ 2 (.inr rfl) u)
  go_enter Tryz.func91, Tryz.ntmps91
  go_upto_region 2 with (go_at_call 20; (with_reducible refine (O1.out _).mono ?_); (rintro e u2 ⟨v2, rfl, hv2, hb2⟩; obtain ⟨s2, a2, l2, c2, t2, b2, k2, e2, rfl⟩ := hv2.form; have HV2 := Lib.hid hv2; have HG2 := Lib.hid hb2; clear hv2 hb2))
  obtain ⟨W3, hW3⟩ : ∃ W3 : World, W3 = u2.alloc (.cells #[.bool s2, .slice a2 l2 c2, .bool t2, .slice b2 k2 e2] 27) := ⟨_, rfl⟩
  rw [← hW3]
  have HO : Hid (OwnG W3 w.heap.size 27 4 (.slice (some ⟨u2.heap.size, 0, none⟩) 1 1) 1 [.bool s2, .slice a2 l2 c2, .bool t2, .slice b2 k2 e2]) := Lib.hid (by rw [hW3]; exact OwnG.lay HG2.out.size rfl (rat_nu s2 a2 l2 c2 t2 b2 k2 e2))
  have hn00 : nbN 0 = ((1 : Int) : Rat) := by decide +kernel
  have HL : Hid (ListR W3 [.bool s2, .slice a2 l2 c2, .bool t2, .slice b2 k2 e2] 1 nbN) := Lib.hid (((listr_one HV2.out).grow (ag hW3)).cong (fun j hj => by rw [show j = 0 by omega, hn00]))
  have HG3 := Lib.hid (HG2.out.trans (ag hW3))
  obtain ⟨g3, hg3⟩ : ∃ g3, u2.heap.size = g3 := ⟨_, rfl⟩
  rw [hg3] at HO
  rw [hg3]
  clear hW3 hg3 HV2 HG2 O1
  go_wp2_with fail
  go_loopg [3, 4] 1 (fun gk t3 t4 wr => ∃ (g c : Nat), (t3 = .slice (some ⟨g, 0, none⟩) 1 c ∧ t4 = .int .i64 1 ∧ Hid (gk = 1) ∧ Hid (∃ xs, OwnG wr w.heap.size 27 4 (.slice (some ⟨g, 0, none⟩) 1 c) 1 xs ∧ ListR wr xs 1 nbN) ∧ Hid (Grow w wr)) ∨ (t3 = .slice (some ⟨g, 0, none⟩) 2 c ∧ t4 = .int .i64 2 ∧ Hid (gk = 0) ∧ Hid (RowQ wr g 0 2 nbN ∧ w.heap.size ≤ g) ∧ Hid (Grow w wr)))
  case atStart => exact ⟨g3, 1, .inl ⟨rfl, rfl, Lib.hid rfl, Lib.hid ⟨_, HO.out, HL.out⟩, HG3⟩⟩
  case round =>
    clear HO HL HG3
    obtain ⟨g, c, ⟨rfl, rfl, HGK, HX, HG⟩ | ⟨rfl, rfl, HGK, HR, HG⟩⟩ := hrel
    case inr =>
      go_wp2_with fail
      go_ret
      exact ⟨g, c, rfl, HR.out.1, HG.out, HR.out.2⟩
    case inl =>
      obtain ⟨xs, hO, hL⟩ := HX.out
      have HO := Lib.hid hO
      have HL := Lib.hid hL
      clear HX hO hL
      have HRG := Lib.hid (own_rowq HO.out.own HL.out)
      have hgl := HRG.out.lt
      have hgb := (own_cells HO.out.own).2.1
      go_upto_region 6 with (go_at_call 20; (with_reducible refine (O0.out _).mono ?_); (rintro e u4 ⟨v4, rfl, hv4, hb4⟩; obtain ⟨s4, a4, l4, c4, t4, b4, k4, e4, rfl⟩ := hv4.form; have HV4 := Lib.hid hv4; have HG4 := Lib.hid hb4; clear hv4 hb4))
      obtain ⟨W5, hW5⟩ : ∃ W5 : World, W5 = u4.alloc (.cells #[.bool s4, .slice a4 l4 c4, .bool t4, .slice b4 k4 e4] 27) := ⟨_, rfl⟩
      rw [← hW5]
      have HX5 := Lib.hid (rowq_lay hW5 HV4.out)
      have HG5 := Lib.hid (HG4.out.trans (ag hW5))
      have hzx : wr.heap.size ≤ u4.heap.size := HG4.out.size
      have hz5 : W5.heap.size = u4.heap.size + 1 := by rw [hW5]; simp
      obtain ⟨X, hX⟩ : ∃ X, u4.heap.size = X := ⟨_, rfl⟩
      rw [hX] at HX5 hzx hz5
      rw [hX]
      clear hW5 hX HV4 HG4
      have hwX : w.heap.size ≤ X := Nat.le_trans HG.out.size hzx
      go_upto_region 7 with (go_at_call 92; (with_reducible refine (BR.out _).mono ?_); (rintro e u6 ⟨g6, c6, rfl, hz6, hb6, hgg6⟩; have HZ6 := Lib.hid hz6; have HG6 := Lib.hid hb6; clear hz6 hb6))
      have HX6 := Lib.hid (RowP.grow HX5.out HG6.out)
      have HG56 := Lib.hid (HG5.out.trans HG6.out)
      have hgX : ¬ g = X := by omega
      have hg6X : ¬ g6 = X := by omega
      clear HX5 O0 BR
      go_wp2_with fail
      go_loopg [24] 1 (fun gi t24 wr => (t24 = .int .i64 0 ∧ Hid (gi = 1) ∧ Hid (RowQ wr X 0 1 (fun _ => ((0 : Int) : Rat))) ∧ Hid (But (fun y => y = X) u6 wr)) ∨ (t24 = .int .i64 1 ∧ Hid (gi = 0) ∧ Hid (RowQ wr X 0 1 (fun _ => ((1 : Int) : Rat))) ∧ Hid (But (fun y => y = X) u6 wr)))
      case atStart => exact .inl ⟨rfl, Lib.hid rfl, HX6, Lib.hid (But.refl _ _)⟩
      case round =>
        clear HX6
        obtain ⟨rfl, HGI, HX, HB⟩ | ⟨rfl, HGI, HX, HB⟩ := hrel
        case inl =>
          have hbw := (HG56.out.but (fun y => y = X)).trans HB.out
          have HRI := Lib.hid (RowP.but HRG.out hgX hbw)
          have HZI := Lib.hid (HZ6.out.butg HB.out hg6X)
          obtain ⟨s7, a7, l7, c7, t7, b7, k7, e7, hcg, hvg⟩ := RowQ.cellj HRI.out 0 (by omega)
          obtain ⟨s8, a8, l8, c8, z0, z1, hvz⟩ := HZI.out.at2 0 (by omega)
          obtain ⟨s9, a9, l9, c9, t9, b9, k9, e9, hcx, hvx⟩ := RowQ.cell4 HX.out
          simp only [Nat.zero_mul, Nat.zero_add] at hcg z0 z1
          have hg6l := HZI.out.lt
          obtain ⟨p0, p1, p2, p3⟩ := hcg wr (Grow.refl _)
          go_upto_region 10 with fail
          obtain ⟨W9, hW9⟩ : ∃ W9 : World, W9 = wr.alloc (.cells #[.bool s7, .slice a7 l7 c7, .bool t7, .slice b7 k7 e7] 27) := ⟨_, rfl⟩
          rw [← hW9]
          have hg9 : Grow wr W9 := ag hW9
          have hn0 : nbN 0 = ((1 : Int) : Rat) := by decide +kernel
          have hb0 : bnN 2 0 = 1 := by decide
          rw [hn0] at hvg
          rw [hb0] at hvz
          have HE := Lib.hid (hvg.grow hg9)
          have HVB := Lib.hid (hvx.grow hg9)
          have D0 := Lib.hid (fun u (hu : Grow W9 u) => hcx u (hg9.trans hu))
          have D1 := Lib.hid (fun (u : World) (hu : Grow W9 u) => (⟨((hg9.trans hu).cells _ _ hg6l).trans z0, ((hg9.trans hu).cells _ _ hg6l).trans z1⟩ : _ ∧ _))
          have D2 := Lib.hid (ak4 hW9)
          have WH := Lib.hid (fun (u : World) (hu : Grow W9 u) => wholeQ 1 _ u ((hvz.grow hg9).grow hu))
          have MU := Lib.hid (fun v1 v2 (u : World) h1 h2 => mulQk ((1 : Int) : Rat) ((1 : Int) : Rat) ((1 : Int) : Rat) (by decide +kernel) v1 v2 u h1 h2)
          have AD := Lib.hid (fun v1 v2 (u : World) h1 h2 => addQk ((0 : Int) : Rat) ((1 : Int) : Rat) ((1 : Int) : Rat) (by decide +kernel) v1 v2 u h1 h2)
          have HX9 := Lib.hid (RowP.grow HX.out hg9)
          have HB9 := Lib.hid (HB.out.grow hg9)
          clear hW9 hg9 hcg hvg z0 z1 hvz hcx hvx p0 p1 p2 p3 hg6l hbw hn0 hb0
          refine region_held (id := 10) (fun u => Grow W9 u) [0, 1, 2, 3, 4, 6, 5, 7, 8, 9] (kdL [1, 0, 0, 0, 1, 2, 1, 2, 2, 3]) (by kernel_rfl) (by kernel_rfl) (fun t ht => kdL_lt _ t ht) ?hS0q ?_
          case hS0q => ((try dsimp only); (repeat (first | with_reducible exact Grow.refl _ | with_reducible refine Grow.alloc ?_ _ | with_reducible refine Grow.drew ?_ | with_reducible refine Grow.drewN ?_ _ | (with_reducible refine Grow.setCell ?_ ?hp _; (case hp => (simp; try omega))) | with_reducible refine Grow.trans ?_ (by assumption))))
          refine held_read (v := ?vq0) rfl rfl (Or.inl ⟨by rfl, ?hyq0⟩) ?_
          case hyq0 => (intro u hu; obtain ⟨d0, d1, d2, d3, d4, d5⟩ := D0.out u hu; obtain ⟨f0, f1⟩ := D1.out u hu; obtain ⟨k0, k1, k2, k3, k4, k5⟩ := D2.out u hu; go_simp; (try with_reducible rfl))
          (try simp only [Act.put, List.setIfInBounds_toArray, List.set_cons_zero, List.set_cons_succ])
          refine held_quiet (v := ?vq1) rfl rfl (Or.inl ⟨by rfl, ?hyq1⟩) ?_
          case hyq1 => (intro u hu; go_simp; (try with_reducible rfl))
          (try simp only [Act.put, List.setIfInBounds_toArray, List.set_cons_zero, List.set_cons_succ])
          refine held_quiet (v := ?vq2) rfl rfl (Or.inl ⟨by rfl, ?hyq2⟩) ?_
          case hyq2 => (intro u hu; go_simp; (try with_reducible rfl))
          (try simp only [Act.put, List.setIfInBounds_toArray, List.set_cons_zero, List.set_cons_succ])
          refine held_quiet (v := ?vq3) rfl rfl (Or.inl ⟨by rfl, ?hyq3⟩) ?_
          case hyq3 => (intro u hu; go_simp; (try with_reducible rfl))
          (try simp only [Act.put, List.setIfInBounds_toArray, List.set_cons_zero, List.set_cons_succ])
          refine held_read (v := ?vq4) rfl rfl (Or.inl ⟨by rfl, ?hyq4⟩) ?_
          case hyq4 => (intro u hu; obtain ⟨d0, d1, d2, d3, d4, d5⟩ := D0.out u hu; obtain ⟨f0, f1⟩ := D1.out u hu; obtain ⟨k0, k1, k2, k3, k4, k5⟩ := D2.out u hu; go_simp; (try with_reducible rfl))
          (try simp only [Act.put, List.setIfInBounds_toArray, List.set_cons_zero, List.set_cons_succ])
          refine held_read (v := ?vq6) rfl rfl (Or.inl ⟨by rfl, ?hyq6⟩) ?_
          case hyq6 => (intro u hu; obtain ⟨d0, d1, d2, d3, d4, d5⟩ := D0.out u hu; obtain ⟨f0, f1⟩ := D1.out u hu; obtain ⟨k0, k1, k2, k3, k4, k5⟩ := D2.out u hu; go_simp; (try with_reducible rfl))
          (try simp only [Act.put, List.setIfInBounds_toArray, List.set_cons_zero, List.set_cons_succ])
          refine held_op rfl rfl (fun K hK => ?_)
          go_simp
          (go_at_call 93; (with_reducible refine (WH.out _ (by (repeat (first | with_reducible exact Grow.refl _ | with_reducible refine Grow.alloc ?_ _ | with_reducible refine Grow.drew ?_ | with_reducible refine Grow.drewN ?_ _ | (with_reducible refine Grow.setCell ?_ ?hp _; (case hp => (simp; try omega))) | with_reducible refine Grow.trans ?_ (by assumption))))).mono ?_); (rintro x u25 ⟨v25, rfl, hv25, hb25⟩; obtain ⟨s25, a25, l25, c25, t25, b25, k25, e25, rfl⟩ := hv25.form; have HV25 := Lib.hid hv25; clear hv25))
          (try go_wp2_with fail)
          refine hK.out _ _ ?hSq5 ?_
          case hSq5 => ((try dsimp only); (repeat (first | with_reducible exact Grow.refl _ | with_reducible refine Grow.alloc ?_ _ | with_reducible refine Grow.drew ?_ | with_reducible refine Grow.drewN ?_ _ | (with_reducible refine Grow.setCell ?_ ?hp _; (case hp => (simp; try omega))) | with_reducible refine Grow.trans ?_ (by assumption))))
          clear hK K
          (try simp only [Act.put, List.setIfInBounds_toArray, List.set_cons_zero, List.set_cons_succ])
          refine held_op rfl rfl (fun K hK => ?_)
          go_simp
          (go_at_call 34; (with_reducible refine (MU.out _ _ _ (HV25.out.grow (by (repeat (first | with_reducible exact Grow.refl _ | with_reducible refine Grow.alloc ?_ _ | with_reducible refine Grow.drew ?_ | with_reducible refine Grow.drewN ?_ _ | (with_reducible refine Grow.setCell ?_ ?hp _; (case hp => (simp; try omega))) | with_reducible refine Grow.trans ?_ (by assumption))))) (HE.out.grow (by (repeat (first | with_reducible exact Grow.refl _ | with_reducible refine Grow.alloc ?_ _ | with_reducible refine Grow.drew ?_ | with_reducible refine Grow.drewN ?_ _ | (with_reducible refine Grow.setCell ?_ ?hp _; (case hp => (simp; try omega))) | with_reducible refine Grow.trans ?_ (by assumption)))))).mono ?_); (rintro x u27 ⟨v27, rfl, hv27, hb27⟩; obtain ⟨s27, a27, l27, c27, t27, b27, k27, e27, rfl⟩ := hv27.form; have HV27 := Lib.hid hv27; clear hv27))
          (try go_wp2_with fail)
          refine hK.out _ _ ?hSq7 ?_
          case hSq7 => ((try dsimp only); (repeat (first | with_reducible exact Grow.refl _ | with_reducible refine Grow.alloc ?_ _ | with_reducible refine Grow.drew ?_ | with_reducible refine Grow.drewN ?_ _ | (with_reducible refine Grow.setCell ?_ ?hp _; (case hp => (simp; try omega))) | with_reducible refine Grow.trans ?_ (by assumption))))
          clear hK K
          (try simp only [Act.put, List.setIfInBounds_toArray, List.set_cons_zero, List.set_cons_succ])
          refine held_op rfl rfl (fun K hK => ?_)
          go_simp
          (go_at_call 8; (with_reducible refine (AD.out _ _ _ (HVB.out.grow (by (repeat (first | with_reducible exact Grow.refl _ | with_reducible refine Grow.alloc ?_ _ | with_reducible refine Grow.drew ?_ | with_reducible refine Grow.drewN ?_ _ | (with_reducible refine Grow.setCell ?_ ?hp _; (case hp => (simp; try omega))) | with_reducible refine Grow.trans ?_ (by assumption))))) (HV27.out.grow (by (repeat (first | with_reducible exact Grow.refl _ | with_reducible refine Grow.alloc ?_ _ | with_reducible refine Grow.drew ?_ | with_reducible refine Grow.drewN ?_ _ | (with_reducible refine Grow.setCell ?_ ?hp _; (case hp => (simp; try omega))) | with_reducible refine Grow.trans ?_ (by assumption)))))).mono ?_); (rintro x u28 ⟨v28, rfl, hv28, hb28⟩; obtain ⟨s28, a28, l28, c28, t28, b28, k28, e28, rfl⟩ := hv28.form; have HV28 := Lib.hid hv28; clear hv28); obtain ⟨d0, d1, d2, d3, d4, d5⟩ := D0.out u28 (by (repeat (first | with_reducible exact Grow.refl _ | with_reducible refine Grow.alloc ?_ _ | with_reducible refine Grow.drew ?_ | with_reducible refine Grow.drewN ?_ _ | (with_reducible refine Grow.setCell ?_ ?hp _; (case hp => (simp; try omega))) | with_reducible refine Grow.trans ?_ (by assumption)))))
          (try go_wp2_with fail)
          refine hK.out _ _ ?hSq8 ?_
          case hSq8 => ((try dsimp only); (repeat (first | with_reducible exact Grow.refl _ | with_reducible refine Grow.alloc ?_ _ | with_reducible refine Grow.drew ?_ | with_reducible refine Grow.drewN ?_ _ | (with_reducible refine Grow.setCell ?_ ?hp _; (case hp => (simp; try omega))) | with_reducible refine Grow.trans ?_ (by assumption))))
          clear hK K
          (try simp only [Act.put, List.setIfInBounds_toArray, List.set_cons_zero, List.set_cons_succ])
          refine held_last rfl rfl (fun K hK => ?_)
          go_simp
          refine hK.out _ _ ?_
          clear hK K
          (try simp only [Act.put, List.setIfInBounds_toArray, List.set_cons_zero, List.set_cons_succ])
          refine held_done ?_
          go_simp
          obtain ⟨hst1, hst2⟩ := RowQ.put HX9.out (show Grow W9 u28 by (repeat (first | with_reducible exact Grow.refl _ | with_reducible refine Grow.alloc ?_ _ | with_reducible refine Grow.drew ?_ | with_reducible refine Grow.drewN ?_ _ | (with_reducible refine Grow.setCell ?_ ?hp _; (case hp => (simp; try omega))) | with_reducible refine Grow.trans ?_ (by assumption)))) HV28.out
          go_wp2_with fail
          go_roundg 0
          case measure => have := HGI.out; omega
          case rel => exact .inr ⟨rfl, Lib.hid rfl, Lib.hid hst1, Lib.hid (HB9.out.trans hst2)⟩
        case inr =>
          go_upto_region 12 with fail
          have hbw := (HG56.out.but (fun y => y = X)).trans HB.out
          have HOI := Lib.hid (HO.out.butg hbw hgX)
          have HLI := Lib.hid (HL.out.but hbw)
          have HGI2 := Lib.hid (((HG.out.but _).trans hbw).asGrow (fun b hb => by omega))
          obtain ⟨s9, a9, l9, c9, t9, b9, k9, e9, hcx, hvx⟩ := RowQ.cell4 HX.out
          have HVB := Lib.hid hvx
          have DX := Lib.hid hcx
          have OM := Lib.hid (fun u => ofQ (-2) (by decide) u)
          have QU := Lib.hid (fun v1 v2 (u : World) h1 h2 => quoQk ((1 : Int) : Rat) ((-2 : Int) : Rat) (mkRat (-1) 2) (by decide +kernel) v1 v2 u h1 h2)
          have m1 : IntKind.i64.wrap (-1) = -1 := by decide
          have m2 : IntKind.i64.wrap (-2) = -2 := by decide
          clear hbw hcx hvx
          refine region_flex (id := 12) wr [⟨9, 9, .cells #[.bool false, .slice none 0 0, .bool false, .slice none 0 0] 27⟩] [0, 1, 2, 3, 4, 5, 6, 7, 8] [10, 11] (kdL [1, 0, 0, 0, 2, 2, 0, 0, 0, 2, 3, 0]) (by kernel_rfl) (by kernel_rfl) (fun t ht => kdL_lt _ t ht) (by simp) (by simp) ?hgp ?halp ?_
          case hgp => (repeat (first | with_reducible exact Grow.refl _ | with_reducible refine Grow.alloc ?_ _ | with_reducible refine Grow.drew ?_ | with_reducible refine Grow.drewN ?_ _ | (with_reducible refine Grow.setCell ?_ ?hp _; (case hp => (simp; try omega))) | with_reducible refine Grow.trans ?_ (by assumption)))
          case halp => (intro x hx; simp only [List.mem_cons, List.not_mem_nil, or_false] at hx; subst hx; all_goals (refine ⟨⟨_, rfl, rfl⟩, fun K a u hK => ?_⟩; refine wpOp_step rfl (fun K' hK' => ?_); go_simp; exact hK' _ _ hK))
          refine flex_read (v := ?vp0) rfl rfl (fun t => Or.inl ⟨by rfl, ?hyp0⟩) ?_
          case hyp0 => (intro u hu; obtain ⟨d0, d1, d2, d3, d4, d5⟩ := DX.out u hu; simp only [aof, List.foldl_cons, List.foldl_nil, Act.put, List.setIfInBounds_toArray, List.set_cons_zero, List.set_cons_succ]; go_simp; (try with_reducible rfl))
          (try simp only [Act.put, List.setIfInBounds_toArray, List.set_cons_zero, List.set_cons_succ])
          refine flex_quiet (v := ?vp1) rfl rfl (fun t => Or.inl ⟨by rfl, ?hyp1⟩) ?_
          case hyp1 => (intro u hu; simp only [aof, List.foldl_cons, List.foldl_nil, Act.put, List.setIfInBounds_toArray, List.set_cons_zero, List.set_cons_succ]; go_simp; (try with_reducible rfl))
          (try simp only [Act.put, List.setIfInBounds_toArray, List.set_cons_zero, List.set_cons_succ])
          refine flex_quiet (v := ?vp2) rfl rfl (fun t => Or.inl ⟨by rfl, ?hyp2⟩) ?_
          case hyp2 => (intro u hu; simp only [aof, List.foldl_cons, List.foldl_nil, Act.put, List.setIfInBounds_toArray, List.set_cons_zero, List.set_cons_succ]; go_simp; (try with_reducible rfl))
          (try simp only [Act.put, List.setIfInBounds_toArray, List.set_cons_zero, List.set_cons_succ])
          refine flex_quiet (v := ?vp3) rfl rfl (fun t => Or.inl ⟨by rfl, ?hyp3⟩) ?_
          case hyp3 => (intro u hu; simp only [aof, List.foldl_cons, List.foldl_nil, Act.put, List.setIfInBounds_toArray, List.set_cons_zero, List.set_cons_succ]; go_simp; (try with_reducible rfl))
          (try simp only [Act.put, List.setIfInBounds_toArray, List.set_cons_zero, List.set_cons_succ])
          refine flex_op rfl rfl (fun t4 u4 hu4 K hK => ?_)
          simp only [aof, List.foldl_cons, List.foldl_nil, Act.put, List.setIfInBounds_toArray, List.set_cons_zero, List.set_cons_succ]
          go_simp
          (go_at_call 20; (with_reducible refine (OM.out _).mono ?_); (rintro x u34 ⟨v34, rfl, hv34, hb34⟩; obtain ⟨s34, a34, l34, c34, t34, b34, k34, e34, rfl⟩ := hv34.form; have HV34 := Lib.hid hv34; clear hv34))
          (try go_wp2_with fail)
          refine hK.out _ (.agg #[.bool s34, .slice a34 l34 c34, .bool t34, .slice b34 k34 e34]) _ ?hep4 ?hgp4 ?_
          case hep4 => (simp only [aof, List.foldl_cons, List.foldl_nil, Act.put, List.setIfInBounds_toArray, List.set_cons_zero, List.set_cons_succ])
          case hgp4 => (repeat (first | with_reducible exact Grow.refl _ | with_reducible refine Grow.alloc ?_ _ | with_reducible refine Grow.drew ?_ | with_reducible refine Grow.drewN ?_ _ | (with_reducible refine Grow.setCell ?_ ?hp _; (case hp => (simp; try omega))) | with_reducible refine Grow.trans ?_ (by assumption)))
          clear hK K t4
          (try simp only [Act.put, List.setIfInBounds_toArray, List.set_cons_zero, List.set_cons_succ])
          refine flex_op rfl rfl (fun t5 u5 hu5 K hK => ?_)
          simp only [aof, List.foldl_cons, List.foldl_nil, Act.put, List.setIfInBounds_toArray, List.set_cons_zero, List.set_cons_succ]
          go_simp
          (go_at_call 115; (with_reducible refine (QU.out _ _ _ (HVB.out.grow (by (repeat (first | with_reducible exact Grow.refl _ | with_reducible refine Grow.alloc ?_ _ | with_reducible refine Grow.drew ?_ | with_reducible refine Grow.drewN ?_ _ | (with_reducible refine Grow.setCell ?_ ?hp _; (case hp => (simp; try omega))) | with_reducible refine Grow.trans ?_ (by assumption))))) (HV34.out.grow (by (repeat (first | with_reducible exact Grow.refl _ | with_reducible refine Grow.alloc ?_ _ | with_reducible refine Grow.drew ?_ | with_reducible refine Grow.drewN ?_ _ | (with_reducible refine Grow.setCell ?_ ?hp _; (case hp => (simp; try omega))) | with_reducible refine Grow.trans ?_ (by assumption)))))).mono ?_); (rintro x u35 ⟨v35, rfl, hv35, hb35⟩; obtain ⟨s35, a35, l35, c35, t35, b35, k35, e35, rfl⟩ := hv35.form; have HV35 := Lib.hid hv35; clear hv35))
          (try go_wp2_with fail)
          refine hK.out _ (.tuple #[.agg #[.bool s35, .slice a35 l35 c35, .bool t35, .slice b35 k35 e35], .int .i64 0]) _ ?hep5 ?hgp5 ?_
          case hep5 => (simp only [aof, List.foldl_cons, List.foldl_nil, Act.put, List.setIfInBounds_toArray, List.set_cons_zero, List.set_cons_succ])
          case hgp5 => (repeat (first | with_reducible exact Grow.refl _ | with_reducible refine Grow.alloc ?_ _ | with_reducible refine Grow.drew ?_ | with_reducible refine Grow.drewN ?_ _ | (with_reducible refine Grow.setCell ?_ ?hp _; (case hp => (simp; try omega))) | with_reducible refine Grow.trans ?_ (by assumption)))
          clear hK K t5
          (try simp only [Act.put, List.setIfInBounds_toArray, List.set_cons_zero, List.set_cons_succ])
          refine flex_quiet (v := ?vp6) rfl rfl (fun t => Or.inl ⟨by rfl, ?hyp6⟩) ?_
          case hyp6 => (intro u hu; simp only [aof, List.foldl_cons, List.foldl_nil, Act.put, List.setIfInBounds_toArray, List.set_cons_zero, List.set_cons_succ]; go_simp; (try with_reducible rfl))
          (try simp only [Act.put, List.setIfInBounds_toArray, List.set_cons_zero, List.set_cons_succ])
          refine flex_quiet (v := ?vp7) rfl rfl (fun t => Or.inl ⟨by rfl, ?hyp7⟩) ?_
          case hyp7 => (intro u hu; simp only [aof, List.foldl_cons, List.foldl_nil, Act.put, List.setIfInBounds_toArray, List.set_cons_zero, List.set_cons_succ]; go_simp; (try with_reducible rfl))
          (try simp only [Act.put, List.setIfInBounds_toArray, List.set_cons_zero, List.set_cons_succ])
          refine flex_quiet (v := ?vp8) rfl rfl (fun t => Or.inl ⟨by rfl, ?hyp8⟩) ?_
          case hyp8 => (intro u hu; simp only [aof, List.foldl_cons, List.foldl_nil, Act.put, List.setIfInBounds_toArray, List.set_cons_zero, List.set_cons_succ]; go_simp; (try with_reducible rfl))
          (try simp only [Act.put, List.setIfInBounds_toArray, List.set_cons_zero, List.set_cons_succ])
          refine flex_done (fun Fp up hup hFp hNp => ?_)
          have hFp0 := hFp ⟨9, 9, .cells #[.bool false, .slice none 0 0, .bool false, .slice none 0 0] 27⟩ (by simp)
          clear hFp hNp
          (try simp only [aof, List.foldl_cons, List.foldl_nil, Act.put, List.setIfInBounds_toArray, List.set_cons_zero, List.set_cons_succ, ptrX])
          generalize Fp 9 = Fbp0 at *
          clear Fp
          have hFX := hFp0
          obtain ⟨hFx, hF1, hF2, hF3⟩ := hFp0
          obtain ⟨o0, o1, o2, o3, of, oz⟩ := ak4 rfl _ hF3
          rw [hF2] at o0 o1 o2 o3 of oz
          refine held_last rfl rfl (fun K hK => ?_)
          go_simp
          refine hK.out _ _ ?_
          clear hK K
          (try simp only [Act.put])
          refine held_quiet (v := ?vp11) rfl rfl (Or.inl ⟨by rfl, ?hyp11⟩) ?_
          case hyp11 => (intro u hu; go_simp; (try with_reducible rfl))
          (try simp only [Act.put])
          refine held_done ?_
          have hst := FrX.putR hFX (HV35.out.grow hup)
          obtain ⟨w8, hw8⟩ : ∃ w8, st4 up Fbp0 0 (.bool s35) (.slice a35 l35 c35) (.bool t35) (.slice b35 k35 e35) = w8 := ⟨_, rfl⟩
          have hw9 : ((((up.setCell ⟨Fbp0, 0, none⟩ (.bool s35)).setCell ⟨Fbp0, 1, none⟩ (.slice a35 l35 c35)).setCell ⟨Fbp0, 2, none⟩ (.bool t35)).setCell ⟨Fbp0, 3, none⟩ (.slice b35 k35 e35)) = w8 := hw8
          rw [hw8] at hst
          rw [hw9]
          obtain ⟨hr8, hg8⟩ := hst
          obtain ⟨sx, ax, lx, cx, tx, bx, kx, ex, hcF, hvF⟩ := RowQ.cell4 hr8
          obtain ⟨x0, x1, x2, x3, x4, x5⟩ := hcF w8 (Grow.refl _)
          have HVF := Lib.hid hvF
          have HG8 := Lib.hid hg8
          have HO8 := Lib.hid (HOI.out.grow hg8)
          have HL8 := Lib.hid (HLI.out.grow hg8)
          have HGW := Lib.hid (HGI2.out.trans hg8)
          clear m1 m2 hw8 hw9 hr8 hcF hvF hg8 o0 o1 o2 o3 of oz hFx hF1 hF2 hF3 hFX HV34 HV35 hb34 hb35 hup DX OM QU
          go_wp2_with (at_builtin; go_loud (refine wpList_append_g _ rfl _ _ 57 rfl 27 ir _ 4 64 Tryz.underlying57 hir irz0 irz1 irz2 rfl (by decide) rat_zero_nu (by decide) w.heap.size _ 1 _ rfl (HO8.out.grow (by (repeat (first | with_reducible exact Grow.refl _ | with_reducible refine Grow.alloc ?_ _ | with_reducible refine Grow.drew ?_ | with_reducible refine Grow.drewN ?_ _ | (with_reducible refine Grow.setCell ?_ ?hp _; (case hp => (simp; try omega))) | with_reducible refine Grow.trans ?_ (by assumption))))) ⟨w8.heap.size, 0, none⟩ 1 [.bool sx, .slice ax lx cx, .bool tx, .slice bx kx ex] rfl rfl (rat_news w8 sx ax lx cx tx bx kx ex 27) (rat_one sx ax lx cx tx bx kx ex) (rat_nu sx ax lx cx tx bx kx ex) (by omega) (Nat.le_trans HGW.out.size (by simp)) ?_))
          intro v7 w7 hown7 hb7
          obtain ⟨g7, c7, hv7, hg7a, hg7b⟩ := own_slice hown7.own (by omega)
          subst hv7
          have hga : Grow w8 (w8.alloc (.cells #[.bool sx, .slice ax lx cx, .bool tx, .slice bx kx ex] 27)) := by (repeat (first | with_reducible exact Grow.refl _ | with_reducible refine Grow.alloc ?_ _ | with_reducible refine Grow.drew ?_ | with_reducible refine Grow.drewN ?_ _ | (with_reducible refine Grow.setCell ?_ ?hp _; (case hp => (simp; try omega))) | with_reducible refine Grow.trans ?_ (by assumption)))
          have hn1 : nbN 1 = mkRat (-1) 2 := by decide +kernel
          have hl7 := ((HL8.out.grow hga).append ((listr_one HVF.out).grow hga)).but hb7
          have HR7 := Lib.hid (own_rowq hown7.own (hl7.cong (r' := nbN) (fun j hj => by
            rcases (show j = 0 ∨ j = 1 by omega) with rfl | rfl
            · rfl
            · rw [hn1]; rfl)))
          have HB7 := Lib.hid (own_cells hown7.own).2.1
          have HG7 := Lib.hid (((HGW.out.trans hga).but _).trans hb7 |>.asGrow (fun b hb => hb))
          clear hga hl7 hb7 hown7 hg7a hg7b hn1 x0 x1 x2 x3 x4 x5
          go_wp2_with fail
          go_roundg 0
          case measure => have := HGK.out; omega
          case rel => exact ⟨g7, c7, .inr ⟨rfl, rfl, Lib.hid rfl, Lib.hid ⟨HR7.out, HB7.out⟩, HG7⟩⟩
end Go.Proofs.YtbpkfcohbefphaaGreatDoor
namespace Go.Proofs.YtbpkfcohbefphaaGreatDoor
open Go Go.RowKit
theorem RatR.len1 {w : World} {x : Rat} {s t : Bool} {a : Option Addr} {l c : Nat} {m2 : Value} (h : RatR w (.agg #[.bool s, .slice a l c, .bool t, m2]) x) (hn : x.num ≠ 0) : l = 1 := by
  obtain ⟨m, hv, hm⟩ := h.num
  obtain ⟨a', c', rfl⟩ := hm.form
  simp only [Value.agg.injEq, Array.mk.injEq, List.cons.injEq, Value.slice.injEq, and_true] at hv
  rw [hv.2.2.1, if_neg (by omega)]
set_option maxRecDepth 20000 in
set_option maxHeartbeats 8000000 in
theorem trimmedQ2 (g c : Nat) (r : Nat → Rat) (hnz : (r 1).num ≠ 0) (w : World) (h : RowQ w g 0 2 r) : Calls Tryz.prog 116 #[.slice (some ⟨g, 0, none⟩) 2 c] w fun e w' => e = .returned (.slice (some ⟨g, 0, none⟩) 2 c) ∧ w = w' := by
  obtain ⟨s7, a7, l7, c7, t7, b7, k7, e7, hcg, hvg⟩ := RowQ.cellj h 1 (by omega)
  obtain rfl : l7 = 1 := hvg.len1 hnz
  obtain ⟨p0, p1, p2, p3⟩ := hcg w (Grow.refl _)
  simp only [Nat.one_mul] at p0 p1 p2 p3
  have m1 : IntKind.i64.wrap 1 = 1 := by decide
  clear hcg hvg h
  go_enter Tryz.func116, Tryz.ntmps116
  go_wp2_with fail
  go_loopg [0] 0 (fun gk t0 wr => t0 = .slice (some ⟨g, 0, none⟩) 2 c ∧ wr = w)
  case atStart => exact ⟨rfl, rfl⟩
  case round =>
    obtain ⟨rfl, rfl⟩ := hrel
    go_wp2_with fail
    go_ret
    exact ⟨rfl, rfl⟩
set_option maxRecDepth 20000 in
set_option maxHeartbeats 8000000 in
theorem qnormalQ2 (g c : Nat) (r : Nat → Rat) (hnz : (r 1).num ≠ 0) (w : World) (h : RowQ w g 0 2 r) : Calls Tryz.prog 94 #[.slice (some ⟨g, 0, none⟩) 2 c] w fun e w' => ∃ G, e = .returned (.slice (some ⟨G, 0, none⟩) 2 2) ∧ RowQ w' G 0 2 r ∧ Grow w w' := by
  obtain ⟨iu, hiu, iuz0, iuz1, iuz2⟩ := info_parts infoRat
  have HR := Lib.hid h
  have TR := Lib.hid (fun (G c' : Nat) (u : World) (hu : RowQ u G 0 2 r) => trimmedQ2 G c' r hnz u hu)
  clear h
  go_enter Tryz.func94, Tryz.ntmps94
  go_wp2_with (at_make; refine wpList_make_full _ rfl _ _ 87 rfl (w.heap.size) 27 iu (.agg #[.bool false, .slice none 0 0, .bool false, .slice none 0 0]) 4 Tryz.underlying87 hiu iuz0 iuz1 .i64 .i64 2 2 2 rfl rfl rfl rfl ?m1 ?m2 (Nat.le_refl _) ?_)
  case m1 => rw [iuz2]; omega
  case m2 => unfold maxLen; omega
  intro w1 hown1 hgrow1
  have HM := Lib.hid (made_row (g := w.heap.size) hown1)
  have HG1 := Lib.hid (show Grow w w1 from (Grow.refl w).grown hgrow1 (fun k hk => by cases hk))
  clear hown1 hgrow1 hiu iuz0 iuz1 iuz2
  go_wp2_with fail
  go_loopg [11] 2 (fun gk t11 wr => ∃ j : Nat, t11 = .int .i64 (j : Int) ∧ j ≤ 2 ∧ Hid (gk = 2 - j) ∧ Hid (Grow w wr) ∧ Hid (RowP wr w.heap.size 0 2 (fun i => if i < j then some (r i) else none)))
  case atStart => exact ⟨0, rfl, Nat.zero_le _, Lib.hid rfl, HG1, Lib.hid (HM.out.mono (Nat.le_refl _) (fun i x _ hx => by rw [if_neg (Nat.not_lt_zero _)] at hx; cases hx))⟩
  case round =>
    obtain ⟨j, rfl, hj2, HGK, HGR, HRA⟩ := hrel
    by_cases hjm : j = 2
    · have HF : Hid (RowQ wr w.heap.size 0 2 r) := Lib.hid (by rw [hjm] at HRA; exact HRA.out.full (fun i hi => by rw [if_pos hi]))
      subst hjm
      go_wp2_with (go_at_call 116; (with_reducible refine (TR.out _ _ _ HF.out).mono ?_); (rintro e u9 ⟨rfl, rfl⟩))
      go_ret
      exact ⟨_, rfl, HF.out, HGR.out⟩
    · have y0 : (0 : Int) ≤ (j : Int) := by omega
      have y1 : decide ((j : Int) < 2) = true := by simp; omega
      have y1n : decide (j < 2) = true := by simp; omega
      have y2 : (j : Int) < 2 := by omega
      have y2n : j < 2 := by omega
      obtain ⟨s7, a7, l7, c7, t7, b7, k7, e7, hcg, hvg⟩ := RowQ.cellj (RowP.grow HR.out HGR.out) j (by omega)
      obtain ⟨s3, a3, l3, c3, t3, b3, k3, e3, q0, q1, q2, q3⟩ := RowP.q4 HRA.out (show j < 2 by omega)
      rw [Nat.zero_add] at q0 q1 q2 q3
      have hlA := HRA.out.lt
      have hfA := HRA.out.free
      have D0 := Lib.hid (fun (u : World) (hg : Grow wr u) => (⟨(hg.cells _ _ hlA).trans q0, (hg.cells _ _ hlA).trans q1, (hg.cells _ _ hlA).trans q2, (hg.cells _ _ hlA).trans q3, fun o => (hg.frees _ _ hlA).trans (hfA o), Nat.lt_of_lt_of_le hlA hg.size⟩ : _ ∧ _ ∧ _ ∧ _ ∧ (∀ o, u.frozen? ⟨w.heap.size, o, none⟩ = false) ∧ _))
      have HST := Lib.hid (fun (u : World) (hu : Grow wr u) (s : Bool) (a : Option Addr) (l c : Nat) (t : Bool) (b : Option Addr) (k e : Nat) (hx : RatR u (.agg #[.bool s, .slice a l c, .bool t, .slice b k e]) (r j)) => RowP.set (RowP.grow HRA.out hu) (show j < 2 by omega) hx)
      simp only [Nat.zero_add] at HST
      have NQ := Lib.hid (fun (u : World) (hu : Grow wr u) => normalQ (r j) _ u (hvg.grow hu))
      obtain ⟨p0, p1, p2, p3⟩ := hcg wr (Grow.refl _)
      have y4 := Lib.hid (inc_wrap (i := j) (n := 2) (by omega) (by omega))
      clear hfA hcg hvg q0 q1 q2 q3 hjm
      go_upto_region 5 with fail
      obtain ⟨W5, hW5⟩ : ∃ W5 : World, W5 = wr.alloc (.cells #[.bool s7, .slice a7 l7 c7, .bool t7, .slice b7 k7 e7] 27) := ⟨_, rfl⟩
      rw [← hW5]
      have hg5 := ag hW5
      obtain ⟨z0, z1, z2, z3, z4, z5⟩ := ak4 hW5 W5 (Grow.refl _)
      clear hW5 p0 p1 p2 p3
      go_upto_region 6 with (go_at_call 22; (with_reducible refine (NQ.out _ (by (repeat (first | with_reducible exact Grow.refl _ | with_reducible refine Grow.alloc ?_ _ | with_reducible refine Grow.drew ?_ | with_reducible refine Grow.drewN ?_ _ | (with_reducible refine Grow.setCell ?_ ?hp _; (case hp => (simp; try omega))) | with_reducible refine Grow.trans ?_ (by assumption))))).mono ?_); (rintro e u6 ⟨v6, rfl, hv6, hb6⟩; obtain ⟨s6, a6, l6, c6, t6, b6, k6, e6, rfl⟩ := hv6.form; have HV6 := Lib.hid hv6; clear hv6; obtain ⟨f0_6, f1_6, f2_6, f3_6, df6, dz6⟩ := D0.out u6 (by (repeat (first | with_reducible exact Grow.refl _ | with_reducible refine Grow.alloc ?_ _ | with_reducible refine Grow.drew ?_ | with_reducible refine Grow.drewN ?_ _ | (with_reducible refine Grow.setCell ?_ ?hp _; (case hp => (simp; try omega))) | with_reducible refine Grow.trans ?_ (by assumption))))))
      have hst := HST.out u6 (by (repeat (first | with_reducible exact Grow.refl _ | with_reducible refine Grow.alloc ?_ _ | with_reducible refine Grow.drew ?_ | with_reducible refine Grow.drewN ?_ _ | (with_reducible refine Grow.setCell ?_ ?hp _; (case hp => (simp; try omega))) | with_reducible refine Grow.trans ?_ (by assumption)))) _ _ _ _ _ _ _ _ HV6.out
      have HGF : Hid (Grow w ((((u6.setCell ⟨w.heap.size, j * 4, none⟩ (.bool s6)).setCell ⟨w.heap.size, j * 4 + 1, none⟩ (.slice a6 l6 c6)).setCell ⟨w.heap.size, j * 4 + 2, none⟩ (.bool t6)).setCell ⟨w.heap.size, j * 4 + 3, none⟩ (.slice b6 k6 e6))) := Lib.hid (by have h9 := HGR.out; (repeat (first | with_reducible exact Grow.refl _ | with_reducible refine Grow.alloc ?_ _ | with_reducible refine Grow.drew ?_ | with_reducible refine Grow.drewN ?_ _ | (with_reducible refine Grow.setCell ?_ ?hp _; (case hp => (simp; try omega))) | with_reducible refine Grow.trans ?_ (by assumption))))
      obtain ⟨y3, y4⟩ := y4.out
      go_wp2_with fail
      clear y3 y4
      go_roundg (2 - (j + 1))
      case measure => have := HGK.out; omega
      case rel =>
        refine ⟨j + 1, rfl, by omega, Lib.hid rfl, HGF, Lib.hid (RowP.mono hst (Nat.le_refl _) (fun i x _ hx => ?_))⟩
        by_cases hij : i = j
        · rw [if_pos hij]; rw [if_pos (by omega), hij] at hx; exact hx
        · rw [if_neg hij]
          by_cases hlt : i < j
          · rw [if_pos hlt]; rw [if_pos (by omega)] at hx; exact hx
          · rw [if_neg (by omega)] at hx; cases hx
/-- The first Bernoulli polynomial. -/
def plN (j : Nat) : Rat := if j = 0 then mkRat (-1) 2 else 1
theorem pl_tab (k q : Nat) (h : q + k = 1) : ((bnN 1 k : Int) : Rat) * nbN q = plN k ∧ (((bnN 1 k : Int) : Rat).num * (nbN q).num).natAbs < 4294967296 ∧ ((((bnN 1 k : Int) : Rat).den : Int) * ((nbN q).den : Int)).natAbs < 4294967296 := by
  rcases (show k = 0 ∨ k = 1 by omega) with rfl | rfl
  · obtain rfl : q = 1 := by omega
    decide +kernel
  · obtain rfl : q = 0 := by omega
    decide +kernel
set_option maxRecDepth 20000 in
set_option maxHeartbeats 8000000 in
theorem poly1Q (w : World) : Calls Tryz.prog 56 #[.int .i64 1] w fun e w' => ∃ G, e = .returned (.slice (some ⟨G, 0, none⟩) 2 2) ∧ RowQ w' G 0 2 plN ∧ Grow w w' := by
  obtain ⟨ir, hir, irz0, irz1, irz2⟩ := info_parts infoRat
  have NU1 := Lib.hid (fun u => numbers1Q u)
  have BR : Hid (∀ u, Calls Tryz.prog 92 #[.int .i64 1] u fun e w' => ∃ g c, e = .returned (.slice (some ⟨g, 0, none⟩) 2 c) ∧ RowZ w' g 2 (bnN 1) ∧ Grow u w' ∧ u.heap.size ≤ g) := Lib.hid (fun u => bnrowQ 1 (.inl rfl) u)
  have QN := Lib.hid (fun (g c : Nat) (u : World) (hu : RowQ u g 0 2 plN) => qnormalQ2 g c plN (by decide +kernel) u hu)
  go_enter Tryz.func56, Tryz.ntmps56
  go_upto_region 2 with (first
    | (go_at_call 91; (with_reducible refine (NU1.out _).mono ?_); (rintro e u2 ⟨g2, c2, rfl, hr2, hb2, hg2⟩; have HR2 := Lib.hid hr2; have HG2 := Lib.hid hb2; clear hr2 hb2 hg2))
    | (go_at_call 92; (with_reducible refine (BR.out _).mono ?_); (rintro e u3 ⟨g3, c3, rfl, hz3, hb3, hg3⟩; have HZ3 := Lib.hid hz3; have HG3 := Lib.hid hb3; clear hz3 hb3 hg3)))
  have HR3 := Lib.hid (RowP.grow HR2.out HG3.out)
  have HGW := Lib.hid (HG2.out.trans HG3.out)
  clear NU1 BR HR2 HG2 HG3
  go_wp2_with fail
  go_loopg [5, 6] 2 (fun gk t5 t6 wr => ∃ (k : Nat) (a : Option Addr) (c : Nat) (xs : List Value), t5 = .slice a k c ∧ t6 = .int .i64 (k : Int) ∧ k ≤ 2 ∧ Hid (gk = 2 - k) ∧ Hid (OwnG wr u3.heap.size 27 4 (.slice a k c) k xs) ∧ Hid (ListR wr xs k plN) ∧ Hid (But (fun b => u3.heap.size ≤ b) u3 wr))
  case atStart => exact ⟨0, none, 0, [], rfl, rfl, Nat.zero_le _, Lib.hid rfl, Lib.hid (OwnG.nil _ _ _ _), Lib.hid (ListR.nil _ _), Lib.hid (But.refl _ _)⟩
  case round =>
    obtain ⟨k, a, c, xs, rfl, rfl, hk2, HGK, HO, HL, HB⟩ := hrel
    have hg3 : Grow u3 wr := HB.out.asGrow (fun b hb => hb)
    have HG3 := Lib.hid hg3
    have HG : Hid (Grow w wr) := Lib.hid (HGW.out.trans hg3)
    by_cases hk : k = 2
    · subst hk
      obtain ⟨g, cap, hv, hg1, hg2⟩ := own_slice HO.out.own (by omega)
      injection hv with h1 h2 h3
      subst h1 h3
      have HRQ := Lib.hid (own_rowq HO.out.own HL.out)
      clear hg3
      go_wp2_with (go_at_call 94; (with_reducible refine (QN.out _ _ _ HRQ.out).mono ?_); (rintro e u9 ⟨G, rfl, hr9, hb9⟩))
      go_ret
      exact ⟨G, rfl, hr9, HG.out.trans hb9⟩
    · have y1 : decide ((k : Int) ≤ 1) = true := by simp; omega
      have y1n : decide (k ≤ 1) = true := by simp; omega
      obtain ⟨q, hq⟩ : ∃ q, q + k = 1 := ⟨1 - k, by omega⟩
      have z0 : (0 : Int) ≤ (k : Int) := by omega
      have z1 : (k : Int) < 2 := by omega
      have z2 : k < 2 := by omega
      have z3 : (0 : Int) ≤ (q : Int) := by omega
      have z4 : (q : Int) < 2 := by omega
      have z5 : q < 2 := by omega
      have E1 : Hid (IntKind.i64.wrap (1 - (k : Int)) = (q : Int) ∧ wrap64 (1 - (k : Int)) = (q : Int)) := Lib.hid (by rw [show 1 - (k : Int) = (q : Int) by omega]; exact w64n (by omega))
      have y4 := Lib.hid (inc_wrap (i := k) (n := 2) (by omega) (by omega))
      have hz := HZ3.out.grow hg3
      obtain ⟨s8, a8, l8, c8, x0, x1, hvz⟩ := hz.at2 k z2
      have hzl := hz.lt
      obtain ⟨s7, a7, l7, c7, t7, b7, k7, e7, hcg, hvg⟩ := RowQ.cellj (RowP.grow HR3.out hg3) q z5
      have D0 := Lib.hid (fun (u : World) (hu : Grow wr u) => (⟨(hu.cells _ _ hzl).trans x0, (hu.cells _ _ hzl).trans x1⟩ : _ ∧ _))
      have D1 := Lib.hid hcg
      have HE := Lib.hid hvg
      have WH := Lib.hid (fun (u : World) (hu : Grow wr u) => wholeQ (bnN 1 k) _ u (hvz.grow hu))
      have MU := Lib.hid (fun v1 v2 (u : World) h1 h2 => mulQk ((bnN 1 k : Int) : Rat) (nbN q) (plN k) (pl_tab k q hq) v1 v2 u h1 h2)
      clear hz x0 x1 hvz hzl hcg hvg hq hg3 hk
      obtain ⟨e1, e1'⟩ := E1.out
      go_upto_region 6 with fail
      refine region_held (id := 6) (fun u => Grow wr u) [0, 1, 2, 3, 4, 6, 7, 8, 9, 10, 11, 5, 12, 13, 14, 15] (kdL [0, 0, 0, 0, 1, 2, 0, 0, 0, 0, 0, 1, 2, 2, 3, 0]) (by kernel_rfl) (by kernel_rfl) (fun t ht => kdL_lt _ t ht) ?hS0q ?_
      case hS0q => ((try dsimp only); (repeat (first | with_reducible exact Grow.refl _ | with_reducible refine Grow.alloc ?_ _ | with_reducible refine Grow.drew ?_ | with_reducible refine Grow.drewN ?_ _ | (with_reducible refine Grow.setCell ?_ ?hp _; (case hp => (simp; try omega))) | with_reducible refine Grow.trans ?_ (by assumption))))
      refine held_quiet (v := ?vq0) rfl rfl (Or.inl ⟨by rfl, ?hyq0⟩) ?_
      case hyq0 => (intro u hu; go_simp; (try with_reducible rfl))
      (try simp only [Act.put, List.setIfInBounds_toArray, List.set_cons_zero, List.set_cons_succ])
      refine held_quiet (v := ?vq1) rfl rfl (Or.inl ⟨by rfl, ?hyq1⟩) ?_
      case hyq1 => (intro u hu; go_simp; (try with_reducible rfl))
      (try simp only [Act.put, List.setIfInBounds_toArray, List.set_cons_zero, List.set_cons_succ])
      refine held_quiet (v := ?vq2) rfl rfl (Or.inl ⟨by rfl, ?hyq2⟩) ?_
      case hyq2 => (intro u hu; go_simp; (try with_reducible rfl))
      (try simp only [Act.put, List.setIfInBounds_toArray, List.set_cons_zero, List.set_cons_succ])
      refine held_quiet (v := ?vq3) rfl rfl (Or.inl ⟨by rfl, ?hyq3⟩) ?_
      case hyq3 => (intro u hu; go_simp; (try with_reducible rfl))
      (try simp only [Act.put, List.setIfInBounds_toArray, List.set_cons_zero, List.set_cons_succ])
      refine held_read (v := ?vq4) rfl rfl (Or.inl ⟨by rfl, ?hyq4⟩) ?_
      case hyq4 => (intro u hu; obtain ⟨d0, d1⟩ := D0.out u hu; obtain ⟨f0, f1, f2, f3⟩ := D1.out u hu; go_simp; (try with_reducible rfl))
      (try simp only [Act.put, List.setIfInBounds_toArray, List.set_cons_zero, List.set_cons_succ])
      refine held_quiet (v := ?vq6) rfl rfl (Or.inl ⟨by rfl, ?hyq6⟩) ?_
      case hyq6 => (intro u hu; go_simp; (try with_reducible rfl))
      (try simp only [Act.put, List.setIfInBounds_toArray, List.set_cons_zero, List.set_cons_succ])
      refine held_quiet (v := ?vq7) rfl rfl (Or.inl ⟨by rfl, ?hyq7⟩) ?_
      case hyq7 => (intro u hu; go_simp; (try with_reducible rfl))
      (try simp only [Act.put, List.setIfInBounds_toArray, List.set_cons_zero, List.set_cons_succ])
      refine held_quiet (v := ?vq8) rfl rfl (Or.inl ⟨by rfl, ?hyq8⟩) ?_
      case hyq8 => (intro u hu; go_simp; (try with_reducible rfl))
      (try simp only [Act.put, List.setIfInBounds_toArray, List.set_cons_zero, List.set_cons_succ])
      refine held_quiet (v := ?vq9) rfl rfl (Or.inl ⟨by rfl, ?hyq9⟩) ?_
      case hyq9 => (intro u hu; go_simp; (try with_reducible rfl))
      (try simp only [Act.put, List.setIfInBounds_toArray, List.set_cons_zero, List.set_cons_succ])
      refine held_quiet (v := ?vq10) rfl rfl (Or.inl ⟨by rfl, ?hyq10⟩) ?_
      case hyq10 => (intro u hu; go_simp; (try with_reducible rfl))
      (try simp only [Act.put, List.setIfInBounds_toArray, List.set_cons_zero, List.set_cons_succ])
      refine held_read (v := ?vq11) rfl rfl (Or.inl ⟨by rfl, ?hyq11⟩) ?_
      case hyq11 => (intro u hu; obtain ⟨d0, d1⟩ := D0.out u hu; obtain ⟨f0, f1, f2, f3⟩ := D1.out u hu; go_simp; (try with_reducible rfl))
      (try simp only [Act.put, List.setIfInBounds_toArray, List.set_cons_zero, List.set_cons_succ])
      refine held_op rfl rfl (fun K hK => ?_)
      go_simp
      (go_at_call 93; (with_reducible refine (WH.out _ (by (repeat (first | with_reducible exact Grow.refl _ | with_reducible refine Grow.alloc ?_ _ | with_reducible refine Grow.drew ?_ | with_reducible refine Grow.drewN ?_ _ | (with_reducible refine Grow.setCell ?_ ?hp _; (case hp => (simp; try omega))) | with_reducible refine Grow.trans ?_ (by assumption))))).mono ?_); (rintro x u25 ⟨v25, rfl, hv25, hb25⟩; obtain ⟨s25, a25, l25, c25, t25, b25, k25, e25, rfl⟩ := hv25.form; have HV25 := Lib.hid hv25; clear hv25))
      (try go_wp2_with fail)
      refine hK.out _ _ ?hSq5 ?_
      case hSq5 => ((try dsimp only); (repeat (first | with_reducible exact Grow.refl _ | with_reducible refine Grow.alloc ?_ _ | with_reducible refine Grow.drew ?_ | with_reducible refine Grow.drewN ?_ _ | (with_reducible refine Grow.setCell ?_ ?hp _; (case hp => (simp; try omega))) | with_reducible refine Grow.trans ?_ (by assumption))))
      clear hK K
      (try simp only [Act.put, List.setIfInBounds_toArray, List.set_cons_zero, List.set_cons_succ])
      refine held_op rfl rfl (fun K hK => ?_)
      go_simp
      (go_at_call 34; (with_reducible refine (MU.out _ _ _ (HV25.out.grow (by (repeat (first | with_reducible exact Grow.refl _ | with_reducible refine Grow.alloc ?_ _ | with_reducible refine Grow.drew ?_ | with_reducible refine Grow.drewN ?_ _ | (with_reducible refine Grow.setCell ?_ ?hp _; (case hp => (simp; try omega))) | with_reducible refine Grow.trans ?_ (by assumption))))) (HE.out.grow (by (repeat (first | with_reducible exact Grow.refl _ | with_reducible refine Grow.alloc ?_ _ | with_reducible refine Grow.drew ?_ | with_reducible refine Grow.drewN ?_ _ | (with_reducible refine Grow.setCell ?_ ?hp _; (case hp => (simp; try omega))) | with_reducible refine Grow.trans ?_ (by assumption)))))).mono ?_); (rintro x u32 ⟨v32, rfl, hv32, hb32⟩; obtain ⟨s32, a32, l32, c32, t32, b32, k32, e32, rfl⟩ := hv32.form; have HV32 := Lib.hid hv32; clear hv32))
      (try go_wp2_with fail)
      refine hK.out _ _ ?hSq12 ?_
      case hSq12 => ((try dsimp only); (repeat (first | with_reducible exact Grow.refl _ | with_reducible refine Grow.alloc ?_ _ | with_reducible refine Grow.drew ?_ | with_reducible refine Grow.drewN ?_ _ | (with_reducible refine Grow.setCell ?_ ?hp _; (case hp => (simp; try omega))) | with_reducible refine Grow.trans ?_ (by assumption))))
      clear hK K
      (try simp only [Act.put, List.setIfInBounds_toArray, List.set_cons_zero, List.set_cons_succ])
      refine held_op rfl rfl (fun K hK => ?_)
      go_simp
      refine hK.out _ _ ?hSq13 ?_
      case hSq13 => ((try dsimp only); (repeat (first | with_reducible exact Grow.refl _ | with_reducible refine Grow.alloc ?_ _ | with_reducible refine Grow.drew ?_ | with_reducible refine Grow.drewN ?_ _ | (with_reducible refine Grow.setCell ?_ ?hp _; (case hp => (simp; try omega))) | with_reducible refine Grow.trans ?_ (by assumption))))
      clear hK K
      (try simp only [Act.put, List.setIfInBounds_toArray, List.set_cons_zero, List.set_cons_succ])
      refine held_last rfl rfl (fun K hK => ?_)
      (refine step_append_g (by rfl) _ _ _ (by rfl) 27 ir _ 4 64 Tryz.underlying87 hir irz0 irz1 irz2 rfl (by decide) rat_zero_nu (by decide) u3.heap.size _ k xs (by rfl) (HO.out.grow (by (repeat (first | with_reducible exact Grow.refl _ | with_reducible refine Grow.alloc ?_ _ | with_reducible refine Grow.drew ?_ | with_reducible refine Grow.drewN ?_ _ | (with_reducible refine Grow.setCell ?_ ?hp _; (case hp => (simp; try omega))) | with_reducible refine Grow.trans ?_ (by assumption))))) ⟨u32.heap.size, 0, none⟩ 1 [.bool s32, .slice a32 l32 c32, .bool t32, .slice b32 k32 e32] (by rfl) rfl (rat_news u32 s32 a32 l32 c32 t32 b32 k32 e32 27) (rat_one s32 a32 l32 c32 t32 b32 k32 e32) (rat_nu s32 a32 l32 c32 t32 b32 k32 e32) (by omega) (by have h1 := HG3.out.size; have h2 := (show Grow wr u32 by (repeat (first | with_reducible exact Grow.refl _ | with_reducible refine Grow.alloc ?_ _ | with_reducible refine Grow.drew ?_ | with_reducible refine Grow.drewN ?_ _ | (with_reducible refine Grow.setCell ?_ ?hp _; (case hp => (simp; try omega))) | with_reducible refine Grow.trans ?_ (by assumption)))).size; simp; omega) ?_; intro v7 w7 hown7 hb7; obtain ⟨a7, c7, rfl⟩ := hown7.form)
      refine hK.out _ _ ?_
      clear hK K
      (try simp only [Act.put, List.setIfInBounds_toArray, List.set_cons_zero, List.set_cons_succ])
      refine held_quiet (v := ?vq15) rfl rfl (Or.inl ⟨by rfl, ?hyq15⟩) ?_
      case hyq15 => (intro u hu; go_simp; (try with_reducible rfl))
      (try simp only [Act.put, List.setIfInBounds_toArray, List.set_cons_zero, List.set_cons_succ])
      refine held_done ?_
      clear e1 e1' y1 y1n
      have hga : Grow wr (u32.alloc (.cells #[.bool s32, .slice a32 l32 c32, .bool t32, .slice b32 k32 e32] 27)) := by (repeat (first | with_reducible exact Grow.refl _ | with_reducible refine Grow.alloc ?_ _ | with_reducible refine Grow.drew ?_ | with_reducible refine Grow.drewN ?_ _ | (with_reducible refine Grow.setCell ?_ ?hp _; (case hp => (simp; try omega))) | with_reducible refine Grow.trans ?_ (by assumption)))
      have hl7 := ((HL.out.grow hga).append ((listr_one HV32.out).grow (by (repeat (first | with_reducible exact Grow.refl _ | with_reducible refine Grow.alloc ?_ _ | with_reducible refine Grow.drew ?_ | with_reducible refine Grow.drewN ?_ _ | (with_reducible refine Grow.setCell ?_ ?hp _; (case hp => (simp; try omega))) | with_reducible refine Grow.trans ?_ (by assumption)))))).but hb7
      have HL7 := Lib.hid (hl7.cong (r' := plN) (fun j hj => by
        by_cases hjk : j < k
        · rw [if_pos hjk]
        · rw [if_neg hjk, show j = k by omega]))
      have HO7 := Lib.hid hown7
      have HB7 := Lib.hid (((HB.out.trans (hga.but _)).late hb7 (fun b hb hy => hy)))
      clear hl7 hown7 hb7 hga
      obtain ⟨e4, e4'⟩ := y4.out
      go_simp
      go_wp2_with fail
      clear e4 e4'
      go_roundg (2 - (k + 1))
      case measure => have := HGK.out; omega
      case rel => exact ⟨k + 1, a7, c7, _, rfl, rfl, by omega, Lib.hid rfl, HO7, HL7, HB7⟩
end Go.Proofs.YtbpkfcohbefphaaGreatDoor
