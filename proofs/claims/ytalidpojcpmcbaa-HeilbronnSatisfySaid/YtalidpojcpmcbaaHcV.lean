/- Memory of the reference's Satisfies: the class and the sum that it keeps. -/
import Derived.Test.YtalidpojcpmcbaaHcR
import Derived.Test.YtalidpojcpmcbaaHcU
namespace Go.Proofs.Ytalidpojcpmcbaa
open Go Go.RowKit

/-- The class in block X, the sum's two slices in block Y. -/
structure SMc (w u : World) (X Y base : Nat) (k : K3) (vc vt : Value) : Prop where
  x0 : u.cell? ⟨X, 0, none⟩ = some (.int .i64 k.a)
  x1 : u.cell? ⟨X, 1, none⟩ = some (.int .i64 k.b)
  x2 : u.cell? ⟨X, 2, none⟩ = some (.int .i64 0)
  x3 : u.cell? ⟨X, 3, none⟩ = some (.int .i64 k.d)
  y0 : u.cell? ⟨Y, 0, none⟩ = some vc
  y1 : u.cell? ⟨Y, 1, none⟩ = some vt
  yf : ∀ o, u.frozen? ⟨Y, o, none⟩ = false
  xb : X < base
  wx : w.heap.size ≤ X
  xy : X < Y
  by' : base ≤ u.heap.size
  yz : Y < u.heap.size
  gr : Grow w u
theorem SMc.grow {w u u' : World} {X Y base : Nat} {k : K3} {vc vt : Value} (h : SMc w u X Y base k vc vt) (hg : Grow u u') : SMc w u' X Y base k vc vt := by
  have hz := hg.size
  have a := h.xy
  have b := h.yz
  have c := h.by'
  exact ⟨(hg.cells _ _ (by omega)).trans h.x0, (hg.cells _ _ (by omega)).trans h.x1, (hg.cells _ _ (by omega)).trans h.x2, (hg.cells _ _ (by omega)).trans h.x3, (hg.cells _ _ b).trans h.y0, (hg.cells _ _ b).trans h.y1, fun o => (hg.frees _ _ b).trans (h.yf o), h.xb, h.wx, a, by omega, by omega, h.gr.trans hg⟩
/-- The sum's own blocks are not block Y. -/
def NEb (Y : Nat) (vc vt : Value) : Prop := (∀ k, vc.ownBlock = some k → k ≠ Y) ∧ ∀ k, vt.ownBlock = some k → k ≠ Y
theorem SumOwn.grow {w u : World} {base : Nat} {cv tv : Value} {cs : List C2} {ts : List Int} (h : SumOwn w base cv tv cs ts) (hg : Grow w u) : SumOwn u base cv tv cs ts := ⟨h.1.into hg, h.2.1.into hg, h.2.2.1, h.2.2.2⟩
theorem SMc.st {w u u' : World} {X Y base : Nat} {k : K3} {yc yt vc vt vc' vt' : Value} {xs xs' : List C2} {ys ys' : List Int} (h : SMc w u X Y base k yc yt) (hs : SumOwn u base vc vt xs ys) (hn : NEb Y vc vt) (st : St u u' base vc vt vc' vt' xs' ys') :
    SMc w u' X Y base k yc yt ∧ NEb Y vc' vt' := by
  have a := h.xy
  have b := h.yz
  have c := h.by'
  have d := h.xb
  have e := h.wx
  have hz := st.but.size
  have l1 : ∀ k, vc.ownBlock = some k → base ≤ k := fun k hk => (World.ownsRow.lt hs.1 k hk).1
  have l2 : ∀ k, vt.ownBlock = some k → base ≤ k := fun k hk => (World.ownsRow.lt hs.2.1 k hk).1
  have hX : u'.heap[X]? = u.heap[X]? := st.but.block X (by omega) (fun e => by have := l1 X e.symm; omega) (fun e => by have := l2 X e.symm; omega)
  have hY : u'.heap[Y]? = u.heap[Y]? := st.but.block Y b (fun e => hn.1 Y e.symm rfl) (fun e => hn.2 Y e.symm rfl)
  refine ⟨⟨(World.cell?_of_block hX).trans h.x0, (World.cell?_of_block hX).trans h.x1, (World.cell?_of_block hX).trans h.x2, (World.cell?_of_block hX).trans h.x3, (World.cell?_of_block hY).trans h.y0, (World.cell?_of_block hY).trans h.y1,
    fun o => (World.frozen?_of_block hY).trans (h.yf o), d, e, a, by omega, by omega, ?_⟩, ?_, ?_⟩
  · exact st.but.up h.gr (fun k hk => by have := l1 k hk; omega) (fun k hk => by have := l2 k hk; omega)
  · intro k hk
    rcases st.bc k hk with h1 | h1
    · exact hn.1 k h1
    · omega
  · intro k hk
    rcases st.bt k hk with h1 | h1
    · exact hn.2 k h1
    · omega
theorem SMc.store {w u : World} {X Y base : Nat} {k : K3} {yc yt : Value} (h : SMc w u X Y base k yc yt) (vc vt : Value) : SMc w ((u.setCell ⟨Y, 0, none⟩ vc).setCell ⟨Y, 1, none⟩ vt) X Y base k vc vt := by
  have a := h.xy
  have b := h.yz
  have c := h.wx
  have kX : ∀ o, ((u.setCell ⟨Y, 0, none⟩ vc).setCell ⟨Y, 1, none⟩ vt).cell? ⟨X, o, none⟩ = u.cell? ⟨X, o, none⟩ := fun o =>
    (World.cell?_of_block (Below.heap_setCell _ _ _ _ (by show X ≠ Y; omega))).trans (World.cell?_of_block (Below.heap_setCell _ _ _ _ (by show X ≠ Y; omega)))
  refine ⟨(kX _).trans h.x0, (kX _).trans h.x1, (kX _).trans h.x2, (kX _).trans h.x3, ?_, ?_, ?_, h.xb, c, a, ?_, ?_, ?_⟩
  · rw [World.cell?_setCell_other _ _ _ _ (by simp), World.cell?_setCell_same _ _ _ h.y0]
  · rw [World.cell?_setCell_same _ _ _ (u := yt) (by rw [World.cell?_setCell_other _ _ _ _ (by simp)]; exact h.y1)]
  · intro o
    rw [World.frozen?_setCell, World.frozen?_setCell]
    exact h.yf o
  · simpa [World.setCell] using h.by'
  · simpa [World.setCell] using b
  · exact ((h.gr.setCell (p := ⟨Y, 0, none⟩) (by show w.heap.size ≤ Y; omega) _).setCell (p := ⟨Y, 1, none⟩) (by show w.heap.size ≤ Y; omega) _)
theorem SumOwn.store {u : World} {base Y : Nat} {vc vt : Value} {xs : List C2} {ys : List Int} (h : SumOwn u base vc vt xs ys) (hn : NEb Y vc vt) (a b : Value) : SumOwn ((u.setCell ⟨Y, 0, none⟩ a).setCell ⟨Y, 1, none⟩ b) base vc vt xs ys :=
  ⟨own_put (own_put h.1 (a := ⟨Y, 0, none⟩) hn.1 _) (a := ⟨Y, 1, none⟩) hn.1 _, own_put (own_put h.2.1 (a := ⟨Y, 0, none⟩) hn.2 _) (a := ⟨Y, 1, none⟩) hn.2 _, h.2.2⟩
theorem SumOwn.nil (w : World) (base : Nat) : SumOwn w base (.slice none 0 0) (.slice none 0 0) [] [] :=
  ⟨World.ownsRow_nil _ _ _ _, World.ownsRow_nil _ _ _ _, rfl, fun k h => by cases h⟩
theorem sm_start {w wr w1 w2 : World} {A b q : Int} {T T2 : TypeId} {cv1 tv1 vc vt : Value} {xs1 xs : List C2} {ys1 ys : List Int} (hG : Grow w wr)
    (h1 : St (wr.alloc (.cells #[.int .i64 A, .int .i64 b, .int .i64 0, .int .i64 q] T)) w1 (wr.heap.size + 1) (.slice none 0 0) (.slice none 0 0) cv1 tv1 xs1 ys1) (h2 : St w1 w2 (wr.heap.size + 1) cv1 tv1 vc vt xs ys) (hl : xs.length = ys.length) :
    SMc w (w2.alloc (.cells #[vc, vt] T2)) wr.heap.size w2.heap.size (wr.heap.size + 1) ⟨A, b, q⟩ vc vt ∧ SumOwn (w2.alloc (.cells #[vc, vt] T2)) (wr.heap.size + 1) vc vt xs ys ∧ NEb w2.heap.size vc vt := by
  have z1 : (wr.alloc (.cells #[.int .i64 A, .int .i64 b, .int .i64 0, .int .i64 q] T)).heap.size = wr.heap.size + 1 := by simp
  have g1 : Grow (wr.alloc (.cells #[.int .i64 A, .int .i64 b, .int .i64 0, .int .i64 q] T)) w1 := h1.but.up (Grow.refl _) (fun k hk => by cases hk) (fun k hk => by cases hk)
  have g2 : Grow (wr.alloc (.cells #[.int .i64 A, .int .i64 b, .int .i64 0, .int .i64 q] T)) w2 := h2.but.up g1 (fun k hk => by rw [z1]; exact (World.ownsRow.lt h1.oc k hk).1) (fun k hk => by rw [z1]; exact (World.ownsRow.lt h1.ot k hk).1)
  have z2 := g2.size
  rw [z1] at z2
  have g3 := g2.alloc (.cells #[vc, vt] T2)
  have g0 : Grow w (w2.alloc (.cells #[vc, vt] T2)) := (hG.alloc _).trans g3
  have hw := hG.size
  refine ⟨⟨(g3.cells _ _ (by omega)).trans ?_, (g3.cells _ _ (by omega)).trans ?_, (g3.cells _ _ (by omega)).trans ?_, (g3.cells _ _ (by omega)).trans ?_, ?_, ?_, ?_, by omega, hw, by omega, by simp; omega, by simp, g0⟩, ?_, ?_, ?_⟩
  · rw [World.cell?_alloc_at _ _ _ _ rfl]; rfl
  · rw [World.cell?_alloc_at _ _ _ _ rfl]; rfl
  · rw [World.cell?_alloc_at _ _ _ _ rfl]; rfl
  · rw [World.cell?_alloc_at _ _ _ _ rfl]; rfl
  · rw [World.cell?_alloc_at _ _ _ _ rfl]; rfl
  · rw [World.cell?_alloc_at _ _ _ _ rfl]; rfl
  · intro o; go_simp
  · exact (h2.sum hl).grow ((Grow.refl w2).alloc _)
  · intro k hk; have := (World.ownsRow.lt h2.oc k hk).2; omega
  · intro k hk; have := (World.ownsRow.lt h2.ot k hk).2; omega
theorem add_pq (cs : List C2) (ts : List Int) (p q : Int) (n : Int) (hn : n.natAbs ≤ 1) (hl : cs.length ≤ 100000) (hb : ∀ t ∈ ts, t.natAbs ≤ 1000000) (base : Nat) (cv tv : Value) (w : World) (hs : SumOwn w base cv tv cs ts) (hbase : base ≤ w.heap.size) :
    Calls Try.prog 32 #[.agg #[cv, tv], .agg #[.int .i64 p, .int .i64 q], .int .i64 n] w fun e w' => ∃ cv' tv' cs' ts', e = .returned (.agg #[cv', tv']) ∧ AddOut cs ts ⟨p, q⟩ n cs' ts' ∧ St w w' base cv tv cv' tv' cs' ts' :=
  add_any cs ts ⟨p, q⟩ n hn hl hb base cv tv w hs hbase
theorem el_of {w u : World} {b o : Nat} {m : M2} (h : at4 (fun o => w.cell? ⟨b, o, none⟩) o m) (hb : b < w.heap.size) (hg : Grow w u) :
    u.cell? ⟨b, o, none⟩ = some (.int .i64 m.a) ∧ u.cell? ⟨b, o + 1, none⟩ = some (.int .i64 m.b) ∧ u.cell? ⟨b, o + 2, none⟩ = some (.int .i64 m.c) ∧ u.cell? ⟨b, o + 3, none⟩ = some (.int .i64 m.d) := by
  obtain ⟨d1, d2, d3, d4⟩ := h
  exact ⟨(hg.cells _ _ hb).trans d1, (hg.cells _ _ hb).trans d2, (hg.cells _ _ hb).trans d3, (hg.cells _ _ hb).trans d4⟩
theorem ixN (x y z u : Int) (j : Nat) (hj : j < 4) (w : World) : (Instr.index 54 (.agg #[.int .i64 x, .int .i64 y, .int .i64 z, .int .i64 u]) (.int .i64 (j : Int))).run Try.prog w = .ok (.int .i64 (entM ⟨x, y, z, u⟩ j)) w := by
  rcases (by omega : j = 0 ∨ j = 1 ∨ j = 2 ∨ j = 3) with rfl | rfl | rfl | rfl
  · exact ix0 x y z u w
  · exact ix1 x y z u w
  · exact ix2 x y z u w
  · exact ix3 x y z u w
end Go.Proofs.Ytalidpojcpmcbaa
