/- Lemmas, plain laws and walks that the statement LwClassNumber leans on (texts RwB, RwD, RwF, RwG, RwI, RwJ, RwM, RwU, RwN, SeA, ThA, QiA, BiT, ThE, HwA, GcA), conditions as each theorem says. -/
import Derived.OwnWalk
import Derived.Laws.OwnMore
import Derived.Deep.QuietTactic
import Derived.BigQuiet
import Derived.Test.YtbpkfcohbefphaaGreatDoorTopCnG01
import Derived.Test.YtbpkfcohbefphaaGreatDoorTopCnG07
import Derived.Test.YtbpkfcohbefphaaGreatDoorTopCnG09

namespace Go.Proofs.YtbpkfcohbefphaaGreatDoor
open Go Go.RowKit
/-- The world has grown; of the old blocks only those of X may have changed, and no number in them. -/
structure But (X : Nat → Prop) (w w' : World) : Prop where
  os : w'.os = w.os
  tape : w'.tape = w.tape
  output : w'.output = w.output
  size : w.heap.size ≤ w'.heap.size
  block : ∀ b, b < w.heap.size → ¬ X b → w'.heap[b]? = w.heap[b]?
  frees : ∀ b o, b < w.heap.size → w'.frozen? ⟨b, o, none⟩ = w.frozen? ⟨b, o, none⟩
  num : ∀ b o x, b < w.heap.size → w.cell? ⟨b, o, none⟩ = some (.int .u32 x) → w'.cell? ⟨b, o, none⟩ = some (.int .u32 x)
theorem But.cells {X : Nat → Prop} {w w' : World} (h : But X w w') : ∀ b o, b < w.heap.size → ¬ X b → w'.cell? ⟨b, o, none⟩ = w.cell? ⟨b, o, none⟩ := fun b _ hb hx => World.cell?_of_block (h.block b hb hx)
theorem But.refl (X : Nat → Prop) (w : World) : But X w w := ⟨rfl, rfl, rfl, Nat.le_refl _, fun _ _ _ => rfl, fun _ _ _ => rfl, fun _ _ _ _ h => h⟩
theorem Grow.but {w w' : World} (h : Grow w w') (X : Nat → Prop) : But X w w' :=
  ⟨h.os, h.tape, h.output, h.size, fun b hb _ => Below.block h b hb, fun b o hb => h.frees b o hb, fun b o _ hb hc => (h.cells b o hb).trans hc⟩
theorem But.trans {X : Nat → Prop} {w w1 w2 : World} (h : But X w w1) (h' : But X w1 w2) : But X w w2 :=
  ⟨h'.os.trans h.os, h'.tape.trans h.tape, h'.output.trans h.output, Nat.le_trans h.size h'.size, fun b hb hx => (h'.block b (Nat.lt_of_lt_of_le hb h.size) hx).trans (h.block b hb hx),
    fun b o hb => (h'.frees b o (Nat.lt_of_lt_of_le hb h.size)).trans (h.frees b o hb), fun b o x hb hc => h'.num b o x (Nat.lt_of_lt_of_le hb h.size) (h.num b o x hb hc)⟩
theorem But.grow {X : Nat → Prop} {w w1 w2 : World} (h : But X w w1) (h' : Grow w1 w2) : But X w w2 := h.trans (h'.but X)
theorem But.mono {X Y : Nat → Prop} {w w1 : World} (h : But X w w1) (hxy : ∀ b, X b → Y b) : But Y w w1 :=
  ⟨h.os, h.tape, h.output, h.size, fun b hb hy => h.block b hb (fun hx => hy (hxy b hx)), h.frees, h.num⟩
/-- Blocks that did not stand yet may change. -/
theorem But.late {X Y : Nat → Prop} {w w1 w2 : World} (h : But X w w1) (h' : But Y w1 w2) (hxy : ∀ b, b < w.heap.size → Y b → X b) : But X w w2 :=
  ⟨h'.os.trans h.os, h'.tape.trans h.tape, h'.output.trans h.output, Nat.le_trans h.size h'.size, fun b hb hx => (h'.block b (Nat.lt_of_lt_of_le hb h.size) (fun hy => hx (hxy b hb hy))).trans (h.block b hb hx),
    fun b o hb => (h'.frees b o (Nat.lt_of_lt_of_le hb h.size)).trans (h.frees b o hb), fun b o x hb hc => h'.num b o x (Nat.lt_of_lt_of_le hb h.size) (h.num b o x hb hc)⟩
/-- If all that may have changed is new, the world has grown. -/
theorem But.asGrow {X : Nat → Prop} {w w' : World} (h : But X w w') (hx : ∀ b, X b → w.heap.size ≤ b) : Grow w w' :=
  ⟨h.os, h.tape, h.output, h.size, fun b hb => h.block b hb (fun hb' => by have := hx b hb'; omega)⟩
theorem But.set {X : Nat → Prop} {w u : World} (h : But X w u) {B o : Nat} (v : Value) (hX : w.heap.size ≤ B ∨ X B) (hn : ∀ x, u.cell? ⟨B, o, none⟩ ≠ some (.int .u32 x)) : But X w (u.setCell ⟨B, o, none⟩ v) := by
  refine ⟨h.os, h.tape, h.output, by simpa [World.setCell] using h.size, fun b hb hx => ?_, fun b o' hb => by simpa using h.frees b o' hb, fun b o' x hb hc => ?_⟩
  · have hne : B ≠ b := by
      rintro rfl
      rcases hX with h1 | h1
      · omega
      · exact hx h1
    have h2 : (u.setCell ⟨B, o, none⟩ v).heap[b]? = u.heap[b]? := by
      simp only [World.setCell, Array.getElem?_modify]
      rw [if_neg hne]
    exact h2.trans (h.block b hb hx)
  · have h1 := h.num b o' x hb hc
    by_cases hpo : (⟨B, o, none⟩ : Addr) = ⟨b, o', none⟩
    · rw [← hpo] at h1
      exact absurd h1 (hn _)
    · rw [World.cell?_setCell_other _ _ _ _ hpo]
      exact h1
theorem But.alloc {X : Nat → Prop} {w u : World} (h : But X w u) (o : Obj) : But X w (u.alloc o) := h.grow ((Grow.refl u).alloc o)
theorem But.drew {X : Nat → Prop} {w u : World} (h : But X w u) : But X w u.drew := h.grow ((Grow.refl u).drew)
theorem But.drewN {X : Nat → Prop} {w u : World} (h : But X w u) (n : Nat) : But X w (u.drewN n) := h.grow ((Grow.refl u).drewN n)
theorem MagR.but {X : Nat → Prop} {w w' : World} {m : Value} {n : Nat} (h : MagR w m n) (hg : But X w w') : MagR w' m n := by
  rcases h with h | ⟨h0, h1, b, off, cap, hm, hk, hb, hc⟩
  · exact .inl h
  · exact .inr ⟨h0, h1, b, off, cap, hm, hk, Nat.lt_of_lt_of_le hb hg.size, hg.num _ _ _ hb hc⟩
theorem IntR.but {X : Nat → Prop} {w w' : World} {v : Value} {z : Int} (h : IntR w v z) (hg : But X w w') : IntR w' v z := by
  obtain ⟨m, hv, h⟩ := h
  exact ⟨m, hv, h.but hg⟩
theorem RatR.but {X : Nat → Prop} {w w' : World} {v : Value} {x : Rat} (h : RatR w v x) (hg : But X w w') : RatR w' v x := by
  obtain ⟨m1, m2, hv, h1, h2⟩ := h
  exact ⟨m1, m2, hv, h1.but hg, h2.but hg⟩
/-- Four cells from o on, as a fraction's value. -/
def Q4 (f : Nat → Option Value) (o : Nat) (s : Bool) (a : Option Addr) (l c : Nat) (t : Bool) (b : Option Addr) (k e : Nat) : Prop :=
  f o = some (.bool s) ∧ f (o + 1) = some (.slice a l c) ∧ f (o + 2) = some (.bool t) ∧ f (o + 3) = some (.slice b k e)
/-- Block B holds m fractions from off on; r names those that are known. -/
structure RowP (w : World) (B off m : Nat) (r : Nat → Option Rat) : Prop where
  lt : B < w.heap.size
  free : ∀ o, w.frozen? ⟨B, o, none⟩ = false
  at4 : ∀ j, j < m → ∃ s a l c t b k e, Q4 (fun i => w.cell? ⟨B, i, none⟩) (off + j * 4) s a l c t b k e ∧ ∀ x, r j = some x → RatR w (.agg #[.bool s, .slice a l c, .bool t, .slice b k e]) x
theorem RowP.but {X : Nat → Prop} {w w' : World} {B off m : Nat} {r : Nat → Option Rat} (h : RowP w B off m r) (hX : ¬ X B) (hg : But X w w') : RowP w' B off m r := by
  refine ⟨Nat.lt_of_lt_of_le h.lt hg.size, fun o => (hg.frees _ _ h.lt).trans (h.free o), fun j hj => ?_⟩
  obtain ⟨s, a, l, c, t, b, k, e, ⟨h1, h2, h3, h4⟩, hr⟩ := h.at4 j hj
  exact ⟨s, a, l, c, t, b, k, e, ⟨(hg.cells _ _ h.lt hX).trans h1, (hg.cells _ _ h.lt hX).trans h2, (hg.cells _ _ h.lt hX).trans h3, (hg.cells _ _ h.lt hX).trans h4⟩, fun x hx => (hr x hx).but hg⟩
theorem RowP.grow {w w' : World} {B off m : Nat} {r : Nat → Option Rat} (h : RowP w B off m r) (hg : Grow w w') : RowP w' B off m r := h.but (X := fun _ => False) (fun h => h) (hg.but _)
theorem RowP.mono {w : World} {B off m m' : Nat} {r r' : Nat → Option Rat} (h : RowP w B off m r) (hm : m' ≤ m) (hr : ∀ j x, j < m' → r' j = some x → r j = some x) : RowP w B off m' r' := by
  refine ⟨h.lt, h.free, fun j hj => ?_⟩
  obtain ⟨s, a, l, c, t, b, k, e, h1, h2⟩ := h.at4 j (by omega)
  exact ⟨s, a, l, c, t, b, k, e, h1, fun x hx => h2 x (hr j x hj hx)⟩
/-- The tail of a row. -/
theorem RowP.tail {w : World} {B off m : Nat} {r : Nat → Option Rat} (h : RowP w B off m r) (k : Nat) (hk : k ≤ m) : RowP w B (off + k * 4) (m - k) (fun j => r (k + j)) := by
  refine ⟨h.lt, h.free, fun j hj => ?_⟩
  obtain ⟨s, a, l, c, t, b, k', e, h1, h2⟩ := h.at4 (k + j) (by omega)
  exact ⟨s, a, l, c, t, b, k', e, (by rw [show off + k * 4 + j * 4 = off + (k + j) * 4 by omega]; exact h1), h2⟩
/-- The four stores of a fraction. -/
def st4 (u : World) (B o : Nat) (v1 v2 v3 v4 : Value) : World := (((u.setCell ⟨B, o, none⟩ v1).setCell ⟨B, o + 1, none⟩ v2).setCell ⟨B, o + 2, none⟩ v3).setCell ⟨B, o + 3, none⟩ v4
theorem But.st4 {X : Nat → Prop} {w u : World} (h : But X w u) {B o : Nat} (hX : w.heap.size ≤ B ∨ X B) (hq : ∃ s a l c t b k e, Q4 (fun i => u.cell? ⟨B, i, none⟩) o s a l c t b k e) (s : Bool) (a : Option Addr) (l c : Nat) (t : Bool) (b : Option Addr) (k e : Nat) :
    But X w (st4 u B o (.bool s) (.slice a l c) (.bool t) (.slice b k e)) := by
  obtain ⟨s', a', l', c', t', b', k', e', h1, h2, h3, h4⟩ := hq
  simp only at h1 h2 h3 h4
  unfold Go.Proofs.YtbpkfcohbefphaaGreatDoor.st4
  refine (((h.set _ hX ?_).set _ hX ?_).set _ hX ?_).set _ hX ?_
  · intro x; rw [h1]; simp
  · intro x
    rw [World.cell?_setCell_other _ _ _ _ (by simp), h2]; simp
  · intro x
    rw [World.cell?_setCell_other _ _ _ _ (by simp), World.cell?_setCell_other _ _ _ _ (by simp), h3]; simp
  · intro x
    rw [World.cell?_setCell_other _ _ _ _ (by simp), World.cell?_setCell_other _ _ _ _ (by simp), World.cell?_setCell_other _ _ _ _ (by simp), h4]; simp
theorem RowP.q4 {w : World} {B off m : Nat} {r : Nat → Option Rat} (h : RowP w B off m r) {j : Nat} (hj : j < m) : ∃ s a l c t b k e, Q4 (fun i => w.cell? ⟨B, i, none⟩) (off + j * 4) s a l c t b k e := by
  obtain ⟨s, a, l, c, t, b, k, e, h1, h2⟩ := h.at4 j hj
  exact ⟨s, a, l, c, t, b, k, e, h1⟩
theorem RowP.set {u : World} {B off m : Nat} {r : Nat → Option Rat} (h : RowP u B off m r) {j : Nat} (hj : j < m) {s : Bool} {a : Option Addr} {l c : Nat} {t : Bool} {b : Option Addr} {k e : Nat} {x : Rat}
    (hx : RatR u (.agg #[.bool s, .slice a l c, .bool t, .slice b k e]) x) : RowP (Go.Proofs.YtbpkfcohbefphaaGreatDoor.st4 u B (off + j * 4) (.bool s) (.slice a l c) (.bool t) (.slice b k e)) B off m (fun i => if i = j then some x else r i) := by
  have hb : But (fun b => b = B) u (Go.Proofs.YtbpkfcohbefphaaGreatDoor.st4 u B (off + j * 4) (.bool s) (.slice a l c) (.bool t) (.slice b k e)) := But.st4 (X := fun b => b = B) (But.refl _ u) (.inr rfl) (h.q4 hj) _ _ _ _ _ _ _ _
  refine ⟨Nat.lt_of_lt_of_le h.lt hb.size, fun o => (hb.frees _ _ h.lt).trans (h.free o), fun i hi => ?_⟩
  · obtain ⟨s', a', l', c', t', b', k', e', ⟨h1, h2, h3, h4⟩, hr⟩ := h.at4 i hi
    by_cases hij : i = j
    · subst hij
      refine ⟨s, a, l, c, t, b, k, e, ⟨?_, ?_, ?_, ?_⟩, fun y hy => ?_⟩
      · simp only [Go.Proofs.YtbpkfcohbefphaaGreatDoor.st4]
        rw [World.cell?_setCell_other _ _ _ _ (by simp), World.cell?_setCell_other _ _ _ _ (by simp), World.cell?_setCell_other _ _ _ _ (by simp), World.cell?_setCell_same _ _ _ h1]
      · simp only [Go.Proofs.YtbpkfcohbefphaaGreatDoor.st4]
        rw [World.cell?_setCell_other _ _ _ _ (by simp), World.cell?_setCell_other _ _ _ _ (by simp)]
        refine World.cell?_setCell_same (u := .slice a' l' c') _ _ _ ?_
        rw [World.cell?_setCell_other _ _ _ _ (by simp)]; exact h2
      · simp only [Go.Proofs.YtbpkfcohbefphaaGreatDoor.st4]
        rw [World.cell?_setCell_other _ _ _ _ (by simp)]
        refine World.cell?_setCell_same (u := .bool t') _ _ _ ?_
        rw [World.cell?_setCell_other _ _ _ _ (by simp), World.cell?_setCell_other _ _ _ _ (by simp)]; exact h3
      · simp only [Go.Proofs.YtbpkfcohbefphaaGreatDoor.st4]
        refine World.cell?_setCell_same (u := .slice b' k' e') _ _ _ ?_
        rw [World.cell?_setCell_other _ _ _ _ (by simp), World.cell?_setCell_other _ _ _ _ (by simp), World.cell?_setCell_other _ _ _ _ (by simp)]; exact h4
      · rw [if_pos rfl] at hy
        injection hy with hy
        subst hy
        exact hx.but hb
    · have far : ∀ o, o < 4 → (Go.Proofs.YtbpkfcohbefphaaGreatDoor.st4 u B (off + j * 4) (.bool s) (.slice a l c) (.bool t) (.slice b k e)).cell? ⟨B, off + i * 4 + o, none⟩ = u.cell? ⟨B, off + i * 4 + o, none⟩ := fun o ho => by
        simp only [Go.Proofs.YtbpkfcohbefphaaGreatDoor.st4]
        rw [World.cell?_setCell_other _ _ _ _ (by simp; try omega), World.cell?_setCell_other _ _ _ _ (by simp; try omega), World.cell?_setCell_other _ _ _ _ (by simp; try omega), World.cell?_setCell_other _ _ _ _ (by simp; try omega)]
      refine ⟨s', a', l', c', t', b', k', e', ⟨(far 0 (by omega)).trans h1, (far 1 (by omega)).trans h2, (far 2 (by omega)).trans h3, (far 3 (by omega)).trans h4⟩, fun y hy => ?_⟩
      rw [if_neg hij] at hy
      exact (hr y hy).but hb
/-- A row all of whose fractions are known. -/
def RowQ (w : World) (B off m : Nat) (r : Nat → Rat) : Prop := RowP w B off m (fun j => some (r j))
theorem RowQ.at4 {w : World} {B off m : Nat} {r : Nat → Rat} (h : RowQ w B off m r) {j : Nat} (hj : j < m) : ∃ s a l c t b k e, Q4 (fun i => w.cell? ⟨B, i, none⟩) (off + j * 4) s a l c t b k e ∧ RatR w (.agg #[.bool s, .slice a l c, .bool t, .slice b k e]) (r j) := by
  obtain ⟨s, a, l, c, t, b, k, e, h1, h2⟩ := RowP.at4 h j hj
  exact ⟨s, a, l, c, t, b, k, e, h1, h2 _ rfl⟩
theorem RowQ.set {u : World} {B off m : Nat} {r : Nat → Rat} (h : RowQ u B off m r) {j : Nat} (hj : j < m) {s : Bool} {a : Option Addr} {l c : Nat} {t : Bool} {b : Option Addr} {k e : Nat} {x : Rat}
    (hx : RatR u (.agg #[.bool s, .slice a l c, .bool t, .slice b k e]) x) : RowQ (Go.Proofs.YtbpkfcohbefphaaGreatDoor.st4 u B (off + j * 4) (.bool s) (.slice a l c) (.bool t) (.slice b k e)) B off m (fun i => if i = j then x else r i) :=
  (RowP.set h hj hx).mono (Nat.le_refl _) (fun i y _ hy => by
    show (if i = j then some x else some (r i)) = some y
    simp only at hy
    by_cases e : i = j
    · rw [if_pos e] at hy ⊢; exact hy
    · rw [if_neg e] at hy ⊢; exact hy)
theorem RowQ.cong {w : World} {B off m : Nat} {r r' : Nat → Rat} (h : RowQ w B off m r) (hr : ∀ j, j < m → r' j = r j) : RowQ w B off m r' :=
  RowP.mono h (Nat.le_refl _) (fun j x hj hx => by rw [← hr j hj]; exact hx)
end Go.Proofs.YtbpkfcohbefphaaGreatDoor
namespace Go.Proofs.YtbpkfcohbefphaaGreatDoor
open Go Go.RowKit
/-- The product of two fractions stays in one digit. -/
def MulB (x y : Rat) : Prop := (x.num * y.num).natAbs < 4294967296 ∧ ((x.den : Int) * (y.den : Int)).natAbs < 4294967296
end Go.Proofs.YtbpkfcohbefphaaGreatDoor
namespace Go.Proofs.YtbpkfcohbefphaaGreatDoor
open Go Go.RowKit
/-- A function changed at one place. -/
def upd {α : Type} (f : Nat → α) (k : Nat) (x : α) : Nat → α := fun i => if i = k then x else f i
theorem upd_same {α : Type} (f : Nat → α) (k : Nat) (x : α) : upd f k x k = x := by simp [upd]
theorem upd_other {α : Type} (f : Nat → α) {k i : Nat} (x : α) (h : i ≠ k) : upd f k x i = f i := by simp [upd, h]
/-- Block G holds n slices. -/
structure SlG (w : World) (G n : Nat) : Prop where
  lt : G < w.heap.size
  free : ∀ o, w.frozen? ⟨G, o, none⟩ = false
  cell : ∀ i, i < n → ∃ a l c, w.cell? ⟨G, i, none⟩ = some (.slice a l c)
theorem SlG.but {X : Nat → Prop} {w w' : World} {G n : Nat} (h : SlG w G n) (hX : ¬ X G) (hg : But X w w') : SlG w' G n :=
  ⟨Nat.lt_of_lt_of_le h.lt hg.size, fun o => (hg.frees _ _ h.lt).trans (h.free o), fun i hi => by rw [hg.cells _ _ h.lt hX]; exact h.cell i hi⟩
theorem SlG.grow {w w' : World} {G n : Nat} (h : SlG w G n) (hg : Grow w w') : SlG w' G n := h.but (X := fun _ => False) (fun h => h) (hg.but _)
theorem SlG.set {w : World} {G n : Nat} (h : SlG w G n) {k : Nat} (hk : k < n) (a : Option Addr) (l c : Nat) : SlG (w.setCell ⟨G, k, none⟩ (.slice a l c)) G n := by
  refine ⟨by simpa [World.setCell] using h.lt, fun o => by simpa using h.free o, fun i hi => ?_⟩
  by_cases hik : i = k
  · subst hik
    obtain ⟨a', l', c', hc⟩ := h.cell i hi
    exact ⟨a, l, c, World.cell?_setCell_same _ _ _ hc⟩
  · rw [World.cell?_setCell_other _ _ _ _ (by simp; try omega)]
    exact h.cell i hi
/-- A store of a slice into a cell of such a block changes no number. -/
theorem SlG.but_set {X : Nat → Prop} {w u : World} {G n k : Nat} (h : SlG u G n) (hk : k < n) (hX : w.heap.size ≤ G ∨ X G) (hb : But X w u) (v : Value) : But X w (u.setCell ⟨G, k, none⟩ v) := by
  obtain ⟨a, l, c, hc⟩ := h.cell k hk
  exact hb.set _ hX (fun x => by rw [hc]; simp)
/-- A grid: block G holds n slices of m fractions; row i lies in block R i from O i on. -/
structure GridQ (w : World) (G n : Nat) (R O C : Nat → Nat) (m : Nat) (M : Nat → Nat → Rat) : Prop where
  lt : G < w.heap.size
  free : ∀ o, w.frozen? ⟨G, o, none⟩ = false
  cell : ∀ i, i < n → w.cell? ⟨G, i, none⟩ = some (.slice (some ⟨R i, O i, none⟩) m (C i))
  cap : ∀ i, i < n → m ≤ C i
  row : ∀ i, i < n → RowQ w (R i) (O i) m (M i)
  far : ∀ i, i < n → R i ≠ G
  inj : ∀ i k, i < n → k < n → R i = R k → i = k
theorem GridQ.but {X : Nat → Prop} {w w' : World} {G n m : Nat} {R O C : Nat → Nat} {M : Nat → Nat → Rat} (h : GridQ w G n R O C m M) (hX : ¬ X G) (hR : ∀ i, i < n → ¬ X (R i)) (hg : But X w w') : GridQ w' G n R O C m M :=
  ⟨Nat.lt_of_lt_of_le h.lt hg.size, fun o => (hg.frees _ _ h.lt).trans (h.free o), fun i hi => by rw [hg.cells _ _ h.lt hX]; exact h.cell i hi, h.cap, fun i hi => RowP.but (h.row i hi) (hR i hi) hg, h.far, h.inj⟩
theorem GridQ.grow {w w' : World} {G n m : Nat} {R O C : Nat → Nat} {M : Nat → Nat → Rat} (h : GridQ w G n R O C m M) (hg : Grow w w') : GridQ w' G n R O C m M := h.but (X := fun _ => False) (fun h => h) (fun _ _ h => h) (hg.but _)
theorem GridQ.cong {w : World} {G n m : Nat} {R O C : Nat → Nat} {M M' : Nat → Nat → Rat} (h : GridQ w G n R O C m M) (hM : ∀ i j, i < n → j < m → M' i j = M i j) : GridQ w G n R O C m M' :=
  ⟨h.lt, h.free, h.cell, h.cap, fun i hi => RowQ.cong (h.row i hi) (fun j hj => hM i j hi hj), h.far, h.inj⟩
/-- One row changed in place. -/
theorem GridQ.row_set {w w' : World} {G n m : Nat} {R O C : Nat → Nat} {M : Nat → Nat → Rat} (h : GridQ w G n R O C m M) {j : Nat} (hj : j < n) {r : Nat → Rat} (hb : But (fun b => b = R j) w w') (hr : RowQ w' (R j) (O j) m r) : GridQ w' G n R O C m (upd M j r) := by
  refine ⟨Nat.lt_of_lt_of_le h.lt hb.size, fun o => (hb.frees _ _ h.lt).trans (h.free o), fun i hi => by rw [hb.cells _ _ h.lt (fun e => h.far j hj e.symm)]; exact h.cell i hi, h.cap, fun i hi => ?_, h.far, h.inj⟩
  by_cases hij : i = j
  · subst hij; rw [upd_same]; exact hr
  · rw [upd_other _ _ hij]
    exact RowP.but (h.row i hi) (fun e => hij (h.inj i j hi hj e)) hb
/-- A row more. -/
theorem GridQ.snoc {w : World} {G n k m : Nat} {R O C : Nat → Nat} {M : Nat → Nat → Rat} (h : GridQ w G k R O C m M) (hs : SlG w G n) (hk : k < n) {r o c : Nat} {x : Nat → Rat} (hr : RowQ w r o m x) (hc : m ≤ c) (hrG : r ≠ G) (hnew : ∀ i, i < k → R i ≠ r) :
    GridQ (w.setCell ⟨G, k, none⟩ (.slice (some ⟨r, o, none⟩) m c)) G (k + 1) (upd R k r) (upd O k o) (upd C k c) m (upd M k x) := by
  obtain ⟨a, l, c', hcell⟩ := hs.cell k hk
  have hbut : But (fun b => b = G) w (w.setCell ⟨G, k, none⟩ (.slice (some ⟨r, o, none⟩) m c)) := (But.refl _ w).set _ (.inr rfl) (fun x => by rw [hcell]; simp)
  refine ⟨by simpa [World.setCell] using h.lt, fun o => by simpa using h.free o, fun i hi => ?_, fun i hi => ?_, fun i hi => ?_, fun i hi => ?_, fun i j hi hj e => ?_⟩
  · by_cases hik : i = k
    · subst hik
      rw [World.cell?_setCell_same _ _ _ hcell, upd_same, upd_same, upd_same]
    · rw [World.cell?_setCell_other _ _ _ _ (by simp; try omega), upd_other _ _ hik, upd_other _ _ hik, upd_other _ _ hik]
      exact h.cell i (by omega)
  · by_cases hik : i = k
    · subst hik; rw [upd_same]; exact hc
    · rw [upd_other _ _ hik]; exact h.cap i (by omega)
  · by_cases hik : i = k
    · subst hik; rw [upd_same, upd_same, upd_same]; exact RowP.but hr hrG hbut
    · rw [upd_other _ _ hik, upd_other _ _ hik, upd_other _ _ hik]; exact RowP.but (h.row i (by omega)) (h.far i (by omega)) hbut
  · by_cases hik : i = k
    · subst hik; rw [upd_same]; exact hrG
    · rw [upd_other _ _ hik]; exact h.far i (by omega)
  · by_cases hik : i = k
    · by_cases hjk : j = k
      · omega
      · subst hik
        rw [upd_same, upd_other _ _ hjk] at e
        exact absurd e.symm (hnew j (by omega))
    · by_cases hjk : j = k
      · subst hjk
        rw [upd_same, upd_other _ _ hik] at e
        exact absurd e (hnew i (by omega))
      · rw [upd_other _ _ hik, upd_other _ _ hjk] at e
        exact h.inj i j (by omega) (by omega) e
/-- A grid of n rows, all of whose blocks are from base on. -/
def GridE (w : World) (base G n m : Nat) (M : Nat → Nat → Rat) : Prop := base ≤ G ∧ ∃ R O C, GridQ w G n R O C m M ∧ ∀ i, i < n → base ≤ R i
theorem GridE.grow {w w' : World} {base G n m : Nat} {M : Nat → Nat → Rat} (h : GridE w base G n m M) (hg : Grow w w') : GridE w' base G n m M := by
  obtain ⟨hb, R, O, C, h1, h2⟩ := h
  exact ⟨hb, R, O, C, h1.grow hg, h2⟩
theorem GridE.cong {w : World} {base G n m : Nat} {M M' : Nat → Nat → Rat} (h : GridE w base G n m M) (hM : ∀ i j, i < n → j < m → M' i j = M i j) : GridE w base G n m M' := by
  obtain ⟨hb, R, O, C, h1, h2⟩ := h
  exact ⟨hb, R, O, C, h1.cong hM, h2⟩
theorem GridE.base {w : World} {base base' G n m : Nat} {M : Nat → Nat → Rat} (h : GridE w base G n m M) (hb : base' ≤ base) : GridE w base' G n m M := by
  obtain ⟨hb', R, O, C, h1, h2⟩ := h
  exact ⟨by omega, R, O, C, h1, fun i hi => by have := h2 i hi; omega⟩
/-- A row that makeSlice has made. -/
theorem madeCells_get (z : Array Value) (n i : Nat) (hi : i < n) : (madeCells z n).toList[i]? = some z[i % z.size]! := by
  simp [madeCells, hi]
theorem own_cells {w : World} {base g n cap size : Nat} {t : TypeId} {xs : List Value} (h : w.ownsRow base t size (.slice (some ⟨g, 0, none⟩) n cap) n xs) :
    g < w.heap.size ∧ base ≤ g ∧ n ≤ cap ∧ (∀ o, w.frozen? ⟨g, o, none⟩ = false) ∧ ∀ i v, xs[i]? = some v → w.cell? ⟨g, i, none⟩ = some v := by
  rcases h.2 with ⟨hv, -⟩ | ⟨g', cap', cur, hv, hb, hh, hle, hr⟩
  · cases hv
  · simp only [Value.slice.injEq, Option.some.injEq, Addr.mk.injEq] at hv
    obtain ⟨⟨rfl, -⟩, -, rfl⟩ := hv
    refine ⟨(Array.getElem?_eq_some_iff.1 hh).1, hb, hle, fun o => ?_, fun i v hi => ?_⟩
    · unfold World.frozen?
      simp only [hh]
      simp
    · have h1 := World.ownsRow.cells h (g := g) rfl i v hi
      rw [Addr.add_lit, Nat.zero_add] at h1
      exact h1
theorem made_row {w : World} {base g n : Nat} {t : TypeId} (h : w.ownsRow base t 4 (.slice (some ⟨g, 0, none⟩) n n) n (madeCells #[.bool false, .slice none 0 0, .bool false, .slice none 0 0] (n * 4)).toList) : RowP w g 0 n (fun _ => none) := by
  obtain ⟨h1, h2, h3, h4, h5⟩ := own_cells h
  refine ⟨h1, h4, fun j hj => ⟨false, none, 0, 0, false, none, 0, 0, ⟨?_, ?_, ?_, ?_⟩, fun x hx => by cases hx⟩⟩
  · exact h5 _ _ (by rw [madeCells_get _ _ _ (by omega)]; rw [show (0 + j * 4) % (#[Value.bool false, Value.slice none 0 0, Value.bool false, Value.slice none 0 0]).size = 0 by simp; try omega]; rfl)
  · exact h5 _ _ (by rw [madeCells_get _ _ _ (by omega)]; rw [show (0 + j * 4 + 1) % (#[Value.bool false, Value.slice none 0 0, Value.bool false, Value.slice none 0 0]).size = 1 by simp; try omega]; rfl)
  · exact h5 _ _ (by rw [madeCells_get _ _ _ (by omega)]; rw [show (0 + j * 4 + 2) % (#[Value.bool false, Value.slice none 0 0, Value.bool false, Value.slice none 0 0]).size = 2 by simp; try omega]; rfl)
  · exact h5 _ _ (by rw [madeCells_get _ _ _ (by omega)]; rw [show (0 + j * 4 + 3) % (#[Value.bool false, Value.slice none 0 0, Value.bool false, Value.slice none 0 0]).size = 3 by simp; try omega]; rfl)
/-- All known. -/
theorem RowP.full {w : World} {B off m : Nat} {r : Nat → Option Rat} {x : Nat → Rat} (h : RowP w B off m r) (hr : ∀ j, j < m → r j = some (x j)) : RowQ w B off m x :=
  RowP.mono h (Nat.le_refl _) (fun j y hj hy => by rw [hr j hj]; exact hy)
end Go.Proofs.YtbpkfcohbefphaaGreatDoor
namespace Go.Proofs.YtbpkfcohbefphaaGreatDoor
open Go Go.RowKit
theorem infoRat : (Tryz.prog.info? 27).map (fun i => (i.zero, i.size, i.bytes)) = some (some (.agg #[.bool false, .slice none 0 0, .bool false, .slice none 0 0]), 4, 64) := by kernel_rfl
end Go.Proofs.YtbpkfcohbefphaaGreatDoor
namespace Go.Proofs.YtbpkfcohbefphaaGreatDoor
open Go Go.RowKit
theorem SlG.far {w : World} {G n : Nat} (h : SlG w G n) : G < w.heap.size := h.lt
/-- A store into a cell behind the prefix. -/
theorem GridQ.keep {w : World} {G k n k' m : Nat} {R O C : Nat → Nat} {M : Nat → Nat → Rat} (h : GridQ w G k R O C m M) (hs : SlG w G n) (hk : k ≤ k') (hk' : k' < n) (v : Value) : GridQ (w.setCell ⟨G, k', none⟩ v) G k R O C m M := by
  have hbut : But (fun b => b = G) w (w.setCell ⟨G, k', none⟩ v) := SlG.but_set (X := fun b => b = G) hs hk' (.inr rfl) (But.refl _ w) v
  refine ⟨by simpa [World.setCell] using h.lt, fun o => by simpa using h.free o, fun i hi => ?_, h.cap, fun i hi => RowP.but (h.row i hi) (h.far i hi) hbut, h.far, h.inj⟩
  rw [World.cell?_setCell_other _ _ _ _ (by simp; try omega)]
  exact h.cell i hi
/-- A row more, whose slice stands there already. -/
theorem GridQ.add {w : World} {G k m : Nat} {R O C : Nat → Nat} {M : Nat → Nat → Rat} (h : GridQ w G k R O C m M) {r o c : Nat} {x : Nat → Rat} (hcell : w.cell? ⟨G, k, none⟩ = some (.slice (some ⟨r, o, none⟩) m c)) (hr : RowQ w r o m x) (hc : m ≤ c) (hrG : r ≠ G) (hnew : ∀ i, i < k → R i ≠ r) :
    GridQ w G (k + 1) (upd R k r) (upd O k o) (upd C k c) m (upd M k x) := by
  refine ⟨h.lt, h.free, fun i hi => ?_, fun i hi => ?_, fun i hi => ?_, fun i hi => ?_, fun i j hi hj e => ?_⟩
  · by_cases hik : i = k
    · subst hik; rw [upd_same, upd_same, upd_same]; exact hcell
    · rw [upd_other _ _ hik, upd_other _ _ hik, upd_other _ _ hik]; exact h.cell i (by omega)
  · by_cases hik : i = k
    · subst hik; rw [upd_same]; exact hc
    · rw [upd_other _ _ hik]; exact h.cap i (by omega)
  · by_cases hik : i = k
    · subst hik; rw [upd_same, upd_same, upd_same]; exact hr
    · rw [upd_other _ _ hik, upd_other _ _ hik, upd_other _ _ hik]; exact h.row i (by omega)
  · by_cases hik : i = k
    · subst hik; rw [upd_same]; exact hrG
    · rw [upd_other _ _ hik]; exact h.far i (by omega)
  · by_cases hik : i = k
    · by_cases hjk : j = k
      · omega
      · subst hik
        rw [upd_same, upd_other _ _ hjk] at e
        exact absurd e.symm (hnew j (by omega))
    · by_cases hjk : j = k
      · subst hjk
        rw [upd_same, upd_other _ _ hik] at e
        exact absurd e (hnew i (by omega))
      · rw [upd_other _ _ hik, upd_other _ _ hjk] at e
        exact h.inj i j (by omega) (by omega) e
end Go.Proofs.YtbpkfcohbefphaaGreatDoor
namespace Go.Proofs.YtbpkfcohbefphaaGreatDoor
open Go Go.RowKit
/-- The cells xs are n fractions. -/
structure ListR (w : World) (xs : List Value) (n : Nat) (r : Nat → Rat) : Prop where
  len : xs.length = n * 4
  one : ∀ u ∈ xs, u.oneCell' = true
  at4 : ∀ j, j < n → ∃ s a l c t b k e, Q4 (fun i => xs[i]?) (j * 4) s a l c t b k e ∧ RatR w (.agg #[.bool s, .slice a l c, .bool t, .slice b k e]) (r j)
theorem ListR.but {X : Nat → Prop} {w w' : World} {xs : List Value} {n : Nat} {r : Nat → Rat} (h : ListR w xs n r) (hg : But X w w') : ListR w' xs n r :=
  ⟨h.len, h.one, fun j hj => by
    obtain ⟨s, a, l, c, t, b, k, e, h1, h2⟩ := h.at4 j hj
    exact ⟨s, a, l, c, t, b, k, e, h1, h2.but hg⟩⟩
theorem ListR.grow {w w' : World} {xs : List Value} {n : Nat} {r : Nat → Rat} (h : ListR w xs n r) (hg : Grow w w') : ListR w' xs n r := h.but (X := fun _ => False) (hg.but _)
theorem ListR.cong {w : World} {xs : List Value} {n : Nat} {r r' : Nat → Rat} (h : ListR w xs n r) (hr : ∀ j, j < n → r' j = r j) : ListR w xs n r' :=
  ⟨h.len, h.one, fun j hj => by rw [hr j hj]; exact h.at4 j hj⟩
theorem ListR.nil (w : World) (r : Nat → Rat) : ListR w [] 0 r := ⟨rfl, (fun _ h => by cases h), fun _ h => absurd h (Nat.not_lt_zero _)⟩
theorem ListR.append {w : World} {xs ys : List Value} {n m : Nat} {r r' : Nat → Rat} (h : ListR w xs n r) (h' : ListR w ys m r') : ListR w (xs ++ ys) (n + m) (fun j => if j < n then r j else r' (j - n)) := by
  refine ⟨by rw [List.length_append, h.len, h'.len]; omega, fun u hu => ?_, fun j hj => ?_⟩
  · rcases List.mem_append.1 hu with hu | hu
    · exact h.one u hu
    · exact h'.one u hu
  · by_cases hjn : j < n
    · obtain ⟨s, a, l, c, t, b, k, e, ⟨h1, h2, h3, h4⟩, h5⟩ := h.at4 j hjn
      have hl := h.len
      refine ⟨s, a, l, c, t, b, k, e, ⟨?_, ?_, ?_, ?_⟩, by rw [if_pos hjn]; exact h5⟩
      · exact (List.getElem?_append_left (by omega)).trans h1
      · exact (List.getElem?_append_left (by omega)).trans h2
      · exact (List.getElem?_append_left (by omega)).trans h3
      · exact (List.getElem?_append_left (by omega)).trans h4
    · obtain ⟨s, a, l, c, t, b, k, e, ⟨h1, h2, h3, h4⟩, h5⟩ := h'.at4 (j - n) (by omega)
      have hl := h.len
      have e0 : ∀ o, j * 4 + o - xs.length = (j - n) * 4 + o := fun o => by omega
      refine ⟨s, a, l, c, t, b, k, e, ⟨?_, ?_, ?_, ?_⟩, by rw [if_neg hjn]; exact h5⟩
      · exact (List.getElem?_append_right (by omega)).trans (by rw [show j * 4 - xs.length = (j - n) * 4 from e0 0]; exact h1)
      · exact (List.getElem?_append_right (by omega)).trans (by rw [e0 1]; exact h2)
      · exact (List.getElem?_append_right (by omega)).trans (by rw [e0 2]; exact h3)
      · exact (List.getElem?_append_right (by omega)).trans (by rw [e0 3]; exact h4)
/-- A row as a list. -/
theorem RowQ.toList {w : World} {B off m c : Nat} {r : Nat → Rat} (h : RowQ w B off m r) (hc : m ≤ c) : ∃ xs, ListR w xs m r ∧ RdRow w 4 (.slice (some ⟨B, off, none⟩) m c) m xs := by
  have hx : ∀ i, i < m * 4 → ∃ v, w.cell? ⟨B, off + i, none⟩ = some v ∧ v.oneCell' = true := fun i hi => by
    obtain ⟨s, a, l, c, t, b, k, e, ⟨h1, h2, h3, h4⟩, -⟩ := RowQ.at4 h (show i / 4 < m by omega)
    have hi4 : i % 4 < 4 := Nat.mod_lt _ (by omega)
    have hd : off + i = off + i / 4 * 4 + i % 4 := by omega
    rcases (by omega : i % 4 = 0 ∨ i % 4 = 1 ∨ i % 4 = 2 ∨ i % 4 = 3) with h0 | h0 | h0 | h0 <;> rw [hd, h0]
    · exact ⟨_, h1, rfl⟩
    · exact ⟨_, h2, rfl⟩
    · exact ⟨_, h3, rfl⟩
    · exact ⟨_, h4, rfl⟩
  have hget : ∀ i, i < m * 4 → ((List.range (m * 4)).map (fun i => (w.cell? ⟨B, off + i, none⟩).getD undef))[i]? = w.cell? ⟨B, off + i, none⟩ := fun i hi => by
    obtain ⟨v, hv, -⟩ := hx i hi
    simp [hi, hv]
  have hone : ∀ u ∈ (List.range (m * 4)).map (fun i => (w.cell? ⟨B, off + i, none⟩).getD undef), u.oneCell' = true := fun u hu => by
    obtain ⟨i, hi, rfl⟩ := List.mem_map.1 hu
    obtain ⟨v, hv, h1⟩ := hx i (List.mem_range.1 hi)
    rw [hv]; exact h1
  refine ⟨(List.range (m * 4)).map (fun i => (w.cell? ⟨B, off + i, none⟩).getD undef), ⟨by simp, hone, fun j hj => ?_⟩, by simp, hone, .inr ⟨B, off, c, rfl, h.lt, hc, fun i u hu => ?_⟩⟩
  · obtain ⟨s, a, l, c, t, b, k, e, ⟨h1, h2, h3, h4⟩, h5⟩ := RowQ.at4 h hj
    refine ⟨s, a, l, c, t, b, k, e, ⟨(hget _ (by omega)).trans h1, (hget _ (by omega)).trans ?_, (hget _ (by omega)).trans ?_, (hget _ (by omega)).trans ?_⟩, h5⟩
    · exact h2
    · exact h3
    · exact h4
  · by_cases hi : i < m * 4
    · rw [hget i hi] at hu; exact hu
    · rw [List.getElem?_eq_none (by simp; omega)] at hu; cases hu
/-- An own row of fractions. -/
theorem own_rowq {w : World} {base g n cap : Nat} {t : TypeId} {xs : List Value} {r : Nat → Rat} (h : w.ownsRow base t 4 (.slice (some ⟨g, 0, none⟩) n cap) n xs) (hl : ListR w xs n r) : RowQ w g 0 n r := by
  obtain ⟨h1, h2, h3, h4, h5⟩ := own_cells h
  refine ⟨h1, h4, fun j hj => ?_⟩
  obtain ⟨s, a, l, c, t, b, k, e, ⟨q1, q2, q3, q4⟩, q5⟩ := hl.at4 j hj
  refine ⟨s, a, l, c, t, b, k, e, ⟨?_, ?_, ?_, ?_⟩, fun x hx => by injection hx with hx; rw [← hx]; exact q5⟩
  · exact h5 _ _ (by rw [Nat.zero_add]; exact q1)
  · exact h5 _ _ (by rw [Nat.zero_add]; exact q2)
  · exact h5 _ _ (by rw [Nat.zero_add]; exact q3)
  · exact h5 _ _ (by rw [Nat.zero_add]; exact q4)
theorem own_form {w : World} {base : Nat} {e : TypeId} {size : Nat} {v : Value} {n : Nat} {xs : List Value} (h : w.ownsRow base e size v n xs) : ∃ a c, v = .slice a n c := by
  rcases h.2 with ⟨rfl, rfl⟩ | ⟨g, cap, cur, rfl, _⟩
  · exact ⟨_, _, rfl⟩
  · exact ⟨_, _, rfl⟩
section
variable {P : Program}
end
end Go.Proofs.YtbpkfcohbefphaaGreatDoor
namespace Go.Proofs.YtbpkfcohbefphaaGreatDoor
open Go Go.RowKit
/-- The pivot's row divided. -/
def elimP (c : Nat) (M : Nat → Nat → Rat) : Nat → Nat → Rat := upd M c (fun i => if c ≤ i then M c i / M c c else M c i)
/-- Rows before j cleared. -/
def elimJ (c j : Nat) (M : Nat → Nat → Rat) : Nat → Nat → Rat := fun a i => if a ≠ c ∧ a < j ∧ c ≤ i then M a i + -(M a c) * M c i else M a i
def elim (n c : Nat) (M : Nat → Nat → Rat) : Nat → Nat → Rat := elimJ c n (elimP c M)
/-- What stands in memory while reduce walks: the grid, det in block D, the result's cell in block B0. -/
structure RedS (w : World) (B0 D G n m : Nat) (R O C : Nat → Nat) (u : World) (d : Rat) (N : Nat → Nat → Rat) : Prop where
  but : But (fun b => ∃ i, i < n ∧ b = R i) w u
  grid : GridQ u G n R O C m N
  det : RowQ u D 0 1 (fun _ => d)
  res : RowP u B0 0 1 (fun _ => none)
  far1 : B0 < D
  far2 : ∀ i, i < n → R i < B0
  far3 : G < B0
  base : w.heap.size ≤ B0
theorem RedS.grow {w u u' : World} {B0 D G n m : Nat} {R O C : Nat → Nat} {d : Rat} {N : Nat → Nat → Rat} (h : RedS w B0 D G n m R O C u d N) (hg : Grow u u') : RedS w B0 D G n m R O C u' d N :=
  ⟨h.but.grow hg, h.grid.grow hg, RowP.grow h.det hg, h.res.grow hg, h.far1, h.far2, h.far3, h.base⟩
theorem RedS.row {w u u' : World} {B0 D G n m : Nat} {R O C : Nat → Nat} {d : Rat} {N : Nat → Nat → Rat} (h : RedS w B0 D G n m R O C u d N) {j : Nat} (hj : j < n) {r : Nat → Rat} (hb : But (fun b => b = R j) u u') (hr : RowQ u' (R j) (O j) m r) : RedS w B0 D G n m R O C u' d (upd N j r) :=
  ⟨h.but.late hb (fun b _ hb => ⟨j, hj, hb⟩), h.grid.row_set hj hb hr, RowP.but h.det (fun e => by have := h.far2 j hj; have := h.far1; omega) hb, h.res.but (fun e => by have := h.far2 j hj; omega) hb, h.far1, h.far2, h.far3, h.base⟩
theorem RedS.cong {w u : World} {B0 D G n m : Nat} {R O C : Nat → Nat} {d : Rat} {N N' : Nat → Nat → Rat} (h : RedS w B0 D G n m R O C u d N) (hN : ∀ i j, i < n → j < m → N' i j = N i j) : RedS w B0 D G n m R O C u d N' :=
  ⟨h.but, h.grid.cong hN, h.det, h.res, h.far1, h.far2, h.far3, h.base⟩
end Go.Proofs.YtbpkfcohbefphaaGreatDoor
namespace Go.Proofs.YtbpkfcohbefphaaGreatDoor
open Go Go.RowKit
/-- A row of n ints (zeros of one kind behind them), in a block from base on. -/
def OwnI (w : World) (base : Nat) (v : Value) (n : Nat) (xs : List Value) : Prop :=
  xs.length = n ∧ ((v = .slice none 0 0 ∧ n = 0) ∨ ∃ g cap cur, v = .slice (some ⟨g, 0, none⟩) n cap ∧ base ≤ g ∧ w.heap[g]? = some (.cells cur 3 (0, 0)) ∧ n ≤ cap ∧ cap ≤ maxLen ∧ cur.size = cap ∧ cur.toList.take n = xs ∧ ∀ u, u ∈ cur.toList → ∃ x, u = .int .i64 x)
theorem OwnI.nil (w : World) (base : Nat) : OwnI w base (.slice none 0 0) 0 [] := ⟨rfl, .inl ⟨rfl, rfl⟩⟩
theorem OwnI.form {w : World} {base : Nat} {v : Value} {n : Nat} {xs : List Value} (h : OwnI w base v n xs) : ∃ a c, v = .slice a n c := by
  rcases h.2 with ⟨rfl, rfl⟩ | ⟨g, cap, cur, rfl, _⟩
  · exact ⟨_, _, rfl⟩
  · exact ⟨_, _, rfl⟩
theorem OwnI.but {X : Nat → Prop} {w w1 : World} {base : Nat} {v : Value} {n : Nat} {xs : List Value} (h : OwnI w base v n xs) (hg : But X w w1) (hX : ∀ b, base ≤ b → ¬ X b) : OwnI w1 base v n xs := by
  refine ⟨h.1, ?_⟩
  rcases h.2 with h2 | ⟨g, cap, cur, hv, hb, hh, h3⟩
  · exact .inl h2
  · exact .inr ⟨g, cap, cur, hv, hb, (hg.block g (Array.getElem?_eq_some_iff.1 hh).1 (hX g hb)).trans hh, h3⟩
theorem OwnI.grow {w w1 : World} {base : Nat} {v : Value} {n : Nat} {xs : List Value} (h : OwnI w base v n xs) (hg : Grow w w1) : OwnI w1 base v n xs := h.but (X := fun _ => False) (hg.but _) (fun _ _ h => h)
theorem zero_ints (k : Nat) : ∀ u, u ∈ (Builtin.zeroCells #[.int .i64 0] k).toList → ∃ x, u = Value.int .i64 x := by
  intro u hu
  simp [Builtin.zeroCells] at hu
  obtain ⟨i, -, rfl⟩ := hu
  exact ⟨0, by simp [Nat.mod_one]⟩
theorem frozen_plain {w : World} {g : Nat} {cur : Array Value} {e : TypeId} (h : w.heap[g]? = some (.cells cur e (0, 0))) (o : Nat) : w.frozen? ⟨g, o, none⟩ = false := by
  unfold World.frozen?
  simp only [h]
  simp
section
variable {P : Program}
end
end Go.Proofs.YtbpkfcohbefphaaGreatDoor
namespace Go.Proofs.YtbpkfcohbefphaaGreatDoor
open Go Go.RowKit
theorem rowp_alloc (u : World) (ty : TypeId) : RowP (u.alloc (.cells #[.bool false, .slice none 0 0, .bool false, .slice none 0 0] ty)) u.heap.size 0 1 (fun _ => none) := by
  refine ⟨by simp, fun o => by go_simp, fun j hj => ?_⟩
  have hj0 : j = 0 := by omega
  subst hj0
  refine ⟨false, none, 0, 0, false, none, 0, 0, ⟨?_, ?_, ?_, ?_⟩, fun y hy => by cases hy⟩ <;> go_simp
theorem GridQ.cells {w : World} {G n m : Nat} {R O C : Nat → Nat} {M : Nat → Nat → Rat} (h : GridQ w G n R O C m M) {i : Nat} (hi : i < n) : ∀ u : World, Grow w u → u.cell? ⟨G, i, none⟩ = some (.slice (some ⟨R i, O i, none⟩) m (C i)) := fun _ hu => (hu.cells _ _ h.lt).trans (h.cell i hi)
theorem infoInt : (Tryz.prog.info? 3).map (fun i => (i.zero, i.size, i.bytes)) = some (some (.int .i64 0), 1, 8) := by kernel_rfl
end Go.Proofs.YtbpkfcohbefphaaGreatDoor
namespace Go.Proofs.YtbpkfcohbefphaaGreatDoor
open Go Go.RowKit
/-- Cells of a new block, in every grown world. -/
theorem ak1 {w W : World} {v0 : Value} {t : TypeId} (hW : W = w.alloc (.cells #[v0] t)) : ∀ u : World, Grow W u → u.cell? ⟨w.heap.size, 0, none⟩ = some v0 ∧ (∀ o, u.frozen? ⟨w.heap.size, o, none⟩ = false) ∧ w.heap.size < u.heap.size := by
  intro u hg
  have hz := hg.size
  have hlt : w.heap.size < W.heap.size := by rw [hW]; simp
  refine ⟨(hg.cells _ _ hlt).trans ?_, fun o => (hg.frees _ _ hlt).trans ?_, by omega⟩ <;> (rw [hW]; go_simp)
theorem ak2 {w W : World} {v0 v1 : Value} {t : TypeId} (hW : W = w.alloc (.cells #[v0, v1] t)) : ∀ u : World, Grow W u → u.cell? ⟨w.heap.size, 0, none⟩ = some v0 ∧ u.cell? ⟨w.heap.size, 1, none⟩ = some v1 ∧ (∀ o, u.frozen? ⟨w.heap.size, o, none⟩ = false) ∧ w.heap.size < u.heap.size := by
  intro u hg
  have hz := hg.size
  have hlt : w.heap.size < W.heap.size := by rw [hW]; simp
  refine ⟨(hg.cells _ _ hlt).trans ?_, (hg.cells _ _ hlt).trans ?_, fun o => (hg.frees _ _ hlt).trans ?_, by omega⟩ <;> (rw [hW]; go_simp)
theorem ak3 {w W : World} {v0 v1 v2 : Value} {t : TypeId} (hW : W = w.alloc (.cells #[v0, v1, v2] t)) : ∀ u : World, Grow W u → u.cell? ⟨w.heap.size, 0, none⟩ = some v0 ∧ u.cell? ⟨w.heap.size, 1, none⟩ = some v1 ∧ u.cell? ⟨w.heap.size, 2, none⟩ = some v2 ∧ (∀ o, u.frozen? ⟨w.heap.size, o, none⟩ = false) ∧ w.heap.size < u.heap.size := by
  intro u hg
  have hz := hg.size
  have hlt : w.heap.size < W.heap.size := by rw [hW]; simp
  refine ⟨(hg.cells _ _ hlt).trans ?_, (hg.cells _ _ hlt).trans ?_, (hg.cells _ _ hlt).trans ?_, fun o => (hg.frees _ _ hlt).trans ?_, by omega⟩ <;> (rw [hW]; go_simp)
theorem ak4 {w W : World} {v0 v1 v2 v3 : Value} {t : TypeId} (hW : W = w.alloc (.cells #[v0, v1, v2, v3] t)) : ∀ u : World, Grow W u → u.cell? ⟨w.heap.size, 0, none⟩ = some v0 ∧ u.cell? ⟨w.heap.size, 1, none⟩ = some v1 ∧ u.cell? ⟨w.heap.size, 2, none⟩ = some v2 ∧ u.cell? ⟨w.heap.size, 3, none⟩ = some v3 ∧ (∀ o, u.frozen? ⟨w.heap.size, o, none⟩ = false) ∧ w.heap.size < u.heap.size := by
  intro u hg
  have hz := hg.size
  have hlt : w.heap.size < W.heap.size := by rw [hW]; simp
  refine ⟨(hg.cells _ _ hlt).trans ?_, (hg.cells _ _ hlt).trans ?_, (hg.cells _ _ hlt).trans ?_, (hg.cells _ _ hlt).trans ?_, fun o => (hg.frees _ _ hlt).trans ?_, by omega⟩ <;> (rw [hW]; go_simp)
theorem ag {w W : World} {vs : Array Value} {t : TypeId} (hW : W = w.alloc (.cells vs t)) : Grow w W := by rw [hW]; exact (Grow.refl w).alloc _
/-- A fraction in the cell of a result, stored. -/
theorem rescell {w u : World} {B : Nat} {x : Rat} {s t : Bool} {a b : Option Addr} {l c k e : Nat} (h : RowP u B 0 1 (fun _ => none)) (hB : w.heap.size ≤ B) (hg : Grow w u) (hx : RatR u (.agg #[.bool s, .slice a l c, .bool t, .slice b k e]) x) :
    RatR (st4 u B 0 (.bool s) (.slice a l c) (.bool t) (.slice b k e)) (.agg #[.bool s, .slice a l c, .bool t, .slice b k e]) x ∧ Grow w (st4 u B 0 (.bool s) (.slice a l c) (.bool t) (.slice b k e)) := by
  have hb : But (fun b => b = B) u (st4 u B 0 (.bool s) (.slice a l c) (.bool t) (.slice b k e)) := But.st4 (X := fun b => b = B) (But.refl _ u) (.inr rfl) (by have := h.q4 (show 0 < 1 by omega); simpa using this) _ _ _ _ _ _ _ _
  exact ⟨hx.but hb, ((hg.but _).trans hb).asGrow (fun b e => by omega)⟩
end Go.Proofs.YtbpkfcohbefphaaGreatDoor
namespace Go.Proofs.YtbpkfcohbefphaaGreatDoor
theorem sq_nonneg (x : Int) : 0 ≤ x * x := by
  rcases Int.le_total 0 x with h | h
  · exact Int.mul_nonneg h h
  · have := Int.mul_nonneg (a := -x) (b := -x) (by omega) (by omega)
    rwa [Int.neg_mul_neg] at this
end Go.Proofs.YtbpkfcohbefphaaGreatDoor
namespace Go.Proofs.YtbpkfcohbefphaaGreatDoor
open Go Go.RowKit
theorem abs_mul_le {x y : Int} {a b c : Nat} (hx : x.natAbs ≤ a) (hy : y.natAbs ≤ b) (hc : a * b ≤ c) : (x * y).natAbs ≤ c := by
  rw [Int.natAbs_mul]; exact Nat.le_trans (Nat.mul_le_mul hx hy) hc
theorem wrap64_eq (x : Int) : IntKind.i64.wrap x = wrap64 x := by simp [IntKind.wrap, IntKind.bits, IntKind.signed, wrap64]; try omega
theorem w64n {n : Int} (h : n.natAbs ≤ 9000000000000000000) : IntKind.i64.wrap n = n ∧ wrap64 n = n := by
  have h1 : IntKind.i64.wrap n = n := IntWalk.i64_in _ (by omega)
  exact ⟨h1, by rw [← wrap64_eq]; exact h1⟩
theorem inc_wrap {i n : Nat} (hi : i < n) (hn : n ≤ 100000) : IntKind.i64.wrap ((i : Int) + 1) = ((i + 1 : Nat) : Int) ∧ wrap64 ((i : Int) + 1) = ((i + 1 : Nat) : Int) := by
  obtain ⟨a, b⟩ := w64n (n := (i : Int) + 1) (by omega)
  exact ⟨a.trans (by omega), b.trans (by omega)⟩
/-- A block of three cells. -/
structure O3 (u : World) (B : Nat) (v0 v1 v2 : Value) : Prop where
  c0 : u.cell? ⟨B, 0, none⟩ = some v0
  c1 : u.cell? ⟨B, 1, none⟩ = some v1
  c2 : u.cell? ⟨B, 2, none⟩ = some v2
  fr : ∀ o, u.frozen? ⟨B, o, none⟩ = false
  lt : B < u.heap.size
/-- A block of four cells. -/
structure O4 (u : World) (B : Nat) (v0 v1 v2 v3 : Value) : Prop where
  c0 : u.cell? ⟨B, 0, none⟩ = some v0
  c1 : u.cell? ⟨B, 1, none⟩ = some v1
  c2 : u.cell? ⟨B, 2, none⟩ = some v2
  c3 : u.cell? ⟨B, 3, none⟩ = some v3
  fr : ∀ o, u.frozen? ⟨B, o, none⟩ = false
  lt : B < u.heap.size
section
variable {u u' : World} {B : Nat} {v0 v1 v2 v3 : Value}
theorem O3.grow (h : O3 u B v0 v1 v2) (hg : Grow u u') : O3 u' B v0 v1 v2 :=
  ⟨(hg.cells _ _ h.lt).trans h.c0, (hg.cells _ _ h.lt).trans h.c1, (hg.cells _ _ h.lt).trans h.c2, fun o => (hg.frees _ _ h.lt).trans (h.fr o), Nat.lt_of_lt_of_le h.lt hg.size⟩
theorem O4.grow (h : O4 u B v0 v1 v2 v3) (hg : Grow u u') : O4 u' B v0 v1 v2 v3 :=
  ⟨(hg.cells _ _ h.lt).trans h.c0, (hg.cells _ _ h.lt).trans h.c1, (hg.cells _ _ h.lt).trans h.c2, (hg.cells _ _ h.lt).trans h.c3, fun o => (hg.frees _ _ h.lt).trans (h.fr o), Nat.lt_of_lt_of_le h.lt hg.size⟩
theorem O3.off (h : O3 u B v0 v1 v2) {b : Nat} (hb : b ≠ B) (o : Nat) (v : Value) : O3 (u.setCell ⟨b, o, none⟩ v) B v0 v1 v2 := by
  have hf : ∀ i, (u.setCell ⟨b, o, none⟩ v).cell? ⟨B, i, none⟩ = u.cell? ⟨B, i, none⟩ := fun i => World.cell?_setCell_other _ _ _ _ (by simp; try omega)
  exact ⟨(hf 0).trans h.c0, (hf 1).trans h.c1, (hf 2).trans h.c2, fun i => by simpa using h.fr i, by simpa [World.setCell] using h.lt⟩
theorem O4.off (h : O4 u B v0 v1 v2 v3) {b : Nat} (hb : b ≠ B) (o : Nat) (v : Value) : O4 (u.setCell ⟨b, o, none⟩ v) B v0 v1 v2 v3 := by
  have hf : ∀ i, (u.setCell ⟨b, o, none⟩ v).cell? ⟨B, i, none⟩ = u.cell? ⟨B, i, none⟩ := fun i => World.cell?_setCell_other _ _ _ _ (by simp; try omega)
  exact ⟨(hf 0).trans h.c0, (hf 1).trans h.c1, (hf 2).trans h.c2, (hf 3).trans h.c3, fun i => by simpa using h.fr i, by simpa [World.setCell] using h.lt⟩
theorem O3.set0 (h : O3 u B v0 v1 v2) (v : Value) : O3 (u.setCell ⟨B, 0, none⟩ v) B v v1 v2 :=
  ⟨World.cell?_setCell_same _ _ _ h.c0, (World.cell?_setCell_other _ _ _ _ (by simp)).trans h.c1, (World.cell?_setCell_other _ _ _ _ (by simp)).trans h.c2, fun i => by simpa using h.fr i, by simpa [World.setCell] using h.lt⟩
theorem O3.set2 (h : O3 u B v0 v1 v2) (v : Value) : O3 (u.setCell ⟨B, 2, none⟩ v) B v0 v1 v :=
  ⟨(World.cell?_setCell_other _ _ _ _ (by simp)).trans h.c0, (World.cell?_setCell_other _ _ _ _ (by simp)).trans h.c1, World.cell?_setCell_same _ _ _ h.c2, fun i => by simpa using h.fr i, by simpa [World.setCell] using h.lt⟩
theorem O4.set0 (h : O4 u B v0 v1 v2 v3) (v : Value) : O4 (u.setCell ⟨B, 0, none⟩ v) B v v1 v2 v3 :=
  ⟨World.cell?_setCell_same _ _ _ h.c0, (World.cell?_setCell_other _ _ _ _ (by simp)).trans h.c1, (World.cell?_setCell_other _ _ _ _ (by simp)).trans h.c2, (World.cell?_setCell_other _ _ _ _ (by simp)).trans h.c3, fun i => by simpa using h.fr i, by simpa [World.setCell] using h.lt⟩
theorem O4.set2 (h : O4 u B v0 v1 v2 v3) (v : Value) : O4 (u.setCell ⟨B, 2, none⟩ v) B v0 v1 v v3 :=
  ⟨(World.cell?_setCell_other _ _ _ _ (by simp)).trans h.c0, (World.cell?_setCell_other _ _ _ _ (by simp)).trans h.c1, World.cell?_setCell_same _ _ _ h.c2, (World.cell?_setCell_other _ _ _ _ (by simp)).trans h.c3, fun i => by simpa using h.fr i, by simpa [World.setCell] using h.lt⟩
theorem O4.set3 (h : O4 u B v0 v1 v2 v3) (v : Value) : O4 (u.setCell ⟨B, 3, none⟩ v) B v0 v1 v2 v :=
  ⟨(World.cell?_setCell_other _ _ _ _ (by simp)).trans h.c0, (World.cell?_setCell_other _ _ _ _ (by simp)).trans h.c1, (World.cell?_setCell_other _ _ _ _ (by simp)).trans h.c2, World.cell?_setCell_same _ _ _ h.c3, fun i => by simpa using h.fr i, by simpa [World.setCell] using h.lt⟩
theorem O3.lay {w W : World} {t : TypeId} (hW : W = w.alloc (.cells #[v0, v1, v2] t)) : O3 W w.heap.size v0 v1 v2 := by
  obtain ⟨h0, h1, h2, h3, h4⟩ := ak3 hW W (Grow.refl _)
  exact ⟨h0, h1, h2, h3, h4⟩
theorem O4.lay {w W : World} {t : TypeId} (hW : W = w.alloc (.cells #[v0, v1, v2, v3] t)) : O4 W w.heap.size v0 v1 v2 v3 := by
  obtain ⟨h0, h1, h2, h3, h4, h5⟩ := ak4 hW W (Grow.refl _)
  exact ⟨h0, h1, h2, h3, h4, h5⟩
end
end Go.Proofs.YtbpkfcohbefphaaGreatDoor
namespace Go.Proofs.YtbpkfcohbefphaaGreatDoor
open Go Go.RowKit
theorem int_cells {w : World} {B : Nat} {z : Int} (h : BxV w B z) : ∃ s a l c, (∀ u, Grow w u → u.cell? ⟨B, 0, none⟩ = some (.bool s) ∧ u.cell? ⟨B, 1, none⟩ = some (.slice a l c) ∧ (∀ o, u.frozen? ⟨B, o, none⟩ = false) ∧ B < u.heap.size) ∧ IntR w (.agg #[.bool s, .slice a l c]) z := by
  obtain ⟨h1, h2, h3, a, l, c, h4, h5, h6⟩ := h
  exact ⟨sgB z, a, l, c, fun u hg => ⟨(hg.cells _ _ h1).trans h4, (hg.cells _ _ h1).trans h5, fun o => (hg.frees _ _ h1).trans (h3 o), Nat.lt_of_lt_of_le h1 hg.size⟩, ⟨_, rfl, h6⟩⟩
theorem IntR.eqs {u : World} {s : Bool} {m : Value} {z : Int} (h : IntR u (.agg #[.bool s, m]) z) : s = sgB z ∧ MagR u m z.natAbs := by
  obtain ⟨p, hv, h1⟩ := h
  simp only [Value.agg.injEq, Array.mk.injEq, List.cons.injEq, Value.bool.injEq, and_true] at hv
  obtain ⟨e1, rfl⟩ := hv
  exact ⟨e1, h1⟩
theorem BxV.putI {u : World} {b : Nat} {z0 z : Int} {s : Bool} {a : Option Addr} {l c : Nat} (h : BxV u b z0) (hm : IntR u (.agg #[.bool s, .slice a l c]) z) : BxV ((u.setCell ⟨b, 0, none⟩ (.bool s)).setCell ⟨b, 1, none⟩ (.slice a l c)) b z := by
  obtain ⟨e, h1⟩ := hm.eqs
  rw [e]; exact h.put h1
theorem BxV.zero (u : World) (t : TypeId) : BxV (u.alloc (.cells #[.bool false, .slice none 0 0] t)) u.heap.size 0 := by
  have h := BxV.lay (w := u) (z := 0) (a := none) (l := 0) (c := 0) (.inl ⟨rfl, none, 0, rfl⟩) t
  exact h
end Go.Proofs.YtbpkfcohbefphaaGreatDoor
namespace Go.Proofs.YtbpkfcohbefphaaGreatDoor
/-- The square root, bit by bit. -/
def rtS (n : Nat) : Nat → Nat → Nat
  | 0, r => r
  | k + 1, r => if (r + 2 ^ k) * (r + 2 ^ k) ≤ n then rtS n k (r + 2 ^ k) else rtS n k r
def sqN (n : Nat) : Nat := rtS n 31 0
theorem rtS_spec (n : Nat) : ∀ (k r : Nat), r * r ≤ n → n < (r + 2 ^ k) * (r + 2 ^ k) → rtS n k r * rtS n k r ≤ n ∧ n < (rtS n k r + 1) * (rtS n k r + 1)
  | 0, r, h1, h2 => ⟨h1, by rw [Nat.pow_zero] at h2; exact h2⟩
  | k + 1, r, h1, h2 => by
    unfold rtS
    split
    · rename_i h
      refine rtS_spec n k _ h ?_
      rw [show r + 2 ^ k + 2 ^ k = r + 2 ^ (k + 1) by rw [Nat.pow_succ]; omega]
      exact h2
    · rename_i h
      exact rtS_spec n k r h1 (by omega)
theorem sqN_spec {n : Nat} (h : n < 4611686018427387904) : sqN n * sqN n ≤ n ∧ n < (sqN n + 1) * (sqN n + 1) :=
  rtS_spec n 31 0 (by omega) (by simpa using h)
theorem sq_between {n a b : Nat} (h1 : a * a ≤ n) (h2 : n < (b + 1) * (b + 1)) : a ≤ b := by
  rcases Nat.lt_or_ge b a with h | h
  · have := Nat.mul_le_mul (show b + 1 ≤ a from h) (show b + 1 ≤ a from h)
    omega
  · exact h
theorem sqN_le {n m : Nat} (h : n < 4611686018427387904) (hm : n < (m + 1) * (m + 1)) : sqN n ≤ m := sq_between (sqN_spec h).1 hm
end Go.Proofs.YtbpkfcohbefphaaGreatDoor
namespace Go.Proofs.YtbpkfcohbefphaaGreatDoor
/-- Whether (a, b, c) is listed among the reduced primitive forms of the discriminant -n. -/
def clsB (n a : Nat) (b : Int) : Bool :=
  decide ((b * b + n) % (4 * a) = 0) && (decide ((a : Int) ≤ (b * b + n) / (4 * a)) && !(decide ((b * b + n) / (4 * a) = a) && decide (b < 0))) && decide (Int.gcd (Int.gcd a b) ((b * b + n) / (4 * a)) ≤ 1)
def clsR (n a : Nat) : Nat → Nat
  | 0 => 0
  | i + 1 => clsR n a i + if clsB n a (1 - (a : Int) + i) then 1 else 0
def clsA (n : Nat) : Nat → Nat
  | 0 => 0
  | k + 1 => clsA n k + clsR n (k + 1) (2 * (k + 1))
def clsN (n : Nat) : Nat := clsA n (sqN (n / 3))
/-- Half the number of automorphs. -/
def unN (n : Nat) : Nat := if n = 3 then 3 else if n = 4 then 2 else 1
def posB (n : Nat) : Bool := decide (n % 4 = 0) || decide (n % 4 = 3)
/-- Six times the sum of the weighted class numbers of n/e^2 over e up to k. -/
def hw6 (n : Nat) : Nat → Nat
  | 0 => 0
  | k + 1 => hw6 n k + if n % ((k + 1) * (k + 1)) = 0 ∧ posB (n / ((k + 1) * (k + 1))) = true then 6 / unN (n / ((k + 1) * (k + 1))) * clsN (n / ((k + 1) * (k + 1))) else 0
def hwN (n : Nat) : Nat := hw6 n (sqN n)
theorem clsR_le (n a : Nat) : ∀ i, clsR n a i ≤ i
  | 0 => Nat.le_refl _
  | i + 1 => by
    have h := clsR_le n a i
    unfold clsR
    split <;> omega
theorem clsA_le (n : Nat) : ∀ k, clsA n k ≤ k * (k + 1)
  | 0 => by simp [clsA]
  | k + 1 => by
    have h := clsA_le n k
    have h2 := clsR_le n (k + 1) (2 * (k + 1))
    unfold clsA
    have e : (k + 1) * (k + 1 + 1) = k * (k + 1) + 2 * (k + 1) := by rw [← Nat.add_mul, Nat.mul_comm]
    omega
theorem sq3_le {n : Nat} (hn : n ≤ 4000) : sqN (n / 3) ≤ 36 := sqN_le (by omega) (by omega)
theorem clsN_le {n : Nat} (hn : n ≤ 4000) : clsN n ≤ 1332 := by
  have h := clsA_le n (sqN (n / 3))
  have h2 := sq3_le hn
  exact Nat.le_trans h (Nat.le_trans (Nat.mul_le_mul h2 (Nat.succ_le_succ h2)) (by omega))
theorem sq_le4 {n : Nat} (hn : n ≤ 4000) : sqN n ≤ 63 := sqN_le (by omega) (by omega)
theorem hw6_le {n : Nat} (hn : n ≤ 4000) : ∀ k, hw6 n k ≤ k * 7992
  | 0 => by simp [hw6]
  | k + 1 => by
    have h := hw6_le hn k
    unfold hw6
    split
    · have h2 : clsN (n / ((k + 1) * (k + 1))) ≤ 1332 := clsN_le (Nat.le_trans (Nat.div_le_self _ _) hn)
      have h3 : 6 / unN (n / ((k + 1) * (k + 1))) ≤ 6 := Nat.div_le_self _ _
      have h4 := Nat.mul_le_mul h3 h2
      have h5 : k * 7992 + 6 * 1332 ≤ (k + 1) * 7992 := by rw [Nat.add_mul]; exact Nat.le_refl _
      exact Nat.le_trans (Nat.add_le_add h h4) h5
    · have h5 : k * 7992 ≤ (k + 1) * 7992 := Nat.mul_le_mul_right _ (by omega)
      exact Nat.le_trans h h5
theorem unN_pos (n : Nat) : 0 < unN n := by
  unfold unN
  split
  · omega
  · split <;> omega
theorem unN_le (n : Nat) : unN n ≤ 3 := by
  unfold unN
  split
  · omega
  · split <;> omega
/-- A weighted class number in sixths. -/
theorem wn_six (n : Nat) : (((clsN n : Nat) : Int) : Rat) / (((unN n : Nat) : Int) : Rat) = (((6 / unN n * clsN n : Nat) : Int) : Rat) / ((6 : Int) : Rat) := by
  generalize clsN n = c
  have h : unN n = 1 ∨ unN n = 2 ∨ unN n = 3 := by
    have := unN_pos n
    have := unN_le n
    omega
  rcases h with h | h | h <;> rw [h]
  · have e : ((6 / 1 * c : Nat) : Int) = 6 * (c : Int) := by simp
    rw [e]; simp only [Rat.intCast_mul]; grind
  · have e : ((6 / 2 * c : Nat) : Int) = 3 * (c : Int) := by simp
    rw [e]; simp only [Rat.intCast_mul]; grind
  · have e : ((6 / 3 * c : Nat) : Int) = 2 * (c : Int) := by simp
    rw [e]; simp only [Rat.intCast_mul]; grind
theorem six_add (a b : Nat) : ((a : Int) : Rat) / ((6 : Int) : Rat) + ((b : Int) : Rat) / ((6 : Int) : Rat) = (((a + b : Nat) : Int) : Rat) / ((6 : Int) : Rat) := by
  rw [Int.natCast_add, Rat.intCast_add]; grind
end Go.Proofs.YtbpkfcohbefphaaGreatDoor
namespace Go.Proofs.YtbpkfcohbefphaaGreatDoor
open Go Go.RowKit
theorem gcW_step (x y : Int) : Int.gcd y (x.tmod y) = Int.gcd x y := by
  simp only [Int.gcd, Int.natAbs_tmod]
  rw [Nat.gcd_comm x.natAbs y.natAbs, Nat.gcd_rec y.natAbs x.natAbs, Nat.gcd_comm]
theorem tmW_lt (x y : Int) (h : y ≠ 0) : (x.tmod y).natAbs < y.natAbs := by
  rw [Int.natAbs_tmod]
  exact Nat.mod_lt _ (by omega)
theorem tmW_bd (x y : Int) (h : y ≠ 0) (B : Int) (h1 : -B ≤ y) (h2 : y ≤ B) : -B ≤ x.tmod y ∧ x.tmod y ≤ B := by
  have := tmW_lt x y h
  omega
set_option maxHeartbeats 1000000 in
theorem gcW_quiet (a b : Int) (ha : -4611686018427387904 ≤ a) (ha' : a ≤ 4611686018427387904) (hb : -4611686018427387904 ≤ b) (hb' : b ≤ 4611686018427387904) (w : World) :
    Calls Tryz.prog 68 #[.int .i64 a, .int .i64 b] w fun e w' => e = .returned (.int .i64 (Int.gcd a b)) ∧ ∃ n, w' = w.drewN n := by
  go_enter Tryz.func68, Tryz.ntmps68
  go_wp2
  go_loopw [0, 1] (fun u v wr => ∃ x y : Int, u = .int .i64 x ∧ v = .int .i64 y ∧ -4611686018427387904 ≤ x ∧ x ≤ 4611686018427387904 ∧ -4611686018427387904 ≤ y ∧ y ≤ 4611686018427387904 ∧ Hid (Int.gcd x y = Int.gcd a b) ∧ ∃ n, wr = w.drewN n) (fun _ v _ => (intOf v).natAbs)
  case atStart => exact ⟨a, b, rfl, rfl, ha, ha', hb, hb', rfl, 0, rfl⟩
  case round =>
    obtain ⟨x, y, rfl, rfl, h1, h2, h3, h4, hg, n, rfl⟩ := hrel
    by_cases hy : y = 0
    · subst hy
      have hx : (x.natAbs : Int) = Int.gcd a b := by rw [← hg.out]; simp
      have HX := Lib.hid hx
      clear hx
      go_wp2
      all_goals
        go_ret
        exact ⟨congrArg (fun z => Ending.returned (Value.int .i64 z)) (by rw [← HX.out]; omega), _, rfl⟩
    · have hy1 : (y == 0) = false := by simpa using hy
      have hy2 : (y != 0) = true := by simpa using hy
      have hr := gcW_step x y
      have hl := tmW_lt x y hy
      obtain ⟨t1, t2⟩ := tmW_bd x y hy 4611686018427387904 h3 h4
      have HR := Lib.hid hr
      clear hr
      go_wp2
      go_quiet (fail)
      go_wp2
      go_roundw
      case rel => exact ⟨y, x.tmod y, rfl, rfl, h3, h4, t1, t2, HR.out.trans hg.out, n + nq, by rw [World.drewN_drewN]⟩
      case measure => simp only [intOf]; exact hl
theorem gcW_any (a b : Int) (ha : -4611686018427387904 ≤ a) (ha' : a ≤ 4611686018427387904) (hb : -4611686018427387904 ≤ b) (hb' : b ≤ 4611686018427387904) (w : World) :
    Calls Tryz.prog 68 #[.int .i64 a, .int .i64 b] w fun e w' => e = .returned (.int .i64 (Int.gcd a b)) ∧ Grow w w' :=
  (gcW_quiet a b ha ha' hb hb' w).mono fun _ _ ⟨he, n, hn⟩ => ⟨he, by rw [hn]; exact (Grow.refl _).drewN n⟩
end Go.Proofs.YtbpkfcohbefphaaGreatDoor
