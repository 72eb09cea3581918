/- Plain model of Satisfies, and what a loop over the map of marks needs. -/
import Derived.Test.YtalidpojcpmcbaaHbV
import Derived.Test.YtalidpojcpmcbaaHbW
namespace Go.Proofs.Ytalidpojcpmcbaa
open Go Go.RowKit

def addT (T : K3 → C2 → Int) (k : K3) (c : C2) (z : Int) : K3 → C2 → Int := bump T k c (T k c + z)
def stM (n : Int) (T : K3 → C2 → Int) (m : M2) : K3 → C2 → Int := addT (addT T (clsF m n) (cuF m.a m.c) 1) (clsF m n) (cuF m.b m.d) (-1)
def stK (n a b : Int) (T : K3 → C2 → Int) : K3 → C2 → Int := addT (addT T ⟨a, b, n.tdiv a⟩ ⟨1, 0⟩ (-1)) ⟨a, b, n.tdiv a⟩ ⟨0, 1⟩ 1
def tB : Nat → Int → Int → Int → (K3 → C2 → Int) → K3 → C2 → Int
  | 0, _, _, _, T => T
  | f + 1, n, a, b, T => if b < a then tB f n a (b + 1) (stK n a b T) else T
def tA : Nat → Int → Int → (K3 → C2 → Int) → K3 → C2 → Int
  | 0, _, _, T => T
  | f + 1, n, a, T => if a ≤ n then tA f n (a + 1) (if n.tmod a = 0 then tB 130 n a 0 T else T) else T
def tL (n : Int) (l : List M2) : K3 → C2 → Int := l.foldl (stM n) (fun _ _ => 0)
def tAll (n : Int) (l : List M2) : K3 → C2 → Int := tA 130 n 1 (tL n l)
def SatP (n : Int) (l : List M2) : Prop := (1 ≤ n ∧ n ≤ 128 ∧ l.length ≤ 4096) ∧ (∀ m ∈ l, fitsF m n = true) ∧ ∀ k c, tAll n l k c = 0
def bdT (T : K3 → C2 → Int) (N : Nat) : Prop := ∀ k c, (T k c).natAbs ≤ N
theorem bdT.add {T : K3 → C2 → Int} {N : Nat} (h : bdT T N) (k : K3) (c : C2) {z : Int} (hz : z.natAbs ≤ 1) : bdT (addT T k c z) (N + 1) := by
  intro k' c'
  have h1 := h k c
  have h2 := h k' c'
  unfold addT bump
  split <;> omega
theorem wf64 {x : Int} (h : x.natAbs ≤ 4611686018427387904) : (Lit.int .i64 x).wf = true := by
  have h1 : (IntKind.min .i64 : Int) = -9223372036854775808 := by decide
  have h2 : (IntKind.max .i64 : Int) = 9223372036854775807 := by decide
  simp only [Lit.wf, Bool.and_eq_true, decide_eq_true_eq, h1, h2]
  omega
theorem cu_bd {x y : Int} {N : Nat} (hx : x.natAbs ≤ N) (hy : y.natAbs ≤ N) : (cuF x y).p.natAbs ≤ N ∧ (cuF x y).q.natAbs ≤ N := by
  have h1 : (x.tdiv (Int.gcd x y)).natAbs ≤ x.natAbs := by rw [Int.natAbs_tdiv]; exact Nat.div_le_self _ _
  have h2 : (y.tdiv (Int.gcd x y)).natAbs ≤ y.natAbs := by rw [Int.natAbs_tdiv]; exact Nat.div_le_self _ _
  unfold cuF
  split <;> (dsimp only; omega)
theorem cls_bd {m : M2} {n : Int} (h1 : 1 ≤ n) (h2 : n ≤ 128) (hdet : m.a * m.d - m.b * m.c = n) : (clsF m n).a.natAbs ≤ 128 ∧ (clsF m n).b.natAbs ≤ 128 ∧ (clsF m n).d.natAbs ≤ 128 := by
  obtain ⟨-, s2, -, -, s5, s6, s7, s8, -⟩ := cls_spec h1 hdet
  have hkd : (clsF m n).d * 1 ≤ (clsF m n).d * (clsF m n).a := Int.mul_le_mul_of_nonneg_left (by omega) (by omega)
  have hka : 1 * (clsF m n).a ≤ (clsF m n).d * (clsF m n).a := Int.mul_le_mul_of_nonneg_right (by omega) (by omega)
  omega
theorem inK_of {k : K3} {c : C2} (h1 : k.a.natAbs ≤ 128 ∧ k.b.natAbs ≤ 128 ∧ k.d.natAbs ≤ 128) (h2 : c.p.natAbs ≤ 1073741824 ∧ c.q.natAbs ≤ 1073741824) : inK k c :=
  ⟨wf64 (by omega), wf64 (by omega), wf64 (by omega), wf64 (by omega), wf64 (by omega)⟩
theorem MapT.mono {w : World} {B n n' : Nat} {T : K3 → C2 → Int} (h : MapT w B n T) (hn : n ≤ n') : MapT w B n' T := by
  obtain ⟨es, clock, h1, h2, h3, h4⟩ := h
  exact ⟨es, clock, h1, h2, Nat.le_trans h3 hn, h4⟩
/-- The map as the kit's loop law sees it. -/
theorem MapT.data {w : World} {B n : Nat} {T : K3 → C2 → Int} (h : MapT w B n T) :
    ∃ D : DataW Unit, w.ownsMap Try.prog 52 (plainElem Try.prog 3) B n D ∧ (∀ k c kl, keyOf Try.prog 52 (keyV k c) = some kl → D.atKey kl (.lit (.int .i64 0)) = .lit (.int .i64 (T k c))) ∧
      ∀ k c, T k c ≠ 0 → ∃ kl, keyOf Try.prog 52 (keyV k c) = some kl := by
  have h0 := h
  obtain ⟨es, clock, hb, F, hs, g1, g2⟩ := h
  refine ⟨_, ⟨es, clock, hb, F, hs, rfl⟩, ?_, ?_⟩
  · intro k c kl hkl
    have hown : w.ownsMap Try.prog 52 (plainElem Try.prog 3) B n _ := ⟨es, clock, hb, F, hs, rfl⟩
    obtain ⟨x, hrun, hat, -⟩ := hown.lookup_int key52 (t := 45) Try.underlying45 Try.underlying3 (by kernel_rfl) hkl
    obtain ⟨x1, x2, x3, x4, x5, hv, f1, f2, f3, f4, f5⟩ := key_inv _ _ hkl
    have e := keyV_inj (k := k) (c := c) (k' := ⟨x1, x2, x3⟩) (c' := ⟨x4, x5⟩) hv
    have hin : inK k c := by rw [e.1, e.2]; exact ⟨f1, f2, f3, f4, f5⟩
    have hl := map_look h0 hin
    rw [hl] at hrun
    have : T k c = x := by injection hrun with h1 _; injection h1
    rw [hat, this]
  · intro k c hne
    have : ∃ x ∈ es.toList, x.key = keyV k c := by
      refine Classical.byContradiction fun hn => hne (g2 k c fun x hx e => hn ⟨x, hx, e⟩)
    obtain ⟨x, hx, e⟩ := this
    obtain ⟨kl, hk⟩ := F.keys x hx
    exact ⟨kl, by rw [← e]; exact hk⟩
/-- What the loop over the map has seen so far. -/
def Seen (T : K3 → C2 → Int) (left : Lit → Bool) : Prop := ∀ k c kl, keyOf Try.prog 52 (keyV k c) = some kl → left kl = false → T k c = 0
theorem seen_start {D : DataW Unit} {T : K3 → C2 → Int} (h : ∀ k c kl, keyOf Try.prog 52 (keyV k c) = some kl → D.atKey kl (.lit (.int .i64 0)) = .lit (.int .i64 (T k c))) : Seen T (Maps.has D) := by
  intro k c kl hk hl
  have h1 := h k c kl hk
  rw [Maps.atKey_of_not_has hl] at h1
  injection h1 with h2
  injection h2 with _ h3
  exact h3.symm
theorem seen_step {D : DataW Unit} {T : K3 → C2 → Int} {left : Lit → Bool} {kl : Lit} (h : ∀ k c kl, keyOf Try.prog 52 (keyV k c) = some kl → D.atKey kl (.lit (.int .i64 0)) = .lit (.int .i64 (T k c))) (hs : Seen T left) (hat : D.atKey kl (.lit (.int .i64 0)) = .lit (.int .i64 0)) :
    Seen T (fun z => left z && !z.sameKey kl) := by
  intro k c kl' hk hl
  simp only [Bool.and_eq_false_iff, Bool.not_eq_false'] at hl
  rcases hl with hl | hl
  · exact hs k c kl' hk hl
  · have e := WideAt.sameKey_eq hl
    subst e
    have h1 := h k c kl' hk
    rw [hat] at h1
    injection h1 with h2
    injection h2 with _ h3
    exact h3.symm
/-- The cells of a matrix and of its class. -/
def C7 (X Y : Nat) (m : M2) (k : K3) (w : World) : Prop :=
  w.cell? ⟨X, 0, none⟩ = some (.int .i64 m.a) ∧ w.cell? ⟨X, 1, none⟩ = some (.int .i64 m.b) ∧ w.cell? ⟨X, 2, none⟩ = some (.int .i64 m.c) ∧ w.cell? ⟨X, 3, none⟩ = some (.int .i64 m.d) ∧
    w.cell? ⟨Y, 0, none⟩ = some (.int .i64 k.a) ∧ w.cell? ⟨Y, 1, none⟩ = some (.int .i64 k.b) ∧ w.cell? ⟨Y, 2, none⟩ = some (.int .i64 k.d)
theorem C7.of {X Y : Nat} {m : M2} {k : K3} {w w' : World} (h : C7 X Y m k w) (hx : ∀ o, w'.cell? ⟨X, o, none⟩ = w.cell? ⟨X, o, none⟩) (hy : ∀ o, w'.cell? ⟨Y, o, none⟩ = w.cell? ⟨Y, o, none⟩) : C7 X Y m k w' := by
  obtain ⟨h0, h1, h2, h3, h4, h5, h6⟩ := h
  exact ⟨(hx 0).trans h0, (hx 1).trans h1, (hx 2).trans h2, (hx 3).trans h3, (hy 0).trans h4, (hy 1).trans h5, (hy 2).trans h6⟩
theorem C7.grow {X Y : Nat} {m : M2} {k : K3} {w w' : World} (h : C7 X Y m k w) (hX : X < w.heap.size) (hY : Y < w.heap.size) (hg : Grow w w') : C7 X Y m k w' :=
  h.of (fun _ => hg.cells _ _ hX) (fun _ => hg.cells _ _ hY)
theorem C7.by {X Y B : Nat} {m : M2} {k : K3} {w w' : World} (h : C7 X Y m k w) (hX : X < w.heap.size) (hY : Y < w.heap.size) (hXB : X ≠ B) (hYB : Y ≠ B) (hg : w.grownBy w' (some B)) : C7 X Y m k w' :=
  h.of (fun _ => World.cell?_of_block (hg.block _ hX (fun e => hXB (Option.some.inj e)))) (fun _ => World.cell?_of_block (hg.block _ hY (fun e => hYB (Option.some.inj e))))
/-- What a counting region does: the equations of its steps, and the world behind it. -/
theorem count_steps {w0 w : World} {X Y : Nat} {m : M2} {k : K3} {n : Nat} {T : K3 → C2 → Int} (hm : MapT w w0.heap.size n T) (hg : Grow w0 w) (h7 : C7 X Y m k w) (hX : X < w.heap.size) (hY : Y < w.heap.size) (hXB : w0.heap.size < X) (hYB : w0.heap.size < Y)
    (hn : n < 99999) {c : C2} (hk : inK k c) (hb : bdT T n) {z : Int} (hz : z.natAbs ≤ 1) {x y : Int} (hx : T k c = x) (hy : x + z = y) :
    ∃ (s : Value) (w2 w3 : World), (Instr.lookup 45 (.map (some w0.heap.size)) (.agg #[.int .i64 k.a, .int .i64 k.b, .int .i64 k.d, .int .i64 c.p, .int .i64 c.q]) false).run Try.prog w = .ok (.int .i64 x) w ∧
      (Instr.mapEntry 45 (.map (some w0.heap.size)) (.agg #[.int .i64 k.a, .int .i64 k.b, .int .i64 k.d, .int .i64 c.p, .int .i64 c.q])).run Try.prog w = .ok (.tuple #[.int .i64 x, s]) w2 ∧
      (Instr.lookup 45 (.map (some w0.heap.size)) (.agg #[.int .i64 k.a, .int .i64 k.b, .int .i64 k.d, .int .i64 c.p, .int .i64 c.q]) false).run Try.prog w2 = .ok (.int .i64 x) w2 ∧
      (Instr.entryStore 45 (.map (some w0.heap.size)) s (.int .i64 y)).run Try.prog w2 = .ok () w3 ∧
      C7 X Y m k w2 ∧ C7 X Y m k w3 ∧ X < w3.heap.size ∧ Y < w3.heap.size ∧ Hid (MapT w3 w0.heap.size (n + 1) (addT T k c z)) ∧ Hid (bdT (addT T k c z) (n + 1)) ∧ Hid (Grow w0 w3) := by
  have h1 := hb k c
  have hy2 : T k c + z = y := by rw [hx]; exact hy
  obtain ⟨s, w2, w3, e1, e2, e3, e4, hm3, g2, g3⟩ := map_steps (z := y) hm hn hk (wf64 (by omega))
  rw [hx] at e1 e2 e3
  refine ⟨s, w2, w3, e1, e2, e3, e4, h7.by hX hY (by omega) (by omega) g2, h7.by hX hY (by omega) (by omega) g3, Nat.lt_of_lt_of_le hX g3.size, Nat.lt_of_lt_of_le hY g3.size, ?_, ?_, ?_⟩
  · show MapT _ _ _ _
    unfold addT
    rw [hy2]; exact hm3
  · show bdT _ _
    exact hb.add k c hz
  · show Grow _ _
    exact hg.grown g3 (fun j hj => by have := Option.some.inj hj; omega)
/-- The cells of a class. -/
def C3 (Y : Nat) (k : K3) (w : World) : Prop :=
  w.cell? ⟨Y, 0, none⟩ = some (.int .i64 k.a) ∧ w.cell? ⟨Y, 1, none⟩ = some (.int .i64 k.b) ∧ w.cell? ⟨Y, 2, none⟩ = some (.int .i64 k.d)
theorem C3.of {Y : Nat} {k : K3} {w w' : World} (h : C3 Y k w) (hy : ∀ o, w'.cell? ⟨Y, o, none⟩ = w.cell? ⟨Y, o, none⟩) : C3 Y k w' := by
  obtain ⟨h4, h5, h6⟩ := h
  exact ⟨(hy 0).trans h4, (hy 1).trans h5, (hy 2).trans h6⟩
theorem C3.by {Y B : Nat} {k : K3} {w w' : World} (h : C3 Y k w) (hY : Y < w.heap.size) (hYB : Y ≠ B) (hg : w.grownBy w' (some B)) : C3 Y k w' :=
  h.of (fun _ => World.cell?_of_block (hg.block _ hY (fun e => hYB (Option.some.inj e))))
theorem count3 {w0 w : World} {Y : Nat} {k : K3} {n : Nat} {T : K3 → C2 → Int} (hm : MapT w w0.heap.size n T) (hg : Grow w0 w) (h3 : C3 Y k w) (hY : Y < w.heap.size) (hYB : w0.heap.size < Y)
    (hn : n < 99999) {c : C2} (hk : inK k c) (hb : bdT T n) {z : Int} (hz : z.natAbs ≤ 1) {x y : Int} (hx : T k c = x) (hy : x + z = y) :
    ∃ (s : Value) (w2 w3 : World), (Instr.lookup 45 (.map (some w0.heap.size)) (.agg #[.int .i64 k.a, .int .i64 k.b, .int .i64 k.d, .int .i64 c.p, .int .i64 c.q]) false).run Try.prog w.drew = .ok (.int .i64 x) w.drew ∧
      (Instr.mapEntry 45 (.map (some w0.heap.size)) (.agg #[.int .i64 k.a, .int .i64 k.b, .int .i64 k.d, .int .i64 c.p, .int .i64 c.q])).run Try.prog w.drew = .ok (.tuple #[.int .i64 x, s]) w2 ∧
      (Instr.lookup 45 (.map (some w0.heap.size)) (.agg #[.int .i64 k.a, .int .i64 k.b, .int .i64 k.d, .int .i64 c.p, .int .i64 c.q]) false).run Try.prog w2 = .ok (.int .i64 x) w2 ∧
      (Instr.entryStore 45 (.map (some w0.heap.size)) s (.int .i64 y)).run Try.prog w2 = .ok () w3 ∧
      C3 Y k w2 ∧ C3 Y k w3 ∧ Y < w3.heap.size ∧ Hid (MapT w3 w0.heap.size (n + 1) (addT T k c z)) ∧ Hid (bdT (addT T k c z) (n + 1)) ∧ Hid (Grow w0 w3) := by
  have h1 := hb k c
  have hy2 : T k c + z = y := by rw [hx]; exact hy
  obtain ⟨s, w2, w3, e1, e2, e3, e4, hm3, g2, g3⟩ := map_steps (w := w.drew) (z := y) (hm.at rfl) hn hk (wf64 (by omega))
  rw [hx] at e1 e2 e3
  have h3' : C3 Y k w.drew := h3.of (fun _ => rfl)
  refine ⟨s, w2, w3, e1, e2, e3, e4, h3'.by hY (by omega) g2, h3'.by hY (by omega) g3, Nat.lt_of_lt_of_le hY g3.size, ?_, ?_, ?_⟩
  · show MapT _ _ _ _
    unfold addT
    rw [hy2]; exact hm3
  · show bdT _ _
    exact hb.add k c hz
  · show Grow _ _
    exact hg.drew.grown g3 (fun j hj => by have := Option.some.inj hj; omega)
end Go.Proofs.Ytalidpojcpmcbaa
