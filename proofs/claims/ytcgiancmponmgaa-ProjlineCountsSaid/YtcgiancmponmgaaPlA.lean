/- Plain definitions for matrices and cusps: what the functions of sl2 and of its reference compute. No program here. -/
import Derived.Below
import Derived.Deep.Draws
namespace Go.Proofs.Ytcgiancmponmgaa
open Go.RowKit

def inB (n : Int) : Bool := decide (-1073741824 ≤ n) && decide (n ≤ 1073741824)
theorem inB_iff {n : Int} : inB n = true ↔ -1073741824 ≤ n ∧ n ≤ 1073741824 := by simp [inB]
theorem inB_false {n : Int} : inB n = false ↔ ¬ (-1073741824 ≤ n ∧ n ≤ 1073741824) := by
  rw [← inB_iff]; simp
def fitsB (a b c d : Int) : Bool := inB a && inB b && inB c && inB d
theorem fitsB_iff {a b c d : Int} : fitsB a b c d = true ↔ inB a = true ∧ inB b = true ∧ inB c = true ∧ inB d = true := by simp [fitsB, and_assoc]

theorem mul_bd {a x : Int} (M N : Int) (ha : -M ≤ a) (ha' : a ≤ M) (hx : -N ≤ x) (hx' : x ≤ N) : -(M * N) ≤ a * x ∧ a * x ≤ M * N := by
  have h1 : a.natAbs ≤ M.natAbs := by omega
  have h2 : x.natAbs ≤ N.natAbs := by omega
  have h3 : (a * x).natAbs ≤ (M * N).natAbs := by rw [Int.natAbs_mul, Int.natAbs_mul]; exact Nat.mul_le_mul h1 h2
  have h4 : 0 ≤ M * N := Int.mul_nonneg (by omega) (by omega)
  omega
theorem mul_in {a x : Int} (ha : inB a = true) (hx : inB x = true) : -1152921504606846976 ≤ a * x ∧ a * x ≤ 1152921504606846976 := by
  obtain ⟨h1, h2⟩ := inB_iff.1 ha
  obtain ⟨h3, h4⟩ := inB_iff.1 hx
  exact mul_bd 1073741824 1073741824 h1 h2 h3 h4

structure M2 where
  a : Int
  b : Int
  c : Int
  d : Int
structure C2 where
  p : Int
  q : Int
def M2.fits (m : M2) : Bool := fitsB m.a m.b m.c m.d
def M2.times (x y : M2) : M2 := ⟨x.a * y.a + x.b * y.c, x.a * y.b + x.b * y.d, x.c * y.a + x.d * y.c, x.c * y.b + x.d * y.d⟩
def M2.det (m : M2) : Int := m.a * m.d - m.b * m.c
def M2.zero : M2 := ⟨0, 0, 0, 0⟩
def M2.one : M2 := ⟨1, 0, 0, 1⟩
def M2.back (m : M2) : M2 := ⟨m.d, -m.b, -m.c, m.a⟩
def M2.minus (m : M2) : M2 := ⟨-m.a, -m.b, -m.c, -m.d⟩
def C2.zero : C2 := ⟨0, 0⟩
def detF (m : M2) : Int × Int := if m.fits then (m.det, 0) else (0, 2)
def checkF (m : M2) : Int := if m.fits then (if m.det = 1 then 0 else 12) else 2
def mulF (x y : M2) : M2 × Int := if x.fits && y.fits then (if (x.times y).fits then (x.times y, 0) else (M2.zero, 7)) else (M2.zero, 2)
def invF (m : M2) : M2 × Int := if checkF m = 0 then (m.back, 0) else (M2.zero, checkF m)

theorem fits_bd {m : M2} (h : m.fits = true) : (-1073741824 ≤ m.a ∧ m.a ≤ 1073741824) ∧ (-1073741824 ≤ m.b ∧ m.b ≤ 1073741824) ∧ (-1073741824 ≤ m.c ∧ m.c ≤ 1073741824) ∧ (-1073741824 ≤ m.d ∧ m.d ≤ 1073741824) := by
  obtain ⟨h1, h2, h3, h4⟩ := fitsB_iff.1 h
  exact ⟨inB_iff.1 h1, inB_iff.1 h2, inB_iff.1 h3, inB_iff.1 h4⟩
theorem checkF_zero {m : M2} : checkF m = 0 ↔ m.fits = true ∧ m.det = 1 := by
  unfold checkF
  by_cases h : m.fits = true
  · by_cases h2 : m.det = 1 <;> simp [h, h2]
  · simp [h]

/-- What was there is as it was; new blocks may have come. -/
def Grow (w w' : World) : Prop := Below w.heap.size w w'
theorem Grow.below {w w' : World} (h : Grow w w') : Below w.heap.size w w' := h
theorem Grow.refl (w : World) : Grow w w := Below.refl _ _
theorem Grow.size {w w' : World} (h : Grow w w') : w.heap.size ≤ w'.heap.size := Below.size h
theorem Grow.trans {a b c : World} (h : Grow a b) (k : Grow b c) : Grow a c := Below.trans h (Below.mono k h.size)
theorem Grow.alloc {a w : World} (h : Grow a w) (o : Obj) : Grow a (w.alloc o) := Below.alloc h h.size o
theorem Grow.drew {a w : World} (h : Grow a w) : Grow a w.drew := Below.drew h
theorem Grow.drewN {a w : World} (h : Grow a w) (n : Nat) : Grow a (w.drewN n) := ⟨h.os, h.tape, h.output, h.size, h.block⟩
theorem Grow.setCell {a w : World} (h : Grow a w) {p : Addr} (hp : a.heap.size ≤ p.block) (u : Value) : Grow a (w.setCell p u) := Below.setCell h hp u
theorem Grow.grown {a w w' : World} {row : Option Nat} (h : Grow a w) (hg : w.grownBy w' row) (hr : ∀ k, row = some k → a.heap.size ≤ k) : Grow a w' := Below.grown h hg h.size hr
theorem Grow.cells {W w1 : World} (hb : Grow W w1) : ∀ b o, b < W.heap.size → w1.cell? ⟨b, o, none⟩ = W.cell? ⟨b, o, none⟩ := fun b o h => Below.cell hb (p := ⟨b, o, none⟩) h
theorem Grow.frees {W w1 : World} (hb : Grow W w1) : ∀ b o, b < W.heap.size → w1.frozen? ⟨b, o, none⟩ = W.frozen? ⟨b, o, none⟩ := fun b o h => Below.frozen hb (p := ⟨b, o, none⟩) h
end Go.Proofs.Ytcgiancmponmgaa
