/- The reference's sums of cusps: plain model, and their memory. -/
import Derived.Test.YtalidpojcpmcbaaHcD
import Derived.Test.YtalidpojcpmcbaaHcG
import Derived.Test.YtalidpojcpmcbaaPlY
namespace Go.Proofs.Ytalidpojcpmcbaa
open Go Go.RowKit

/-- The value of a sum at a cusp. -/
def valS : List C2 → List Int → C2 → Int
  | x :: cs, t :: ts, c => (if x = c then t else 0) + valS cs ts c
  | _, _, _ => 0
theorem valS_app : ∀ (cs : List C2) (ts : List Int) (x : C2) (t : Int) (c : C2), cs.length = ts.length → valS (cs ++ [x]) (ts ++ [t]) c = valS cs ts c + (if x = c then t else 0)
  | [], [], x, t, c, _ => by simp [valS]
  | y :: cs, s :: ts, x, t, c, h => by
    have := valS_app cs ts x t c (by simpa using h)
    simp only [List.cons_append, valS]
    omega
  | [], _ :: _, _, _, _, h => by simp at h
  | _ :: _, [], _, _, _, h => by simp at h
theorem valS_set : ∀ (cs : List C2) (ts : List Int) (i : Nat) (n : Int) (c : C2), cs.length = ts.length → i < cs.length → valS cs (ts.set i (ts.getD i 0 + n)) c = valS cs ts c + (if cs.getD i C2.zero = c then n else 0)
  | [], ts, i, n, c, h, hi => by simp at hi
  | x :: cs, [], i, n, c, h, hi => by simp at h
  | x :: cs, t :: ts, 0, n, c, h, hi => by
    simp only [List.set_cons_zero, valS, List.getD_cons_zero]
    split <;> omega
  | x :: cs, t :: ts, i + 1, n, c, h, hi => by
    have := valS_set cs ts i n c (by simpa using h) (by simpa using hi)
    simp only [List.set_cons_succ, valS, List.getD_cons_succ]
    omega
theorem valS_none : ∀ (cs : List C2) (ts : List Int) (c : C2), c ∉ cs → valS cs ts c = 0
  | [], _, _, _ => by simp [valS]
  | x :: cs, [], _, _ => by simp [valS]
  | x :: cs, t :: ts, c, h => by
    simp only [List.mem_cons, not_or] at h
    simp only [valS]
    rw [if_neg (fun e => h.1 e.symm), valS_none cs ts c h.2]
    rfl
theorem valS_at : ∀ (cs : List C2) (ts : List Int) (i : Nat), cs.Nodup → cs.length = ts.length → i < cs.length → valS cs ts (cs.getD i C2.zero) = ts.getD i 0
  | [], ts, i, _, h, hi => by simp at hi
  | x :: cs, [], i, _, h, hi => by simp at h
  | x :: cs, t :: ts, 0, hn, h, hi => by
    simp only [List.getD_cons_zero, valS, if_true]
    rw [valS_none cs ts x (List.nodup_cons.1 hn).1]
    omega
  | x :: cs, t :: ts, i + 1, hn, h, hi => by
    have hi' : i < cs.length := by simpa using hi
    have := valS_at cs ts i (List.nodup_cons.1 hn).2 (by simpa using h) hi'
    simp only [List.getD_cons_succ, valS]
    have hne : x ≠ cs.getD i C2.zero := by
      intro e
      apply (List.nodup_cons.1 hn).1
      rw [e, List.getD_eq_getElem?_getD, List.getElem?_eq_getElem hi']
      simp
    rw [if_neg hne, this]
    omega
/-- What adding n times a cusp does to a sum. -/
def AddOut (cs : List C2) (ts : List Int) (c : C2) (n : Int) (cs' : List C2) (ts' : List Int) : Prop :=
  (c ∉ cs ∧ cs' = cs ++ [c] ∧ ts' = ts ++ [n]) ∨ ∃ i, i < cs.length ∧ cs.getD i C2.zero = c ∧ cs' = cs ∧ ts' = ts.set i (ts.getD i 0 + n)
theorem AddOut.val {cs : List C2} {ts : List Int} {c : C2} {n : Int} {cs' : List C2} {ts' : List Int} (h : AddOut cs ts c n cs' ts') (hl : cs.length = ts.length) (x : C2) : valS cs' ts' x = valS cs ts x + (if c = x then n else 0) := by
  rcases h with ⟨-, rfl, rfl⟩ | ⟨i, hi, rfl, rfl, rfl⟩
  · exact valS_app cs ts c n x hl
  · exact valS_set _ ts i n x hl hi
theorem AddOut.len {cs : List C2} {ts : List Int} {c : C2} {n : Int} {cs' : List C2} {ts' : List Int} (h : AddOut cs ts c n cs' ts') (hl : cs.length = ts.length) : cs'.length = ts'.length ∧ cs'.length ≤ cs.length + 1 := by
  rcases h with ⟨-, rfl, rfl⟩ | ⟨i, hi, rfl, rfl, rfl⟩
  · simp [hl]
  · simp [hl]
theorem AddOut.nodup {cs : List C2} {ts : List Int} {c : C2} {n : Int} {cs' : List C2} {ts' : List Int} (h : AddOut cs ts c n cs' ts') (hn : cs.Nodup) : cs'.Nodup := by
  rcases h with ⟨hc, rfl, rfl⟩ | ⟨i, hi, rfl, rfl, rfl⟩
  · refine List.nodup_append.2 ⟨hn, by simp, fun a ha b hb e => ?_⟩
    simp only [List.mem_singleton] at hb
    rw [e, hb] at ha
    exact hc ha
  · exact hn
theorem AddOut.bd {cs : List C2} {ts : List Int} {c : C2} {n : Int} {cs' : List C2} {ts' : List Int} (h : AddOut cs ts c n cs' ts') {B : Nat} (hn : n.natAbs ≤ 1) (hb : ∀ t ∈ ts, t.natAbs ≤ B) : ∀ t ∈ ts', t.natAbs ≤ B + 1 := by
  rcases h with ⟨hc, rfl, rfl⟩ | ⟨i, hi, rfl, rfl, rfl⟩
  · intro t ht
    simp only [List.mem_append, List.mem_singleton] at ht
    rcases ht with ht | rfl
    · have := hb t ht; omega
    · omega
  · intro t ht
    rcases List.mem_or_eq_of_mem_set ht with ht | rfl
    · have := hb t ht; omega
    · have h0 : (ts.getD i 0).natAbs ≤ B := by
        rw [List.getD_eq_getElem?_getD]
        cases h1 : ts[i]? with
        | none => simp
        | some t => exact hb t (List.mem_of_getElem? h1)
      omega

theorem own_setI {w : World} {base g : Nat} {v : Value} {ts : List Int} (h : OwnInts w base v ts) (hv : v.ownBlock = some g) {i : Nat} (hi : i < ts.length) (x : Int) : OwnInts (w.setCell ⟨g, i, none⟩ (.int .i64 x)) base v (ts.set i x) := by
  unfold OwnInts at h ⊢
  rw [List.length_set]
  refine ⟨by simp, ?_⟩
  rcases h.2 with ⟨hv2, h0⟩ | ⟨g', cap, cur, hv2, hb, hh, hle, hm, hsz, htk⟩
  · omega
  · subst hv2
    simp only [Value.ownBlock, Option.some.injEq] at hv
    subst hv
    refine .inr ⟨g', cap, cur.setIfInBounds i (.int .i64 x), rfl, hb, ?_, hle, hm, by simpa using hsz, ?_⟩
    · simp [World.setCell, Array.getElem?_modify, hh]
    · rw [Array.toList_setIfInBounds, List.take_set, htk, List.map_set]
/-- All old blocks but two are as they were. -/
structure But2 (w w' : World) (p q : Option Nat) : Prop where
  os : w'.os = w.os
  tape : w'.tape = w.tape
  output : w'.output = w.output
  size : w.heap.size ≤ w'.heap.size
  block : ∀ k, k < w.heap.size → some k ≠ p → some k ≠ q → w'.heap[k]? = w.heap[k]?
theorem But2.refl (w : World) (p q : Option Nat) : But2 w w p q := ⟨rfl, rfl, rfl, Nat.le_refl _, fun _ _ _ _ => rfl⟩
theorem But2.grow {w w' w'' : World} {p q : Option Nat} (h : But2 w w' p q) (hg : Grow w' w'') : But2 w w'' p q :=
  ⟨hg.below.os.trans h.os, hg.below.tape.trans h.tape, hg.below.output.trans h.output, Nat.le_trans h.size hg.size, fun k hk h1 h2 => (Below.block hg k (Nat.lt_of_lt_of_le hk h.size)).trans (h.block k hk h1 h2)⟩
theorem But2.by {w w' w'' : World} {p q r : Option Nat} (h : But2 w w' p q) (hg : w'.grownBy w'' r) (hr : ∀ k, r = some k → w.heap.size ≤ k ∨ p = some k ∨ q = some k) : But2 w w'' p q :=
  ⟨hg.os.trans h.os, hg.tape.trans h.tape, hg.output.trans h.output, Nat.le_trans h.size hg.size, fun k hk h1 h2 => (hg.block k (Nat.lt_of_lt_of_le hk h.size) (fun e => by
    rcases hr k e.symm with h3 | h3 | h3
    · omega
    · exact h1 h3.symm
    · exact h2 h3.symm)).trans (h.block k hk h1 h2)⟩
theorem But2.cell {w w' : World} {p q : Option Nat} (h : But2 w w' p q) {b : Nat} (hb : b < w.heap.size) (h1 : some b ≠ p) (h2 : some b ≠ q) (o : Nat) : w'.cell? ⟨b, o, none⟩ = w.cell? ⟨b, o, none⟩ := World.cell?_of_block (h.block b hb h1 h2)
theorem But2.free {w w' : World} {p q : Option Nat} (h : But2 w w' p q) {b : Nat} (hb : b < w.heap.size) (h1 : some b ≠ p) (h2 : some b ≠ q) (o : Nat) : w'.frozen? ⟨b, o, none⟩ = w.frozen? ⟨b, o, none⟩ := World.frozen?_of_block (h.block b hb h1 h2)
theorem But2.up {w0 w w' : World} {p q : Option Nat} (h : But2 w w' p q) (hg : Grow w0 w) (hp : ∀ k, p = some k → w0.heap.size ≤ k) (hq : ∀ k, q = some k → w0.heap.size ≤ k) : Grow w0 w' :=
  ⟨h.os.trans hg.below.os, h.tape.trans hg.below.tape, h.output.trans hg.below.output, Nat.le_trans hg.size h.size, fun k hk =>
    (h.block k (Nat.lt_of_lt_of_le hk hg.size) (fun e => by have := hp k e.symm; omega) (fun e => by have := hq k e.symm; omega)).trans (Below.block hg k hk)⟩
/-- A sum in memory of the call's own: two rows in different blocks. -/
def SumOwn (w : World) (base : Nat) (cv tv : Value) (cs : List C2) (ts : List Int) : Prop :=
  OwnCusps w base cv cs ∧ OwnInts w base tv ts ∧ cs.length = ts.length ∧ ∀ k, cv.ownBlock = some k → tv.ownBlock ≠ some k
end Go.Proofs.Ytalidpojcpmcbaa
