/- The map of marks: what its block reads as, and the steps on it. -/
import Derived.Test.YtalidpojcpmcbaaProg
import Derived.Test.YtalidpojcpmcbaaHbU
import Derived.Test.YtalidpojcpmcbaaPlW
import Derived.Lib.Hide
import Derived.Maps.RangeWalk
import Derived.WideKeyEntry
import Derived.DeepKeys4
namespace Go.Proofs.Ytalidpojcpmcbaa
open Go Go.RowKit

theorem c48 : Try.prog.cellsOf 48 = 3 := by kernel_rfl
theorem c52 : Try.prog.cellsOf 52 = 5 := by kernel_rfl
theorem c3 : Try.prog.cellsOf 3 = 1 := by kernel_rfl
theorem tsz : ∃ n, Try.prog.types.size = n + 2 :=
  have h : 2 ≤ Try.prog.types.size := of_decide_eq_true (by kernel_rfl)
  ⟨Try.prog.types.size - 2, by omega⟩
theorem kt52 : Try.prog.keyType 52 = true := by kernel_rfl
theorem lits3 (n : Nat) (x : Int) (h : (Lit.int .i64 x).wf = true) : Try.prog.keyLits (n + 1) 3 [.int .i64 x] = some [.int .i64 x] := by
  simp [Program.keyLits, Try.underlying3, h]
theorem lits48 (n : Nat) (x y z : Int) (h1 : (Lit.int .i64 x).wf = true) (h2 : (Lit.int .i64 y).wf = true) (h3 : (Lit.int .i64 z).wf = true) : Try.prog.keyLits (n + 2) 48 [.int .i64 x, .int .i64 y, .int .i64 z] = some [.int .i64 x, .int .i64 y, .int .i64 z] := by
  unfold Program.keyLits
  rw [Try.underlying48]
  simp [c48, c3, lits3, h1, h2, h3]
theorem key_ok (x y z p q : Int) (h1 : (Lit.int .i64 x).wf = true) (h2 : (Lit.int .i64 y).wf = true) (h3 : (Lit.int .i64 z).wf = true) (h4 : (Lit.int .i64 p).wf = true) (h5 : (Lit.int .i64 q).wf = true) :
    ∃ l, keyOf Try.prog 52 (.agg #[.int .i64 x, .int .i64 y, .int .i64 z, .int .i64 p, .int .i64 q]) = some l := by
  obtain ⟨n, hn⟩ := tsz
  have : Try.prog.keyLits (n + 2 + 1) 52 [.int .i64 x, .int .i64 y, .int .i64 z, .int .i64 p, .int .i64 q] = some [.int .i64 x, .int .i64 y, .int .i64 z, .int .i64 p, .int .i64 q] := by
    unfold Program.keyLits
    rw [Try.underlying52]
    simp [c48, c52, c3, lits3, lits48, h1, h2, h3, h4, h5]
  refine ⟨.string (keyBytes [.int .i64 x, .int .i64 y, .int .i64 z, .int .i64 p, .int .i64 q]), ?_⟩
  unfold keyOf
  simp only [Try.underlying52, kt52, hn, Value.cells]
  simp [this, Value.formed, Try.underlying52, c52]
theorem lits3_inv (n : Nat) (v : Value) (l : List Lit) (h : Try.prog.keyLits (n + 1) 3 [v] = some l) : ∃ x, v = .int .i64 x ∧ (Lit.int .i64 x).wf = true := by
  cases v <;> simp [Program.keyLits, Try.underlying3] at h
  obtain ⟨⟨rfl, h2⟩, -⟩ := h
  exact ⟨_, rfl, h2⟩
theorem lits48_inv (n : Nat) (u v t : Value) (l : List Lit) (h : Try.prog.keyLits (n + 2) 48 [u, v, t] = some l) :
    ∃ x y z, u = .int .i64 x ∧ v = .int .i64 y ∧ t = .int .i64 z ∧ (Lit.int .i64 x).wf = true ∧ (Lit.int .i64 y).wf = true ∧ (Lit.int .i64 z).wf = true := by
  unfold Program.keyLits at h
  rw [Try.underlying48] at h
  simp [c48, c3] at h
  have h1 := h
  cases a : Try.prog.keyLits (n + 1) 3 [u] with
  | none => simp [a] at h1
  | some a0 => 
    cases b : Try.prog.keyLits (n + 1) 3 [v] with
    | none => simp [a, b] at h1
    | some b0 => 
      cases c : Try.prog.keyLits (n + 1) 3 [t] with
      | none => simp [a, b, c] at h1
      | some c0 =>
        obtain ⟨x, e1, f1⟩ := lits3_inv _ _ _ a
        obtain ⟨y, e2, f2⟩ := lits3_inv _ _ _ b
        obtain ⟨z, e3, f3⟩ := lits3_inv _ _ _ c
        exact ⟨x, y, z, e1, e2, e3, f1, f2, f3⟩
theorem key_inv (key : Value) (l : Lit) (h : keyOf Try.prog 52 key = some l) :
    ∃ x y z p q, key = .agg #[.int .i64 x, .int .i64 y, .int .i64 z, .int .i64 p, .int .i64 q] ∧ (Lit.int .i64 x).wf = true ∧ (Lit.int .i64 y).wf = true ∧ (Lit.int .i64 z).wf = true ∧ (Lit.int .i64 p).wf = true ∧ (Lit.int .i64 q).wf = true := by
  obtain ⟨n, hn⟩ := tsz
  unfold keyOf at h
  simp only [Try.underlying52, kt52, hn] at h
  cases key with
  | agg cs =>
    simp [Value.formed, Try.underlying52, c52, Value.cells] at h
    obtain ⟨hs, r, hr, -⟩ := h
    obtain ⟨cl⟩ := cs
    simp only [List.size_toArray] at hs
    match cl, hs with
    | [v1, v2, v3, v4, v5], _ =>
      unfold Program.keyLits at hr
      rw [Try.underlying52] at hr
      simp [c52, c48, c3] at hr
      have h1 := hr
      cases a : Try.prog.keyLits (n + 2) 48 [v1, v2, v3] with
      | none => simp [a] at h1
      | some a0 =>
        cases b : Try.prog.keyLits (n + 2) 3 [v4] with
        | none => simp [a, b] at h1
        | some b0 =>
          cases c : Try.prog.keyLits (n + 2) 3 [v5] with
          | none => simp [a, b, c] at h1
          | some c0 =>
            obtain ⟨x, y, z, rfl, rfl, rfl, f1, f2, f3⟩ := lits48_inv _ _ _ _ _ a
            obtain ⟨p, rfl, f4⟩ := lits3_inv _ _ _ b
            obtain ⟨q, rfl, f5⟩ := lits3_inv _ _ _ c
            exact ⟨x, y, z, p, q, rfl, f1, f2, f3, f4, f5⟩
  | _ => simp [Value.formed, Try.underlying52] at h
theorem kt52' : Try.prog.keyTypeAt 3 52 = true := by kernel_rfl
theorem laid : laidOutB Try.prog = true := by kernel_rfl
theorem law52 : WideMaps.KeyLaw Try.prog 52 := deep_law_laid (m := 3) laid (by decide) (of_decide_eq_true (by kernel_rfl)) kt52' (by kernel_rfl)
theorem key52 : Maps.Keyed Try.prog 52 := Maps.Keyed.of_law law52

instance : DecidableEq K3 := fun x y => decidable_of_iff (x.a = y.a ∧ x.b = y.b ∧ x.d = y.d) (by cases x; cases y; simp)
instance : DecidableEq C2 := fun x y => decidable_of_iff (x.p = y.p ∧ x.q = y.q) (by cases x; cases y; simp)
def keyV (k : K3) (c : C2) : Value := .agg #[.int .i64 k.a, .int .i64 k.b, .int .i64 k.d, .int .i64 c.p, .int .i64 c.q]
def inK (k : K3) (c : C2) : Prop := (Lit.int .i64 k.a).wf = true ∧ (Lit.int .i64 k.b).wf = true ∧ (Lit.int .i64 k.d).wf = true ∧ (Lit.int .i64 c.p).wf = true ∧ (Lit.int .i64 c.q).wf = true
theorem keyV_inj {k k' : K3} {c c' : C2} (h : keyV k c = keyV k' c') : k = k' ∧ c = c' := by
  cases k; cases k'; cases c; cases c'
  simp [keyV] at h ⊢
  omega
/-- Block B is the map whose entry at each key is T's, or there is none where T is 0. -/
def MapT (w : World) (B n : Nat) (T : K3 → C2 → Int) : Prop :=
  ∃ es clock, w.heap[B]? = some (.map es clock) ∧ WideElems.Fit Try.prog 52 (plainElem (H := Unit) Try.prog 3) es clock ∧ es.size ≤ n ∧
    (∀ x ∈ es.toList, ∃ k c, x.key = keyV k c ∧ x.val = .int .i64 (T k c)) ∧ ∀ k c, (∀ x ∈ es.toList, x.key ≠ keyV k c) → T k c = 0
def bump (T : K3 → C2 → Int) (k0 : K3) (c0 : C2) (z : Int) : K3 → C2 → Int := fun k c => if k = k0 ∧ c = c0 then z else T k c
theorem MapT.lt {w : World} {B n : Nat} {T : K3 → C2 → Int} (h : MapT w B n T) : B < w.heap.size := by
  obtain ⟨es, clock, hb, _⟩ := h
  exact (Array.getElem?_eq_some_iff.1 hb).1
theorem MapT.at {w w' : World} {B n : Nat} {T : K3 → C2 → Int} (h : MapT w B n T) (hb : w'.heap[B]? = w.heap[B]?) : MapT w' B n T := by
  obtain ⟨es, clock, hb', r⟩ := h
  exact ⟨es, clock, hb.trans hb', r⟩
theorem MapT.grow {w w' : World} {B n : Nat} {T : K3 → C2 → Int} (h : MapT w B n T) (hg : Grow w w') : MapT w' B n T := h.at (Below.block hg B h.lt)
theorem MapT.made (w : World) : MapT (w.alloc (.map #[] 0)) w.heap.size 0 (fun _ _ => 0) :=
  ⟨#[], 0, (MapKept.heap_alloc w _).1, ⟨by simp, MapKept.stamped_empty 0, by simp⟩, Nat.le_refl _, by simp, fun _ _ _ => rfl⟩

section
open Go.ChangeMaps Go.WideElems
theorem put_new {es : Array MapEntry} {T : K3 → C2 → Int} {k : K3} {c : C2} {z : Int} {clock : Nat} (h2 : ∀ x ∈ es.toList, x.key ≠ keyV k c)
    (g1 : ∀ x ∈ es.toList, ∃ k c, x.key = keyV k c ∧ x.val = .int .i64 (T k c)) (g2 : ∀ k c, (∀ x ∈ es.toList, x.key ≠ keyV k c) → T k c = 0) :
    (∀ x ∈ (es.push ⟨keyV k c, .int .i64 z, clock⟩).toList, ∃ k' c', x.key = keyV k' c' ∧ x.val = .int .i64 (bump T k c z k' c')) ∧
      ∀ k' c', (∀ x ∈ (es.push ⟨keyV k c, .int .i64 z, clock⟩).toList, x.key ≠ keyV k' c') → bump T k c z k' c' = 0 := by
  constructor
  · intro x hx
    simp only [Array.toList_push, List.mem_append, List.mem_singleton] at hx
    rcases hx with hx | rfl
    · obtain ⟨k', c', e1, e2⟩ := g1 x hx
      refine ⟨k', c', e1, ?_⟩
      have : ¬ (k' = k ∧ c' = c) := fun h => h2 x hx (by rw [e1, h.1, h.2])
      simp [bump, this, e2]
    · exact ⟨k, c, rfl, by simp [bump]⟩
  · intro k' c' h
    have h3 : ¬ (k' = k ∧ c' = c) := fun e => h ⟨keyV k c, .int .i64 z, clock⟩ (by simp) (by rw [e.1, e.2])
    have h4 := g2 k' c' (fun x hx => h x (by simp [hx]))
    simp [bump, h3, h4]
theorem put_old {es : Array MapEntry} {T : K3 → C2 → Int} {k : K3} {c : C2} {z : Int} {j : Nat} {e0 : MapEntry} {clock : Nat} (F : Fit Try.prog 52 (plainElem (H := Unit) Try.prog 3) es clock) (hj : es.toList[j]? = some e0) (h3 : e0.key = keyV k c)
    (g1 : ∀ x ∈ es.toList, ∃ k c, x.key = keyV k c ∧ x.val = .int .i64 (T k c)) (g2 : ∀ k c, (∀ x ∈ es.toList, x.key ≠ keyV k c) → T k c = 0) :
    (∀ x ∈ (es.modify j (fun e' => { e' with key := keyV k c, val := .int .i64 z })).toList, ∃ k' c', x.key = keyV k' c' ∧ x.val = .int .i64 (bump T k c z k' c')) ∧
      ∀ k' c', (∀ x ∈ (es.modify j (fun e' => { e' with key := keyV k c, val := .int .i64 z })).toList, x.key ≠ keyV k' c') → bump T k c z k' c' = 0 := by
  have hm : (es.modify j (fun e' => { e' with key := keyV k c, val := .int .i64 z })).toList = es.toList.set j { e0 with key := keyV k c, val := .int .i64 z } := by
    rw [Array.toList_modify, modify_eq_set _ _ _ _ hj]
  have hlt : j < es.toList.length := (List.getElem?_eq_some_iff.1 hj).1
  rw [hm]
  constructor
  · intro x hx
    obtain ⟨i, hi⟩ := List.getElem?_of_mem hx
    by_cases hij : j = i
    · subst hij
      rw [List.getElem?_set_self hlt] at hi
      cases hi
      exact ⟨k, c, rfl, by simp [bump]⟩
    · rw [List.getElem?_set_ne hij] at hi
      have hne := other_key F hj hi (fun e => hij e.symm)
      obtain ⟨k', c', e1, e2⟩ := g1 x (List.mem_of_getElem? hi)
      refine ⟨k', c', e1, ?_⟩
      have : ¬ (k' = k ∧ c' = c) := fun h => hne (by rw [e1, h.1, h.2, h3])
      simp [bump, this, e2]
  · intro k' c' h
    have h4 : ¬ (k' = k ∧ c' = c) := fun e => h { e0 with key := keyV k c, val := .int .i64 z } (List.mem_of_getElem? (List.getElem?_set_self hlt)) (by rw [e.1, e.2])
    have h5 := g2 k' c' (fun x hx e => by
      obtain ⟨i, hi⟩ := List.getElem?_of_mem hx
      by_cases hij : j = i
      · subst hij
        rw [hj] at hi
        cases hi
        rw [h3] at e
        have := keyV_inj e
        exact h4 ⟨this.1.symm, this.2.symm⟩
      · exact h x (List.mem_of_getElem? (by rw [List.getElem?_set_ne hij]; exact hi)) e)
    simp [bump, h4, h5]
theorem elem_int {z : Int} (hz : (Lit.int .i64 z).wf = true) : plainElem (H := Unit) Try.prog 3 (.int .i64 z) = some (.lit (.int .i64 z), []) := plainElem_int Try.underlying3 hz
/-- 'm[k] = z' as one step: what mapUpdate does to the block. -/
theorem map_put {w : World} {B n : Nat} {T : K3 → C2 → Int} {es : Array MapEntry} {clock : Nat} (hb : w.heap[B]? = some (.map es clock)) (F : Fit Try.prog 52 (plainElem (H := Unit) Try.prog 3) es clock) (hs : es.size ≤ n) (hn : n < 100000)
    (g1 : ∀ x ∈ es.toList, ∃ k c, x.key = keyV k c ∧ x.val = .int .i64 (T k c)) (g2 : ∀ k c, (∀ x ∈ es.toList, x.key ≠ keyV k c) → T k c = 0) {k : K3} {c : C2} (hk : inK k c) {z : Int} (hz : (Lit.int .i64 z).wf = true) :
    ((∀ x ∈ es.toList, x.key ≠ keyV k c) ∧ (Instr.findKey 52 (keyV k c) es.toList).run Try.prog w = .ok none w ∧ ∀ u : World, u.heap[B]? = some (.map (es.push ⟨keyV k c, .int .i64 z, clock⟩) (clock + 1)) → MapT u B (n + 1) (bump T k c z)) ∨
    ∃ j e0, (Instr.findKey 52 (keyV k c) es.toList).run Try.prog w = .ok (some (j, e0.val)) w ∧ es.toList[j]? = some e0 ∧ e0.key = keyV k c ∧ e0.val = .int .i64 (T k c) ∧
      ∀ u : World, u.heap[B]? = some (.map (es.modify j (fun e' => { e' with key := keyV k c, val := .int .i64 z })) clock) → MapT u B (n + 1) (bump T k c z) := by
  obtain ⟨kl, hkl⟩ := key_ok k.a k.b k.d c.p c.q hk.1 hk.2.1 hk.2.2.1 hk.2.2.2.1 hk.2.2.2.2
  change keyOf Try.prog 52 (keyV k c) = some kl at hkl
  have ht : Try.prog.underlying 45 = some (.map 52 3) := Try.underlying45
  obtain ⟨es', clock', hrun, F', -, -, -, -⟩ := Maps.fit_store (R' := plainElem (H := Unit) Try.prog 3) key52 ht hb F (Nat.lt_of_le_of_lt hs (Nat.lt_of_lt_of_le hn (by decide))) (fun _ _ _ _ h => h) hkl (elem_int hz)
  have heq : ∀ o, (setBlock w B o) = setBlock w B (.map es' clock') → o = .map es' clock' := fun o h => by
    have h1 := heap_setBlock_same hb o
    rw [h, heap_setBlock_same hb] at h1
    cases h1; rfl
  rcases law52.find w hkl es.toList F.keys with ⟨h1, h2⟩ | ⟨j, e0, h1, h2, h3⟩
  · refine .inl ⟨h2, h1, fun u hu => ?_⟩
    have hr : (Instr.mapUpdate 45 (.map (some B)) (keyV k c) (.int .i64 z)).run Try.prog w = .ok () (setBlock w B (.map (es.push ⟨keyV k c, .int .i64 z, clock⟩) (clock + 1))) := by
      simp [Instr.mapUpdate, run_underlying ht, MapKept.run_getObj_map hb, law52.check w false hkl, h1, MapKept.run_setObj_map _ hb, Result.andThen, setBlock]
    rw [hr] at hrun
    have e1 := heq _ (by injection hrun)
    injection e1 with e2 e3
    rw [← e2, ← e3] at F'
    obtain ⟨p1, p2⟩ := put_new (z := z) (clock := clock) h2 g1 g2
    exact ⟨_, _, hu, F', by simp; omega, p1, p2⟩
  · have hj : es[j]? = some e0 := by simpa using h2
    have hv : e0.val = .int .i64 (T k c) := by
      obtain ⟨k', c', a1, a2⟩ := g1 e0 (List.mem_of_getElem? h2)
      rw [h3] at a1
      obtain ⟨rfl, rfl⟩ := keyV_inj a1
      exact a2
    refine .inr ⟨j, e0, h1, h2, h3, hv, fun u hu => ?_⟩
    have hr : (Instr.mapUpdate 45 (.map (some B)) (keyV k c) (.int .i64 z)).run Try.prog w = .ok () (setBlock w B (.map (es.modify j (fun e' => { e' with key := keyV k c, val := .int .i64 z })) clock)) := by
      simp [Instr.mapUpdate, run_underlying ht, MapKept.run_getObj_map hb, law52.check w false hkl, h1, hj, h3, law52.stays w hkl, MapKept.run_setObj_map _ hb, Result.andThen, setBlock]
    rw [hr] at hrun
    have e1 := heq _ (by injection hrun)
    injection e1 with e2 e3
    rw [← e2, ← e3] at F'
    obtain ⟨p1, p2⟩ := put_old (z := z) F h2 h3 g1 g2
    exact ⟨_, _, hu, F', by simp; omega, p1, p2⟩
theorem map_look {w : World} {B n : Nat} {T : K3 → C2 → Int} (h : MapT w B n T) {k : K3} {c : C2} (hk : inK k c) :
    (Instr.lookup 45 (.map (some B)) (keyV k c) false).run Try.prog w = .ok (.int .i64 (T k c)) w := by
  obtain ⟨es, clock, hb, F, hs, g1, g2⟩ := h
  obtain ⟨kl, hkl⟩ := key_ok k.a k.b k.d c.p c.q hk.1 hk.2.1 hk.2.2.1 hk.2.2.2.1 hk.2.2.2.2
  change keyOf Try.prog 52 (keyV k c) = some kl at hkl
  have ht : Try.prog.underlying 45 = some (.map 52 3) := Try.underlying45
  rcases law52.find w hkl es.toList F.keys with ⟨h1, h2⟩ | ⟨j, e0, h1, h2, h3⟩
  · have hz := g2 k c h2
    simp [Instr.lookup, run_underlying ht, MapKept.run_getObj_map hb, law52.check w _ hkl, h1, Result.andThen, hz]
  · have hv : e0.val = .int .i64 (T k c) := by
      obtain ⟨k', c', a1, a2⟩ := g1 e0 (List.mem_of_getElem? h2)
      rw [h3] at a1
      obtain ⟨rfl, rfl⟩ := keyV_inj a1
      exact a2
    simp [Instr.lookup, run_underlying ht, MapKept.run_getObj_map hb, law52.check w _ hkl, h1, Result.andThen, hv]
theorem grown_set {w : World} {B : Nat} {es es' : Array MapEntry} {clock clock' : Nat} (hb : w.heap[B]? = some (.map es clock)) : w.grownBy (setBlock w B (.map es' clock')) (some B) :=
  ⟨rfl, rfl, rfl, by simp [setBlock], fun i _ hi => heap_setBlock_other hb _ (fun e => hi (by rw [e]))⟩
theorem bump_same {T : K3 → C2 → Int} {k : K3} {c : C2} {z : Int} : bump T k c z k c = z := by simp [bump]
theorem bump_bump {T : K3 → C2 → Int} {k : K3} {c : C2} {y z : Int} : bump (bump T k c y) k c z = bump T k c z := by
  funext k' c'
  by_cases h : k' = k ∧ c' = c <;> simp [bump, h]
/-- The four steps of 'm[k] op= x'. -/
theorem map_steps {w : World} {B n : Nat} {T : K3 → C2 → Int} (h : MapT w B n T) (hn : n < 99999) {k : K3} {c : C2} (hk : inK k c) {z : Int} (hz : (Lit.int .i64 z).wf = true) :
    ∃ (s : Value) (w2 w3 : World), (Instr.lookup 45 (.map (some B)) (keyV k c) false).run Try.prog w = .ok (.int .i64 (T k c)) w ∧
      (Instr.mapEntry 45 (.map (some B)) (keyV k c)).run Try.prog w = .ok (.tuple #[.int .i64 (T k c), s]) w2 ∧
      (Instr.lookup 45 (.map (some B)) (keyV k c) false).run Try.prog w2 = .ok (.int .i64 (T k c)) w2 ∧
      (Instr.entryStore 45 (.map (some B)) s (.int .i64 z)).run Try.prog w2 = .ok () w3 ∧ MapT w3 B (n + 1) (bump T k c z) ∧ w.grownBy w2 (some B) ∧ w.grownBy w3 (some B) := by
  have hl := map_look h hk
  obtain ⟨es, clock, hb, F, hs, g1, g2⟩ := h
  obtain ⟨kl, hkl⟩ := key_ok k.a k.b k.d c.p c.q hk.1 hk.2.1 hk.2.2.1 hk.2.2.2.1 hk.2.2.2.2
  change keyOf Try.prog 52 (keyV k c) = some kl at hkl
  have ht : Try.prog.underlying 45 = some (.map 52 3) := Try.underlying45
  obtain ⟨s1, s2, -⟩ := F.stamped
  rcases map_put hb F hs (by omega) g1 g2 hk (z := 0) (by decide) with ⟨a1, a2, a3⟩ | ⟨j, e0, a1, a2, a3, a4, -⟩
  · have hT : T k c = 0 := g2 k c a1
    have hM1 := a3 (setBlock w B (.map (es.push ⟨keyV k c, .int .i64 0, clock⟩) (clock + 1))) (heap_setBlock_same hb _)
    have hl2 := map_look hM1 hk
    rw [bump_same] at hl2
    refine ⟨goInt clock, setBlock w B (.map (es.push ⟨keyV k c, .int .i64 0, clock⟩) (clock + 1)), setBlock w B (.map (es.push ⟨keyV k c, .int .i64 z, clock⟩) (clock + 1)), hl, ?_, by rw [hT]; exact hl2, ?_, ?_, grown_set hb, grown_set hb⟩
    · simp [Instr.mapEntry, run_underlying ht, MapKept.run_getObj_map hb, law52.check w false hkl, a2, MapKept.run_setObj_map _ hb, Result.andThen, setBlock, hT]
    · have hidx : (es.push ⟨keyV k c, .int .i64 0, clock⟩).findIdx? (fun e => ((e.born : Nat) : Int) == ((clock : Nat) : Int)) = some es.size := by
        rw [findIdx_arr]
        have := findIdx_born (l := (es.push ⟨keyV k c, .int .i64 0, clock⟩).toList) (j := es.size) (e0 := ⟨keyV k c, .int .i64 0, clock⟩) (by
          simp only [Array.toList_push, List.map_append, List.map_cons, List.map_nil]
          refine List.nodup_append.2 ⟨s2, by simp, fun a ha c hc e1 => ?_⟩
          simp only [List.mem_singleton] at hc
          obtain ⟨x, hx, rfl⟩ := List.mem_map.1 ha
          have := s1 x hx
          omega) (by simp)
        exact this
      have hmod : (es.push ⟨keyV k c, .int .i64 0, clock⟩).modify es.size (fun e => { e with val := .int .i64 z }) = es.push ⟨keyV k c, .int .i64 z, clock⟩ := by
        apply Array.ext'
        rw [Array.toList_modify, Array.toList_push, Array.toList_push, ← Array.length_toList, modify_last]
      have hb2 := heap_setBlock_same hb (.map (es.push ⟨keyV k c, .int .i64 0, clock⟩) (clock + 1))
      simp [Instr.entryStore, MapKept.run_getObj_map hb2, asInt, asIntOf, goInt, hidx, hmod, MapKept.run_setObj_map _ hb2, Result.andThen]
      simp [setBlock]
    · rcases map_put hb F hs (by omega) g1 g2 hk hz with ⟨-, -, b3⟩ | ⟨j, e0, b1, b2, b3, -⟩
      · exact b3 _ (heap_setBlock_same hb _)
      · exact absurd b3 (a1 e0 (List.mem_of_getElem? b2))
  · have hj : es[j]? = some e0 := by simpa using a2
    have hsame : es.modify j (fun e => { e with key := keyV k c }) = es := by
      apply Array.ext'
      rw [Array.toList_modify, modify_eq_set _ _ _ _ a2]
      have : ({ e0 with key := keyV k c } : MapEntry) = e0 := by rw [← a3]
      rw [this]
      exact set_self _ _ _ a2
    have hww : setBlock w B (.map es clock) = w := by
      cases w
      simp only [setBlock, World.mk.injEq, and_true]
      apply Array.ext_getElem?
      intro i
      rw [Array.getElem?_setIfInBounds]
      by_cases hi : B = i
      · subst hi
        have hlt := (Array.getElem?_eq_some_iff.1 hb).1
        simp only [if_true, hlt]
        exact hb.symm
      · simp [hi]
    refine ⟨goInt e0.born, w, setBlock w B (.map (es.modify j (fun e' => { e' with key := keyV k c, val := .int .i64 z })) clock), hl, ?_, hl, ?_, ?_, ?_, grown_set hb⟩
    · simp [Instr.mapEntry, run_underlying ht, MapKept.run_getObj_map hb, law52.check w false hkl, a1, hj, a3, a4, law52.stays w hkl, hsame, MapKept.run_setObj_map _ hb, Result.andThen]
      exact hww
    · have hidx : es.findIdx? (fun e => ((e.born : Nat) : Int) == ((e0.born : Nat) : Int)) = some j := by
        rw [findIdx_arr]
        exact findIdx_born s2 a2
      have hmod : es.modify j (fun e => { e with val := .int .i64 z }) = es.modify j (fun e' => { e' with key := keyV k c, val := .int .i64 z }) := by
        apply Array.ext'
        rw [Array.toList_modify, Array.toList_modify, modify_eq_set _ _ _ _ a2, modify_eq_set _ _ _ _ a2, ← a3]
      simp [Instr.entryStore, MapKept.run_getObj_map hb, asInt, asIntOf, goInt, hidx, hmod, MapKept.run_setObj_map _ hb, Result.andThen, setBlock]
    · rcases map_put hb F hs (by omega) g1 g2 hk hz with ⟨b1, -, -⟩ | ⟨j', e0', b1, b2, b3, b4, b5⟩
      · exact absurd a3 (b1 e0 (List.mem_of_getElem? a2))
      · have : j' = j := by
          by_cases hjj : j' = j
          · exact hjj
          · exact absurd (b3.trans a3.symm) (other_key F a2 b2 hjj)
        subst this
        exact b5 _ (heap_setBlock_same hb _)
    · exact ⟨rfl, rfl, rfl, Nat.le_refl _, fun _ _ _ => rfl⟩
end
end Go.Proofs.Ytalidpojcpmcbaa
