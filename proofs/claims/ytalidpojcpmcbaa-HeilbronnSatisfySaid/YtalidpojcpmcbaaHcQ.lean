/- The two rows of a sum while a cusp is added: what the appends do, as steps of a drawn region. -/
import Derived.Test.YtalidpojcpmcbaaHcP
import Derived.Test.YtalidpojcpmcbaaSlA
import Derived.Deep.QuietTactic
import Derived.BigQuiet
import Derived.Laws.StructEq
import Derived.Deep.Upon
import Derived.Maps.AppendAt
namespace Go.Proofs.Ytalidpojcpmcbaa
open Go Go.RowKit

@[go_sem] theorem eq_cusp (a b c d : Int) (w : World) : (Op.equalIn 10000 60 (.agg #[.int .i64 a, .int .i64 b]) (.agg #[.int .i64 c, .int .i64 d])).run Try.prog w = .ok (a == c && b == d) w := by
  have u3 := Try.underlying3
  have hS : Try.prog.underlying 60 = some (.struct (Try.prog.fieldsOf 60)) := by kernel_rfl
  rw [show (10000 : Nat) = 9999 + 1 from rfl, run_equalIn_struct w 9999 60 _ _ hS (by kernel_rfl)]
  simp only [Program.fieldsOf, Try.underlying60]
  go_simp
  by_cases h1 : a = c <;> by_cases h2 : b = d <;> simp [h1, h2]
theorem infoCu : (Try.prog.info? 60).map (fun i => (i.zero, i.size, i.bytes)) = some (some (.agg #[.int .i64 0, .int .i64 0]), 2, 16) := by kernel_rfl
theorem infoIn : (Try.prog.info? 3).map (fun i => (i.zero, i.size, i.bytes)) = some (some (.int .i64 0), 1, 8) := by kernel_rfl

/-- A sum's two rows, as they have become since the world w0. -/
structure St (w0 u : World) (base : Nat) (cv tv vc vt : Value) (xs : List C2) (ys : List Int) : Prop where
  oc : OwnCusps u base vc xs
  ot : OwnInts u base vt ys
  but : But2 w0 u cv.ownBlock tv.ownBlock
  bc : ∀ k, vc.ownBlock = some k → cv.ownBlock = some k ∨ w0.heap.size ≤ k
  bt : ∀ k, vt.ownBlock = some k → tv.ownBlock = some k ∨ w0.heap.size ≤ k
  ne : ∀ k, vc.ownBlock = some k → vt.ownBlock ≠ some k
theorem St.start {w : World} {base : Nat} {cv tv : Value} {cs : List C2} {ts : List Int} (h : SumOwn w base cv tv cs ts) : St w w base cv tv cv tv cs ts :=
  ⟨h.1, h.2.1, But2.refl _ _ _, fun _ h => .inl h, fun _ h => .inl h, h.2.2.2⟩
theorem St.grow {w0 u u' : World} {base : Nat} {cv tv vc vt : Value} {xs : List C2} {ys : List Int} (h : St w0 u base cv tv vc vt xs ys) (hg : Grow u u') : St w0 u' base cv tv vc vt xs ys :=
  ⟨h.oc.into hg, h.ot.into hg, h.but.grow hg, h.bc, h.bt, h.ne⟩
theorem St.sum {w0 u : World} {base : Nat} {cv tv vc vt : Value} {xs : List C2} {ys : List Int} (h : St w0 u base cv tv vc vt xs ys) (hl : xs.length = ys.length) : SumOwn u base vc vt xs ys := ⟨h.oc, h.ot, hl, h.ne⟩
theorem St.appC {w0 u u' : World} {base : Nat} {cv tv vt v' : Value} {xs xs' : List C2} {ys : List Int} (h : St w0 u base cv tv cv vt xs ys) (ho : OwnCusps u' base v' xs') (hg : u.grownBy u' cv.ownBlock) (hat : v'.ownBlock = cv.ownBlock ∨ v'.ownBlock = some u.heap.size) : St w0 u' base cv tv v' vt xs' ys := by
  have hz := h.but.size
  refine ⟨ho, own_other h.ot hg (fun k hk e => h.ne k e.symm hk), h.but.by hg (fun k hk => .inr (.inl hk)), ?_, h.bt, ?_⟩
  · intro k hk
    rcases hat with e | e
    · exact .inl (e ▸ hk)
    · rw [e] at hk; injection hk with hk; exact .inr (by omega)
  · intro k hk
    rcases hat with e | e
    · exact h.ne k (e ▸ hk)
    · rw [e] at hk; injection hk with hk
      intro h2
      have := (World.ownsRow.lt h.ot k h2).2
      omega
theorem St.appT {w0 u u' : World} {base : Nat} {cv tv vc v' : Value} {xs : List C2} {ys ys' : List Int} (h : St w0 u base cv tv vc tv xs ys) (ho : OwnInts u' base v' ys') (hg : u.grownBy u' tv.ownBlock) (hat : v'.ownBlock = tv.ownBlock ∨ v'.ownBlock = some u.heap.size) : St w0 u' base cv tv vc v' xs ys' := by
  have hz := h.but.size
  refine ⟨own_other h.oc hg (fun k hk e => h.ne k hk e.symm), ho, h.but.by hg (fun k hk => .inr (.inr hk)), h.bc, ?_, ?_⟩
  · intro k hk
    rcases hat with e | e
    · exact .inl (e ▸ hk)
    · rw [e] at hk; injection hk with hk; exact .inr (by omega)
  · intro k hk h2
    rcases hat with e | e
    · exact h.ne k hk (e ▸ h2)
    · rw [e] at h2; injection h2 with h2
      have := (World.ownsRow.lt h.oc k hk).2
      omega
theorem set_by2 (w : World) (B o : Nat) (u : Value) : w.grownBy (w.setCell ⟨B, o, none⟩ u) (some B) :=
  ⟨rfl, rfl, rfl, by simp [World.setCell], fun k _ hne => Below.heap_setCell _ _ _ _ (fun e => hne (by rw [e]))⟩
theorem St.setT {w0 u : World} {base g k : Nat} {cv tv vc : Value} {xs : List C2} {ys : List Int} (h : St w0 u base cv tv vc tv xs ys) (hv : tv.ownBlock = some g) (hk : k < ys.length) (x : Int) : St w0 (u.setCell ⟨g, k, none⟩ (.int .i64 x)) base cv tv vc tv xs (ys.set k x) :=
  ⟨own_put h.oc (fun j hj e => h.ne j hj (by rw [hv, e])) _, own_setI h.ot hv hk x, h.but.by (set_by2 _ _ _ _) (fun j hj => .inr (.inr (by rw [hv, hj]))), h.bc, h.bt, h.ne⟩
theorem St.put {w0 u : World} {base b : Nat} {cv tv vc vt : Value} {xs : List C2} {ys : List Int} (h : St w0 u base cv tv vc vt xs ys) (hb : w0.heap.size ≤ b) (h1 : ∀ k, vc.ownBlock = some k → k ≠ b) (h2 : ∀ k, vt.ownBlock = some k → k ≠ b) (o : Nat) (x : Value) : St w0 (u.setCell ⟨b, o, none⟩ x) base cv tv vc vt xs ys :=
  ⟨own_put h.oc h1 _, own_put h.ot h2 _, h.but.by (set_by2 _ _ _ _) (fun j hj => .inl (by injection hj with hj; omega)), h.bc, h.bt, h.ne⟩
/-- What an append leaves: blocks that are new since w0. -/
def Same (w0 u u' : World) : Prop := (∀ b o, w0.heap.size ≤ b → b < u.heap.size → u'.cell? ⟨b, o, none⟩ = u.cell? ⟨b, o, none⟩) ∧ (∀ b o, w0.heap.size ≤ b → b < u.heap.size → u'.frozen? ⟨b, o, none⟩ = u.frozen? ⟨b, o, none⟩) ∧ u.heap.size ≤ u'.heap.size
theorem same_of {w0 u u' : World} {r : Option Nat} (hg : u.grownBy u' r) (hr : ∀ k, r = some k → k < w0.heap.size) : Same w0 u u' := by
  have hk : ∀ b, w0.heap.size ≤ b → b < u.heap.size → u'.heap[b]? = u.heap[b]? := fun b h1 h2 => hg.block b h2 (fun e => by have := hr b e.symm; omega)
  exact ⟨fun b o h1 h2 => World.cell?_of_block (hk b h1 h2), fun b o h1 h2 => World.frozen?_of_block (hk b h1 h2), hg.size⟩
section
variable {P : Program}
theorem step_st_c {ops : Array Oper} {o : Oper} {a : Act} {w : World} {K : Act → World → Prop} {Q : Exit → Act → World → Prop} {E : Prop} (hgd : o.guard = none) (s x : Operand) (t : TypeId)
    (ho : o.op = .call { callee := .builtin .append, args := #[s, x], argTypes := #[t, t] }) (i : TypeInfo) (z : Value) (ht : P.underlying t = some (.slice 60)) (hi : P.info? 60 = some i) (hz : i.zero = some z) (hsize : i.size = 2) (hby : i.bytes = 16) (hzs : z.cells.size = 2)
    (w0 : World) (base : Nat) (cv tv vt : Value) (xs : List C2) (ys : List Int) (hb : base ≤ w0.heap.size) (hl : xs.length ≤ 100000) (hcv : ∀ k, cv.ownBlock = some k → k < w0.heap.size) (hs : a.eval s = cv) (b : Nat) (p q : Int) (hx : a.eval x = .slice (some ⟨b, 0, none⟩) 1 1)
    (hst : St w0 w base cv tv cv vt xs ys) (h0 : w.cell? ⟨b, 0, none⟩ = some (.int .i64 p)) (h1 : w.cell? ⟨b, 1, none⟩ = some (.int .i64 q))
    (h : ∀ v' w', St w0 w' base cv tv v' vt (xs ++ [⟨p, q⟩]) ys → Same w0 w w' → (∀ k, v'.ownBlock = some k → k < w0.heap.size ∨ w.heap.size ≤ k) → K (a.put o.dst v') w') :
    if Region.wanted o (yielded ops a.tmps) = true then Oper.wp P o a w K Q else E := by
  have hw : Region.wanted o (yielded ops a.tmps) = true := by simp [Region.wanted, hgd]
  rw [if_pos hw]
  have hz0 := hst.but.size
  obtain ⟨v', w', hrun, r1, r2, -, r4⟩ := run_append_own_at (P := P) (w := w) base t o.type 60 i z 2 16 ht hi hz hsize hby hzs (by omega) cv xs.length (cellsC xs) hst.oc ⟨b, 0, none⟩ 1 1 [.int .i64 p, .int .i64 q] rfl
    (fun j u hj => by
      rw [Addr.add_lit]
      match j, hj with
      | 0, hj => simp at hj; subst hj; exact h0
      | 1, hj => simp at hj; subst hj; exact h1) (two_oneCell _ _) (by unfold maxLen; omega) (by omega) (by omega)
  unfold Oper.wp
  simp [execOp, ho, resolve, invoke, builtin, hs, hx, hrun, Result.andThen]
  refine h v' w' (hst.appC ?_ r2 r4) (same_of r2 hcv) (fun k hk => by
    rcases r4 with e | e
    · exact .inl (hcv k (e ▸ hk))
    · rw [e] at hk; injection hk with hk; exact .inr (by omega))
  unfold OwnCusps
  rw [List.length_append, cellsC_append]
  exact r1
theorem step_st_t {ops : Array Oper} {o : Oper} {a : Act} {w : World} {K : Act → World → Prop} {Q : Exit → Act → World → Prop} {E : Prop} (hgd : o.guard = none) (s x : Operand) (t : TypeId)
    (ho : o.op = .call { callee := .builtin .append, args := #[s, x], argTypes := #[t, t] }) (i : TypeInfo) (z : Value) (ht : P.underlying t = some (.slice 3)) (hi : P.info? 3 = some i) (hz : i.zero = some z) (hsize : i.size = 1) (hby : i.bytes = 8) (hzs : z.cells.size = 1)
    (w0 : World) (base : Nat) (cv tv vc : Value) (xs : List C2) (ys : List Int) (hb : base ≤ w0.heap.size) (hl : ys.length ≤ 100000) (htv : ∀ k, tv.ownBlock = some k → k < w0.heap.size) (hs : a.eval s = tv) (b : Nat) (n : Int) (hx : a.eval x = .slice (some ⟨b, 0, none⟩) 1 1)
    (hst : St w0 w base cv tv vc tv xs ys) (h0 : w.cell? ⟨b, 0, none⟩ = some (.int .i64 n))
    (h : ∀ v' w', St w0 w' base cv tv vc v' xs (ys ++ [n]) → Same w0 w w' → (∀ k, v'.ownBlock = some k → k < w0.heap.size ∨ w.heap.size ≤ k) → K (a.put o.dst v') w') :
    if Region.wanted o (yielded ops a.tmps) = true then Oper.wp P o a w K Q else E := by
  have hw : Region.wanted o (yielded ops a.tmps) = true := by simp [Region.wanted, hgd]
  rw [if_pos hw]
  have hz0 := hst.but.size
  obtain ⟨v', w', hrun, r1, r2, -, r4⟩ := run_append_own_at (P := P) (w := w) base t o.type 3 i z 1 8 ht hi hz hsize hby hzs (by omega) tv ys.length (ys.map (Value.int .i64)) hst.ot ⟨b, 0, none⟩ 1 1 [.int .i64 n] rfl
    (fun j u hj => by
      rw [Addr.add_lit]
      match j, hj with
      | 0, hj => simp at hj; subst hj; exact h0) (one_oneCell _ _) (by unfold maxLen; omega) (by omega) (by omega)
  unfold Oper.wp
  simp [execOp, ho, resolve, invoke, builtin, hs, hx, hrun, Result.andThen]
  refine h v' w' (hst.appT ?_ r2 r4) (same_of r2 htv) (fun k hk => by
    rcases r4 with e | e
    · exact .inl (htv k (e ▸ hk))
    · rw [e] at hk; injection hk with hk; exact .inr (by omega))
  unfold OwnInts
  rw [List.length_append, List.map_append]
  exact r1
end
end Go.Proofs.Ytalidpojcpmcbaa
