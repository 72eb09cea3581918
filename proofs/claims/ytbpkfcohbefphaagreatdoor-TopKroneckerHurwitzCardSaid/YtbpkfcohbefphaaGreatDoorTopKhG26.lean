/- Lemmas, plain laws and walks that the statement LwKronecker leans on (texts BnD), conditions as each theorem says. -/
import Derived.RangeFuncNested
import Derived.RangeFuncBound
import Derived.RangeFuncCalls
import Derived.RangeFuncLeaves
import Derived.Shelf.Abstract
import Derived.Shelf.RegionOpen
import Derived.WalkKit
import Derived.OwnWalkIn
import Derived.TacticsInMore
import Derived.LoopNIn
import Derived.LoopIn
import Derived.Test.YtbpkfcohbefphaaGreatDoorTopKhG25

namespace Go.Proofs.YtbpkfcohbefphaaGreatDoor
open Go Go.RowKit Go.Shelf
/-- slices.Backward(s): the slice value is boxed; the function value captures the box. -/
theorem backQ (a : Option Addr) (len cap : Nat) (w : World) :
    Calls Tryz.prog 97 #[.slice a len cap] w fun e w' => e = .returned (.func (.func 118) #[] #[.pointer (some ⟨w.heap.size, 0, none⟩)]) ∧ w' = w.alloc (.cells #[.slice a len cap] 87) := by
  have hmf : ∀ (fn : Fn) (first cap : Array Value) (w : World), (Instr.makeFunc fn first cap).run Tryz.prog w = .ok (.func fn first cap) w := fun _ _ _ _ => rfl
  go_enter Tryz.func97, Tryz.ntmps97
  go_wp2_with fail
  go_ret
  exact ⟨rfl, rfl⟩
attribute [local go_sem] Oper.semAt_some
/-- What a round keeps: all blocks below M but X. -/
def KpX (M X : Nat) (W W' : World) : Prop := W.heap.size ≤ W'.heap.size ∧ ∀ k, k < M → k ≠ X → W'.heap[k]? = W.heap[k]?
theorem KpX.trans {M X : Nat} {A B C : World} (h : KpX M X A B) (h' : KpX M X B C) : KpX M X A C := ⟨Nat.le_trans h.1 h'.1, fun k hk hx => (h'.2 k hk hx).trans (h.2 k hk hx)⟩
/-- The parts of a fraction's value. -/
structure RV where
  s : Bool
  a : Option Addr
  l : Nat
  c : Nat
  t : Bool
  b : Option Addr
  k : Nat
  e : Nat
def RV.val (r : RV) : Value := .agg #[.bool r.s, .slice r.a r.l r.c, .bool r.t, .slice r.b r.k r.e]
/-- What the loop hands to the body in its round. -/
def evI (r : Fin 2 → RV) (i : Fin 2) : Array Value := #[.int .i64 (i.val : Int), (r i).val]
set_option maxRecDepth 100000 in
set_option maxHeartbeats 4000000 in
theorem back1_in (F : Fence) (n : Nat) (h118 : F.fn 118) (hro : F.round = none) (hn : 1 ≤ n) (l Bs g cap M X : Nat) (r : Fin 2 → RV) (hg : g < M) (hgX : g ≠ X) (hB : Bs < M) (hBX : Bs ≠ X) (J Jx : List (Fin 2) → World → Prop)
    (hY : ∀ pre x W, J pre W → pre.length < 2 → YieldAt F (n - 1) Tryz.prog l (evI r x) W fun e W' =>
      (e = .returned (.bool true) ∧ J (pre ++ [x]) W' ∧ KpX M X W W') ∨ (e = .returned (.bool false) ∧ Jx (pre ++ [x]) W'))
    (W : World) (hBs : W.cell? ⟨Bs, 0, none⟩ = some (.slice (some ⟨g, 0, none⟩) 2 cap))
    (p0 : W.cell? ⟨g, 0, none⟩ = some (.bool (r 0).s)) (p1 : W.cell? ⟨g, 1, none⟩ = some (.slice (r 0).a (r 0).l (r 0).c)) (p2 : W.cell? ⟨g, 2, none⟩ = some (.bool (r 0).t)) (p3 : W.cell? ⟨g, 3, none⟩ = some (.slice (r 0).b (r 0).k (r 0).e))
    (p4 : W.cell? ⟨g, 4, none⟩ = some (.bool (r 1).s)) (p5 : W.cell? ⟨g, 5, none⟩ = some (.slice (r 1).a (r 1).l (r 1).c)) (p6 : W.cell? ⟨g, 6, none⟩ = some (.bool (r 1).t)) (p7 : W.cell? ⟨g, 7, none⟩ = some (.slice (r 1).b (r 1).k (r 1).e)) (h0 : J [] W) :
    CallsIn F n Tryz.prog 118 #[.func (.yield l) #[] #[], .pointer (some ⟨Bs, 0, none⟩)] W fun e W' => (∃ v, e = .returned v) ∧
      ((∃ ys, ys = [1, 0] ∧ J ys W') ∨ (∃ pre, Jx pre W')) := by
  have KC : ∀ W', KpX M X W W' → W'.cell? ⟨Bs, 0, none⟩ = some (.slice (some ⟨g, 0, none⟩) 2 cap) ∧ (W'.cell? ⟨g, 0, none⟩ = some (.bool (r 0).s) ∧ W'.cell? ⟨g, 1, none⟩ = some (.slice (r 0).a (r 0).l (r 0).c) ∧ W'.cell? ⟨g, 2, none⟩ = some (.bool (r 0).t) ∧ W'.cell? ⟨g, 3, none⟩ = some (.slice (r 0).b (r 0).k (r 0).e)) ∧ W'.cell? ⟨g, 4, none⟩ = some (.bool (r 1).s) ∧ W'.cell? ⟨g, 5, none⟩ = some (.slice (r 1).a (r 1).l (r 1).c) ∧ W'.cell? ⟨g, 6, none⟩ = some (.bool (r 1).t) ∧ W'.cell? ⟨g, 7, none⟩ = some (.slice (r 1).b (r 1).k (r 1).e) := fun W' hk => by
    have e1 : ∀ o, W'.cell? ⟨g, o, none⟩ = W.cell? ⟨g, o, none⟩ := fun o => World.cell?_of_block (hk.2 g hg hgX)
    have e2 : ∀ o, W'.cell? ⟨Bs, o, none⟩ = W.cell? ⟨Bs, o, none⟩ := fun o => World.cell?_of_block (hk.2 Bs hB hBX)
    exact ⟨(e2 0).trans hBs, ⟨(e1 0).trans p0, (e1 1).trans p1, (e1 2).trans p2, (e1 3).trans p3⟩, (e1 4).trans p4, (e1 5).trans p5, (e1 6).trans p6, (e1 7).trans p7⟩
  have HKC := Lib.hid KC
  have hKr : KpX M X W W := ⟨Nat.le_refl _, fun _ _ _ => rfl⟩
  clear KC p0 p1 p2 p3 p4 p5 p6 p7
  refine callsIn_of_wp Tryz.func118 rfl h118 ?_ hro
  simp only [Tryz.ntmps118, List.size_toArray, List.length_cons, List.length_nil, Nat.reduceAdd, Nat.reduceSub, Array.replicate_succ, Array.replicate_zero, List.push_toArray, List.append_toArray, List.nil_append, List.cons_append]
  gi_wp2
  gi_loopw [3] (fun i wr => (i = .int .i64 1 ∧ J [] wr ∧ KpX M X W wr) ∨ (i = .int .i64 0 ∧ J [1] wr ∧ KpX M X W wr) ∨ (i = .int .i64 (-1) ∧ J [1, 0] wr ∧ KpX M X W wr))
    (fun i _ => (intOf i + 1).toNat)
  case atStart => exact .inl ⟨rfl, h0, hKr⟩
  case round =>
    rcases hrel with ⟨rfl, hJs, hk⟩ | ⟨rfl, hJs, hk⟩ | ⟨rfl, hJs, hk⟩
    · obtain ⟨q, -, x4, x5, x6, x7⟩ := HKC.out wr hk
      obtain ⟨fn, tmps, assign, body, hy, hR⟩ := hY [] 1 wr hJs (by simp)
      have hy' : (Instr.yield l #[.int .i64 1, .agg #[.bool (r 1).s, .slice (r 1).a (r 1).l (r 1).c, .bool (r 1).t, .slice (r 1).b (r 1).k (r 1).e]]).run Tryz.prog wr = .ok (.round l fn tmps assign body) wr := hy
      clear hy
      gi_wp2
      refine hR.mono ?_
      rintro e W3 (⟨rfl, hJ3, hk3⟩ | ⟨rfl, hJx3⟩)
      · gi_wp2
        go_roundw
        case rel => exact .inr (.inl ⟨rfl, hJ3, hk.trans hk3⟩)
        case measure => simp [intOf]
      · gi_wp2
        refine bodyPost_ret (results_none rfl _ _ _) rfl ?_
        exact ⟨⟨_, rfl⟩, .inr ⟨_, hJx3⟩⟩
    · obtain ⟨q, ⟨x0, x1, x2, x3⟩, -⟩ := HKC.out wr hk
      obtain ⟨fn, tmps, assign, body, hy, hR⟩ := hY [1] 0 wr hJs (by simp)
      have hy' : (Instr.yield l #[.int .i64 0, .agg #[.bool (r 0).s, .slice (r 0).a (r 0).l (r 0).c, .bool (r 0).t, .slice (r 0).b (r 0).k (r 0).e]]).run Tryz.prog wr = .ok (.round l fn tmps assign body) wr := hy
      clear hy
      gi_wp2
      refine hR.mono ?_
      rintro e W3 (⟨rfl, hJ3, hk3⟩ | ⟨rfl, hJx3⟩)
      · gi_wp2
        go_roundw
        case rel => exact .inr (.inr ⟨rfl, hJ3, hk.trans hk3⟩)
        case measure => simp [intOf]
      · gi_wp2
        refine bodyPost_ret (results_none rfl _ _ _) rfl ?_
        exact ⟨⟨_, rfl⟩, .inr ⟨_, hJx3⟩⟩
    · gi_wp2
      go_end0
      exact ⟨⟨_, rfl⟩, .inl ⟨_, rfl, hJs⟩⟩
theorem back_stops (n : Nat) (hn : 1 ≤ n) (Bs g cap M X : Nat) (r : Fin 2 → RV) (hg : g < M) (hgX : g ≠ X) (hB : Bs < M) (hBX : Bs ≠ X) (w0 : World) (hM : M = w0.heap.size) (hBs : w0.cell? ⟨Bs, 0, none⟩ = some (.slice (some ⟨g, 0, none⟩) 2 cap))
    (p0 : w0.cell? ⟨g, 0, none⟩ = some (.bool (r 0).s)) (p1 : w0.cell? ⟨g, 1, none⟩ = some (.slice (r 0).a (r 0).l (r 0).c)) (p2 : w0.cell? ⟨g, 2, none⟩ = some (.bool (r 0).t)) (p3 : w0.cell? ⟨g, 3, none⟩ = some (.slice (r 0).b (r 0).k (r 0).e))
    (p4 : w0.cell? ⟨g, 4, none⟩ = some (.bool (r 1).s)) (p5 : w0.cell? ⟨g, 5, none⟩ = some (.slice (r 1).a (r 1).l (r 1).c)) (p6 : w0.cell? ⟨g, 6, none⟩ = some (.bool (r 1).t)) (p7 : w0.cell? ⟨g, 7, none⟩ = some (.slice (r 1).b (r 1).k (r 1).e)) :
    SeqStopsK Fence.wide n Tryz.prog 118 #[.pointer (some ⟨Bs, 0, none⟩)] (evI r) (KpX M X) (fun ys => ys = [1, 0]) (fun _ => True) 2 w0 := fun l J Jx W hW _ _ hY h0 => by
  have e1 : ∀ o, W.cell? ⟨g, o, none⟩ = w0.cell? ⟨g, o, none⟩ := fun o => World.cell?_of_block (hW.block g (by omega))
  have e2 : ∀ o, W.cell? ⟨Bs, o, none⟩ = w0.cell? ⟨Bs, o, none⟩ := fun o => World.cell?_of_block (hW.block Bs (by omega))
  refine (back1_in Fence.wide n trivial rfl hn l Bs g cap M X r hg hgX hB hBX J Jx hY W ((e2 0).trans hBs) ((e1 0).trans p0) ((e1 1).trans p1) ((e1 2).trans p2) ((e1 3).trans p3) ((e1 4).trans p4) ((e1 5).trans p5) ((e1 6).trans p6) ((e1 7).trans p7) h0).mono ?_
  rintro e W' ⟨he, h | ⟨pre, h⟩⟩
  · exact ⟨he, .inl h⟩
  · exact ⟨he, .inr ⟨pre, trivial, h⟩⟩
end Go.Proofs.YtbpkfcohbefphaaGreatDoor
