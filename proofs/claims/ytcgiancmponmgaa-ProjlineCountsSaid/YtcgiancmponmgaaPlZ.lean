/- From a walk to a row: a law that answers true and leaves old memory alone. -/
import Derived.Test.YtcgiancmponmgaaRows
import Derived.Test.YtcgiancmponmgaaPlW
import Derived.WalkKit
import Derived.ProofKit
import Derived.Lib.SmallJoins
import Derived.OpenShut
namespace Go.Proofs.Ytcgiancmponmgaa
open Go.ChangeShapes Go.WideShapes Go.ChangeAt Go.RowKit Go.Joins

theorem own : ownKnob Try.prog.godebug = none := by kernel_rfl
theorem laidOut : laidOutB Try.prog = true := by kernel_rfl

theorem trodAll_stay {H : Type} {enc : TypeId × Value → H} {P : Program} (hl : laidOutB P = true) {W W' : World} (hb : Below W.heap.size W W') :
    ∀ (ts : List TypeId) (vs : List Value) (ds : List (DataW H)) (ps : List MemPlace), ts.all (fun t => P.readableRec t && decide (t < P.types.size)) = true →
      DataW.TrodAll enc P W 0 (fun _ => true) true ts vs ds ps → (∀ x ∈ ps, x.block < W.heap.size) → DataW.TrodAll enc P W' 0 (fun b => decide (b < W.heap.size)) true ts vs ds ps
  | [], [], [], ps, _, h, _ => h
  | t :: ts, v :: vs, d :: ds, ps, ht, h, hlt => by
    obtain ⟨p, q, h1, h2, rfl⟩ := h
    simp only [List.all_cons, Bool.and_eq_true, decide_eq_true_eq] at ht
    exact ⟨p, q, Below.trod hl ht.1.1 ht.1.2 h1 hb (fun x hx => hlt x (List.mem_append_left _ hx)),
      trodAll_stay hl hb ts vs ds q (by simpa using ht.2) h2 (fun x hx => hlt x (List.mem_append_right _ hx)), rfl⟩
  | [], _ :: _, _, _, _, h, _ => h.elim
  | [], [], _ :: _, _, _, h, _ => h.elim
  | _ :: _, [], _, _, _, h, _ => h.elim
  | _ :: _, _ :: _, [], _, _, h, _ => h.elim

theorem law_post {H : Type} {enc : TypeId × Value → H} {P : Program} {f : Func} {s : ChangeSpec} {W W' : World} {args : Array Value} {ds : List (DataW H)} {before : List MemPlace} (T : TypeId)
    (hr : f.resultTypes = #[T]) (hT : P.underlying T = some .bool) (hl : laidOutB P = true) (hts : f.params.toList.all (fun t => P.readableRec t && decide (t < P.types.size)) = true) (hv : s.vars = [])
    (hW : DataW.Whole enc P f.params.toList s.vars false W args.toList ds [] before) (hs : s.fn H (ds ++ []) = { results := [.lit (.bool true)], args := ds }) (hb : Below W.heap.size W W') :
    s.post enc P f false true false false W args (.bool true) W' := by
  have hW' := hW
  obtain ⟨p, q, hA, hV, rfl, _, _⟩ := hW
  rw [hv] at hV
  obtain ⟨_, rfl⟩ := trodVars_none hV
  have hlt : ∀ x ∈ p, x.block < W.heap.size := fun x hx => hW'.lt x (by simpa using hx)
  have h1 := trodAll_stay hl hb _ _ _ _ hts hA hlt
  refine ⟨ds, [], _, [], p, [], hW', ?_, ?_, ?_, hb.frame _, fun h => by cases h⟩
  · rw [hs, hr]
    exact trodAll_mk1 (shut_bool hT true)
  · rw [hs]
    exact h1
  · rw [hs, hv]
    exact rfl

theorem cells_mat : Try.prog.cellsOf 47 = 4 := by kernel_rfl
theorem open_mat {H : Type} {enc : TypeId × Value → H} {w : World} {r : Reach} {b0 : Nat} {v : Value} {d : DataW H} {p : List MemPlace} {base : Nat} {spare : Nat → Bool} {held : Bool}
    (hv : Value.okWide Try.prog w r b0 47 v) (h : DataW.Trod enc Try.prog w base spare held 47 v d p) : ∃ m : M2, v = .agg #[.int .i64 m.a, .int .i64 m.b, .int .i64 m.c, .int .i64 m.d] ∧
      (-9223372036854775808 ≤ m.a ∧ m.a ≤ 9223372036854775807) ∧ (-9223372036854775808 ≤ m.b ∧ m.b ≤ 9223372036854775807) ∧ (-9223372036854775808 ≤ m.c ∧ m.c ≤ 9223372036854775807) ∧ (-9223372036854775808 ≤ m.d ∧ m.d ≤ 9223372036854775807) := by
  obtain ⟨c0, c1, c2, c3, y0, y1, y2, y3, n, rfl, -, -, h0, h1, h2, h3⟩ := open_agg4 Try.underlying47 (by kernel_rfl) cells_mat hv h
  obtain ⟨a, e0, -, wa⟩ := DataW.trod_int Try.underlying3 h0
  obtain ⟨b, e1, -, wb⟩ := DataW.trod_int Try.underlying3 h1
  obtain ⟨c, e2, -, wc⟩ := DataW.trod_int Try.underlying3 h2
  obtain ⟨d, e3, -, wd⟩ := DataW.trod_int Try.underlying3 h3
  simp at e0 e1 e2 e3
  subst e0 e1 e2 e3

  exact ⟨⟨a, b, c, d⟩, rfl, bounds_i64 wa, bounds_i64 wb, bounds_i64 wc, bounds_i64 wd⟩
end Go.Proofs.Ytcgiancmponmgaa
