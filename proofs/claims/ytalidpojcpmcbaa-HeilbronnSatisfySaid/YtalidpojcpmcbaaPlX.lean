/- append([]int{}, xs...): a copy of the caller's ints, whatever the caller's slice. -/
import Derived.Test.YtalidpojcpmcbaaPlW
import Derived.ArgAppend
import Derived.Deep.AppendLies
namespace Go.Proofs.Ytalidpojcpmcbaa
open Go Go.RowKit

section
variable {P : Program}
theorem run_append_copy {ty : TypeId} {t : TypeId} {i : TypeInfo} {z : Value} (ht : P.underlying t = some (.slice 3)) (hi : P.info? 3 = some i) (hz : i.zero = some z) (hsize : i.size = 1) (hby : i.bytes = 8) (hzs : z.cells.size = 1)
    (w : World) (g : Nat) (v : Value) (l : List Int) (hv : RdInts w v l) (hl : l.length ≤ 17592186044416) :
    ∃ v' w', (Builtin.append_ #[t, t] ty #[.slice (some ⟨g, 0, none⟩) 0 0, v]).run P w = .ok v' w' ∧ RdInts w' v' l ∧ Grow w w' := by
  have hnil : ∀ ao cap, ∃ w', (Builtin.append_ #[t, t] ty #[.slice (some ⟨g, 0, none⟩) 0 0, .slice ao 0 cap]).run P w = .ok (.slice (some ⟨g, 0, none⟩) 0 0) w' ∧ Grow w w' := by
    intro ao cap
    cases ao with
    | none =>
      refine ⟨w, ?_, Grow.refl w⟩
      simp [Builtin.append_, run_underlying ht, sizeOf, typeInfo, hi, Builtin.lenOf, Builtin.firstCells, storeCells, Result.andThen]
    | some a =>
      have h := run_append_room_cells (P := P) w t ty 3 i ht hi g 0 0 0 a 0 cap [] (by simp) (by intro j u h; simp at h) (by simp) (by omega) (by intro j h; simp at h) (by intro j h; simp at h)
      refine ⟨_, h, ?_⟩
      simp only [World.setCells]
      exact Grow.refl w
  rcases hv with ⟨a, cap, rfl, rfl⟩ | ⟨b, off, cap, rfl, hb, hc⟩
  · obtain ⟨w', h, hg⟩ := hnil a cap
    exact ⟨_, w', h, .inl ⟨_, _, rfl, rfl⟩, hg⟩
  · by_cases h0 : l.length = 0
    · obtain ⟨w', h, hg⟩ := hnil (some ⟨b, off, none⟩) cap
      rw [h0]
      exact ⟨_, w', h, .inl ⟨_, _, rfl, List.eq_nil_of_length_eq_zero h0⟩, hg⟩
    · obtain ⟨v', w', hr, ho, hg⟩ := run_append_arg_grows (P := P) w t ty 3 i z 1 8 ht hi hz hsize hby hzs (by omega) ⟨g, 0, none⟩ 0 0 [] rfl (by intro j u h; simp at h) ⟨b, off, none⟩ l.length cap (l.map (Value.int .i64)) (by simp)
        (by
          intro j u hj
          rw [Addr.add_lit]
          have hjl : j < l.length := by
            rcases Nat.lt_or_ge j l.length with h | h
            · exact h
            · rw [List.getElem?_eq_none (by simpa using h)] at hj; cases hj
          rw [hc j hjl]
          simp [hjl] at hj
          simp [hjl, hj]) (by omega) (by unfold maxLen; omega) (by omega)
      rw [Nat.zero_add, List.nil_append] at ho
      refine ⟨v', w', hr, OwnInts.rd (base := w.heap.size) ho, ?_⟩
      exact (Grow.refl w).grown hg (fun k hk => by cases hk)

theorem step_append_copy {ops : Array Oper} {o : Oper} {a : Act} {w : World} {K : Act → World → Prop} {Q : Exit → Act → World → Prop} {E : Prop} (hgd : o.guard = none) (s x : Operand) (t : TypeId)
    (ho : o.op = .call { callee := .builtin .append, args := #[s, x], argTypes := #[t, t] }) (i : TypeInfo) (z : Value) (ht : P.underlying t = some (.slice 3)) (hi : P.info? 3 = some i) (hz : i.zero = some z) (hsize : i.size = 1) (hby : i.bytes = 8) (hzs : z.cells.size = 1)
    (g : Nat) (v : Value) (l : List Int) (hs : a.eval s = .slice (some ⟨g, 0, none⟩) 0 0) (hx : a.eval x = v) (hv : RdInts w v l) (hl : l.length ≤ 17592186044416)
    (h : ∀ ao n' c' w', RdInts w' (.slice ao n' c') l → Grow w w' → K (a.put o.dst (.slice ao n' c')) w') :
    if Region.wanted o (yielded ops a.tmps) = true then Oper.wp P o a w K Q else E := by
  have hw : Region.wanted o (yielded ops a.tmps) = true := by simp [Region.wanted, hgd]
  rw [if_pos hw]
  obtain ⟨v', w', hrun, r1, r2⟩ := run_append_copy (P := P) (ty := o.type) ht hi hz hsize hby hzs w g v l hv hl
  unfold Oper.wp
  simp [execOp, ho, resolve, invoke, builtin, hs, hx, hrun, Result.andThen]
  obtain ⟨ao, c', rfl⟩ := r1.form
  exact h ao _ c' w' r1 r2
end
end Go.Proofs.Ytalidpojcpmcbaa
