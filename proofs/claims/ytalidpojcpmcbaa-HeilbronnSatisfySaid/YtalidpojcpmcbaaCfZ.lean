/- From a walk to a row in chapter 19: a list of ints is opened; append([]int{}, l...) in a plain region. -/
import Derived.Test.YtalidpojcpmcbaaPlZ
import Derived.Test.YtalidpojcpmcbaaPlX
import Derived.ChangeSlices
namespace Go.Proofs.Ytalidpojcpmcbaa
open Go Go.RowKit Go.ChangeShapes Go.WideShapes Go.ChangeAt

theorem info_int : (Try.prog.info? 3).map (fun i => (i.zero, i.size, i.bytes)) = some (some (.int .i64 0), 1, 8) := by kernel_rfl
theorem open_list {H : Type} {enc : TypeId × Value → H} {w : World} {v : Value} {d : DataW H} {p : List MemPlace} {base : Nat} {spare : Nat → Bool} {held : Bool}
    {r : Reach} {b0 : Nat} (hv : Value.okWide Try.prog w r b0 32 v) (h0 : DataW.Trod enc Try.prog w base spare held 32 v d p) : ∃ l : List Int, RdInts w v l := by
  obtain ⟨a0, n0, c0, rfl⟩ := okWide_slice Try.underlying32 hv
  obtain ⟨fuel, h1⟩ := h0
  rcases open_ints Try.underlying32 Try.underlying3 (by kernel_rfl) h1 with ⟨e1, -⟩ | ⟨a, len, cap, zs, e1, -, hle, -, hz, -, hc, -⟩
  · simp [Value.cells] at e1
    obtain ⟨rfl, rfl, rfl⟩ := e1
    exact ⟨[], .inl ⟨none, 0, rfl, rfl⟩⟩
  · simp [Value.cells] at e1
    obtain ⟨rfl, rfl, rfl⟩ := e1
    have hzl : n0 ≤ zs.length := by rw [hz]; split <;> omega
    have hl : (zs.take n0).length = n0 := by simp; omega
    refine ⟨zs.take n0, ?_⟩
    by_cases h0 : n0 = 0
    · subst h0
      exact .inl ⟨some a, c0, rfl, by simp⟩
    · have hs : a.spot = none := by
        have hc0 := hc 0 (by omega)
        simp only [Addr.add, if_true] at hc0
        unfold World.cell? at hc0
        split at hc0
        · split at hc0
          · cases hc0
          · rename_i hsp
            simpa using hsp
        · cases hc0
      obtain ⟨ab, ao, asp⟩ := a
      simp only at hs
      subst hs
      refine .inr ⟨ab, ao, c0, by rw [hl], World.block_lt_of_cell? _ _ (by have := hc 0 (by omega); simpa only [Addr.add, if_true] using this), fun j hj => ?_⟩
      rw [hl] at hj
      have hcj := hc j (by omega)
      rw [Addr.add_lit] at hcj
      rw [hcj]
      have h1 : j < zs.length := by omega
      simp [hj, h1]

theorem wpList_append_copy {P : Program} (w : World) {ops : Array Oper} {rest : List Oper} {o : Oper} {a : Act} {Q : Exit → Act → World → Prop} (hgd : o.guard = none) (s x : Operand) (t : TypeId)
    (ho : o.op = .call { callee := .builtin .append, args := #[s, x], argTypes := #[t, t] }) (i : TypeInfo) (z : Value) (ht : P.underlying t = some (.slice 3)) (hi : P.info? 3 = some i) (hz : i.zero = some z) (hsize : i.size = 1) (hby : i.bytes = 8) (hzs : z.cells.size = 1)
    (g : Nat) (v : Value) (l : List Int) (hs : a.eval s = .slice (some ⟨g, 0, none⟩) 0 0) (hx : a.eval x = v) (hv : RdInts w v l) (hl : l.length ≤ 17592186044416)
    (h : ∀ v' w', RdInts w' v' l → Grow w w' → wpList P ops Q rest (a.put o.dst v') w') : wpList P ops Q (o :: rest) a w := by
  refine wpList_plain hgd fun K hK' => ?_
  obtain ⟨v', w', hrun, r1, r2⟩ := run_append_copy (P := P) (ty := o.type) ht hi hz hsize hby hzs w g v l hv hl
  unfold Oper.wp
  simp [execOp, ho, resolve, invoke, builtin, hs, hx, hrun, Result.andThen]
  exact hK' _ _ (h v' w' r1 r2)
end Go.Proofs.Ytalidpojcpmcbaa
