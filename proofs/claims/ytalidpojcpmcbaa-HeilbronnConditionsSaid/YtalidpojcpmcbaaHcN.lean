/- Appends of matrices: onto an own row; the source is any list of matrices. -/
import Derived.Test.YtalidpojcpmcbaaHcM
import Derived.Deep.Upon
import Derived.Maps.AppendAt
namespace Go.Proofs.Ytalidpojcpmcbaa
open Go Go.RowKit

theorem cellsM_all : ∀ (l : List M2) (f : Nat → Option Value), (∀ j, j < l.length → at4 f (j * 4) (l.getD j M2.zero)) →
    ∀ j u, (cellsM l)[j]? = some u → f j = some u
  | [], _, _, j, u, hj => by simp [cellsM] at hj
  | c :: l, f, h, 0, u, hj => by
    have h0 := (h 0 (by simp)).1
    simp [cellsM] at hj h0
    rw [h0, hj]
  | c :: l, f, h, 1, u, hj => by
    have h0 := (h 0 (by simp)).2.1
    simp [cellsM] at hj h0
    rw [h0, hj]
  | c :: l, f, h, 2, u, hj => by
    have h0 := (h 0 (by simp)).2.2.1
    simp [cellsM] at hj h0
    rw [h0, hj]
  | c :: l, f, h, 3, u, hj => by
    have h0 := (h 0 (by simp)).2.2.2
    simp [cellsM] at hj h0
    rw [h0, hj]
  | c :: l, f, h, j + 4, u, hj => by
    refine cellsM_all l (fun i => f (i + 4)) (fun i hi => ?_) j u (by simpa [cellsM] using hj)
    have h1 := h (i + 1) (by simpa using hi)
    rw [show (i + 1) * 4 = i * 4 + 4 by omega] at h1
    unfold at4 at h1 ⊢
    rw [show i * 4 + 4 + 1 = i * 4 + 1 + 4 by omega, show i * 4 + 4 + 2 = i * 4 + 2 + 4 by omega, show i * 4 + 4 + 3 = i * 4 + 3 + 4 by omega] at h1
    simpa using h1
section
variable {P : Program}
theorem RdMats.src {w : World} {x : Value} {l : List M2} (h : RdMats w x l) {tx e' : TypeId} (hk : P.underlying tx = some (.slice e')) : Src P 4 tx x l.length (cellsM l) w := by
  rcases h with ⟨a, cap, rfl, rfl⟩ | ⟨b, off, cap, rfl, hb, hle, hc⟩
  · cases a with
    | none => exact Src.ofNil w hk cap
    | some a => exact Src.ofSlice w hk a 0 cap [] (by simp) (by intro j u h; simp at h) (by intro u h; cases h)
  · refine Src.ofSlice w hk _ _ _ _ (cellsM_len l) (fun j u hj => ?_) (cellsM_one l)
    rw [Addr.add_lit]
    exact cellsM_all l (fun j => w.cell? ⟨b, off + j, none⟩) (fun j hj => by
      have := hc j hj
      unfold at4 at this ⊢
      simp only [Nat.add_assoc] at this ⊢
      exact this) j u hj
theorem run_append_mats {ty t : TypeId} {i : TypeInfo} {z : Value} (ht : P.underlying t = some (.slice 39)) (hi : P.info? 39 = some i) (hz : i.zero = some z) (hsize : i.size = 4) (hby : i.bytes = 32) (hzs : z.cells.size = 4)
    (w : World) (base : Nat) (v : Value) (xs : List M2) (hown : OwnMats w base v xs) (x : Value) (l : List M2) (hx : RdMats w x l) (hl : xs.length + l.length ≤ 1000000) (hb : base ≤ w.heap.size) :
    ∃ v' w', (Builtin.append_ #[t, t] ty #[v, x]).run P w = .ok v' w' ∧ OwnMats w' base v' (xs ++ l) ∧ w.grownBy w' v.ownBlock := by
  by_cases h0 : l.length = 0
  · have hsrc := hx.src (P := P) ht
    obtain rfl : l = [] := List.eq_nil_of_length_eq_zero h0
    have hv : ∃ b c, v = .slice b xs.length c ∧ xs.length ≤ c := by
      rcases hown.2 with ⟨rfl, h1⟩ | ⟨g, cap, cur, rfl, _, _, h3, _⟩
      · exact ⟨none, 0, by rw [h1], by omega⟩
      · exact ⟨_, cap, rfl, h3⟩
    obtain ⟨b, c, rfl, hc⟩ := hv
    have hr := run_append_nothing (P := P) w t t ty 39 i ht hi b xs.length c hc x (by rw [hsize]; exact hsrc)
    exact ⟨_, _, hr, by rw [List.append_nil]; exact hown, World.grownBy.refl _ _⟩
  · rcases hx with ⟨a, cap, rfl, rfl⟩ | ⟨b, off, cap, rfl, hbb, hle, hc⟩
    · simp at h0
    · obtain ⟨v', w', hr, h1, h2, _⟩ := run_append_own (P := P) w base t ty 39 i z 4 32 ht hi hz hsize hby hzs (by omega) v xs.length (cellsM xs) hown ⟨b, off, none⟩ l.length cap (cellsM l) (cellsM_len l)
        (fun j u hj => by
          rw [Addr.add_lit]
          exact cellsM_all l (fun j => w.cell? ⟨b, off + j, none⟩) (fun j hj => by
            have := hc j hj
            unfold at4 at this ⊢
            simp only [Nat.add_assoc] at this ⊢
            exact this) j u hj) (cellsM_one l) (by unfold maxLen; omega) (by omega) hb
      refine ⟨v', w', hr, ?_, h2⟩
      unfold OwnMats
      rw [List.length_append, cellsM_append]
      exact h1
theorem wpList_append_mats (w : World) {ops : Array Oper} {rest : List Oper} {o : Oper} {a : Act} {Q : Exit → Act → World → Prop} (hgd : o.guard = none) (s x : Operand) (t : TypeId)
    (ho : o.op = .call { callee := .builtin .append, args := #[s, x], argTypes := #[t, t] }) (i : TypeInfo) (z : Value) (ht : P.underlying t = some (.slice 39)) (hi : P.info? 39 = some i) (hz : i.zero = some z) (hsize : i.size = 4) (hby : i.bytes = 32) (hzs : z.cells.size = 4)
    (base : Nat) (v : Value) (xs : List M2) (hs : a.eval s = v) (hown : OwnMats w base v xs) (vx : Value) (l : List M2) (hx : a.eval x = vx) (hrd : RdMats w vx l) (hl : xs.length + l.length ≤ 1000000) (hb : base ≤ w.heap.size)
    (h : ∀ v' w', OwnMats w' base v' (xs ++ l) → w.grownBy w' v.ownBlock → wpList P ops Q rest (a.put o.dst v') w') : wpList P ops Q (o :: rest) a w := by
  refine wpList_plain hgd fun K hK' => ?_
  obtain ⟨v', w', hrun, r1, r2⟩ := run_append_mats (P := P) (ty := o.type) ht hi hz hsize hby hzs w base v xs hown vx l hrd hl hb
  unfold Oper.wp
  simp [execOp, ho, resolve, invoke, builtin, hs, hx, hrun, Result.andThen]
  exact hK' _ _ (h v' w' r1 r2)
/-- The same in a drawn region. -/
theorem step_append_mats {ops : Array Oper} {o : Oper} {a : Act} {w : World} {K : Act → World → Prop} {Q : Exit → Act → World → Prop} {E : Prop} (hgd : o.guard = none) (s x : Operand) (t : TypeId)
    (ho : o.op = .call { callee := .builtin .append, args := #[s, x], argTypes := #[t, t] }) (i : TypeInfo) (z : Value) (ht : P.underlying t = some (.slice 39)) (hi : P.info? 39 = some i) (hz : i.zero = some z) (hsize : i.size = 4) (hby : i.bytes = 32) (hzs : z.cells.size = 4)
    (base : Nat) (v : Value) (xs : List M2) (hs : a.eval s = v) (hown : OwnMats w base v xs) (vx : Value) (l : List M2) (hx : a.eval x = vx) (hrd : RdMats w vx l) (hl : xs.length + l.length ≤ 1000000) (hb : base ≤ w.heap.size)
    (h : ∀ v' w', OwnMats w' base v' (xs ++ l) → w.grownBy w' v.ownBlock → K (a.put o.dst v') w') :
    if Region.wanted o (yielded ops a.tmps) = true then Oper.wp P o a w K Q else E := by
  have hw : Region.wanted o (yielded ops a.tmps) = true := by simp [Region.wanted, hgd]
  rw [if_pos hw]
  obtain ⟨v', w', hrun, r1, r2⟩ := run_append_mats (P := P) (ty := o.type) ht hi hz hsize hby hzs w base v xs hown vx l hrd hl hb
  unfold Oper.wp
  simp [execOp, ho, resolve, invoke, builtin, hs, hx, hrun, Result.andThen]
  exact h v' w' r1 r2
end
theorem empty_own (w : World) : OwnMats (w.alloc (.cells #[] 39)) w.heap.size (.slice (some ⟨w.heap.size, 0, none⟩) 0 0) [] :=
  World.ownsRow_lit (base := w.heap.size) (e := 39) (size := 4) w #[] 0 (Nat.le_refl _) (by decide) rfl
theorem RowM.take {w : World} {g cap : Nat} {l : List M2} (h : RowM w g l) (hc : l.length ≤ cap) (k : Nat) (hk : k ≤ l.length) : RdMats w (.slice (some ⟨g, 0, none⟩) k cap) (l.take k) := by
  refine .inr ⟨g, 0, cap, by simp; omega, h.lt, by simp; omega, fun j hj => ?_⟩
  simp at hj
  rw [Nat.zero_add]
  have := h.cells j (by omega)
  have e : (l.take k).getD j M2.zero = l.getD j M2.zero := by
    simp only [List.getD_eq_getElem?_getD, List.getElem?_take]
    rw [if_pos (by omega)]
  rw [e]
  exact this
theorem RowM.drop {w : World} {g cap : Nat} {l : List M2} (h : RowM w g l) (hc : l.length ≤ cap) (k : Nat) (hk : k ≤ l.length) : RdMats w (.slice (some ⟨g, k * 4, none⟩) (l.length - k) (cap - k)) (l.drop k) := by
  refine .inr ⟨g, k * 4, cap - k, by simp, h.lt, by simp; omega, fun j hj => ?_⟩
  simp at hj
  have := h.cells (k + j) (by omega)
  have e : (l.drop k).getD j M2.zero = l.getD (k + j) M2.zero := by
    simp only [List.getD_eq_getElem?_getD, List.getElem?_drop]
  rw [e, show k * 4 + j * 4 = (k + j) * 4 by omega]
  exact this
end Go.Proofs.Ytalidpojcpmcbaa
