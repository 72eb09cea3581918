/- Appends of cusps: onto an own row, and onto what is left of one; the source is any list of cusps. -/
import Derived.Test.YtfjlecphjahahaaPlY
import Derived.Deep.Upon
namespace Go.Proofs.Ytfjlecphjahahaa
open Go Go.RowKit

theorem cellsC_all : ∀ (l : List C2) (f : Nat → Option Value), (∀ j, j < l.length → f (j * 2) = some (.int .i64 (l.getD j C2.zero).p) ∧ f (j * 2 + 1) = some (.int .i64 (l.getD j C2.zero).q)) →
    ∀ j u, (cellsC l)[j]? = some u → f j = some u
  | [], _, _, j, u, hj => by simp [cellsC] at hj
  | c :: l, f, h, 0, u, hj => by
    have h0 := (h 0 (by simp)).1
    simp [cellsC] at hj h0
    rw [h0, hj]
  | c :: l, f, h, 1, u, hj => by
    have h0 := (h 0 (by simp)).2
    simp [cellsC] at hj h0
    rw [h0, hj]
  | c :: l, f, h, j + 2, u, hj => by
    refine cellsC_all l (fun i => f (i + 2)) (fun i hi => ?_) j u (by simpa [cellsC] using hj)
    have h1 := h (i + 1) (by simpa using hi)
    rw [show (i + 1) * 2 = i * 2 + 2 by omega, show i * 2 + 2 + 1 = i * 2 + 1 + 2 by omega] at h1
    simpa using h1

section
variable {P : Program}
theorem RdCusps.src {w : World} {x : Value} {l : List C2} (h : RdCusps w x l) {tx e' : TypeId} (hk : P.underlying tx = some (.slice e')) : Src P 2 tx x l.length (cellsC l) w := by
  rcases h with ⟨a, cap, rfl, rfl⟩ | ⟨b, off, cap, rfl, hb, hle, hc⟩
  · cases a with
    | none => exact Src.ofNil w hk cap
    | some a => exact Src.ofSlice w hk a 0 cap [] (by simp) (by intro j u h; simp at h) (by intro u h; cases h)
  · refine Src.ofSlice w hk _ _ _ _ (cellsC_len l) (fun j u hj => ?_) (cellsC_one l)
    rw [Addr.add_lit]
    refine cellsC_all l (fun j => w.cell? ⟨b, off + j, none⟩) (fun j hj => ?_) j u hj
    have := hc j hj
    rw [Nat.add_assoc] at this
    exact this

theorem run_append_ownrd {ty t : TypeId} {i : TypeInfo} {z : Value} (ht : P.underlying t = some (.slice 29)) (hi : P.info? 29 = some i) (hz : i.zero = some z) (hsize : i.size = 2) (hby : i.bytes = 16) (hzs : z.cells.size = 2)
    (w : World) (base : Nat) (v : Value) (n : Nat) (xs : List Value) (hown : w.ownsRow base 29 2 v n xs) (x : Value) (l : List C2) (hx : RdCusps w x l) (hl : n + l.length ≤ 1000000) (hb : base ≤ w.heap.size) :
    ∃ v' w', (Builtin.append_ #[t, t] ty #[v, x]).run P w = .ok v' w' ∧ w'.ownsRow base 29 2 v' (n + l.length) (xs ++ cellsC l) ∧ w.grownBy w' v.ownBlock := by
  by_cases h0 : l.length = 0
  · have hsrc := hx.src (P := P) ht
    obtain rfl : l = [] := List.eq_nil_of_length_eq_zero h0
    have hv : ∃ b c, v = .slice b n c ∧ n ≤ c := by
      rcases hown.2 with ⟨rfl, rfl⟩ | ⟨g, cap, cur, rfl, _, _, h3, _⟩
      · exact ⟨none, 0, rfl, by omega⟩
      · exact ⟨_, cap, rfl, h3⟩
    obtain ⟨b, c, rfl, hc⟩ := hv
    have hr := run_append_nothing (P := P) w t t ty 29 i ht hi b n c hc x (by rw [hsize]; exact hsrc)
    exact ⟨_, _, hr, by simpa [cellsC] using hown, World.grownBy.refl _ _⟩
  · rcases hx with ⟨a, cap, rfl, rfl⟩ | ⟨b, off, cap, rfl, hbb, hle, hc⟩
    · simp at h0
    · obtain ⟨v', w', hr, h1, h2, _⟩ := run_append_own (P := P) w base t ty 29 i z 2 16 ht hi hz hsize hby hzs (by omega) v n xs hown ⟨b, off, none⟩ l.length cap (cellsC l) (cellsC_len l)
        (fun j u hj => by
          rw [Addr.add_lit]
          refine cellsC_all l (fun j => w.cell? ⟨b, off + j, none⟩) (fun j hj => ?_) j u hj
          have := hc j hj
          rw [Nat.add_assoc] at this
          exact this) (cellsC_one l) (by unfold maxLen; omega) (by omega) hb
      exact ⟨v', w', hr, h1, h2⟩

theorem wpList_append_ownrd (w : World) {ops : Array Oper} {rest : List Oper} {o : Oper} {a : Act} {Q : Exit → Act → World → Prop} (hgd : o.guard = none) (s x : Operand) (t : TypeId)
    (ho : o.op = .call { callee := .builtin .append, args := #[s, x], argTypes := #[t, t] }) (i : TypeInfo) (z : Value) (ht : P.underlying t = some (.slice 29)) (hi : P.info? 29 = some i) (hz : i.zero = some z) (hsize : i.size = 2) (hby : i.bytes = 16) (hzs : z.cells.size = 2)
    (base : Nat) (v : Value) (n : Nat) (xs : List Value) (hs : a.eval s = v) (hown : w.ownsRow base 29 2 v n xs) (vx : Value) (l : List C2) (hx : a.eval x = vx) (hrd : RdCusps w vx l) (hl : n + l.length ≤ 1000000) (hb : base ≤ w.heap.size)
    (h : ∀ v' w', w'.ownsRow base 29 2 v' (n + l.length) (xs ++ cellsC l) → w.grownBy w' v.ownBlock → wpList P ops Q rest (a.put o.dst v') w') : wpList P ops Q (o :: rest) a w := by
  refine wpList_plain hgd fun K hK' => ?_
  obtain ⟨v', w', hrun, r1, r2⟩ := run_append_ownrd (P := P) (ty := o.type) ht hi hz hsize hby hzs w base v n xs hown vx l hrd hl hb
  unfold Oper.wp
  simp [execOp, ho, resolve, invoke, builtin, hs, hx, hrun, Result.andThen]
  exact hK' _ _ (h v' w' r1 r2)

/-- What is left of an own row from some element on: it can be read and written. -/
structure RowAt (w : World) (g off cap : Nat) (l : List C2) : Prop where
  lt : g < w.heap.size
  le : l.length ≤ cap
  cells : ∀ j, j < l.length → w.cell? ⟨g, off + j * 2, none⟩ = some (.int .i64 (l.getD j C2.zero).p) ∧ w.cell? ⟨g, off + j * 2 + 1, none⟩ = some (.int .i64 (l.getD j C2.zero).q)
  ex : ∀ j, j < cap * 2 → (w.cell? ⟨g, off + j, none⟩).isSome = true
  free : ∀ o, w.frozen? ⟨g, o, none⟩ = false
theorem RowAt.rd {w : World} {g off cap : Nat} {l : List C2} (h : RowAt w g off cap l) : RdCusps w (.slice (some ⟨g, off, none⟩) l.length cap) l :=
  .inr ⟨g, off, cap, rfl, h.lt, h.le, h.cells⟩
theorem RowAt.of_own {w : World} {base : Nat} {v : Value} {l : List C2} (h : OwnCusps w base v l) (h0 : 0 < l.length) : ∃ g cap, v = .slice (some ⟨g, 0, none⟩) l.length cap ∧ base ≤ g ∧ RowAt w g 0 cap l ∧ cap ≤ maxLen := by
  have hrd := h.rd
  rcases h.2 with ⟨_, h1⟩ | ⟨g, cap, cur, rfl, hb, hg, hle, hm, hsz, _⟩
  · omega
  · refine ⟨g, cap, rfl, hb, ⟨(Array.getElem?_eq_some_iff.1 hg).1, hle, ?_, fun j hj => ?_, fun o => ?_⟩, hm⟩
    · rcases hrd with ⟨_, _, _, h2⟩ | ⟨b, off, c, hv, _, _, hc⟩
      · rw [h2] at h0; simp at h0
      · simp only [Value.slice.injEq, Option.some.injEq, Addr.mk.injEq, and_true, true_and] at hv
        obtain ⟨⟨rfl, rfl⟩, rfl⟩ := hv
        exact hc
    · unfold World.cell?
      simp only [hg]
      simp [show j < cur.size by omega]
    · unfold World.frozen?
      simp only [hg]
      simp
theorem RowAt.tail {w : World} {g cap : Nat} {l : List C2} (h : RowAt w g 0 cap l) (k : Nat) (hk : k ≤ l.length) : RowAt w g (k * 2) (cap - k) (l.drop k) := by
  refine ⟨h.lt, by have := h.le; simp; omega, fun j hj => ?_, fun j hj => ?_, h.free⟩
  · simp at hj
    have := h.cells (k + j) (by omega)
    rw [show 0 + (k + j) * 2 = k * 2 + j * 2 by omega] at this
    have e : (l.drop k).getD j C2.zero = l.getD (k + j) C2.zero := by simp [List.getD]
    rw [e]
    exact this
  · have := h.ex (k * 2 + j) (by omega)
    rwa [Nat.zero_add] at this
theorem rd_tail {w : World} {b off cap : Nat} {l : List C2} (hb : b < w.heap.size) (hle : l.length ≤ cap) (k : Nat) (hk : k ≤ l.length)
    (hc : ∀ j, j < l.length → w.cell? ⟨b, off + j * 2, none⟩ = some (.int .i64 (l.getD j C2.zero).p) ∧ w.cell? ⟨b, off + j * 2 + 1, none⟩ = some (.int .i64 (l.getD j C2.zero).q)) :
    RdCusps w (.slice (some ⟨b, off + k * 2, none⟩) (l.length - k) (cap - k)) (l.drop k) := by
  refine .inr ⟨b, off + k * 2, cap - k, by simp, hb, by simp; omega, fun j hj => ?_⟩
  simp at hj
  have := hc (k + j) (by omega)
  rw [show off + (k + j) * 2 = off + k * 2 + j * 2 by omega] at this
  have e : (l.drop k).getD j C2.zero = l.getD (k + j) C2.zero := by simp [List.getD]
  rw [e]
  exact this

theorem getD_app (x y : List C2) (j : Nat) : (x ++ y).getD j C2.zero = if j < x.length then x.getD j C2.zero else y.getD (j - x.length) C2.zero := by
  split
  · rename_i h; simp [List.getD, List.getElem?_append_left h]
  · rename_i h; simp [List.getD, List.getElem?_append_right (by omega : x.length ≤ j)]

/-- append onto what is left of an own row. -/
theorem run_append_row {ty t : TypeId} {i : TypeInfo} {z : Value} (ht : P.underlying t = some (.slice 29)) (hi : P.info? 29 = some i) (hz : i.zero = some z) (hsize : i.size = 2) (hby : i.bytes = 16) (hzs : z.cells.size = 2)
    (w : World) (g off cap : Nat) (l : List C2) (hr : RowAt w g off cap l) (x : Value) (m : List C2) (hx : RdCusps w x m) (hl : l.length + m.length ≤ 1000000) :
    ∃ v' w', (Builtin.append_ #[t, t] ty #[.slice (some ⟨g, off, none⟩) l.length cap, x]).run P w = .ok v' w' ∧ RdCusps w' v' (l ++ m) ∧ w.grownBy w' (some g) := by
  by_cases h0 : m.length = 0
  · have hsrc := hx.src (P := P) ht
    obtain rfl : m = [] := List.eq_nil_of_length_eq_zero h0
    have hrun := run_append_nothing (P := P) w t t ty 29 i ht hi (some ⟨g, off, none⟩) l.length cap hr.le x (by rw [hsize]; exact hsrc)
    exact ⟨_, _, hrun, by simpa using hr.rd, World.grownBy.refl _ _⟩
  · rcases hx with ⟨a, c, rfl, rfl⟩ | ⟨b, o2, c, rfl, hbb, hle, hc⟩
    · simp at h0
    · have hnews : ∀ j u, (cellsC m)[j]? = some u → w.cell? ((⟨b, o2, none⟩ : Addr).add j) = some u := fun j u hj => by
        rw [Addr.add_lit]
        refine cellsC_all m (fun j => w.cell? ⟨b, o2 + j, none⟩) (fun j hj => ?_) j u hj
        have := hc j hj
        rw [Nat.add_assoc] at this
        exact this
      by_cases hroom : l.length + m.length ≤ cap
      · have hrun := run_append_room_cells (P := P) w t ty 29 i ht hi g off l.length cap ⟨b, o2, none⟩ m.length c (cellsC m) (by rw [hsize]; exact cellsC_len m) hnews (cellsC_one m) hroom
          (fun j hj => by
            rw [cellsC_len] at hj
            have := hr.ex (l.length * 2 + j) (by omega)
            rw [hsize, Nat.add_assoc]; exact this) (fun j _ => hr.free _)
        rw [hsize] at hrun
        refine ⟨_, _, hrun, ?_, ?_⟩
        · have hgr : ∀ (vs : List Value) (o : Nat) (w : World), (w.setCells g o vs).heap.size = w.heap.size := by
            intro vs
            induction vs with
            | nil => intro o w; rfl
            | cons u vs ih => intro o w; simp only [World.setCells]; rw [ih]; simp
          refine .inr ⟨g, off, cap, by simp, by rw [hgr]; exact hr.lt, by simpa using hroom, fun j hj => ?_⟩
          rw [getD_app]
          by_cases hjl : j < l.length
          · rw [if_pos hjl, World.cell?_setCells_out g _ _ _ _ (fun _ _ => by simp; omega), World.cell?_setCells_out g _ _ _ _ (fun _ _ => by simp; omega)]
            exact hr.cells j hjl
          · rw [if_neg hjl]
            simp at hj
            obtain ⟨a1, a2⟩ := cellsC_at m (j - l.length) (by omega)
            have hin := World.cell?_setCells_in g (cellsC m) (off + l.length * 2) w (fun i hi => by
              rw [cellsC_len] at hi
              have := hr.ex (l.length * 2 + i) (by omega)
              rw [Nat.add_assoc]; exact this)
            have b1 := hin ((j - l.length) * 2) (by rw [cellsC_len]; omega)
            have b2 := hin ((j - l.length) * 2 + 1) (by rw [cellsC_len]; omega)
            rw [List.getElem?_eq_getElem (by rw [cellsC_len]; omega)] at a1 a2
            simp only [Option.some.injEq] at a1 a2
            rw [a1, show off + l.length * 2 + (j - l.length) * 2 = off + j * 2 by omega] at b1
            rw [a2, show off + l.length * 2 + ((j - l.length) * 2 + 1) = off + j * 2 + 1 by omega] at b2
            exact ⟨b1, b2⟩
        · have : ∀ (vs : List Value) (o : Nat) (w : World), w.grownBy (w.setCells g o vs) (some g) := by
            intro vs
            induction vs with
            | nil => intro o w; exact World.grownBy.refl _ _
            | cons u vs ih =>
              intro o w
              have h2 := ih (o + 1) (w.setCell ⟨g, o, none⟩ u)
              refine ⟨h2.os.trans rfl, h2.tape.trans rfl, h2.output.trans rfl, Nat.le_trans (by simp) h2.size, fun k hk hne => (h2.block k (by simpa using hk) hne).trans ?_⟩
              have hne' : k ≠ g := fun e => hne (by rw [e])
              simp [World.setCell, Array.getElem?_modify, Ne.symm hne']
          exact this _ _ _
      · obtain ⟨v', w', hrun, r1, r2⟩ := run_append_arg_grows (P := P) w t ty 29 i z 2 16 ht hi hz hsize hby hzs (by omega) ⟨g, off, none⟩ l.length cap (cellsC l) (cellsC_len l)
          (fun j u hj => by
            rw [Addr.add_lit]
            refine cellsC_all l (fun j => w.cell? ⟨g, off + j, none⟩) (fun j hj => ?_) j u hj
            have := hr.cells j hj
            rw [Nat.add_assoc] at this
            exact this) ⟨b, o2, none⟩ m.length c (cellsC m) (cellsC_len m) hnews (by omega) (by unfold maxLen; omega) (by omega)
        refine ⟨v', w', hrun, OwnCusps.rd (base := w.heap.size) (by unfold OwnCusps; rw [cellsC_append, List.length_append]; exact r1), ?_⟩
        exact ⟨r2.os, r2.tape, r2.output, r2.size, fun k hk _ => r2.block k hk (by simp)⟩

theorem wpList_append_row (w : World) {ops : Array Oper} {rest : List Oper} {o : Oper} {a : Act} {Q : Exit → Act → World → Prop} (hgd : o.guard = none) (s x : Operand) (t : TypeId)
    (ho : o.op = .call { callee := .builtin .append, args := #[s, x], argTypes := #[t, t] }) (i : TypeInfo) (z : Value) (ht : P.underlying t = some (.slice 29)) (hi : P.info? 29 = some i) (hz : i.zero = some z) (hsize : i.size = 2) (hby : i.bytes = 16) (hzs : z.cells.size = 2)
    (g off cap n : Nat) (l : List C2) (hs : a.eval s = .slice (some ⟨g, off, none⟩) n cap) (hn : n = l.length) (hr : RowAt w g off cap l) (vx : Value) (m : List C2) (hx : a.eval x = vx) (hrd : RdCusps w vx m) (hl : l.length + m.length ≤ 1000000)
    (h : ∀ v' w', RdCusps w' v' (l ++ m) → w.grownBy w' (some g) → wpList P ops Q rest (a.put o.dst v') w') : wpList P ops Q (o :: rest) a w := by
  subst hn
  refine wpList_plain hgd fun K hK' => ?_
  obtain ⟨v', w', hrun, r1, r2⟩ := run_append_row (P := P) (ty := o.type) ht hi hz hsize hby hzs w g off cap l hr vx m hrd hl
  unfold Oper.wp
  simp [execOp, ho, resolve, invoke, builtin, hs, hx, hrun, Result.andThen]
  exact hK' _ _ (h v' w' r1 r2)
end
end Go.Proofs.Ytfjlecphjahahaa
