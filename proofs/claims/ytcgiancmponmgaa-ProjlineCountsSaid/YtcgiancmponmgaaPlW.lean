/- Small laws on memory: an owned row's value, what an append leaves as it was. -/
import Derived.Test.YtcgiancmponmgaaPlA
import Derived.OwnWalk
import Derived.Laws.NewBlocks
namespace Go.Proofs.Ytcgiancmponmgaa
open Go.RowKit

theorem own_slice {w : World} {base : Nat} {e : TypeId} {size : Nat} {v : Value} {n : Nat} {xs : List Value} (h : w.ownsRow base e size v n xs) (hn : 0 < n) :
    ∃ g cap, v = .slice (some ⟨g, 0, none⟩) n cap ∧ base ≤ g ∧ g < w.heap.size := by
  rcases h.2 with ⟨_, h0⟩ | ⟨g, cap, cur, rfl, hb, hg, _⟩
  · omega
  · exact ⟨g, cap, rfl, hb, (Array.getElem?_eq_some_iff.1 hg).1⟩
theorem own_kept {w w' : World} {base : Nat} {e : TypeId} {size : Nat} {v : Value} {n : Nat} {xs : List Value} (h : w.ownsRow base e size v n xs) (hg : w.grownBy w' v.ownBlock) (hb : base ≤ w.heap.size) :
    (∀ b o, b < base → w'.cell? ⟨b, o, none⟩ = w.cell? ⟨b, o, none⟩) ∧ (∀ b o, b < base → w'.frozen? ⟨b, o, none⟩ = w.frozen? ⟨b, o, none⟩) := by
  have hk : ∀ b, b < base → w'.heap[b]? = w.heap[b]? := fun b hlt => hg.block b (by omega) (fun e => by have := (h.lt b e.symm).1; omega)
  exact ⟨fun b o hlt => World.cell?_of_block (hk b hlt), fun b o hlt => World.frozen?_of_block (hk b hlt)⟩
theorem own_grow {W w w' : World} {base : Nat} {e : TypeId} {size : Nat} {v : Value} {n : Nat} {xs : List Value} (h0 : Grow W w) (h : w.ownsRow base e size v n xs) (hg : w.grownBy w' v.ownBlock) (hb : W.heap.size ≤ base) : Grow W w' :=
  h0.grown hg (fun k hk => Nat.le_trans hb (h.lt k hk).1)
theorem own_into {w w1 : World} {base : Nat} {e : TypeId} {size : Nat} {v : Value} {n : Nat} {xs : List Value} (h : w.ownsRow base e size v n xs) (hg : Grow w w1) : w1.ownsRow base e size v n xs := by
  refine ⟨h.1, ?_⟩
  rcases h.2 with h2 | ⟨g, cap, cur, hv, hb, hh, h3⟩
  · exact .inl h2
  · exact .inr ⟨g, cap, cur, hv, hb, (Below.block hg g (Array.getElem?_eq_some_iff.1 hh).1).trans hh, h3⟩
theorem own_base {w : World} {base base' : Nat} {e : TypeId} {size : Nat} {v : Value} {n : Nat} {xs : List Value} (h : w.ownsRow base e size v n xs) (hb : base' ≤ base) : w.ownsRow base' e size v n xs := by
  refine ⟨h.1, ?_⟩
  rcases h.2 with h2 | ⟨g, cap, cur, hv, hb', h3⟩
  · exact .inl h2
  · exact .inr ⟨g, cap, cur, hv, by omega, h3⟩
theorem own_set {w : World} {base : Nat} {e : TypeId} {size : Nat} {v : Value} {n : Nat} {xs : List Value} (h : w.ownsRow base e size v n xs) {a : Addr} (ha : a.block < base) (u : Value) : (w.setCell a u).ownsRow base e size v n xs :=
  ownsRow_setCell_below h ha u
theorem own_drewN {w : World} {base : Nat} {e : TypeId} {size : Nat} {v : Value} {n : Nat} {xs : List Value} (h : w.ownsRow base e size v n xs) (k : Nat) : (w.drewN k).ownsRow base e size v n xs := h
/-- A list of ints in memory of the call's own. -/
def OwnInts (w : World) (base : Nat) (v : Value) (l : List Int) : Prop := w.ownsRow base 3 1 v l.length (l.map (Value.int .i64))
theorem one_cells (w : World) (x : Value) (t : TypeId) (n : Nat) (hn : n = w.heap.size) : ∀ j u, [x][j]? = some u → (w.alloc (.cells #[x] t)).cell? ((⟨n, 0, none⟩ : Addr).add j) = some u := by
  intro j u hj
  match j, hj with
  | 0, hj =>
    simp at hj; subst hj
    simp only [Addr.add, if_true]
    rw [World.cell?_alloc_at _ _ _ _ hn]; rfl
theorem one_oneCell (k : IntKind) (x : Int) : ∀ u ∈ [Value.int k x], u.oneCell' = true := by
  intro u hu; simp at hu; subst hu; rfl
/-- The slice value v reads as the list l of ints. -/
def RdInts (w : World) (v : Value) (l : List Int) : Prop :=
  (∃ a cap, v = .slice a 0 cap ∧ l = []) ∨ (∃ b off cap, v = .slice (some ⟨b, off, none⟩) l.length cap ∧ b < w.heap.size ∧ ∀ j, j < l.length → w.cell? ⟨b, off + j, none⟩ = some (.int .i64 (l.getD j 0)))
theorem RdInts.grow {w w' : World} {v : Value} {l : List Int} (h : RdInts w v l) (hg : Grow w w') : RdInts w' v l := by
  rcases h with h | ⟨b, off, cap, hv, hb, hc⟩
  · exact .inl h
  · exact .inr ⟨b, off, cap, hv, Nat.lt_of_lt_of_le hb hg.size, fun j hj => (hg.cells b _ hb).trans (hc j hj)⟩
theorem OwnInts.rd {w : World} {base : Nat} {v : Value} {l : List Int} (h : OwnInts w base v l) : RdInts w v l := by
  rcases h.2 with ⟨hv, h0⟩ | ⟨g, cap, cur, hv, hb, hh, hr⟩
  · exact .inl ⟨none, 0, by rw [hv], by simpa using h0⟩
  · refine .inr ⟨g, 0, cap, hv, (Array.getElem?_eq_some_iff.1 hh).1, fun j hj => ?_⟩
    have hc := World.ownsRow.cells h (g := g) (by rw [hv]; rfl) j (.int .i64 (l.getD j 0)) (by rw [List.getElem?_map]; simp [hj])
    have e : (⟨g, 0, none⟩ : Addr).add j = ⟨g, 0 + j, none⟩ := by cases j <;> simp [Addr.add]
    rw [e] at hc
    exact hc
theorem OwnInts.into {w w1 : World} {base : Nat} {v : Value} {l : List Int} (h : OwnInts w base v l) (hg : Grow w w1) : OwnInts w1 base v l := own_into h hg
theorem rd_alloc (w : World) (l : List Int) (t : TypeId) (n cap : Nat) (hn : n = w.heap.size) : RdInts (w.alloc (.cells (l.map (Value.int .i64)).toArray t)) (.slice (some ⟨n, 0, none⟩) l.length cap) l := by
  refine .inr ⟨n, 0, cap, rfl, by simp [hn], fun j hj => ?_⟩
  rw [World.cell?_alloc_at _ _ _ _ hn]
  simp [hj]
theorem RdInts.form {w : World} {v : Value} {l : List Int} (h : RdInts w v l) : ∃ a cap, v = .slice a l.length cap := by
  rcases h with ⟨a, cap, hv, hl⟩ | ⟨b, off, cap, hv, _⟩
  · exact ⟨a, cap, by rw [hv, hl]; rfl⟩
  · exact ⟨_, cap, hv⟩
theorem take_snoc (l : List Int) (k : Nat) (h : k < l.length) : l.take (k + 1) = l.take k ++ [l.getD k 0] := by
  rw [List.take_succ_eq_append_getElem h]; simp [h]
theorem getD_lt {l : List Int} {j : Nat} (h : j < l.length) : l.getD j 0 = l[j] := by simp [h]
end Go.Proofs.Ytcgiancmponmgaa
