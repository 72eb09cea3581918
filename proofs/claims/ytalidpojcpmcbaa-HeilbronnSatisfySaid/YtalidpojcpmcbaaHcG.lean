/- Walk: Chains of the program. -/
import Derived.Test.YtalidpojcpmcbaaHcF
import Derived.Test.YtalidpojcpmcbaaPlQ
import Derived.Deep.LoopGhost
namespace Go.Proofs.Ytalidpojcpmcbaa
open Go Go.RowKit

theorem set_by (w : World) (B : Nat) (u : Value) : w.grownBy (w.setCell ⟨B, 0, none⟩ u) (some B) :=
  ⟨rfl, rfl, rfl, by simp [World.setCell], fun k _ hne => Below.heap_setCell _ _ _ _ (fun e => hne (by rw [e]))⟩
/-- The two cells that the closure sees: the choices and how many it has used. -/
def ChM (S : Nat) (v : Value) (u : Nat) (w : World) : Prop :=
  w.cell? ⟨S, 0, none⟩ = some v ∧ w.cell? ⟨S + 1, 0, none⟩ = some (.int .i64 u) ∧ (∀ o, w.frozen? ⟨S + 1, o, none⟩ = false) ∧ S + 1 < w.heap.size
theorem ChM.of {S : Nat} {v : Value} {u : Nat} {w w' : World} (h : ChM S v u w) (hc : ∀ b o, b < S + 2 → w'.cell? ⟨b, o, none⟩ = w.cell? ⟨b, o, none⟩) (hf : ∀ b o, b < S + 2 → w'.frozen? ⟨b, o, none⟩ = w.frozen? ⟨b, o, none⟩) (hz : w.heap.size ≤ w'.heap.size) : ChM S v u w' := by
  obtain ⟨h1, h2, h3, h4⟩ := h
  exact ⟨(hc _ _ (by omega)).trans h1, (hc _ _ (by omega)).trans h2, fun o => (hf _ _ (by omega)).trans (h3 o), by omega⟩
theorem ChM.grow {S : Nat} {v : Value} {u : Nat} {w w' : World} (h : ChM S v u w) (hg : Grow w w') : ChM S v u w' := by
  have hz := h.2.2.2
  exact h.of (fun b o hb => hg.cells b o (by omega)) (fun b o hb => hg.frees b o (by omega)) hg.size
theorem choose_any (l : List Int) (v : Value) (u : Nat) (x y : Int) (hu : u ≤ 1000000) (hx : x.natAbs ≤ 24) (hy : y ≠ 0) (hlen : l.length ≤ 1152921504606846976) (S : Nat) (w : World) (hM : ChM S v u w) (hrd : RdInts w v l) :
    Calls Try.prog 34 #[.int .i64 x, .int .i64 y, .pointer (some ⟨S, 0, none⟩), .pointer (some ⟨S + 1, 0, none⟩)] w fun e w' => e = .returned (.int .i64 (chQ l u x y)) ∧ ChM S v (chU l u) w' ∧ w.grownBy w' (some (S + 1)) := by
  by_cases hl : l = []
  · subst hl
    obtain ⟨a, cap, rfl⟩ := hrd.form
    refine (choose_none u x y hx hy a cap S (S + 1) w hM.1).mono ?_
    rintro e w' ⟨rfl, rfl⟩
    exact ⟨rfl, hM, World.grownBy.refl _ _⟩
  · rcases hrd with ⟨_, _, _, h⟩ | ⟨b, off, cap, rfl, hb, hc⟩
    · exact absurd h hl
    · obtain ⟨h1, h2, h3, h4⟩ := hM
      refine (choose_some l u x y hl hu hx hy b off cap hlen S (S + 1) w h1 h2 h3 hc).mono ?_
      rintro e w' ⟨rfl, d, rfl⟩
      have e1 : chU l u = u + 1 := by unfold chU; rw [if_neg hl]
      have hset := set_by (w.drewN d) (S + 1) (.int .i64 (u + 1 : Nat))
      refine ⟨rfl, ⟨?_, ?_, ?_, ?_⟩, ?_⟩
      · exact (World.cell?_of_block (hset.block S (by show S < w.heap.size; omega) (by simp))).trans h1
      · rw [e1]
        exact World.cell?_setCell_same' _ _ _ (by show (w.cell? ⟨S + 1, 0, none⟩).isSome = true; rw [h2]; rfl)
      · intro o
        rw [World.frozen?_setCell]
        exact h3 o
      · simpa [World.setCell] using h4
      · exact ⟨hset.os, hset.tape, hset.output, hset.size, hset.block⟩
theorem own_other {w w' : World} {base : Nat} {e : TypeId} {size : Nat} {v : Value} {n : Nat} {xs : List Value} {row : Option Nat} (h : w.ownsRow base e size v n xs) (hg : w.grownBy w' row) (hne : ∀ k, v.ownBlock = some k → some k ≠ row) : w'.ownsRow base e size v n xs := by
  refine ⟨h.1, ?_⟩
  rcases h.2 with h2 | ⟨g, cap, cur, hv, hb, hh, h3⟩
  · exact .inl h2
  · exact .inr ⟨g, cap, cur, hv, hb, (hg.block g (Array.getElem?_eq_some_iff.1 hh).1 (hne g (by rw [hv]; rfl))).trans hh, h3⟩
end Go.Proofs.Ytalidpojcpmcbaa
