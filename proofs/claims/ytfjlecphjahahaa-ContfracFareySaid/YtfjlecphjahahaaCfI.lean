/- Walk: awake of chapter 19. -/
import Derived.Test.YtfjlecphjahahaaCfG
import Derived.Test.YtfjlecphjahahaaCfH
import Derived.Test.YtfjlecphjahahaaSlJ
import Derived.Test.YtfjlecphjahahaaPlQ
namespace Go.Proofs.Ytfjlecphjahahaa
open Go Go.RowKit

instance : DecidableEq C2 := fun _ _ => decidable_of_iff _ eqC_iff
theorem chain_ex : (chainF ⟨5, 7⟩ ⟨1, 2⟩).1 = [⟨5, 7⟩, ⟨2, 3⟩, ⟨1, 1⟩, ⟨0, 1⟩, ⟨1, 2⟩] ∧ (chainF ⟨5, 7⟩ ⟨1, 2⟩).2 = 0 := by decide +kernel
theorem exp_ex : (expandF ⟨-5, 7⟩).1 = [-1, 3, 2] ∧ (expandF ⟨-5, 7⟩).2 = 0 := by decide +kernel
theorem par_ex {a : C2} (h : ParSpec ⟨5, 7⟩ a) : a = ⟨2, 3⟩ := by
  obtain ⟨h1, h2, h3⟩ := h
  cases a with
  | mk p q => simp only at h1 h2 h3; congr 1 <;> omega
def wantL : List C2 := [⟨5, 7⟩, ⟨2, 3⟩, ⟨1, 1⟩, ⟨0, 1⟩, ⟨1, 2⟩]
theorem rd_lit (w : World) (l : List C2) (t : TypeId) (n cap : Nat) (hn : n = w.heap.size) (hc : l.length ≤ cap) : RdCusps (w.alloc (.cells (cellsC l).toArray t)) (.slice (some ⟨n, 0, none⟩) l.length cap) l := by
  refine .inr ⟨n, 0, cap, rfl, by simp [hn], hc, fun j hj => ?_⟩
  rw [World.cell?_alloc_at _ _ _ _ hn, World.cell?_alloc_at _ _ _ _ hn]
  have := cellsC_at l j hj
  simp only [List.getElem?_toArray, Nat.zero_add]
  exact this

set_option maxHeartbeats 1000000 in
theorem awake19_any (w : World) : Calls Try.prog 13 #[] w fun e w' => e = .returned (.bool true) ∧ Grow w w' := by
  have EX : Hid (∀ w, Calls Try.prog 16 #[.agg #[.int .i64 (-5), .int .i64 7]] w fun e w' => ∃ v, e = .returned (.tuple #[v, .int .i64 0]) ∧ OwnInts w' w.heap.size v [-1, 3, 2] ∧ Grow w w') := by
    intro w
    have h := expand_any ⟨-5, 7⟩ w
    rw [exp_ex.1, exp_ex.2] at h
    exact h
  have CH : Hid (∀ w, Calls Try.prog 21 #[.agg #[.int .i64 5, .int .i64 7], .agg #[.int .i64 1, .int .i64 2]] w fun e w' => ∃ v, e = .returned (.tuple #[v, .int .i64 0]) ∧ RdCusps w' v wantL ∧ Grow w w') := by
    intro w
    have h := chain_any ⟨5, 7⟩ ⟨1, 2⟩ w
    rw [chain_ex.1, chain_ex.2] at h
    exact h
  have PA : Hid (∀ w, Calls Try.prog 31 #[.agg #[.int .i64 5, .int .i64 7]] w fun e w' => e = .returned (.tuple #[.agg #[.int .i64 2, .int .i64 3], .agg #[.int .i64 3, .int .i64 4], .int .i64 0]) ∧ Grow w w') := by
    intro w
    refine (parents_any ⟨5, 7⟩ (by decide +kernel) (by decide) w).mono ?_
    rintro e w' ⟨a, rfl, hp, hg⟩
    rw [par_ex hp]
    exact ⟨rfl, hg⟩
  go_enter Try.func13, Try.ntmps13
  go_wp2_with fail
  go_at_call 16
  refine (EX.out _).mono ?_
  rintro e w1 ⟨v1, rfl, ho1, hb1⟩
  go_wp2_with fail
  go_at_call 21
  refine (CH.out _).mono ?_
  rintro e w2 ⟨v2, rfl, hr2, hb2⟩
  go_wp2_with fail
  go_at_call 31
  refine (PA.out _).mono ?_
  rintro e w3 ⟨rfl, hb3⟩
  have HR1 := Lib.hid ((ho1.rd.grow hb2).grow hb3)
  have HR2 := Lib.hid (hr2.grow hb3)
  have HG := Lib.hid ((hb1.trans hb2).trans hb3)
  clear ho1 hr2 hb1 hb2 hb3 EX CH PA
  go_wp2_with (first
    | (go_at_call 24; refine (ints_same [-1, 3, 2] _ _ (by decide) _ (HR1.out.grow (by (repeat (first | with_reducible exact Grow.refl _ | with_reducible refine Grow.alloc ?_ _ | with_reducible refine Grow.drew ?_ | with_reducible refine Grow.drewN ?_ _ | (with_reducible refine Grow.setCell ?_ ?hp _; (case hp => (simp; try omega))) | with_reducible refine Grow.trans ?_ (by assumption))))) (rd_alloc _ [-1, 3, 2] _ _ 3 (by simp))).mono ?_; rintro e w6 ⟨rfl, hb6⟩; have hc6 := hb6.cells; have hf6 := hb6.frees; have hz6 := hb6.size; (simp at hz6); have za : w3.heap.size < w6.heap.size := (by omega); have zb : w3.heap.size + 1 < w6.heap.size := (by omega); have hrd8 := (RdCusps.grow (rd_lit _ wantL 29 (w3.heap.size + 1 + 1) 5 (by simp) (by decide)) (Grow.trans ((Grow.refl _).alloc _) hb6)); have hg36 : Grow w3 w6 := (by (repeat (first | with_reducible exact Grow.refl _ | with_reducible refine Grow.alloc ?_ _ | with_reducible refine Grow.drew ?_ | with_reducible refine Grow.drewN ?_ _ | (with_reducible refine Grow.setCell ?_ ?hp _; (case hp => (simp; try omega))) | with_reducible refine Grow.trans ?_ (by assumption)))); have HR8 := Lib.hid hrd8; have HG6 := Lib.hid hg36; clear hrd8 hg36)
    | (go_at_call 19; refine (same_same wantL _ _ (by decide) _ (HR2.out.grow HG6.out) HR8.out).mono ?_; rintro e w7 ⟨rfl, hb7⟩; have hc7 := hb7.cells; have hf7 := hb7.frees; have hz7 := hb7.size))
  go_ret
  exact ⟨rfl, HG.out.trans (HG6.out.trans hb7)⟩
end Go.Proofs.Ytfjlecphjahahaa
