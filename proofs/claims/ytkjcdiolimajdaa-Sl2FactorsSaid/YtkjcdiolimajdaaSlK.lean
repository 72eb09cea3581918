/- Walk: the fixed calls at the head of the statements of chapter 18 hold. -/
import Derived.Test.YtkjcdiolimajdaaSlI
namespace Go.Proofs.Ytkjcdiolimajdaa
open Go.RowKit

theorem ex_factor : facF ⟨5, 2, 2, 1⟩ = (⟨true, [2, -2, 0]⟩, 0) := by kernel_rfl
theorem ex_abelian : abF ⟨0, -1, 1, 1⟩ = (10, 0) := by kernel_rfl
theorem ex_apply : applyF ⟨2, 1, 1, 1⟩ ⟨1, 0⟩ = (⟨2, 1⟩, 0) := by kernel_rfl

set_option maxHeartbeats 2000000 in
theorem awake18_any (w : World) : Calls Try.prog 12 #[] w fun e w' => e = .returned (.bool true) ∧ Grow w w' := by
  have F : Hid (∀ w : World, Calls Try.prog 29 #[.agg #[.int .i64 5, .int .i64 2, .int .i64 2, .int .i64 1]] w fun e w' =>
      ∃ v, e = .returned (.tuple #[.agg #[.bool true, v], .int .i64 0]) ∧ OwnInts w' w.heap.size v [2, -2, 0] ∧ Grow w w') := by
    intro w; have h := factor_any ⟨5, 2, 2, 1⟩ w; rw [ex_factor] at h; exact h
  have A : Hid (∀ w : World, Calls Try.prog 20 #[.agg #[.int .i64 0, .int .i64 (-1), .int .i64 1, .int .i64 1]] w fun e w' => e = .returned (.tuple #[.int .i64 10, .int .i64 0]) ∧ Grow w w') := by
    intro w; have h := abelian_any ⟨0, -1, 1, 1⟩ w; rw [ex_abelian] at h; exact h
  have P : Hid (∀ w : World, Calls Try.prog 13 #[.agg #[.int .i64 2, .int .i64 1, .int .i64 1, .int .i64 1], .agg #[.int .i64 1, .int .i64 0]] w fun e w' => e = .returned (.tuple #[.agg #[.int .i64 2, .int .i64 1], .int .i64 0]) ∧ Grow w w') := by
    intro w; have h := apply_any ⟨2, 1, 1, 1⟩ ⟨1, 0⟩ w; rw [ex_apply] at h; exact h
  go_enter Try.func12, Try.ntmps12
  go_wp2_with fail
  go_at_call 29
  refine (F.out _).mono ?_
  rintro e w1 ⟨v, rfl, hown, hb1⟩
  obtain ⟨g, cap, hv, hg1, hg2⟩ := own_slice hown (by decide)
  have HR := Lib.hid hown.rd
  have HB1 := Lib.hid hb1
  rw [hv] at HR ⊢
  clear hown hb1 hv
  go_wp2_with fail
  (go_at_call 20; refine (A.out _).mono ?_; rintro e w2 ⟨rfl, hb2⟩; have hc2 := hb2.cells; have hf2 := hb2.frees; have hz2 := hb2.size; (try simp at hz2))
  have z1 : w1.heap.size < w2.heap.size := by omega
  go_wp2_with fail
  (go_at_call 13; refine (P.out _).mono ?_; rintro e w3 ⟨rfl, hb3⟩; have hc3 := hb3.cells; have hf3 := hb3.frees; have hz3 := hb3.size; (try simp at hz3))
  have z2 : w1.heap.size < w3.heap.size := by omega
  go_wp2_with fail
  refine (ints_same [2, -2, 0] _ _ (by decide) _ (HR.out.grow ?g1) (rd_alloc _ [2, -2, 0] _ _ _ ?g2)).mono ?_
  case g1 => (repeat (first | with_reducible exact Grow.refl _ | with_reducible refine Grow.alloc ?_ _ | with_reducible refine Grow.drew ?_ | with_reducible refine Grow.drewN ?_ _ | (with_reducible refine Grow.setCell ?_ ?hp _; (case hp => (simp; try omega))) | with_reducible refine Grow.trans ?_ (by assumption)))
  case g2 => simp
  rintro e w4 ⟨rfl, hb4⟩
  have hc4 := hb4.cells
  have hz4 := hb4.size
  simp at hz4
  have z4 : w1.heap.size < w4.heap.size := by omega
  have z5 : w3.heap.size < w4.heap.size := by omega
  go_wp2_with fail
  go_ret
  refine ⟨rfl, ?_⟩
  have hh := HB1.out
  (repeat (first | with_reducible exact Grow.refl _ | with_reducible refine Grow.alloc ?_ _ | with_reducible refine Grow.drew ?_ | with_reducible refine Grow.drewN ?_ _ | (with_reducible refine Grow.setCell ?_ ?hp _; (case hp => (simp; try omega))) | with_reducible refine Grow.trans ?_ (by assumption)))
end Go.Proofs.Ytkjcdiolimajdaa
