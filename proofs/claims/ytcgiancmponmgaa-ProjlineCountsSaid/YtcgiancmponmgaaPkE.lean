/- Walk: awake of chapter 21. -/
import Derived.Test.YtcgiancmponmgaaPkD
namespace Go.Proofs.Ytcgiancmponmgaa
open Go Go.RowKit

@[go_sem] theorem eq_pt (a b c d e f : Int) (w : World) : (Op.equalIn 10000 24 (.agg #[.int .i64 a, .int .i64 b, .int .i64 c]) (.agg #[.int .i64 d, .int .i64 e, .int .i64 f])).run Try.prog w = .ok (a == d && b == e && c == f) w := by
  have u3 := Try.underlying3
  have hS : Try.prog.underlying 24 = some (.struct (Try.prog.fieldsOf 24)) := by kernel_rfl
  rw [show (10000 : Nat) = 9999 + 1 from rfl, run_equalIn_struct w 9999 24 _ _ hS (by kernel_rfl)]
  simp only [Program.fieldsOf, Try.underlying24]
  go_simp
  by_cases h1 : a = d <;> by_cases h2 : b = e <;> by_cases h3 : c = f <;> simp [h1, h2, h3]
@[go_sem] theorem eq_m2 (a b c d e f g h : Int) (w : World) : (Op.equalIn 10000 47 (.agg #[.int .i64 a, .int .i64 b, .int .i64 c, .int .i64 d]) (.agg #[.int .i64 e, .int .i64 f, .int .i64 g, .int .i64 h])).run Try.prog w = .ok (a == e && b == f && c == g && d == h) w := by
  have u3 := Try.underlying3
  have hS : Try.prog.underlying 47 = some (.struct (Try.prog.fieldsOf 47)) := by kernel_rfl
  rw [show (10000 : Nat) = 9999 + 1 from rfl, run_equalIn_struct w 9999 47 _ _ hS (by kernel_rfl)]
  simp only [Program.fieldsOf, Try.underlying47]
  go_simp
  by_cases h1 : a = e <;> by_cases h2 : b = f <;> by_cases h3 : c = g <;> by_cases h4 : d = h <;> simp [h1, h2, h3, h4]
theorem ls4 : (lsF 4).length = 6 ∧ (lsF 4).getD 5 P3.zero = ⟨2, 1, 1⟩ := by decide +kernel
theorem nm4 : nmR 4 3 2 = (⟨1, 2, 3⟩, 0) := by
  have h : (nmR 4 3 2).1 = ⟨1, 2, 3⟩ ∧ (nmR 4 3 2).2 = 0 := by decide +kernel
  exact Prod.ext h.1 h.2
theorem lf4 : (lfR 4 5).1.a = 1 ∧ (lfR 4 5).1.b = 0 ∧ (lfR 4 5).1.c = 2 ∧ (lfR 4 5).1.d = 1 ∧ (lfR 4 5).2 = 0 := by decide +kernel
set_option maxRecDepth 20000 in
set_option maxHeartbeats 1000000 in
theorem awake21_any (w : World) : Calls Try.prog 12 #[] w fun e w' => e = .returned (.bool true) ∧ Grow w w' := by
  have LS := Lib.hid (fun u => list_core 4 (by decide) (by decide) u)
  have NM := Lib.hid (fun u => pNormal_any 4 3 2 u)
  have LF := Lib.hid (fun u => lift_any 4 5 u)
  rw [nm4] at NM
  rw [lf4.1, lf4.2.1, lf4.2.2.1, lf4.2.2.2.1, lf4.2.2.2.2] at LF
  obtain ⟨l, hl⟩ : ∃ l, lsF 4 = l := ⟨_, rfl⟩
  obtain ⟨q1, q2⟩ := ls4
  rw [hl] at LS q1 q2
  have Q1 := Lib.hid q1
  have Q2 := Lib.hid q2
  clear hl q1 q2
  go_enter Try.func12, Try.ntmps12
  go_wp2_with fail
  go_at_call 16
  with_reducible refine (LS.out _).mono ?_
  rintro e w1 ⟨v, rfl, hown, hb1⟩
  obtain ⟨g, cap, rfl, hg1, hg2⟩ := own_slice hown (by rw [Q1.out]; omega)
  have hcs := own_pts_cells hown rfl 5 (by rw [Q1.out]; omega)
  rw [Q2.out] at hcs
  obtain ⟨c0, c1, c2⟩ := hcs
  simp only at c0 c1 c2
  rw [Q1.out]
  have HB1 := Lib.hid hb1
  clear hown hb1
  go_wp2_with fail
  go_at_call 13
  with_reducible refine (NM.out _).mono ?_
  rintro e w2 ⟨rfl, hb2⟩
  have hz2 := hb2.size
  have d0 := (hb2.cells _ _ hg2).trans c0
  have d1 := (hb2.cells _ _ hg2).trans c1
  have d2 := (hb2.cells _ _ hg2).trans c2
  have hg3 : g < w2.heap.size := Nat.lt_of_lt_of_le hg2 hz2
  have HB2 := Lib.hid hb2
  clear c0 c1 c2 hb2
  go_wp2_with fail
  go_at_call 28
  with_reducible refine (LF.out _).mono ?_
  rintro e w3 ⟨rfl, hb3⟩
  have hz3 := hb3.size
  (try simp at hz3)
  have e0 : w3.cell? ⟨g, 15, none⟩ = some (.int .i64 2) := by rw [hb3.cells _ _ (by simp; omega)]; go_simp
  have e1 : w3.cell? ⟨g, 16, none⟩ = some (.int .i64 1) := by rw [hb3.cells _ _ (by simp; omega)]; go_simp
  have e2 : w3.cell? ⟨g, 17, none⟩ = some (.int .i64 1) := by rw [hb3.cells _ _ (by simp; omega)]; go_simp
  have x0 : w3.cell? ⟨w2.heap.size, 0, none⟩ = some (.int .i64 1) := by rw [hb3.cells _ _ (by simp)]; go_simp
  have x1 : w3.cell? ⟨w2.heap.size, 1, none⟩ = some (.int .i64 2) := by rw [hb3.cells _ _ (by simp)]; go_simp
  have x2 : w3.cell? ⟨w2.heap.size, 2, none⟩ = some (.int .i64 3) := by rw [hb3.cells _ _ (by simp)]; go_simp
  have hg4 : g < w3.heap.size := by omega
  have hx4 : w2.heap.size < w3.heap.size := by omega
  have HB3 := Lib.hid (((HB1.out.trans HB2.out).alloc (.cells #[.int .i64 1, .int .i64 2, .int .i64 3] 24)).trans (by first | exact hb3 | skip))
  go_wp2_with fail
  go_ret
  exact ⟨rfl, by have h3 := HB3.out; (repeat (first | with_reducible exact Grow.refl _ | with_reducible refine Grow.alloc ?_ _ | with_reducible refine Grow.drew ?_ | with_reducible refine Grow.drewN ?_ _ | (with_reducible refine Grow.setCell ?_ ?hp _; (case hp => (simp; try omega))) | with_reducible refine Grow.trans ?_ (by assumption)))⟩
end Go.Proofs.Ytcgiancmponmgaa
