/- Products are associative, the unit matrix changes nothing, and a matrix of SL2(Z) times its inverse is the unit matrix. No condition: every input. -/
import Derived.Test.YtkjcdiolimajdaaPlZ
import Derived.Test.YtkjcdiolimajdaaSlK
namespace Go.Proofs.Ytkjcdiolimajdaa.associates
open Go Go.RowKit Go.ChangeShapes Go.WideShapes Go.ChangeAt

theorem times_one (x : M2) : x.times M2.one = x := by simp [M2.times, M2.one]
theorem back_left {x : M2} (h : x.det = 1) : x.times x.back = M2.one := by
  obtain ⟨a, b, c, d⟩ := x
  simp only [M2.det] at h
  simp only [M2.times, M2.back, M2.one, M2.mk.injEq]
  refine ⟨?_, ?_, ?_, ?_⟩ <;> grind
theorem back_right {x : M2} (h : x.det = 1) : x.back.times x = M2.one := by
  obtain ⟨a, b, c, d⟩ := x
  simp only [M2.det] at h
  simp only [M2.times, M2.back, M2.one, M2.mk.injEq]
  refine ⟨?_, ?_, ?_, ?_⟩ <;> grind
theorem times_assoc (x y z : M2) : (x.times y).times z = x.times (y.times z) := by
  simp only [M2.times, M2.mk.injEq]
  refine ⟨?_, ?_, ?_, ?_⟩ <;> grind
theorem mul_ok_of {x y m : M2} (h : mulF x y = (m, 0)) : x.fits = true ∧ y.fits = true ∧ m = x.times y ∧ m.fits = true := by
  unfold mulF at h
  by_cases k : (x.fits && y.fits) = true
  · rw [if_pos k] at h
    by_cases k' : (x.times y).fits = true
    · rw [if_pos k'] at h
      obtain ⟨rfl, -⟩ := Prod.mk.inj h
      simp only [Bool.and_eq_true] at k
      exact ⟨k.1, k.2, rfl, k'⟩
    · rw [if_neg k'] at h; simp at h
  · rw [if_neg k] at h; simp at h
theorem assoc {x y z a b : M2} (h1 : mulF x y = (a, 0)) (h2 : mulF y z = (b, 0)) : mulF a z = mulF x b := by
  obtain ⟨x1, x2, rfl, x4⟩ := mul_ok_of h1
  obtain ⟨y1, y2, rfl, y4⟩ := mul_ok_of h2
  rw [mulF_ok x4 y2, mulF_ok x1 y4, times_assoc]

set_option maxHeartbeats 4000000 in
theorem walk_sl_ok (x y z : M2) (v : M2) (a b c : M2) (g : Int)
    (M1 : Hid (∀ w, Calls Try.prog 19 #[.agg #[.int .i64 x.a, .int .i64 x.b, .int .i64 x.c, .int .i64 x.d], .agg #[.int .i64 1, .int .i64 0, .int .i64 0, .int .i64 1]] w fun e w' => e = .returned (.tuple #[.agg #[.int .i64 x.a, .int .i64 x.b, .int .i64 x.c, .int .i64 x.d], .int .i64 0]) ∧ Grow w w')) (I1 : Hid (∀ w, Calls Try.prog 25 #[.agg #[.int .i64 x.a, .int .i64 x.b, .int .i64 x.c, .int .i64 x.d]] w fun e w' => e = .returned (.tuple #[.agg #[.int .i64 v.a, .int .i64 v.b, .int .i64 v.c, .int .i64 v.d], .int .i64 0]) ∧ Grow w w')) (M2x : Hid (∀ w, Calls Try.prog 19 #[.agg #[.int .i64 x.a, .int .i64 x.b, .int .i64 x.c, .int .i64 x.d], .agg #[.int .i64 v.a, .int .i64 v.b, .int .i64 v.c, .int .i64 v.d]] w fun e w' => e = .returned (.tuple #[.agg #[.int .i64 1, .int .i64 0, .int .i64 0, .int .i64 1], .int .i64 0]) ∧ Grow w w')) (M3 : Hid (∀ w, Calls Try.prog 19 #[.agg #[.int .i64 v.a, .int .i64 v.b, .int .i64 v.c, .int .i64 v.d], .agg #[.int .i64 x.a, .int .i64 x.b, .int .i64 x.c, .int .i64 x.d]] w fun e w' => e = .returned (.tuple #[.agg #[.int .i64 1, .int .i64 0, .int .i64 0, .int .i64 1], .int .i64 0]) ∧ Grow w w'))
    (A : Hid (∀ w, Calls Try.prog 19 #[.agg #[.int .i64 x.a, .int .i64 x.b, .int .i64 x.c, .int .i64 x.d], .agg #[.int .i64 y.a, .int .i64 y.b, .int .i64 y.c, .int .i64 y.d]] w fun e w' => e = .returned (.tuple #[.agg #[.int .i64 a.a, .int .i64 a.b, .int .i64 a.c, .int .i64 a.d], .int .i64 0]) ∧ Grow w w')) (B : Hid (∀ w, Calls Try.prog 19 #[.agg #[.int .i64 y.a, .int .i64 y.b, .int .i64 y.c, .int .i64 y.d], .agg #[.int .i64 z.a, .int .i64 z.b, .int .i64 z.c, .int .i64 z.d]] w fun e w' => e = .returned (.tuple #[.agg #[.int .i64 b.a, .int .i64 b.b, .int .i64 b.c, .int .i64 b.d], .int .i64 0]) ∧ Grow w w')) (C : Hid (∀ w, Calls Try.prog 19 #[.agg #[.int .i64 a.a, .int .i64 a.b, .int .i64 a.c, .int .i64 a.d], .agg #[.int .i64 z.a, .int .i64 z.b, .int .i64 z.c, .int .i64 z.d]] w fun e w' => e = .returned (.tuple #[.agg #[.int .i64 c.a, .int .i64 c.b, .int .i64 c.c, .int .i64 c.d], .int .i64 g]) ∧ Grow w w')) (D : Hid (∀ w, Calls Try.prog 19 #[.agg #[.int .i64 x.a, .int .i64 x.b, .int .i64 x.c, .int .i64 x.d], .agg #[.int .i64 b.a, .int .i64 b.b, .int .i64 b.c, .int .i64 b.d]] w fun e w' => e = .returned (.tuple #[.agg #[.int .i64 c.a, .int .i64 c.b, .int .i64 c.c, .int .i64 c.d], .int .i64 g]) ∧ Grow w w')) (w : World) :
    Calls Try.prog 8 #[.agg #[.int .i64 x.a, .int .i64 x.b, .int .i64 x.c, .int .i64 x.d], .agg #[.int .i64 y.a, .int .i64 y.b, .int .i64 y.c, .int .i64 y.d], .agg #[.int .i64 z.a, .int .i64 z.b, .int .i64 z.c, .int .i64 z.d]] w fun e w' => e = .returned (.bool true) ∧ Grow w w' := by
  go_enter Try.func8, Try.ntmps8
  go_wp2_with fail
  (go_at_call 12; refine (awake18_any _).mono ?_; rintro e w1 ⟨rfl, hb1⟩; have hc1 := hb1.cells; have hf1 := hb1.frees; have hz1 := hb1.size; (try simp at hz1))
  have zw1_0 : w.heap.size < w1.heap.size := (by omega); have zw1_1 : w.heap.size + 1 < w1.heap.size := (by omega); have zw1_2 : w.heap.size + 1 + 1 < w1.heap.size := (by omega)
  go_wp2_with fail
  (go_at_call 19; refine (M1.out _).mono ?_; rintro e w2 ⟨rfl, hb2⟩; have hc2 := hb2.cells; have hf2 := hb2.frees; have hz2 := hb2.size; (try simp at hz2))
  have zw2_0 : w.heap.size < w2.heap.size := (by omega); have zw2_1 : w.heap.size + 1 < w2.heap.size := (by omega); have zw2_2 : w.heap.size + 1 + 1 < w2.heap.size := (by omega); have zw2_3 : w1.heap.size < w2.heap.size := (by omega)
  go_wp2_with fail
  (go_at_call 25; refine (I1.out _).mono ?_; rintro e w3 ⟨rfl, hb3⟩; have hc3 := hb3.cells; have hf3 := hb3.frees; have hz3 := hb3.size; (try simp at hz3))
  have zw3_0 : w.heap.size < w3.heap.size := (by omega); have zw3_1 : w.heap.size + 1 < w3.heap.size := (by omega); have zw3_2 : w.heap.size + 1 + 1 < w3.heap.size := (by omega); have zw3_3 : w1.heap.size < w3.heap.size := (by omega); have zw3_4 : w2.heap.size < w3.heap.size := (by omega)
  go_wp2_with fail
  (go_at_call 19; refine (M2x.out _).mono ?_; rintro e w4 ⟨rfl, hb4⟩; have hc4 := hb4.cells; have hf4 := hb4.frees; have hz4 := hb4.size; (try simp at hz4))
  have zw4_0 : w.heap.size < w4.heap.size := (by omega); have zw4_1 : w.heap.size + 1 < w4.heap.size := (by omega); have zw4_2 : w.heap.size + 1 + 1 < w4.heap.size := (by omega); have zw4_3 : w1.heap.size < w4.heap.size := (by omega); have zw4_4 : w2.heap.size < w4.heap.size := (by omega); have zw4_5 : w3.heap.size < w4.heap.size := (by omega)
  go_wp2_with fail
  (go_at_call 19; refine (M3.out _).mono ?_; rintro e w5 ⟨rfl, hb5⟩; have hc5 := hb5.cells; have hf5 := hb5.frees; have hz5 := hb5.size; (try simp at hz5))
  have zw5_0 : w.heap.size < w5.heap.size := (by omega); have zw5_1 : w.heap.size + 1 < w5.heap.size := (by omega); have zw5_2 : w.heap.size + 1 + 1 < w5.heap.size := (by omega); have zw5_3 : w1.heap.size < w5.heap.size := (by omega); have zw5_4 : w2.heap.size < w5.heap.size := (by omega); have zw5_5 : w3.heap.size < w5.heap.size := (by omega); have zw5_6 : w4.heap.size < w5.heap.size := (by omega)
  go_wp2_with fail
  (go_at_call 19; refine (A.out _).mono ?_; rintro e w6 ⟨rfl, hb6⟩; have hc6 := hb6.cells; have hf6 := hb6.frees; have hz6 := hb6.size; (try simp at hz6))
  have zw6_0 : w.heap.size < w6.heap.size := (by omega); have zw6_1 : w.heap.size + 1 < w6.heap.size := (by omega); have zw6_2 : w.heap.size + 1 + 1 < w6.heap.size := (by omega); have zw6_3 : w1.heap.size < w6.heap.size := (by omega); have zw6_4 : w2.heap.size < w6.heap.size := (by omega); have zw6_5 : w3.heap.size < w6.heap.size := (by omega); have zw6_6 : w4.heap.size < w6.heap.size := (by omega); have zw6_7 : w5.heap.size < w6.heap.size := (by omega)
  go_wp2_with fail
  (go_at_call 19; refine (B.out _).mono ?_; rintro e w7 ⟨rfl, hb7⟩; have hc7 := hb7.cells; have hf7 := hb7.frees; have hz7 := hb7.size; (try simp at hz7))
  have zw7_0 : w.heap.size < w7.heap.size := (by omega); have zw7_1 : w.heap.size + 1 < w7.heap.size := (by omega); have zw7_2 : w.heap.size + 1 + 1 < w7.heap.size := (by omega); have zw7_3 : w1.heap.size < w7.heap.size := (by omega); have zw7_4 : w2.heap.size < w7.heap.size := (by omega); have zw7_5 : w3.heap.size < w7.heap.size := (by omega); have zw7_6 : w4.heap.size < w7.heap.size := (by omega); have zw7_7 : w5.heap.size < w7.heap.size := (by omega); have zw7_8 : w6.heap.size < w7.heap.size := (by omega)
  go_wp2_with fail
  (go_at_call 19; refine (C.out _).mono ?_; rintro e w8 ⟨rfl, hb8⟩; have hc8 := hb8.cells; have hf8 := hb8.frees; have hz8 := hb8.size; (try simp at hz8))
  have zw8_0 : w.heap.size < w8.heap.size := (by omega); have zw8_1 : w.heap.size + 1 < w8.heap.size := (by omega); have zw8_2 : w.heap.size + 1 + 1 < w8.heap.size := (by omega); have zw8_3 : w1.heap.size < w8.heap.size := (by omega); have zw8_4 : w2.heap.size < w8.heap.size := (by omega); have zw8_5 : w3.heap.size < w8.heap.size := (by omega); have zw8_6 : w4.heap.size < w8.heap.size := (by omega); have zw8_7 : w5.heap.size < w8.heap.size := (by omega); have zw8_8 : w6.heap.size < w8.heap.size := (by omega); have zw8_9 : w7.heap.size < w8.heap.size := (by omega)
  go_wp2_with fail
  (go_at_call 19; refine (D.out _).mono ?_; rintro e w9 ⟨rfl, hb9⟩; have hc9 := hb9.cells; have hf9 := hb9.frees; have hz9 := hb9.size; (try simp at hz9))
  have zw9_0 : w.heap.size < w9.heap.size := (by omega); have zw9_1 : w.heap.size + 1 < w9.heap.size := (by omega); have zw9_2 : w.heap.size + 1 + 1 < w9.heap.size := (by omega); have zw9_3 : w1.heap.size < w9.heap.size := (by omega); have zw9_4 : w2.heap.size < w9.heap.size := (by omega); have zw9_5 : w3.heap.size < w9.heap.size := (by omega); have zw9_6 : w4.heap.size < w9.heap.size := (by omega); have zw9_7 : w5.heap.size < w9.heap.size := (by omega); have zw9_8 : w6.heap.size < w9.heap.size := (by omega); have zw9_9 : w7.heap.size < w9.heap.size := (by omega); have zw9_10 : w8.heap.size < w9.heap.size := (by omega)
  go_wp2_with fail
  go_ret
  exact ⟨rfl, by (repeat (first | with_reducible exact Grow.refl _ | with_reducible refine Grow.alloc ?_ _ | with_reducible refine Grow.drew ?_ | with_reducible refine Grow.drewN ?_ _ | (with_reducible refine Grow.setCell ?_ ?hp _; (case hp => (simp; try omega))) | with_reducible refine Grow.trans ?_ (by assumption)))⟩

set_option maxHeartbeats 4000000 in
theorem walk_sl_e1 (x y z : M2) (v : M2) (a b : M2) (ea f : Int)
    (M1 : Hid (∀ w, Calls Try.prog 19 #[.agg #[.int .i64 x.a, .int .i64 x.b, .int .i64 x.c, .int .i64 x.d], .agg #[.int .i64 1, .int .i64 0, .int .i64 0, .int .i64 1]] w fun e w' => e = .returned (.tuple #[.agg #[.int .i64 x.a, .int .i64 x.b, .int .i64 x.c, .int .i64 x.d], .int .i64 0]) ∧ Grow w w')) (I1 : Hid (∀ w, Calls Try.prog 25 #[.agg #[.int .i64 x.a, .int .i64 x.b, .int .i64 x.c, .int .i64 x.d]] w fun e w' => e = .returned (.tuple #[.agg #[.int .i64 v.a, .int .i64 v.b, .int .i64 v.c, .int .i64 v.d], .int .i64 0]) ∧ Grow w w')) (M2x : Hid (∀ w, Calls Try.prog 19 #[.agg #[.int .i64 x.a, .int .i64 x.b, .int .i64 x.c, .int .i64 x.d], .agg #[.int .i64 v.a, .int .i64 v.b, .int .i64 v.c, .int .i64 v.d]] w fun e w' => e = .returned (.tuple #[.agg #[.int .i64 1, .int .i64 0, .int .i64 0, .int .i64 1], .int .i64 0]) ∧ Grow w w')) (M3 : Hid (∀ w, Calls Try.prog 19 #[.agg #[.int .i64 v.a, .int .i64 v.b, .int .i64 v.c, .int .i64 v.d], .agg #[.int .i64 x.a, .int .i64 x.b, .int .i64 x.c, .int .i64 x.d]] w fun e w' => e = .returned (.tuple #[.agg #[.int .i64 1, .int .i64 0, .int .i64 0, .int .i64 1], .int .i64 0]) ∧ Grow w w'))
    (A : Hid (∀ w, Calls Try.prog 19 #[.agg #[.int .i64 x.a, .int .i64 x.b, .int .i64 x.c, .int .i64 x.d], .agg #[.int .i64 y.a, .int .i64 y.b, .int .i64 y.c, .int .i64 y.d]] w fun e w' => e = .returned (.tuple #[.agg #[.int .i64 a.a, .int .i64 a.b, .int .i64 a.c, .int .i64 a.d], .int .i64 ea]) ∧ Grow w w')) (k1 : (ea != 0) = true) (B : Hid (∀ w, Calls Try.prog 19 #[.agg #[.int .i64 y.a, .int .i64 y.b, .int .i64 y.c, .int .i64 y.d], .agg #[.int .i64 z.a, .int .i64 z.b, .int .i64 z.c, .int .i64 z.d]] w fun e w' => e = .returned (.tuple #[.agg #[.int .i64 b.a, .int .i64 b.b, .int .i64 b.c, .int .i64 b.d], .int .i64 f]) ∧ Grow w w')) (w : World) :
    Calls Try.prog 8 #[.agg #[.int .i64 x.a, .int .i64 x.b, .int .i64 x.c, .int .i64 x.d], .agg #[.int .i64 y.a, .int .i64 y.b, .int .i64 y.c, .int .i64 y.d], .agg #[.int .i64 z.a, .int .i64 z.b, .int .i64 z.c, .int .i64 z.d]] w fun e w' => e = .returned (.bool true) ∧ Grow w w' := by
  go_enter Try.func8, Try.ntmps8
  go_wp2_with fail
  (go_at_call 12; refine (awake18_any _).mono ?_; rintro e w1 ⟨rfl, hb1⟩; have hc1 := hb1.cells; have hf1 := hb1.frees; have hz1 := hb1.size; (try simp at hz1))
  have zw1_0 : w.heap.size < w1.heap.size := (by omega); have zw1_1 : w.heap.size + 1 < w1.heap.size := (by omega); have zw1_2 : w.heap.size + 1 + 1 < w1.heap.size := (by omega)
  go_wp2_with fail
  (go_at_call 19; refine (M1.out _).mono ?_; rintro e w2 ⟨rfl, hb2⟩; have hc2 := hb2.cells; have hf2 := hb2.frees; have hz2 := hb2.size; (try simp at hz2))
  have zw2_0 : w.heap.size < w2.heap.size := (by omega); have zw2_1 : w.heap.size + 1 < w2.heap.size := (by omega); have zw2_2 : w.heap.size + 1 + 1 < w2.heap.size := (by omega); have zw2_3 : w1.heap.size < w2.heap.size := (by omega)
  go_wp2_with fail
  (go_at_call 25; refine (I1.out _).mono ?_; rintro e w3 ⟨rfl, hb3⟩; have hc3 := hb3.cells; have hf3 := hb3.frees; have hz3 := hb3.size; (try simp at hz3))
  have zw3_0 : w.heap.size < w3.heap.size := (by omega); have zw3_1 : w.heap.size + 1 < w3.heap.size := (by omega); have zw3_2 : w.heap.size + 1 + 1 < w3.heap.size := (by omega); have zw3_3 : w1.heap.size < w3.heap.size := (by omega); have zw3_4 : w2.heap.size < w3.heap.size := (by omega)
  go_wp2_with fail
  (go_at_call 19; refine (M2x.out _).mono ?_; rintro e w4 ⟨rfl, hb4⟩; have hc4 := hb4.cells; have hf4 := hb4.frees; have hz4 := hb4.size; (try simp at hz4))
  have zw4_0 : w.heap.size < w4.heap.size := (by omega); have zw4_1 : w.heap.size + 1 < w4.heap.size := (by omega); have zw4_2 : w.heap.size + 1 + 1 < w4.heap.size := (by omega); have zw4_3 : w1.heap.size < w4.heap.size := (by omega); have zw4_4 : w2.heap.size < w4.heap.size := (by omega); have zw4_5 : w3.heap.size < w4.heap.size := (by omega)
  go_wp2_with fail
  (go_at_call 19; refine (M3.out _).mono ?_; rintro e w5 ⟨rfl, hb5⟩; have hc5 := hb5.cells; have hf5 := hb5.frees; have hz5 := hb5.size; (try simp at hz5))
  have zw5_0 : w.heap.size < w5.heap.size := (by omega); have zw5_1 : w.heap.size + 1 < w5.heap.size := (by omega); have zw5_2 : w.heap.size + 1 + 1 < w5.heap.size := (by omega); have zw5_3 : w1.heap.size < w5.heap.size := (by omega); have zw5_4 : w2.heap.size < w5.heap.size := (by omega); have zw5_5 : w3.heap.size < w5.heap.size := (by omega); have zw5_6 : w4.heap.size < w5.heap.size := (by omega)
  go_wp2_with fail
  (go_at_call 19; refine (A.out _).mono ?_; rintro e w6 ⟨rfl, hb6⟩; have hc6 := hb6.cells; have hf6 := hb6.frees; have hz6 := hb6.size; (try simp at hz6))
  have zw6_0 : w.heap.size < w6.heap.size := (by omega); have zw6_1 : w.heap.size + 1 < w6.heap.size := (by omega); have zw6_2 : w.heap.size + 1 + 1 < w6.heap.size := (by omega); have zw6_3 : w1.heap.size < w6.heap.size := (by omega); have zw6_4 : w2.heap.size < w6.heap.size := (by omega); have zw6_5 : w3.heap.size < w6.heap.size := (by omega); have zw6_6 : w4.heap.size < w6.heap.size := (by omega); have zw6_7 : w5.heap.size < w6.heap.size := (by omega)
  go_wp2_with fail
  (go_at_call 19; refine (B.out _).mono ?_; rintro e w7 ⟨rfl, hb7⟩; have hc7 := hb7.cells; have hf7 := hb7.frees; have hz7 := hb7.size; (try simp at hz7))
  have zw7_0 : w.heap.size < w7.heap.size := (by omega); have zw7_1 : w.heap.size + 1 < w7.heap.size := (by omega); have zw7_2 : w.heap.size + 1 + 1 < w7.heap.size := (by omega); have zw7_3 : w1.heap.size < w7.heap.size := (by omega); have zw7_4 : w2.heap.size < w7.heap.size := (by omega); have zw7_5 : w3.heap.size < w7.heap.size := (by omega); have zw7_6 : w4.heap.size < w7.heap.size := (by omega); have zw7_7 : w5.heap.size < w7.heap.size := (by omega); have zw7_8 : w6.heap.size < w7.heap.size := (by omega)
  go_wp2_with fail
  go_ret
  exact ⟨rfl, by (repeat (first | with_reducible exact Grow.refl _ | with_reducible refine Grow.alloc ?_ _ | with_reducible refine Grow.drew ?_ | with_reducible refine Grow.drewN ?_ _ | (with_reducible refine Grow.setCell ?_ ?hp _; (case hp => (simp; try omega))) | with_reducible refine Grow.trans ?_ (by assumption)))⟩

set_option maxHeartbeats 4000000 in
theorem walk_sl_e2 (x y z : M2) (v : M2) (a b : M2) (f : Int)
    (M1 : Hid (∀ w, Calls Try.prog 19 #[.agg #[.int .i64 x.a, .int .i64 x.b, .int .i64 x.c, .int .i64 x.d], .agg #[.int .i64 1, .int .i64 0, .int .i64 0, .int .i64 1]] w fun e w' => e = .returned (.tuple #[.agg #[.int .i64 x.a, .int .i64 x.b, .int .i64 x.c, .int .i64 x.d], .int .i64 0]) ∧ Grow w w')) (I1 : Hid (∀ w, Calls Try.prog 25 #[.agg #[.int .i64 x.a, .int .i64 x.b, .int .i64 x.c, .int .i64 x.d]] w fun e w' => e = .returned (.tuple #[.agg #[.int .i64 v.a, .int .i64 v.b, .int .i64 v.c, .int .i64 v.d], .int .i64 0]) ∧ Grow w w')) (M2x : Hid (∀ w, Calls Try.prog 19 #[.agg #[.int .i64 x.a, .int .i64 x.b, .int .i64 x.c, .int .i64 x.d], .agg #[.int .i64 v.a, .int .i64 v.b, .int .i64 v.c, .int .i64 v.d]] w fun e w' => e = .returned (.tuple #[.agg #[.int .i64 1, .int .i64 0, .int .i64 0, .int .i64 1], .int .i64 0]) ∧ Grow w w')) (M3 : Hid (∀ w, Calls Try.prog 19 #[.agg #[.int .i64 v.a, .int .i64 v.b, .int .i64 v.c, .int .i64 v.d], .agg #[.int .i64 x.a, .int .i64 x.b, .int .i64 x.c, .int .i64 x.d]] w fun e w' => e = .returned (.tuple #[.agg #[.int .i64 1, .int .i64 0, .int .i64 0, .int .i64 1], .int .i64 0]) ∧ Grow w w'))
    (A : Hid (∀ w, Calls Try.prog 19 #[.agg #[.int .i64 x.a, .int .i64 x.b, .int .i64 x.c, .int .i64 x.d], .agg #[.int .i64 y.a, .int .i64 y.b, .int .i64 y.c, .int .i64 y.d]] w fun e w' => e = .returned (.tuple #[.agg #[.int .i64 a.a, .int .i64 a.b, .int .i64 a.c, .int .i64 a.d], .int .i64 0]) ∧ Grow w w')) (B : Hid (∀ w, Calls Try.prog 19 #[.agg #[.int .i64 y.a, .int .i64 y.b, .int .i64 y.c, .int .i64 y.d], .agg #[.int .i64 z.a, .int .i64 z.b, .int .i64 z.c, .int .i64 z.d]] w fun e w' => e = .returned (.tuple #[.agg #[.int .i64 b.a, .int .i64 b.b, .int .i64 b.c, .int .i64 b.d], .int .i64 f]) ∧ Grow w w')) (k2 : (f != 0) = true) (w : World) :
    Calls Try.prog 8 #[.agg #[.int .i64 x.a, .int .i64 x.b, .int .i64 x.c, .int .i64 x.d], .agg #[.int .i64 y.a, .int .i64 y.b, .int .i64 y.c, .int .i64 y.d], .agg #[.int .i64 z.a, .int .i64 z.b, .int .i64 z.c, .int .i64 z.d]] w fun e w' => e = .returned (.bool true) ∧ Grow w w' := by
  go_enter Try.func8, Try.ntmps8
  go_wp2_with fail
  (go_at_call 12; refine (awake18_any _).mono ?_; rintro e w1 ⟨rfl, hb1⟩; have hc1 := hb1.cells; have hf1 := hb1.frees; have hz1 := hb1.size; (try simp at hz1))
  have zw1_0 : w.heap.size < w1.heap.size := (by omega); have zw1_1 : w.heap.size + 1 < w1.heap.size := (by omega); have zw1_2 : w.heap.size + 1 + 1 < w1.heap.size := (by omega)
  go_wp2_with fail
  (go_at_call 19; refine (M1.out _).mono ?_; rintro e w2 ⟨rfl, hb2⟩; have hc2 := hb2.cells; have hf2 := hb2.frees; have hz2 := hb2.size; (try simp at hz2))
  have zw2_0 : w.heap.size < w2.heap.size := (by omega); have zw2_1 : w.heap.size + 1 < w2.heap.size := (by omega); have zw2_2 : w.heap.size + 1 + 1 < w2.heap.size := (by omega); have zw2_3 : w1.heap.size < w2.heap.size := (by omega)
  go_wp2_with fail
  (go_at_call 25; refine (I1.out _).mono ?_; rintro e w3 ⟨rfl, hb3⟩; have hc3 := hb3.cells; have hf3 := hb3.frees; have hz3 := hb3.size; (try simp at hz3))
  have zw3_0 : w.heap.size < w3.heap.size := (by omega); have zw3_1 : w.heap.size + 1 < w3.heap.size := (by omega); have zw3_2 : w.heap.size + 1 + 1 < w3.heap.size := (by omega); have zw3_3 : w1.heap.size < w3.heap.size := (by omega); have zw3_4 : w2.heap.size < w3.heap.size := (by omega)
  go_wp2_with fail
  (go_at_call 19; refine (M2x.out _).mono ?_; rintro e w4 ⟨rfl, hb4⟩; have hc4 := hb4.cells; have hf4 := hb4.frees; have hz4 := hb4.size; (try simp at hz4))
  have zw4_0 : w.heap.size < w4.heap.size := (by omega); have zw4_1 : w.heap.size + 1 < w4.heap.size := (by omega); have zw4_2 : w.heap.size + 1 + 1 < w4.heap.size := (by omega); have zw4_3 : w1.heap.size < w4.heap.size := (by omega); have zw4_4 : w2.heap.size < w4.heap.size := (by omega); have zw4_5 : w3.heap.size < w4.heap.size := (by omega)
  go_wp2_with fail
  (go_at_call 19; refine (M3.out _).mono ?_; rintro e w5 ⟨rfl, hb5⟩; have hc5 := hb5.cells; have hf5 := hb5.frees; have hz5 := hb5.size; (try simp at hz5))
  have zw5_0 : w.heap.size < w5.heap.size := (by omega); have zw5_1 : w.heap.size + 1 < w5.heap.size := (by omega); have zw5_2 : w.heap.size + 1 + 1 < w5.heap.size := (by omega); have zw5_3 : w1.heap.size < w5.heap.size := (by omega); have zw5_4 : w2.heap.size < w5.heap.size := (by omega); have zw5_5 : w3.heap.size < w5.heap.size := (by omega); have zw5_6 : w4.heap.size < w5.heap.size := (by omega)
  go_wp2_with fail
  (go_at_call 19; refine (A.out _).mono ?_; rintro e w6 ⟨rfl, hb6⟩; have hc6 := hb6.cells; have hf6 := hb6.frees; have hz6 := hb6.size; (try simp at hz6))
  have zw6_0 : w.heap.size < w6.heap.size := (by omega); have zw6_1 : w.heap.size + 1 < w6.heap.size := (by omega); have zw6_2 : w.heap.size + 1 + 1 < w6.heap.size := (by omega); have zw6_3 : w1.heap.size < w6.heap.size := (by omega); have zw6_4 : w2.heap.size < w6.heap.size := (by omega); have zw6_5 : w3.heap.size < w6.heap.size := (by omega); have zw6_6 : w4.heap.size < w6.heap.size := (by omega); have zw6_7 : w5.heap.size < w6.heap.size := (by omega)
  go_wp2_with fail
  (go_at_call 19; refine (B.out _).mono ?_; rintro e w7 ⟨rfl, hb7⟩; have hc7 := hb7.cells; have hf7 := hb7.frees; have hz7 := hb7.size; (try simp at hz7))
  have zw7_0 : w.heap.size < w7.heap.size := (by omega); have zw7_1 : w.heap.size + 1 < w7.heap.size := (by omega); have zw7_2 : w.heap.size + 1 + 1 < w7.heap.size := (by omega); have zw7_3 : w1.heap.size < w7.heap.size := (by omega); have zw7_4 : w2.heap.size < w7.heap.size := (by omega); have zw7_5 : w3.heap.size < w7.heap.size := (by omega); have zw7_6 : w4.heap.size < w7.heap.size := (by omega); have zw7_7 : w5.heap.size < w7.heap.size := (by omega); have zw7_8 : w6.heap.size < w7.heap.size := (by omega)
  go_wp2_with fail
  go_ret
  exact ⟨rfl, by (repeat (first | with_reducible exact Grow.refl _ | with_reducible refine Grow.alloc ?_ _ | with_reducible refine Grow.drew ?_ | with_reducible refine Grow.drewN ?_ _ | (with_reducible refine Grow.setCell ?_ ?hp _; (case hp => (simp; try omega))) | with_reducible refine Grow.trans ?_ (by assumption)))⟩

set_option maxHeartbeats 4000000 in
theorem walk_fit_ok (x y z : M2) (v : M2) (i : Int) (a b c : M2) (g : Int)
    (M1 : Hid (∀ w, Calls Try.prog 19 #[.agg #[.int .i64 x.a, .int .i64 x.b, .int .i64 x.c, .int .i64 x.d], .agg #[.int .i64 1, .int .i64 0, .int .i64 0, .int .i64 1]] w fun e w' => e = .returned (.tuple #[.agg #[.int .i64 x.a, .int .i64 x.b, .int .i64 x.c, .int .i64 x.d], .int .i64 0]) ∧ Grow w w')) (I1 : Hid (∀ w, Calls Try.prog 25 #[.agg #[.int .i64 x.a, .int .i64 x.b, .int .i64 x.c, .int .i64 x.d]] w fun e w' => e = .returned (.tuple #[.agg #[.int .i64 v.a, .int .i64 v.b, .int .i64 v.c, .int .i64 v.d], .int .i64 i]) ∧ Grow w w')) (i1 : (i == 0) = false)
    (A : Hid (∀ w, Calls Try.prog 19 #[.agg #[.int .i64 x.a, .int .i64 x.b, .int .i64 x.c, .int .i64 x.d], .agg #[.int .i64 y.a, .int .i64 y.b, .int .i64 y.c, .int .i64 y.d]] w fun e w' => e = .returned (.tuple #[.agg #[.int .i64 a.a, .int .i64 a.b, .int .i64 a.c, .int .i64 a.d], .int .i64 0]) ∧ Grow w w')) (B : Hid (∀ w, Calls Try.prog 19 #[.agg #[.int .i64 y.a, .int .i64 y.b, .int .i64 y.c, .int .i64 y.d], .agg #[.int .i64 z.a, .int .i64 z.b, .int .i64 z.c, .int .i64 z.d]] w fun e w' => e = .returned (.tuple #[.agg #[.int .i64 b.a, .int .i64 b.b, .int .i64 b.c, .int .i64 b.d], .int .i64 0]) ∧ Grow w w')) (C : Hid (∀ w, Calls Try.prog 19 #[.agg #[.int .i64 a.a, .int .i64 a.b, .int .i64 a.c, .int .i64 a.d], .agg #[.int .i64 z.a, .int .i64 z.b, .int .i64 z.c, .int .i64 z.d]] w fun e w' => e = .returned (.tuple #[.agg #[.int .i64 c.a, .int .i64 c.b, .int .i64 c.c, .int .i64 c.d], .int .i64 g]) ∧ Grow w w')) (D : Hid (∀ w, Calls Try.prog 19 #[.agg #[.int .i64 x.a, .int .i64 x.b, .int .i64 x.c, .int .i64 x.d], .agg #[.int .i64 b.a, .int .i64 b.b, .int .i64 b.c, .int .i64 b.d]] w fun e w' => e = .returned (.tuple #[.agg #[.int .i64 c.a, .int .i64 c.b, .int .i64 c.c, .int .i64 c.d], .int .i64 g]) ∧ Grow w w')) (w : World) :
    Calls Try.prog 8 #[.agg #[.int .i64 x.a, .int .i64 x.b, .int .i64 x.c, .int .i64 x.d], .agg #[.int .i64 y.a, .int .i64 y.b, .int .i64 y.c, .int .i64 y.d], .agg #[.int .i64 z.a, .int .i64 z.b, .int .i64 z.c, .int .i64 z.d]] w fun e w' => e = .returned (.bool true) ∧ Grow w w' := by
  go_enter Try.func8, Try.ntmps8
  go_wp2_with fail
  (go_at_call 12; refine (awake18_any _).mono ?_; rintro e w1 ⟨rfl, hb1⟩; have hc1 := hb1.cells; have hf1 := hb1.frees; have hz1 := hb1.size; (try simp at hz1))
  have zw1_0 : w.heap.size < w1.heap.size := (by omega); have zw1_1 : w.heap.size + 1 < w1.heap.size := (by omega); have zw1_2 : w.heap.size + 1 + 1 < w1.heap.size := (by omega)
  go_wp2_with fail
  (go_at_call 19; refine (M1.out _).mono ?_; rintro e w2 ⟨rfl, hb2⟩; have hc2 := hb2.cells; have hf2 := hb2.frees; have hz2 := hb2.size; (try simp at hz2))
  have zw2_0 : w.heap.size < w2.heap.size := (by omega); have zw2_1 : w.heap.size + 1 < w2.heap.size := (by omega); have zw2_2 : w.heap.size + 1 + 1 < w2.heap.size := (by omega); have zw2_3 : w1.heap.size < w2.heap.size := (by omega)
  go_wp2_with fail
  (go_at_call 25; refine (I1.out _).mono ?_; rintro e w3 ⟨rfl, hb3⟩; have hc3 := hb3.cells; have hf3 := hb3.frees; have hz3 := hb3.size; (try simp at hz3))
  have zw3_0 : w.heap.size < w3.heap.size := (by omega); have zw3_1 : w.heap.size + 1 < w3.heap.size := (by omega); have zw3_2 : w.heap.size + 1 + 1 < w3.heap.size := (by omega); have zw3_3 : w1.heap.size < w3.heap.size := (by omega); have zw3_4 : w2.heap.size < w3.heap.size := (by omega)
  go_wp2_with fail
  (go_at_call 19; refine (A.out _).mono ?_; rintro e w4 ⟨rfl, hb4⟩; have hc4 := hb4.cells; have hf4 := hb4.frees; have hz4 := hb4.size; (try simp at hz4))
  have zw4_0 : w.heap.size < w4.heap.size := (by omega); have zw4_1 : w.heap.size + 1 < w4.heap.size := (by omega); have zw4_2 : w.heap.size + 1 + 1 < w4.heap.size := (by omega); have zw4_3 : w1.heap.size < w4.heap.size := (by omega); have zw4_4 : w2.heap.size < w4.heap.size := (by omega); have zw4_5 : w3.heap.size < w4.heap.size := (by omega)
  go_wp2_with fail
  (go_at_call 19; refine (B.out _).mono ?_; rintro e w5 ⟨rfl, hb5⟩; have hc5 := hb5.cells; have hf5 := hb5.frees; have hz5 := hb5.size; (try simp at hz5))
  have zw5_0 : w.heap.size < w5.heap.size := (by omega); have zw5_1 : w.heap.size + 1 < w5.heap.size := (by omega); have zw5_2 : w.heap.size + 1 + 1 < w5.heap.size := (by omega); have zw5_3 : w1.heap.size < w5.heap.size := (by omega); have zw5_4 : w2.heap.size < w5.heap.size := (by omega); have zw5_5 : w3.heap.size < w5.heap.size := (by omega); have zw5_6 : w4.heap.size < w5.heap.size := (by omega)
  go_wp2_with fail
  (go_at_call 19; refine (C.out _).mono ?_; rintro e w6 ⟨rfl, hb6⟩; have hc6 := hb6.cells; have hf6 := hb6.frees; have hz6 := hb6.size; (try simp at hz6))
  have zw6_0 : w.heap.size < w6.heap.size := (by omega); have zw6_1 : w.heap.size + 1 < w6.heap.size := (by omega); have zw6_2 : w.heap.size + 1 + 1 < w6.heap.size := (by omega); have zw6_3 : w1.heap.size < w6.heap.size := (by omega); have zw6_4 : w2.heap.size < w6.heap.size := (by omega); have zw6_5 : w3.heap.size < w6.heap.size := (by omega); have zw6_6 : w4.heap.size < w6.heap.size := (by omega); have zw6_7 : w5.heap.size < w6.heap.size := (by omega)
  go_wp2_with fail
  (go_at_call 19; refine (D.out _).mono ?_; rintro e w7 ⟨rfl, hb7⟩; have hc7 := hb7.cells; have hf7 := hb7.frees; have hz7 := hb7.size; (try simp at hz7))
  have zw7_0 : w.heap.size < w7.heap.size := (by omega); have zw7_1 : w.heap.size + 1 < w7.heap.size := (by omega); have zw7_2 : w.heap.size + 1 + 1 < w7.heap.size := (by omega); have zw7_3 : w1.heap.size < w7.heap.size := (by omega); have zw7_4 : w2.heap.size < w7.heap.size := (by omega); have zw7_5 : w3.heap.size < w7.heap.size := (by omega); have zw7_6 : w4.heap.size < w7.heap.size := (by omega); have zw7_7 : w5.heap.size < w7.heap.size := (by omega); have zw7_8 : w6.heap.size < w7.heap.size := (by omega)
  go_wp2_with fail
  go_ret
  exact ⟨rfl, by (repeat (first | with_reducible exact Grow.refl _ | with_reducible refine Grow.alloc ?_ _ | with_reducible refine Grow.drew ?_ | with_reducible refine Grow.drewN ?_ _ | (with_reducible refine Grow.setCell ?_ ?hp _; (case hp => (simp; try omega))) | with_reducible refine Grow.trans ?_ (by assumption)))⟩

set_option maxHeartbeats 4000000 in
theorem walk_fit_e1 (x y z : M2) (v : M2) (i : Int) (a b : M2) (ea f : Int)
    (M1 : Hid (∀ w, Calls Try.prog 19 #[.agg #[.int .i64 x.a, .int .i64 x.b, .int .i64 x.c, .int .i64 x.d], .agg #[.int .i64 1, .int .i64 0, .int .i64 0, .int .i64 1]] w fun e w' => e = .returned (.tuple #[.agg #[.int .i64 x.a, .int .i64 x.b, .int .i64 x.c, .int .i64 x.d], .int .i64 0]) ∧ Grow w w')) (I1 : Hid (∀ w, Calls Try.prog 25 #[.agg #[.int .i64 x.a, .int .i64 x.b, .int .i64 x.c, .int .i64 x.d]] w fun e w' => e = .returned (.tuple #[.agg #[.int .i64 v.a, .int .i64 v.b, .int .i64 v.c, .int .i64 v.d], .int .i64 i]) ∧ Grow w w')) (i1 : (i == 0) = false)
    (A : Hid (∀ w, Calls Try.prog 19 #[.agg #[.int .i64 x.a, .int .i64 x.b, .int .i64 x.c, .int .i64 x.d], .agg #[.int .i64 y.a, .int .i64 y.b, .int .i64 y.c, .int .i64 y.d]] w fun e w' => e = .returned (.tuple #[.agg #[.int .i64 a.a, .int .i64 a.b, .int .i64 a.c, .int .i64 a.d], .int .i64 ea]) ∧ Grow w w')) (k1 : (ea != 0) = true) (B : Hid (∀ w, Calls Try.prog 19 #[.agg #[.int .i64 y.a, .int .i64 y.b, .int .i64 y.c, .int .i64 y.d], .agg #[.int .i64 z.a, .int .i64 z.b, .int .i64 z.c, .int .i64 z.d]] w fun e w' => e = .returned (.tuple #[.agg #[.int .i64 b.a, .int .i64 b.b, .int .i64 b.c, .int .i64 b.d], .int .i64 f]) ∧ Grow w w')) (w : World) :
    Calls Try.prog 8 #[.agg #[.int .i64 x.a, .int .i64 x.b, .int .i64 x.c, .int .i64 x.d], .agg #[.int .i64 y.a, .int .i64 y.b, .int .i64 y.c, .int .i64 y.d], .agg #[.int .i64 z.a, .int .i64 z.b, .int .i64 z.c, .int .i64 z.d]] w fun e w' => e = .returned (.bool true) ∧ Grow w w' := by
  go_enter Try.func8, Try.ntmps8
  go_wp2_with fail
  (go_at_call 12; refine (awake18_any _).mono ?_; rintro e w1 ⟨rfl, hb1⟩; have hc1 := hb1.cells; have hf1 := hb1.frees; have hz1 := hb1.size; (try simp at hz1))
  have zw1_0 : w.heap.size < w1.heap.size := (by omega); have zw1_1 : w.heap.size + 1 < w1.heap.size := (by omega); have zw1_2 : w.heap.size + 1 + 1 < w1.heap.size := (by omega)
  go_wp2_with fail
  (go_at_call 19; refine (M1.out _).mono ?_; rintro e w2 ⟨rfl, hb2⟩; have hc2 := hb2.cells; have hf2 := hb2.frees; have hz2 := hb2.size; (try simp at hz2))
  have zw2_0 : w.heap.size < w2.heap.size := (by omega); have zw2_1 : w.heap.size + 1 < w2.heap.size := (by omega); have zw2_2 : w.heap.size + 1 + 1 < w2.heap.size := (by omega); have zw2_3 : w1.heap.size < w2.heap.size := (by omega)
  go_wp2_with fail
  (go_at_call 25; refine (I1.out _).mono ?_; rintro e w3 ⟨rfl, hb3⟩; have hc3 := hb3.cells; have hf3 := hb3.frees; have hz3 := hb3.size; (try simp at hz3))
  have zw3_0 : w.heap.size < w3.heap.size := (by omega); have zw3_1 : w.heap.size + 1 < w3.heap.size := (by omega); have zw3_2 : w.heap.size + 1 + 1 < w3.heap.size := (by omega); have zw3_3 : w1.heap.size < w3.heap.size := (by omega); have zw3_4 : w2.heap.size < w3.heap.size := (by omega)
  go_wp2_with fail
  (go_at_call 19; refine (A.out _).mono ?_; rintro e w4 ⟨rfl, hb4⟩; have hc4 := hb4.cells; have hf4 := hb4.frees; have hz4 := hb4.size; (try simp at hz4))
  have zw4_0 : w.heap.size < w4.heap.size := (by omega); have zw4_1 : w.heap.size + 1 < w4.heap.size := (by omega); have zw4_2 : w.heap.size + 1 + 1 < w4.heap.size := (by omega); have zw4_3 : w1.heap.size < w4.heap.size := (by omega); have zw4_4 : w2.heap.size < w4.heap.size := (by omega); have zw4_5 : w3.heap.size < w4.heap.size := (by omega)
  go_wp2_with fail
  (go_at_call 19; refine (B.out _).mono ?_; rintro e w5 ⟨rfl, hb5⟩; have hc5 := hb5.cells; have hf5 := hb5.frees; have hz5 := hb5.size; (try simp at hz5))
  have zw5_0 : w.heap.size < w5.heap.size := (by omega); have zw5_1 : w.heap.size + 1 < w5.heap.size := (by omega); have zw5_2 : w.heap.size + 1 + 1 < w5.heap.size := (by omega); have zw5_3 : w1.heap.size < w5.heap.size := (by omega); have zw5_4 : w2.heap.size < w5.heap.size := (by omega); have zw5_5 : w3.heap.size < w5.heap.size := (by omega); have zw5_6 : w4.heap.size < w5.heap.size := (by omega)
  go_wp2_with fail
  go_ret
  exact ⟨rfl, by (repeat (first | with_reducible exact Grow.refl _ | with_reducible refine Grow.alloc ?_ _ | with_reducible refine Grow.drew ?_ | with_reducible refine Grow.drewN ?_ _ | (with_reducible refine Grow.setCell ?_ ?hp _; (case hp => (simp; try omega))) | with_reducible refine Grow.trans ?_ (by assumption)))⟩

set_option maxHeartbeats 4000000 in
theorem walk_fit_e2 (x y z : M2) (v : M2) (i : Int) (a b : M2) (f : Int)
    (M1 : Hid (∀ w, Calls Try.prog 19 #[.agg #[.int .i64 x.a, .int .i64 x.b, .int .i64 x.c, .int .i64 x.d], .agg #[.int .i64 1, .int .i64 0, .int .i64 0, .int .i64 1]] w fun e w' => e = .returned (.tuple #[.agg #[.int .i64 x.a, .int .i64 x.b, .int .i64 x.c, .int .i64 x.d], .int .i64 0]) ∧ Grow w w')) (I1 : Hid (∀ w, Calls Try.prog 25 #[.agg #[.int .i64 x.a, .int .i64 x.b, .int .i64 x.c, .int .i64 x.d]] w fun e w' => e = .returned (.tuple #[.agg #[.int .i64 v.a, .int .i64 v.b, .int .i64 v.c, .int .i64 v.d], .int .i64 i]) ∧ Grow w w')) (i1 : (i == 0) = false)
    (A : Hid (∀ w, Calls Try.prog 19 #[.agg #[.int .i64 x.a, .int .i64 x.b, .int .i64 x.c, .int .i64 x.d], .agg #[.int .i64 y.a, .int .i64 y.b, .int .i64 y.c, .int .i64 y.d]] w fun e w' => e = .returned (.tuple #[.agg #[.int .i64 a.a, .int .i64 a.b, .int .i64 a.c, .int .i64 a.d], .int .i64 0]) ∧ Grow w w')) (B : Hid (∀ w, Calls Try.prog 19 #[.agg #[.int .i64 y.a, .int .i64 y.b, .int .i64 y.c, .int .i64 y.d], .agg #[.int .i64 z.a, .int .i64 z.b, .int .i64 z.c, .int .i64 z.d]] w fun e w' => e = .returned (.tuple #[.agg #[.int .i64 b.a, .int .i64 b.b, .int .i64 b.c, .int .i64 b.d], .int .i64 f]) ∧ Grow w w')) (k2 : (f != 0) = true) (w : World) :
    Calls Try.prog 8 #[.agg #[.int .i64 x.a, .int .i64 x.b, .int .i64 x.c, .int .i64 x.d], .agg #[.int .i64 y.a, .int .i64 y.b, .int .i64 y.c, .int .i64 y.d], .agg #[.int .i64 z.a, .int .i64 z.b, .int .i64 z.c, .int .i64 z.d]] w fun e w' => e = .returned (.bool true) ∧ Grow w w' := by
  go_enter Try.func8, Try.ntmps8
  go_wp2_with fail
  (go_at_call 12; refine (awake18_any _).mono ?_; rintro e w1 ⟨rfl, hb1⟩; have hc1 := hb1.cells; have hf1 := hb1.frees; have hz1 := hb1.size; (try simp at hz1))
  have zw1_0 : w.heap.size < w1.heap.size := (by omega); have zw1_1 : w.heap.size + 1 < w1.heap.size := (by omega); have zw1_2 : w.heap.size + 1 + 1 < w1.heap.size := (by omega)
  go_wp2_with fail
  (go_at_call 19; refine (M1.out _).mono ?_; rintro e w2 ⟨rfl, hb2⟩; have hc2 := hb2.cells; have hf2 := hb2.frees; have hz2 := hb2.size; (try simp at hz2))
  have zw2_0 : w.heap.size < w2.heap.size := (by omega); have zw2_1 : w.heap.size + 1 < w2.heap.size := (by omega); have zw2_2 : w.heap.size + 1 + 1 < w2.heap.size := (by omega); have zw2_3 : w1.heap.size < w2.heap.size := (by omega)
  go_wp2_with fail
  (go_at_call 25; refine (I1.out _).mono ?_; rintro e w3 ⟨rfl, hb3⟩; have hc3 := hb3.cells; have hf3 := hb3.frees; have hz3 := hb3.size; (try simp at hz3))
  have zw3_0 : w.heap.size < w3.heap.size := (by omega); have zw3_1 : w.heap.size + 1 < w3.heap.size := (by omega); have zw3_2 : w.heap.size + 1 + 1 < w3.heap.size := (by omega); have zw3_3 : w1.heap.size < w3.heap.size := (by omega); have zw3_4 : w2.heap.size < w3.heap.size := (by omega)
  go_wp2_with fail
  (go_at_call 19; refine (A.out _).mono ?_; rintro e w4 ⟨rfl, hb4⟩; have hc4 := hb4.cells; have hf4 := hb4.frees; have hz4 := hb4.size; (try simp at hz4))
  have zw4_0 : w.heap.size < w4.heap.size := (by omega); have zw4_1 : w.heap.size + 1 < w4.heap.size := (by omega); have zw4_2 : w.heap.size + 1 + 1 < w4.heap.size := (by omega); have zw4_3 : w1.heap.size < w4.heap.size := (by omega); have zw4_4 : w2.heap.size < w4.heap.size := (by omega); have zw4_5 : w3.heap.size < w4.heap.size := (by omega)
  go_wp2_with fail
  (go_at_call 19; refine (B.out _).mono ?_; rintro e w5 ⟨rfl, hb5⟩; have hc5 := hb5.cells; have hf5 := hb5.frees; have hz5 := hb5.size; (try simp at hz5))
  have zw5_0 : w.heap.size < w5.heap.size := (by omega); have zw5_1 : w.heap.size + 1 < w5.heap.size := (by omega); have zw5_2 : w.heap.size + 1 + 1 < w5.heap.size := (by omega); have zw5_3 : w1.heap.size < w5.heap.size := (by omega); have zw5_4 : w2.heap.size < w5.heap.size := (by omega); have zw5_5 : w3.heap.size < w5.heap.size := (by omega); have zw5_6 : w4.heap.size < w5.heap.size := (by omega)
  go_wp2_with fail
  go_ret
  exact ⟨rfl, by (repeat (first | with_reducible exact Grow.refl _ | with_reducible refine Grow.alloc ?_ _ | with_reducible refine Grow.drew ?_ | with_reducible refine Grow.drewN ?_ _ | (with_reducible refine Grow.setCell ?_ ?hp _; (case hp => (simp; try omega))) | with_reducible refine Grow.trans ?_ (by assumption)))⟩

set_option maxHeartbeats 4000000 in
theorem walk_no_e1 (x y z : M2) (u v : M2) (i j : Int) (a b : M2) (ea f : Int)
    (M1 : Hid (∀ w, Calls Try.prog 19 #[.agg #[.int .i64 x.a, .int .i64 x.b, .int .i64 x.c, .int .i64 x.d], .agg #[.int .i64 1, .int .i64 0, .int .i64 0, .int .i64 1]] w fun e w' => e = .returned (.tuple #[.agg #[.int .i64 u.a, .int .i64 u.b, .int .i64 u.c, .int .i64 u.d], .int .i64 j]) ∧ Grow w w')) (j1 : (j == 0) = false) (I1 : Hid (∀ w, Calls Try.prog 25 #[.agg #[.int .i64 x.a, .int .i64 x.b, .int .i64 x.c, .int .i64 x.d]] w fun e w' => e = .returned (.tuple #[.agg #[.int .i64 v.a, .int .i64 v.b, .int .i64 v.c, .int .i64 v.d], .int .i64 i]) ∧ Grow w w')) (i1 : (i == 0) = false)
    (A : Hid (∀ w, Calls Try.prog 19 #[.agg #[.int .i64 x.a, .int .i64 x.b, .int .i64 x.c, .int .i64 x.d], .agg #[.int .i64 y.a, .int .i64 y.b, .int .i64 y.c, .int .i64 y.d]] w fun e w' => e = .returned (.tuple #[.agg #[.int .i64 a.a, .int .i64 a.b, .int .i64 a.c, .int .i64 a.d], .int .i64 ea]) ∧ Grow w w')) (k1 : (ea != 0) = true) (B : Hid (∀ w, Calls Try.prog 19 #[.agg #[.int .i64 y.a, .int .i64 y.b, .int .i64 y.c, .int .i64 y.d], .agg #[.int .i64 z.a, .int .i64 z.b, .int .i64 z.c, .int .i64 z.d]] w fun e w' => e = .returned (.tuple #[.agg #[.int .i64 b.a, .int .i64 b.b, .int .i64 b.c, .int .i64 b.d], .int .i64 f]) ∧ Grow w w')) (w : World) :
    Calls Try.prog 8 #[.agg #[.int .i64 x.a, .int .i64 x.b, .int .i64 x.c, .int .i64 x.d], .agg #[.int .i64 y.a, .int .i64 y.b, .int .i64 y.c, .int .i64 y.d], .agg #[.int .i64 z.a, .int .i64 z.b, .int .i64 z.c, .int .i64 z.d]] w fun e w' => e = .returned (.bool true) ∧ Grow w w' := by
  go_enter Try.func8, Try.ntmps8
  go_wp2_with fail
  (go_at_call 12; refine (awake18_any _).mono ?_; rintro e w1 ⟨rfl, hb1⟩; have hc1 := hb1.cells; have hf1 := hb1.frees; have hz1 := hb1.size; (try simp at hz1))
  have zw1_0 : w.heap.size < w1.heap.size := (by omega); have zw1_1 : w.heap.size + 1 < w1.heap.size := (by omega); have zw1_2 : w.heap.size + 1 + 1 < w1.heap.size := (by omega)
  go_wp2_with fail
  (go_at_call 19; refine (M1.out _).mono ?_; rintro e w2 ⟨rfl, hb2⟩; have hc2 := hb2.cells; have hf2 := hb2.frees; have hz2 := hb2.size; (try simp at hz2))
  have zw2_0 : w.heap.size < w2.heap.size := (by omega); have zw2_1 : w.heap.size + 1 < w2.heap.size := (by omega); have zw2_2 : w.heap.size + 1 + 1 < w2.heap.size := (by omega); have zw2_3 : w1.heap.size < w2.heap.size := (by omega)
  go_wp2_with fail
  (go_at_call 25; refine (I1.out _).mono ?_; rintro e w3 ⟨rfl, hb3⟩; have hc3 := hb3.cells; have hf3 := hb3.frees; have hz3 := hb3.size; (try simp at hz3))
  have zw3_0 : w.heap.size < w3.heap.size := (by omega); have zw3_1 : w.heap.size + 1 < w3.heap.size := (by omega); have zw3_2 : w.heap.size + 1 + 1 < w3.heap.size := (by omega); have zw3_3 : w1.heap.size < w3.heap.size := (by omega); have zw3_4 : w2.heap.size < w3.heap.size := (by omega)
  go_wp2_with fail
  (go_at_call 19; refine (A.out _).mono ?_; rintro e w4 ⟨rfl, hb4⟩; have hc4 := hb4.cells; have hf4 := hb4.frees; have hz4 := hb4.size; (try simp at hz4))
  have zw4_0 : w.heap.size < w4.heap.size := (by omega); have zw4_1 : w.heap.size + 1 < w4.heap.size := (by omega); have zw4_2 : w.heap.size + 1 + 1 < w4.heap.size := (by omega); have zw4_3 : w1.heap.size < w4.heap.size := (by omega); have zw4_4 : w2.heap.size < w4.heap.size := (by omega); have zw4_5 : w3.heap.size < w4.heap.size := (by omega)
  go_wp2_with fail
  (go_at_call 19; refine (B.out _).mono ?_; rintro e w5 ⟨rfl, hb5⟩; have hc5 := hb5.cells; have hf5 := hb5.frees; have hz5 := hb5.size; (try simp at hz5))
  have zw5_0 : w.heap.size < w5.heap.size := (by omega); have zw5_1 : w.heap.size + 1 < w5.heap.size := (by omega); have zw5_2 : w.heap.size + 1 + 1 < w5.heap.size := (by omega); have zw5_3 : w1.heap.size < w5.heap.size := (by omega); have zw5_4 : w2.heap.size < w5.heap.size := (by omega); have zw5_5 : w3.heap.size < w5.heap.size := (by omega); have zw5_6 : w4.heap.size < w5.heap.size := (by omega)
  go_wp2_with fail
  go_ret
  exact ⟨rfl, by (repeat (first | with_reducible exact Grow.refl _ | with_reducible refine Grow.alloc ?_ _ | with_reducible refine Grow.drew ?_ | with_reducible refine Grow.drewN ?_ _ | (with_reducible refine Grow.setCell ?_ ?hp _; (case hp => (simp; try omega))) | with_reducible refine Grow.trans ?_ (by assumption)))⟩

theorem walk (x : M2) (_hx : (-9223372036854775808 ≤ x.a ∧ x.a ≤ 9223372036854775807) ∧ (-9223372036854775808 ≤ x.b ∧ x.b ≤ 9223372036854775807) ∧ (-9223372036854775808 ≤ x.c ∧ x.c ≤ 9223372036854775807) ∧ (-9223372036854775808 ≤ x.d ∧ x.d ≤ 9223372036854775807)) (y : M2) (_hy : (-9223372036854775808 ≤ y.a ∧ y.a ≤ 9223372036854775807) ∧ (-9223372036854775808 ≤ y.b ∧ y.b ≤ 9223372036854775807) ∧ (-9223372036854775808 ≤ y.c ∧ y.c ≤ 9223372036854775807) ∧ (-9223372036854775808 ≤ y.d ∧ y.d ≤ 9223372036854775807)) (z : M2) (_hz : (-9223372036854775808 ≤ z.a ∧ z.a ≤ 9223372036854775807) ∧ (-9223372036854775808 ≤ z.b ∧ z.b ≤ 9223372036854775807) ∧ (-9223372036854775808 ≤ z.c ∧ z.c ≤ 9223372036854775807) ∧ (-9223372036854775808 ≤ z.d ∧ z.d ≤ 9223372036854775807)) (w : World) :
    Calls Try.prog 8 #[.agg #[.int .i64 x.a, .int .i64 x.b, .int .i64 x.c, .int .i64 x.d], .agg #[.int .i64 y.a, .int .i64 y.b, .int .i64 y.c, .int .i64 y.d], .agg #[.int .i64 z.a, .int .i64 z.b, .int .i64 z.c, .int .i64 z.d]] w fun e w' => e = .returned (.bool true) ∧ Grow w w' := by
  obtain ⟨⟨a, e⟩, ha⟩ : ∃ u, mulF x y = u := ⟨_, rfl⟩
  obtain ⟨⟨b, f⟩, hb⟩ : ∃ u, mulF y z = u := ⟨_, rfl⟩
  have A : Hid (∀ w, _) := fun w => mul_any x y w
  have B : Hid (∀ w, _) := fun w => mul_any y z w
  rw [ha] at A
  rw [hb] at B
  by_cases hx : x.fits = true
  · have M1 : Hid (∀ w, Calls Try.prog 19 #[.agg #[.int .i64 x.a, .int .i64 x.b, .int .i64 x.c, .int .i64 x.d], .agg #[.int .i64 1, .int .i64 0, .int .i64 0, .int .i64 1]] w fun e w' => e = .returned (.tuple #[.agg #[.int .i64 x.a, .int .i64 x.b, .int .i64 x.c, .int .i64 x.d], .int .i64 0]) ∧ Grow w w') := by
      intro w
      have h := mul_any x M2.one w
      rw [mulF_ok hx one_fits, times_one, if_pos hx] at h
      exact h
    by_cases h0 : checkF x = 0
    · obtain ⟨-, hd⟩ := checkF_zero.1 h0
      have I1 : Hid (∀ w, Calls Try.prog 25 #[.agg #[.int .i64 x.a, .int .i64 x.b, .int .i64 x.c, .int .i64 x.d]] w fun e w' => e = .returned (.tuple #[.agg #[.int .i64 x.back.a, .int .i64 x.back.b, .int .i64 x.back.c, .int .i64 x.back.d], .int .i64 0]) ∧ Grow w w') := by
        intro w; have h := inverse_any x w; rw [show invF x = (x.back, 0) by simp [invF, h0]] at h; exact h
      have M2x : Hid (∀ w, Calls Try.prog 19 #[.agg #[.int .i64 x.a, .int .i64 x.b, .int .i64 x.c, .int .i64 x.d], .agg #[.int .i64 x.back.a, .int .i64 x.back.b, .int .i64 x.back.c, .int .i64 x.back.d]] w fun e w' => e = .returned (.tuple #[.agg #[.int .i64 1, .int .i64 0, .int .i64 0, .int .i64 1], .int .i64 0]) ∧ Grow w w') := by
        intro w; have h := mul_any x x.back w; rw [mulF_ok hx (back_fits hx), back_left hd, if_pos one_fits] at h; exact h
      have M3 : Hid (∀ w, Calls Try.prog 19 #[.agg #[.int .i64 x.back.a, .int .i64 x.back.b, .int .i64 x.back.c, .int .i64 x.back.d], .agg #[.int .i64 x.a, .int .i64 x.b, .int .i64 x.c, .int .i64 x.d]] w fun e w' => e = .returned (.tuple #[.agg #[.int .i64 1, .int .i64 0, .int .i64 0, .int .i64 1], .int .i64 0]) ∧ Grow w w') := by
        intro w; have h := mul_any x.back x w; rw [mulF_ok (back_fits hx) hx, back_right hd, if_pos one_fits] at h; exact h
      by_cases h1 : e = 0
      · by_cases h2 : f = 0
        · subst h1
          subst h2
          have C : Hid (∀ w, _) := fun w => mul_any a z w
          have D : Hid (∀ w, _) := fun w => mul_any x b w
          rw [assoc ha hb] at C
          exact walk_sl_ok x y z x.back a b _ _ M1 I1 M2x M3 A B C D w
        · subst h1
          exact walk_sl_e2 x y z x.back a b f M1 I1 M2x M3 A B (by simpa using h2) w
      · exact walk_sl_e1 x y z x.back a b e f M1 I1 M2x M3 A (by simpa using h1) B w
    · have I1 : Hid (∀ w, _) := fun w => inverse_any x w
      have i1 : ((invF x).2 == 0) = false := by simp [invF, h0]
      by_cases h1 : e = 0
      · by_cases h2 : f = 0
        · subst h1
          subst h2
          have C : Hid (∀ w, _) := fun w => mul_any a z w
          have D : Hid (∀ w, _) := fun w => mul_any x b w
          rw [assoc ha hb] at C
          exact walk_fit_ok x y z _ _ a b _ _ M1 I1 i1 A B C D w
        · subst h1
          exact walk_fit_e2 x y z _ _ a b f M1 I1 i1 A B (by simpa using h2) w
      · exact walk_fit_e1 x y z _ _ a b e f M1 I1 i1 A (by simpa using h1) B w
  · have M1 : Hid (∀ w, _) := fun w => mul_any x M2.one w
    have I1 : Hid (∀ w, _) := fun w => inverse_any x w
    have j1 : ((mulF x M2.one).2 == 0) = false := by simp [mulF, hx]
    have i1 : ((invF x).2 == 0) = false := by simp [invF, checkF, hx]
    have h1 : e = 2 := by have := congrArg Prod.snd ha; simp [mulF, hx] at this; omega
    exact walk_no_e1 x y z _ _ _ _ a b e f M1 j1 I1 i1 A (by rw [h1]; decide) B w

set_option maxRecDepth 100000 in
theorem lifted (os : Os) (started : os.Started) (H : Type) (enc : TypeId × Value → H) :
    ReturnsInHanded {} Try.checked os 8 .any (Rows.sl2AssociatesSpec.pre6 enc Try.prog Try.f8 Rows.sl2AssociatesRow.domain false) (Rows.sl2AssociatesSpec.post enc Try.prog Try.f8 false true false false) := by
  refine returnsInHanded_of_change (C := Try.checked) own started (by kernel_rfl) Try.func8
    (ChangeSpec.witness6 (enc := enc) (C := Try.checked) false ⟨#[], #[.agg #[.int .i64 0, .int .i64 0, .int .i64 0, .int .i64 0], .agg #[.int .i64 0, .int .i64 0, .int .i64 0, .int .i64 0], .agg #[.int .i64 0, .int .i64 0, .int .i64 0, .int .i64 0]], []⟩ 8 (by kernel_rfl) (by kernel_rfl) (by kernel_rfl) (by kernel_rfl)) ?_
  intro W base args ds gs before hval0 hW hcnd _
  have hval : ∀ (j : Nat) t v, Try.f8.params[j]? = some t → args[j]? = some v → Value.okWide Try.prog W .any base t v := hval0
  have hW' := hW
  obtain ⟨p, q, hA0, hV, rfl, -, -⟩ := hW
  have hA : DataW.TrodAll enc Try.prog W 0 (fun _ => true) true Try.f8.params.toList args.toList ds p := hA0
  rw [Try.params8] at hA hval
  obtain ⟨v0, vs0, d0, ds0, p0, q0, hargs, rfl, rfl, h0, r0⟩ := trodAll_cons hA
  obtain ⟨v1, vs1, d1, ds1, p1, q1, rfl, rfl, rfl, h1, r1⟩ := trodAll_cons r0
  obtain ⟨v2, vs2, d2, ds2, p2, q2, rfl, rfl, rfl, h2, r2⟩ := trodAll_cons r1
  obtain ⟨rfl, rfl, rfl⟩ := trodAll_nil r2
  obtain rfl : args = #[v0, v1, v2] := by cases args; simp_all
  obtain ⟨rfl, rfl⟩ := trodVars_none hV
  obtain ⟨a0, rfl, c0⟩ := open_mat (hval 0 23 v0 rfl rfl) h0
  obtain ⟨a1, rfl, c1⟩ := open_mat (hval 1 23 v1 rfl rfl) h1
  obtain ⟨a2, rfl, c2⟩ := open_mat (hval 2 23 v2 rfl rfl) h2
  clear hA0 hval0
  refine (walk a0 c0 a1 c1 a2 c2 W).mono fun e W' ⟨he, hg⟩ => ?_
  subst he
  exact ⟨_, rfl, law_post 4 rfl Try.underlying4 laidOut (of_decide_eq_true (by kernel_rfl)) rfl hW' rfl hg⟩

theorem over : Rows.sl2AssociatesRow.holds Try.pinned (OpenSpec.ofChange Rows.sl2AssociatesSpec) :=
  OpenClaim.holds_of_wide 8 Try.f8 rfl rfl rfl rfl rfl rfl rfl ⟨rfl, rfl, rfl, rfl, rfl⟩ rfl rfl rfl rfl rfl (by kernel_rfl) Try.func8 (by kernel_rfl)
    (of_decide_eq_true (by kernel_rfl)) (by unfold Func.isWrapper; rw [if_neg (by decide +kernel)]; exact ⟨rfl, rfl⟩)
    (fun os started H enc _ => lifted os started H enc)

theorem proved : Rows.Sl2AssociatesSaid := over
end Go.Proofs.Ytkjcdiolimajdaa.associates
