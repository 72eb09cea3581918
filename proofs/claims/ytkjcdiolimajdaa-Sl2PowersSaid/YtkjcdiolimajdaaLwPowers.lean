/- Powers are those of the reference, and powers with a sum of exponents are products. No condition: every input. -/
import Derived.Test.YtkjcdiolimajdaaPlZ
import Derived.Test.YtkjcdiolimajdaaSlK
import Derived.Test.YtkjcdiolimajdaaSlO
import Derived.Test.YtkjcdiolimajdaaPlH
namespace Go.Proofs.Ytkjcdiolimajdaa.powers
open Go Go.RowKit Go.ChangeShapes Go.WideShapes Go.ChangeAt

set_option maxHeartbeats 4000000 in
theorem walk_e1 (m a c : M2) (n k ee eg : Int) (hk : -128 ≤ k ∧ k ≤ 127) (he : (ee != 0) = true) (A : Hid (∀ w, Calls Try.prog 34 #[.agg #[.int .i64 m.a, .int .i64 m.b, .int .i64 m.c, .int .i64 m.d], .int .i64 n] w fun ex w' => ex = .returned (.tuple #[.agg #[.int .i64 a.a, .int .i64 a.b, .int .i64 a.c, .int .i64 a.d], .int .i64 ee]) ∧ Grow w w')) (AR : Hid (∀ w, Calls Try.prog 35 #[.agg #[.int .i64 m.a, .int .i64 m.b, .int .i64 m.c, .int .i64 m.d], .int .i64 n] w fun ex w' => ex = .returned (.tuple #[.agg #[.int .i64 a.a, .int .i64 a.b, .int .i64 a.c, .int .i64 a.d], .int .i64 ee]) ∧ Grow w w')) (B : Hid (∀ w, Calls Try.prog 34 #[.agg #[.int .i64 m.a, .int .i64 m.b, .int .i64 m.c, .int .i64 m.d], .int .i64 k] w fun ex w' => ex = .returned (.tuple #[.agg #[.int .i64 c.a, .int .i64 c.b, .int .i64 c.c, .int .i64 c.d], .int .i64 eg]) ∧ Grow w w')) (w : World) :
    Calls Try.prog 11 #[.agg #[.int .i64 m.a, .int .i64 m.b, .int .i64 m.c, .int .i64 m.d], .int .i64 n, .int .i8 k] w fun ex w' => ex = .returned (.bool true) ∧ Grow w w' := by
  have wk : IntKind.i64.wrap k = k := IntWalk.i64_in _ (by omega)
  clear hk
  go_enter Try.func11, Try.ntmps11
  go_wp2_with fail
  (go_at_call 12; refine (awake18_any _).mono ?_; rintro e w1 ⟨rfl, hb1⟩; have hc1 := hb1.cells; have hf1 := hb1.frees; have hz1 := hb1.size; (try simp at hz1))
  have zw1_0 : w.heap.size < w1.heap.size := (by omega)
  go_wp2_with fail
  (go_at_call 34; refine (A.out _).mono ?_; rintro e w2 ⟨rfl, hb2⟩; have hc2 := hb2.cells; have hf2 := hb2.frees; have hz2 := hb2.size; (try simp at hz2))
  have zw2_0 : w.heap.size < w2.heap.size := (by omega)
  go_wp2_with fail
  (go_at_call 35; refine (AR.out _).mono ?_; rintro e w3 ⟨rfl, hb3⟩; have hc3 := hb3.cells; have hf3 := hb3.frees; have hz3 := hb3.size; (try simp at hz3))
  have zw3_0 : w.heap.size < w3.heap.size := (by omega); have zw3_1 : w2.heap.size < w3.heap.size := (by omega)
  go_wp2_with fail
  (go_at_call 34; refine (B.out _).mono ?_; rintro e w4 ⟨rfl, hb4⟩; have hc4 := hb4.cells; have hf4 := hb4.frees; have hz4 := hb4.size; (try simp at hz4))
  have zw4_0 : w.heap.size < w4.heap.size := (by omega); have zw4_1 : w2.heap.size < w4.heap.size := (by omega); have zw4_2 : w3.heap.size < w4.heap.size := (by omega)
  go_wp2_with fail
  go_ret
  exact ⟨rfl, by (repeat (first | with_reducible exact Grow.refl _ | with_reducible refine Grow.alloc ?_ _ | with_reducible refine Grow.drew ?_ | with_reducible refine Grow.drewN ?_ _ | (with_reducible refine Grow.setCell ?_ ?hp _; (case hp => (simp; try omega))) | with_reducible refine Grow.trans ?_ (by assumption)))⟩
set_option maxHeartbeats 4000000 in
theorem walk_e2 (m a c : M2) (n k ee eg : Int) (hk : -128 ≤ k ∧ k ≤ 127) (he' : (ee != 0) = false) (he : (eg != 0) = true) (A : Hid (∀ w, Calls Try.prog 34 #[.agg #[.int .i64 m.a, .int .i64 m.b, .int .i64 m.c, .int .i64 m.d], .int .i64 n] w fun ex w' => ex = .returned (.tuple #[.agg #[.int .i64 a.a, .int .i64 a.b, .int .i64 a.c, .int .i64 a.d], .int .i64 ee]) ∧ Grow w w')) (AR : Hid (∀ w, Calls Try.prog 35 #[.agg #[.int .i64 m.a, .int .i64 m.b, .int .i64 m.c, .int .i64 m.d], .int .i64 n] w fun ex w' => ex = .returned (.tuple #[.agg #[.int .i64 a.a, .int .i64 a.b, .int .i64 a.c, .int .i64 a.d], .int .i64 ee]) ∧ Grow w w')) (B : Hid (∀ w, Calls Try.prog 34 #[.agg #[.int .i64 m.a, .int .i64 m.b, .int .i64 m.c, .int .i64 m.d], .int .i64 k] w fun ex w' => ex = .returned (.tuple #[.agg #[.int .i64 c.a, .int .i64 c.b, .int .i64 c.c, .int .i64 c.d], .int .i64 eg]) ∧ Grow w w')) (w : World) :
    Calls Try.prog 11 #[.agg #[.int .i64 m.a, .int .i64 m.b, .int .i64 m.c, .int .i64 m.d], .int .i64 n, .int .i8 k] w fun ex w' => ex = .returned (.bool true) ∧ Grow w w' := by
  have wk : IntKind.i64.wrap k = k := IntWalk.i64_in _ (by omega)
  clear hk
  go_enter Try.func11, Try.ntmps11
  go_wp2_with fail
  (go_at_call 12; refine (awake18_any _).mono ?_; rintro e w1 ⟨rfl, hb1⟩; have hc1 := hb1.cells; have hf1 := hb1.frees; have hz1 := hb1.size; (try simp at hz1))
  have zw1_0 : w.heap.size < w1.heap.size := (by omega)
  go_wp2_with fail
  (go_at_call 34; refine (A.out _).mono ?_; rintro e w2 ⟨rfl, hb2⟩; have hc2 := hb2.cells; have hf2 := hb2.frees; have hz2 := hb2.size; (try simp at hz2))
  have zw2_0 : w.heap.size < w2.heap.size := (by omega)
  go_wp2_with fail
  (go_at_call 35; refine (AR.out _).mono ?_; rintro e w3 ⟨rfl, hb3⟩; have hc3 := hb3.cells; have hf3 := hb3.frees; have hz3 := hb3.size; (try simp at hz3))
  have zw3_0 : w.heap.size < w3.heap.size := (by omega); have zw3_1 : w2.heap.size < w3.heap.size := (by omega)
  go_wp2_with fail
  (go_at_call 34; refine (B.out _).mono ?_; rintro e w4 ⟨rfl, hb4⟩; have hc4 := hb4.cells; have hf4 := hb4.frees; have hz4 := hb4.size; (try simp at hz4))
  have zw4_0 : w.heap.size < w4.heap.size := (by omega); have zw4_1 : w2.heap.size < w4.heap.size := (by omega); have zw4_2 : w3.heap.size < w4.heap.size := (by omega)
  go_wp2_with fail
  go_ret
  exact ⟨rfl, by (repeat (first | with_reducible exact Grow.refl _ | with_reducible refine Grow.alloc ?_ _ | with_reducible refine Grow.drew ?_ | with_reducible refine Grow.drewN ?_ _ | (with_reducible refine Grow.setCell ?_ ?hp _; (case hp => (simp; try omega))) | with_reducible refine Grow.trans ?_ (by assumption)))⟩

set_option maxHeartbeats 4000000 in
theorem walk_h1 (m a c d x : M2) (n k ee eg eh ei : Int) (hk : -128 ≤ k ∧ k ≤ 127) (hn : -1000 ≤ n ∧ n ≤ 1000) (ke : (ee != 0) = false) (kg : (eg != 0) = false) (k1 : (eh != 0) = true) (A : Hid (∀ w, Calls Try.prog 34 #[.agg #[.int .i64 m.a, .int .i64 m.b, .int .i64 m.c, .int .i64 m.d], .int .i64 n] w fun ex w' => ex = .returned (.tuple #[.agg #[.int .i64 a.a, .int .i64 a.b, .int .i64 a.c, .int .i64 a.d], .int .i64 ee]) ∧ Grow w w')) (AR : Hid (∀ w, Calls Try.prog 35 #[.agg #[.int .i64 m.a, .int .i64 m.b, .int .i64 m.c, .int .i64 m.d], .int .i64 n] w fun ex w' => ex = .returned (.tuple #[.agg #[.int .i64 a.a, .int .i64 a.b, .int .i64 a.c, .int .i64 a.d], .int .i64 ee]) ∧ Grow w w')) (B : Hid (∀ w, Calls Try.prog 34 #[.agg #[.int .i64 m.a, .int .i64 m.b, .int .i64 m.c, .int .i64 m.d], .int .i64 k] w fun ex w' => ex = .returned (.tuple #[.agg #[.int .i64 c.a, .int .i64 c.b, .int .i64 c.c, .int .i64 c.d], .int .i64 eg]) ∧ Grow w w')) (D : Hid (∀ w, Calls Try.prog 34 #[.agg #[.int .i64 m.a, .int .i64 m.b, .int .i64 m.c, .int .i64 m.d], .int .i64 (n + k)] w fun ex w' => ex = .returned (.tuple #[.agg #[.int .i64 d.a, .int .i64 d.b, .int .i64 d.c, .int .i64 d.d], .int .i64 eh]) ∧ Grow w w')) (X : Hid (∀ w, Calls Try.prog 19 #[.agg #[.int .i64 a.a, .int .i64 a.b, .int .i64 a.c, .int .i64 a.d], .agg #[.int .i64 c.a, .int .i64 c.b, .int .i64 c.c, .int .i64 c.d]] w fun ex w' => ex = .returned (.tuple #[.agg #[.int .i64 x.a, .int .i64 x.b, .int .i64 x.c, .int .i64 x.d], .int .i64 ei]) ∧ Grow w w')) (w : World) :
    Calls Try.prog 11 #[.agg #[.int .i64 m.a, .int .i64 m.b, .int .i64 m.c, .int .i64 m.d], .int .i64 n, .int .i8 k] w fun ex w' => ex = .returned (.bool true) ∧ Grow w w' := by
  have wnk : IntKind.i64.wrap (n + k) = n + k := IntWalk.i64_in _ (by omega)
  have wk : IntKind.i64.wrap k = k := IntWalk.i64_in _ (by omega)
  clear hk
  go_enter Try.func11, Try.ntmps11
  go_wp2_with fail
  (go_at_call 12; refine (awake18_any _).mono ?_; rintro e w1 ⟨rfl, hb1⟩; have hc1 := hb1.cells; have hf1 := hb1.frees; have hz1 := hb1.size; (try simp at hz1))
  have zw1_0 : w.heap.size < w1.heap.size := (by omega)
  go_wp2_with fail
  (go_at_call 34; refine (A.out _).mono ?_; rintro e w2 ⟨rfl, hb2⟩; have hc2 := hb2.cells; have hf2 := hb2.frees; have hz2 := hb2.size; (try simp at hz2))
  have zw2_0 : w.heap.size < w2.heap.size := (by omega)
  go_wp2_with fail
  (go_at_call 35; refine (AR.out _).mono ?_; rintro e w3 ⟨rfl, hb3⟩; have hc3 := hb3.cells; have hf3 := hb3.frees; have hz3 := hb3.size; (try simp at hz3))
  have zw3_0 : w.heap.size < w3.heap.size := (by omega); have zw3_1 : w2.heap.size < w3.heap.size := (by omega)
  go_wp2_with fail
  (go_at_call 34; refine (B.out _).mono ?_; rintro e w4 ⟨rfl, hb4⟩; have hc4 := hb4.cells; have hf4 := hb4.frees; have hz4 := hb4.size; (try simp at hz4))
  have zw4_0 : w.heap.size < w4.heap.size := (by omega); have zw4_1 : w2.heap.size < w4.heap.size := (by omega); have zw4_2 : w3.heap.size < w4.heap.size := (by omega)
  go_wp2_with fail
  (go_at_call 34; refine (D.out _).mono ?_; rintro e w5 ⟨rfl, hb5⟩; have hc5 := hb5.cells; have hf5 := hb5.frees; have hz5 := hb5.size; (try simp at hz5))
  have zw5_0 : w.heap.size < w5.heap.size := (by omega); have zw5_1 : w2.heap.size < w5.heap.size := (by omega); have zw5_2 : w3.heap.size < w5.heap.size := (by omega); have zw5_3 : w4.heap.size < w5.heap.size := (by omega)
  go_wp2_with fail
  (go_at_call 19; refine (X.out _).mono ?_; rintro e w6 ⟨rfl, hb6⟩; have hc6 := hb6.cells; have hf6 := hb6.frees; have hz6 := hb6.size; (try simp at hz6))
  have zw6_0 : w.heap.size < w6.heap.size := (by omega); have zw6_1 : w2.heap.size < w6.heap.size := (by omega); have zw6_2 : w3.heap.size < w6.heap.size := (by omega); have zw6_3 : w4.heap.size < w6.heap.size := (by omega); have zw6_4 : w5.heap.size < w6.heap.size := (by omega)
  go_wp2_with fail
  go_ret
  exact ⟨rfl, by (repeat (first | with_reducible exact Grow.refl _ | with_reducible refine Grow.alloc ?_ _ | with_reducible refine Grow.drew ?_ | with_reducible refine Grow.drewN ?_ _ | (with_reducible refine Grow.setCell ?_ ?hp _; (case hp => (simp; try omega))) | with_reducible refine Grow.trans ?_ (by assumption)))⟩

set_option maxHeartbeats 4000000 in
theorem walk_h2 (m a c d x : M2) (n k ee eg eh ei : Int) (hk : -128 ≤ k ∧ k ≤ 127) (hn : -1000 ≤ n ∧ n ≤ 1000) (ke : (ee != 0) = false) (kg : (eg != 0) = false) (k1 : (eh != 0) = false) (k2 : (ei != 0) = true) (A : Hid (∀ w, Calls Try.prog 34 #[.agg #[.int .i64 m.a, .int .i64 m.b, .int .i64 m.c, .int .i64 m.d], .int .i64 n] w fun ex w' => ex = .returned (.tuple #[.agg #[.int .i64 a.a, .int .i64 a.b, .int .i64 a.c, .int .i64 a.d], .int .i64 ee]) ∧ Grow w w')) (AR : Hid (∀ w, Calls Try.prog 35 #[.agg #[.int .i64 m.a, .int .i64 m.b, .int .i64 m.c, .int .i64 m.d], .int .i64 n] w fun ex w' => ex = .returned (.tuple #[.agg #[.int .i64 a.a, .int .i64 a.b, .int .i64 a.c, .int .i64 a.d], .int .i64 ee]) ∧ Grow w w')) (B : Hid (∀ w, Calls Try.prog 34 #[.agg #[.int .i64 m.a, .int .i64 m.b, .int .i64 m.c, .int .i64 m.d], .int .i64 k] w fun ex w' => ex = .returned (.tuple #[.agg #[.int .i64 c.a, .int .i64 c.b, .int .i64 c.c, .int .i64 c.d], .int .i64 eg]) ∧ Grow w w')) (D : Hid (∀ w, Calls Try.prog 34 #[.agg #[.int .i64 m.a, .int .i64 m.b, .int .i64 m.c, .int .i64 m.d], .int .i64 (n + k)] w fun ex w' => ex = .returned (.tuple #[.agg #[.int .i64 d.a, .int .i64 d.b, .int .i64 d.c, .int .i64 d.d], .int .i64 eh]) ∧ Grow w w')) (X : Hid (∀ w, Calls Try.prog 19 #[.agg #[.int .i64 a.a, .int .i64 a.b, .int .i64 a.c, .int .i64 a.d], .agg #[.int .i64 c.a, .int .i64 c.b, .int .i64 c.c, .int .i64 c.d]] w fun ex w' => ex = .returned (.tuple #[.agg #[.int .i64 x.a, .int .i64 x.b, .int .i64 x.c, .int .i64 x.d], .int .i64 ei]) ∧ Grow w w')) (w : World) :
    Calls Try.prog 11 #[.agg #[.int .i64 m.a, .int .i64 m.b, .int .i64 m.c, .int .i64 m.d], .int .i64 n, .int .i8 k] w fun ex w' => ex = .returned (.bool true) ∧ Grow w w' := by
  have wnk : IntKind.i64.wrap (n + k) = n + k := IntWalk.i64_in _ (by omega)
  have wk : IntKind.i64.wrap k = k := IntWalk.i64_in _ (by omega)
  clear hk
  go_enter Try.func11, Try.ntmps11
  go_wp2_with fail
  (go_at_call 12; refine (awake18_any _).mono ?_; rintro e w1 ⟨rfl, hb1⟩; have hc1 := hb1.cells; have hf1 := hb1.frees; have hz1 := hb1.size; (try simp at hz1))
  have zw1_0 : w.heap.size < w1.heap.size := (by omega)
  go_wp2_with fail
  (go_at_call 34; refine (A.out _).mono ?_; rintro e w2 ⟨rfl, hb2⟩; have hc2 := hb2.cells; have hf2 := hb2.frees; have hz2 := hb2.size; (try simp at hz2))
  have zw2_0 : w.heap.size < w2.heap.size := (by omega)
  go_wp2_with fail
  (go_at_call 35; refine (AR.out _).mono ?_; rintro e w3 ⟨rfl, hb3⟩; have hc3 := hb3.cells; have hf3 := hb3.frees; have hz3 := hb3.size; (try simp at hz3))
  have zw3_0 : w.heap.size < w3.heap.size := (by omega); have zw3_1 : w2.heap.size < w3.heap.size := (by omega)
  go_wp2_with fail
  (go_at_call 34; refine (B.out _).mono ?_; rintro e w4 ⟨rfl, hb4⟩; have hc4 := hb4.cells; have hf4 := hb4.frees; have hz4 := hb4.size; (try simp at hz4))
  have zw4_0 : w.heap.size < w4.heap.size := (by omega); have zw4_1 : w2.heap.size < w4.heap.size := (by omega); have zw4_2 : w3.heap.size < w4.heap.size := (by omega)
  go_wp2_with fail
  (go_at_call 34; refine (D.out _).mono ?_; rintro e w5 ⟨rfl, hb5⟩; have hc5 := hb5.cells; have hf5 := hb5.frees; have hz5 := hb5.size; (try simp at hz5))
  have zw5_0 : w.heap.size < w5.heap.size := (by omega); have zw5_1 : w2.heap.size < w5.heap.size := (by omega); have zw5_2 : w3.heap.size < w5.heap.size := (by omega); have zw5_3 : w4.heap.size < w5.heap.size := (by omega)
  go_wp2_with fail
  (go_at_call 19; refine (X.out _).mono ?_; rintro e w6 ⟨rfl, hb6⟩; have hc6 := hb6.cells; have hf6 := hb6.frees; have hz6 := hb6.size; (try simp at hz6))
  have zw6_0 : w.heap.size < w6.heap.size := (by omega); have zw6_1 : w2.heap.size < w6.heap.size := (by omega); have zw6_2 : w3.heap.size < w6.heap.size := (by omega); have zw6_3 : w4.heap.size < w6.heap.size := (by omega); have zw6_4 : w5.heap.size < w6.heap.size := (by omega)
  go_wp2_with fail
  go_ret
  exact ⟨rfl, by (repeat (first | with_reducible exact Grow.refl _ | with_reducible refine Grow.alloc ?_ _ | with_reducible refine Grow.drew ?_ | with_reducible refine Grow.drewN ?_ _ | (with_reducible refine Grow.setCell ?_ ?hp _; (case hp => (simp; try omega))) | with_reducible refine Grow.trans ?_ (by assumption)))⟩

set_option maxHeartbeats 4000000 in
theorem walk_ok (m a c d : M2) (n k ee eg eh ei : Int) (hk : -128 ≤ k ∧ k ≤ 127) (hn : -1000 ≤ n ∧ n ≤ 1000) (ke : (ee != 0) = false) (kg : (eg != 0) = false) (k1 : (eh != 0) = false) (k2 : (ei != 0) = false) (A : Hid (∀ w, Calls Try.prog 34 #[.agg #[.int .i64 m.a, .int .i64 m.b, .int .i64 m.c, .int .i64 m.d], .int .i64 n] w fun ex w' => ex = .returned (.tuple #[.agg #[.int .i64 a.a, .int .i64 a.b, .int .i64 a.c, .int .i64 a.d], .int .i64 ee]) ∧ Grow w w')) (AR : Hid (∀ w, Calls Try.prog 35 #[.agg #[.int .i64 m.a, .int .i64 m.b, .int .i64 m.c, .int .i64 m.d], .int .i64 n] w fun ex w' => ex = .returned (.tuple #[.agg #[.int .i64 a.a, .int .i64 a.b, .int .i64 a.c, .int .i64 a.d], .int .i64 ee]) ∧ Grow w w')) (B : Hid (∀ w, Calls Try.prog 34 #[.agg #[.int .i64 m.a, .int .i64 m.b, .int .i64 m.c, .int .i64 m.d], .int .i64 k] w fun ex w' => ex = .returned (.tuple #[.agg #[.int .i64 c.a, .int .i64 c.b, .int .i64 c.c, .int .i64 c.d], .int .i64 eg]) ∧ Grow w w')) (D : Hid (∀ w, Calls Try.prog 34 #[.agg #[.int .i64 m.a, .int .i64 m.b, .int .i64 m.c, .int .i64 m.d], .int .i64 (n + k)] w fun ex w' => ex = .returned (.tuple #[.agg #[.int .i64 d.a, .int .i64 d.b, .int .i64 d.c, .int .i64 d.d], .int .i64 eh]) ∧ Grow w w')) (X : Hid (∀ w, Calls Try.prog 19 #[.agg #[.int .i64 a.a, .int .i64 a.b, .int .i64 a.c, .int .i64 a.d], .agg #[.int .i64 c.a, .int .i64 c.b, .int .i64 c.c, .int .i64 c.d]] w fun ex w' => ex = .returned (.tuple #[.agg #[.int .i64 d.a, .int .i64 d.b, .int .i64 d.c, .int .i64 d.d], .int .i64 ei]) ∧ Grow w w')) (w : World) :
    Calls Try.prog 11 #[.agg #[.int .i64 m.a, .int .i64 m.b, .int .i64 m.c, .int .i64 m.d], .int .i64 n, .int .i8 k] w fun ex w' => ex = .returned (.bool true) ∧ Grow w w' := by
  have wnk : IntKind.i64.wrap (n + k) = n + k := IntWalk.i64_in _ (by omega)
  have wk : IntKind.i64.wrap k = k := IntWalk.i64_in _ (by omega)
  clear hk
  go_enter Try.func11, Try.ntmps11
  go_wp2_with fail
  (go_at_call 12; refine (awake18_any _).mono ?_; rintro e w1 ⟨rfl, hb1⟩; have hc1 := hb1.cells; have hf1 := hb1.frees; have hz1 := hb1.size; (try simp at hz1))
  have zw1_0 : w.heap.size < w1.heap.size := (by omega)
  go_wp2_with fail
  (go_at_call 34; refine (A.out _).mono ?_; rintro e w2 ⟨rfl, hb2⟩; have hc2 := hb2.cells; have hf2 := hb2.frees; have hz2 := hb2.size; (try simp at hz2))
  have zw2_0 : w.heap.size < w2.heap.size := (by omega)
  go_wp2_with fail
  (go_at_call 35; refine (AR.out _).mono ?_; rintro e w3 ⟨rfl, hb3⟩; have hc3 := hb3.cells; have hf3 := hb3.frees; have hz3 := hb3.size; (try simp at hz3))
  have zw3_0 : w.heap.size < w3.heap.size := (by omega); have zw3_1 : w2.heap.size < w3.heap.size := (by omega)
  go_wp2_with fail
  (go_at_call 34; refine (B.out _).mono ?_; rintro e w4 ⟨rfl, hb4⟩; have hc4 := hb4.cells; have hf4 := hb4.frees; have hz4 := hb4.size; (try simp at hz4))
  have zw4_0 : w.heap.size < w4.heap.size := (by omega); have zw4_1 : w2.heap.size < w4.heap.size := (by omega); have zw4_2 : w3.heap.size < w4.heap.size := (by omega)
  go_wp2_with fail
  (go_at_call 34; refine (D.out _).mono ?_; rintro e w5 ⟨rfl, hb5⟩; have hc5 := hb5.cells; have hf5 := hb5.frees; have hz5 := hb5.size; (try simp at hz5))
  have zw5_0 : w.heap.size < w5.heap.size := (by omega); have zw5_1 : w2.heap.size < w5.heap.size := (by omega); have zw5_2 : w3.heap.size < w5.heap.size := (by omega); have zw5_3 : w4.heap.size < w5.heap.size := (by omega)
  go_wp2_with fail
  (go_at_call 19; refine (X.out _).mono ?_; rintro e w6 ⟨rfl, hb6⟩; have hc6 := hb6.cells; have hf6 := hb6.frees; have hz6 := hb6.size; (try simp at hz6))
  have zw6_0 : w.heap.size < w6.heap.size := (by omega); have zw6_1 : w2.heap.size < w6.heap.size := (by omega); have zw6_2 : w3.heap.size < w6.heap.size := (by omega); have zw6_3 : w4.heap.size < w6.heap.size := (by omega); have zw6_4 : w5.heap.size < w6.heap.size := (by omega)
  go_wp2_with fail
  go_ret
  exact ⟨rfl, by (repeat (first | with_reducible exact Grow.refl _ | with_reducible refine Grow.alloc ?_ _ | with_reducible refine Grow.drew ?_ | with_reducible refine Grow.drewN ?_ _ | (with_reducible refine Grow.setCell ?_ ?hp _; (case hp => (simp; try omega))) | with_reducible refine Grow.trans ?_ (by assumption)))⟩

theorem walk (m : M2) (_hm : (-9223372036854775808 ≤ m.a ∧ m.a ≤ 9223372036854775807) ∧ (-9223372036854775808 ≤ m.b ∧ m.b ≤ 9223372036854775807) ∧ (-9223372036854775808 ≤ m.c ∧ m.c ≤ 9223372036854775807) ∧ (-9223372036854775808 ≤ m.d ∧ m.d ≤ 9223372036854775807)) (n : Int) (_hn : -9223372036854775808 ≤ n) (_hn' : n ≤ 9223372036854775807) (k : Int) (hk : -128 ≤ k) (hk' : k ≤ 127) (w : World) :
    Calls Try.prog 11 #[.agg #[.int .i64 m.a, .int .i64 m.b, .int .i64 m.c, .int .i64 m.d], .int .i64 n, .int .i8 k] w fun ex w' => ex = .returned (.bool true) ∧ Grow w w' := by
  obtain ⟨⟨a, ee⟩, h1⟩ : ∃ u, powF m n = u := ⟨_, rfl⟩
  obtain ⟨⟨c, eg⟩, h2⟩ : ∃ u, powF m k = u := ⟨_, rfl⟩
  obtain ⟨⟨d, eh⟩, h3⟩ : ∃ u, powF m (n + k) = u := ⟨_, rfl⟩
  obtain ⟨⟨x, ei⟩, h4⟩ : ∃ u, mulF a c = u := ⟨_, rfl⟩
  have A : Hid (∀ w, _) := fun w => power_any m n w
  have AR : Hid (∀ w, _) := fun w => refPower_any m n w
  have B : Hid (∀ w, _) := fun w => power_any m k w
  have D : Hid (∀ w, _) := fun w => power_any m (n + k) w
  have X : Hid (∀ w, _) := fun w => mul_any a c w
  rw [h1] at A AR
  rw [h2] at B
  rw [h3] at D
  rw [h4] at X
  by_cases e1 : ee = 0
  · by_cases e2 : eg = 0
    · subst e1 e2
      have hn := powF_zpw h1
      by_cases e3 : eh = 0
      · by_cases e4 : ei = 0
        · subst e3 e4
          obtain rfl := pow_mul h1 h2 h3 h4
          exact walk_ok m a c x n k 0 0 0 0 ⟨hk, hk'⟩ ⟨hn.2.1, hn.2.2.1⟩ rfl rfl rfl rfl A AR B D X w
        · exact walk_h2 m a c d x n k 0 0 eh ei ⟨hk, hk'⟩ ⟨hn.2.1, hn.2.2.1⟩ rfl rfl (by simpa using e3) (by simpa using e4) A AR B D X w
      · exact walk_h1 m a c d x n k 0 0 eh ei ⟨hk, hk'⟩ ⟨hn.2.1, hn.2.2.1⟩ rfl rfl (by simpa using e3) A AR B D X w
    · exact walk_e2 m a c n k ee eg ⟨hk, hk'⟩ (by simpa using e1) (by simpa using e2) A AR B w
  · exact walk_e1 m a c n k ee eg ⟨hk, hk'⟩ (by simpa using e1) A AR B w

set_option maxRecDepth 100000 in
theorem lifted (os : Os) (started : os.Started) (H : Type) (enc : TypeId × Value → H) :
    ReturnsInHanded {} Try.checked os 11 .any (Rows.sl2PowersSpec.pre6 enc Try.prog Try.f11 Rows.sl2PowersRow.domain false) (Rows.sl2PowersSpec.post enc Try.prog Try.f11 false true false false) := by
  refine returnsInHanded_of_change (C := Try.checked) own started (by kernel_rfl) Try.func11
    (ChangeSpec.witness6 (enc := enc) (C := Try.checked) false ⟨#[], #[.agg #[.int .i64 0, .int .i64 0, .int .i64 0, .int .i64 0], .int .i64 0, .int .i8 0], []⟩ 8 (by kernel_rfl) (by kernel_rfl) (by kernel_rfl) (by kernel_rfl)) ?_
  intro W base args ds gs before hval0 hW hcnd _
  have hval : ∀ (j : Nat) t v, Try.f11.params[j]? = some t → args[j]? = some v → Value.okWide Try.prog W .any base t v := hval0
  have hW' := hW
  obtain ⟨p, q, hA0, hV, rfl, -, -⟩ := hW
  have hA : DataW.TrodAll enc Try.prog W 0 (fun _ => true) true Try.f11.params.toList args.toList ds p := hA0
  rw [Try.params11] at hA hval
  obtain ⟨v0, vs0, d0, ds0, p0, q0, hargs, rfl, rfl, h0, r0⟩ := trodAll_cons hA
  obtain ⟨v1, vs1, d1, ds1, p1, q1, rfl, rfl, rfl, h1, r1⟩ := trodAll_cons r0
  obtain ⟨v2, vs2, d2, ds2, p2, q2, rfl, rfl, rfl, h2, r2⟩ := trodAll_cons r1
  obtain ⟨rfl, rfl, rfl⟩ := trodAll_nil r2
  obtain rfl : args = #[v0, v1, v2] := by cases args; simp_all
  obtain ⟨rfl, rfl⟩ := trodVars_none hV
  obtain ⟨a0, rfl, c0⟩ := open_mat (hval 0 23 v0 rfl rfl) h0
  obtain ⟨a1, rfl, rfl, -, b1⟩ := open_int Try.underlying3 (hval 1 3 v1 rfl rfl) h1
  have c1 := bounds_i64 b1
  obtain ⟨a2, rfl, rfl, -, b2⟩ := open_int Try.underlying65 (hval 2 65 v2 rfl rfl) h2
  have c2 := bounds_i8 b2
  clear hA0 hval0
  refine (walk a0 c0 a1 c1.1 c1.2 a2 c2.1 c2.2 W).mono fun e W' ⟨he, hg⟩ => ?_
  subst he
  exact ⟨_, rfl, law_post 4 rfl Try.underlying4 laidOut (of_decide_eq_true (by kernel_rfl)) rfl hW' rfl hg⟩

theorem over : Rows.sl2PowersRow.holds Try.pinned (OpenSpec.ofChange Rows.sl2PowersSpec) :=
  OpenClaim.holds_of_wide 11 Try.f11 rfl rfl rfl rfl rfl rfl rfl ⟨rfl, rfl, rfl, rfl, rfl⟩ rfl rfl rfl rfl rfl (by kernel_rfl) Try.func11 (by kernel_rfl)
    (of_decide_eq_true (by kernel_rfl)) (by unfold Func.isWrapper; rw [if_neg (by decide +kernel)]; exact ⟨rfl, rfl⟩)
    (fun os started H enc _ => lifted os started H enc)

theorem proved : Rows.Sl2PowersSaid := over
end Go.Proofs.Ytkjcdiolimajdaa.powers
