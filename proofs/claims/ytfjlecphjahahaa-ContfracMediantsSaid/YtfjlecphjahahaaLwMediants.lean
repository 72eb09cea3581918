/- The mediant of two cusps is that of the reference, or the error is; it is a Farey neighbour of both, and they are its parents if both are finite. No condition: every two cusps. -/
import Derived.Test.YtfjlecphjahahaaCfZ
import Derived.Test.YtfjlecphjahahaaCfI
import Derived.Test.YtfjlecphjahahaaCfP
import Derived.Test.YtfjlecphjahahaaPlS
namespace Go.Proofs.Ytfjlecphjahahaa.mediants
open Go Go.RowKit Go.ChangeShapes Go.WideShapes Go.ChangeAt

theorem par_all (c : C2) (w : World) : Calls Try.prog 31 #[.agg #[.int .i64 c.p, .int .i64 c.q]] w fun e w' => ∃ (x y : C2) (er : Int), e = .returned (.tuple #[.agg #[.int .i64 x.p, .int .i64 x.q], .agg #[.int .i64 y.p, .int .i64 y.q], .int .i64 er]) ∧ Grow w w' := by
  by_cases h0 : ccF c = 0
  · by_cases hq : c.q < 2
    · refine (parents_low c h0 hq w).mono ?_
      rintro e w' ⟨rfl, hg⟩
      exact ⟨C2.zero, C2.zero, 3, rfl, hg⟩
    · refine (parents_any c h0 (by omega) w).mono ?_
      rintro e w' ⟨t, rfl, -, hg⟩
      exact ⟨t, ⟨c.p - t.p, c.q - t.q⟩, 0, rfl, hg⟩
  · refine (parents_err c h0 w).mono ?_
    rintro e w' ⟨rfl, hg⟩
    exact ⟨C2.zero, C2.zero, _, rfl, hg⟩

set_option maxHeartbeats 2000000 in
theorem walk_err (a b c : C2) (er : Int) (he : er ≠ 0)
    (X : Hid (∀ w, Calls Try.prog 29 #[.agg #[.int .i64 a.p, .int .i64 a.q], .agg #[.int .i64 b.p, .int .i64 b.q]] w fun e w' => e = .returned (.tuple #[.agg #[.int .i64 c.p, .int .i64 c.q], .int .i64 er]) ∧ Grow w w'))
    (Y : Hid (∀ w, Calls Try.prog 30 #[.agg #[.int .i64 a.p, .int .i64 a.q], .agg #[.int .i64 b.p, .int .i64 b.q]] w fun e w' => e = .returned (.tuple #[.agg #[.int .i64 c.p, .int .i64 c.q], .int .i64 er]) ∧ Grow w w')) (w : World) :
    Calls Try.prog 10 #[.agg #[.int .i64 a.p, .int .i64 a.q], .agg #[.int .i64 b.p, .int .i64 b.q]] w fun ex w' => ex = .returned (.bool true) ∧ Grow w w' := by
  have k1 : (er == 0) = false := by simpa using he
  have k2 : (er != 0) = true := by simpa using he
  clear he
  go_enter Try.func10, Try.ntmps10
  go_wp2_with fail
  (go_at_call 13; refine (awake19_any _).mono ?_; rintro e w1 ⟨rfl, hb1⟩; have hc1 := hb1.cells; have hf1 := hb1.frees; have hz1 := hb1.size; (try simp at hz1))
  have z1a : w.heap.size < w1.heap.size := by omega
  have z1b : w.heap.size + 1 < w1.heap.size := by omega
  have c0 : w1.cell? ⟨w.heap.size, 0, none⟩ = some (.int .i64 a.p) := by rw [hc1 _ _ (by simp; try omega)]; go_simp
  have c1 : w1.cell? ⟨w.heap.size, 1, none⟩ = some (.int .i64 a.q) := by rw [hc1 _ _ (by simp; try omega)]; go_simp
  have c2 : w1.cell? ⟨w.heap.size + 1, 0, none⟩ = some (.int .i64 b.p) := by rw [hc1 _ _ (by simp; try omega)]; go_simp
  have c3 : w1.cell? ⟨w.heap.size + 1, 1, none⟩ = some (.int .i64 b.q) := by rw [hc1 _ _ (by simp; try omega)]; go_simp
  have hG1 : Grow w w1 := by (repeat (first | with_reducible exact Grow.refl _ | with_reducible refine Grow.alloc ?_ _ | with_reducible refine Grow.drew ?_ | with_reducible refine Grow.drewN ?_ _ | (with_reducible refine Grow.setCell ?_ ?hp _; (case hp => (simp; try omega))) | with_reducible refine Grow.trans ?_ (by assumption)))
  clear hc1 hf1 hb1 hz1
  go_wp2_with fail
  (go_at_call 29; refine (X.out _).mono ?_; rintro e w2 ⟨rfl, hb2⟩; have hc2 := hb2.cells; have hf2 := hb2.frees; have hz2 := hb2.size; (try simp at hz2))
  have z2a : w.heap.size < w2.heap.size := by omega
  have z2b : w.heap.size + 1 < w2.heap.size := by omega
  go_wp2_with fail
  (go_at_call 30; refine (Y.out _).mono ?_; rintro e w3 ⟨rfl, hb3⟩; have hc3 := hb3.cells; have hf3 := hb3.frees; have hz3 := hb3.size; (try simp at hz3))
  have z3a : w.heap.size < w3.heap.size := by omega
  have z3b : w.heap.size + 1 < w3.heap.size := by omega
  have z3c : w2.heap.size < w3.heap.size := by omega
  have hG2 := hG1.trans hb2
  go_wp2_with fail
  go_ret
  clear hb2
  exact ⟨rfl, by (repeat (first | with_reducible exact Grow.refl _ | with_reducible refine Grow.alloc ?_ _ | with_reducible refine Grow.drew ?_ | with_reducible refine Grow.drewN ?_ _ | (with_reducible refine Grow.setCell ?_ ?hp _; (case hp => (simp; try omega))) | with_reducible refine Grow.trans ?_ (by assumption)))⟩

set_option maxHeartbeats 2000000 in
theorem walk_a (a b c : C2) (q1 : (a.q == 0) = true) (HNB : Hid (Nb [a, c, b])) 
    (X : Hid (∀ w, Calls Try.prog 29 #[.agg #[.int .i64 a.p, .int .i64 a.q], .agg #[.int .i64 b.p, .int .i64 b.q]] w fun e w' => e = .returned (.tuple #[.agg #[.int .i64 c.p, .int .i64 c.q], .int .i64 0]) ∧ Grow w w'))
    (Y : Hid (∀ w, Calls Try.prog 30 #[.agg #[.int .i64 a.p, .int .i64 a.q], .agg #[.int .i64 b.p, .int .i64 b.q]] w fun e w' => e = .returned (.tuple #[.agg #[.int .i64 c.p, .int .i64 c.q], .int .i64 0]) ∧ Grow w w')) (w : World) :
    Calls Try.prog 10 #[.agg #[.int .i64 a.p, .int .i64 a.q], .agg #[.int .i64 b.p, .int .i64 b.q]] w fun ex w' => ex = .returned (.bool true) ∧ Grow w w' := by
  go_enter Try.func10, Try.ntmps10
  go_wp2_with fail
  (go_at_call 13; refine (awake19_any _).mono ?_; rintro e w1 ⟨rfl, hb1⟩; have hc1 := hb1.cells; have hf1 := hb1.frees; have hz1 := hb1.size; (try simp at hz1))
  have z1a : w.heap.size < w1.heap.size := by omega
  have z1b : w.heap.size + 1 < w1.heap.size := by omega
  have c0 : w1.cell? ⟨w.heap.size, 0, none⟩ = some (.int .i64 a.p) := by rw [hc1 _ _ (by simp; try omega)]; go_simp
  have c1 : w1.cell? ⟨w.heap.size, 1, none⟩ = some (.int .i64 a.q) := by rw [hc1 _ _ (by simp; try omega)]; go_simp
  have c2 : w1.cell? ⟨w.heap.size + 1, 0, none⟩ = some (.int .i64 b.p) := by rw [hc1 _ _ (by simp; try omega)]; go_simp
  have c3 : w1.cell? ⟨w.heap.size + 1, 1, none⟩ = some (.int .i64 b.q) := by rw [hc1 _ _ (by simp; try omega)]; go_simp
  have hG1 : Grow w w1 := by (repeat (first | with_reducible exact Grow.refl _ | with_reducible refine Grow.alloc ?_ _ | with_reducible refine Grow.drew ?_ | with_reducible refine Grow.drewN ?_ _ | (with_reducible refine Grow.setCell ?_ ?hp _; (case hp => (simp; try omega))) | with_reducible refine Grow.trans ?_ (by assumption)))
  clear hc1 hf1 hb1 hz1
  go_wp2_with fail
  (go_at_call 29; refine (X.out _).mono ?_; rintro e w2 ⟨rfl, hb2⟩; have hc2 := hb2.cells; have hf2 := hb2.frees; have hz2 := hb2.size; (try simp at hz2))
  have z2a : w.heap.size < w2.heap.size := by omega
  have z2b : w.heap.size + 1 < w2.heap.size := by omega
  go_wp2_with fail
  (go_at_call 30; refine (Y.out _).mono ?_; rintro e w3 ⟨rfl, hb3⟩; have hc3 := hb3.cells; have hf3 := hb3.frees; have hz3 := hb3.size; (try simp at hz3))
  have z3a : w.heap.size < w3.heap.size := by omega
  have z3b : w.heap.size + 1 < w3.heap.size := by omega
  have z3c : w2.heap.size < w3.heap.size := by omega
  have hG2 := hG1.trans hb2
  have hG3 : Grow w w3 := by clear hb2; (repeat (first | with_reducible exact Grow.refl _ | with_reducible refine Grow.alloc ?_ _ | with_reducible refine Grow.drew ?_ | with_reducible refine Grow.drewN ?_ _ | (with_reducible refine Grow.setCell ?_ ?hp _; (case hp => (simp; try omega))) | with_reducible refine Grow.trans ?_ (by assumption)))
  have x1 : w2.heap.size < w3.heap.size + 1 + 1 := by omega
  have x2 : w.heap.size < w3.heap.size + 1 + 1 := by omega
  have x3 : w.heap.size + 1 < w3.heap.size + 1 + 1 := by omega
  go_wp2_with (go_at_call 20; refine (nb_any [a, c, b] _ (by simp) HNB.out _ (rd_lit _ [a, c, b] _ _ 3 (by simp) (by simp))).mono ?_; rintro e w4 ⟨rfl, hb4⟩; have hc4 := hb4.cells; have hf4 := hb4.frees; have hz4 := hb4.size; (simp at hz4); have z4a : w.heap.size < w4.heap.size := (by omega); have z4b : w.heap.size + 1 < w4.heap.size := (by omega); have z4c : w2.heap.size < w4.heap.size := (by omega))
  have hG4 : Grow w w4 := by clear hb2 hG2; (repeat (first | with_reducible exact Grow.refl _ | with_reducible refine Grow.alloc ?_ _ | with_reducible refine Grow.drew ?_ | with_reducible refine Grow.drewN ?_ _ | (with_reducible refine Grow.setCell ?_ ?hp _; (case hp => (simp; try omega))) | with_reducible refine Grow.trans ?_ (by assumption)))
  go_at_call 31
  refine (par_all c _).mono ?_
  rintro e w5 ⟨x, y, er, rfl, hb5⟩
  have hc5 := hb5.cells
  have hf5 := hb5.frees
  have hz5 := hb5.size
  have z5a : w.heap.size < w5.heap.size := by omega
  have z5b : w.heap.size + 1 < w5.heap.size := by omega
  have hG5 := hG4.trans hb5
  clear hb2 hb3 hb4 hb5 hG2 hG3 hG4 X Y
  go_wp2
  go_ret
  exact ⟨rfl, (hG5.alloc _).alloc _⟩

set_option maxHeartbeats 2000000 in
theorem walk_b (a b c : C2) (q1 : (a.q == 0) = false) (q2 : (b.q == 0) = true) (HNB : Hid (Nb [a, c, b])) 
    (X : Hid (∀ w, Calls Try.prog 29 #[.agg #[.int .i64 a.p, .int .i64 a.q], .agg #[.int .i64 b.p, .int .i64 b.q]] w fun e w' => e = .returned (.tuple #[.agg #[.int .i64 c.p, .int .i64 c.q], .int .i64 0]) ∧ Grow w w'))
    (Y : Hid (∀ w, Calls Try.prog 30 #[.agg #[.int .i64 a.p, .int .i64 a.q], .agg #[.int .i64 b.p, .int .i64 b.q]] w fun e w' => e = .returned (.tuple #[.agg #[.int .i64 c.p, .int .i64 c.q], .int .i64 0]) ∧ Grow w w')) (w : World) :
    Calls Try.prog 10 #[.agg #[.int .i64 a.p, .int .i64 a.q], .agg #[.int .i64 b.p, .int .i64 b.q]] w fun ex w' => ex = .returned (.bool true) ∧ Grow w w' := by
  go_enter Try.func10, Try.ntmps10
  go_wp2_with fail
  (go_at_call 13; refine (awake19_any _).mono ?_; rintro e w1 ⟨rfl, hb1⟩; have hc1 := hb1.cells; have hf1 := hb1.frees; have hz1 := hb1.size; (try simp at hz1))
  have z1a : w.heap.size < w1.heap.size := by omega
  have z1b : w.heap.size + 1 < w1.heap.size := by omega
  have c0 : w1.cell? ⟨w.heap.size, 0, none⟩ = some (.int .i64 a.p) := by rw [hc1 _ _ (by simp; try omega)]; go_simp
  have c1 : w1.cell? ⟨w.heap.size, 1, none⟩ = some (.int .i64 a.q) := by rw [hc1 _ _ (by simp; try omega)]; go_simp
  have c2 : w1.cell? ⟨w.heap.size + 1, 0, none⟩ = some (.int .i64 b.p) := by rw [hc1 _ _ (by simp; try omega)]; go_simp
  have c3 : w1.cell? ⟨w.heap.size + 1, 1, none⟩ = some (.int .i64 b.q) := by rw [hc1 _ _ (by simp; try omega)]; go_simp
  have hG1 : Grow w w1 := by (repeat (first | with_reducible exact Grow.refl _ | with_reducible refine Grow.alloc ?_ _ | with_reducible refine Grow.drew ?_ | with_reducible refine Grow.drewN ?_ _ | (with_reducible refine Grow.setCell ?_ ?hp _; (case hp => (simp; try omega))) | with_reducible refine Grow.trans ?_ (by assumption)))
  clear hc1 hf1 hb1 hz1
  go_wp2_with fail
  (go_at_call 29; refine (X.out _).mono ?_; rintro e w2 ⟨rfl, hb2⟩; have hc2 := hb2.cells; have hf2 := hb2.frees; have hz2 := hb2.size; (try simp at hz2))
  have z2a : w.heap.size < w2.heap.size := by omega
  have z2b : w.heap.size + 1 < w2.heap.size := by omega
  go_wp2_with fail
  (go_at_call 30; refine (Y.out _).mono ?_; rintro e w3 ⟨rfl, hb3⟩; have hc3 := hb3.cells; have hf3 := hb3.frees; have hz3 := hb3.size; (try simp at hz3))
  have z3a : w.heap.size < w3.heap.size := by omega
  have z3b : w.heap.size + 1 < w3.heap.size := by omega
  have z3c : w2.heap.size < w3.heap.size := by omega
  have hG2 := hG1.trans hb2
  have hG3 : Grow w w3 := by clear hb2; (repeat (first | with_reducible exact Grow.refl _ | with_reducible refine Grow.alloc ?_ _ | with_reducible refine Grow.drew ?_ | with_reducible refine Grow.drewN ?_ _ | (with_reducible refine Grow.setCell ?_ ?hp _; (case hp => (simp; try omega))) | with_reducible refine Grow.trans ?_ (by assumption)))
  have x1 : w2.heap.size < w3.heap.size + 1 + 1 := by omega
  have x2 : w.heap.size < w3.heap.size + 1 + 1 := by omega
  have x3 : w.heap.size + 1 < w3.heap.size + 1 + 1 := by omega
  go_wp2_with (go_at_call 20; refine (nb_any [a, c, b] _ (by simp) HNB.out _ (rd_lit _ [a, c, b] _ _ 3 (by simp) (by simp))).mono ?_; rintro e w4 ⟨rfl, hb4⟩; have hc4 := hb4.cells; have hf4 := hb4.frees; have hz4 := hb4.size; (simp at hz4); have z4a : w.heap.size < w4.heap.size := (by omega); have z4b : w.heap.size + 1 < w4.heap.size := (by omega); have z4c : w2.heap.size < w4.heap.size := (by omega))
  have hG4 : Grow w w4 := by clear hb2 hG2; (repeat (first | with_reducible exact Grow.refl _ | with_reducible refine Grow.alloc ?_ _ | with_reducible refine Grow.drew ?_ | with_reducible refine Grow.drewN ?_ _ | (with_reducible refine Grow.setCell ?_ ?hp _; (case hp => (simp; try omega))) | with_reducible refine Grow.trans ?_ (by assumption)))
  go_at_call 31
  refine (par_all c _).mono ?_
  rintro e w5 ⟨x, y, er, rfl, hb5⟩
  have hc5 := hb5.cells
  have hf5 := hb5.frees
  have hz5 := hb5.size
  have z5a : w.heap.size < w5.heap.size := by omega
  have z5b : w.heap.size + 1 < w5.heap.size := by omega
  have hG5 := hG4.trans hb5
  clear hb2 hb3 hb4 hb5 hG2 hG3 hG4 X Y
  go_wp2
  go_ret
  exact ⟨rfl, (hG5.alloc _).alloc _⟩

set_option maxHeartbeats 2000000 in
theorem walk_n (a b c : C2) (q1 : (a.q == 0) = false) (q2 : (b.q == 0) = false) (HNB : Hid (Nb [a, c, b])) (PA : Hid (∀ w, Calls Try.prog 31 #[.agg #[.int .i64 c.p, .int .i64 c.q]] w fun e w' => e = .returned (.tuple #[.agg #[.int .i64 a.p, .int .i64 a.q], .agg #[.int .i64 b.p, .int .i64 b.q], .int .i64 0]) ∧ Grow w w'))
    (X : Hid (∀ w, Calls Try.prog 29 #[.agg #[.int .i64 a.p, .int .i64 a.q], .agg #[.int .i64 b.p, .int .i64 b.q]] w fun e w' => e = .returned (.tuple #[.agg #[.int .i64 c.p, .int .i64 c.q], .int .i64 0]) ∧ Grow w w'))
    (Y : Hid (∀ w, Calls Try.prog 30 #[.agg #[.int .i64 a.p, .int .i64 a.q], .agg #[.int .i64 b.p, .int .i64 b.q]] w fun e w' => e = .returned (.tuple #[.agg #[.int .i64 c.p, .int .i64 c.q], .int .i64 0]) ∧ Grow w w')) (w : World) :
    Calls Try.prog 10 #[.agg #[.int .i64 a.p, .int .i64 a.q], .agg #[.int .i64 b.p, .int .i64 b.q]] w fun ex w' => ex = .returned (.bool true) ∧ Grow w w' := by
  go_enter Try.func10, Try.ntmps10
  go_wp2_with fail
  (go_at_call 13; refine (awake19_any _).mono ?_; rintro e w1 ⟨rfl, hb1⟩; have hc1 := hb1.cells; have hf1 := hb1.frees; have hz1 := hb1.size; (try simp at hz1))
  have z1a : w.heap.size < w1.heap.size := by omega
  have z1b : w.heap.size + 1 < w1.heap.size := by omega
  have c0 : w1.cell? ⟨w.heap.size, 0, none⟩ = some (.int .i64 a.p) := by rw [hc1 _ _ (by simp; try omega)]; go_simp
  have c1 : w1.cell? ⟨w.heap.size, 1, none⟩ = some (.int .i64 a.q) := by rw [hc1 _ _ (by simp; try omega)]; go_simp
  have c2 : w1.cell? ⟨w.heap.size + 1, 0, none⟩ = some (.int .i64 b.p) := by rw [hc1 _ _ (by simp; try omega)]; go_simp
  have c3 : w1.cell? ⟨w.heap.size + 1, 1, none⟩ = some (.int .i64 b.q) := by rw [hc1 _ _ (by simp; try omega)]; go_simp
  have hG1 : Grow w w1 := by (repeat (first | with_reducible exact Grow.refl _ | with_reducible refine Grow.alloc ?_ _ | with_reducible refine Grow.drew ?_ | with_reducible refine Grow.drewN ?_ _ | (with_reducible refine Grow.setCell ?_ ?hp _; (case hp => (simp; try omega))) | with_reducible refine Grow.trans ?_ (by assumption)))
  clear hc1 hf1 hb1 hz1
  go_wp2_with fail
  (go_at_call 29; refine (X.out _).mono ?_; rintro e w2 ⟨rfl, hb2⟩; have hc2 := hb2.cells; have hf2 := hb2.frees; have hz2 := hb2.size; (try simp at hz2))
  have z2a : w.heap.size < w2.heap.size := by omega
  have z2b : w.heap.size + 1 < w2.heap.size := by omega
  go_wp2_with fail
  (go_at_call 30; refine (Y.out _).mono ?_; rintro e w3 ⟨rfl, hb3⟩; have hc3 := hb3.cells; have hf3 := hb3.frees; have hz3 := hb3.size; (try simp at hz3))
  have z3a : w.heap.size < w3.heap.size := by omega
  have z3b : w.heap.size + 1 < w3.heap.size := by omega
  have z3c : w2.heap.size < w3.heap.size := by omega
  have hG2 := hG1.trans hb2
  have hG3 : Grow w w3 := by clear hb2; (repeat (first | with_reducible exact Grow.refl _ | with_reducible refine Grow.alloc ?_ _ | with_reducible refine Grow.drew ?_ | with_reducible refine Grow.drewN ?_ _ | (with_reducible refine Grow.setCell ?_ ?hp _; (case hp => (simp; try omega))) | with_reducible refine Grow.trans ?_ (by assumption)))
  have x1 : w2.heap.size < w3.heap.size + 1 + 1 := by omega
  have x2 : w.heap.size < w3.heap.size + 1 + 1 := by omega
  have x3 : w.heap.size + 1 < w3.heap.size + 1 + 1 := by omega
  go_wp2_with (go_at_call 20; refine (nb_any [a, c, b] _ (by simp) HNB.out _ (rd_lit _ [a, c, b] _ _ 3 (by simp) (by simp))).mono ?_; rintro e w4 ⟨rfl, hb4⟩; have hc4 := hb4.cells; have hf4 := hb4.frees; have hz4 := hb4.size; (simp at hz4); have z4a : w.heap.size < w4.heap.size := (by omega); have z4b : w.heap.size + 1 < w4.heap.size := (by omega); have z4c : w2.heap.size < w4.heap.size := (by omega))
  have hG4 : Grow w w4 := by clear hb2 hG2; (repeat (first | with_reducible exact Grow.refl _ | with_reducible refine Grow.alloc ?_ _ | with_reducible refine Grow.drew ?_ | with_reducible refine Grow.drewN ?_ _ | (with_reducible refine Grow.setCell ?_ ?hp _; (case hp => (simp; try omega))) | with_reducible refine Grow.trans ?_ (by assumption)))
  go_at_call 31
  refine (PA.out _).mono ?_
  rintro e w5 ⟨rfl, hb5⟩
  have hc5 := hb5.cells
  have hf5 := hb5.frees
  have hz5 := hb5.size
  have z5a : w.heap.size < w5.heap.size := by omega
  have z5b : w.heap.size + 1 < w5.heap.size := by omega
  have hG5 := hG4.trans hb5
  clear hb2 hb3 hb4 hb5 hG2 hG3 hG4 X Y
  go_wp2
  go_ret
  exact ⟨rfl, (hG5.alloc _).alloc _⟩

theorem walk (a b : C2) (w : World) : Calls Try.prog 10 #[.agg #[.int .i64 a.p, .int .i64 a.q], .agg #[.int .i64 b.p, .int .i64 b.q]] w fun ex w' => ex = .returned (.bool true) ∧ Grow w w' := by
  have X := Lib.hid (fun w => med_any a b w)
  have Y := Lib.hid (fun w => refmed_any a b w)
  obtain ⟨c, er, hm⟩ : ∃ c er, medF a b = (c, er) := ⟨_, _, rfl⟩
  rw [hm] at X Y
  by_cases he : er = 0
  · subst he
    obtain ⟨hnb, hpar⟩ := med_spec hm
    by_cases qa : a.q = 0
    · exact walk_a a b c (by simpa using qa) hnb X Y w
    · by_cases qb : b.q = 0
      · exact walk_b a b c (by simpa using qa) (by simpa using qb) hnb X Y w
      · obtain ⟨h0, hq, hp, hb⟩ := hpar qa qb
        refine walk_n a b c (by simpa using qa) (by simpa using qb) hnb ?_ X Y w
        intro w
        refine (parents_any c h0 hq w).mono ?_
        rintro e w' ⟨t, rfl, ht, hg⟩
        have : t = a := par_unique (ccF_zero.1 h0).2.2.2.1 ht hp
        subst this
        rw [hb]
        exact ⟨rfl, hg⟩
  · exact walk_err a b c er he X Y w

set_option maxRecDepth 100000 in
theorem lifted (os : Os) (started : os.Started) (H : Type) (enc : TypeId × Value → H) :
    ReturnsInHanded {} Try.checked os 10 .any (Rows.contfracMediantsSpec.pre6 enc Try.prog Try.f10 Rows.contfracMediantsRow.domain false) (Rows.contfracMediantsSpec.post enc Try.prog Try.f10 false true false false) := by
  refine returnsInHanded_of_change (C := Try.checked) own started (by kernel_rfl) Try.func10
    (ChangeSpec.witness6 (enc := enc) (C := Try.checked) false ⟨#[], #[.agg #[.int .i64 0, .int .i64 0], .agg #[.int .i64 0, .int .i64 0]], []⟩ 8 (by kernel_rfl) (by kernel_rfl) (by kernel_rfl) (by kernel_rfl)) ?_
  intro W base args ds gs before hval0 hW hcnd _
  have hval : ∀ (j : Nat) t v, Try.f10.params[j]? = some t → args[j]? = some v → Value.okWide Try.prog W .any base t v := hval0
  have hW' := hW
  obtain ⟨p, q, hA0, hV, rfl, -, -⟩ := hW
  have hA : DataW.TrodAll enc Try.prog W 0 (fun _ => true) true Try.f10.params.toList args.toList ds p := hA0
  rw [Try.params10] at hA hval
  obtain ⟨v0, vs0, d0, ds0, p0, q0, hargs, rfl, rfl, h0, r0⟩ := trodAll_cons hA
  obtain ⟨v1, vs1, d1, ds1, p1, q1, rfl, rfl, rfl, h1, r1⟩ := trodAll_cons r0
  obtain ⟨rfl, rfl, rfl⟩ := trodAll_nil r1
  obtain rfl : args = #[v0, v1] := by cases args; simp_all
  obtain ⟨rfl, rfl⟩ := trodVars_none hV
  obtain ⟨a0, rfl, c0⟩ := open_cusp (hval 0 29 v0 rfl rfl) h0
  obtain ⟨a1, rfl, c1⟩ := open_cusp (hval 1 29 v1 rfl rfl) h1
  clear hA0 hval0
  refine (walk a0 a1 W).mono fun e W' ⟨he, hg⟩ => ?_
  subst he
  exact ⟨_, rfl, law_post 4 rfl Try.underlying4 laidOut (of_decide_eq_true (by kernel_rfl)) rfl hW' rfl hg⟩

theorem over : Rows.contfracMediantsRow.holds Try.pinned (OpenSpec.ofChange Rows.contfracMediantsSpec) :=
  OpenClaim.holds_of_wide 10 Try.f10 rfl rfl rfl rfl rfl rfl rfl ⟨rfl, rfl, rfl, rfl, rfl⟩ rfl rfl rfl rfl rfl (by kernel_rfl) Try.func10 (by kernel_rfl)
    (of_decide_eq_true (by kernel_rfl)) (by unfold Func.isWrapper; rw [if_neg (by decide +kernel)]; exact ⟨rfl, rfl⟩)
    (fun os started H enc _ => lifted os started H enc)

theorem proved : Rows.ContfracMediantsSaid := over
end Go.Proofs.Ytfjlecphjahahaa.mediants
