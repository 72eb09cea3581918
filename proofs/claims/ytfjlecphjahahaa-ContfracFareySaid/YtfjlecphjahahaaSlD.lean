/- Walks: lowest terms, the check of a cusp, Reduce, Apply; the program's and the reference's. -/
import Derived.Test.YtfjlecphjahahaaSlC
import Derived.Test.YtfjlecphjahahaaPlB
namespace Go.Proofs.Ytfjlecphjahahaa
open Go.RowKit

set_option maxHeartbeats 2000000 in
theorem lowest_core (p q g : Int) (hp : -4611686018427387904 ≤ p) (hp' : p ≤ 4611686018427387904) (hq : -4611686018427387904 ≤ q) (hq' : q ≤ 4611686018427387904) (hg0 : g ≠ 0) (gl1 : 0 ≤ g) (gl2 : g ≤ 4611686018427387904)
    (G : Hid (∀ w, Calls Try.prog 39 #[.int .i64 p, .int .i64 q] w fun e w' => e = .returned (.int .i64 g) ∧ Grow w w')) (neg : Bool) (hneg : Hid (negB p q = neg)) (_hgs : Hid (negB (p.tdiv g) (q.tdiv g) = negB p q)) (w : World) :
    Calls Try.prog 49 #[.int .i64 p, .int .i64 q] w fun e w' => e = .returned (.agg #[.int .i64 (if neg then -(p.tdiv g) else p.tdiv g), .int .i64 (if neg then -(q.tdiv g) else q.tdiv g)]) ∧ Grow w w' := by
  obtain ⟨t1, t2⟩ := tdiv_bd p g _ hp hp'
  obtain ⟨t3, t4⟩ := tdiv_bd q g _ hq hq'
  have hg1 : (g == 0) = false := by simpa using hg0
  have hg2 : (-g == 0) = false := by simp; omega
  have hw1 : IntKind.i64.wrap (p.tdiv g) = p.tdiv g := IntWalk.i64_in _ (by omega)
  have hw2 : IntKind.i64.wrap (q.tdiv g) = q.tdiv g := IntWalk.i64_in _ (by omega)
  have hn1 : p.tdiv (-g) = -(p.tdiv g) := Int.tdiv_neg _ _
  have hn2 : q.tdiv (-g) = -(q.tdiv g) := Int.tdiv_neg _ _
  have hw3 : IntKind.i64.wrap (-(p.tdiv g)) = -(p.tdiv g) := IntWalk.i64_in _ (by omega)
  have hw4 : IntKind.i64.wrap (-(q.tdiv g)) = -(q.tdiv g) := IntWalk.i64_in _ (by omega)
  cases neg with
  | true =>
    have hc : q < 0 ∨ (q = 0 ∧ p < 0) := by have := hneg.out; simp [negB] at this; omega
    rcases hc with hc | ⟨hc, hc'⟩
    · go_enter Try.func49, Try.ntmps49
      go_wp2_with fail
      (go_at_call 39; refine (G.out _).mono ?_; rintro e w1 ⟨rfl, hb1⟩; have hc1 := hb1.cells; have hf1 := hb1.frees; have hz1 := hb1.size; (try simp at hz1))
      have zw1_0 : w.heap.size < w1.heap.size := (by omega)
      go_wp2_with fail
      go_region
      go_wp2
      exact bodyPost_ret (v := .agg #[.int .i64 (-(p.tdiv g)), .int .i64 (-(q.tdiv g))]) (by simp only [results, Try.results49]; go_simp) rfl ⟨rfl, by (repeat (first | with_reducible exact Grow.refl _ | with_reducible refine Grow.alloc ?_ _ | with_reducible refine Grow.drew ?_ | with_reducible refine Grow.drewN ?_ _ | (with_reducible refine Grow.setCell ?_ ?hp _; (case hp => (simp; try omega))) | with_reducible refine Grow.trans ?_ (by assumption)))⟩
    · have hc1 : (q == 0) = true := by simpa using hc
      have hc2 : ¬ q < 0 := by omega
      clear hc
      go_enter Try.func49, Try.ntmps49
      go_wp2_with fail
      (go_at_call 39; refine (G.out _).mono ?_; rintro e w1 ⟨rfl, hb1⟩; have hc1 := hb1.cells; have hf1 := hb1.frees; have hz1 := hb1.size; (try simp at hz1))
      have zw1_0 : w.heap.size < w1.heap.size := (by omega)
      go_wp2_with fail
      go_region
      go_wp2
      exact bodyPost_ret (v := .agg #[.int .i64 (-(p.tdiv g)), .int .i64 (-(q.tdiv g))]) (by simp only [results, Try.results49]; go_simp) rfl ⟨rfl, by (repeat (first | with_reducible exact Grow.refl _ | with_reducible refine Grow.alloc ?_ _ | with_reducible refine Grow.drew ?_ | with_reducible refine Grow.drewN ?_ _ | (with_reducible refine Grow.setCell ?_ ?hp _; (case hp => (simp; try omega))) | with_reducible refine Grow.trans ?_ (by assumption)))⟩
  | false =>
    have hc : ¬ q < 0 := by have := hneg.out; simp [negB] at this; omega
    by_cases h0 : q = 0
    · have h2 : (q == 0) = true := by simpa using h0
      have h1 : ¬ p < 0 := by have := hneg.out; simp [negB] at this; omega
      clear h0
      go_enter Try.func49, Try.ntmps49
      go_wp2_with fail
      (go_at_call 39; refine (G.out _).mono ?_; rintro e w1 ⟨rfl, hb1⟩; have hc1 := hb1.cells; have hf1 := hb1.frees; have hz1 := hb1.size; (try simp at hz1))
      have zw1_0 : w.heap.size < w1.heap.size := (by omega)
      go_wp2_with fail
      go_region
      go_wp2
      exact bodyPost_ret (v := .agg #[.int .i64 (p.tdiv g), .int .i64 (q.tdiv g)]) (by simp only [results, Try.results49]; go_simp) rfl ⟨rfl, by (repeat (first | with_reducible exact Grow.refl _ | with_reducible refine Grow.alloc ?_ _ | with_reducible refine Grow.drew ?_ | with_reducible refine Grow.drewN ?_ _ | (with_reducible refine Grow.setCell ?_ ?hp _; (case hp => (simp; try omega))) | with_reducible refine Grow.trans ?_ (by assumption)))⟩
    · have h1 : (q == 0) = false := by simpa using h0
      go_enter Try.func49, Try.ntmps49
      go_wp2_with fail
      (go_at_call 39; refine (G.out _).mono ?_; rintro e w1 ⟨rfl, hb1⟩; have hc1 := hb1.cells; have hf1 := hb1.frees; have hz1 := hb1.size; (try simp at hz1))
      have zw1_0 : w.heap.size < w1.heap.size := (by omega)
      go_wp2_with fail
      go_region
      go_wp2
      exact bodyPost_ret (v := .agg #[.int .i64 (p.tdiv g), .int .i64 (q.tdiv g)]) (by simp only [results, Try.results49]; go_simp) rfl ⟨rfl, by (repeat (first | with_reducible exact Grow.refl _ | with_reducible refine Grow.alloc ?_ _ | with_reducible refine Grow.drew ?_ | with_reducible refine Grow.drewN ?_ _ | (with_reducible refine Grow.setCell ?_ ?hp _; (case hp => (simp; try omega))) | with_reducible refine Grow.trans ?_ (by assumption)))⟩
theorem lowest_any (p q : Int) (hp : -4611686018427387904 ≤ p) (hp' : p ≤ 4611686018427387904) (hq : -4611686018427387904 ≤ q) (hq' : q ≤ 4611686018427387904) (h0 : ¬ (p = 0 ∧ q = 0)) (w : World) :
    Calls Try.prog 49 #[.int .i64 p, .int .i64 q] w fun e w' => e = .returned (.agg #[.int .i64 (lowF p q).p, .int .i64 (lowF p q).q]) ∧ Grow w w' := by
  refine (lowest_core p q (Int.gcd p q) hp hp' hq hq' (gcd_ne h0) (by omega) (gcd_le h0 (by omega) (by omega)) (Lib.hid (fun w => gcd_any p q hp hp' hq hq' w)) (negB p q) (Lib.hid rfl) (Lib.hid (negB_low h0)) w).mono ?_
  rintro e w' ⟨rfl, hg⟩
  refine ⟨?_, hg⟩
  unfold lowF
  cases negB p q <;> rfl


set_option maxHeartbeats 2000000 in
theorem checkCusp_core (p q g : Int) (h1 : inB p = true) (h2 : 0 ≤ q) (h3 : inB q = true) (G : Hid (∀ w, Calls Try.prog 39 #[.int .i64 p, .int .i64 q] w fun e w' => e = .returned (.int .i64 g) ∧ Grow w w')) (w : World) :
    Calls Try.prog 15 #[.agg #[.int .i64 p, .int .i64 q]] w fun e w' => e = .returned (.int .i64 (if g = 1 ∧ (q = 0 → p = 1) then 0 else 3)) ∧ Grow w w' := by
  by_cases e1 : g = 1
  · have g1 : (g == 1) = true := by simpa using e1
    have g2 : (g != 1) = false := by simpa using e1
    by_cases e2 : q = 0
    · have q1 : (q == 0) = true := by simpa using e2
      by_cases e3 : p = 1
      · rw [if_pos ⟨e1, fun _ => e3⟩]
        have p1 : (p != 1) = false := by simpa using e3
        clear e1 e2 e3
        go_enter Try.func15, Try.ntmps15
        go_wp2_with (first | (go_at_call 38; refine (in_any _ _).mono ?_; rintro e w1 ⟨rfl, rfl⟩) | (go_at_call 39; refine (G.out _).mono ?_; rintro e w1 ⟨rfl, hb⟩; have hc := hb.cells; have hf := hb.frees; have hz := hb.size; (try simp at hz); have hzz : w.heap.size < w1.heap.size := (by omega)))
        go_ret
        exact ⟨rfl, by (repeat (first | with_reducible exact Grow.refl _ | with_reducible refine Grow.alloc ?_ _ | with_reducible refine Grow.drew ?_ | with_reducible refine Grow.drewN ?_ _ | (with_reducible refine Grow.setCell ?_ ?hp _; (case hp => (simp; try omega))) | with_reducible refine Grow.trans ?_ (by assumption)))⟩
      · rw [if_neg (fun h => e3 (h.2 e2))]
        have p1 : (p != 1) = true := by simpa using e3
        clear e1 e2 e3
        go_enter Try.func15, Try.ntmps15
        go_wp2_with (first | (go_at_call 38; refine (in_any _ _).mono ?_; rintro e w1 ⟨rfl, rfl⟩) | (go_at_call 39; refine (G.out _).mono ?_; rintro e w1 ⟨rfl, hb⟩; have hc := hb.cells; have hf := hb.frees; have hz := hb.size; (try simp at hz); have hzz : w.heap.size < w1.heap.size := (by omega)))
        go_ret
        exact ⟨rfl, by (repeat (first | with_reducible exact Grow.refl _ | with_reducible refine Grow.alloc ?_ _ | with_reducible refine Grow.drew ?_ | with_reducible refine Grow.drewN ?_ _ | (with_reducible refine Grow.setCell ?_ ?hp _; (case hp => (simp; try omega))) | with_reducible refine Grow.trans ?_ (by assumption)))⟩
    · rw [if_pos ⟨e1, fun h => absurd h e2⟩]
      have q1 : (q == 0) = false := by simpa using e2
      clear e1 e2
      go_enter Try.func15, Try.ntmps15
      go_wp2_with (first | (go_at_call 38; refine (in_any _ _).mono ?_; rintro e w1 ⟨rfl, rfl⟩) | (go_at_call 39; refine (G.out _).mono ?_; rintro e w1 ⟨rfl, hb⟩; have hc := hb.cells; have hf := hb.frees; have hz := hb.size; (try simp at hz); have hzz : w.heap.size < w1.heap.size := (by omega)))
      go_ret
      exact ⟨rfl, by (repeat (first | with_reducible exact Grow.refl _ | with_reducible refine Grow.alloc ?_ _ | with_reducible refine Grow.drew ?_ | with_reducible refine Grow.drewN ?_ _ | (with_reducible refine Grow.setCell ?_ ?hp _; (case hp => (simp; try omega))) | with_reducible refine Grow.trans ?_ (by assumption)))⟩
  · rw [if_neg (fun h => e1 h.1)]
    have g2 : (g != 1) = true := by simpa using e1
    clear e1
    go_enter Try.func15, Try.ntmps15
    go_wp2_with (first | (go_at_call 38; refine (in_any _ _).mono ?_; rintro e w1 ⟨rfl, rfl⟩) | (go_at_call 39; refine (G.out _).mono ?_; rintro e w1 ⟨rfl, hb⟩; have hc := hb.cells; have hf := hb.frees; have hz := hb.size; (try simp at hz); have hzz : w.heap.size < w1.heap.size := (by omega)))
    go_ret
    exact ⟨rfl, by (repeat (first | with_reducible exact Grow.refl _ | with_reducible refine Grow.alloc ?_ _ | with_reducible refine Grow.drew ?_ | with_reducible refine Grow.drewN ?_ _ | (with_reducible refine Grow.setCell ?_ ?hp _; (case hp => (simp; try omega))) | with_reducible refine Grow.trans ?_ (by assumption)))⟩

set_option maxHeartbeats 1000000 in
theorem checkCusp_any (c : C2) (w : World) :
    Calls Try.prog 15 #[.agg #[.int .i64 c.p, .int .i64 c.q]] w fun e w' => e = .returned (.int .i64 (ccF c)) ∧ Grow w w' := by
  obtain ⟨p, q⟩ := c
  by_cases h1 : inB p = true
  · by_cases h3 : inB q = true
    · by_cases h2 : 0 ≤ q
      · have e : ccF ⟨p, q⟩ = (if Int.gcd p q = 1 ∧ (q = 0 → p = 1) then 0 else 3) := by simp [ccF, h1, h2, h3]
        rw [e]
        obtain ⟨b1, b2⟩ := inB_iff.1 h1
        obtain ⟨b3, b4⟩ := inB_iff.1 h3
        have := checkCusp_core p q (Int.gcd p q) h1 h2 h3 (Lib.hid (fun w => gcd_any p q (by omega) (by omega) (by omega) (by omega) w)) w
        refine this.mono ?_
        rintro e w' ⟨rfl, hg⟩
        refine ⟨?_, hg⟩
        have e2 : (Int.gcd p q : Int) = 1 ↔ Int.gcd p q = 1 := by omega
        simp only [e2]
      · have e : ccF ⟨p, q⟩ = 2 := by simp [ccF, h2]
        rw [e]
        have h2' : q < 0 := by omega
        clear e
        go_enter Try.func15, Try.ntmps15
        go_wp2_with (go_at_call 38; refine (in_any _ _).mono ?_; rintro e w1 ⟨rfl, rfl⟩)
        go_ret
        exact ⟨rfl, by (repeat (first | with_reducible exact Grow.refl _ | with_reducible refine Grow.alloc ?_ _ | with_reducible refine Grow.drew ?_ | with_reducible refine Grow.drewN ?_ _ | (with_reducible refine Grow.setCell ?_ ?hp _; (case hp => (simp; try omega))) | with_reducible refine Grow.trans ?_ (by assumption)))⟩
    · have e : ccF ⟨p, q⟩ = 2 := by simp [ccF, h3]
      rw [e]
      have h3' : inB q = false := eq_false_of_ne_true h3
      clear e h3
      by_cases h2 : 0 ≤ q
      · go_enter Try.func15, Try.ntmps15
        go_wp2_with (go_at_call 38; refine (in_any _ _).mono ?_; rintro e w1 ⟨rfl, rfl⟩)
        go_ret
        exact ⟨rfl, by (repeat (first | with_reducible exact Grow.refl _ | with_reducible refine Grow.alloc ?_ _ | with_reducible refine Grow.drew ?_ | with_reducible refine Grow.drewN ?_ _ | (with_reducible refine Grow.setCell ?_ ?hp _; (case hp => (simp; try omega))) | with_reducible refine Grow.trans ?_ (by assumption)))⟩
      · have h2' : q < 0 := by omega
        go_enter Try.func15, Try.ntmps15
        go_wp2_with (go_at_call 38; refine (in_any _ _).mono ?_; rintro e w1 ⟨rfl, rfl⟩)
        go_ret
        exact ⟨rfl, by (repeat (first | with_reducible exact Grow.refl _ | with_reducible refine Grow.alloc ?_ _ | with_reducible refine Grow.drew ?_ | with_reducible refine Grow.drewN ?_ _ | (with_reducible refine Grow.setCell ?_ ?hp _; (case hp => (simp; try omega))) | with_reducible refine Grow.trans ?_ (by assumption)))⟩
  · have e : ccF ⟨p, q⟩ = 2 := by simp [ccF, h1]
    rw [e]
    have h1' : inB p = false := eq_false_of_ne_true h1
    clear e h1
    by_cases h3 : inB q = true
    · by_cases h2 : 0 ≤ q
      · go_enter Try.func15, Try.ntmps15
        go_wp2_with (go_at_call 38; refine (in_any _ _).mono ?_; rintro e w1 ⟨rfl, rfl⟩)
        go_ret
        exact ⟨rfl, by (repeat (first | with_reducible exact Grow.refl _ | with_reducible refine Grow.alloc ?_ _ | with_reducible refine Grow.drew ?_ | with_reducible refine Grow.drewN ?_ _ | (with_reducible refine Grow.setCell ?_ ?hp _; (case hp => (simp; try omega))) | with_reducible refine Grow.trans ?_ (by assumption)))⟩
      · have h2' : q < 0 := by omega
        go_enter Try.func15, Try.ntmps15
        go_wp2_with (go_at_call 38; refine (in_any _ _).mono ?_; rintro e w1 ⟨rfl, rfl⟩)
        go_ret
        exact ⟨rfl, by (repeat (first | with_reducible exact Grow.refl _ | with_reducible refine Grow.alloc ?_ _ | with_reducible refine Grow.drew ?_ | with_reducible refine Grow.drewN ?_ _ | (with_reducible refine Grow.setCell ?_ ?hp _; (case hp => (simp; try omega))) | with_reducible refine Grow.trans ?_ (by assumption)))⟩
    · have h3' : inB q = false := eq_false_of_ne_true h3
      clear h3
      by_cases h2 : 0 ≤ q
      · go_enter Try.func15, Try.ntmps15
        go_wp2_with (go_at_call 38; refine (in_any _ _).mono ?_; rintro e w1 ⟨rfl, rfl⟩)
        go_ret
        exact ⟨rfl, by (repeat (first | with_reducible exact Grow.refl _ | with_reducible refine Grow.alloc ?_ _ | with_reducible refine Grow.drew ?_ | with_reducible refine Grow.drewN ?_ _ | (with_reducible refine Grow.setCell ?_ ?hp _; (case hp => (simp; try omega))) | with_reducible refine Grow.trans ?_ (by assumption)))⟩
      · have h2' : q < 0 := by omega
        go_enter Try.func15, Try.ntmps15
        go_wp2_with (go_at_call 38; refine (in_any _ _).mono ?_; rintro e w1 ⟨rfl, rfl⟩)
        go_ret
        exact ⟨rfl, by (repeat (first | with_reducible exact Grow.refl _ | with_reducible refine Grow.alloc ?_ _ | with_reducible refine Grow.drew ?_ | with_reducible refine Grow.drewN ?_ _ | (with_reducible refine Grow.setCell ?_ ?hp _; (case hp => (simp; try omega))) | with_reducible refine Grow.trans ?_ (by assumption)))⟩


set_option maxHeartbeats 2000000 in
theorem refCheckCusp_core (p q g : Int) (h1 : inB p = true) (h2 : 0 ≤ q) (h3 : inB q = true) (G : Hid (∀ w, Calls Try.prog 43 #[.int .i64 p, .int .i64 q] w fun e w' => e = .returned (.int .i64 g) ∧ Grow w w')) (w : World) :
    Calls Try.prog 41 #[.agg #[.int .i64 p, .int .i64 q]] w fun e w' => e = .returned (.int .i64 (if g = 1 ∧ (q = 0 → p = 1) then 0 else 3)) ∧ Grow w w' := by
  by_cases e1 : g = 1
  · have g1 : (g == 1) = true := by simpa using e1
    have g2 : (g != 1) = false := by simpa using e1
    by_cases e2 : q = 0
    · have q1 : (q == 0) = true := by simpa using e2
      by_cases e3 : p = 1
      · rw [if_pos ⟨e1, fun _ => e3⟩]
        have p1 : (p != 1) = false := by simpa using e3
        clear e1 e2 e3
        go_enter Try.func41, Try.ntmps41
        go_wp2_with (first | (go_at_call 42; refine (refIn_any _ _).mono ?_; rintro e w1 ⟨rfl, rfl⟩) | (go_at_call 43; refine (G.out _).mono ?_; rintro e w1 ⟨rfl, hb⟩; have hc := hb.cells; have hf := hb.frees; have hz := hb.size; (try simp at hz); have hzz : w.heap.size < w1.heap.size := (by omega)))
        go_ret
        exact ⟨rfl, by (repeat (first | with_reducible exact Grow.refl _ | with_reducible refine Grow.alloc ?_ _ | with_reducible refine Grow.drew ?_ | with_reducible refine Grow.drewN ?_ _ | (with_reducible refine Grow.setCell ?_ ?hp _; (case hp => (simp; try omega))) | with_reducible refine Grow.trans ?_ (by assumption)))⟩
      · rw [if_neg (fun h => e3 (h.2 e2))]
        have p1 : (p != 1) = true := by simpa using e3
        clear e1 e2 e3
        go_enter Try.func41, Try.ntmps41
        go_wp2_with (first | (go_at_call 42; refine (refIn_any _ _).mono ?_; rintro e w1 ⟨rfl, rfl⟩) | (go_at_call 43; refine (G.out _).mono ?_; rintro e w1 ⟨rfl, hb⟩; have hc := hb.cells; have hf := hb.frees; have hz := hb.size; (try simp at hz); have hzz : w.heap.size < w1.heap.size := (by omega)))
        go_ret
        exact ⟨rfl, by (repeat (first | with_reducible exact Grow.refl _ | with_reducible refine Grow.alloc ?_ _ | with_reducible refine Grow.drew ?_ | with_reducible refine Grow.drewN ?_ _ | (with_reducible refine Grow.setCell ?_ ?hp _; (case hp => (simp; try omega))) | with_reducible refine Grow.trans ?_ (by assumption)))⟩
    · rw [if_pos ⟨e1, fun h => absurd h e2⟩]
      have q1 : (q == 0) = false := by simpa using e2
      clear e1 e2
      go_enter Try.func41, Try.ntmps41
      go_wp2_with (first | (go_at_call 42; refine (refIn_any _ _).mono ?_; rintro e w1 ⟨rfl, rfl⟩) | (go_at_call 43; refine (G.out _).mono ?_; rintro e w1 ⟨rfl, hb⟩; have hc := hb.cells; have hf := hb.frees; have hz := hb.size; (try simp at hz); have hzz : w.heap.size < w1.heap.size := (by omega)))
      go_ret
      exact ⟨rfl, by (repeat (first | with_reducible exact Grow.refl _ | with_reducible refine Grow.alloc ?_ _ | with_reducible refine Grow.drew ?_ | with_reducible refine Grow.drewN ?_ _ | (with_reducible refine Grow.setCell ?_ ?hp _; (case hp => (simp; try omega))) | with_reducible refine Grow.trans ?_ (by assumption)))⟩
  · rw [if_neg (fun h => e1 h.1)]
    have g2 : (g != 1) = true := by simpa using e1
    clear e1
    go_enter Try.func41, Try.ntmps41
    go_wp2_with (first | (go_at_call 42; refine (refIn_any _ _).mono ?_; rintro e w1 ⟨rfl, rfl⟩) | (go_at_call 43; refine (G.out _).mono ?_; rintro e w1 ⟨rfl, hb⟩; have hc := hb.cells; have hf := hb.frees; have hz := hb.size; (try simp at hz); have hzz : w.heap.size < w1.heap.size := (by omega)))
    go_ret
    exact ⟨rfl, by (repeat (first | with_reducible exact Grow.refl _ | with_reducible refine Grow.alloc ?_ _ | with_reducible refine Grow.drew ?_ | with_reducible refine Grow.drewN ?_ _ | (with_reducible refine Grow.setCell ?_ ?hp _; (case hp => (simp; try omega))) | with_reducible refine Grow.trans ?_ (by assumption)))⟩

set_option maxHeartbeats 1000000 in
theorem refCheckCusp_any (c : C2) (w : World) :
    Calls Try.prog 41 #[.agg #[.int .i64 c.p, .int .i64 c.q]] w fun e w' => e = .returned (.int .i64 (ccF c)) ∧ Grow w w' := by
  obtain ⟨p, q⟩ := c
  by_cases h1 : inB p = true
  · by_cases h3 : inB q = true
    · by_cases h2 : 0 ≤ q
      · have e : ccF ⟨p, q⟩ = (if Int.gcd p q = 1 ∧ (q = 0 → p = 1) then 0 else 3) := by simp [ccF, h1, h2, h3]
        rw [e]
        obtain ⟨b1, b2⟩ := inB_iff.1 h1
        obtain ⟨b3, b4⟩ := inB_iff.1 h3
        have := refCheckCusp_core p q (Int.gcd p q) h1 h2 h3 (Lib.hid (fun w => refGcd_any p q (by omega) (by omega) (by omega) (by omega) w)) w
        refine this.mono ?_
        rintro e w' ⟨rfl, hg⟩
        refine ⟨?_, hg⟩
        have e2 : (Int.gcd p q : Int) = 1 ↔ Int.gcd p q = 1 := by omega
        simp only [e2]
      · have e : ccF ⟨p, q⟩ = 2 := by simp [ccF, h2]
        rw [e]
        have h2' : q < 0 := by omega
        clear e
        go_enter Try.func41, Try.ntmps41
        go_wp2_with (go_at_call 42; refine (refIn_any _ _).mono ?_; rintro e w1 ⟨rfl, rfl⟩)
        go_ret
        exact ⟨rfl, by (repeat (first | with_reducible exact Grow.refl _ | with_reducible refine Grow.alloc ?_ _ | with_reducible refine Grow.drew ?_ | with_reducible refine Grow.drewN ?_ _ | (with_reducible refine Grow.setCell ?_ ?hp _; (case hp => (simp; try omega))) | with_reducible refine Grow.trans ?_ (by assumption)))⟩
    · have e : ccF ⟨p, q⟩ = 2 := by simp [ccF, h3]
      rw [e]
      have h3' : inB q = false := eq_false_of_ne_true h3
      clear e h3
      by_cases h2 : 0 ≤ q
      · go_enter Try.func41, Try.ntmps41
        go_wp2_with (go_at_call 42; refine (refIn_any _ _).mono ?_; rintro e w1 ⟨rfl, rfl⟩)
        go_ret
        exact ⟨rfl, by (repeat (first | with_reducible exact Grow.refl _ | with_reducible refine Grow.alloc ?_ _ | with_reducible refine Grow.drew ?_ | with_reducible refine Grow.drewN ?_ _ | (with_reducible refine Grow.setCell ?_ ?hp _; (case hp => (simp; try omega))) | with_reducible refine Grow.trans ?_ (by assumption)))⟩
      · have h2' : q < 0 := by omega
        go_enter Try.func41, Try.ntmps41
        go_wp2_with (go_at_call 42; refine (refIn_any _ _).mono ?_; rintro e w1 ⟨rfl, rfl⟩)
        go_ret
        exact ⟨rfl, by (repeat (first | with_reducible exact Grow.refl _ | with_reducible refine Grow.alloc ?_ _ | with_reducible refine Grow.drew ?_ | with_reducible refine Grow.drewN ?_ _ | (with_reducible refine Grow.setCell ?_ ?hp _; (case hp => (simp; try omega))) | with_reducible refine Grow.trans ?_ (by assumption)))⟩
  · have e : ccF ⟨p, q⟩ = 2 := by simp [ccF, h1]
    rw [e]
    have h1' : inB p = false := eq_false_of_ne_true h1
    clear e h1
    by_cases h3 : inB q = true
    · by_cases h2 : 0 ≤ q
      · go_enter Try.func41, Try.ntmps41
        go_wp2_with (go_at_call 42; refine (refIn_any _ _).mono ?_; rintro e w1 ⟨rfl, rfl⟩)
        go_ret
        exact ⟨rfl, by (repeat (first | with_reducible exact Grow.refl _ | with_reducible refine Grow.alloc ?_ _ | with_reducible refine Grow.drew ?_ | with_reducible refine Grow.drewN ?_ _ | (with_reducible refine Grow.setCell ?_ ?hp _; (case hp => (simp; try omega))) | with_reducible refine Grow.trans ?_ (by assumption)))⟩
      · have h2' : q < 0 := by omega
        go_enter Try.func41, Try.ntmps41
        go_wp2_with (go_at_call 42; refine (refIn_any _ _).mono ?_; rintro e w1 ⟨rfl, rfl⟩)
        go_ret
        exact ⟨rfl, by (repeat (first | with_reducible exact Grow.refl _ | with_reducible refine Grow.alloc ?_ _ | with_reducible refine Grow.drew ?_ | with_reducible refine Grow.drewN ?_ _ | (with_reducible refine Grow.setCell ?_ ?hp _; (case hp => (simp; try omega))) | with_reducible refine Grow.trans ?_ (by assumption)))⟩
    · have h3' : inB q = false := eq_false_of_ne_true h3
      clear h3
      by_cases h2 : 0 ≤ q
      · go_enter Try.func41, Try.ntmps41
        go_wp2_with (go_at_call 42; refine (refIn_any _ _).mono ?_; rintro e w1 ⟨rfl, rfl⟩)
        go_ret
        exact ⟨rfl, by (repeat (first | with_reducible exact Grow.refl _ | with_reducible refine Grow.alloc ?_ _ | with_reducible refine Grow.drew ?_ | with_reducible refine Grow.drewN ?_ _ | (with_reducible refine Grow.setCell ?_ ?hp _; (case hp => (simp; try omega))) | with_reducible refine Grow.trans ?_ (by assumption)))⟩
      · have h2' : q < 0 := by omega
        go_enter Try.func41, Try.ntmps41
        go_wp2_with (go_at_call 42; refine (refIn_any _ _).mono ?_; rintro e w1 ⟨rfl, rfl⟩)
        go_ret
        exact ⟨rfl, by (repeat (first | with_reducible exact Grow.refl _ | with_reducible refine Grow.alloc ?_ _ | with_reducible refine Grow.drew ?_ | with_reducible refine Grow.drewN ?_ _ | (with_reducible refine Grow.setCell ?_ ?hp _; (case hp => (simp; try omega))) | with_reducible refine Grow.trans ?_ (by assumption)))⟩

end Go.Proofs.Ytfjlecphjahahaa
