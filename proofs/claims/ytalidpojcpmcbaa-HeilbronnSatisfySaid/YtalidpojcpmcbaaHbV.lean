/- Walks: classOf and cusp of heilbronn. -/
import Derived.Test.YtalidpojcpmcbaaHbT
import Derived.Test.YtalidpojcpmcbaaHbU
namespace Go.Proofs.Ytalidpojcpmcbaa
open Go Go.RowKit

theorem bd_sum {A B s t : Int} (ha : A.natAbs ≤ 1073741824) (hb : B.natAbs ≤ 1073741824) (hs : s.natAbs ≤ 1073741825) (ht : t.natAbs ≤ 1073741825) : (A * s).natAbs ≤ 1152921505680588800 ∧ (B * t).natAbs ≤ 1152921505680588800 := by
  rw [Int.natAbs_mul, Int.natAbs_mul]
  exact ⟨Nat.le_trans (Nat.mul_le_mul ha hs) (by decide), Nat.le_trans (Nat.mul_le_mul hb ht) (by decide)⟩

set_option maxHeartbeats 1000000 in
theorem classOf_any (m : M2) (n : Int) (hn : 1 ≤ n) (hn2 : n ≤ 128) (hok : okM m = true) (hdet : m.a * m.d - m.b * m.c = n) (w : World) :
    Calls Try.prog 30 #[.agg #[.int .i64 m.a, .int .i64 m.b, .int .i64 m.c, .int .i64 m.d], .int .i64 n] w fun e w' => e = .returned (.tuple #[.agg #[.int .i64 (clsF m n).a, .int .i64 (clsF m n).b, .int .i64 (clsF m n).d], .bool true]) ∧ Grow w w' := by
  obtain ⟨s1, s2, s3, s4, s5, s6, s7, s8, s9⟩ := cls_spec hn hdet
  obtain ⟨o1, o2, o3, o4⟩ := okM_iff.1 hok
  obtain ⟨k, hk⟩ : ∃ k, clsF m n = k := ⟨_, rfl⟩
  rw [hk] at s1 s2 s3 s4 s5 s6 s7 s8 s9 ⊢
  have hkd : k.d ≤ n := by
    have h1 : k.d * 1 ≤ k.d * k.a := Int.mul_le_mul_of_nonneg_left (by omega) (by omega)
    omega
  have hka : k.a ≤ n := by
    have h1 : 1 * k.a ≤ k.d * k.a := Int.mul_le_mul_of_nonneg_right (by omega) (by omega)
    omega
  have e1 : (k.d == 0) = false := by have : ¬ k.d = 0 := by omega
                                     simpa using this
  have e2 : ¬ k.d = 0 := by omega
  have e3 : n.tmod k.d = 0 := s3
  have e4 : n.tdiv k.d = k.a := s4.symm
  have e5 : ¬ k.a = 0 := by omega
  have e6 : (k.a == 0) = false := by simpa using e5
  have y1 : IntKind.i64.wrap k.a = k.a := IntWalk.i64_in _ (by omega)
  have S1 := Lib.hid s1
  have S9 := Lib.hid s9
  clear s1 s9 hdet hk s3 s4 s6 hok
  go_enter Try.func30, Try.ntmps30
  go_wp2_with fail
  go_at_call 37
  refine (xgcd_any m.c m.d o3 o4 _).mono ?_
  rintro e w1 ⟨⟨u, v, rfl, hu1, hu2, hu3⟩, hb1⟩
  rw [← S1.out] at hu1
  have hval := S9.out u v (by rw [hu1, S1.out])
  obtain ⟨q1, q2⟩ := bd_sum o1 o2 hu2 hu3
  have hst := rem_step' (p := m.a * u + m.b * v) s5
  rw [hval] at hst
  have HST := Lib.hid hst
  clear hst hval hu1
  have hgd : (Int.gcd m.c m.d : Int) = k.d := S1.out.symm
  rw [hgd]
  have hc1 := hb1.cells
  have hf1 := hb1.frees
  have hz1 := hb1.size
  simp at hz1
  have zw1_0 : w.heap.size < w1.heap.size := (by omega); have zw1_1 : w.heap.size + 1 < w1.heap.size := (by omega)
  have c0 : w1.cell? ⟨w.heap.size, 0, none⟩ = some (.int .i64 m.a) := by rw [hc1 _ _ (by simp; try omega)]; go_simp
  have c1 : w1.cell? ⟨w.heap.size, 1, none⟩ = some (.int .i64 m.b) := by rw [hc1 _ _ (by simp; try omega)]; go_simp
  have c4 : w1.cell? ⟨w.heap.size + 1, 0, none⟩ = some (.int .i64 0) := by rw [hc1 _ _ (by simp; try omega)]; go_simp
  have c5 : w1.cell? ⟨w.heap.size + 1, 1, none⟩ = some (.int .i64 0) := by rw [hc1 _ _ (by simp; try omega)]; go_simp
  have c6 : w1.cell? ⟨w.heap.size + 1, 2, none⟩ = some (.int .i64 0) := by rw [hc1 _ _ (by simp; try omega)]; go_simp
  have f0 : ∀ o, w1.frozen? ⟨w.heap.size + 1, o, none⟩ = false := by intro o; rw [hf1 _ _ (by simp; try omega)]; go_simp
  clear hc1 hf1 S9
  obtain ⟨X, hX⟩ : ∃ X, (m.a * u + m.b * v).tmod k.a = X := ⟨_, rfl⟩
  have hXb : X.natAbs < k.a.natAbs := by rw [← hX, Int.natAbs_tmod]; exact Nat.mod_lt _ (by omega)
  have hst := HST.out
  rw [hX] at hst
  have y2 : IntKind.i64.wrap (m.a * u) = m.a * u := IntWalk.i64_in _ (by omega)
  have y3 : IntKind.i64.wrap (m.b * v) = m.b * v := IntWalk.i64_in _ (by omega)
  have y4 : IntKind.i64.wrap (m.a * u + m.b * v) = m.a * u + m.b * v := IntWalk.i64_in _ (by omega)
  by_cases hneg : X < 0
  · rw [if_pos hneg] at hst
    have y5 : IntKind.i64.wrap (X + k.a) = k.b := (IntWalk.i64_in _ (by omega)).trans hst
    clear hst HST hXb q1 q2 s5 hu2 hu3
    go_wp2_with fail
    exact bodyPost_ret (v := .tuple #[.agg #[.int .i64 k.a, .int .i64 k.b, .int .i64 k.d], .bool true]) (by simp only [results, Try.results30]; go_simp) rfl ⟨rfl, by (repeat (first | with_reducible exact Grow.refl _ | with_reducible refine Grow.alloc ?_ _ | with_reducible refine Grow.drew ?_ | with_reducible refine Grow.drewN ?_ _ | (with_reducible refine Grow.setCell ?_ ?hp _; (case hp => (simp; try omega))) | with_reducible refine Grow.trans ?_ (by assumption)))⟩
  · rw [if_neg hneg] at hst
    have hneg2 : ¬ k.b < 0 := by omega
    clear hneg
    rw [hst] at hX
    clear hst HST hXb q1 q2 hu2 hu3
    go_wp2_with fail
    exact bodyPost_ret (v := .tuple #[.agg #[.int .i64 k.a, .int .i64 k.b, .int .i64 k.d], .bool true]) (by simp only [results, Try.results30]; go_simp) rfl ⟨rfl, by (repeat (first | with_reducible exact Grow.refl _ | with_reducible refine Grow.alloc ?_ _ | with_reducible refine Grow.drew ?_ | with_reducible refine Grow.drewN ?_ _ | (with_reducible refine Grow.setCell ?_ ?hp _; (case hp => (simp; try omega))) | with_reducible refine Grow.trans ?_ (by assumption)))⟩
set_option maxHeartbeats 1000000 in
theorem cusp_any (k : K3) (p q : Int) (hp : p.natAbs ≤ 1073741824) (hq : q.natAbs ≤ 1073741824) (h0 : ¬ (p = 0 ∧ q = 0)) (w : World) :
    Calls Try.prog 31 #[.agg #[.int .i64 k.a, .int .i64 k.b, .int .i64 k.d], .int .i64 p, .int .i64 q] w fun e w' => e = .returned (.agg #[.int .i64 k.a, .int .i64 k.b, .int .i64 k.d, .int .i64 (cuF p q).p, .int .i64 (cuF p q).q]) ∧ Grow w w' := by
  have hg0 : Int.gcd p q ≠ 0 := fun h => h0 (Int.gcd_eq_zero_iff.1 h)
  have GC := Lib.hid (fun w => gcd_any p q (by omega) (by omega) (by omega) (by omega) w)
  obtain ⟨z, hz⟩ : ∃ z : C2, cuF p q = z := ⟨_, rfl⟩
  rw [hz]
  unfold cuF at hz
  obtain ⟨g, hg⟩ : ∃ g : Int, (Int.gcd p q : Int) = g := ⟨_, rfl⟩
  have hgg : 1 ≤ g := by omega
  rw [hg] at GC hz
  obtain ⟨x, hx⟩ : ∃ x : Int, p.tdiv g = x := ⟨_, rfl⟩
  obtain ⟨y, hy⟩ : ∃ y : Int, q.tdiv g = y := ⟨_, rfl⟩
  have bx : x.natAbs ≤ p.natAbs := by rw [← hx, Int.natAbs_tdiv]; exact Nat.div_le_self _ _
  have bY : y.natAbs ≤ q.natAbs := by rw [← hy, Int.natAbs_tdiv]; exact Nat.div_le_self _ _
  rw [hx, hy] at hz
  have k1 : ¬ g = 0 := by omega
  have k2 : (g == 0) = false := by simpa using k1
  have y1 : IntKind.i64.wrap x = x := IntWalk.i64_in _ (by omega)
  have y2 : IntKind.i64.wrap y = y := IntWalk.i64_in _ (by omega)
  have y3 : IntKind.i64.wrap (-x) = -x := IntWalk.i64_in _ (by omega)
  have y4 : IntKind.i64.wrap (-y) = -y := IntWalk.i64_in _ (by omega)
  clear hg0 hg hgg h0 bx bY hp hq
  go_enter Try.func31, Try.ntmps31
  go_wp2_with fail
  go_at_call 38
  with_reducible refine (GC.out _).mono ?_
  rintro e w1 ⟨rfl, hb1⟩
  have hc1 := hb1.cells
  have hf1 := hb1.frees
  have hz1 := hb1.size
  simp at hz1
  have zw1_0 : w.heap.size < w1.heap.size := (by omega); have zw1_1 : w.heap.size + 1 < w1.heap.size := (by omega)
  have c0 : w1.cell? ⟨w.heap.size, 0, none⟩ = some (.int .i64 k.a) := by rw [hc1 _ _ (by simp; try omega)]; go_simp
  have c1 : w1.cell? ⟨w.heap.size, 1, none⟩ = some (.int .i64 k.b) := by rw [hc1 _ _ (by simp; try omega)]; go_simp
  have c2 : w1.cell? ⟨w.heap.size, 2, none⟩ = some (.int .i64 k.d) := by rw [hc1 _ _ (by simp; try omega)]; go_simp
  have c4 : w1.cell? ⟨w.heap.size + 1, 0, none⟩ = some (.int .i64 0) := by rw [hc1 _ _ (by simp; try omega)]; go_simp
  have c5 : w1.cell? ⟨w.heap.size + 1, 1, none⟩ = some (.int .i64 0) := by rw [hc1 _ _ (by simp; try omega)]; go_simp
  have c6 : w1.cell? ⟨w.heap.size + 1, 2, none⟩ = some (.int .i64 0) := by rw [hc1 _ _ (by simp; try omega)]; go_simp
  have c7 : w1.cell? ⟨w.heap.size + 1, 3, none⟩ = some (.int .i64 0) := by rw [hc1 _ _ (by simp; try omega)]; go_simp
  have c8 : w1.cell? ⟨w.heap.size + 1, 4, none⟩ = some (.int .i64 0) := by rw [hc1 _ _ (by simp; try omega)]; go_simp
  have f0 : ∀ o, w1.frozen? ⟨w.heap.size + 1, o, none⟩ = false := by intro o; rw [hf1 _ _ (by simp; try omega)]; go_simp
  clear hc1 hf1 GC
  go_wp2_with fail
  go_quiet (fail)
  by_cases hy0 : y < 0
  · rw [if_pos (.inl hy0)] at hz
    subst hz
    go_wp2_with fail
    exact bodyPost_ret (v := .agg #[.int .i64 k.a, .int .i64 k.b, .int .i64 k.d, .int .i64 (-x), .int .i64 (-y)]) (by simp only [results, Try.results31]; go_simp) rfl ⟨rfl, by (repeat (first | with_reducible exact Grow.refl _ | with_reducible refine Grow.alloc ?_ _ | with_reducible refine Grow.drew ?_ | with_reducible refine Grow.drewN ?_ _ | (with_reducible refine Grow.setCell ?_ ?hp _; (case hp => (simp; try omega))) | with_reducible refine Grow.trans ?_ (by assumption)))⟩
  · by_cases hye : y = 0
    · subst hye
      by_cases hx0 : x < 0
      · rw [if_pos (.inr ⟨rfl, hx0⟩)] at hz
        subst hz
        go_wp2_with fail
        exact bodyPost_ret (v := .agg #[.int .i64 k.a, .int .i64 k.b, .int .i64 k.d, .int .i64 (-x), .int .i64 0]) (by simp only [results, Try.results31]; go_simp) rfl ⟨rfl, by (repeat (first | with_reducible exact Grow.refl _ | with_reducible refine Grow.alloc ?_ _ | with_reducible refine Grow.drew ?_ | with_reducible refine Grow.drewN ?_ _ | (with_reducible refine Grow.setCell ?_ ?hp _; (case hp => (simp; try omega))) | with_reducible refine Grow.trans ?_ (by assumption)))⟩
      · rw [if_neg (by omega)] at hz
        subst hz
        go_wp2_with fail
        exact bodyPost_ret (v := .agg #[.int .i64 k.a, .int .i64 k.b, .int .i64 k.d, .int .i64 x, .int .i64 0]) (by simp only [results, Try.results31]; go_simp) rfl ⟨rfl, by (repeat (first | with_reducible exact Grow.refl _ | with_reducible refine Grow.alloc ?_ _ | with_reducible refine Grow.drew ?_ | with_reducible refine Grow.drewN ?_ _ | (with_reducible refine Grow.setCell ?_ ?hp _; (case hp => (simp; try omega))) | with_reducible refine Grow.trans ?_ (by assumption)))⟩
    · have hye2 : (y == 0) = false := by simpa using hye
      rw [if_neg (by omega)] at hz
      subst hz
      go_wp2_with fail
      exact bodyPost_ret (v := .agg #[.int .i64 k.a, .int .i64 k.b, .int .i64 k.d, .int .i64 x, .int .i64 y]) (by simp only [results, Try.results31]; go_simp) rfl ⟨rfl, by (repeat (first | with_reducible exact Grow.refl _ | with_reducible refine Grow.alloc ?_ _ | with_reducible refine Grow.drew ?_ | with_reducible refine Grow.drewN ?_ _ | (with_reducible refine Grow.setCell ?_ ?hp _; (case hp => (simp; try omega))) | with_reducible refine Grow.trans ?_ (by assumption)))⟩
end Go.Proofs.Ytalidpojcpmcbaa
