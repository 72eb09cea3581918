/- Walks: Lift of the program. -/
import Derived.Test.YtcgiancmponmgaaPkB
import Derived.Deep.LoopGhost
namespace Go.Proofs.Ytcgiancmponmgaa
open Go Go.RowKit

/-- The two points of memory that Lift keeps: its result and the pair. -/
def LfM (w : World) (B : Nat) (x : P3) (u : World) : Prop :=
  u.cell? ⟨B, 0, none⟩ = some (.int .i64 x.u) ∧ u.cell? ⟨B, 1, none⟩ = some (.int .i64 x.v) ∧ u.cell? ⟨B, 2, none⟩ = some (.int .i64 x.t) ∧
    u.cell? ⟨w.heap.size, 0, none⟩ = some (.int .i64 0) ∧ u.cell? ⟨w.heap.size, 1, none⟩ = some (.int .i64 0) ∧ u.cell? ⟨w.heap.size, 2, none⟩ = some (.int .i64 0) ∧ u.cell? ⟨w.heap.size, 3, none⟩ = some (.int .i64 0) ∧
    (∀ o, u.frozen? ⟨w.heap.size, o, none⟩ = false) ∧ B < u.heap.size ∧ w.heap.size < B ∧ Hid (Grow w u)
theorem LfM.grow {w u u' : World} {B : Nat} {x : P3} (h : LfM w B x u) (hg : Grow u u') : LfM w B x u' := by
  obtain ⟨h1, h2, h3, h4, h5, h6, h7, h8, h9, h10, h11⟩ := h
  have := hg.size
  exact ⟨(hg.cells _ _ (by omega)).trans h1, (hg.cells _ _ (by omega)).trans h2, (hg.cells _ _ (by omega)).trans h3, (hg.cells _ _ (by omega)).trans h4, (hg.cells _ _ (by omega)).trans h5, (hg.cells _ _ (by omega)).trans h6, (hg.cells _ _ (by omega)).trans h7,
    fun o => (hg.frees _ _ (by omega)).trans (h8 o), by omega, h10, Lib.hid (h11.out.trans hg)⟩
theorem tdiv_abs {a b : Int} (M : Nat) (h : a.natAbs ≤ M) : (a.tdiv b).natAbs ≤ M := by
  rw [Int.natAbs_tdiv]
  exact Nat.le_trans (Nat.div_le_self _ _) h
set_option maxRecDepth 20000 in
set_option maxHeartbeats 4000000 in
theorem lift_core (n i : Int) (x : P3) (h1 : 1 ≤ n) (h2 : n ≤ 120) (hx : ptR n i = (x, 0)) (hin : InL n x) (w : World) :
    Calls Try.prog 28 #[.int .i64 n, .int .i64 i] w fun e w' => e = .returned (.tuple #[.agg #[.int .i64 (rsF n x.u x.v).a, .int .i64 (rsF n x.u x.v).b, .int .i64 (rsF n x.u x.v).c, .int .i64 (rsF n x.u x.v).d], .int .i64 0]) ∧ Grow w w' := by
  have PT := Lib.hid (fun u => point_any n i u)
  rw [hx] at PT
  obtain ⟨r1, r2, r3, r4, hok⟩ := hin
  have hg3 := ((okP_iff h1 h2 r1 r2 r3 r4).1 hok).1
  by_cases hu0 : x.u = 0
  · have e0 : (x.u == 0) = true := by simpa using hu0
    have hr : rsF n x.u x.v = ⟨1, 0, 0, 1⟩ := by unfold rsF; rw [if_pos hu0]
    rw [hr]
    clear hr hu0 hx hg3 hok
    go_enter Try.func28, Try.ntmps28
    go_wp2_with (go_at_call 41; (with_reducible refine (PT.out _).mono ?_); (rintro e w1 ⟨rfl, hb1⟩; have hc1 := hb1.cells; have hf1 := hb1.frees; have hz1 := hb1.size; (try simp at hz1); have hz1b : w.heap.size < w1.heap.size := (by omega)))
    (try simp only [Exit.inBlock, Exit.then])
    refine bodyPost_ret (v := .tuple #[.agg #[.int .i64 1, .int .i64 0, .int .i64 0, .int .i64 1], .int .i64 0]) (by rw [results_cell_tmp rfl]; go_simp) rfl ⟨rfl, by (repeat (first | with_reducible exact Grow.refl _ | with_reducible refine Grow.alloc ?_ _ | with_reducible refine Grow.drew ?_ | with_reducible refine Grow.drewN ?_ _ | (with_reducible refine Grow.setCell ?_ ?hp _; (case hp => (simp; try omega))) | with_reducible refine Grow.trans ?_ (by assumption)))⟩
  · have e0 : (x.u == 0) = false := by simpa using hu0
    have u1 : 1 ≤ x.u := by omega
    obtain ⟨p1, p2, p3⟩ := dI_spec h1 h2 u1 r2 r3 hg3
    have hr : rsF n x.u x.v = ⟨aI x.u (x.v + (dI n x.u x.v : Int) * n), ((aI x.u (x.v + (dI n x.u x.v : Int) * n) : Int) * (x.v + (dI n x.u x.v : Int) * n) - 1).tdiv x.u, x.u, x.v + (dI n x.u x.v : Int) * n⟩ := by unfold rsF; rw [if_neg hu0]
    rw [hr]
    obtain ⟨P, hP⟩ : ∃ P, dI n x.u x.v = P := ⟨_, rfl⟩
    rw [hP] at p1 p2 p3 ⊢
    obtain ⟨D, hD⟩ : ∃ D : Int, x.v + (P : Int) * n = D := ⟨_, rfl⟩
    rw [hD] at p1 ⊢
    have hPn0 : 0 ≤ (P : Int) * n := Int.mul_nonneg (by omega) (by omega)
    have hPn1 : (P : Int) * n ≤ 130 * 120 := Int.mul_le_mul (by omega) (by omega) (by omega) (by omega)
    have hD0 : 0 ≤ D := by omega
    have hD1 : D ≤ 20000 := by omega
    have IV := Lib.hid (fun u => inverse_aI x.u D u1 (by omega) p1 u)
    obtain ⟨q1, q2, q3⟩ := aI_spec (d := D) u1 (by omega) p1
    obtain ⟨A, hA⟩ : ∃ A : Int, (aI x.u D : Int) = A := ⟨_, rfl⟩
    rw [hA] at IV q2 ⊢
    have hA0 : 0 ≤ A := by omega
    have hAD0 : 0 ≤ A * D := Int.mul_nonneg hA0 hD0
    have hAD1 : A * D ≤ 120 * 20000 := Int.mul_le_mul (by omega) hD1 hD0 (by omega)
    have y1 : IntKind.i64.wrap (A * D) = A * D := IntWalk.i64_in _ (by omega)
    obtain ⟨E, hE⟩ : ∃ E, A * D - 1 = E := ⟨_, rfl⟩
    rw [hE]
    have y2 : wrap64 (A * D - 1) = E := by rw [← hE]; unfold wrap64; omega
    have y3 : IntKind.i64.wrap (A * D - 1) = E := by rw [← hE]; exact IntWalk.i64_in _ (by omega)
    obtain ⟨Q, hQ⟩ : ∃ Q, E.tdiv x.u = Q := ⟨_, rfl⟩
    have hQb : Q.natAbs ≤ 10000000 := by rw [← hQ]; exact tdiv_abs _ (by omega)
    rw [hQ]
    have y4 : IntKind.i64.wrap Q = Q := IntWalk.i64_in _ (by omega)
    have HD := Lib.hid hD
    have P1 := Lib.hid p1
    have P3' := Lib.hid p3
    have HQ := Lib.hid hQ
    have xne : ¬ x.u = 0 := hu0
    clear hr hx hg3 hok hP hD p1 p3 hA q1 q3 hPn0 hPn1 hE
    go_enter Try.func28, Try.ntmps28
    go_wp2_with (go_at_call 41; (with_reducible refine (PT.out _).mono ?_); (rintro e w1 ⟨rfl, hb1⟩; have hc1 := hb1.cells; have hf1 := hb1.frees; have hz1 := hb1.size; (try simp at hz1); have hz1b : w.heap.size < w1.heap.size := (by omega)))
    have d0 : w1.cell? ⟨w.heap.size, 0, none⟩ = some (.int .i64 0) := by rw [hc1 _ _ (by simp)]; go_simp
    have d1 : w1.cell? ⟨w.heap.size, 1, none⟩ = some (.int .i64 0) := by rw [hc1 _ _ (by simp)]; go_simp
    have d2 : w1.cell? ⟨w.heap.size, 2, none⟩ = some (.int .i64 0) := by rw [hc1 _ _ (by simp)]; go_simp
    have d3 : w1.cell? ⟨w.heap.size, 3, none⟩ = some (.int .i64 0) := by rw [hc1 _ _ (by simp)]; go_simp
    have f0 : ∀ o, w1.frozen? ⟨w.heap.size, o, none⟩ = false := by intro o; rw [hf1 _ _ (by simp)]; go_simp
    go_loopg [8] 130 (fun k t8 wr => ∃ (j : Nat) (d : Int), t8 = .int .i64 d ∧ Hid (d = x.v + (j : Int) * n) ∧ j ≤ P ∧ Hid (j + k = 130) ∧ Hid (LfM w w1.heap.size x wr))
    case atStart =>
      refine ⟨0, x.v, rfl, Lib.hid (by simp), by omega, Lib.hid (by omega), Lib.hid ⟨?_, ?_, ?_, ?_, ?_, ?_, ?_, ?_, ?_, ?_, Lib.hid (by (repeat (first | with_reducible exact Grow.refl _ | with_reducible refine Grow.alloc ?_ _ | with_reducible refine Grow.drew ?_ | with_reducible refine Grow.drewN ?_ _ | (with_reducible refine Grow.setCell ?_ ?hp _; (case hp => (simp; try omega))) | with_reducible refine Grow.trans ?_ (by assumption))))⟩⟩
      all_goals first | (go_simp; done) | (intro o; go_simp; done) | (simp; done) | omega
    case round =>
      clear d0 d1 d2 d3 f0 hb1 hc1 hf1
      obtain ⟨j, d, rfl, hd, hjP, hjk, hm⟩ := hrel
      obtain ⟨g1, hgk⟩ : ∃ g1, gk = g1 + 1 := ⟨gk - 1, by have := hjk.out; omega⟩
      have hjn0 : 0 ≤ (j : Int) * n := Int.mul_nonneg (by omega) (by omega)
      have hjn1 : (j : Int) * n ≤ 130 * 120 := Int.mul_le_mul (by omega) (by omega) (by omega) (by omega)
      have hde := hd.out
      have dd0 : 0 ≤ d := by omega
      have dd1 : d ≤ 20000 := by omega
      have GC := Lib.hid (fun u => gcd_any d x.u (by omega) (by omega) (by omega) (by omega) u)
      have yd : IntKind.i64.wrap (d + n) = d + n := IntWalk.i64_in _ (by omega)
      clear hjn0 hjn1 hde
      obtain ⟨G, hG⟩ : ∃ G : Int, ((Int.gcd d x.u : Nat) : Int) = G := ⟨_, rfl⟩
      rw [hG] at GC
      have hGj : Hid (G = 1 ↔ Int.gcd (x.v + (j : Int) * n) x.u = 1) := by
        show G = 1 ↔ _
        rw [← hG, hd.out]
        omega
      clear hG
      have hmo := hm.out
      obtain ⟨m1, m2, m3, m4, m5, m6, m7, m8, m9, m10, m11⟩ := hmo
      by_cases hg1 : G = 1
      · have e1 : (G != 1) = false := by simpa using hg1
        have hjP2 : j = P := by
          by_cases e : j = P
          · exact e
          · exact absurd (hGj.out.1 hg1) (P3'.out j (by omega))
        have hdD : d = D := by rw [hd.out, hjP2, HD.out]
        subst hdD
        clear hg1 hjP2
        go_wp2_with (first
          | (go_at_call 32; (with_reducible refine (GC.out _).mono ?_); (rintro e w2 ⟨rfl, hb2⟩; have hm2 := hm.out.grow hb2; obtain ⟨n1, n2, n3, n4, n5, n6, n7, n8, n9, n10, n11⟩ := hm2; have nz : w.heap.size < w2.heap.size := Nat.lt_trans n10 n9; clear hb2 m1 m2 m3 m4 m5 m6 m7 m8 m9 m11))
          | (go_at_call 47; (with_reducible refine (IV.out _).mono ?_); (rintro e w3 ⟨rfl, hb3⟩; have hm3 := (LfM.grow ⟨n1, n2, n3, n4, n5, n6, n7, n8, n9, n10, n11⟩ hb3); obtain ⟨o1, o2, o3, o4, o5, o6, o7, o8, o9, o10, o11⟩ := hm3; have oz : w.heap.size < w3.heap.size := Nat.lt_trans o10 o9; clear hb3 n1 n2 n3 n4 n5 n6 n7 n8 n9 n11)))
        go_region
        go_wp2_with fail
        have hG3 := o11.out
        (try simp only [Exit.inBlock, Exit.then])
        refine bodyPost_ret (v := .tuple #[.agg #[.int .i64 A, .int .i64 Q, .int .i64 x.u, .int .i64 d], .int .i64 0]) (by rw [results_cell_tmp rfl]; go_simp) rfl ⟨rfl, by (repeat (first | with_reducible exact Grow.refl _ | with_reducible refine Grow.alloc ?_ _ | with_reducible refine Grow.drew ?_ | with_reducible refine Grow.drewN ?_ _ | (with_reducible refine Grow.setCell ?_ ?hp _; (case hp => (simp; try omega))) | with_reducible refine Grow.trans ?_ (by assumption)))⟩
      · have e1 : (G != 1) = true := by simpa using hg1
        have hjP2 : j ≠ P := fun e => hg1 (hGj.out.2 (by rw [e, HD.out]; exact P1.out))
        clear hg1
        go_wp2_with (go_at_call 32; (with_reducible refine (GC.out _).mono ?_); (rintro e w2 ⟨rfl, hb2⟩; have hm2 := Lib.hid (hm.out.grow hb2); clear hb2))
        go_roundg g1
        case measure => omega
        case rel => exact ⟨j + 1, d + n, rfl, Lib.hid (by have := hd.out; rw [show ((j + 1 : Nat) : Int) = (j : Int) + 1 by omega, Int.add_mul]; omega), by omega, Lib.hid (by have := hjk.out; omega), hm2⟩
theorem lift_err (n i : Int) (hx : ptR n i = (P3.zero, 2)) (w : World) :
    Calls Try.prog 28 #[.int .i64 n, .int .i64 i] w fun e w' => e = .returned (.tuple #[.agg #[.int .i64 0, .int .i64 0, .int .i64 0, .int .i64 0], .int .i64 2]) ∧ Grow w w' := by
  have PT := Lib.hid (fun u => point_any n i u)
  rw [hx] at PT
  go_enter Try.func28, Try.ntmps28
  go_wp2_with (go_at_call 41; (with_reducible refine (PT.out _).mono ?_); (rintro e w1 ⟨rfl, hb1⟩; have hc1 := hb1.cells; have hf1 := hb1.frees; have hz1 := hb1.size; (try simp at hz1); have hz1b : w.heap.size < w1.heap.size := (by omega)))
  (try simp only [Exit.inBlock, Exit.then])
  refine bodyPost_ret (v := .tuple #[.agg #[.int .i64 0, .int .i64 0, .int .i64 0, .int .i64 0], .int .i64 2]) (by rw [results_cell_tmp rfl]; go_simp) rfl ⟨rfl, by (repeat (first | with_reducible exact Grow.refl _ | with_reducible refine Grow.alloc ?_ _ | with_reducible refine Grow.drew ?_ | with_reducible refine Grow.drewN ?_ _ | (with_reducible refine Grow.setCell ?_ ?hp _; (case hp => (simp; try omega))) | with_reducible refine Grow.trans ?_ (by assumption)))⟩
theorem ptR_cases (n i : Int) : ptR n i = (P3.zero, 2) ∨ (1 ≤ n ∧ n ≤ 120 ∧ ∃ j : Nat, i = (j : Int) ∧ j < (lsF n).length ∧ ∃ x, ptR n i = (x, 0) ∧ (lsF n).getD j P3.zero = x ∧ InL n x ∧ ixF n x = j) := by
  by_cases h : 1 ≤ n ∧ n ≤ 120
  · by_cases hi : i < 0 ∨ ((lsF n).length : Int) ≤ i
    · exact .inl (ptR_out h hi)
    · obtain ⟨j, rfl⟩ := Int.eq_ofNat_of_zero_le (show 0 ≤ i by omega)
      have hj : j < (lsF n).length := by omega
      obtain ⟨a, b⟩ := ix_self h.1 hj rfl
      exact .inr ⟨h.1, h.2, j, rfl, hj, _, ptR_ok h hj, rfl, a, b⟩
  · exact .inl (ptR_bad h)
theorem lift_any (n i : Int) (w : World) :
    Calls Try.prog 28 #[.int .i64 n, .int .i64 i] w fun e w' => e = .returned (.tuple #[.agg #[.int .i64 (lfR n i).1.a, .int .i64 (lfR n i).1.b, .int .i64 (lfR n i).1.c, .int .i64 (lfR n i).1.d], .int .i64 (lfR n i).2]) ∧ Grow w w' := by
  unfold lfR
  rcases ptR_cases n i with h | ⟨h1, h2, j, -, -, x, hx, -, hin, -⟩
  · rw [h, if_pos (by simp)]
    exact lift_err n i h w
  · rw [hx, if_neg (by simp)]
    exact lift_core n i x h1 h2 hx hin w
end Go.Proofs.Ytcgiancmponmgaa
