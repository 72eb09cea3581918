/- Walks: Raise and Lift of the reference. -/
import Derived.Test.YtcgiancmponmgaaPkC
namespace Go.Proofs.Ytcgiancmponmgaa
open Go Go.RowKit

/-- The result cell of Raise. -/
def RzM (w : World) (u : World) : Prop :=
  u.cell? ⟨w.heap.size, 0, none⟩ = some (.int .i64 0) ∧ u.cell? ⟨w.heap.size, 1, none⟩ = some (.int .i64 0) ∧ u.cell? ⟨w.heap.size, 2, none⟩ = some (.int .i64 0) ∧ u.cell? ⟨w.heap.size, 3, none⟩ = some (.int .i64 0) ∧
    (∀ o, u.frozen? ⟨w.heap.size, o, none⟩ = false) ∧ w.heap.size < u.heap.size ∧ Hid (Grow w u)
theorem RzM.grow {w u u' : World} (h : RzM w u) (hg : Grow u u') : RzM w u' := by
  obtain ⟨h4, h5, h6, h7, h8, h9, h11⟩ := h
  have := hg.size
  exact ⟨(hg.cells _ _ (by omega)).trans h4, (hg.cells _ _ (by omega)).trans h5, (hg.cells _ _ (by omega)).trans h6, (hg.cells _ _ (by omega)).trans h7,
    fun o => (hg.frees _ _ (by omega)).trans (h8 o), by omega, Lib.hid (h11.out.trans hg)⟩
set_option maxHeartbeats 400000 in
theorem refOne21_any (w : World) :
    Calls Try.prog 58 #[] w fun e w' => e = .returned (.agg #[.int .i64 1, .int .i64 0, .int .i64 0, .int .i64 1]) ∧ Grow w w' := by
  go_enter Try.func58, Try.ntmps58
  go_wp2
  exact bodyPost_ret (v := .agg #[.int .i64 1, .int .i64 0, .int .i64 0, .int .i64 1]) (by simp only [results, Try.results58]; go_simp) rfl ⟨rfl, by (repeat (first | with_reducible exact Grow.refl _ | with_reducible refine Grow.alloc ?_ _ | with_reducible refine Grow.drew ?_ | with_reducible refine Grow.drewN ?_ _ | (with_reducible refine Grow.setCell ?_ ?hp _; (case hp => (simp; try omega))) | with_reducible refine Grow.trans ?_ (by assumption)))⟩
set_option maxRecDepth 20000 in
set_option maxHeartbeats 4000000 in
theorem raise_any (n U V : Int) (h1 : 1 ≤ n) (h2 : n ≤ 120) (r1 : 0 ≤ U) (r2 : U < n) (r3 : 0 ≤ V) (r4 : V < n) (hg3 : Int.gcd ((Int.gcd U V : Nat) : Int) n = 1) (w : World) :
    Calls Try.prog 48 #[.int .i64 n, .int .i64 U, .int .i64 V] w fun e w' => e = .returned (.agg #[.int .i64 (rsF n U V).a, .int .i64 (rsF n U V).b, .int .i64 (rsF n U V).c, .int .i64 (rsF n U V).d]) ∧ Grow w w' := by
  by_cases hu0 : U = 0
  · have e0 : (U == 0) = true := by simpa using hu0
    have hr : rsF n U V = ⟨1, 0, 0, 1⟩ := by unfold rsF; rw [if_pos hu0]
    rw [hr]
    clear hr hu0 hg3
    go_enter Try.func48, Try.ntmps48
    go_wp2_with (go_at_call 58; (with_reducible refine (refOne21_any _).mono ?_); (rintro e w1 ⟨rfl, hb1⟩; have hc1 := hb1.cells; have hf1 := hb1.frees; have hz1 := hb1.size; (try simp at hz1); have hz1b : w.heap.size < w1.heap.size := (by omega)))
    (try simp only [Exit.inBlock, Exit.then])
    refine bodyPost_ret (v := .agg #[.int .i64 1, .int .i64 0, .int .i64 0, .int .i64 1]) (by rw [results_one rfl]; go_simp) rfl ⟨rfl, by (repeat (first | with_reducible exact Grow.refl _ | with_reducible refine Grow.alloc ?_ _ | with_reducible refine Grow.drew ?_ | with_reducible refine Grow.drewN ?_ _ | (with_reducible refine Grow.setCell ?_ ?hp _; (case hp => (simp; try omega))) | with_reducible refine Grow.trans ?_ (by assumption)))⟩
  · have e0 : (U == 0) = false := by simpa using hu0
    have u1 : 1 ≤ U := by omega
    obtain ⟨p1, p2, p3⟩ := dI_spec h1 h2 u1 r2 r3 hg3
    have hr : rsF n U V = ⟨aI U (V + (dI n U V : Int) * n), ((aI U (V + (dI n U V : Int) * n) : Int) * (V + (dI n U V : Int) * n) - 1).tdiv U, U, V + (dI n U V : Int) * n⟩ := by unfold rsF; rw [if_neg hu0]
    rw [hr]
    obtain ⟨P, hP⟩ : ∃ P, dI n U V = P := ⟨_, rfl⟩
    rw [hP] at p1 p2 p3 ⊢
    obtain ⟨D, hD⟩ : ∃ D : Int, V + (P : Int) * n = D := ⟨_, rfl⟩
    rw [hD] at p1 ⊢
    have hPn0 : 0 ≤ (P : Int) * n := Int.mul_nonneg (by omega) (by omega)
    have hPn1 : (P : Int) * n ≤ 130 * 120 := Int.mul_le_mul (by omega) (by omega) (by omega) (by omega)
    have hD0 : 0 ≤ D := by omega
    have hD1 : D ≤ 20000 := by omega
    obtain ⟨q1, q2, q3⟩ := aI_spec (d := D) u1 (by omega) p1
    obtain ⟨A, hA⟩ : ∃ A : Nat, aI U D = A := ⟨_, rfl⟩
    rw [hA] at q1 q2 q3 ⊢
    have HD := Lib.hid hD
    have P1 := Lib.hid p1
    have P3' := Lib.hid p3
    have Q1 := Lib.hid q1
    have Q3 := Lib.hid q3
    have xne : ¬ U = 0 := hu0
    clear hr hg3 hP hD p1 p3 hA q1 q3 hPn0 hPn1
    go_enter Try.func48, Try.ntmps48
    go_wp2_with fail
    go_loopg [7] 130 (fun k t8 wr => ∃ (j : Nat) (d : Int), t8 = .int .i64 d ∧ Hid (d = V + (j : Int) * n) ∧ j ≤ P ∧ Hid (j + k = 130) ∧ Hid (RzM w wr))
    case atStart =>
      refine ⟨0, V, rfl, Lib.hid (by simp), by omega, Lib.hid (by omega), Lib.hid ⟨?_, ?_, ?_, ?_, ?_, ?_, Lib.hid (by (repeat (first | with_reducible exact Grow.refl _ | with_reducible refine Grow.alloc ?_ _ | with_reducible refine Grow.drew ?_ | with_reducible refine Grow.drewN ?_ _ | (with_reducible refine Grow.setCell ?_ ?hp _; (case hp => (simp; try omega))) | with_reducible refine Grow.trans ?_ (by assumption))))⟩⟩
      all_goals first | (go_simp; done) | (intro o; go_simp; done) | (simp; done) | omega
    case round =>
      obtain ⟨j, d, rfl, hd, hjP, hjk, hm⟩ := hrel
      obtain ⟨g1, hgk⟩ : ∃ g1, gk = g1 + 1 := ⟨gk - 1, by have := hjk.out; omega⟩
      have hjn0 : 0 ≤ (j : Int) * n := Int.mul_nonneg (by omega) (by omega)
      have hjn1 : (j : Int) * n ≤ 130 * 120 := Int.mul_le_mul (by omega) (by omega) (by omega) (by omega)
      have hde := hd.out
      have dd0 : 0 ≤ d := by omega
      have dd1 : d ≤ 20000 := by omega
      have GC := Lib.hid (fun u => refGcd_any d U (by omega) (by omega) (by omega) (by omega) u)
      have yd : IntKind.i64.wrap (d + n) = d + n := IntWalk.i64_in _ (by omega)
      clear hjn0 hjn1 hde
      obtain ⟨G, hG⟩ : ∃ G : Int, ((Int.gcd d U : Nat) : Int) = G := ⟨_, rfl⟩
      rw [hG] at GC
      have hGj : Hid (G = 1 ↔ Int.gcd (V + (j : Int) * n) U = 1) := by
        show G = 1 ↔ _
        rw [← hG, hd.out]
        omega
      clear hG
      by_cases hg1 : G = 1
      · have e1 : (G != 1) = false := by simpa using hg1
        have hjP2 : j = P := by
          by_cases e : j = P
          · exact e
          · exact absurd (hGj.out.1 hg1) (P3'.out j (by omega))
        have hdD : d = D := by rw [hd.out, hjP2, HD.out]
        subst hdD
        clear hg1 hjP2
        go_wp2_with (go_at_call 15; (with_reducible refine (GC.out _).mono ?_); (rintro e w2 ⟨rfl, hb2⟩; have hm2 := Lib.hid (hm.out.grow hb2); clear hb2))
        go_loopg [8] 130 (fun k t8 wr => ∃ (a : Nat), t8 = .int .i64 (a : Int) ∧ a ≤ A ∧ Hid (a + k = 130) ∧ Hid (RzM w wr))
        case atStart => exact ⟨0, rfl, by omega, Lib.hid (by omega), hm2⟩
        case round =>
          obtain ⟨a, rfl, haA, hak, hm3⟩ := hrel
          obtain ⟨g2, hgk2⟩ : ∃ g2, gk = g2 + 1 := ⟨gk - 1, by have := hak.out; omega⟩
          have had0 : 0 ≤ (a : Int) * d := Int.mul_nonneg (by omega) hD0
          have had1 : (a : Int) * d ≤ 130 * 20000 := Int.mul_le_mul (by omega) hD1 hD0 (by omega)
          have y1 : IntKind.i64.wrap ((a : Int) * d) = (a : Int) * d := IntWalk.i64_in _ (by omega)
          have ya : IntKind.i64.wrap ((a : Int) + 1) = (a : Int) + 1 := IntWalk.i64_in _ (by omega)
          obtain ⟨E, hE⟩ : ∃ E, (a : Int) * d - 1 = E := ⟨_, rfl⟩
          have y2 : wrap64 ((a : Int) * d - 1) = E := by rw [← hE]; unfold wrap64; omega
          have y3 : IntKind.i64.wrap ((a : Int) * d - 1) = E := by rw [← hE]; exact IntWalk.i64_in _ (by omega)
          obtain ⟨R, hR⟩ : ∃ R, E.tmod U = R := ⟨_, rfl⟩
          have hRb : R.natAbs ≤ 10000000 := by
            have : R.natAbs ≤ E.natAbs := by rw [← hR, Int.natAbs_tmod]; exact Nat.mod_le _ _
            omega
          have y4 : IntKind.i64.wrap R = R := IntWalk.i64_in _ (by omega)
          have hRz : Hid (R = 0 ↔ ((a : Int) * d - 1).tmod U = 0) := by
            show R = 0 ↔ _
            rw [hE, hR]
          have HE := Lib.hid hE
          have HR := Lib.hid hR
          have hmo := hm3.out
          obtain ⟨m4, m5, m6, m7, m8, m9, m11⟩ := hmo
          by_cases hr0 : R = 0
          · have e3 : (R != 0) = false := by simpa using hr0
            have haA2 : a = A := by
              by_cases e : a = A
              · exact e
              · exact absurd (hRz.out.1 hr0) (Q3.out a (by omega))
            subst haA2
            obtain ⟨Q, hQ⟩ : ∃ Q, E.tdiv U = Q := ⟨_, rfl⟩
            have hQb : Q.natAbs ≤ 10000000 := by rw [← hQ]; exact tdiv_abs _ (by omega)
            have y5 : IntKind.i64.wrap Q = Q := IntWalk.i64_in _ (by omega)
            have hG3 := m11.out
            have y6 : wrap64 (E.tdiv U) = Q := by rw [hQ]; unfold wrap64; omega
            have HQ := Lib.hid hQ
            clear hr0 had0 had1 hE hQ
            go_wp2_with fail
            (try simp only [Exit.inBlock, Exit.then])
            refine bodyPost_ret (v := .agg #[.int .i64 (a : Int), .int .i64 Q, .int .i64 U, .int .i64 d]) (by rw [results_one rfl]; go_simp) rfl ⟨by rw [HE.out, HQ.out], by (repeat (first | with_reducible exact Grow.refl _ | with_reducible refine Grow.alloc ?_ _ | with_reducible refine Grow.drew ?_ | with_reducible refine Grow.drewN ?_ _ | (with_reducible refine Grow.setCell ?_ ?hp _; (case hp => (simp; try omega))) | with_reducible refine Grow.trans ?_ (by assumption)))⟩
          · have e3 : (R != 0) = true := by simpa using hr0
            have haA2 : a ≠ A := fun e => hr0 (hRz.out.2 (by rw [e]; exact Q1.out))
            clear hr0 had0 had1 hE
            go_wp2_with fail
            go_roundg g2
            case measure => omega
            case rel => exact ⟨a + 1, by go_num, by omega, Lib.hid (by have := hak.out; omega), hm3⟩
      · have e1 : (G != 1) = true := by simpa using hg1
        have hjP2 : j ≠ P := fun e => hg1 (hGj.out.2 (by rw [e, HD.out]; exact P1.out))
        clear hg1
        go_wp2_with (go_at_call 15; (with_reducible refine (GC.out _).mono ?_); (rintro e w2 ⟨rfl, hb2⟩; have hm2 := Lib.hid (hm.out.grow hb2); clear hb2))
        go_roundg g1
        case measure => omega
        case rel => exact ⟨j + 1, d + n, rfl, Lib.hid (by have := hd.out; rw [show ((j + 1 : Nat) : Int) = (j : Int) + 1 by omega, Int.add_mul]; omega), by omega, Lib.hid (by have := hjk.out; omega), hm2⟩
set_option maxRecDepth 20000 in
set_option maxHeartbeats 4000000 in
theorem refLift_any (n i : Int) (w : World) : Calls Try.prog 29 #[.int .i64 n, .int .i64 i] w fun e w' => e = .returned (.tuple #[.agg #[.int .i64 (lfR n i).1.a, .int .i64 (lfR n i).1.b, .int .i64 (lfR n i).1.c, .int .i64 (lfR n i).1.d], .int .i64 (lfR n i).2]) ∧ Grow w w' := by
  by_cases h : 1 ≤ n ∧ n ≤ 120
  · have LS := Lib.hid (fun u => refList_core n h.1 h.2 u)
    have hlen := lsF_len h.1 h.2
    by_cases h0 : i < 0
    · have hr : lfR n i = (M2.zero, 2) := by unfold lfR; rw [ptR_out h (.inl h0), if_pos (by simp)]
      rw [hr]
      obtain ⟨l, hl⟩ : ∃ l, lsF n = l := ⟨_, rfl⟩
      rw [hl] at LS
      have d0 : decide (i < 0) = true := by simpa using h0
      clear hl hr
      go_enter Try.func29, Try.ntmps29
      go_wp2_with (go_at_call 17; (with_reducible refine (LS.out _).mono ?_); (rintro e w1 ⟨v, rfl, hown, hb1⟩; have hc1 := hb1.cells; have hf1 := hb1.frees; have hz1 := hb1.size; (try simp at hz1); obtain ⟨ao, cap, rfl⟩ := hown.rd.form; clear hown))
      (try simp only [Exit.inBlock, Exit.then])
      refine bodyPost_ret (v := .tuple #[.agg #[.int .i64 0, .int .i64 0, .int .i64 0, .int .i64 0], .int .i64 2]) (by rw [results_cell_tmp rfl]; go_simp) rfl ⟨rfl, by (repeat (first | with_reducible exact Grow.refl _ | with_reducible refine Grow.alloc ?_ _ | with_reducible refine Grow.drew ?_ | with_reducible refine Grow.drewN ?_ _ | (with_reducible refine Grow.setCell ?_ ?hp _; (case hp => (simp; try omega))) | with_reducible refine Grow.trans ?_ (by assumption)))⟩
    · have d0 : decide (i < 0) = false := by simpa using h0
      by_cases hle : ((lsF n).length : Int) ≤ i
      · have hr : lfR n i = (M2.zero, 2) := by unfold lfR; rw [ptR_out h (.inr hle), if_pos (by simp)]
        rw [hr]
        obtain ⟨l, hl⟩ : ∃ l, lsF n = l := ⟨_, rfl⟩
        rw [hl] at LS hle
        clear hl hr
        go_enter Try.func29, Try.ntmps29
        go_wp2_with (go_at_call 17; (with_reducible refine (LS.out _).mono ?_); (rintro e w1 ⟨v, rfl, hown, hb1⟩; have hc1 := hb1.cells; have hf1 := hb1.frees; have hz1 := hb1.size; (try simp at hz1); obtain ⟨ao, cap, rfl⟩ := hown.rd.form; clear hown))
        (try simp only [Exit.inBlock, Exit.then])
        refine bodyPost_ret (v := .tuple #[.agg #[.int .i64 0, .int .i64 0, .int .i64 0, .int .i64 0], .int .i64 2]) (by rw [results_cell_tmp rfl]; go_simp) rfl ⟨rfl, by (repeat (first | with_reducible exact Grow.refl _ | with_reducible refine Grow.alloc ?_ _ | with_reducible refine Grow.drew ?_ | with_reducible refine Grow.drewN ?_ _ | (with_reducible refine Grow.setCell ?_ ?hp _; (case hp => (simp; try omega))) | with_reducible refine Grow.trans ?_ (by assumption)))⟩
      · obtain ⟨j, rfl⟩ := Int.eq_ofNat_of_zero_le (show 0 ≤ i by omega)
        have hj : j < (lsF n).length := by omega
        have hr : lfR n (j : Int) = (rsF n ((lsF n).getD j P3.zero).u ((lsF n).getD j P3.zero).v, 0) := by unfold lfR; rw [ptR_ok h hj, if_neg (by simp)]
        rw [hr]
        obtain ⟨y, hy, b1, b2, b3, b4, -, b6⟩ := lsF_at h.1 hj
        rw [hy]
        have RS := Lib.hid (fun u => raise_any n y.u y.v h.1 h.2 b1 b2 b3 b4 ((okP_iff h.1 h.2 b1 b2 b3 b4).1 b6).1 u)
        obtain ⟨l, hl⟩ : ∃ l, lsF n = l := ⟨_, rfl⟩
        rw [hl] at LS hle hj hlen hy
        obtain ⟨m, hm⟩ : ∃ m, l.length = m := ⟨_, rfl⟩
        rw [hm] at hle hj hlen
        obtain ⟨M, hM⟩ : ∃ M, rsF n y.u y.v = M := ⟨_, rfl⟩
        rw [hM] at RS ⊢
        have HM := Lib.hid hm
        have HY := Lib.hid hy
        have hj1 : (j : Int) < (m : Int) := by omega
        clear hl hm hy h0 hr hM b6
        go_enter Try.func29, Try.ntmps29
        go_wp2_with (go_at_call 17; (with_reducible refine (LS.out _).mono ?_); (rintro e w1 ⟨v, rfl, hown, hb1⟩; have hc1 := hb1.cells; have hf1 := hb1.frees; have hz1 := hb1.size; (try simp at hz1); have hz1b : w.heap.size < w1.heap.size := (by omega); obtain ⟨g, cap, rfl, hg1, hg2⟩ := own_slice hown (by rw [HM.out]; omega); have hcs := own_pts_cells hown rfl j (by rw [HM.out]; exact hj); rw [HY.out] at hcs; obtain ⟨c0, c1, c2⟩ := hcs; simp only [Nat.zero_add] at c0 c1 c2; rw [HM.out]; clear hown))
        refine region_grow_tail 12 (by kernel_rfl) (by kernel_rfl) ?_
        intro X F hF
        have hFc := hF.cells
        haveI hFn := hF.ne
        simp only [List.take_succ_cons, List.take_zero, List.drop_succ_cons, List.drop_zero]
        repeat (go_big_quiet_step ((first | (go_at_call 48; with_reducible exact hF.call (RS.out _)))))
        refine wpQuiet_nil ?_
        rintro _ ⟨x9, rfl⟩
        have hb5 := hF.grow x9
        clear hFc hFn hF
        generalize F x9 = w5 at *
        have hc5 := hb5.cells
        have hf5 := hb5.frees
        have hz5 := hb5.size
        (try simp at hz5)
        go_wp2_with fail
        (try simp only [Exit.inBlock, Exit.then])
        refine bodyPost_ret (v := .tuple #[.agg #[.int .i64 M.a, .int .i64 M.b, .int .i64 M.c, .int .i64 M.d], .int .i64 0]) (by rw [results_cell_tmp rfl]; go_simp) rfl ⟨rfl, by (repeat (first | with_reducible exact Grow.refl _ | with_reducible refine Grow.alloc ?_ _ | with_reducible refine Grow.drew ?_ | with_reducible refine Grow.drewN ?_ _ | (with_reducible refine Grow.setCell ?_ ?hp _; (case hp => (simp; try omega))) | with_reducible refine Grow.trans ?_ (by assumption)))⟩
  · have hr : lfR n i = (M2.zero, 2) := by unfold lfR; rw [ptR_bad h, if_pos (by simp)]
    rw [hr]
    have LS := Lib.hid (fun u => refList_bad n h u)
    go_enter Try.func29, Try.ntmps29
    go_wp2_with (go_at_call 17; (with_reducible refine (LS.out _).mono ?_); (rintro e w1 ⟨rfl, hb1⟩; have hc1 := hb1.cells; have hf1 := hb1.frees; have hz1 := hb1.size; (try simp at hz1)))
    (try simp only [Exit.inBlock, Exit.then])
    refine bodyPost_ret (v := .tuple #[.agg #[.int .i64 0, .int .i64 0, .int .i64 0, .int .i64 0], .int .i64 2]) (by rw [results_cell_tmp rfl]; go_simp) rfl ⟨rfl, by (repeat (first | with_reducible exact Grow.refl _ | with_reducible refine Grow.alloc ?_ _ | with_reducible refine Grow.drew ?_ | with_reducible refine Grow.drewN ?_ _ | (with_reducible refine Grow.setCell ?_ ?hp _; (case hp => (simp; try omega))) | with_reducible refine Grow.trans ?_ (by assumption)))⟩
end Go.Proofs.Ytcgiancmponmgaa
