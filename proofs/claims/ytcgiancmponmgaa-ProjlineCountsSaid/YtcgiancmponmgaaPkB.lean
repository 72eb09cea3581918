/- Walks: point, Lift of the program, Raise and Lift of the reference. -/
import Derived.Test.YtcgiancmponmgaaPkA
import Derived.Test.YtcgiancmponmgaaPjX
namespace Go.Proofs.Ytcgiancmponmgaa
open Go Go.RowKit

/-- The point with an index, and the error. -/
def ptR (n i : Int) : P3 × Int := if (lsR n).2 ≠ 0 then (P3.zero, 2) else if i < 0 ∨ ((lsF n).length : Int) ≤ i then (P3.zero, 2) else ((lsF n).getD i.toNat P3.zero, 0)
theorem lsR_ok {n : Int} (h : 1 ≤ n ∧ n ≤ 120) : lsR n = (lsF n, 0) := by unfold lsR; rw [lvE_ok h, if_neg (by simp)]
theorem lsR_bad {n : Int} (h : ¬ (1 ≤ n ∧ n ≤ 120)) : lsR n = ([], 2) := by unfold lsR; rw [lvE_bad h, if_pos (by simp)]
theorem ptR_bad {n i : Int} (h : ¬ (1 ≤ n ∧ n ≤ 120)) : ptR n i = (P3.zero, 2) := by unfold ptR; rw [lsR_bad h, if_pos (by simp)]
theorem ptR_out {n i : Int} (h : 1 ≤ n ∧ n ≤ 120) (hi : i < 0 ∨ ((lsF n).length : Int) ≤ i) : ptR n i = (P3.zero, 2) := by unfold ptR; rw [lsR_ok h, if_neg (by simp), if_pos hi]
theorem ptR_ok {n : Int} {j : Nat} (h : 1 ≤ n ∧ n ≤ 120) (hj : j < (lsF n).length) : ptR n (j : Int) = ((lsF n).getD j P3.zero, 0) := by unfold ptR; rw [lsR_ok h, if_neg (by simp), if_neg (by omega), Int.toNat_natCast]
set_option maxRecDepth 20000 in
set_option maxHeartbeats 4000000 in
theorem point_any (n i : Int) (w : World) : Calls Try.prog 41 #[.int .i64 n, .int .i64 i] w fun e w' => e = .returned (.tuple #[.agg #[.int .i64 (ptR n i).1.u, .int .i64 (ptR n i).1.v, .int .i64 (ptR n i).1.t], .int .i64 (ptR n i).2]) ∧ Grow w w' := by
  by_cases h : 1 ≤ n ∧ n ≤ 120
  · have LS := Lib.hid (fun u => list_core n h.1 h.2 u)
    have hlen := lsF_len h.1 h.2
    by_cases h0 : i < 0
    · rw [ptR_out h (.inl h0)]
      obtain ⟨l, hl⟩ : ∃ l, lsF n = l := ⟨_, rfl⟩
      rw [hl] at LS
      have d0 : decide (i < 0) = true := by simpa using h0
      clear hl
      go_enter Try.func41, Try.ntmps41
      go_wp2_with (go_at_call 16; (with_reducible refine (LS.out _).mono ?_); (rintro e w1 ⟨v, rfl, hown, hb1⟩; have hc1 := hb1.cells; have hf1 := hb1.frees; have hz1 := hb1.size; (try simp at hz1); obtain ⟨ao, cap, rfl⟩ := hown.rd.form; clear hown))
      (try simp only [Exit.inBlock, Exit.then])
      refine bodyPost_ret (v := .tuple #[.agg #[.int .i64 0, .int .i64 0, .int .i64 0], .int .i64 2]) (by rw [results_cell_tmp rfl]; go_simp) rfl ⟨rfl, by (repeat (first | with_reducible exact Grow.refl _ | with_reducible refine Grow.alloc ?_ _ | with_reducible refine Grow.drew ?_ | with_reducible refine Grow.drewN ?_ _ | (with_reducible refine Grow.setCell ?_ ?hp _; (case hp => (simp; try omega))) | with_reducible refine Grow.trans ?_ (by assumption)))⟩
    · have d0 : decide (i < 0) = false := by simpa using h0
      by_cases hle : ((lsF n).length : Int) ≤ i
      · rw [ptR_out h (.inr hle)]
        obtain ⟨l, hl⟩ : ∃ l, lsF n = l := ⟨_, rfl⟩
        rw [hl] at LS hle
        clear hl
        go_enter Try.func41, Try.ntmps41
        go_wp2_with (go_at_call 16; (with_reducible refine (LS.out _).mono ?_); (rintro e w1 ⟨v, rfl, hown, hb1⟩; have hc1 := hb1.cells; have hf1 := hb1.frees; have hz1 := hb1.size; (try simp at hz1); obtain ⟨ao, cap, rfl⟩ := hown.rd.form; clear hown))
        (try simp only [Exit.inBlock, Exit.then])
        refine bodyPost_ret (v := .tuple #[.agg #[.int .i64 0, .int .i64 0, .int .i64 0], .int .i64 2]) (by rw [results_cell_tmp rfl]; go_simp) rfl ⟨rfl, by (repeat (first | with_reducible exact Grow.refl _ | with_reducible refine Grow.alloc ?_ _ | with_reducible refine Grow.drew ?_ | with_reducible refine Grow.drewN ?_ _ | (with_reducible refine Grow.setCell ?_ ?hp _; (case hp => (simp; try omega))) | with_reducible refine Grow.trans ?_ (by assumption)))⟩
      · obtain ⟨j, rfl⟩ := Int.eq_ofNat_of_zero_le (show 0 ≤ i by omega)
        have hj : j < (lsF n).length := by omega
        rw [ptR_ok h hj]
        obtain ⟨l, hl⟩ : ∃ l, lsF n = l := ⟨_, rfl⟩
        rw [hl] at LS hle hj hlen ⊢
        obtain ⟨m, hm⟩ : ∃ m, l.length = m := ⟨_, rfl⟩
        rw [hm] at hle hj hlen
        have HM := Lib.hid hm
        obtain ⟨y, hy⟩ : ∃ y, l.getD j P3.zero = y := ⟨_, rfl⟩
        have HY := Lib.hid hy
        simp only [hy]
        have hj1 : (j : Int) < (m : Int) := by omega
        clear hl hm hy h0
        go_enter Try.func41, Try.ntmps41
        go_wp2_with (go_at_call 16; (with_reducible refine (LS.out _).mono ?_); (rintro e w1 ⟨v, rfl, hown, hb1⟩; have hc1 := hb1.cells; have hf1 := hb1.frees; have hz1 := hb1.size; (try simp at hz1); obtain ⟨g, cap, rfl, hg1, hg2⟩ := own_slice hown (by rw [HM.out]; omega); have hcs := own_pts_cells hown rfl j (by rw [HM.out]; exact hj); rw [HY.out] at hcs; obtain ⟨c0, c1, c2⟩ := hcs; simp only [Nat.zero_add] at c0 c1 c2; rw [HM.out]; clear hown))
        (try simp only [Exit.inBlock, Exit.then])
        refine bodyPost_ret (v := .tuple #[.agg #[.int .i64 y.u, .int .i64 y.v, .int .i64 y.t], .int .i64 0]) (by rw [results_cell_tmp rfl]; go_simp) rfl ⟨rfl, by (repeat (first | with_reducible exact Grow.refl _ | with_reducible refine Grow.alloc ?_ _ | with_reducible refine Grow.drew ?_ | with_reducible refine Grow.drewN ?_ _ | (with_reducible refine Grow.setCell ?_ ?hp _; (case hp => (simp; try omega))) | with_reducible refine Grow.trans ?_ (by assumption)))⟩
  · rw [ptR_bad h]
    have LS := Lib.hid (fun u => list_bad n h u)
    go_enter Try.func41, Try.ntmps41
    go_wp2_with (go_at_call 16; (with_reducible refine (LS.out _).mono ?_); (rintro e w1 ⟨rfl, hb1⟩; have hc1 := hb1.cells; have hf1 := hb1.frees; have hz1 := hb1.size; (try simp at hz1)))
    (try simp only [Exit.inBlock, Exit.then])
    refine bodyPost_ret (v := .tuple #[.agg #[.int .i64 0, .int .i64 0, .int .i64 0], .int .i64 2]) (by rw [results_cell_tmp rfl]; go_simp) rfl ⟨rfl, by (repeat (first | with_reducible exact Grow.refl _ | with_reducible refine Grow.alloc ?_ _ | with_reducible refine Grow.drew ?_ | with_reducible refine Grow.drewN ?_ _ | (with_reducible refine Grow.setCell ?_ ?hp _; (case hp => (simp; try omega))) | with_reducible refine Grow.trans ?_ (by assumption)))⟩
theorem inverse_at1 (p : Int) (w : World) : Calls Try.prog 47 #[.int .i64 p, .int .i64 1] w fun e w' => e = .returned (.tuple #[.int .i64 0, .int .i64 0]) ∧ ∃ n, w' = w.drewN n := by
  have RES := Lib.hid (fun w => residue_any p 1 (by omega) (by omega) w)
  rw [Int.emod_one] at RES
  go_enter Try.func47, Try.ntmps47
  go_wp2_with (first | (go_at_call 57; (with_reducible refine (RES.out _).mono ?_); (rintro e w1 ⟨rfl, rfl⟩)) | (go_at_call 55; refine (inRange_any _ (by omega) (by omega) _).mono ?_; rintro e w1 ⟨rfl, rfl⟩) | (go_at_call 56; refine (xgcd_01 _).mono ?_; rintro e w1 ⟨rfl, n, rfl⟩))
  refine bodyPost_ret (v := .tuple #[.int .i64 0, .int .i64 0]) (by simp only [results, Try.results47]; go_simp) rfl ⟨rfl, _, rfl⟩
/-- The inverse of d modulo u: the first one. -/
theorem inverse_aI (u d : Int) (hu : 1 ≤ u) (hu2 : u ≤ 120) (hg : Int.gcd d u = 1) (w : World) : Calls Try.prog 47 #[.int .i64 d, .int .i64 u] w fun e w' => e = .returned (.tuple #[.int .i64 (aI u d), .int .i64 0]) ∧ Grow w w' := by
  by_cases h1 : u = 1
  · subst h1
    have h := aI_uniq (V := 0) hu hu2 hg (by omega) (by omega) (Int.one_dvd _)
    rw [← h]
    exact (inverse_at1 d w).mono fun e w' ⟨he, k, hk⟩ => ⟨he, by rw [hk]; exact (Grow.refl w).drewN k⟩
  · exact (inverse_unit d u (by omega) (by omega) hg w).mono fun e w' ⟨⟨V, he, v0, v1, v2⟩, k, hk⟩ => ⟨by rw [he, aI_uniq hu hu2 hg v0 v1 v2], by rw [hk]; exact (Grow.refl w).drewN k⟩
/-- The lift of a point, and the error. -/
def lfR (n i : Int) : M2 × Int := if (ptR n i).2 ≠ 0 then (M2.zero, 2) else (rsF n (ptR n i).1.u (ptR n i).1.v, 0)
end Go.Proofs.Ytcgiancmponmgaa
