/- Walks: nearest, the small matrices S, T, One, Minus of the reference. -/
import Derived.Test.YtkjcdiolimajdaaSlE
import Derived.Test.YtkjcdiolimajdaaPlC
namespace Go.Proofs.Ytkjcdiolimajdaa
open Go.RowKit

theorem near_r (a c : Int) (hc : c ≠ 0) : nearR a c = (if 2 * (if a.tmod c < 0 then a.tmod c + c.natAbs else a.tmod c) > c.natAbs then (if a.tmod c < 0 then a.tmod c + c.natAbs else a.tmod c) - c.natAbs else (if a.tmod c < 0 then a.tmod c + c.natAbs else a.tmod c)) := by
  have h : (if a.tmod c < 0 then a.tmod c + c.natAbs else a.tmod c) = a % c := by
    rw [Int.tmod_eq_emod]
    have h1 := near_mod a c hc
    split <;> split <;> omega
  rw [h]; rfl
theorem near_q (a c : Int) (hc : c ≠ 0) : (a - nearR a c).tdiv c = nearQ a c := by
  obtain ⟨h1, _⟩ := near_spec a c hc
  have : a - nearR a c = nearQ a c * c := by omega
  rw [this, Int.mul_tdiv_cancel _ hc]

set_option maxHeartbeats 2000000 in
theorem nearest_any (a c : Int) (ha : inB a = true) (hc : inB c = true) (h0 : c ≠ 0) (w : World) :
    Calls Try.prog 47 #[.int .i64 a, .int .i64 c] w fun e w' => e = .returned (.tuple #[.int .i64 (nearQ a c), .int .i64 (nearR a c)]) ∧ w = w' := by
  obtain ⟨a1, a2⟩ := inB_iff.1 ha
  obtain ⟨c1, c2⟩ := inB_iff.1 hc
  have hq := near_q a c h0
  obtain ⟨q1, q2⟩ := inB_iff.1 (near_q_bd h0 ha hc)
  have hr := near_r a c h0
  obtain ⟨t1, t2⟩ := tmod_bd a c h0 1073741824 c1 c2
  have hl := tmod_lt a c h0
  obtain ⟨-, k1, k2⟩ := near_spec a c h0
  generalize nearQ a c = Q at *
  generalize nearR a c = R at *
  clear ha hc
  obtain ⟨t, ht⟩ : ∃ t, a.tmod c = t := ⟨_, rfl⟩
  rw [ht] at hr t1 t2 hl
  by_cases hs : 0 < c
  · generalize c = s at *
    have hz : ((s).natAbs : Int) = s := by omega
    rw [hz] at hr k1 k2
    have hn : a.tmod s = t := by exact ht
    
    have hlt : t < s := by omega
    have hgt : -s < t := by omega
    have h01 : (s == 0) = false := by simp; omega
    have HR := Lib.hid hr
    have HQ := Lib.hid hq
    clear hr hq hz hl
    by_cases e1 : t < 0
    · by_cases e2 : 2 * (t + s) > s
      · have hR : R = t := by have := HR.out; rw [if_pos e1, if_pos e2] at this; omega
        subst hR
        have hQ := HQ.out
        clear HR HQ
        go_enter Try.func47, Try.ntmps47
        go_wp2
        go_ret2
        exact ⟨rfl, rfl⟩
      · have hR : R = t + s := by have := HR.out; rw [if_pos e1, if_neg e2] at this; omega
        subst hR
        have hQ := HQ.out
        clear HR HQ
        go_enter Try.func47, Try.ntmps47
        go_wp2
        go_ret2
        exact ⟨rfl, rfl⟩
    · by_cases e2 : 2 * t > s
      · have hR : R = t - s := by have := HR.out; rw [if_neg e1, if_pos e2] at this; omega
        subst hR
        have hQ := HQ.out
        clear HR HQ
        go_enter Try.func47, Try.ntmps47
        go_wp2
        go_ret2
        exact ⟨rfl, rfl⟩
      · have hR : R = t := by have := HR.out; rw [if_neg e1, if_neg e2] at this; omega
        subst hR
        have hQ := HQ.out
        clear HR HQ
        go_enter Try.func47, Try.ntmps47
        go_wp2
        go_ret2
        exact ⟨rfl, rfl⟩
  · obtain ⟨s, rfl⟩ : ∃ s, c = -s := ⟨-c, by omega⟩
    have hz : (((-s)).natAbs : Int) = s := by omega
    rw [hz] at hr k1 k2
    have hn : a.tmod s = t := by rw [← ht, Int.tmod_neg]
    clear ht
    have hlt : t < s := by omega
    have hgt : -s < t := by omega
    have h01 : (-s == 0) = false := by simp; omega
    have HR := Lib.hid hr
    have HQ := Lib.hid hq
    clear hr hq hz hl
    by_cases e1 : t < 0
    · by_cases e2 : 2 * (t + s) > s
      · have hR : R = t := by have := HR.out; rw [if_pos e1, if_pos e2] at this; omega
        subst hR
        have hQ := HQ.out
        clear HR HQ
        go_enter Try.func47, Try.ntmps47
        go_wp2
        go_ret2
        exact ⟨rfl, rfl⟩
      · have hR : R = t + s := by have := HR.out; rw [if_pos e1, if_neg e2] at this; omega
        subst hR
        have hQ := HQ.out
        clear HR HQ
        go_enter Try.func47, Try.ntmps47
        go_wp2
        go_ret2
        exact ⟨rfl, rfl⟩
    · by_cases e2 : 2 * t > s
      · have hR : R = t - s := by have := HR.out; rw [if_neg e1, if_pos e2] at this; omega
        subst hR
        have hQ := HQ.out
        clear HR HQ
        go_enter Try.func47, Try.ntmps47
        go_wp2
        go_ret2
        exact ⟨rfl, rfl⟩
      · have hR : R = t := by have := HR.out; rw [if_neg e1, if_neg e2] at this; omega
        subst hR
        have hQ := HQ.out
        clear HR HQ
        go_enter Try.func47, Try.ntmps47
        go_wp2
        go_ret2
        exact ⟨rfl, rfl⟩

set_option maxHeartbeats 400000 in
theorem refS_any (w : World) :
    Calls Try.prog 48 #[] w fun e w' => e = .returned (.agg #[.int .i64 0, .int .i64 (-1), .int .i64 1, .int .i64 0]) ∧ Grow w w' := by
  go_enter Try.func48, Try.ntmps48
  go_wp2
  exact bodyPost_ret (v := .agg #[.int .i64 0, .int .i64 (-1), .int .i64 1, .int .i64 0]) (by simp only [results, Try.results48]; go_simp) rfl ⟨rfl, by (repeat (first | with_reducible exact Grow.refl _ | with_reducible refine Grow.alloc ?_ _ | with_reducible refine Grow.drew ?_ | with_reducible refine Grow.drewN ?_ _ | (with_reducible refine Grow.setCell ?_ ?hp _; (case hp => (simp; try omega))) | with_reducible refine Grow.trans ?_ (by assumption)))⟩

set_option maxHeartbeats 400000 in
theorem refT_any (n : Int) (w : World) :
    Calls Try.prog 49 #[.int .i64 n] w fun e w' => e = .returned (.agg #[.int .i64 1, .int .i64 n, .int .i64 0, .int .i64 1]) ∧ Grow w w' := by
  go_enter Try.func49, Try.ntmps49
  go_wp2
  exact bodyPost_ret (v := .agg #[.int .i64 1, .int .i64 n, .int .i64 0, .int .i64 1]) (by simp only [results, Try.results49]; go_simp) rfl ⟨rfl, by (repeat (first | with_reducible exact Grow.refl _ | with_reducible refine Grow.alloc ?_ _ | with_reducible refine Grow.drew ?_ | with_reducible refine Grow.drewN ?_ _ | (with_reducible refine Grow.setCell ?_ ?hp _; (case hp => (simp; try omega))) | with_reducible refine Grow.trans ?_ (by assumption)))⟩

set_option maxHeartbeats 400000 in
theorem refOne_any (w : World) :
    Calls Try.prog 50 #[] w fun e w' => e = .returned (.agg #[.int .i64 1, .int .i64 0, .int .i64 0, .int .i64 1]) ∧ Grow w w' := by
  go_enter Try.func50, Try.ntmps50
  go_wp2
  exact bodyPost_ret (v := .agg #[.int .i64 1, .int .i64 0, .int .i64 0, .int .i64 1]) (by simp only [results, Try.results50]; go_simp) rfl ⟨rfl, by (repeat (first | with_reducible exact Grow.refl _ | with_reducible refine Grow.alloc ?_ _ | with_reducible refine Grow.drew ?_ | with_reducible refine Grow.drewN ?_ _ | (with_reducible refine Grow.setCell ?_ ?hp _; (case hp => (simp; try omega))) | with_reducible refine Grow.trans ?_ (by assumption)))⟩

set_option maxHeartbeats 400000 in
theorem refMinus_any (m : M2) (hm : m.fits = true) (w : World) :
    Calls Try.prog 51 #[.agg #[.int .i64 m.a, .int .i64 m.b, .int .i64 m.c, .int .i64 m.d]] w fun e w' => e = .returned (.agg #[.int .i64 (-m.a), .int .i64 (-m.b), .int .i64 (-m.c), .int .i64 (-m.d)]) ∧ Grow w w' := by
  obtain ⟨⟨b1, b2⟩, ⟨b3, b4⟩, ⟨b5, b6⟩, b7, b8⟩ := fits_bd hm
  clear hm
  go_enter Try.func51, Try.ntmps51
  go_wp2
  exact bodyPost_ret (v := .agg #[.int .i64 (-m.a), .int .i64 (-m.b), .int .i64 (-m.c), .int .i64 (-m.d)]) (by simp only [results, Try.results51]; go_simp) rfl ⟨rfl, by (repeat (first | with_reducible exact Grow.refl _ | with_reducible refine Grow.alloc ?_ _ | with_reducible refine Grow.drew ?_ | with_reducible refine Grow.drewN ?_ _ | (with_reducible refine Grow.setCell ?_ ?hp _; (case hp => (simp; try omega))) | with_reducible refine Grow.trans ?_ (by assumption)))⟩
end Go.Proofs.Ytkjcdiolimajdaa
