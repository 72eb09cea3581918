/- Walks: Normal of the program and of the reference. -/
import Derived.Test.YtcgiancmponmgaaPjO
import Derived.Test.YtcgiancmponmgaaPjC
import Derived.Laws.ResultCell
namespace Go.Proofs.Ytcgiancmponmgaa
open Go Go.RowKit

/-- The normal form and the unit of a pair, and the error. -/
def nmR (n c d : Int) : P3 × Int :=
  if lvE n ≠ 0 then (P3.zero, 2) else if (inB c && inB d) = false then (P3.zero, 2) else if Int.gcd ((Int.gcd c d : Nat) : Int) n ≠ 1 then (P3.zero, 9) else (normF n (c % n) (d % n), 0)
theorem lvE_ok {n : Int} (h : 1 ≤ n ∧ n ≤ 120) : lvE n = 0 := by unfold lvE; rw [if_neg (by omega)]
theorem lvE_bad {n : Int} (h : ¬ (1 ≤ n ∧ n ≤ 120)) : lvE n = 2 := by unfold lvE; rw [if_pos (by omega)]
theorem gcd_lim {a b : Int} (ha : -1073741824 ≤ a ∧ a ≤ 1073741824) (hb : -1073741824 ≤ b ∧ b ≤ 1073741824) : ((Int.gcd a b : Nat) : Int) ≤ 1073741824 := by
  by_cases h0 : a = 0
  · subst h0; rw [Int.gcd_zero_left]; omega
  · have : Int.gcd a b ≤ a.natAbs := Nat.le_of_dvd (by omega) (Nat.gcd_dvd_left ..)
    omega
set_option maxRecDepth 20000 in
set_option maxHeartbeats 2000000 in
theorem pNormal_any (n c d : Int) (w : World) : Calls Try.prog 13 #[.int .i64 n, .int .i64 c, .int .i64 d] w fun e w' => e = .returned (.tuple #[.agg #[.int .i64 (nmR n c d).1.u, .int .i64 (nmR n c d).1.v, .int .i64 (nmR n c d).1.t], .int .i64 (nmR n c d).2]) ∧ Grow w w' := by
  obtain ⟨x, er, hx⟩ : ∃ x er, nmR n c d = (x, er) := ⟨_, _, rfl⟩
  rw [hx]
  show Calls Try.prog 13 #[.int .i64 n, .int .i64 c, .int .i64 d] w fun e w' => e = .returned (.tuple #[.agg #[.int .i64 x.u, .int .i64 x.v, .int .i64 x.t], .int .i64 er]) ∧ Grow w w'
  unfold nmR at hx
  by_cases hl : 1 ≤ n ∧ n ≤ 120
  · have LV := Lib.hid (fun u => level_any n u)
    rw [lvE_ok hl] at LV hx
    rw [if_neg (by simp)] at hx
    by_cases hc : inB c = true
    · by_cases hd : inB d = true
      · have c1 := inB_iff.1 hc
        have d1 := inB_iff.1 hd
        have IC := Lib.hid (fun u => pin_any c u)
        have ID := Lib.hid (fun u => pin_any d u)
        rw [hc, hd] at hx
        rw [hc] at IC
        rw [hd] at ID
        rw [if_neg (by simp)] at hx
        obtain ⟨g, hg⟩ : ∃ g : Nat, Int.gcd c d = g := ⟨_, rfl⟩
        have gl := gcd_lim c1 d1
        have GC := Lib.hid (fun u => gcd_quiet c d (by omega) (by omega) (by omega) (by omega) u)
        rw [hg] at GC gl hx
        obtain ⟨g2, hg2⟩ : ∃ g2 : Nat, Int.gcd (g : Int) n = g2 := ⟨_, rfl⟩
        have GD := Lib.hid (fun u => gcd_quiet (g : Int) n (by omega) (by omega) (by omega) (by omega) u)
        rw [hg2] at GD hx
        clear hg hg2 hc hd
        by_cases h1 : g2 = 1
        · rw [if_neg (by simpa using h1)] at hx
          have e1 : ((g2 : Int) != 1) = false := by simp; omega
          obtain ⟨rfl, rfl⟩ := Prod.mk.inj hx
          have m1 := Int.emod_nonneg c (b := n) (by omega)
          have m2 := Int.emod_lt_of_pos c (b := n) (by omega)
          have m3 := Int.emod_nonneg d (b := n) (by omega)
          have m4 := Int.emod_lt_of_pos d (b := n) (by omega)
          have RC := Lib.hid (fun u => res_any c n (by omega) (by omega) u)
          have RD := Lib.hid (fun u => res_any d n (by omega) (by omega) u)
          obtain ⟨p, hp⟩ : ∃ p, c % n = p := ⟨_, rfl⟩
          obtain ⟨q, hq⟩ : ∃ q, d % n = q := ⟨_, rfl⟩
          rw [hp] at m1 m2 RC ⊢
          rw [hq] at m3 m4 RD ⊢
          have NM := Lib.hid (fun u => pnormal_any n p q hl.1 hl.2 m1 m2 m3 m4 u)
          generalize normF n p q = y at NM ⊢
          clear hx hp hq h1 c1 d1 gl
          go_enter Try.func13, Try.ntmps13
          go_wp2_with (first
            | (go_at_call 30; (with_reducible refine (LV.out _).mono ?_); (rintro e w1 ⟨rfl, hb⟩; first | subst hb | skip))
            | (go_at_call 31; first | (with_reducible refine (IC.out _).mono ?_; rintro e w1 ⟨rfl, hb⟩; first | subst hb | skip) | (with_reducible refine (ID.out _).mono ?_; rintro e w1 ⟨rfl, hb⟩; first | subst hb | skip))
            | (go_at_call 34; first | (with_reducible refine (RC.out _).mono ?_; rintro e w1 ⟨rfl, hb⟩; first | subst hb | skip) | (with_reducible refine (RD.out _).mono ?_; rintro e w1 ⟨rfl, hb⟩; first | subst hb | skip))
            | (go_at_call 32; first | (with_reducible refine (GC.out _).mono ?_; rintro e w1 ⟨rfl, n1, rfl⟩) | (with_reducible refine (GD.out _).mono ?_; rintro e w1 ⟨rfl, n1, rfl⟩))
            | (go_at_call 33; (with_reducible refine (NM.out _).mono ?_); (rintro e w1 ⟨rfl, hb⟩; have hc := hb.cells; have hf := hb.frees; have hz := hb.size; (try simp at hz))))
          (try simp only [Exit.inBlock, Exit.then])
          refine bodyPost_ret (v := .tuple #[.agg #[.int .i64 y.u, .int .i64 y.v, .int .i64 y.t], .int .i64 0]) (by rw [results_cell_tmp rfl]; go_simp) rfl ⟨rfl, by (repeat (first | with_reducible exact Grow.refl _ | with_reducible refine Grow.alloc ?_ _ | with_reducible refine Grow.drew ?_ | with_reducible refine Grow.drewN ?_ _ | (with_reducible refine Grow.setCell ?_ ?hp _; (case hp => (simp; try omega))) | with_reducible refine Grow.trans ?_ (by assumption)))⟩
        · rw [if_pos (by simpa using h1)] at hx
          have e1 : ((g2 : Int) != 1) = true := by simp; omega
          obtain ⟨rfl, rfl⟩ := Prod.mk.inj hx
          clear hx h1 c1 d1 gl
          go_enter Try.func13, Try.ntmps13
          go_wp2_with (first
            | (go_at_call 30; (with_reducible refine (LV.out _).mono ?_); (rintro e w1 ⟨rfl, hb⟩; first | subst hb | skip))
            | (go_at_call 31; first | (with_reducible refine (IC.out _).mono ?_; rintro e w1 ⟨rfl, hb⟩; first | subst hb | skip) | (with_reducible refine (ID.out _).mono ?_; rintro e w1 ⟨rfl, hb⟩; first | subst hb | skip))
            | (go_at_call 32; first | (with_reducible refine (GC.out _).mono ?_; rintro e w1 ⟨rfl, n1, rfl⟩) | (with_reducible refine (GD.out _).mono ?_; rintro e w1 ⟨rfl, n1, rfl⟩)))
          (try simp only [Exit.inBlock, Exit.then])
          refine bodyPost_ret (v := .tuple #[.agg #[.int .i64 0, .int .i64 0, .int .i64 0], .int .i64 9]) (by rw [results_cell_tmp rfl]; go_simp) rfl ⟨rfl, by (repeat (first | with_reducible exact Grow.refl _ | with_reducible refine Grow.alloc ?_ _ | with_reducible refine Grow.drew ?_ | with_reducible refine Grow.drewN ?_ _ | (with_reducible refine Grow.setCell ?_ ?hp _; (case hp => (simp; try omega))) | with_reducible refine Grow.trans ?_ (by assumption)))⟩
      · have hd := Bool.not_eq_true _ ▸ hd
        have IC := Lib.hid (fun u => pin_any c u)
        have ID := Lib.hid (fun u => pin_any d u)
        rw [hc, hd] at hx
        rw [hc] at IC
        rw [hd] at ID
        rw [if_pos (by simp)] at hx
        obtain ⟨rfl, rfl⟩ := Prod.mk.inj hx
        clear hx
        go_enter Try.func13, Try.ntmps13
        go_wp2_with (first
          | (go_at_call 30; (with_reducible refine (LV.out _).mono ?_); (rintro e w1 ⟨rfl, hb⟩; first | subst hb | skip))
          | (go_at_call 31; first | (with_reducible refine (IC.out _).mono ?_; rintro e w1 ⟨rfl, hb⟩; first | subst hb | skip) | (with_reducible refine (ID.out _).mono ?_; rintro e w1 ⟨rfl, hb⟩; first | subst hb | skip))
          | (go_at_call 32; first | (with_reducible refine (GC.out _).mono ?_; rintro e w1 ⟨rfl, n1, rfl⟩) | (with_reducible refine (GD.out _).mono ?_; rintro e w1 ⟨rfl, n1, rfl⟩)))
        (try simp only [Exit.inBlock, Exit.then])
        refine bodyPost_ret (v := .tuple #[.agg #[.int .i64 0, .int .i64 0, .int .i64 0], .int .i64 2]) (by rw [results_cell_tmp rfl]; go_simp) rfl ⟨rfl, by (repeat (first | with_reducible exact Grow.refl _ | with_reducible refine Grow.alloc ?_ _ | with_reducible refine Grow.drew ?_ | with_reducible refine Grow.drewN ?_ _ | (with_reducible refine Grow.setCell ?_ ?hp _; (case hp => (simp; try omega))) | with_reducible refine Grow.trans ?_ (by assumption)))⟩
    · have hc := Bool.not_eq_true _ ▸ hc
      have IC := Lib.hid (fun u => pin_any c u)
      rw [hc] at hx IC
      rw [if_pos (by simp)] at hx
      obtain ⟨rfl, rfl⟩ := Prod.mk.inj hx
      clear hx
      go_enter Try.func13, Try.ntmps13
      go_wp2_with (first
        | (go_at_call 30; (with_reducible refine (LV.out _).mono ?_); (rintro e w1 ⟨rfl, hb⟩; first | subst hb | skip))
        | (go_at_call 31; first | (with_reducible refine (IC.out _).mono ?_; rintro e w1 ⟨rfl, hb⟩; first | subst hb | skip) | (with_reducible refine (ID.out _).mono ?_; rintro e w1 ⟨rfl, hb⟩; first | subst hb | skip))
        | (go_at_call 32; first | (with_reducible refine (GC.out _).mono ?_; rintro e w1 ⟨rfl, n1, rfl⟩) | (with_reducible refine (GD.out _).mono ?_; rintro e w1 ⟨rfl, n1, rfl⟩)))
      (try simp only [Exit.inBlock, Exit.then])
      refine bodyPost_ret (v := .tuple #[.agg #[.int .i64 0, .int .i64 0, .int .i64 0], .int .i64 2]) (by rw [results_cell_tmp rfl]; go_simp) rfl ⟨rfl, by (repeat (first | with_reducible exact Grow.refl _ | with_reducible refine Grow.alloc ?_ _ | with_reducible refine Grow.drew ?_ | with_reducible refine Grow.drewN ?_ _ | (with_reducible refine Grow.setCell ?_ ?hp _; (case hp => (simp; try omega))) | with_reducible refine Grow.trans ?_ (by assumption)))⟩
  · have LV := Lib.hid (fun u => level_any n u)
    rw [lvE_bad hl] at LV hx
    rw [if_pos (by simp)] at hx
    obtain ⟨rfl, rfl⟩ := Prod.mk.inj hx
    clear hx
    go_enter Try.func13, Try.ntmps13
    go_wp2_with (first
      | (go_at_call 30; (with_reducible refine (LV.out _).mono ?_); (rintro e w1 ⟨rfl, hb⟩; first | subst hb | skip))
      | (go_at_call 31; first | (with_reducible refine (IC.out _).mono ?_; rintro e w1 ⟨rfl, hb⟩; first | subst hb | skip) | (with_reducible refine (ID.out _).mono ?_; rintro e w1 ⟨rfl, hb⟩; first | subst hb | skip))
      | (go_at_call 32; first | (with_reducible refine (GC.out _).mono ?_; rintro e w1 ⟨rfl, n1, rfl⟩) | (with_reducible refine (GD.out _).mono ?_; rintro e w1 ⟨rfl, n1, rfl⟩)))
    (try simp only [Exit.inBlock, Exit.then])
    refine bodyPost_ret (v := .tuple #[.agg #[.int .i64 0, .int .i64 0, .int .i64 0], .int .i64 2]) (by rw [results_cell_tmp rfl]; go_simp) rfl ⟨rfl, by (repeat (first | with_reducible exact Grow.refl _ | with_reducible refine Grow.alloc ?_ _ | with_reducible refine Grow.drew ?_ | with_reducible refine Grow.drewN ?_ _ | (with_reducible refine Grow.setCell ?_ ?hp _; (case hp => (simp; try omega))) | with_reducible refine Grow.trans ?_ (by assumption)))⟩
set_option maxRecDepth 20000 in
set_option maxHeartbeats 2000000 in
theorem rNormal_any (n c d : Int) (w : World) : Calls Try.prog 14 #[.int .i64 n, .int .i64 c, .int .i64 d] w fun e w' => e = .returned (.tuple #[.agg #[.int .i64 (nmR n c d).1.u, .int .i64 (nmR n c d).1.v, .int .i64 (nmR n c d).1.t], .int .i64 (nmR n c d).2]) ∧ Grow w w' := by
  obtain ⟨x, er, hx⟩ : ∃ x er, nmR n c d = (x, er) := ⟨_, _, rfl⟩
  rw [hx]
  show Calls Try.prog 14 #[.int .i64 n, .int .i64 c, .int .i64 d] w fun e w' => e = .returned (.tuple #[.agg #[.int .i64 x.u, .int .i64 x.v, .int .i64 x.t], .int .i64 er]) ∧ Grow w w'
  unfold nmR at hx
  by_cases hl : 1 ≤ n ∧ n ≤ 120
  · have LV := Lib.hid (fun u => err_any n u)
    rw [lvE_ok hl] at LV hx
    rw [if_neg (by simp)] at hx
    by_cases hc : inB c = true
    · by_cases hd : inB d = true
      · have c1 := inB_iff.1 hc
        have d1 := inB_iff.1 hd
        have IC := Lib.hid (fun u => refIn_any c u)
        have ID := Lib.hid (fun u => refIn_any d u)
        rw [hc, hd] at hx
        rw [hc] at IC
        rw [hd] at ID
        rw [if_neg (by simp)] at hx
        obtain ⟨g, hg⟩ : ∃ g : Nat, Int.gcd c d = g := ⟨_, rfl⟩
        have gl := gcd_lim c1 d1
        have GC := Lib.hid (fun u => refGcd_quiet c d (by omega) (by omega) (by omega) (by omega) u)
        rw [hg] at GC gl hx
        obtain ⟨g2, hg2⟩ : ∃ g2 : Nat, Int.gcd (g : Int) n = g2 := ⟨_, rfl⟩
        have GD := Lib.hid (fun u => refGcd_quiet (g : Int) n (by omega) (by omega) (by omega) (by omega) u)
        rw [hg2] at GD hx
        clear hg hg2 hc hd
        by_cases h1 : g2 = 1
        · rw [if_neg (by simpa using h1)] at hx
          have e1 : ((g2 : Int) != 1) = false := by simp; omega
          obtain ⟨rfl, rfl⟩ := Prod.mk.inj hx
          have m1 := Int.emod_nonneg c (b := n) (by omega)
          have m2 := Int.emod_lt_of_pos c (b := n) (by omega)
          have m3 := Int.emod_nonneg d (b := n) (by omega)
          have m4 := Int.emod_lt_of_pos d (b := n) (by omega)
          have RC := Lib.hid (fun u => pmod_any c n (by omega) (by omega) u)
          have RD := Lib.hid (fun u => pmod_any d n (by omega) (by omega) u)
          obtain ⟨p, hp⟩ : ∃ p, c % n = p := ⟨_, rfl⟩
          obtain ⟨q, hq⟩ : ∃ q, d % n = q := ⟨_, rfl⟩
          rw [hp] at m1 m2 RC ⊢
          rw [hq] at m3 m4 RD ⊢
          have NM := Lib.hid (fun u => least_any n p q hl.1 hl.2 m1 m2 m3 m4 u)
          generalize normF n p q = y at NM ⊢
          clear hx hp hq h1 c1 d1 gl
          go_enter Try.func14, Try.ntmps14
          go_wp2_with (first
            | (go_at_call 35; (with_reducible refine (LV.out _).mono ?_); (rintro e w1 ⟨rfl, hb⟩; first | subst hb | skip))
            | (go_at_call 36; first | (with_reducible refine (IC.out _).mono ?_; rintro e w1 ⟨rfl, hb⟩; first | subst hb | skip) | (with_reducible refine (ID.out _).mono ?_; rintro e w1 ⟨rfl, hb⟩; first | subst hb | skip))
            | (go_at_call 27; first | (with_reducible refine (RC.out _).mono ?_; rintro e w1 ⟨rfl, hb⟩; first | subst hb | skip) | (with_reducible refine (RD.out _).mono ?_; rintro e w1 ⟨rfl, hb⟩; first | subst hb | skip))
            | (go_at_call 15; first | (with_reducible refine (GC.out _).mono ?_; rintro e w1 ⟨rfl, n1, rfl⟩) | (with_reducible refine (GD.out _).mono ?_; rintro e w1 ⟨rfl, n1, rfl⟩))
            | (go_at_call 37; (with_reducible refine (NM.out _).mono ?_); (rintro e w1 ⟨rfl, hb⟩; have hc := hb.cells; have hf := hb.frees; have hz := hb.size; (try simp at hz))))
          (try simp only [Exit.inBlock, Exit.then])
          refine bodyPost_ret (v := .tuple #[.agg #[.int .i64 y.u, .int .i64 y.v, .int .i64 y.t], .int .i64 0]) (by rw [results_cell_tmp rfl]; go_simp) rfl ⟨rfl, by (repeat (first | with_reducible exact Grow.refl _ | with_reducible refine Grow.alloc ?_ _ | with_reducible refine Grow.drew ?_ | with_reducible refine Grow.drewN ?_ _ | (with_reducible refine Grow.setCell ?_ ?hp _; (case hp => (simp; try omega))) | with_reducible refine Grow.trans ?_ (by assumption)))⟩
        · rw [if_pos (by simpa using h1)] at hx
          have e1 : ((g2 : Int) != 1) = true := by simp; omega
          obtain ⟨rfl, rfl⟩ := Prod.mk.inj hx
          clear hx h1 c1 d1 gl
          go_enter Try.func14, Try.ntmps14
          go_wp2_with (first
            | (go_at_call 35; (with_reducible refine (LV.out _).mono ?_); (rintro e w1 ⟨rfl, hb⟩; first | subst hb | skip))
            | (go_at_call 36; first | (with_reducible refine (IC.out _).mono ?_; rintro e w1 ⟨rfl, hb⟩; first | subst hb | skip) | (with_reducible refine (ID.out _).mono ?_; rintro e w1 ⟨rfl, hb⟩; first | subst hb | skip))
            | (go_at_call 15; first | (with_reducible refine (GC.out _).mono ?_; rintro e w1 ⟨rfl, n1, rfl⟩) | (with_reducible refine (GD.out _).mono ?_; rintro e w1 ⟨rfl, n1, rfl⟩)))
          (try simp only [Exit.inBlock, Exit.then])
          refine bodyPost_ret (v := .tuple #[.agg #[.int .i64 0, .int .i64 0, .int .i64 0], .int .i64 9]) (by rw [results_cell_tmp rfl]; go_simp) rfl ⟨rfl, by (repeat (first | with_reducible exact Grow.refl _ | with_reducible refine Grow.alloc ?_ _ | with_reducible refine Grow.drew ?_ | with_reducible refine Grow.drewN ?_ _ | (with_reducible refine Grow.setCell ?_ ?hp _; (case hp => (simp; try omega))) | with_reducible refine Grow.trans ?_ (by assumption)))⟩
      · have hd := Bool.not_eq_true _ ▸ hd
        have IC := Lib.hid (fun u => refIn_any c u)
        have ID := Lib.hid (fun u => refIn_any d u)
        rw [hc, hd] at hx
        rw [hc] at IC
        rw [hd] at ID
        rw [if_pos (by simp)] at hx
        obtain ⟨rfl, rfl⟩ := Prod.mk.inj hx
        clear hx
        go_enter Try.func14, Try.ntmps14
        go_wp2_with (first
          | (go_at_call 35; (with_reducible refine (LV.out _).mono ?_); (rintro e w1 ⟨rfl, hb⟩; first | subst hb | skip))
          | (go_at_call 36; first | (with_reducible refine (IC.out _).mono ?_; rintro e w1 ⟨rfl, hb⟩; first | subst hb | skip) | (with_reducible refine (ID.out _).mono ?_; rintro e w1 ⟨rfl, hb⟩; first | subst hb | skip))
          | (go_at_call 15; first | (with_reducible refine (GC.out _).mono ?_; rintro e w1 ⟨rfl, n1, rfl⟩) | (with_reducible refine (GD.out _).mono ?_; rintro e w1 ⟨rfl, n1, rfl⟩)))
        (try simp only [Exit.inBlock, Exit.then])
        refine bodyPost_ret (v := .tuple #[.agg #[.int .i64 0, .int .i64 0, .int .i64 0], .int .i64 2]) (by rw [results_cell_tmp rfl]; go_simp) rfl ⟨rfl, by (repeat (first | with_reducible exact Grow.refl _ | with_reducible refine Grow.alloc ?_ _ | with_reducible refine Grow.drew ?_ | with_reducible refine Grow.drewN ?_ _ | (with_reducible refine Grow.setCell ?_ ?hp _; (case hp => (simp; try omega))) | with_reducible refine Grow.trans ?_ (by assumption)))⟩
    · have hc := Bool.not_eq_true _ ▸ hc
      have IC := Lib.hid (fun u => refIn_any c u)
      rw [hc] at hx IC
      rw [if_pos (by simp)] at hx
      obtain ⟨rfl, rfl⟩ := Prod.mk.inj hx
      clear hx
      go_enter Try.func14, Try.ntmps14
      go_wp2_with (first
        | (go_at_call 35; (with_reducible refine (LV.out _).mono ?_); (rintro e w1 ⟨rfl, hb⟩; first | subst hb | skip))
        | (go_at_call 36; first | (with_reducible refine (IC.out _).mono ?_; rintro e w1 ⟨rfl, hb⟩; first | subst hb | skip) | (with_reducible refine (ID.out _).mono ?_; rintro e w1 ⟨rfl, hb⟩; first | subst hb | skip))
        | (go_at_call 15; first | (with_reducible refine (GC.out _).mono ?_; rintro e w1 ⟨rfl, n1, rfl⟩) | (with_reducible refine (GD.out _).mono ?_; rintro e w1 ⟨rfl, n1, rfl⟩)))
      (try simp only [Exit.inBlock, Exit.then])
      refine bodyPost_ret (v := .tuple #[.agg #[.int .i64 0, .int .i64 0, .int .i64 0], .int .i64 2]) (by rw [results_cell_tmp rfl]; go_simp) rfl ⟨rfl, by (repeat (first | with_reducible exact Grow.refl _ | with_reducible refine Grow.alloc ?_ _ | with_reducible refine Grow.drew ?_ | with_reducible refine Grow.drewN ?_ _ | (with_reducible refine Grow.setCell ?_ ?hp _; (case hp => (simp; try omega))) | with_reducible refine Grow.trans ?_ (by assumption)))⟩
  · have LV := Lib.hid (fun u => err_any n u)
    rw [lvE_bad hl] at LV hx
    rw [if_pos (by simp)] at hx
    obtain ⟨rfl, rfl⟩ := Prod.mk.inj hx
    clear hx
    go_enter Try.func14, Try.ntmps14
    go_wp2_with (first
      | (go_at_call 35; (with_reducible refine (LV.out _).mono ?_); (rintro e w1 ⟨rfl, hb⟩; first | subst hb | skip))
      | (go_at_call 36; first | (with_reducible refine (IC.out _).mono ?_; rintro e w1 ⟨rfl, hb⟩; first | subst hb | skip) | (with_reducible refine (ID.out _).mono ?_; rintro e w1 ⟨rfl, hb⟩; first | subst hb | skip))
      | (go_at_call 15; first | (with_reducible refine (GC.out _).mono ?_; rintro e w1 ⟨rfl, n1, rfl⟩) | (with_reducible refine (GD.out _).mono ?_; rintro e w1 ⟨rfl, n1, rfl⟩)))
    (try simp only [Exit.inBlock, Exit.then])
    refine bodyPost_ret (v := .tuple #[.agg #[.int .i64 0, .int .i64 0, .int .i64 0], .int .i64 2]) (by rw [results_cell_tmp rfl]; go_simp) rfl ⟨rfl, by (repeat (first | with_reducible exact Grow.refl _ | with_reducible refine Grow.alloc ?_ _ | with_reducible refine Grow.drew ?_ | with_reducible refine Grow.drewN ?_ _ | (with_reducible refine Grow.setCell ?_ ?hp _; (case hp => (simp; try omega))) | with_reducible refine Grow.trans ?_ (by assumption)))⟩
end Go.Proofs.Ytcgiancmponmgaa
