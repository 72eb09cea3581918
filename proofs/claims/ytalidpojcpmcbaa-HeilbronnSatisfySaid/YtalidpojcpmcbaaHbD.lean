/- Walks: floor, next, prime; the program's and the reference's. -/
import Derived.Test.YtalidpojcpmcbaaProg
import Derived.Test.YtalidpojcpmcbaaHbQ
import Derived.Test.YtalidpojcpmcbaaSlA
import Derived.Deep.LoopGhost
namespace Go.Proofs.Ytalidpojcpmcbaa
open Go Go.RowKit

def prP : Nat → Int → Int → Bool
  | 0, _, _ => true
  | f + 1, n, d => if d * d ≤ n then (if n.tmod d = 0 then false else prP f n (d + 1)) else true
def prR : Nat → Int → Int → Bool
  | 0, _, _ => true
  | f + 1, n, d => if d < n then (if n.tmod d = 0 then false else prR f n (d + 1)) else decide (1 < n)
def prF (n : Int) : Bool := if n < 2 then false else prP 140 n 2
def prAll : Nat → Bool
  | 0 => true
  | k + 1 => (prF (Int.ofNat (k + 1)) == prR 140 (Int.ofNat (k + 1)) 2) && prAll k
theorem pr_table : prAll 128 = true := by decide +kernel
theorem prAll_at : ∀ (m k : Nat), prAll m = true → 1 ≤ k → k ≤ m → prF (k : Nat) = prR 140 (k : Nat) 2
  | 0, k, _, h1, h2 => by omega
  | m + 1, k, h, h1, h2 => by
    simp only [prAll, Bool.and_eq_true, beq_iff_eq] at h
    by_cases hk : k = m + 1
    · subst hk; exact h.1
    · exact prAll_at m k h.2 h1 (by omega)
theorem crAll_at : ∀ (m k : Nat), crAll m = true → 1 ≤ k → k ≤ m → crROk 200 (k : Nat) ((-((k : Nat) - 1 : Int)).tdiv 2) = true
  | 0, k, _, h1, h2 => by omega
  | m + 1, k, h, h1, h2 => by
    simp only [crAll, Bool.and_eq_true] at h
    by_cases hk : k = m + 1
    · subst hk; exact h.1
    · exact crAll_at m k h.2 h1 (by omega)

set_option maxHeartbeats 1000000 in
theorem floor_any (a b : Int) (ha : -1000000 ≤ a) (ha' : a ≤ 1000000) (h0 : b ≠ 0) (w : World) :
    Calls Try.prog 24 #[.int .i64 a, .int .i64 b] w fun e w' => e = .returned (.int .i64 (flF a b)) ∧ w = w' := by
  have hf := fl_prog (a := a) h0
  have hm : (a.tmod b).natAbs ≤ a.natAbs := by rw [Int.natAbs_tmod]; exact Nat.mod_le _ _
  have ht : (a.tdiv b).natAbs ≤ a.natAbs := by rw [Int.natAbs_tdiv]; exact Nat.div_le_self _ _
  have hbb : (b == 0) = false := by simpa using h0
  obtain ⟨m, hm2⟩ : ∃ m, a.tmod b = m := ⟨_, rfl⟩
  obtain ⟨t, ht2⟩ : ∃ t, a.tdiv b = t := ⟨_, rfl⟩
  rw [hm2] at hm hf
  rw [ht2] at ht hf
  have y1 : IntKind.i64.wrap t = t := IntWalk.i64_in _ (by omega)
  have y2 : IntKind.i64.wrap (t - 1) = t - 1 := IntWalk.i64_in _ (by omega)
  have y3 : IntKind.i64.wrap m = m := IntWalk.i64_in _ (by omega)
  obtain ⟨F, hF⟩ : ∃ F, flF a b = F := ⟨_, rfl⟩
  rw [hF] at hf ⊢
  clear hF ha ha' hm ht
  by_cases hm0 : m = 0
  · have e1 : (m == 0) = true := by simpa using hm0
    have e2 : (m != 0) = false := by simpa using hm0
    rw [if_neg (by simp [hm0])] at hf
    have HF := Lib.hid hf
    clear hm0 hf
    go_enter Try.func24, Try.ntmps24
    go_wp2_with fail
    go_ret
    exact ⟨congrArg (fun z => Ending.returned (Value.int .i64 z)) HF.out.symm, rfl⟩
  · have e1 : (m == 0) = false := by simpa using hm0
    have e2 : (m != 0) = true := by simpa using hm0
    by_cases ha : a < 0
    · by_cases hb : b < 0
      · rw [if_neg (by simp [ha, hb])] at hf
        have HF := Lib.hid hf
        clear hm0 hf
        go_enter Try.func24, Try.ntmps24
        go_wp2_with fail
        go_ret
        exact ⟨congrArg (fun z => Ending.returned (Value.int .i64 z)) HF.out.symm, rfl⟩
      · rw [if_pos ⟨hm0, by simp [ha, hb]⟩] at hf
        have HF := Lib.hid hf
        clear hm0 hf
        go_enter Try.func24, Try.ntmps24
        go_wp2_with fail
        go_ret
        exact ⟨congrArg (fun z => Ending.returned (Value.int .i64 z)) HF.out.symm, rfl⟩
    · by_cases hb : b < 0
      · rw [if_pos ⟨hm0, by simp [ha, hb]⟩] at hf
        have HF := Lib.hid hf
        clear hm0 hf
        go_enter Try.func24, Try.ntmps24
        go_wp2_with fail
        go_ret
        exact ⟨congrArg (fun z => Ending.returned (Value.int .i64 z)) HF.out.symm, rfl⟩
      · rw [if_neg (by simp [ha, hb])] at hf
        have HF := Lib.hid hf
        clear hm0 hf
        go_enter Try.func24, Try.ntmps24
        go_wp2_with fail
        go_ret
        exact ⟨congrArg (fun z => Ending.returned (Value.int .i64 z)) HF.out.symm, rfl⟩

theorem smM_iff {m : M2} : smM m = true ↔ (-100000 ≤ m.a ∧ m.a ≤ 100000) ∧ (-100000 ≤ m.b ∧ m.b ≤ 100000) ∧ (-100000 ≤ m.c ∧ m.c ≤ 100000) ∧ (-100000 ≤ m.d ∧ m.d ≤ 100000) := by simp [smM, and_assoc]
theorem next_any (m : M2) (q : Int) (hm : smM m = true) (hq : -10000 ≤ q) (hq' : q ≤ 10000) (w : World) :
    Calls Try.prog 25 #[.agg #[.int .i64 m.a, .int .i64 m.b, .int .i64 m.c, .int .i64 m.d], .int .i64 q] w fun e w' => e = .returned (.agg #[.int .i64 (nxF m q).a, .int .i64 (nxF m q).b, .int .i64 (nxF m q).c, .int .i64 (nxF m q).d]) ∧ Grow w w' := by
  obtain ⟨⟨a1, a2⟩, ⟨b1, b2⟩, ⟨c1, c2⟩, d1, d2⟩ := smM_iff.1 hm
  obtain ⟨p1, p2⟩ := mul_bd (a := q) (x := m.b) 10000 100000 hq hq' b1 b2
  obtain ⟨p3, p4⟩ := mul_bd (a := q) (x := m.d) 10000 100000 hq hq' d1 d2
  have y1 : IntKind.i64.wrap (q * m.b) = q * m.b := IntWalk.i64_in _ (by omega)
  have y2 : IntKind.i64.wrap (q * m.d) = q * m.d := IntWalk.i64_in _ (by omega)
  have y3 : IntKind.i64.wrap (q * m.b - m.a) = q * m.b - m.a := IntWalk.i64_in _ (by omega)
  have y4 : IntKind.i64.wrap (q * m.d - m.c) = q * m.d - m.c := IntWalk.i64_in _ (by omega)
  simp only [nxF]
  clear p1 p2 p3 p4 a1 a2 b1 b2 c1 c2 d1 d2 hm hq hq'
  go_enter Try.func25, Try.ntmps25
  go_wp2_with fail
  exact bodyPost_ret (v := .agg #[.int .i64 m.b, .int .i64 (q * m.b - m.a), .int .i64 m.d, .int .i64 (q * m.d - m.c)]) (by simp only [results, Try.results25]; go_simp) rfl ⟨rfl, by (repeat (first | with_reducible exact Grow.refl _ | with_reducible refine Grow.alloc ?_ _ | with_reducible refine Grow.drew ?_ | with_reducible refine Grow.drewN ?_ _ | (with_reducible refine Grow.setCell ?_ ?hp _; (case hp => (simp; try omega))) | with_reducible refine Grow.trans ?_ (by assumption)))⟩
theorem refnext_any (m : M2) (q : Int) (hm : smM m = true) (hq : -10000 ≤ q) (hq' : q ≤ 10000) (w : World) :
    Calls Try.prog 28 #[.agg #[.int .i64 m.a, .int .i64 m.b, .int .i64 m.c, .int .i64 m.d], .int .i64 q] w fun e w' => e = .returned (.agg #[.int .i64 (nxF m q).a, .int .i64 (nxF m q).b, .int .i64 (nxF m q).c, .int .i64 (nxF m q).d]) ∧ Grow w w' := by
  obtain ⟨⟨a1, a2⟩, ⟨b1, b2⟩, ⟨c1, c2⟩, d1, d2⟩ := smM_iff.1 hm
  obtain ⟨p1, p2⟩ := mul_bd (a := q) (x := m.b) 10000 100000 hq hq' b1 b2
  obtain ⟨p3, p4⟩ := mul_bd (a := q) (x := m.d) 10000 100000 hq hq' d1 d2
  have y1 : IntKind.i64.wrap (q * m.b) = q * m.b := IntWalk.i64_in _ (by omega)
  have y2 : IntKind.i64.wrap (q * m.d) = q * m.d := IntWalk.i64_in _ (by omega)
  have y3 : IntKind.i64.wrap (q * m.b - m.a) = q * m.b - m.a := IntWalk.i64_in _ (by omega)
  have y4 : IntKind.i64.wrap (q * m.d - m.c) = q * m.d - m.c := IntWalk.i64_in _ (by omega)
  simp only [nxF]
  clear p1 p2 p3 p4 a1 a2 b1 b2 c1 c2 d1 d2 hm hq hq'
  go_enter Try.func28, Try.ntmps28
  go_wp2_with fail
  exact bodyPost_ret (v := .agg #[.int .i64 m.b, .int .i64 (q * m.b - m.a), .int .i64 m.d, .int .i64 (q * m.d - m.c)]) (by simp only [results, Try.results28]; go_simp) rfl ⟨rfl, by (repeat (first | with_reducible exact Grow.refl _ | with_reducible refine Grow.alloc ?_ _ | with_reducible refine Grow.drew ?_ | with_reducible refine Grow.drewN ?_ _ | (with_reducible refine Grow.setCell ?_ ?hp _; (case hp => (simp; try omega))) | with_reducible refine Grow.trans ?_ (by assumption)))⟩

theorem divB_step {p q : Int} (hq : 0 < q) : (p - p % q).tdiv q = p / q := by
  have h1 : p - p % q = q * (p / q) := by have := Int.emod_add_mul_ediv p q; omega
  rw [h1, Int.mul_tdiv_cancel_left _ (by omega)]
theorem remB_step {p q : Int} (hq : 0 < q) : (if p.tmod q < 0 then p.tmod q + q else p.tmod q) = p % q := by
  have h1 := Int.tmod_lt_of_pos p hq
  have h2 := Int.lt_tmod_of_pos p hq
  have h3 : p.tmod q = p - q * p.tdiv q := by have := Int.tmod_add_mul_tdiv p q; omega
  have key : ∀ r k : Int, p = r + q * k → 0 ≤ r → r < q → r = p % q := by
    intro r k h h1 h2
    rw [h, Int.add_mul_emod_self_left, Int.emod_eq_of_lt h1 h2]
  split
  · refine key _ (p.tdiv q - 1) ?_ (by omega) (by omega)
    rw [Int.mul_sub]; omega
  · exact key _ (p.tdiv q) (by omega) (by omega) (by omega)
theorem mod_any (a b : Int) (hb : 0 < b) (hb' : b ≤ 1000000) (w : World) :
    Calls Try.prog 35 #[.int .i64 a, .int .i64 b] w fun e w' => e = .returned (.int .i64 (a % b)) ∧ w = w' := by
  have e0 : ¬ b = 0 := by omega
  have e1 : (b == 0) = false := by simpa using e0
  have t1 := Int.tmod_lt_of_pos a hb
  have t2 := Int.lt_tmod_of_pos a hb
  have HR := Lib.hid (remB_step (p := a) hb)
  by_cases hr : a.tmod b < 0
  · have hs := HR.out
    rw [if_pos hr] at hs
    have y1 : IntKind.i64.wrap (a.tmod b + b) = a.tmod b + b := IntWalk.i64_in _ (by omega)
    have HS := Lib.hid hs
    clear hs
    go_enter Try.func35, Try.ntmps35
    go_wp2_with fail
    go_ret
    exact ⟨congrArg (fun z => Ending.returned (Value.int .i64 z)) HS.out, rfl⟩
  · have hs := HR.out
    rw [if_neg hr] at hs
    have HS := Lib.hid hs
    clear hs
    go_enter Try.func35, Try.ntmps35
    go_wp2_with fail
    go_ret
    exact ⟨congrArg (fun z => Ending.returned (Value.int .i64 z)) HS.out, rfl⟩
set_option maxHeartbeats 1000000 in
theorem refFloor_any (a b : Int) (ha : -1000000 ≤ a) (ha' : a ≤ 1000000) (hb : -1000000 ≤ b) (hb' : b ≤ 1000000) (h0 : b ≠ 0) (w : World) :
    Calls Try.prog 27 #[.int .i64 a, .int .i64 b] w fun e w' => e = .returned (.int .i64 (flF a b)) ∧ w = w' := by
  by_cases hb0 : b < 0
  · have hu : flF a b = (-a) / (-b) := by unfold flF; rw [if_pos hb0]
    rw [hu]
    have y1 : IntKind.i64.wrap (-a) = -a := IntWalk.i64_in _ (by omega)
    have y2 : IntKind.i64.wrap (-b) = -b := IntWalk.i64_in _ (by omega)
    obtain ⟨A, hA⟩ : ∃ A, -a = A := ⟨_, rfl⟩
    obtain ⟨B, hB⟩ : ∃ B, -b = B := ⟨_, rfl⟩
    have hBp : 0 < B := by omega
    have MD := Lib.hid (fun w => mod_any A B hBp (by omega) w)
    have r0 := Int.emod_nonneg A (by omega : B ≠ 0)
    have r1 := Int.emod_lt_of_pos A hBp
    have hdv := divB_step (p := A) hBp
    have hBne : ¬ B = 0 := by omega
    have hBneb : (B == 0) = false := by simpa using hBne
    obtain ⟨r, hr⟩ : ∃ r, A % B = r := ⟨_, rfl⟩
    rw [hr] at MD r0 r1 hdv
    have hq : ((A - r).tdiv B).natAbs ≤ (A - r).natAbs := by rw [Int.natAbs_tdiv]; exact Nat.div_le_self _ _
    rw [hdv] at hq
    obtain ⟨F, hF⟩ : ∃ F, A / B = F := ⟨_, rfl⟩
    rw [hA, hB, hF]
    rw [hF] at hdv hq
    rw [hA] at y1
    rw [hB] at y2
    have y3 : IntKind.i64.wrap (A - r) = A - r := IntWalk.i64_in _ (by omega)
    have y4 : IntKind.i64.wrap F = F := IntWalk.i64_in _ (by omega)
    clear hF hr hq
    go_enter Try.func27, Try.ntmps27
    go_wp2_with (go_at_call 35; refine (MD.out _).mono ?_; rintro e w1 ⟨rfl, rfl⟩)
    go_ret
    exact ⟨rfl, rfl⟩
  · have hu : flF a b = a / b := by unfold flF; rw [if_neg hb0]
    rw [hu]
    have hbp : 0 < b := by omega
    have MD := Lib.hid (fun w => mod_any a b hbp (by omega) w)
    have r0 := Int.emod_nonneg a h0
    have r1 := Int.emod_lt_of_pos a hbp
    have hdv := divB_step (p := a) hbp
    have hbneb : (b == 0) = false := by simpa using h0
    obtain ⟨r, hr⟩ : ∃ r, a % b = r := ⟨_, rfl⟩
    rw [hr] at MD r0 r1 hdv
    have hq : ((a - r).tdiv b).natAbs ≤ (a - r).natAbs := by rw [Int.natAbs_tdiv]; exact Nat.div_le_self _ _
    rw [hdv] at hq
    obtain ⟨F, hF⟩ : ∃ F, a / b = F := ⟨_, rfl⟩
    rw [hF]
    rw [hF] at hdv hq
    have y3 : IntKind.i64.wrap (a - r) = a - r := IntWalk.i64_in _ (by omega)
    have y4 : IntKind.i64.wrap F = F := IntWalk.i64_in _ (by omega)
    clear hF hr hq
    go_enter Try.func27, Try.ntmps27
    go_wp2_with (go_at_call 35; refine (MD.out _).mono ?_; rintro e w1 ⟨rfl, rfl⟩)
    go_ret
    exact ⟨rfl, rfl⟩
end Go.Proofs.Ytalidpojcpmcbaa
