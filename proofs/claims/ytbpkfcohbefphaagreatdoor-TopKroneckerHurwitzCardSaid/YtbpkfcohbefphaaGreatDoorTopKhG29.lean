/- Lemmas, plain laws and walks that the statement LwKronecker leans on (texts KrA, OrA), conditions as each theorem says. -/
import Derived.Lib.TrailingZeros
import Derived.Laws.Bits64b
import Derived.Test.YtbpkfcohbefphaaGreatDoorTopKhG18
import Derived.Test.YtbpkfcohbefphaaGreatDoorTopKhG19
import Derived.Test.YtbpkfcohbefphaaGreatDoorTopKhG20
import Derived.Test.YtbpkfcohbefphaaGreatDoorTopKhG28

namespace Go.Proofs.YtbpkfcohbefphaaGreatDoor
open Go Go.RowKit
/-- The library's table of trailing zeros. -/
def TabB (w : World) : Prop := 0 < w.heap.size ∧ ∀ j, j < 64 → w.cell? ⟨0, j, none⟩ = some (.int .u8 ((Lib.deBruijn64tab.getD j 0 : Nat) : Int))
theorem TabB.grow {w w' : World} (h : TabB w) (hg : Grow w w') : TabB w' :=
  ⟨Nat.lt_of_lt_of_le h.1 hg.size, fun j hj => (hg.cells _ _ h.1).trans (h.2 j hj)⟩
theorem tz_idx (x a : Nat) (hx : x < 18446744073709551616) (hx0 : x ≠ 0) (hlow : x &&& (18446744073709551616 - x) = a) :
    IntKind.u64.wrap (bits BinOp.and IntKind.u64 (x : Int) (IntKind.u64.wrap (-(x : Int))) * 285870213051353865) / 288230376151711744 = ((a * 285870213051353865 % 18446744073709551616 / 288230376151711744 : Nat) : Int) := by
  have e1 : IntKind.u64.wrap (-(x : Int)) = ((18446744073709551616 - x : Nat) : Int) := by rw [IntKind.wrap_u64]; omega
  rw [e1, bits_and_u64_nat x _ hx (by omega), hlow, IntKind.wrap_u64]
  omega
set_option maxHeartbeats 4000000 in
theorem tz_core (x k idx : Nat) (w : World) (hx0 : ((x : Int) == 0) = false)
    (key : IntKind.u64.wrap (bits BinOp.and IntKind.u64 (x : Int) (IntKind.u64.wrap (-(x : Int))) * 285870213051353865) / 288230376151711744 = (idx : Int))
    (hi : idx < 64) (hk : k < 64) (hcell : w.cell? ⟨0, idx, none⟩ = some (.int .u8 (k : Int))) :
    Calls Tryz.prog 59 #[.int .u64 (x : Int)] w fun e w' => e = .returned (.int .i64 (k : Int)) ∧ w = w' := by
  go_enter Tryz.func59, Tryz.ntmps59
  go_wp2_with (simp only [key])
  go_ret
  exact ⟨rfl, rfl⟩
theorem tzQ (x : Nat) (hx : x < 18446744073709551616) (hx0 : x ≠ 0) (w : World) (hT : TabB w) :
    Calls Tryz.prog 59 #[.int .u64 (x : Int)] w fun e w' => e = .returned (.int .i64 ((Lib.ctz 64 x : Nat) : Int)) ∧ w = w' := by
  obtain ⟨hlow, hk⟩ := Lib.lowest_bit 64 x hx0 hx
  obtain ⟨hi, htab⟩ := Lib.deBruijn64_at _ hk
  have hcell := hT.2 _ hi
  rw [htab] at hcell
  exact tz_core x _ _ w (by simp; omega) (tz_idx x _ hx hx0 hlow) hi hk hcell
/-- One step's change of sign. -/
def jcS1 (z m : Nat) (o : Int) : Int := if z % 2 = 1 ∧ (m % 8 = 3 ∨ m % 8 = 5) then -o else o
def jcS2 (a m : Nat) (o : Int) : Int := if a % 4 = 3 ∧ m % 4 = 3 then -o else o
/-- The Jacobi symbol, step by step. -/
def jcL : Nat → Nat → Nat → Int → Int
  | 0, _, m, o => if m = 1 then o else 0
  | f + 1, a, m, o => if a = 0 then (if m = 1 then o else 0) else
      jcL f (m % (a / 2 ^ Lib.ctz 64 a)) (a / 2 ^ Lib.ctz 64 a) (jcS2 (a / 2 ^ Lib.ctz 64 a) m (jcS1 (Lib.ctz 64 a) m o))
def jcN (a m : Nat) : Int := jcL a a m 1
theorem jcL_zero (f m : Nat) (o : Int) : jcL f 0 m o = if m = 1 then o else 0 := by cases f <;> rfl
theorem jcS1_pm {z m : Nat} {o : Int} (h : o = 1 ∨ o = -1) : jcS1 z m o = 1 ∨ jcS1 z m o = -1 := by unfold jcS1; split <;> omega
theorem jcS2_pm {a m : Nat} {o : Int} (h : o = 1 ∨ o = -1) : jcS2 a m o = 1 ∨ jcS2 a m o = -1 := by unfold jcS2; split <;> omega
theorem jcL_abs : ∀ (f a m : Nat) (o : Int), (o = 1 ∨ o = -1) → (jcL f a m o).natAbs ≤ 1
  | 0, a, m, o, h => by unfold jcL; split <;> omega
  | f + 1, a, m, o, h => by
    unfold jcL
    split
    · split <;> omega
    · exact jcL_abs f _ _ _ (jcS2_pm (jcS1_pm h))
theorem jcN_abs (a m : Nat) : (jcN a m).natAbs ≤ 1 := jcL_abs _ _ _ _ (.inl rfl)
theorem ctz_tab : ∀ x, x < 128 → x ≠ 0 → 1 ≤ x / 2 ^ Lib.ctz 64 x ∧ x / 2 ^ Lib.ctz 64 x ≤ x ∧ Lib.ctz 64 x < 64 := by decide +kernel
set_option maxRecDepth 20000 in
set_option maxHeartbeats 8000000 in
theorem jacobiQ (a m : Nat) (ha : a < 128) (hm : m < 128) (w : World) (hT : TabB w) : Calls Tryz.prog 61 #[.int .u64 (a : Int), .int .u64 (m : Int)] w fun e w' => e = .returned (.int .i64 (jcN a m)) ∧ w = w' := by
  obtain ⟨R, hR⟩ : ∃ R, jcL a a m 1 = R := ⟨_, rfl⟩
  have hjc : jcN a m = R := hR
  rw [hjc]
  have TZ := Lib.hid (fun x (hx : x < 128) (h0 : x ≠ 0) => tzQ x (by omega) h0 w hT)
  have HR := Lib.hid hR
  clear hR hjc hT
  go_enter Tryz.func61, Tryz.ntmps61
  go_wp2_with fail
  go_loopg [0, 1, 5] a (fun gk t0 t1 t5 wr => ∃ (x y : Nat) (o : Int), t0 = .int .u64 (x : Int) ∧ t1 = .int .u64 (y : Int) ∧ t5 = .int .i64 o ∧ x < 128 ∧ y < 128 ∧ x ≤ gk ∧ Hid (o = 1 ∨ o = -1) ∧ Hid (jcL gk x y o = R) ∧ wr = w)
  case atStart => exact ⟨a, m, 1, rfl, rfl, rfl, ha, hm, Nat.le_refl _, Lib.hid (.inl rfl), HR, rfl⟩
  case round =>
    obtain ⟨x, y, o, rfl, rfl, rfl, hx, hy, hxk, HO, HJ, rfl⟩ := hrel
    by_cases hx0 : x = 0
    · subst hx0
      have hj := HJ.out
      rw [jcL_zero] at hj
      by_cases hy1 : y = 1
      · subst hy1
        rw [if_pos rfl] at hj
        have HJ2 := Lib.hid hj
        clear hj
        go_wp2_with fail
        go_ret
        exact ⟨by rw [HJ2.out]; rfl, rfl⟩
      · have hyb : ((y : Int) != 1) = true := by simp; omega
        rw [if_neg hy1] at hj
        have HJ2 := Lib.hid hj
        clear hj
        go_wp2_with fail
        go_ret
        exact ⟨by rw [← HJ2.out]; rfl, rfl⟩
    · obtain ⟨q1, q2, q3⟩ := ctz_tab x hx hx0
      obtain ⟨g, hg⟩ : ∃ g, gk = g + 1 := ⟨gk - 1, by omega⟩
      have hj := HJ.out
      rw [hg] at hj
      unfold jcL at hj
      rw [if_neg hx0] at hj
      have TZX := Lib.hid (TZ.out x hx hx0)
      obtain ⟨z, hz⟩ : ∃ z, Lib.ctz 64 x = z := ⟨_, rfl⟩
      rw [hz] at hj q1 q2 q3 TZX
      obtain ⟨x1, hx1⟩ : ∃ x1, x / 2 ^ z = x1 := ⟨_, rfl⟩
      rw [hx1] at hj q1 q2
      have E1 : Hid ((x : Int) / 2 ^ ((z : Int)).toNat = (x1 : Int) ∧ (x : Int) / 2 ^ z = (x1 : Int)) := Lib.hid (by
        have e : (x : Int) / 2 ^ z = (x1 : Int) := by rw [← hx1]; simp
        exact ⟨by rw [Int.toNat_natCast]; exact e, e⟩)
      obtain ⟨r, hr⟩ : ∃ r, z % 2 = r := ⟨_, rfl⟩
      obtain ⟨y8, hy8⟩ : ∃ y8, y % 8 = y8 := ⟨_, rfl⟩
      obtain ⟨y4, hy4⟩ : ∃ y4, y % 4 = y4 := ⟨_, rfl⟩
      obtain ⟨x4, hx4⟩ : ∃ x4, x1 % 4 = x4 := ⟨_, rfl⟩
      obtain ⟨y', hy'⟩ : ∃ y', y % x1 = y' := ⟨_, rfl⟩
      have T1 : Hid (Int.tmod (z : Int) 2 = (r : Int) ∧ (z : Int) % 2 = (r : Int)) := Lib.hid (by rw [Int.tmod_eq_emod_of_nonneg (by omega)]; omega)
      have T2 : Hid (Int.tmod (y : Int) 8 = (y8 : Int) ∧ (y : Int) % 8 = (y8 : Int)) := Lib.hid (by rw [Int.tmod_eq_emod_of_nonneg (by omega)]; omega)
      have T3 : Hid (Int.tmod (x1 : Int) 4 = (x4 : Int) ∧ (x1 : Int) % 4 = (x4 : Int)) := Lib.hid (by rw [Int.tmod_eq_emod_of_nonneg (by omega)]; omega)
      have T4 : Hid (Int.tmod (y : Int) 4 = (y4 : Int) ∧ (y : Int) % 4 = (y4 : Int)) := Lib.hid (by rw [Int.tmod_eq_emod_of_nonneg (by omega)]; omega)
      have T5 : Hid (Int.tmod (y : Int) (x1 : Int) = (y' : Int) ∧ (y : Int) % (x1 : Int) = (y' : Int)) := Lib.hid (by rw [Int.tmod_eq_emod_of_nonneg (by omega), ← hy']; simp)
      obtain ⟨o1, ho1⟩ : ∃ o1, jcS1 z y o = o1 := ⟨_, rfl⟩
      obtain ⟨o2, ho2⟩ : ∃ o2, jcS2 x1 y o1 = o2 := ⟨_, rfl⟩
      rw [hy', ho1, ho2] at hj
      have hp1 : o1 = 1 ∨ o1 = -1 := by rw [← ho1]; exact jcS1_pm HO.out
      have hp2 : o2 = 1 ∨ o2 = -1 := by rw [← ho2]; exact jcS2_pm hp1
      have hA : (r = 0 ∧ o1 = o) ∨ (r = 1 ∧ y8 = 3 ∧ o1 = -o) ∨ (r = 1 ∧ y8 = 5 ∧ o1 = -o) ∨ (r = 1 ∧ (y8 ≠ 3 ∧ y8 ≠ 5) ∧ o1 = o) := by
        unfold jcS1 at ho1
        rw [hr, hy8] at ho1
        by_cases h1 : r = 1
        · by_cases h2 : y8 = 3
          · rw [if_pos ⟨h1, .inl h2⟩] at ho1; exact .inr (.inl ⟨h1, h2, ho1.symm⟩)
          · by_cases h3 : y8 = 5
            · rw [if_pos ⟨h1, .inr h3⟩] at ho1; exact .inr (.inr (.inl ⟨h1, h3, ho1.symm⟩))
            · rw [if_neg (by omega)] at ho1; exact .inr (.inr (.inr ⟨h1, ⟨h2, h3⟩, ho1.symm⟩))
        · rw [if_neg (by omega)] at ho1; exact .inl ⟨by omega, ho1.symm⟩
      have hB : (x4 ≠ 3 ∧ o2 = o1) ∨ (x4 = 3 ∧ y4 = 3 ∧ o2 = -o1) ∨ (x4 = 3 ∧ y4 ≠ 3 ∧ o2 = o1) := by
        unfold jcS2 at ho2
        rw [hx4, hy4] at ho2
        by_cases h1 : x4 = 3
        · by_cases h2 : y4 = 3
          · rw [if_pos ⟨h1, h2⟩] at ho2; exact .inr (.inl ⟨h1, h2, ho2.symm⟩)
          · rw [if_neg (by omega)] at ho2; exact .inr (.inr ⟨h1, h2, ho2.symm⟩)
        · rw [if_neg (by omega)] at ho2; exact .inl ⟨h1, ho2.symm⟩
      have W1 := Lib.hid (w64n (n := -o) (by have := HO.out; omega))
      have W2 := Lib.hid (w64n (n := o) (by have := HO.out; omega))
      have hb1 : y' < 128 := by rw [← hy']; exact Nat.lt_of_le_of_lt (Nat.mod_le _ _) hy
      have hb2 : x1 < 128 := by omega
      have hb3 : y' ≤ g := by have := Nat.mod_lt y (show 0 < x1 by omega); omega
      have hxn : ((x : Int) != 0) = true := by simp; omega
      have hx1z : ¬ ((x1 : Int) = 0) := by omega
      have hx1n : ¬ (x1 = 0) := by omega
      have HG := Lib.hid hg
      have HJ3 := Lib.hid hj
      have HP2 := Lib.hid hp2
      have hz0 : (0 : Int) ≤ (z : Int) := by omega
      have hz1 : (z : Int) ≤ 64 := by omega
      clear hj hz hx1 hr hy8 hy4 hx4 hy' ho1 ho2 hp1 hp2 hg HJ HO TZ q1 q2 q3 hx hxk hx0
      have HA := Lib.hid hA
      have HB := Lib.hid hB
      clear hA hB
      rcases HA.out with ⟨rfl, hA⟩ | ⟨rfl, rfl, hA⟩ | ⟨rfl, rfl, hA⟩ | ⟨rfl, ⟨h8, h8'⟩, hA⟩
      all_goals (rcases HB.out with ⟨h4, hB⟩ | ⟨rfl, rfl, hB⟩ | ⟨rfl, h4, hB⟩)
      all_goals
        (try (have h8a : ((y8 : Int) == 3) = false := by (simp; omega)))
        (try (have h8b : ((y8 : Int) == 5) = false := by (simp; omega)))
        (try (have h4a : ((x4 : Int) == 3) = false := by (simp; omega)))
        (try (have h4b : ((y4 : Int) == 3) = false := by (simp; omega)))
        have HAA := Lib.hid hA
        have HBB := Lib.hid hB
        clear hA hB HA HB
        (try clear h8 h8')
        (try clear h4)
        obtain ⟨e1, e1'⟩ := E1.out
        obtain ⟨t1, t1'⟩ := T1.out
        obtain ⟨t2, t2'⟩ := T2.out
        obtain ⟨t3, t3'⟩ := T3.out
        obtain ⟨t4, t4'⟩ := T4.out
        obtain ⟨t5, t5'⟩ := T5.out
        obtain ⟨v1, v1'⟩ := W1.out
        obtain ⟨v2, v2'⟩ := W2.out
        go_wp2_with (go_at_call 59; (with_reducible refine TZX.out.mono ?_); (rintro e u1 ⟨rfl, rfl⟩))
        clear e1 e1' t1 t1' t2 t2' t3 t3' t4 t4' t5 t5' v1 v1' v2 v2'
        go_roundg g
        case measure => have := HG.out; omega
        case rel => exact ⟨y', x1, _, rfl, rfl, rfl, hb1, hb2, hb3, Lib.hid (by have h := HP2.out; rw [HBB.out, HAA.out] at h; first | exact h | simpa using h), Lib.hid (by have h := HJ3.out; rw [HBB.out, HAA.out] at h; first | exact h | simpa using h), rfl⟩
/-- A residue, as the program reckons it. -/
def rsI (a m : Int) : Int := if Int.tmod a m < 0 then Int.tmod a m + m else Int.tmod a m
theorem tmod_ltN (a : Int) (m : Nat) (hm : 0 < m) : (Int.tmod a (m : Int)).natAbs < m := by
  rw [Int.natAbs_tmod]; exact Nat.mod_lt _ hm
theorem rsI_eq (a : Int) (m : Nat) (hm : 0 < m) : rsI a (m : Int) = a % (m : Int) := by
  unfold rsI
  have h := Int.tmod_def a (m : Int)
  have e1 := Int.emod_nonneg a (b := (m : Int)) (by omega)
  have e2 := Int.emod_lt_of_pos a (b := (m : Int)) (by omega)
  rcases Int.lt_or_le a 0 with h0 | h0
  · obtain ⟨k, rfl⟩ : ∃ k : Nat, a = -(k : Int) := ⟨a.natAbs, by omega⟩
    rw [Int.neg_tmod, Int.tmod_eq_emod_of_nonneg (by omega), Int.neg_emod]
    have e3 : (k : Int) % (m : Int) = ((k % m : Nat) : Int) := by simp
    rw [e3]
    have e4 := Nat.mod_lt k hm
    by_cases hd : (m : Int) ∣ (k : Int)
    · have : k % m = 0 := Nat.mod_eq_zero_of_dvd (Int.natCast_dvd_natCast.1 hd)
      rw [this, if_pos hd, if_neg (by simp)]; simp
    · have : k % m ≠ 0 := fun h => hd (Int.natCast_dvd_natCast.2 (Nat.dvd_of_mod_eq_zero h))
      rw [if_neg hd, if_pos (by omega)]; simp; omega
  · rw [Int.tmod_eq_emod_of_nonneg h0, if_neg (by omega)]
set_option maxHeartbeats 2000000 in
theorem residueQ (a : Int) (m : Nat) (hm : 0 < m) (hm2 : m ≤ 1000000000) (w : World) : Calls Tryz.prog 60 #[.int .i64 a, .int .i64 (m : Int)] w fun e w' => e = .returned (.int .i64 (a % (m : Int))) ∧ w = w' := by
  rw [← rsI_eq a m hm]
  have hb := tmod_ltN a m hm
  unfold rsI
  obtain ⟨r, hr⟩ : ∃ r, Int.tmod a (m : Int) = r := ⟨_, rfl⟩
  rw [hr] at hb ⊢
  have hm0 : ¬ ((m : Int) = 0) := by omega
  have hmn : ¬ (m = 0) := by omega
  obtain ⟨e1, e1'⟩ := w64n (n := r) (by omega)
  obtain ⟨e2, e2'⟩ := w64n (n := r + (m : Int)) (by omega)
  by_cases h0 : r < 0
  · have y1 : decide (r < 0) = true := by simp; omega
    rw [if_pos h0]
    clear hb h0 hm hm2
    go_enter Tryz.func60, Tryz.ntmps60
    go_wp2_with fail
    go_ret
    exact ⟨rfl, rfl⟩
  · have y1 : decide (r < 0) = false := by simp; omega
    rw [if_neg h0]
    clear hb h0 hm hm2 e2 e2'
    go_enter Tryz.func60, Tryz.ntmps60
    go_wp2_with fail
    go_ret
    exact ⟨rfl, rfl⟩
/-- The residue of a number of either sign, as arith.reduced has it. -/
def rdN (a : Int) (m : Nat) : Nat := if 0 ≤ a then a.toNat % m else if (-a).toNat % m = 0 then 0 else m - (-a).toNat % m
theorem rdN_lt (a : Int) (m : Nat) (hm : 0 < m) : rdN a m < m := by
  unfold rdN
  split
  · exact Nat.mod_lt _ hm
  · split
    · omega
    · omega
set_option maxHeartbeats 2000000 in
theorem reducedQ (a : Int) (m : Nat) (ha : a.natAbs ≤ 1000) (hm : 0 < m) (hm2 : m ≤ 1000) (w : World) : Calls Tryz.prog 62 #[.int .i64 a, .int .u64 (m : Int)] w fun e w' => e = .returned (.int .u64 ((rdN a m : Nat) : Int)) ∧ w = w' := by
  have hm0 : ¬ ((m : Int) = 0) := by omega
  have hmn : ¬ (m = 0) := by omega
  have hmz : (((m : Nat) : Int) == 0) = false := by simp; omega
  unfold rdN
  by_cases h0 : 0 ≤ a
  · rw [if_pos h0]
    obtain ⟨k, rfl⟩ : ∃ k : Nat, a = (k : Int) := ⟨a.toNat, by omega⟩
    rw [Int.toNat_natCast]
    obtain ⟨r, hr⟩ : ∃ r, k % m = r := ⟨_, rfl⟩
    rw [hr]
    have T : Hid (Int.tmod (k : Int) (m : Int) = (r : Int) ∧ (k : Int) % (m : Int) = (r : Int)) := Lib.hid (by rw [Int.tmod_eq_emod_of_nonneg (by omega), ← hr]; simp)
    have y1 : decide ((k : Int) ≥ 0) = true := by simp
    have U : Hid (IntKind.u64.wrap (k : Int) = (k : Int)) := Lib.hid (by rw [IntKind.wrap_u64]; omega)
    clear ha h0 hm hm2 hr
    obtain ⟨t1, t2⟩ := T.out
    have u1 := U.out
    go_enter Tryz.func62, Tryz.ntmps62
    go_wp2_with fail
    go_ret
    exact ⟨rfl, rfl⟩
  · rw [if_neg h0]
    obtain ⟨k, hk⟩ : ∃ k : Nat, a = -(k : Int) := ⟨a.natAbs, by omega⟩
    subst hk
    rw [Int.neg_neg, Int.toNat_natCast]
    obtain ⟨r, hr⟩ : ∃ r, k % m = r := ⟨_, rfl⟩
    rw [hr]
    have hrm : r < m := by rw [← hr]; exact Nat.mod_lt _ hm
    have T : Hid (Int.tmod (k : Int) (m : Int) = (r : Int) ∧ (k : Int) % (m : Int) = (r : Int)) := Lib.hid (by rw [Int.tmod_eq_emod_of_nonneg (by omega), ← hr]; simp)
    have y1 : decide (-(k : Int) ≥ 0) = false := by simp; omega
    have y1b : decide (k = 0) = false := by simp; omega
    obtain ⟨B, hB⟩ : ∃ B : Int, 18446744073709551616 - (k : Int) = B := ⟨_, rfl⟩
    have U : Hid (IntKind.u64.wrap (-(k : Int)) = B) := Lib.hid (by rw [IntKind.wrap_u64, ← hB]; omega)
    have V : Hid (IntKind.u64.wrap (-B) = (k : Int)) := Lib.hid (by rw [IntKind.wrap_u64, ← hB]; omega)
    clear ha h0 hr
    by_cases hr0 : r = 0
    · subst hr0
      rw [if_pos rfl]
      clear hm hm2 hrm hB
      obtain ⟨t1, t2⟩ := T.out
      have u1 := U.out
      have v1 := V.out
      go_enter Tryz.func62, Tryz.ntmps62
      go_wp2_with fail
      go_ret
      exact ⟨rfl, rfl⟩
    · rw [if_neg hr0]
      obtain ⟨d, hd⟩ : ∃ d, m - r = d := ⟨_, rfl⟩
      rw [hd]
      have X : Hid (IntKind.u64.wrap ((m : Int) - (r : Int)) = (d : Int)) := Lib.hid (by rw [IntKind.wrap_u64]; omega)
      have y2 : decide ((r : Int) > 0) = true := by simp; omega
      have y2n : decide (0 < r) = true := by simp; omega
      clear hm hm2 hrm hB hd hr0
      obtain ⟨t1, t2⟩ := T.out
      have u1 := U.out
      have v1 := V.out
      have x1 := X.out
      go_enter Tryz.func62, Tryz.ntmps62
      go_wp2_with fail
      go_ret
      exact ⟨rfl, rfl⟩
/-- The Kronecker symbol, as the program reckons it, for n from 1 on. -/
def krN (a : Int) (n : Nat) : Int :=
  if Lib.ctz 64 n = 0 then jcN (rdN a n) n
  else if Int.tmod a 2 = 0 then 0
  else (if Lib.ctz 64 n % 2 = 1 ∧ (a % 8 = 3 ∨ a % 8 = 5) then -1 else 1) * jcN (rdN a (n / 2 ^ Lib.ctz 64 n)) (n / 2 ^ Lib.ctz 64 n)
theorem krN_abs (a : Int) (n : Nat) : (krN a n).natAbs ≤ 1 := by
  unfold krN
  split
  · exact jcN_abs _ _
  · split
    · simp
    · have h := jcN_abs (rdN a (n / 2 ^ Lib.ctz 64 n)) (n / 2 ^ Lib.ctz 64 n)
      rw [Int.natAbs_mul]
      split <;> simpa using h
set_option maxRecDepth 20000 in
set_option maxHeartbeats 8000000 in
theorem kroneckerQ (a : Int) (n : Nat) (ha : a.natAbs ≤ 100) (h1 : 1 ≤ n) (h2 : n < 128) (w : World) (hT : TabB w) : Calls Tryz.prog 35 #[.int .i64 a, .int .i64 (n : Int)] w fun e w' => e = .returned (.int .i64 (krN a n)) ∧ w = w' := by
  obtain ⟨q1, q2, q3⟩ := ctz_tab n h2 (by omega)
  have TZ := Lib.hid (tzQ n (by omega) (by omega) w hT)
  have y0 : ((n : Int) == 0) = false := by simp; omega
  have y1 : decide ((n : Int) < 0) = false := by simp
  have U := Lib.hid (show IntKind.u64.wrap (n : Int) = (n : Int) by rw [IntKind.wrap_u64]; omega)
  obtain ⟨R, hR⟩ : ∃ R, krN a n = R := ⟨_, rfl⟩
  rw [hR]
  unfold krN at hR
  obtain ⟨z, hz⟩ : ∃ z, Lib.ctz 64 n = z := ⟨_, rfl⟩
  rw [hz] at hR TZ q1 q2 q3
  by_cases hz0 : z = 0
  · subst hz0
    rw [if_pos rfl] at hR
    have RD := Lib.hid (reducedQ a n (by omega) (by omega) (by omega) w)
    have hrd := rdN_lt a n (by omega)
    obtain ⟨b, hb⟩ : ∃ b, rdN a n = b := ⟨_, rfl⟩
    rw [hb] at hR RD hrd
    have JC := Lib.hid (jacobiQ b n (by omega) h2 w hT)
    have hab := jcN_abs b n
    rw [hR] at JC hab
    obtain ⟨e1, e1'⟩ := w64n (n := R) (by omega)
    have e2 : (1 : Int) * R = R := by omega
    clear ha h1 h2 hT hR hz q1 q2 q3 hrd hb hab
    have u1 := U.out
    go_enter Tryz.func35, Tryz.ntmps35
    go_wp2_with (first
      | (go_at_call 59; (with_reducible refine TZ.out.mono ?_); (rintro e u1 ⟨rfl, rfl⟩))
      | (go_at_call 62; (with_reducible refine RD.out.mono ?_); (rintro e u1 ⟨rfl, rfl⟩))
      | (go_at_call 61; (with_reducible refine JC.out.mono ?_); (rintro e u1 ⟨rfl, rfl⟩)))
    go_ret
    exact ⟨rfl, rfl⟩
  · rw [if_neg hz0] at hR
    have yz : decide ((z : Int) > 0) = true := by simp; omega
    have yzn : decide (0 < z) = true := by simp; omega
    obtain ⟨p, hp⟩ : ∃ p, Int.tmod a 2 = p := ⟨_, rfl⟩
    have hpb : p.natAbs < 2 := by rw [← hp]; exact tmod_ltN a 2 (by omega)
    rw [hp] at hR
    obtain ⟨ep, ep'⟩ := w64n (n := p) (by omega)
    by_cases hp0 : p = 0
    · subst hp0
      rw [if_pos rfl] at hR
      subst hR
      clear ha h1 h2 hT hz q1 q2 q3 hpb hz0
      have u1 := U.out
      go_enter Tryz.func35, Tryz.ntmps35
      go_wp2_with (go_at_call 59; (with_reducible refine TZ.out.mono ?_); (rintro e u1 ⟨rfl, rfl⟩))
      go_ret
      exact ⟨rfl, rfl⟩
    · rw [if_neg hp0] at hR
      have ypn : (p == 0) = false := by simp; omega
      obtain ⟨n1, hn1⟩ : ∃ n1, n / 2 ^ z = n1 := ⟨_, rfl⟩
      rw [hn1] at hR q1 q2
      have E1 : Hid ((n : Int) / 2 ^ ((z : Int)).toNat = (n1 : Int) ∧ (n : Int) / 2 ^ z = (n1 : Int)) := Lib.hid (by
        have e : (n : Int) / 2 ^ z = (n1 : Int) := by rw [← hn1]; simp
        exact ⟨by rw [Int.toNat_natCast]; exact e, e⟩)
      have RD := Lib.hid (reducedQ a n1 (by omega) (by omega) (by omega) w)
      have hrd := rdN_lt a n1 (by omega)
      obtain ⟨b, hb⟩ : ∃ b, rdN a n1 = b := ⟨_, rfl⟩
      rw [hb] at hR RD hrd
      have JC := Lib.hid (jacobiQ b n1 (by omega) (by omega) w hT)
      have hab := jcN_abs b n1
      obtain ⟨j, hj⟩ : ∃ j, jcN b n1 = j := ⟨_, rfl⟩
      rw [hj] at hR JC hab
      obtain ⟨r8, hr8⟩ : ∃ r8, a % 8 = r8 := ⟨_, rfl⟩
      have hr8' : a % ((8 : Nat) : Int) = r8 := hr8
      have RS : Hid (Calls Tryz.prog 60 #[.int .i64 a, .int .i64 8] w fun e w' => e = .returned (.int .i64 r8) ∧ w = w') := Lib.hid (by
        have h := residueQ a 8 (by omega) (by omega) w
        rw [hr8'] at h
        exact h)
      rw [hr8] at hR
      obtain ⟨t, ht⟩ : ∃ t, z % 2 = t := ⟨_, rfl⟩
      rw [ht] at hR
      have T1 : Hid (Int.tmod (z : Int) 2 = (t : Int) ∧ (z : Int) % 2 = (t : Int)) := Lib.hid (by rw [Int.tmod_eq_emod_of_nonneg (by omega)]; omega)
      have WJ := Lib.hid (w64n (n := j) (by omega))
      have WN := Lib.hid (w64n (n := -j) (by omega))
      have hz1 : (0 : Int) ≤ (z : Int) := by omega
      have hz2 : (z : Int) ≤ 64 := by omega
      have hA : (t = 0 ∧ R = j) ∨ (t = 1 ∧ r8 = 3 ∧ R = -j) ∨ (t = 1 ∧ r8 = 5 ∧ R = -j) ∨ (t = 1 ∧ (r8 ≠ 3 ∧ r8 ≠ 5) ∧ R = j) := by
        by_cases h5 : t = 1
        · by_cases h6 : r8 = 3
          · rw [if_pos ⟨h5, .inl h6⟩] at hR; exact .inr (.inl ⟨h5, h6, by omega⟩)
          · by_cases h7 : r8 = 5
            · rw [if_pos ⟨h5, .inr h7⟩] at hR; exact .inr (.inr (.inl ⟨h5, h7, by omega⟩))
            · rw [if_neg (by omega)] at hR; exact .inr (.inr (.inr ⟨h5, ⟨h6, h7⟩, by omega⟩))
        · rw [if_neg (by omega)] at hR; exact .inl ⟨by omega, by omega⟩
      have HA := Lib.hid hA
      clear ha h1 h2 hT hz q1 q2 q3 hpb hz0 hR hrd hb hab hj hr8 hr8' ht hn1 hA
      rcases HA.out with ⟨rfl, hA⟩ | ⟨rfl, rfl, hA⟩ | ⟨rfl, rfl, hA⟩ | ⟨rfl, ⟨h8, h8'⟩, hA⟩
      all_goals
        (try (have h8a : (r8 == 3) = false := by (simp; omega)))
        (try (have h8b : (r8 == 5) = false := by (simp; omega)))
        have HAA := Lib.hid hA
        clear hA HA
        (try clear h8 h8')
        obtain ⟨e1, e1'⟩ := E1.out
        obtain ⟨t1, t1'⟩ := T1.out
        obtain ⟨v1, v1'⟩ := WJ.out
        obtain ⟨v2, v2'⟩ := WN.out
        have u1 := U.out
        go_enter Tryz.func35, Tryz.ntmps35
        go_wp2_with (first
          | (go_at_call 59; (with_reducible refine TZ.out.mono ?_); (rintro e u1 ⟨rfl, rfl⟩))
          | (go_at_call 60; (with_reducible refine RS.out.mono ?_); (rintro e u1 ⟨rfl, rfl⟩))
          | (go_at_call 62; (with_reducible refine RD.out.mono ?_); (rintro e u1 ⟨rfl, rfl⟩))
          | (go_at_call 61; (with_reducible refine JC.out.mono ?_); (rintro e u1 ⟨rfl, rfl⟩)))
        go_ret
        exact ⟨by rw [HAA.out]; rfl, rfl⟩
end Go.Proofs.YtbpkfcohbefphaaGreatDoor
namespace Go.Proofs.YtbpkfcohbefphaaGreatDoor
open Go Go.RowKit
/-- A power modulo m, bit by bit: k bits are still to come. -/
def raL (a n m : Nat) : Nat → Nat → Nat
  | 0, o => o
  | k + 1, o => raL a n m k (if (n / 2 ^ k) % 2 = 1 then o * o % m * a % m else o * o % m)
def raN (a n m : Nat) : Nat := raL a n m (Lib.bitLen n) (1 % m)
theorem and1_tab : ∀ q : Nat, q < 128 → bits BinOp.and IntKind.i64 (q : Int) 1 = ((q % 2 : Nat) : Int) := by decide +kernel
theorem raL_lt (a n m : Nat) (hm : 0 < m) : ∀ k o, o < m → raL a n m k o < m
  | 0, o, h => h
  | k + 1, o, h => by
    unfold raL
    refine raL_lt a n m hm k _ ?_
    split <;> exact Nat.mod_lt _ hm
theorem raN_lt (a n m : Nat) (hm : 0 < m) : raN a n m < m := raL_lt a n m hm _ _ (Nat.mod_lt _ hm)
set_option maxRecDepth 20000 in
set_option maxHeartbeats 8000000 in
theorem raiseQ (a n m : Nat) (ha : a ≤ 60) (hn : n < 128) (hm0 : 0 < m) (hm : m ≤ 60) (w : World) : Calls Tryz.prog 133 #[.int .i64 (a : Int), .int .i64 (n : Int), .int .i64 (m : Int)] w fun x w' => x = .returned (.int .i64 ((raN a n m : Nat) : Int)) ∧ w = w' := by
  have LN := Lib.hid (len_int (n : Int) w (by omega) (by omega))
  rw [Int.toNat_natCast] at LN
  have hkb : Lib.bitLen n ≤ 8 := Lib.bitLen_le n 8 (by omega) (by omega)
  obtain ⟨R, hR⟩ : ∃ R, raN a n m = R := ⟨_, rfl⟩
  rw [hR]
  unfold raN at hR
  obtain ⟨L, hL⟩ : ∃ L, Lib.bitLen n = L := ⟨_, rfl⟩
  rw [hL] at LN hR hkb
  obtain ⟨o0, ho0⟩ : ∃ o, 1 % m = o := ⟨_, rfl⟩
  have ho0m : o0 < m := by rw [← ho0]; exact Nat.mod_lt _ hm0
  rw [ho0] at hR
  have T0 : Hid (Int.tmod 1 (m : Int) = (o0 : Int)) := Lib.hid (by rw [Int.tmod_eq_emod_of_nonneg (by omega), ← ho0]; simp)
  have V0 := Lib.hid (w64n (n := (o0 : Int)) (by omega))
  have U := Lib.hid (show IntKind.u64.wrap (n : Int) = (n : Int) by rw [IntKind.wrap_u64]; omega)
  have EL := Lib.hid (w64n (n := (L : Int) - 1) (by omega))
  have HR := Lib.hid hR
  have hmz : ¬ ((m : Int) = 0) := by omega
  have hmn : ¬ (m = 0) := by omega
  clear hR hL ho0
  have t0 := T0.out
  obtain ⟨v0, v0'⟩ := V0.out
  have u1 := U.out
  obtain ⟨el, el'⟩ := EL.out
  go_enter Tryz.func133, Tryz.ntmps133
  go_wp2_with (go_at_call 52; (with_reducible refine LN.out.mono ?_); (rintro x u2 ⟨rfl, rfl⟩))
  clear t0 v0 v0' u1 el el'
  go_loopg [7, 8] L (fun gk t7 t8 wr => ∃ (k o : Nat) (e : Int), t7 = .int .i64 (o : Int) ∧ t8 = .int .i64 e ∧ k ≤ L ∧ o < m ∧ Hid (gk = k) ∧ Hid (e = (k : Int) - 1) ∧ Hid (raL a n m k o = R) ∧ wr = u2)
  case atStart => exact ⟨L, o0, _, rfl, rfl, Nat.le_refl _, ho0m, Lib.hid rfl, Lib.hid rfl, HR, rfl⟩
  case round =>
    obtain ⟨k, o, e, rfl, rfl, hk, hom, HGK, HE, HJ, rfl⟩ := hrel
    by_cases hk0 : k = 0
    · have he := HE.out
      rw [hk0] at he
      obtain rfl : e = -1 := by omega
      have HJ2 : Hid (o = R) := Lib.hid (by have h := HJ.out; rw [hk0] at h; exact h)
      clear he hk0 HJ HE
      go_wp2_with fail
      go_ret
      exact ⟨by rw [← HJ2.out]; rfl, rfl⟩
    · obtain ⟨k', hk'⟩ : ∃ k', k = k' + 1 := ⟨k - 1, by omega⟩
      have he : e = (k' : Int) := by have := HE.out; omega
      subst he
      have hj := HJ.out
      rw [hk'] at hj
      unfold raL at hj
      obtain ⟨oo, hoo⟩ : ∃ oo, o * o = oo := ⟨_, rfl⟩
      have hoob : oo ≤ 60 * 60 := by rw [← hoo]; exact Nat.mul_le_mul (by omega) (by omega)
      obtain ⟨o1, ho1⟩ : ∃ o1, oo % m = o1 := ⟨_, rfl⟩
      have ho1m : o1 < m := by rw [← ho1]; exact Nat.mod_lt _ hm0
      obtain ⟨q, hq⟩ : ∃ q, n / 2 ^ k' = q := ⟨_, rfl⟩
      have hqb : q < 128 := by rw [← hq]; exact Nat.lt_of_le_of_lt (Nat.div_le_self _ _) hn
      obtain ⟨b, hb⟩ : ∃ b, q % 2 = b := ⟨_, rfl⟩
      rw [hoo, ho1, hq, hb] at hj
      have A1 : Hid (bits BinOp.and IntKind.i64 (q : Int) 1 = (b : Int)) := Lib.hid (by rw [and1_tab q hqb, hb])
      have E1 : Hid (IntKind.i64.wrap ((o : Int) * (o : Int)) = (oo : Int) ∧ wrap64 ((o : Int) * (o : Int)) = (oo : Int)) := Lib.hid (by rw [show (o : Int) * (o : Int) = (oo : Int) by rw [← hoo]; simp]; exact w64n (by omega))
      have T1 : Hid (Int.tmod (oo : Int) (m : Int) = (o1 : Int)) := Lib.hid (by rw [Int.tmod_eq_emod_of_nonneg (by omega), ← ho1]; simp)
      have V1 := Lib.hid (w64n (n := (o1 : Int)) (by omega))
      have E2 : Hid ((n : Int) / 2 ^ ((k' : Int)).toNat = (q : Int) ∧ (n : Int) / 2 ^ k' = (q : Int)) := Lib.hid (by
        have e : (n : Int) / 2 ^ k' = (q : Int) := by rw [← hq]; simp
        exact ⟨by rw [Int.toNat_natCast]; exact e, e⟩)
      have EK := Lib.hid (w64n (n := (k' : Int) - 1) (by omega))
      have hk0' : (0 : Int) ≤ (k' : Int) := by omega
      have hk1' : (k' : Int) ≤ 64 := by omega
      have y1 : decide ((k' : Int) ≥ 0) = true := by simp
      have HK := Lib.hid hk'
      have HJ3 := Lib.hid hj
      have hbb : b = 0 ∨ b = 1 := by omega
      have hk'L : k' ≤ L := by omega
      obtain ⟨oa, hoa⟩ : ∃ oa, o1 * a = oa := ⟨_, rfl⟩
      have hoab : oa ≤ 60 * 60 := by rw [← hoa]; exact Nat.mul_le_mul (by omega) (by omega)
      obtain ⟨o2, ho2⟩ : ∃ o2, oa % m = o2 := ⟨_, rfl⟩
      have ho2m : o2 < m := by rw [← ho2]; exact Nat.mod_lt _ hm0
      have E3 : Hid (IntKind.i64.wrap ((o1 : Int) * (a : Int)) = (oa : Int) ∧ wrap64 ((o1 : Int) * (a : Int)) = (oa : Int)) := Lib.hid (by rw [show (o1 : Int) * (a : Int) = (oa : Int) by rw [← hoa]; simp]; exact w64n (by omega))
      have T3 : Hid (Int.tmod (oa : Int) (m : Int) = (o2 : Int)) := Lib.hid (by rw [Int.tmod_eq_emod_of_nonneg (by omega), ← ho2]; simp)
      have V3 := Lib.hid (w64n (n := (o2 : Int)) (by omega))
      have HOA := Lib.hid hoa
      have HO2 := Lib.hid ho2
      clear hk0 HJ HE hk' hj hoo hoob ho1 hq hqb hb hoa hoab ho2 hk hom
      rcases hbb with rfl | rfl
      · have HJ4 : Hid (raL a n m k' o1 = R) := Lib.hid (by have h := HJ3.out; rw [if_neg (by omega)] at h; exact h)
        clear HJ3
        have a1 := A1.out
        obtain ⟨e1, e1'⟩ := E1.out
        have t1 := T1.out
        obtain ⟨v1, v1'⟩ := V1.out
        obtain ⟨e2, e2'⟩ := E2.out
        obtain ⟨ek, ek'⟩ := EK.out
        go_wp2_with fail
        clear a1 e1 e1' t1 v1 v1' e2 e2' ek ek'
        go_roundg k'
        case measure => have := HGK.out; have := HK.out; omega
        case rel => exact ⟨k', o1, _, rfl, rfl, hk'L, ho1m, Lib.hid rfl, Lib.hid rfl, HJ4, rfl⟩
      · have HJ4 : Hid (raL a n m k' o2 = R) := Lib.hid (by have h := HJ3.out; rw [if_pos rfl, HOA.out, HO2.out] at h; exact h)
        clear HJ3
        have a1 := A1.out
        obtain ⟨e1, e1'⟩ := E1.out
        have t1 := T1.out
        obtain ⟨v1, v1'⟩ := V1.out
        obtain ⟨e2, e2'⟩ := E2.out
        obtain ⟨e3, e3'⟩ := E3.out
        have t3 := T3.out
        obtain ⟨v3, v3'⟩ := V3.out
        obtain ⟨ek, ek'⟩ := EK.out
        go_wp2_with fail
        clear a1 e1 e1' t1 v1 v1' e2 e2' ek ek' e3 e3' t3 v3 v3'
        go_roundg k'
        case measure => have := HGK.out; have := HK.out; omega
        case rel => exact ⟨k', o2, _, rfl, rfl, hk'L, ho2m, Lib.hid rfl, Lib.hid rfl, HJ4, rfl⟩
/-- One prime's part of the order. -/
def orL (a m p : Nat) : Nat → Nat → Nat
  | 0, s => s
  | k + 1, s => if raN a (s / p) m = 1 % m then orL a m p k (s / p) else s
theorem orL_le (a m p : Nat) : ∀ k s, orL a m p k s ≤ s
  | 0, s => Nat.le_refl _
  | k + 1, s => by
    unfold orL
    split
    · exact Nat.le_trans (orL_le a m p k _) (Nat.div_le_self _ _)
    · exact Nat.le_refl _
def orN (a m : Nat) : Nat := foldS (fun s p e => orL a m p e s) (faL 33 (phiN m) 2) (phiN m)
theorem okS_le (a m : Nat) : ∀ (l : List (Nat × Nat)) (s : Nat), s < 128 → okS (fun s _ _ => s < 128) (fun s p e => orL a m p e s) l s
  | [], _, _ => trivial
  | _ :: l, _, h => ⟨h, okS_le a m l _ (Nat.lt_of_le_of_lt (orL_le _ _ _ _ _) h)⟩
/-- The three cells of order: a, n so far, m. -/
structure OrSt (w0 : World) (b2 b5 b3 a m s : Nat) (u : World) : Prop where
  grow : Grow w0 u
  le : w0.heap.size ≤ b5
  l2 : b2 < u.heap.size
  l5 : b5 < u.heap.size
  l3 : b3 < u.heap.size
  f5 : ∀ o, u.frozen? ⟨b5, o, none⟩ = false
  c2 : u.cell? ⟨b2, 0, none⟩ = some (.int .i64 (a : Int))
  c5 : u.cell? ⟨b5, 0, none⟩ = some (.int .i64 (s : Int))
  c3 : u.cell? ⟨b3, 0, none⟩ = some (.int .i64 (m : Int))
theorem OrSt.go {w0 u u' : World} {b2 b5 b3 a m s : Nat} (h : OrSt w0 b2 b5 b3 a m s u) (hg : Grow u u') : OrSt w0 b2 b5 b3 a m s u' :=
  ⟨h.grow.trans hg, h.le, Nat.lt_of_lt_of_le h.l2 hg.size, Nat.lt_of_lt_of_le h.l5 hg.size, Nat.lt_of_lt_of_le h.l3 hg.size, fun o => (hg.frees _ _ h.l5).trans (h.f5 o), (hg.cells _ _ h.l2).trans h.c2, (hg.cells _ _ h.l5).trans h.c5, (hg.cells _ _ h.l3).trans h.c3⟩
theorem OrSt.put {w0 u : World} {b2 b5 b3 a m s : Nat} (h : OrSt w0 b2 b5 b3 a m s u) (h25 : b2 ≠ b5) (h35 : b3 ≠ b5) (z : Nat) : OrSt w0 b2 b5 b3 a m z (u.setCell ⟨b5, 0, none⟩ (.int .i64 (z : Int))) := by
  have hb : But (fun b => b = b5) u (u.setCell ⟨b5, 0, none⟩ (.int .i64 (z : Int))) := (But.refl (fun b => b = b5) u).set _ (.inr rfl) (fun x => by rw [h.c5]; simp)
  exact ⟨((h.grow.but _).trans hb).asGrow (fun b e => by rw [e]; exact h.le), h.le, Nat.lt_of_lt_of_le h.l2 hb.size, Nat.lt_of_lt_of_le h.l5 hb.size, Nat.lt_of_lt_of_le h.l3 hb.size, fun o => (hb.frees _ _ h.l5).trans (h.f5 o), (hb.cells _ _ h.l2 h25).trans h.c2, World.cell?_setCell_same _ _ _ h.c5, (hb.cells _ _ h.l3 h35).trans h.c3⟩
set_option maxRecDepth 20000 in
set_option maxHeartbeats 8000000 in
theorem ord1Q (w0 : World) (b2 b5 b3 : Nat) (h25 : b2 ≠ b5) (h35 : b3 ≠ b5) (a m s0 : Nat) (ha : a ≤ 60) (hm0 : 0 < m) (hm : m ≤ 60) (p e : Nat) (hp0 : 2 ≤ p) (hp1 : p ≤ 1001) (he : e ≤ 10) (hs0 : s0 < 128) (u : World) (hS : OrSt w0 b2 b5 b3 a m s0 u) :
    Calls Tryz.prog 132 #[.int .i64 (p : Int), .int .i64 (e : Int), .pointer (some ⟨b2, 0, none⟩), .pointer (some ⟨b5, 0, none⟩), .pointer (some ⟨b3, 0, none⟩)] u fun x w' => x = .returned (.tuple #[]) ∧ OrSt w0 b2 b5 b3 a m (orL a m p e s0) w' := by
  obtain ⟨R, hR⟩ : ∃ R, orL a m p e s0 = R := ⟨_, rfl⟩
  rw [hR]
  have HR := Lib.hid hR
  have HS := Lib.hid hS
  have H25 := Lib.hid h25
  have H35 := Lib.hid h35
  have RA := Lib.hid (fun n (hn : n < 128) u => raiseQ a n m ha hn hm0 hm u)
  have RL := Lib.hid (fun n => raN_lt a n m hm0)
  obtain ⟨o0, ho0⟩ : ∃ o, 1 % m = o := ⟨_, rfl⟩
  have ho0m : o0 < m := by rw [← ho0]; exact Nat.mod_lt _ hm0
  have HO0 := Lib.hid ho0
  have T0 : Hid (Int.tmod 1 (m : Int) = (o0 : Int)) := Lib.hid (by rw [Int.tmod_eq_emod_of_nonneg (by omega), ← ho0]; simp)
  have V0 := Lib.hid (w64n (n := (o0 : Int)) (by omega))
  have hmz : ¬ ((m : Int) = 0) := by omega
  have hmn : ¬ (m = 0) := by omega
  have hpz : ¬ ((p : Int) = 0) := by omega
  have hpn : ¬ (p = 0) := by omega
  clear hR hS h25 h35 ho0
  go_enter Tryz.func132, Tryz.ntmps132
  go_wp2_with fail
  go_loopg [8] e (fun gk t8 wr => ∃ (i s : Nat), t8 = .int .i64 (i : Int) ∧ i ≤ e ∧ s < 128 ∧ Hid (gk = e - i) ∧ Hid (orL a m p (e - i) s = R) ∧ Hid (OrSt w0 b2 b5 b3 a m s wr))
  case atStart => exact ⟨0, s0, rfl, Nat.zero_le _, hs0, Lib.hid rfl, Lib.hid (by rw [Nat.sub_zero]; exact HR.out), HS⟩
  case round =>
    clear HS HR
    obtain ⟨i, s, rfl, hi, hs, HGK, HJ, HS⟩ := hrel
    by_cases hie : i = e
    · have y1 : decide ((i : Int) < (e : Int)) = false := by simp; omega
      have y2 : decide (i < e) = false := by simp; omega
      have HJ2 : Hid (s = R) := Lib.hid (by have h := HJ.out; rw [hie, Nat.sub_self] at h; exact h)
      clear hie HJ
      go_wp2_with fail
      (try simp only [Exit.inBlock, Exit.then])
      first
        | (refine bodyPost_end (results_none rfl _ _ _) rfl ?_; exact ⟨rfl, by rw [← HJ2.out]; exact HS.out⟩)
        | (refine bodyPost_ret (v := .tuple #[]) (results_none rfl _ _ _) rfl ?_; exact ⟨rfl, by rw [← HJ2.out]; exact HS.out⟩)
    · have hil : i < e := by omega
      have y1 : decide ((i : Int) < (e : Int)) = true := by simp; omega
      have y1' : (i : Int) < (e : Int) := by omega
      obtain ⟨k, hk⟩ : ∃ k, e - i = k + 1 := ⟨e - i - 1, by omega⟩
      have hk2 : e - (i + 1) = k := by omega
      have hj := HJ.out
      rw [hk] at hj
      unfold orL at hj
      obtain ⟨q, hq⟩ : ∃ q, s / p = q := ⟨_, rfl⟩
      have hqb : q < 128 := by rw [← hq]; exact Nat.lt_of_le_of_lt (Nat.div_le_self _ _) hs
      have RQ := Lib.hid (RA.out q hqb)
      have hrl := RL.out q
      obtain ⟨r, hr⟩ : ∃ r, raN a q m = r := ⟨_, rfl⟩
      rw [hq, hr, HO0.out] at hj
      rw [hr] at RQ hrl
      have TQ : Hid (Int.tdiv (s : Int) (p : Int) = (q : Int)) := Lib.hid (by rw [← hq, Int.natCast_ediv]; exact Int.tdiv_eq_ediv_of_nonneg (by omega))
      have VQ := Lib.hid (w64n (n := (q : Int)) (by omega))
      have EI := Lib.hid (inc_wrap (i := i) (n := 100) (by omega) (by omega))
      have D0 := Lib.hid (fun (v : World) (hv : Grow wr v) => (⟨(HS.out.go hv).c2, (HS.out.go hv).c5, (HS.out.go hv).c3, (HS.out.go hv).f5, (HS.out.go hv).l5, (HS.out.go hv).l2, (HS.out.go hv).l3⟩ : v.cell? ⟨b2, 0, none⟩ = some (.int .i64 (a : Int)) ∧ v.cell? ⟨b5, 0, none⟩ = some (.int .i64 (s : Int)) ∧ v.cell? ⟨b3, 0, none⟩ = some (.int .i64 (m : Int)) ∧ (∀ o, v.frozen? ⟨b5, o, none⟩ = false) ∧ b5 < v.heap.size ∧ b2 < v.heap.size ∧ b3 < v.heap.size))
      have HK2 := Lib.hid hk2
      have HJ3 := Lib.hid hj
      clear hie HJ hk hk2 hj hq hr
      have t0 := T0.out
      obtain ⟨v0, v0'⟩ := V0.out
      have tq := TQ.out
      obtain ⟨vq, vq'⟩ := VQ.out
      go_upto_region 2 with fail
      refine region_held (id := 2) (fun v => Grow wr v) [0, 1, 2, 3, 4, 6, 7, 5, 8] (kdL [1, 1, 0, 0, 1, 2, 1, 0, 0]) (by kernel_rfl) (by kernel_rfl) (fun t ht => kdL_lt _ t ht) ?hS0p ?_
      case hS0p => ((try dsimp only); (repeat (first | with_reducible exact Grow.refl _ | with_reducible refine Grow.alloc ?_ _ | with_reducible refine Grow.drew ?_ | with_reducible refine Grow.drewN ?_ _ | (with_reducible refine Grow.setCell ?_ ?hp _; (case hp => (simp; try omega))) | with_reducible refine Grow.trans ?_ (by assumption))))
      refine held_read (v := ?vp0) rfl rfl (Or.inl ⟨by rfl, ?hyp0⟩) ?_
      case hyp0 => (intro u hu; obtain ⟨d0, d1, d2, d3, d4, d5, d6⟩ := D0.out u hu; go_simp; (try with_reducible rfl))
      (try simp only [Act.put, List.setIfInBounds_toArray, List.set_cons_zero, List.set_cons_succ])
      refine held_read (v := ?vp1) rfl rfl (Or.inl ⟨by rfl, ?hyp1⟩) ?_
      case hyp1 => (intro u hu; obtain ⟨d0, d1, d2, d3, d4, d5, d6⟩ := D0.out u hu; go_simp; (try with_reducible rfl))
      (try simp only [Act.put, List.setIfInBounds_toArray, List.set_cons_zero, List.set_cons_succ])
      refine held_quiet (v := ?vp2) rfl rfl (Or.inl ⟨by rfl, ?hyp2⟩) ?_
      case hyp2 => (intro u hu; go_simp; (try with_reducible rfl))
      (try simp only [Act.put, List.setIfInBounds_toArray, List.set_cons_zero, List.set_cons_succ])
      refine held_quiet (v := ?vp3) rfl rfl (Or.inl ⟨by rfl, ?hyp3⟩) ?_
      case hyp3 => (intro u hu; go_simp; (try with_reducible rfl))
      (try simp only [Act.put, List.setIfInBounds_toArray, List.set_cons_zero, List.set_cons_succ])
      refine held_read (v := ?vp4) rfl rfl (Or.inl ⟨by rfl, ?hyp4⟩) ?_
      case hyp4 => (intro u hu; obtain ⟨d0, d1, d2, d3, d4, d5, d6⟩ := D0.out u hu; go_simp; (try with_reducible rfl))
      (try simp only [Act.put, List.setIfInBounds_toArray, List.set_cons_zero, List.set_cons_succ])
      refine held_read (v := ?vp6) rfl rfl (Or.inl ⟨by rfl, ?hyp6⟩) ?_
      case hyp6 => (intro u hu; obtain ⟨d0, d1, d2, d3, d4, d5, d6⟩ := D0.out u hu; go_simp; (try with_reducible rfl))
      (try simp only [Act.put, List.setIfInBounds_toArray, List.set_cons_zero, List.set_cons_succ])
      refine held_quiet (v := ?vp7) rfl rfl (Or.inl ⟨by rfl, ?hyp7⟩) ?_
      case hyp7 => (intro u hu; go_simp; (try with_reducible rfl))
      (try simp only [Act.put, List.setIfInBounds_toArray, List.set_cons_zero, List.set_cons_succ])
      refine held_op rfl rfl (fun K hK => ?_)
      go_simp
      (go_at_call 133; (with_reducible refine (RQ.out _).mono ?_); (rintro x u4 ⟨rfl, rfl⟩))
      (try go_wp2_with fail)
      refine hK.out _ _ ?hSp5 ?_
      case hSp5 => ((try dsimp only); (repeat (first | with_reducible exact Grow.refl _ | with_reducible refine Grow.alloc ?_ _ | with_reducible refine Grow.drew ?_ | with_reducible refine Grow.drewN ?_ _ | (with_reducible refine Grow.setCell ?_ ?hp _; (case hp => (simp; try omega))) | with_reducible refine Grow.trans ?_ (by assumption))))
      clear hK K
      (try simp only [Act.put, List.setIfInBounds_toArray, List.set_cons_zero, List.set_cons_succ])
      refine held_quiet (v := ?vp8) rfl rfl (Or.inl ⟨by rfl, ?hyp8⟩) ?_
      case hyp8 => (intro u hu; go_simp; (try with_reducible rfl))
      (try simp only [Act.put, List.setIfInBounds_toArray, List.set_cons_zero, List.set_cons_succ])
      refine held_done ?_
      clear t0 v0 v0'
      by_cases hro : r = o0
      · have HJ4 : Hid (orL a m p (e - (i + 1)) q = R) := Lib.hid (by rw [HK2.out]; have h := HJ3.out; rw [if_pos hro] at h; exact h)
        have hrb : ((r : Int) != (o0 : Int)) = false := by simp; omega
        clear hro HJ3
        obtain ⟨d0, d1, d2, d3, d4, d5, d6⟩ := D0.out wr (Grow.refl _)
        obtain ⟨ei, ei'⟩ := EI.out
        go_simp
        go_wp2_with fail
        clear ei ei' tq vq vq'
        have hst := (HS.out.put H25.out H35.out q).go ((Grow.refl _).drew)
        go_roundg (e - (i + 1))
        case measure => have := HGK.out; omega
        case rel => exact ⟨i + 1, q, rfl, hil, hqb, Lib.hid rfl, HJ4, Lib.hid hst⟩
      · have HJ4 : Hid (s = R) := Lib.hid (by have h := HJ3.out; rw [if_neg hro] at h; exact h)
        have hrb : ((r : Int) != (o0 : Int)) = true := by simp; omega
        clear hro HJ3 tq vq vq'
        have hst := HS.out.go ((Grow.refl wr).drew)
        go_simp
        go_wp2_with fail
        (try simp only [Exit.inBlock, Exit.then])
        first
          | (refine bodyPost_end (results_none rfl _ _ _) rfl ?_; exact ⟨rfl, by rw [← HJ4.out]; exact hst⟩)
          | (refine bodyPost_ret (v := .tuple #[]) (results_none rfl _ _ _) rfl ?_; exact ⟨rfl, by rw [← HJ4.out]; exact hst⟩)
theorem phi_tab : ∀ m, m < 61 → m = 0 ∨ (1 ≤ phiN m ∧ phiN m ≤ 60) := by decide +kernel
set_option maxRecDepth 20000 in
set_option maxHeartbeats 8000000 in
theorem orderNQ (a m : Nat) (ha : a ≤ 60) (hm0 : 0 < m) (hm : m ≤ 60) (w : World) : Calls Tryz.prog 131 #[.int .i64 (a : Int), .int .i64 (m : Int)] w fun x w' => x = .returned (.int .i64 ((orN a m : Nat) : Int)) ∧ Grow w w' := by
  have hph : 1 ≤ phiN m ∧ phiN m ≤ 60 := by
    rcases phi_tab m (by omega) with h | h
    · omega
    · exact h
  have PH := Lib.hid (fun u => phiQ m (by omega) hm u)
  have FC := Lib.hid (fun (B : Nat) (h25 : w.heap.size ≠ B) (h35 : w.heap.size + 1 ≠ B) u (hu : OrSt w w.heap.size B (w.heap.size + 1) a m (phiN m) u) => factorsO (fun (s : Nat) u => OrSt w w.heap.size B (w.heap.size + 1) a m s u) (fun s _ _ => s < 128) (fun s p e => orL a m p e s) (.pointer (some ⟨w.heap.size, 0, none⟩)) (.pointer (some ⟨B, 0, none⟩)) (.pointer (some ⟨w.heap.size + 1, 0, none⟩)) (fun s p e u a' b' c' d' ok hs => ord1Q w w.heap.size B (w.heap.size + 1) h25 h35 a m s ha hm0 hm p e a' b' d' ok u hs) (phiN m) hph.1 (by omega) (phiN m) (okS_le a m _ _ (by omega)) u hu)
  have hor : foldS (fun s p e => orL a m p e s) (faL 33 (phiN m) 2) (phiN m) = orN a m := rfl
  rw [hor] at FC
  obtain ⟨f, hf⟩ : ∃ f, phiN m = f := ⟨_, rfl⟩
  rw [hf] at PH FC hph
  obtain ⟨R, hR⟩ : ∃ R, orN a m = R := ⟨_, rfl⟩
  rw [hR] at FC ⊢
  clear hor hf hR
  have hmf : ∀ (fn : Fn) (first cap : Array Value) (w : World), (Instr.makeFunc fn first cap).run Tryz.prog w = .ok (.func fn first cap) w := fun _ _ _ _ => rfl
  obtain ⟨W1, hW1⟩ : ∃ W1 : World, W1 = w.alloc (.cells #[.int .i64 (a : Int)] 3) := ⟨_, rfl⟩
  obtain ⟨W2, hW2⟩ : ∃ W2 : World, W2 = W1.alloc (.cells #[.int .i64 (m : Int)] 3) := ⟨_, rfl⟩
  have hz1 : W1.heap.size = w.heap.size + 1 := by rw [hW1]; simp
  have hg2 : Grow w W2 := (ag hW1).trans (ag hW2)
  have K1 := Lib.hid (fun u (hu : Grow W2 u) => ak1 hW1 u ((ag hW2).trans hu))
  have K2 : Hid (∀ u : World, Grow W2 u → u.cell? ⟨w.heap.size + 1, 0, none⟩ = some (.int .i64 (m : Int)) ∧ (∀ o, u.frozen? ⟨w.heap.size + 1, o, none⟩ = false) ∧ w.heap.size + 1 < u.heap.size) := Lib.hid (fun u hu => by have := ak1 hW2 u hu; rw [hz1] at this; exact this)
  have HG2 := Lib.hid hg2
  have HW1 := Lib.hid hW1
  have HW2 := Lib.hid hW2
  clear hW1 hW2 hz1 hg2
  obtain ⟨f0, f1, f2⟩ := K1.out W2 (Grow.refl _)
  obtain ⟨g0, g1, g2⟩ := K2.out W2 (Grow.refl _)
  go_enter Tryz.func131, Tryz.ntmps131
  go_upto_region 1 with fail
  rw [← HW1.out, ← HW2.out]
  go_upto_region 2 with (go_at_call 67; (with_reducible refine (PH.out _).mono ?_); (rintro x u3 ⟨rfl, hb3⟩; have HG3 := Lib.hid hb3; clear hb3))
  obtain ⟨W4, hW4⟩ : ∃ W4 : World, W4 = u3.alloc (.cells #[.int .i64 (f : Int)] 3) := ⟨_, rfl⟩
  rw [← hW4]
  have hB : w.heap.size + 1 < u3.heap.size := (K2.out u3 HG3.out).2.2
  have HP : Hid (OrSt w w.heap.size u3.heap.size (w.heap.size + 1) a m f W4) := Lib.hid (by
    obtain ⟨b0, b1, b2⟩ := ak1 hW4 W4 (Grow.refl _)
    have hg4 : Grow W2 W4 := HG3.out.trans (ag hW4)
    obtain ⟨c0, c1, c2⟩ := K1.out W4 hg4
    obtain ⟨d0, d1, d2⟩ := K2.out W4 hg4
    exact ⟨HG2.out.trans hg4, by omega, c2, b2, d2, b1, c0, b0, d0⟩)
  clear hW4 f0 f1 f2 g0 g1 g2
  obtain ⟨B, hBB⟩ : ∃ B, u3.heap.size = B := ⟨_, rfl⟩
  rw [hBB] at HP hB
  try rw [hBB]
  clear hBB
  have FB := Lib.hid (FC.out B (by omega) (by omega))
  have c5 := HP.out.c5
  have l5 := HP.out.l5
  go_upto_region 3 with (go_at_call 28; (with_reducible refine (FB.out _ HP.out).mono ?_); (rintro x u5 ⟨rfl, hp5⟩; have HP5 := Lib.hid hp5; clear hp5 c5 l5; have c5 := HP5.out.c5; have l5 := HP5.out.l5))
  clear hmf FC FB
  go_wp2_with fail
  go_ret
  exact ⟨rfl, HP5.out.grow⟩
end Go.Proofs.YtbpkfcohbefphaaGreatDoor
