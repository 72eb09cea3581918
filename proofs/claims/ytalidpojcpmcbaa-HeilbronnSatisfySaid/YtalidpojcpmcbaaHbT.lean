/- Walk: fits of heilbronn. -/
import Derived.Test.YtalidpojcpmcbaaHbS
import Derived.Test.YtalidpojcpmcbaaMtY
namespace Go.Proofs.Ytalidpojcpmcbaa
open Go Go.RowKit

def okE (x : Int) : Bool := decide (-1073741824 ≤ x) && decide (x ≤ 1073741824)
theorem okE_iff {x : Int} : okE x = true ↔ x.natAbs ≤ 1073741824 := by simp [okE]; omega
def okM (m : M2) : Bool := okE m.a && okE m.b && okE m.c && okE m.d
def fitsF (m : M2) (n : Int) : Bool := okM m && (m.a * m.d - m.b * m.c == n)
theorem okM_iff {m : M2} : okM m = true ↔ (m.a.natAbs ≤ 1073741824 ∧ m.b.natAbs ≤ 1073741824 ∧ m.c.natAbs ≤ 1073741824 ∧ m.d.natAbs ≤ 1073741824) := by
  simp [okM, okE_iff, and_assoc]
def entM (m : M2) : Nat → Int
  | 0 => m.a
  | 1 => m.b
  | 2 => m.c
  | _ => m.d
theorem ent_ok {m : M2} (h : ∀ j, j < 4 → okE (entM m j) = true) : okM m = true := by
  have h0 := h 0 (by decide)
  have h1 := h 1 (by decide)
  have h2 := h 2 (by decide)
  have h3 := h 3 (by decide)
  simp only [entM] at h0 h1 h2 h3
  simp [okM, h0, h1, h2, h3]
theorem ok_ent {m : M2} {j : Nat} (h : okM m = true) : okE (entM m j) = true := by
  simp only [okM, Bool.and_eq_true] at h
  unfold entM
  split <;> simp [h]
theorem mul_abs {x y : Int} (hx : x.natAbs ≤ 1073741824) (hy : y.natAbs ≤ 1073741824) : (x * y).natAbs ≤ 1152921504606846976 := by
  rw [Int.natAbs_mul]
  exact Nat.le_trans (Nat.mul_le_mul hx hy) (by decide)

theorem ix0 (x y z u : Int) (w : World) : (Instr.index 54 (.agg #[.int .i64 x, .int .i64 y, .int .i64 z, .int .i64 u]) (.int .i64 0)).run Try.prog w = .ok (.int .i64 x) w := by
  kernel_rfl
theorem ix1 (x y z u : Int) (w : World) : (Instr.index 54 (.agg #[.int .i64 x, .int .i64 y, .int .i64 z, .int .i64 u]) (.int .i64 1)).run Try.prog w = .ok (.int .i64 y) w := by
  kernel_rfl
theorem ix2 (x y z u : Int) (w : World) : (Instr.index 54 (.agg #[.int .i64 x, .int .i64 y, .int .i64 z, .int .i64 u]) (.int .i64 2)).run Try.prog w = .ok (.int .i64 z) w := by
  kernel_rfl
theorem ix3 (x y z u : Int) (w : World) : (Instr.index 54 (.agg #[.int .i64 x, .int .i64 y, .int .i64 z, .int .i64 u]) (.int .i64 3)).run Try.prog w = .ok (.int .i64 u) w := by
  kernel_rfl
set_option maxHeartbeats 1000000 in
theorem fits_any (m : M2) (n : Int) (w : World) :
    Calls Try.prog 29 #[.agg #[.int .i64 m.a, .int .i64 m.b, .int .i64 m.c, .int .i64 m.d], .int .i64 n] w fun e w' => e = .returned (.bool (fitsF m n)) ∧ Grow w w' := by
  obtain ⟨F, hF⟩ : ∃ F, fitsF m n = F := ⟨_, rfl⟩
  rw [hF]
  have HF := Lib.hid hF
  clear hF
  go_enter Try.func29, Try.ntmps29
  go_wp2_with fail
  go_loopw [16] (fun i wr => ∃ k : Nat, k ≤ 4 ∧ i = .int .i64 k ∧ Hid (∀ j, j < k → okE (entM m j) = true) ∧ wr = w.alloc (.cells #[.int .i64 m.a, .int .i64 m.b, .int .i64 m.c, .int .i64 m.d] 39)) (fun i _ => 4 - (intOf i).toNat)
  case atStart => exact ⟨0, by omega, rfl, (fun j hj => absurd hj (by omega)), rfl⟩
  case round =>
    obtain ⟨k, hk, rfl, ht, rfl⟩ := hrel
    rcases (by omega : k = 0 ∨ k = 1 ∨ k = 2 ∨ k = 3 ∨ k = 4) with rfl | rfl | rfl | rfl | rfl
    · have hix := ix0 m.a m.b m.c m.d (w.alloc (.cells #[.int .i64 m.a, .int .i64 m.b, .int .i64 m.c, .int .i64 m.d] 39))
      have hb := okE_iff (x := m.a)
      by_cases hx : m.a.natAbs ≤ 1073741824
      · have h1 := ht.out
        have h2 : ∀ j, j < 0 + 1 → okE (entM m j) = true := fun j hj => by
          by_cases hjk : j < 0
          · exact h1 j hjk
          · have he : j = 0 := by omega
            subst he; exact hb.2 hx
        have H2 := Lib.hid h2
        clear h1 h2 hb ht
        have l1 : ¬ m.a < -1073741824 := by omega
        have l2 : ¬ 1073741824 < m.a := by omega
        clear hx
        go_wp2_with fail
        go_roundw
        case measure => simp [intOf]
        case rel => exact ⟨0 + 1, by decide, rfl, H2.out, trivial⟩
      · have hfalse : fitsF m n = false := by
          have h1 : okM m = false := by
            cases h : okM m with
            | false => rfl
            | true => exact absurd (okM_iff.1 h) (by simp; omega)
          simp [fitsF, h1]
        have hFF : F = false := by rw [← HF.out, hfalse]
        subst hFF
        clear hb hfalse ht
        by_cases l1 : m.a < -1073741824
        · clear hx
          go_wp2_with fail
          go_ret
          exact ⟨rfl, by (repeat (first | with_reducible exact Grow.refl _ | with_reducible refine Grow.alloc ?_ _ | with_reducible refine Grow.drew ?_ | with_reducible refine Grow.drewN ?_ _ | (with_reducible refine Grow.setCell ?_ ?hp _; (case hp => (simp; try omega))) | with_reducible refine Grow.trans ?_ (by assumption)))⟩
        · have l2 : 1073741824 < m.a := by omega
          clear hx
          go_wp2_with fail
          go_ret
          exact ⟨rfl, by (repeat (first | with_reducible exact Grow.refl _ | with_reducible refine Grow.alloc ?_ _ | with_reducible refine Grow.drew ?_ | with_reducible refine Grow.drewN ?_ _ | (with_reducible refine Grow.setCell ?_ ?hp _; (case hp => (simp; try omega))) | with_reducible refine Grow.trans ?_ (by assumption)))⟩
    · have hix := ix1 m.a m.b m.c m.d (w.alloc (.cells #[.int .i64 m.a, .int .i64 m.b, .int .i64 m.c, .int .i64 m.d] 39))
      have hb := okE_iff (x := m.b)
      by_cases hx : m.b.natAbs ≤ 1073741824
      · have h1 := ht.out
        have h2 : ∀ j, j < 1 + 1 → okE (entM m j) = true := fun j hj => by
          by_cases hjk : j < 1
          · exact h1 j hjk
          · have he : j = 1 := by omega
            subst he; exact hb.2 hx
        have H2 := Lib.hid h2
        clear h1 h2 hb ht
        have l1 : ¬ m.b < -1073741824 := by omega
        have l2 : ¬ 1073741824 < m.b := by omega
        clear hx
        go_wp2_with fail
        go_roundw
        case measure => simp [intOf]
        case rel => exact ⟨1 + 1, by decide, rfl, H2.out, trivial⟩
      · have hfalse : fitsF m n = false := by
          have h1 : okM m = false := by
            cases h : okM m with
            | false => rfl
            | true => exact absurd (okM_iff.1 h) (by simp; omega)
          simp [fitsF, h1]
        have hFF : F = false := by rw [← HF.out, hfalse]
        subst hFF
        clear hb hfalse ht
        by_cases l1 : m.b < -1073741824
        · clear hx
          go_wp2_with fail
          go_ret
          exact ⟨rfl, by (repeat (first | with_reducible exact Grow.refl _ | with_reducible refine Grow.alloc ?_ _ | with_reducible refine Grow.drew ?_ | with_reducible refine Grow.drewN ?_ _ | (with_reducible refine Grow.setCell ?_ ?hp _; (case hp => (simp; try omega))) | with_reducible refine Grow.trans ?_ (by assumption)))⟩
        · have l2 : 1073741824 < m.b := by omega
          clear hx
          go_wp2_with fail
          go_ret
          exact ⟨rfl, by (repeat (first | with_reducible exact Grow.refl _ | with_reducible refine Grow.alloc ?_ _ | with_reducible refine Grow.drew ?_ | with_reducible refine Grow.drewN ?_ _ | (with_reducible refine Grow.setCell ?_ ?hp _; (case hp => (simp; try omega))) | with_reducible refine Grow.trans ?_ (by assumption)))⟩
    · have hix := ix2 m.a m.b m.c m.d (w.alloc (.cells #[.int .i64 m.a, .int .i64 m.b, .int .i64 m.c, .int .i64 m.d] 39))
      have hb := okE_iff (x := m.c)
      by_cases hx : m.c.natAbs ≤ 1073741824
      · have h1 := ht.out
        have h2 : ∀ j, j < 2 + 1 → okE (entM m j) = true := fun j hj => by
          by_cases hjk : j < 2
          · exact h1 j hjk
          · have he : j = 2 := by omega
            subst he; exact hb.2 hx
        have H2 := Lib.hid h2
        clear h1 h2 hb ht
        have l1 : ¬ m.c < -1073741824 := by omega
        have l2 : ¬ 1073741824 < m.c := by omega
        clear hx
        go_wp2_with fail
        go_roundw
        case measure => simp [intOf]
        case rel => exact ⟨2 + 1, by decide, rfl, H2.out, trivial⟩
      · have hfalse : fitsF m n = false := by
          have h1 : okM m = false := by
            cases h : okM m with
            | false => rfl
            | true => exact absurd (okM_iff.1 h) (by simp; omega)
          simp [fitsF, h1]
        have hFF : F = false := by rw [← HF.out, hfalse]
        subst hFF
        clear hb hfalse ht
        by_cases l1 : m.c < -1073741824
        · clear hx
          go_wp2_with fail
          go_ret
          exact ⟨rfl, by (repeat (first | with_reducible exact Grow.refl _ | with_reducible refine Grow.alloc ?_ _ | with_reducible refine Grow.drew ?_ | with_reducible refine Grow.drewN ?_ _ | (with_reducible refine Grow.setCell ?_ ?hp _; (case hp => (simp; try omega))) | with_reducible refine Grow.trans ?_ (by assumption)))⟩
        · have l2 : 1073741824 < m.c := by omega
          clear hx
          go_wp2_with fail
          go_ret
          exact ⟨rfl, by (repeat (first | with_reducible exact Grow.refl _ | with_reducible refine Grow.alloc ?_ _ | with_reducible refine Grow.drew ?_ | with_reducible refine Grow.drewN ?_ _ | (with_reducible refine Grow.setCell ?_ ?hp _; (case hp => (simp; try omega))) | with_reducible refine Grow.trans ?_ (by assumption)))⟩
    · have hix := ix3 m.a m.b m.c m.d (w.alloc (.cells #[.int .i64 m.a, .int .i64 m.b, .int .i64 m.c, .int .i64 m.d] 39))
      have hb := okE_iff (x := m.d)
      by_cases hx : m.d.natAbs ≤ 1073741824
      · have h1 := ht.out
        have h2 : ∀ j, j < 3 + 1 → okE (entM m j) = true := fun j hj => by
          by_cases hjk : j < 3
          · exact h1 j hjk
          · have he : j = 3 := by omega
            subst he; exact hb.2 hx
        have H2 := Lib.hid h2
        clear h1 h2 hb ht
        have l1 : ¬ m.d < -1073741824 := by omega
        have l2 : ¬ 1073741824 < m.d := by omega
        clear hx
        go_wp2_with fail
        go_roundw
        case measure => simp [intOf]
        case rel => exact ⟨3 + 1, by decide, rfl, H2.out, trivial⟩
      · have hfalse : fitsF m n = false := by
          have h1 : okM m = false := by
            cases h : okM m with
            | false => rfl
            | true => exact absurd (okM_iff.1 h) (by simp; omega)
          simp [fitsF, h1]
        have hFF : F = false := by rw [← HF.out, hfalse]
        subst hFF
        clear hb hfalse ht
        by_cases l1 : m.d < -1073741824
        · clear hx
          go_wp2_with fail
          go_ret
          exact ⟨rfl, by (repeat (first | with_reducible exact Grow.refl _ | with_reducible refine Grow.alloc ?_ _ | with_reducible refine Grow.drew ?_ | with_reducible refine Grow.drewN ?_ _ | (with_reducible refine Grow.setCell ?_ ?hp _; (case hp => (simp; try omega))) | with_reducible refine Grow.trans ?_ (by assumption)))⟩
        · have l2 : 1073741824 < m.d := by omega
          clear hx
          go_wp2_with fail
          go_ret
          exact ⟨rfl, by (repeat (first | with_reducible exact Grow.refl _ | with_reducible refine Grow.alloc ?_ _ | with_reducible refine Grow.drew ?_ | with_reducible refine Grow.drewN ?_ _ | (with_reducible refine Grow.setCell ?_ ?hp _; (case hp => (simp; try omega))) | with_reducible refine Grow.trans ?_ (by assumption)))⟩
    · have hok := ent_ok (ht.out)
      obtain ⟨o1, o2, o3, o4⟩ := okM_iff.1 hok
      have b1 := mul_abs o1 o4
      have b2 := mul_abs o2 o3
      have hf : (m.a * m.d - m.b * m.c == n) = F := by rw [← HF.out]; simp [fitsF, hok]
      have y1 : IntKind.i64.wrap (m.a * m.d) = m.a * m.d := IntWalk.i64_in _ (by omega)
      have y2 : IntKind.i64.wrap (m.b * m.c) = m.b * m.c := IntWalk.i64_in _ (by omega)
      have y3 : IntKind.i64.wrap (m.a * m.d - m.b * m.c) = m.a * m.d - m.b * m.c := IntWalk.i64_in _ (by omega)
      clear hok ht HF b1 b2 o1 o2 o3 o4
      go_wp2_with fail
      go_ret
      exact ⟨rfl, by (repeat (first | with_reducible exact Grow.refl _ | with_reducible refine Grow.alloc ?_ _ | with_reducible refine Grow.drew ?_ | with_reducible refine Grow.drewN ?_ _ | (with_reducible refine Grow.setCell ?_ ?hp _; (case hp => (simp; try omega))) | with_reducible refine Grow.trans ?_ (by assumption)))⟩
end Go.Proofs.Ytalidpojcpmcbaa
