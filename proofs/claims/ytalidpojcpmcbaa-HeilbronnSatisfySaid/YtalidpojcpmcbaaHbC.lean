/- Walk: Same, over lists of matrices. -/
import Derived.Test.YtalidpojcpmcbaaMtY
import Derived.Test.YtalidpojcpmcbaaSlA
import Derived.Deep.QuietTactic
import Derived.BigQuiet
import Derived.Laws.StructEq
import Derived.WalkKit
import Derived.WalkLawsBesides
namespace Go.Proofs.Ytalidpojcpmcbaa
open Go.RowKit

@[go_sem] theorem eq_mat (a b c d e f g h : Int) (w : World) : (Op.equalIn 10000 39 (.agg #[.int .i64 a, .int .i64 b, .int .i64 c, .int .i64 d]) (.agg #[.int .i64 e, .int .i64 f, .int .i64 g, .int .i64 h])).run Try.prog w = .ok (a == e && b == f && c == g && d == h) w := by
  have u3 := Try.underlying3
  have hS : Try.prog.underlying 39 = some (.struct (Try.prog.fieldsOf 39)) := by kernel_rfl
  rw [show (10000 : Nat) = 9999 + 1 from rfl, run_equalIn_struct w 9999 39 _ _ hS (by kernel_rfl)]
  simp only [Program.fieldsOf, Try.underlying39]
  go_simp
  by_cases h1 : a = e <;> by_cases h2 : b = f <;> by_cases h3 : c = g <;> by_cases h4 : d = h <;> simp [h1, h2, h3, h4]

theorem sameM_full (l1 l2 : List M2) (b1 o1 c1 b2 o2 c2 : Nat) (hlen : l1.length = l2.length) (hl : l1.length ≤ 1152921504606846976) (w : World)
    (h1 : ∀ j, j < l1.length → at4 (fun i => w.cell? ⟨b1, i, none⟩) (o1 + j * 4) (l1.getD j M2.zero)) (h2 : ∀ j, j < l2.length → at4 (fun i => w.cell? ⟨b2, i, none⟩) (o2 + j * 4) (l2.getD j M2.zero)) (R : Bool) (HR : Hid (R = true ↔ l1 = l2)) :
    Calls Try.prog 15 #[.slice (some ⟨b1, o1, none⟩) l1.length c1, .slice (some ⟨b2, o2, none⟩) l1.length c2] w fun e w' => e = .returned (.bool R) ∧ Grow w w' := by
  have H1 := Lib.hid h1
  have H2 := Lib.hid h2
  have HL := Lib.hid hlen
  clear h1 h2 hlen
  generalize hn : l1.length = n at *
  have HN := Lib.hid hn
  clear hn
  go_enter Try.func15, Try.ntmps15
  go_wp2_with fail
  go_loopw [5] (fun i wr => ∃ k : Nat, k ≤ n ∧ i = .int .i64 k ∧ Hid (l1.take k = l2.take k) ∧ ∃ d, wr = w.drewN d) (fun i _ => n - (intOf i).toNat)
  case atStart => exact ⟨0, Nat.zero_le _, rfl, rfl, 0, rfl⟩
  case round =>
    obtain ⟨k, hk, rfl, ht, d, rfl⟩ := hrel
    by_cases hlt : k < n
    · obtain ⟨d1, d2, d3, d4⟩ := H1.out k hlt
      obtain ⟨d5, d6, d7, d8⟩ := H2.out k (by have := HL.out; omega)
      have hkn : (k : Int) < n := by omega
      have hk0 : (0 : Int) ≤ k := by omega
      generalize hx : l1.getD k M2.zero = x at *
      generalize hy : l2.getD k M2.zero = y at *
      have HX := Lib.hid hx
      have HY := Lib.hid hy
      clear hx hy
      simp only at d1 d2 d3 d4 d5 d6 d7 d8
      obtain ⟨E, hE⟩ : ∃ E : Bool, (x.a == y.a && x.b == y.b && x.c == y.c && x.d == y.d) = E := ⟨_, rfl⟩
      have hEi : E = true ↔ x = y := by
        rw [← hE]; cases x; cases y; simp [and_assoc]
      have HEI := Lib.hid hEi
      clear hEi
      have hE2 : Hid ((x.a == y.a && x.b == y.b && x.c == y.c && x.d == y.d) = E) := hE
      have e1 : ∃ A B C D : Bool, (x.a == y.a) = A ∧ (x.b == y.b) = B ∧ (x.c == y.c) = C ∧ (x.d == y.d) = D ∧ (A && B && C && D) = E := ⟨_, _, _, _, rfl, rfl, rfl, rfl, hE⟩
      obtain ⟨A, B, C, D, e1, e2, e3, e4, e5⟩ := e1
      clear hE
      cases E with
      | true =>
        have HE := Lib.hid (HEI.out.1 rfl)
        obtain ⟨rfl, rfl, rfl, rfl⟩ : A = true ∧ B = true ∧ C = true ∧ D = true := by revert e5; cases A <;> cases B <;> cases C <;> cases D <;> simp
        clear e5 hE2 HEI
        go_wp2_with fail
        go_quiet (fail)
        go_wp2
        go_roundw
        case rel => exact ⟨k + 1, by omega, by go_num, (by rw [take_snocM l1 k (by have := HN.out; omega), take_snocM l2 k (by have := HL.out; omega), ht.out, HX.out, HY.out, HE.out] : l1.take (k + 1) = l2.take (k + 1)), _, rfl⟩
        case measure => simp [intOf]; omega
      | false =>
        have hne : ¬ x = y := fun h => by have := HEI.out.2 h; simp at this
        have hRf : R = false := by
          rw [← Bool.not_eq_true, HR.out]
          intro h
          apply hne
          rw [← HX.out, ← HY.out, h]
        subst hRf
        have hcase : A = false ∨ (A = true ∧ B = false) ∨ (A = true ∧ B = true ∧ C = false) ∨ (A = true ∧ B = true ∧ C = true ∧ D = false) := by revert e5; cases A <;> cases B <;> cases C <;> cases D <;> simp
        clear e5 hE2 HEI hne
        rcases hcase with rfl | ⟨rfl, rfl⟩ | ⟨rfl, rfl, rfl⟩ | ⟨rfl, rfl, rfl, rfl⟩
        all_goals (
          go_wp2_with fail
          go_quiet (fail)
          go_wp2
          go_ret
          exact ⟨rfl, by (repeat (first | with_reducible exact Grow.refl _ | with_reducible refine Grow.alloc ?_ _ | with_reducible refine Grow.drew ?_ | with_reducible refine Grow.drewN ?_ _ | (with_reducible refine Grow.setCell ?_ ?hp _; (case hp => (simp; try omega))) | with_reducible refine Grow.trans ?_ (by assumption)))⟩)
    · have hkn : k = n := by omega
      have hR : R = true := by
        rw [HR.out]
        have h3 := ht.out
        rw [List.take_of_length_le (by have := HN.out; omega), List.take_of_length_le (by have := HL.out; omega)] at h3
        exact h3
      subst hR
      subst hkn
      go_wp2
      go_ret
      exact ⟨rfl, by (repeat (first | with_reducible exact Grow.refl _ | with_reducible refine Grow.alloc ?_ _ | with_reducible refine Grow.drew ?_ | with_reducible refine Grow.drewN ?_ _ | (with_reducible refine Grow.setCell ?_ ?hp _; (case hp => (simp; try omega))) | with_reducible refine Grow.trans ?_ (by assumption)))⟩

theorem sameM_none (a1 a2 : Option Addr) (c1 c2 : Nat) (w : World) :
    Calls Try.prog 15 #[.slice a1 0 c1, .slice a2 0 c2] w fun e w' => e = .returned (.bool true) ∧ Grow w w' := by
  go_enter Try.func15, Try.ntmps15
  go_wp2_with fail
  go_loopw [5] (fun i wr => i = .int .i64 0 ∧ wr = w) (fun _ _ => 0)
  case atStart => exact ⟨rfl, rfl⟩
  case round =>
    obtain ⟨rfl, rfl⟩ := hrel
    go_wp2
    go_ret
    exact ⟨rfl, by (repeat (first | with_reducible exact Grow.refl _ | with_reducible refine Grow.alloc ?_ _ | with_reducible refine Grow.drew ?_ | with_reducible refine Grow.drewN ?_ _ | (with_reducible refine Grow.setCell ?_ ?hp _; (case hp => (simp; try omega))) | with_reducible refine Grow.trans ?_ (by assumption)))⟩
theorem sameM_len (a1 a2 : Option Addr) (n1 n2 c1 c2 : Nat) (h : n1 ≠ n2) (w : World) :
    Calls Try.prog 15 #[.slice a1 n1 c1, .slice a2 n2 c2] w fun e w' => e = .returned (.bool false) ∧ Grow w w' := by
  have h1 : ((n1 : Int) != n2) = true := by rw [bne_iff_ne]; omega
  go_enter Try.func15, Try.ntmps15
  go_wp2
  go_ret
  exact ⟨rfl, by (repeat (first | with_reducible exact Grow.refl _ | with_reducible refine Grow.alloc ?_ _ | with_reducible refine Grow.drew ?_ | with_reducible refine Grow.drewN ?_ _ | (with_reducible refine Grow.setCell ?_ ?hp _; (case hp => (simp; try omega))) | with_reducible refine Grow.trans ?_ (by assumption)))⟩
theorem sameM_any (l1 l2 : List M2) (v1 v2 : Value) (hl : l1.length ≤ 1152921504606846976) (w : World) (h1 : RdMats w v1 l1) (h2 : RdMats w v2 l2) (R : Bool) (hR : R = true ↔ l1 = l2) :
    Calls Try.prog 15 #[v1, v2] w fun e w' => e = .returned (.bool R) ∧ Grow w w' := by
  by_cases hn : l1.length = l2.length
  · by_cases h0 : l1.length = 0
    · obtain ⟨a1, c1, rfl⟩ := h1.form
      obtain ⟨a2, c2, rfl⟩ := h2.form
      have e1 : l1 = [] := List.eq_nil_of_length_eq_zero h0
      have e2 : l2 = [] := List.eq_nil_of_length_eq_zero (by omega)
      subst e1
      subst e2
      have : R = true := by simp [hR]
      subst this
      exact sameM_none a1 a2 c1 c2 w
    · rcases h1 with ⟨_, _, _, rfl⟩ | ⟨b1, o1, c1, rfl, hb1, _, hc1⟩
      · simp at h0
      · rcases h2 with ⟨_, _, _, rfl⟩ | ⟨b2, o2, c2, rfl, hb2, _, hc2⟩
        · simp at hn; simp [hn] at h0
        · have := sameM_full l1 l2 b1 o1 c1 b2 o2 c2 hn hl w hc1 hc2 R (Lib.hid hR)
          rw [← hn]
          exact this
  · obtain ⟨a1, c1, rfl⟩ := h1.form
    obtain ⟨a2, c2, rfl⟩ := h2.form
    have e : R = false := by
      rw [← Bool.not_eq_true, hR]
      intro h; exact hn (by rw [h])
    rw [e]
    exact sameM_len a1 a2 _ _ c1 c2 hn w
theorem sameM_same (l : List M2) (v1 v2 : Value) (hl : l.length ≤ 1152921504606846976) (w : World) (h1 : RdMats w v1 l) (h2 : RdMats w v2 l) :
    Calls Try.prog 15 #[v1, v2] w fun e w' => e = .returned (.bool true) ∧ Grow w w' :=
  sameM_any l l v1 v2 hl w h1 h2 true (by simp)
end Go.Proofs.Ytalidpojcpmcbaa
