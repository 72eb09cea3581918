/- Walks: Same and neighbours, over lists of cusps. -/
import Derived.Test.YtfjlecphjahahaaPlN
import Derived.Test.YtfjlecphjahahaaSlA
import Derived.Deep.QuietTactic
import Derived.BigQuiet
import Derived.Laws.StructEq
namespace Go.Proofs.Ytfjlecphjahahaa
open Go.RowKit

@[go_sem] theorem eq_cusp (a b c d : Int) (w : World) : (Op.equalIn 10000 29 (.agg #[.int .i64 a, .int .i64 b]) (.agg #[.int .i64 c, .int .i64 d])).run Try.prog w = .ok (a == c && b == d) w := by
  have u3 := Try.underlying3
  have hS : Try.prog.underlying 29 = some (.struct (Try.prog.fieldsOf 29)) := by kernel_rfl
  rw [show (10000 : Nat) = 9999 + 1 from rfl, run_equalIn_struct w 9999 29 _ _ hS (by kernel_rfl)]
  simp only [Program.fieldsOf, Try.underlying29]
  go_simp
  by_cases h1 : a = c <;> by_cases h2 : b = d <;> simp [h1, h2]

theorem same_full (l1 l2 : List C2) (b1 o1 c1 b2 o2 c2 : Nat) (hlen : l1.length = l2.length) (hl : l1.length ≤ 1152921504606846976) (w : World)
    (h1 : ∀ j, j < l1.length → w.cell? ⟨b1, o1 + j * 2, none⟩ = some (.int .i64 (l1.getD j C2.zero).p) ∧ w.cell? ⟨b1, o1 + j * 2 + 1, none⟩ = some (.int .i64 (l1.getD j C2.zero).q)) (h2 : ∀ j, j < l2.length → w.cell? ⟨b2, o2 + j * 2, none⟩ = some (.int .i64 (l2.getD j C2.zero).p) ∧ w.cell? ⟨b2, o2 + j * 2 + 1, none⟩ = some (.int .i64 (l2.getD j C2.zero).q)) (R : Bool) (HR : Hid (R = true ↔ l1 = l2)) :
    Calls Try.prog 19 #[.slice (some ⟨b1, o1, none⟩) l1.length c1, .slice (some ⟨b2, o2, none⟩) l1.length c2] w fun e w' => e = .returned (.bool R) ∧ Grow w w' := by
  have H1 := Lib.hid h1
  have H2 := Lib.hid h2
  have HL := Lib.hid hlen
  clear h1 h2 hlen
  generalize hn : l1.length = n at *
  have HN := Lib.hid hn
  clear hn
  go_enter Try.func19, Try.ntmps19
  go_wp2_with fail
  go_loopw [5] (fun i wr => ∃ k : Nat, k ≤ n ∧ i = .int .i64 k ∧ Hid (l1.take k = l2.take k) ∧ ∃ d, wr = w.drewN d) (fun i _ => n - (intOf i).toNat)
  case atStart => exact ⟨0, Nat.zero_le _, rfl, rfl, 0, rfl⟩
  case round =>
    obtain ⟨k, hk, rfl, ht, d, rfl⟩ := hrel
    by_cases hlt : k < n
    · obtain ⟨d1, d3⟩ := H1.out k hlt
      obtain ⟨d2, d4⟩ := H2.out k (by have := HL.out; omega)
      have hkn : (k : Int) < n := by omega
      have hk0 : (0 : Int) ≤ k := by omega
      generalize hx : l1.getD k C2.zero = x at *
      generalize hy : l2.getD k C2.zero = y at *
      have HX := Lib.hid hx
      have HY := Lib.hid hy
      clear hx hy
      by_cases he : x = y
      · have e1 : (x.p == y.p) = true := by simp [he]
        have e2 : (x.q == y.q) = true := by simp [he]
        have HE := Lib.hid he
        clear he
        go_wp2_with fail
        go_quiet (fail)
        go_wp2
        go_roundw
        case rel => exact ⟨k + 1, by omega, by go_num, (by rw [take_snocC l1 k (by have := HN.out; omega), take_snocC l2 k (by have := HL.out; omega), ht.out, HX.out, HY.out, HE.out] : l1.take (k + 1) = l2.take (k + 1)), _, rfl⟩
        case measure => simp [intOf]; omega
      · have hRf : R = false := by
          rw [← Bool.not_eq_true, HR.out]
          intro h
          apply he
          rw [← HX.out, ← HY.out, h]
        subst hRf
        by_cases e0 : x.p = y.p
        · have e1 : (x.p == y.p) = true := by simp [e0]
          have e2 : (x.q == y.q) = false := by
            simp only [beq_eq_false_iff_ne, ne_eq]
            intro h; apply he; cases x; cases y; simp_all
          have HE := Lib.hid he
          clear he e0
          go_wp2_with fail
          go_quiet (fail)
          go_wp2
          go_ret
          exact ⟨rfl, by (repeat (first | with_reducible exact Grow.refl _ | with_reducible refine Grow.alloc ?_ _ | with_reducible refine Grow.drew ?_ | with_reducible refine Grow.drewN ?_ _ | (with_reducible refine Grow.setCell ?_ ?hp _; (case hp => (simp; try omega))) | with_reducible refine Grow.trans ?_ (by assumption)))⟩
        · have e1 : (x.p == y.p) = false := by simpa using e0
          have HE := Lib.hid he
          clear he e0
          go_wp2_with fail
          go_quiet (fail)
          go_wp2
          go_ret
          exact ⟨rfl, by (repeat (first | with_reducible exact Grow.refl _ | with_reducible refine Grow.alloc ?_ _ | with_reducible refine Grow.drew ?_ | with_reducible refine Grow.drewN ?_ _ | (with_reducible refine Grow.setCell ?_ ?hp _; (case hp => (simp; try omega))) | with_reducible refine Grow.trans ?_ (by assumption)))⟩
    · have hkn : k = n := by omega
      have hR : R = true := by
        rw [HR.out]
        have h3 := ht.out
        rw [List.take_of_length_le (by have := HN.out; omega), List.take_of_length_le (by have := HL.out; omega)] at h3
        exact h3
      subst hR
      subst hkn
      go_wp2
      go_ret
      exact ⟨rfl, by (repeat (first | with_reducible exact Grow.refl _ | with_reducible refine Grow.alloc ?_ _ | with_reducible refine Grow.drew ?_ | with_reducible refine Grow.drewN ?_ _ | (with_reducible refine Grow.setCell ?_ ?hp _; (case hp => (simp; try omega))) | with_reducible refine Grow.trans ?_ (by assumption)))⟩

theorem same_none (a1 a2 : Option Addr) (c1 c2 : Nat) (w : World) :
    Calls Try.prog 19 #[.slice a1 0 c1, .slice a2 0 c2] w fun e w' => e = .returned (.bool true) ∧ Grow w w' := by
  go_enter Try.func19, Try.ntmps19
  go_wp2_with fail
  go_loopw [5] (fun i wr => i = .int .i64 0 ∧ wr = w) (fun _ _ => 0)
  case atStart => exact ⟨rfl, rfl⟩
  case round =>
    obtain ⟨rfl, rfl⟩ := hrel
    go_wp2
    go_ret
    exact ⟨rfl, by (repeat (first | with_reducible exact Grow.refl _ | with_reducible refine Grow.alloc ?_ _ | with_reducible refine Grow.drew ?_ | with_reducible refine Grow.drewN ?_ _ | (with_reducible refine Grow.setCell ?_ ?hp _; (case hp => (simp; try omega))) | with_reducible refine Grow.trans ?_ (by assumption)))⟩
theorem same_len (a1 a2 : Option Addr) (n1 n2 c1 c2 : Nat) (h : n1 ≠ n2) (w : World) :
    Calls Try.prog 19 #[.slice a1 n1 c1, .slice a2 n2 c2] w fun e w' => e = .returned (.bool false) ∧ Grow w w' := by
  have h1 : ((n1 : Int) != n2) = true := by rw [bne_iff_ne]; omega
  go_enter Try.func19, Try.ntmps19
  go_wp2
  go_ret
  exact ⟨rfl, by (repeat (first | with_reducible exact Grow.refl _ | with_reducible refine Grow.alloc ?_ _ | with_reducible refine Grow.drew ?_ | with_reducible refine Grow.drewN ?_ _ | (with_reducible refine Grow.setCell ?_ ?hp _; (case hp => (simp; try omega))) | with_reducible refine Grow.trans ?_ (by assumption)))⟩
theorem same_any (l1 l2 : List C2) (v1 v2 : Value) (hl : l1.length ≤ 1152921504606846976) (w : World) (h1 : RdCusps w v1 l1) (h2 : RdCusps w v2 l2) (R : Bool) (hR : R = true ↔ l1 = l2) :
    Calls Try.prog 19 #[v1, v2] w fun e w' => e = .returned (.bool R) ∧ Grow w w' := by
  by_cases hn : l1.length = l2.length
  · by_cases h0 : l1.length = 0
    · obtain ⟨a1, c1, rfl⟩ := h1.form
      obtain ⟨a2, c2, rfl⟩ := h2.form
      have e1 : l1 = [] := List.eq_nil_of_length_eq_zero h0
      have e2 : l2 = [] := List.eq_nil_of_length_eq_zero (by omega)
      subst e1
      subst e2
      have : R = true := by simp [hR]
      subst this
      exact same_none a1 a2 c1 c2 w
    · rcases h1 with ⟨_, _, _, rfl⟩ | ⟨b1, o1, c1, rfl, hb1, _, hc1⟩
      · simp at h0
      · rcases h2 with ⟨_, _, _, rfl⟩ | ⟨b2, o2, c2, rfl, hb2, _, hc2⟩
        · simp at hn; simp [hn] at h0
        · have := same_full l1 l2 b1 o1 c1 b2 o2 c2 hn hl w hc1 hc2 R (Lib.hid hR)
          rw [← hn]
          exact this
  · obtain ⟨a1, c1, rfl⟩ := h1.form
    obtain ⟨a2, c2, rfl⟩ := h2.form
    have e : R = false := by
      rw [← Bool.not_eq_true, hR]
      intro h; exact hn (by rw [h])
    rw [e]
    exact same_len a1 a2 _ _ c1 c2 hn w
theorem same_same (l : List C2) (v1 v2 : Value) (hl : l.length ≤ 1152921504606846976) (w : World) (h1 : RdCusps w v1 l) (h2 : RdCusps w v2 l) :
    Calls Try.prog 19 #[v1, v2] w fun e w' => e = .returned (.bool true) ∧ Grow w w' :=
  same_any l l v1 v2 hl w h1 h2 true (by simp)
end Go.Proofs.Ytfjlecphjahahaa
