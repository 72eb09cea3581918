/- Walk: base.Ints, the comparison of two lists of ints. -/
import Derived.Test.YtfjlecphjahahaaPlW
import Derived.Test.YtfjlecphjahahaaSlA
import Derived.Deep.QuietTactic
import Derived.BigQuiet
namespace Go.Proofs.Ytfjlecphjahahaa
open Go.RowKit

/-- base.Ints: two lists in memory are compared. -/
theorem ints_full (l1 l2 : List Int) (b1 o1 c1 b2 o2 c2 : Nat) (hlen : l1.length = l2.length) (hl : l1.length ≤ 1152921504606846976) (w : World)
    (h1 : ∀ j, j < l1.length → w.cell? ⟨b1, o1 + j, none⟩ = some (.int .i64 (l1.getD j 0))) (h2 : ∀ j, j < l1.length → w.cell? ⟨b2, o2 + j, none⟩ = some (.int .i64 (l2.getD j 0))) :
    Calls Try.prog 24 #[.slice (some ⟨b1, o1, none⟩) l1.length c1, .slice (some ⟨b2, o2, none⟩) l1.length c2] w fun e w' => e = .returned (.bool (decide (l1 = l2))) ∧ Grow w w' := by
  have H1 := Lib.hid h1
  have H2 := Lib.hid h2
  have HL := Lib.hid hlen
  clear h1 h2 hlen
  generalize hn : l1.length = n at *
  go_enter Try.func24, Try.ntmps24
  go_wp2_with fail
  go_loopw [5] (fun i wr => ∃ k : Nat, k ≤ n ∧ i = .int .i64 k ∧ Hid (l1.take k = l2.take k) ∧ ∃ d, wr = w.drewN d) (fun i _ => n - (intOf i).toNat)
  case atStart => exact ⟨0, Nat.zero_le _, rfl, rfl, 0, rfl⟩
  case round =>
    obtain ⟨k, hk, rfl, ht, d, rfl⟩ := hrel
    by_cases hlt : k < n
    · have d1 := H1.out k hlt
      have d2 := H2.out k hlt
      have hkn : (k : Int) < n := by omega
      have hk0 : (0 : Int) ≤ k := by omega
      generalize hx : l1.getD k 0 = x at *
      generalize hy : l2.getD k 0 = y at *
      have HX := Lib.hid hx
      have HY := Lib.hid hy
      clear hx hy
      by_cases he : x = y
      · have e1 : (x != y) = false := by simpa using he
        have HE := Lib.hid he
        clear he
        go_wp2_with fail
        go_quiet (fail)
        go_wp2
        go_roundw
        case rel => exact ⟨k + 1, by omega, by go_num, (by rw [take_snoc l1 k (by omega), take_snoc l2 k (by have := HL.out; omega), ht.out, HX.out, HY.out, HE.out] : l1.take (k + 1) = l2.take (k + 1)), _, rfl⟩
        case measure => simp [intOf]; omega
      · have e1 : (x != y) = true := by simpa using he
        have hne : decide (l1 = l2) = false := by
          simp only [decide_eq_false_iff_not]
          intro h
          apply he
          rw [← HX.out, ← HY.out, h]
        have HNE := Lib.hid hne
        clear hne he
        go_wp2_with fail
        go_quiet (fail)
        go_wp2
        go_ret
        exact ⟨by rw [HNE.out]; rfl, by (repeat (first | with_reducible exact Grow.refl _ | with_reducible refine Grow.alloc ?_ _ | with_reducible refine Grow.drew ?_ | with_reducible refine Grow.drewN ?_ _ | (with_reducible refine Grow.setCell ?_ ?hp _; (case hp => (simp; try omega))) | with_reducible refine Grow.trans ?_ (by assumption)))⟩
    · have hkn : k = n := by omega
      have heq : decide (l1 = l2) = true := by
        have h3 := ht.out
        rw [List.take_of_length_le (by omega), List.take_of_length_le (by have := HL.out; omega)] at h3
        simp [h3]
      have HEQ := Lib.hid heq
      clear heq
      subst hkn
      go_wp2
      go_ret
      exact ⟨by rw [HEQ.out]; rfl, by (repeat (first | with_reducible exact Grow.refl _ | with_reducible refine Grow.alloc ?_ _ | with_reducible refine Grow.drew ?_ | with_reducible refine Grow.drewN ?_ _ | (with_reducible refine Grow.setCell ?_ ?hp _; (case hp => (simp; try omega))) | with_reducible refine Grow.trans ?_ (by assumption)))⟩

theorem ints_none (a1 a2 : Option Addr) (c1 c2 : Nat) (w : World) :
    Calls Try.prog 24 #[.slice a1 0 c1, .slice a2 0 c2] w fun e w' => e = .returned (.bool true) ∧ Grow w w' := by
  go_enter Try.func24, Try.ntmps24
  go_wp2_with fail
  go_loopw [5] (fun i wr => i = .int .i64 0 ∧ wr = w) (fun _ _ => 0)
  case atStart => exact ⟨rfl, rfl⟩
  case round =>
    obtain ⟨rfl, rfl⟩ := hrel
    go_wp2
    go_ret
    exact ⟨rfl, by (repeat (first | with_reducible exact Grow.refl _ | with_reducible refine Grow.alloc ?_ _ | with_reducible refine Grow.drew ?_ | with_reducible refine Grow.drewN ?_ _ | (with_reducible refine Grow.setCell ?_ ?hp _; (case hp => (simp; try omega))) | with_reducible refine Grow.trans ?_ (by assumption)))⟩
theorem ints_len (a1 a2 : Option Addr) (n1 n2 c1 c2 : Nat) (h : n1 ≠ n2) (w : World) :
    Calls Try.prog 24 #[.slice a1 n1 c1, .slice a2 n2 c2] w fun e w' => e = .returned (.bool false) ∧ Grow w w' := by
  have h1 : ((n1 : Int) != n2) = true := by rw [bne_iff_ne]; omega
  go_enter Try.func24, Try.ntmps24
  go_wp2
  go_ret
  exact ⟨rfl, by (repeat (first | with_reducible exact Grow.refl _ | with_reducible refine Grow.alloc ?_ _ | with_reducible refine Grow.drew ?_ | with_reducible refine Grow.drewN ?_ _ | (with_reducible refine Grow.setCell ?_ ?hp _; (case hp => (simp; try omega))) | with_reducible refine Grow.trans ?_ (by assumption)))⟩
theorem ints_any (l1 l2 : List Int) (v1 v2 : Value) (hl : l1.length ≤ 1152921504606846976) (w : World) (h1 : RdInts w v1 l1) (h2 : RdInts w v2 l2) :
    Calls Try.prog 24 #[v1, v2] w fun e w' => e = .returned (.bool (decide (l1 = l2))) ∧ Grow w w' := by
  by_cases hn : l1.length = l2.length
  · by_cases h0 : l1.length = 0
    · obtain ⟨a1, c1, rfl⟩ := h1.form
      obtain ⟨a2, c2, rfl⟩ := h2.form
      have e1 : l1 = [] := List.eq_nil_of_length_eq_zero h0
      have e2 : l2 = [] := List.eq_nil_of_length_eq_zero (by omega)
      subst e1
      subst e2
      exact ints_none a1 a2 c1 c2 w
    · rcases h1 with ⟨_, _, _, rfl⟩ | ⟨b1, o1, c1, rfl, hb1, hc1⟩
      · simp at h0
      · rcases h2 with ⟨_, _, _, rfl⟩ | ⟨b2, o2, c2, rfl, hb2, hc2⟩
        · simp at hn; simp [hn] at h0
        · rw [← hn] at hc2 ⊢
          exact ints_full l1 l2 b1 o1 c1 b2 o2 c2 hn hl w hc1 hc2
  · obtain ⟨a1, c1, rfl⟩ := h1.form
    obtain ⟨a2, c2, rfl⟩ := h2.form
    have e : decide (l1 = l2) = false := by
      simp only [decide_eq_false_iff_not]
      intro h; exact hn (by rw [h])
    rw [e]
    exact ints_len a1 a2 _ _ c1 c2 hn w
theorem ints_same (l : List Int) (v1 v2 : Value) (hl : l.length ≤ 1152921504606846976) (w : World) (h1 : RdInts w v1 l) (h2 : RdInts w v2 l) :
    Calls Try.prog 24 #[v1, v2] w fun e w' => e = .returned (.bool true) ∧ Grow w w' := by
  have h := ints_any l l v1 v2 hl w h1 h2
  rwa [decide_eq_true rfl] at h
end Go.Proofs.Ytfjlecphjahahaa
