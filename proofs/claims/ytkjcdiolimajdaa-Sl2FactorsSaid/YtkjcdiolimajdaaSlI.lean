/- Walks: Abelian of the program and of the reference. -/
import Derived.Test.YtkjcdiolimajdaaSlH
import Derived.Test.YtkjcdiolimajdaaSlR
import Derived.Test.YtkjcdiolimajdaaPlD
namespace Go.Proofs.Ytkjcdiolimajdaa
open Go.RowKit

theorem facW_len (m : M2) : 1 ≤ (facW m).exps.length ∧ (facW m).exps.length ≤ 32 := by
  have := facL_len 31 m
  simp only [facW, List.length_append, List.length_cons, List.length_nil]
  omega

set_option maxHeartbeats 2000000 in
theorem abelian_ok (m : M2) (h0 : checkF m = 0) (ng : Bool) (l : List Int) (hl : Hid ((facW m).neg = ng ∧ (facW m).exps = l)) (hl1 : 1 ≤ l.length) (hl2 : l.length ≤ 32) (w : World) :
    Calls Try.prog 20 #[.agg #[.int .i64 m.a, .int .i64 m.b, .int .i64 m.c, .int .i64 m.d]] w fun e w' =>
      e = .returned (.tuple #[.int .i64 (abW ⟨ng, l⟩), .int .i64 0]) ∧ Grow w w' := by
  have hF : facF m = (⟨ng, l⟩, 0) := by
    rw [← hl.out.1, ← hl.out.2]; simp [facF, h0]
  have F : Hid (∀ w : World, Calls Try.prog 29 #[.agg #[.int .i64 m.a, .int .i64 m.b, .int .i64 m.c, .int .i64 m.d]] w fun e w' =>
      ∃ v, e = .returned (.tuple #[.agg #[.bool ng, v], .int .i64 0]) ∧ OwnInts w' w.heap.size v l ∧ Grow w w') := by
    intro w
    have h := factor_any m w
    rw [hF] at h
    exact h
  clear hF hl h0
  go_enter Try.func20, Try.ntmps20
  go_wp2_with fail
  go_at_call 29
  refine (F.out _).mono ?_
  rintro e w1 ⟨v, rfl, hown, hb⟩
  obtain ⟨g, cap, hv, hg1, hg2⟩ := own_slice hown (by omega)
  have hcell : ∀ j, j < l.length → w1.cell? ⟨g, j, none⟩ = some (.int .i64 (l.getD j 0)) := by
    intro j hj
    rcases hown.rd with ⟨a, cp, h1, h2⟩ | ⟨b, off, cp, h1, h2, h3⟩
    · rw [h2] at hj; simp at hj
    · rw [hv] at h1
      simp at h1
      obtain ⟨⟨rfl, rfl⟩, _⟩ := h1
      have := h3 j hj
      simpa using this
  have hbd := sumMod_bd
  have HC := Lib.hid hcell
  have HB := Lib.hid hb
  have HBD := Lib.hid hbd
  rw [hv]
  clear hcell hown hb hbd hv
  go_wp2_with fail
  go_loop [6, 25] (fun c i => ∃ k : Nat, k ≤ l.length ∧ i = .int .i64 k ∧ c = .int .i64 (9 * ((l.length : Int) - 1) + sumMod (l.take k))) (fun _ i => l.length - (intOf i).toNat)
  case atStart => exact ⟨0, Nat.zero_le _, rfl, by simp [sumMod]⟩
  case round =>
    obtain ⟨k, hk, rfl, rfl⟩ := hrel
    obtain ⟨b1, b2⟩ := HBD.out (l.take k)
    have hlk : (l.take k).length ≤ 32 := by rw [List.length_take]; omega
    have b3 : -384 ≤ sumMod (l.take k) := by omega
    have b4 : sumMod (l.take k) ≤ 384 := by omega
    have HTL := Lib.hid hlk
    clear b1 b2 hlk
    by_cases hlt : k < l.length
    · have hc := HC.out k hlt
      have hs := sumMod_snoc (l.take k) (l.getD k 0)
      rw [← take_snoc l k hlt] at hs
      have HS := Lib.hid hs
      clear hs
      generalize l.getD k 0 = x at *
      have hm : (x.tmod 12).natAbs < 12 := by rw [Int.natAbs_tmod]; exact Nat.mod_lt _ (by decide)
      obtain ⟨t, ht⟩ : ∃ t, x.tmod 12 = t := ⟨_, rfl⟩
      rw [ht] at hm HS
      have m1 : -12 ≤ t := by omega
      have m2 : t ≤ 12 := by omega
      clear hm
      obtain ⟨s, hs⟩ : ∃ s, sumMod (l.take k) = s := ⟨_, rfl⟩
      rw [hs] at HS b3 b4 ⊢
      clear hs
      have l3 : (1 : Int) ≤ l.length := by omega
      have l4 : (l.length : Int) ≤ 32 := by omega
      go_wp2
      go_round
      case rel => exact ⟨k + 1, by omega, by go_num, by rw [HS.out, Int.add_assoc]⟩
      case measure => simp [intOf]; omega
    · have hkl : k = l.length := by omega
      have ht : l.take k = l := List.take_of_length_le (by omega)
      rw [ht] at b3 b4 ⊢
      subst hkl
      have l3 : (1 : Int) ≤ l.length := by omega
      have l4 : (l.length : Int) ≤ 32 := by omega
      have ha : abW ⟨ng, l⟩ = (((9 * ((l.length : Int) - 1) + sumMod l + (if ng then 6 else 0)).tmod 12) + 12).tmod 12 := rfl
      have HA := Lib.hid ha
      clear ha ht HTL
      generalize sumMod l = s at *
      cases ng with
      | true =>
        obtain ⟨t, ht⟩ : ∃ t, (9 * ((l.length : Int) - 1) + s + 6).tmod 12 = t := ⟨_, rfl⟩
        have hm : t.natAbs < 12 := by rw [← ht, Int.natAbs_tmod]; exact Nat.mod_lt _ (by decide)
        have m1 : -12 < t := by omega
        have m2 : t < 12 := by omega
        clear hm
        go_wp2
        go_ret2
        exact ⟨by rw [HA.out]; simp [ht]; rw [Int.tmod_eq_emod_of_nonneg (by omega)]; omega, by have hgb := HB.out; (repeat (first | with_reducible exact Grow.refl _ | with_reducible refine Grow.alloc ?_ _ | with_reducible refine Grow.drew ?_ | with_reducible refine Grow.drewN ?_ _ | (with_reducible refine Grow.setCell ?_ ?hp _; (case hp => (simp; try omega))) | with_reducible refine Grow.trans ?_ (by assumption)))⟩
      | false =>
        obtain ⟨t, ht⟩ : ∃ t, (9 * ((l.length : Int) - 1) + s).tmod 12 = t := ⟨_, rfl⟩
        have hm : t.natAbs < 12 := by rw [← ht, Int.natAbs_tmod]; exact Nat.mod_lt _ (by decide)
        have m1 : -12 < t := by omega
        have m2 : t < 12 := by omega
        clear hm
        go_wp2
        go_ret2
        exact ⟨by rw [HA.out]; simp [ht]; rw [Int.tmod_eq_emod_of_nonneg (by omega)]; omega, by have hgb := HB.out; (repeat (first | with_reducible exact Grow.refl _ | with_reducible refine Grow.alloc ?_ _ | with_reducible refine Grow.drew ?_ | with_reducible refine Grow.drewN ?_ _ | (with_reducible refine Grow.setCell ?_ ?hp _; (case hp => (simp; try omega))) | with_reducible refine Grow.trans ?_ (by assumption)))⟩

theorem abelian_any (m : M2) (w : World) :
    Calls Try.prog 20 #[.agg #[.int .i64 m.a, .int .i64 m.b, .int .i64 m.c, .int .i64 m.d]] w fun e w' => e = .returned (.tuple #[.int .i64 (abF m).1, .int .i64 (abF m).2]) ∧ Grow w w' := by
  by_cases h0 : checkF m = 0
  · have hu : abF m = (abW (facW m), 0) := by simp [abF, h0]
    rw [hu]
    have h := abelian_ok m h0 _ _ (Lib.hid ⟨rfl, rfl⟩) (facW_len m).1 (facW_len m).2 w
    exact h
  · have hu : abF m = (0, checkF m) := by simp [abF, h0]
    rw [hu]
    have F := Lib.hid (fun w : World => factor_err m h0 w)
    have k1 : (checkF m == 0) = false := by simpa using h0
    have k2 : (checkF m != 0) = true := by simpa using h0
    clear h0 hu
    go_enter Try.func20, Try.ntmps20
    go_wp2_with fail
    (go_at_call 29; refine (F.out _).mono ?_; rintro e w1 ⟨rfl, hb1⟩; have hc1 := hb1.cells; have hf1 := hb1.frees; have hz1 := hb1.size; (try simp at hz1))
    have zw1_0 : w.heap.size < w1.heap.size := (by omega)
    go_wp2_with fail
    go_ret2
    exact ⟨rfl, by (repeat (first | with_reducible exact Grow.refl _ | with_reducible refine Grow.alloc ?_ _ | with_reducible refine Grow.drew ?_ | with_reducible refine Grow.drewN ?_ _ | (with_reducible refine Grow.setCell ?_ ?hp _; (case hp => (simp; try omega))) | with_reducible refine Grow.trans ?_ (by assumption)))⟩

set_option maxHeartbeats 2000000 in
theorem refAbelian_ok (m : M2) (h0 : checkF m = 0) (ng : Bool) (l : List Int) (hl : Hid ((facW m).neg = ng ∧ (facW m).exps = l)) (hl1 : 1 ≤ l.length) (hl2 : l.length ≤ 32) (w : World) :
    Calls Try.prog 21 #[.agg #[.int .i64 m.a, .int .i64 m.b, .int .i64 m.c, .int .i64 m.d]] w fun e w' =>
      e = .returned (.tuple #[.int .i64 (abW ⟨ng, l⟩), .int .i64 0]) ∧ Grow w w' := by
  have hF : facF m = (⟨ng, l⟩, 0) := by
    rw [← hl.out.1, ← hl.out.2]; simp [facF, h0]
  have F : Hid (∀ w : World, Calls Try.prog 30 #[.agg #[.int .i64 m.a, .int .i64 m.b, .int .i64 m.c, .int .i64 m.d]] w fun e w' =>
      ∃ v, e = .returned (.tuple #[.agg #[.bool ng, v], .int .i64 0]) ∧ OwnInts w' w.heap.size v l ∧ Grow w w') := by
    intro w
    have h := refFactor_any m w
    rw [hF] at h
    exact h
  clear hF hl h0
  go_enter Try.func21, Try.ntmps21
  go_wp2_with fail
  go_at_call 30
  refine (F.out _).mono ?_
  rintro e w1 ⟨v, rfl, hown, hb⟩
  obtain ⟨g, cap, hv, hg1, hg2⟩ := own_slice hown (by omega)
  have hcell : ∀ j, j < l.length → w1.cell? ⟨g, j, none⟩ = some (.int .i64 (l.getD j 0)) := by
    intro j hj
    rcases hown.rd with ⟨a, cp, h1, h2⟩ | ⟨b, off, cp, h1, h2, h3⟩
    · rw [h2] at hj; simp at hj
    · rw [hv] at h1
      simp at h1
      obtain ⟨⟨rfl, rfl⟩, _⟩ := h1
      have := h3 j hj
      simpa using this
  have hbd := sumMod_bd
  have HC := Lib.hid hcell
  have HB := Lib.hid hb
  have HBD := Lib.hid hbd
  rw [hv]
  clear hcell hown hb hbd hv
  go_wp2_with fail
  go_loop [6, 7] (fun c i => ∃ k : Nat, k ≤ l.length ∧ i = .int .i64 k ∧ c = .int .i64 (9 * ((l.length : Int) - 1) + sumMod (l.take k))) (fun _ i => l.length - (intOf i).toNat)
  case atStart => exact ⟨0, Nat.zero_le _, rfl, by simp [sumMod]⟩
  case round =>
    obtain ⟨k, hk, rfl, rfl⟩ := hrel
    obtain ⟨b1, b2⟩ := HBD.out (l.take k)
    have hlk : (l.take k).length ≤ 32 := by rw [List.length_take]; omega
    have b3 : -384 ≤ sumMod (l.take k) := by omega
    have b4 : sumMod (l.take k) ≤ 384 := by omega
    have HTL := Lib.hid hlk
    clear b1 b2 hlk
    by_cases hlt : k < l.length
    · have hc := HC.out k hlt
      have hs := sumMod_snoc (l.take k) (l.getD k 0)
      rw [← take_snoc l k hlt] at hs
      have HS := Lib.hid hs
      clear hs
      generalize l.getD k 0 = x at *
      have hm : (x.tmod 12).natAbs < 12 := by rw [Int.natAbs_tmod]; exact Nat.mod_lt _ (by decide)
      obtain ⟨t, ht⟩ : ∃ t, x.tmod 12 = t := ⟨_, rfl⟩
      rw [ht] at hm HS
      have m1 : -12 ≤ t := by omega
      have m2 : t ≤ 12 := by omega
      clear hm
      obtain ⟨s, hs⟩ : ∃ s, sumMod (l.take k) = s := ⟨_, rfl⟩
      rw [hs] at HS b3 b4 ⊢
      clear hs
      have l3 : (1 : Int) ≤ l.length := by omega
      have l4 : (l.length : Int) ≤ 32 := by omega
      go_wp2
      go_round
      case rel => exact ⟨k + 1, by omega, by go_num, by rw [HS.out, Int.add_assoc]⟩
      case measure => simp [intOf]; omega
    · have hkl : k = l.length := by omega
      have ht : l.take k = l := List.take_of_length_le (by omega)
      rw [ht] at b3 b4 ⊢
      subst hkl
      have l3 : (1 : Int) ≤ l.length := by omega
      have l4 : (l.length : Int) ≤ 32 := by omega
      have ha : abW ⟨ng, l⟩ = (((9 * ((l.length : Int) - 1) + sumMod l + (if ng then 6 else 0)).tmod 12) + 12).tmod 12 := rfl
      have HA := Lib.hid ha
      clear ha ht HTL
      generalize sumMod l = s at *
      cases ng with
      | true =>
        obtain ⟨t, ht⟩ : ∃ t, (9 * ((l.length : Int) - 1) + s + 6).tmod 12 = t := ⟨_, rfl⟩
        have hm : t.natAbs < 12 := by rw [← ht, Int.natAbs_tmod]; exact Nat.mod_lt _ (by decide)
        have m1 : -12 < t := by omega
        have m2 : t < 12 := by omega
        clear hm
        go_wp2
        go_ret2
        exact ⟨by rw [HA.out]; simp [ht]; rw [Int.tmod_eq_emod_of_nonneg (by omega)]; omega, by have hgb := HB.out; (repeat (first | with_reducible exact Grow.refl _ | with_reducible refine Grow.alloc ?_ _ | with_reducible refine Grow.drew ?_ | with_reducible refine Grow.drewN ?_ _ | (with_reducible refine Grow.setCell ?_ ?hp _; (case hp => (simp; try omega))) | with_reducible refine Grow.trans ?_ (by assumption)))⟩
      | false =>
        obtain ⟨t, ht⟩ : ∃ t, (9 * ((l.length : Int) - 1) + s).tmod 12 = t := ⟨_, rfl⟩
        have hm : t.natAbs < 12 := by rw [← ht, Int.natAbs_tmod]; exact Nat.mod_lt _ (by decide)
        have m1 : -12 < t := by omega
        have m2 : t < 12 := by omega
        clear hm
        go_wp2
        go_ret2
        exact ⟨by rw [HA.out]; simp [ht]; rw [Int.tmod_eq_emod_of_nonneg (by omega)]; omega, by have hgb := HB.out; (repeat (first | with_reducible exact Grow.refl _ | with_reducible refine Grow.alloc ?_ _ | with_reducible refine Grow.drew ?_ | with_reducible refine Grow.drewN ?_ _ | (with_reducible refine Grow.setCell ?_ ?hp _; (case hp => (simp; try omega))) | with_reducible refine Grow.trans ?_ (by assumption)))⟩

theorem refAbelian_any (m : M2) (w : World) :
    Calls Try.prog 21 #[.agg #[.int .i64 m.a, .int .i64 m.b, .int .i64 m.c, .int .i64 m.d]] w fun e w' => e = .returned (.tuple #[.int .i64 (abF m).1, .int .i64 (abF m).2]) ∧ Grow w w' := by
  by_cases h0 : checkF m = 0
  · have hu : abF m = (abW (facW m), 0) := by simp [abF, h0]
    rw [hu]
    have h := refAbelian_ok m h0 _ _ (Lib.hid ⟨rfl, rfl⟩) (facW_len m).1 (facW_len m).2 w
    exact h
  · have hu : abF m = (0, checkF m) := by simp [abF, h0]
    rw [hu]
    have F := Lib.hid (fun w : World => refFactor_err m h0 w)
    have k1 : (checkF m == 0) = false := by simpa using h0
    have k2 : (checkF m != 0) = true := by simpa using h0
    clear h0 hu
    go_enter Try.func21, Try.ntmps21
    go_wp2_with fail
    (go_at_call 30; refine (F.out _).mono ?_; rintro e w1 ⟨rfl, hb1⟩; have hc1 := hb1.cells; have hf1 := hb1.frees; have hz1 := hb1.size; (try simp at hz1))
    have zw1_0 : w.heap.size < w1.heap.size := (by omega)
    go_wp2_with fail
    go_ret2
    exact ⟨rfl, by (repeat (first | with_reducible exact Grow.refl _ | with_reducible refine Grow.alloc ?_ _ | with_reducible refine Grow.drew ?_ | with_reducible refine Grow.drewN ?_ _ | (with_reducible refine Grow.setCell ?_ ?hp _; (case hp => (simp; try omega))) | with_reducible refine Grow.trans ?_ (by assumption)))⟩
end Go.Proofs.Ytkjcdiolimajdaa
