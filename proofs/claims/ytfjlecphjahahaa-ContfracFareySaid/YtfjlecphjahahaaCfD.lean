/- Walk: Path of the program. -/
import Derived.Test.YtfjlecphjahahaaCfA
import Derived.Test.YtfjlecphjahahaaCfB
import Derived.Test.YtfjlecphjahahaaPlN
import Derived.Laws.OwnMore
namespace Go.Proofs.Ytfjlecphjahahaa
open Go Go.RowKit

theorem expE_len : ∀ (k : Nat) (p q : Int), (expE k p q).length ≤ k
  | 0, _, _ => by simp [expE]
  | k + 1, p, q => by
    unfold expE
    split
    · simp
    · have := expE_len k q (p % q)
      simp; omega
theorem expandF_len (c : C2) : (expandF c).1.length ≤ 1073741825 := by
  unfold expandF
  split
  · rename_i h0
    have h := (ccF_zero.1 h0).2.2.1
    have h2 := inB_iff.1 h
    split
    · simp
    · have := expE_len (c.q.toNat + 1) c.p c.q
      simp only
      omega
  · simp
theorem convR_len : ∀ (l : List Int) (a b : C2) (x : List C2), convR l a b = some x → x.length = l.length
  | [], _, _, x, h => by simp [convR] at h; subst h; rfl
  | n :: l, a, b, x, h => by
    simp only [convR] at h
    split at h
    · cases hr : convR l b ⟨n * b.p + a.p, n * b.q + a.q⟩ with
      | none => rw [hr] at h; simp at h
      | some y =>
        rw [hr] at h
        simp at h
        have := convR_len l _ _ y hr
        subst h
        simp [this]
    · simp at h
theorem convF_len (l : List Int) : (convF l).1.length ≤ 64 := by
  unfold convF
  split
  · simp
  · split
    · simp
    · split
      · cases hr : convR l ⟨0, 1⟩ ⟨1, 0⟩ with
        | none => simp
        | some y => have := convR_len l _ _ y hr; simp only; omega
      · simp
theorem pathF_len (c : C2) : (pathF c).1.length ≤ 65 := by
  unfold pathF
  split
  · simp
  · split
    · have := convF_len (expandF c).1
      simp; omega
    · simp

set_option maxHeartbeats 1000000 in
theorem path_err (c : C2) (L : List Int) (er : Int) (h5 : er ≠ 5) (h0 : er ≠ 0) (X : Hid (∀ w, Calls Try.prog 16 #[.agg #[.int .i64 c.p, .int .i64 c.q]] w fun e w' => ∃ v, e = .returned (.tuple #[v, .int .i64 er]) ∧ OwnInts w' w.heap.size v L ∧ Grow w w')) (w : World) :
    Calls Try.prog 17 #[.agg #[.int .i64 c.p, .int .i64 c.q]] w fun e w' => e = .returned (.tuple #[.slice none 0 0, .int .i64 er]) ∧ Grow w w' := by
  have k1 : (er == 5) = false := by simpa using h5
  have k2 : (er == 0) = false := by simpa using h0
  clear h5 h0
  go_enter Try.func17, Try.ntmps17
  go_wp2_with fail
  go_at_call 16
  refine (X.out _).mono ?_
  rintro e w1 ⟨v1, rfl, ho1, hb1⟩
  have hc1 := hb1.cells
  have hf1 := hb1.frees
  have hz1 := hb1.size
  simp at hz1
  have z1 : w.heap.size < w1.heap.size := by omega
  have z2 : w.heap.size + 1 < w1.heap.size := by omega
  clear ho1
  go_wp2_with fail
  exact bodyPost_ret (v := .tuple #[.slice none 0 0, .int .i64 er]) (by simp only [results, Try.results17]; go_simp) rfl ⟨rfl, by (repeat (first | with_reducible exact Grow.refl _ | with_reducible refine Grow.alloc ?_ _ | with_reducible refine Grow.drew ?_ | with_reducible refine Grow.drewN ?_ _ | (with_reducible refine Grow.setCell ?_ ?hp _; (case hp => (simp; try omega))) | with_reducible refine Grow.trans ?_ (by assumption)))⟩
set_option maxHeartbeats 1000000 in
theorem path_inf (c : C2) (L : List Int) (X : Hid (∀ w, Calls Try.prog 16 #[.agg #[.int .i64 c.p, .int .i64 c.q]] w fun e w' => ∃ v, e = .returned (.tuple #[v, .int .i64 5]) ∧ OwnInts w' w.heap.size v L ∧ Grow w w')) (w : World) :
    Calls Try.prog 17 #[.agg #[.int .i64 c.p, .int .i64 c.q]] w fun e w' => ∃ v, e = .returned (.tuple #[v, .int .i64 0]) ∧ OwnCusps w' w.heap.size v [⟨1, 0⟩] ∧ Grow w w' := by
  go_enter Try.func17, Try.ntmps17
  go_wp2_with fail
  go_at_call 16
  refine (X.out _).mono ?_
  rintro e w1 ⟨v1, rfl, ho1, hb1⟩
  have hO := own_into (World.ownsRow_lit (base := w.heap.size) (e := 29) (size := 2) (w.alloc (.cells #[.int .i64 c.p, .int .i64 c.q] 29)) #[.int .i64 1, .int .i64 0] 1 (by simp) (by decide) rfl) hb1
  have hO : w1.ownsRow w.heap.size 29 2 (.slice (some ⟨w.heap.size + 1, 0, none⟩) 1 1) 1 [.int .i64 1, .int .i64 0] := by simpa using hO
  have hc1 := hb1.cells
  have hf1 := hb1.frees
  have hz1 := hb1.size
  simp at hz1
  have z1 : w.heap.size < w1.heap.size := by omega
  have z2 : w.heap.size + 1 < w1.heap.size := by omega
  have HO := Lib.hid hO
  clear ho1 hO
  go_wp2_with fail
  refine bodyPost_ret (v := .tuple #[.slice (some ⟨w.heap.size + 1, 0, none⟩) 1 1, .int .i64 0]) (by simp only [results, Try.results17]; go_simp) rfl ⟨_, rfl, ?_, by (repeat (first | with_reducible exact Grow.refl _ | with_reducible refine Grow.alloc ?_ _ | with_reducible refine Grow.drew ?_ | with_reducible refine Grow.drewN ?_ _ | (with_reducible refine Grow.setCell ?_ ?hp _; (case hp => (simp; try omega))) | with_reducible refine Grow.trans ?_ (by assumption)))⟩
  exact HO.out
set_option maxHeartbeats 1000000 in
theorem path_core (c : C2) (L : List Int) (hl : L.length ≤ 1152921504606846976) (M : List C2) (em : Int) (hM : M.length ≤ 64) (hCF : Hid (convF L = (M, em))) (X : Hid (∀ w, Calls Try.prog 16 #[.agg #[.int .i64 c.p, .int .i64 c.q]] w fun e w' => ∃ v, e = .returned (.tuple #[v, .int .i64 0]) ∧ OwnInts w' w.heap.size v L ∧ Grow w w')) (w : World) :
    Calls Try.prog 17 #[.agg #[.int .i64 c.p, .int .i64 c.q]] w fun e w' => ∃ v, e = .returned (.tuple #[v, .int .i64 0]) ∧ OwnCusps w' w.heap.size v (⟨1, 0⟩ :: M) ∧ Grow w w' := by
  obtain ⟨i0, hi, iz0, iz1, iz2⟩ := info_parts infoC
  go_enter Try.func17, Try.ntmps17
  go_wp2_with fail
  go_at_call 16
  refine (X.out _).mono ?_
  rintro e w1 ⟨v1, rfl, ho1, hb1⟩
  have hO := own_into (World.ownsRow_lit (base := w.heap.size) (e := 29) (size := 2) (w.alloc (.cells #[.int .i64 c.p, .int .i64 c.q] 29)) #[.int .i64 1, .int .i64 0] 1 (by simp) (by decide) rfl) hb1
  have hO : w1.ownsRow w.heap.size 29 2 (.slice (some ⟨w.heap.size + 1, 0, none⟩) 1 1) 1 [.int .i64 1, .int .i64 0] := by simpa using hO
  have hc1 := hb1.cells
  have hf1 := hb1.frees
  have hz1 := hb1.size
  simp at hz1
  have z1 : w.heap.size < w1.heap.size := by omega
  have z2 : w.heap.size + 1 < w1.heap.size := by omega
  have hG1 : Grow w w1 := by (repeat (first | with_reducible exact Grow.refl _ | with_reducible refine Grow.alloc ?_ _ | with_reducible refine Grow.drew ?_ | with_reducible refine Grow.drewN ?_ _ | (with_reducible refine Grow.setCell ?_ ?hp _; (case hp => (simp; try omega))) | with_reducible refine Grow.trans ?_ (by assumption)))
  have HC := Lib.hid (conv_any L v1 hl w1 ho1.rd)
  rw [hCF.out] at HC
  clear ho1 hCF X
  go_wp2_with fail
  go_at_call 14
  refine HC.out.mono ?_
  rintro e w2 ⟨v2, rfl, ho2, hb2⟩
  have hO2 := own_into hO hb2
  have hc2 := hb2.cells
  have hf2 := hb2.frees
  have hz2 := hb2.size
  have z3 : w.heap.size < w2.heap.size := by omega
  have z4 : w.heap.size + 1 < w2.heap.size := by omega
  have hG2 : Grow w w2 := hG1.trans hb2
  have HO := Lib.hid hO2
  have HR := Lib.hid ho2.rd
  have HG := Lib.hid hG2
  clear ho2 hO hO2 HC hc1 hf1 hb1 hc2 hf2 hb2 hG1 hG2
  go_wp2_with (at_builtin; refine wpList_append_ownrd _ rfl _ _ 24 rfl i0 (.agg #[.int .i64 0, .int .i64 0]) Try.underlying24 hi iz0 iz1 iz2 rfl w.heap.size _ 1 [.int .i64 1, .int .i64 0] rfl ?own _ _ rfl HR.out ?len ?base ?_)
  case own => exact HO.out
  case len => omega
  case base => omega
  intro v3 w3 ho3 hg3
  have hG3 : Grow w w3 := own_grow HG.out HO.out hg3 (Nat.le_refl _)
  have HO3 := Lib.hid ho3
  have HG3 := Lib.hid hG3
  clear ho3 hg3 hG3
  go_wp2
  refine bodyPost_ret (v := .tuple #[v3, .int .i64 0]) (by simp only [results, Try.results17]; go_simp) rfl ⟨_, rfl, ?_, HG3.out⟩
  have h := HO3.out
  unfold OwnCusps
  rw [show (⟨1, 0⟩ :: M : List C2).length = 1 + M.length by simp; omega]
  exact h

theorem path_any (c : C2) (w : World) :
    Calls Try.prog 17 #[.agg #[.int .i64 c.p, .int .i64 c.q]] w fun e w' => ∃ v, e = .returned (.tuple #[v, .int .i64 (pathF c).2]) ∧ OwnCusps w' w.heap.size v (pathF c).1 ∧ Grow w w' := by
  have X := Lib.hid (fun w => expand_any c w)
  have hlen := expandF_len c
  by_cases h5 : (expandF c).2 = 5
  · have e : pathF c = ([⟨1, 0⟩], 0) := by unfold pathF; rw [if_pos h5]
    rw [e]
    rw [h5] at X
    exact path_inf c _ X w
  · by_cases h0 : (expandF c).2 = 0
    · have e : pathF c = (⟨1, 0⟩ :: (convF (expandF c).1).1, 0) := by unfold pathF; rw [if_neg h5, if_pos h0]
      rw [e]
      rw [h0] at X
      exact path_core c _ (by omega) _ _ (convF_len _) (Lib.hid rfl) X w
    · have e : pathF c = ([], (expandF c).2) := by unfold pathF; rw [if_neg h5, if_neg h0]
      rw [e]
      refine (path_err c _ _ h5 h0 X w).mono ?_
      rintro e w' ⟨rfl, hg⟩
      exact ⟨_, rfl, World.ownsRow_nil _ _ _ _, hg⟩
end Go.Proofs.Ytfjlecphjahahaa
