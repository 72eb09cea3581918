/- Walk: Value of a list of quotients. -/
import Derived.Test.YtfjlecphjahahaaCfB
import Derived.Test.YtfjlecphjahahaaCfD
import Derived.Test.YtfjlecphjahahaaPlL
namespace Go.Proofs.Ytfjlecphjahahaa
open Go Go.RowKit

def lastF (l : List Int) : C2 × Int := if (convF l).2 = 0 then ((convF l).1.getD ((convF l).1.length - 1) C2.zero, 0) else (C2.zero, (convF l).2)
theorem cvalue_err (l : List Int) (v : Value) (x : List C2) (er : Int) (he : er ≠ 0) (w : World) (C : Hid (∀ w, RdInts w v l → Calls Try.prog 14 #[v] w fun e w' => ∃ v, e = .returned (.tuple #[v, .int .i64 er]) ∧ OwnCusps w' w.heap.size v x ∧ Grow w w')) (hv : Hid (RdInts w v l)) :
    Calls Try.prog 25 #[v] w fun e w' => e = .returned (.tuple #[.agg #[.int .i64 0, .int .i64 0], .int .i64 er]) ∧ Grow w w' := by
  have e1 : (er == 0) = false := by simpa using he
  have e2 : (er != 0) = true := by simpa using he
  clear he
  go_enter Try.func25, Try.ntmps25
  go_wp2_with fail
  go_at_call 14
  refine (C.out _ (hv.out.grow (by (repeat (first | with_reducible exact Grow.refl _ | with_reducible refine Grow.alloc ?_ _ | with_reducible refine Grow.drew ?_ | with_reducible refine Grow.drewN ?_ _ | (with_reducible refine Grow.setCell ?_ ?hp _; (case hp => (simp; try omega))) | with_reducible refine Grow.trans ?_ (by assumption)))))).mono ?_
  rintro e w1 ⟨v1, rfl, ho1, hb1⟩
  have hc1 := hb1.cells
  have hf1 := hb1.frees
  have hz1 := hb1.size
  simp at hz1
  have z1 : w.heap.size < w1.heap.size := by omega
  clear ho1
  go_wp2_with fail
  exact bodyPost_ret (v := .tuple #[.agg #[.int .i64 0, .int .i64 0], .int .i64 er]) (by simp only [results, Try.results25]; go_simp) rfl ⟨rfl, by (repeat (first | with_reducible exact Grow.refl _ | with_reducible refine Grow.alloc ?_ _ | with_reducible refine Grow.drew ?_ | with_reducible refine Grow.drewN ?_ _ | (with_reducible refine Grow.setCell ?_ ?hp _; (case hp => (simp; try omega))) | with_reducible refine Grow.trans ?_ (by assumption)))⟩
theorem cvalue_ok (l : List Int) (v : Value) (x : List C2) (n : Nat) (hn : Hid (x.length = n)) (hn0 : 0 < n) (hn1 : n ≤ 1000) (c : C2) (hc : Hid (x.getD (n - 1) C2.zero = c)) (w : World) (C : Hid (∀ w, RdInts w v l → Calls Try.prog 14 #[v] w fun e w' => ∃ v, e = .returned (.tuple #[v, .int .i64 0]) ∧ OwnCusps w' w.heap.size v x ∧ Grow w w')) (hv : Hid (RdInts w v l)) :
    Calls Try.prog 25 #[v] w fun e w' => e = .returned (.tuple #[.agg #[.int .i64 c.p, .int .i64 c.q], .int .i64 0]) ∧ Grow w w' := by
  obtain ⟨s, hs⟩ : ∃ s : Nat, n - 1 = s := ⟨_, rfl⟩
  have hs2 : (n : Int) - 1 = s := by omega
  have y5 : IntKind.i64.wrap (s : Int) = s := IntWalk.i64_in _ (by omega)
  have f3 : (0 : Int) ≤ s := by omega
  have f4 : (s : Int) < n := by omega
  go_enter Try.func25, Try.ntmps25
  go_wp2_with fail
  go_at_call 14
  refine (C.out _ (hv.out.grow (by (repeat (first | with_reducible exact Grow.refl _ | with_reducible refine Grow.alloc ?_ _ | with_reducible refine Grow.drew ?_ | with_reducible refine Grow.drewN ?_ _ | (with_reducible refine Grow.setCell ?_ ?hp _; (case hp => (simp; try omega))) | with_reducible refine Grow.trans ?_ (by assumption)))))).mono ?_
  rintro e w1 ⟨v1, rfl, ho1, hb1⟩
  obtain ⟨g, k1, rfl, hg, row1, -⟩ := RowAt.of_own ho1 (by rw [hn.out]; exact hn0)
  rw [hn.out]
  obtain ⟨d3, d4⟩ := row1.cells (n - 1) (by rw [hn.out]; omega)
  rw [hc.out, hs] at d3 d4
  simp only [Nat.zero_add] at d3 d4
  have zg := row1.lt
  have hc1 := hb1.cells
  have hf1 := hb1.frees
  have hz1 := hb1.size
  simp at hz1
  have z1 : w.heap.size < w1.heap.size := by omega
  clear ho1 row1 hg hs
  go_wp2_with fail
  exact bodyPost_ret (v := .tuple #[.agg #[.int .i64 c.p, .int .i64 c.q], .int .i64 0]) (by simp only [results, Try.results25]; go_simp) rfl ⟨rfl, by (repeat (first | with_reducible exact Grow.refl _ | with_reducible refine Grow.alloc ?_ _ | with_reducible refine Grow.drew ?_ | with_reducible refine Grow.drewN ?_ _ | (with_reducible refine Grow.setCell ?_ ?hp _; (case hp => (simp; try omega))) | with_reducible refine Grow.trans ?_ (by assumption)))⟩
theorem cvalue_any (l : List Int) (v : Value) (hl : l.length ≤ 1152921504606846976) (w : World) (hv : RdInts w v l) :
    Calls Try.prog 25 #[v] w fun e w' => e = .returned (.tuple #[.agg #[.int .i64 (lastF l).1.p, .int .i64 (lastF l).1.q], .int .i64 (lastF l).2]) ∧ Grow w w' := by
  have C := Lib.hid (fun w h => conv_any l v hl w h)
  by_cases h : (convF l).2 = 0
  · have e : lastF l = ((convF l).1.getD ((convF l).1.length - 1) C2.zero, 0) := by unfold lastF; rw [if_pos h]
    rw [e]
    rw [h] at C
    have hp := convF_some (l := l) (x := (convF l).1) (by rw [← h])
    have hlen := convR_len l _ _ _ hp.1
    exact cvalue_ok l v _ _ (Lib.hid rfl) (by omega) (by omega) _ (Lib.hid rfl) w C (Lib.hid hv)
  · have e : lastF l = (C2.zero, (convF l).2) := by unfold lastF; rw [if_neg h]
    rw [e]
    exact cvalue_err l v _ _ h w C (Lib.hid hv)
end Go.Proofs.Ytfjlecphjahahaa
