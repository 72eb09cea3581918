/- Walk: neighbours, over a list whose consecutive cusps are Farey neighbours. -/
import Derived.Test.YtfjlecphjahahaaCfE
import Derived.Test.YtfjlecphjahahaaPlL
import Derived.Deep.LoopGhost
namespace Go.Proofs.Ytfjlecphjahahaa
open Go Go.RowKit

def Nb (l : List C2) : Prop := (∀ j, j < l.length → inB (l.getD j C2.zero).p = true ∧ inB (l.getD j C2.zero).q = true) ∧
  ∀ j, 1 ≤ j → j < l.length → cross (l.getD (j - 1) C2.zero) (l.getD j C2.zero) = 1 ∨ cross (l.getD (j - 1) C2.zero) (l.getD j C2.zero) = -1

set_option maxHeartbeats 1000000 in
theorem nb_core (l : List C2) (b off cap n : Nat) (hn : Hid (l.length = n)) (hl : n ≤ 1152921504606846976) (H : Hid (Nb l)) (w : World)
    (hc : Hid (∀ j, j < l.length → w.cell? ⟨b, off + j * 2, none⟩ = some (.int .i64 (l.getD j C2.zero).p) ∧ w.cell? ⟨b, off + j * 2 + 1, none⟩ = some (.int .i64 (l.getD j C2.zero).q))) :
    Calls Try.prog 20 #[.slice (some ⟨b, off, none⟩) n cap] w fun e w' => e = .returned (.bool true) ∧ Grow w w' := by
  go_enter Try.func20, Try.ntmps20
  go_wp2_with fail
  go_loopg [3] (n + 1) (fun f i wr => ∃ j : Nat, i = .int .i64 j ∧ 1 ≤ j ∧ j + f = n + 2 ∧ ∃ d, wr = w.drewN d)
  case atStart => exact ⟨1, rfl, by omega, by omega, 0, rfl⟩
  case round =>
    obtain ⟨j, rfl, hj1, hjf, d, rfl⟩ := hrel
    by_cases hlt : j < n
    · obtain ⟨d1, d2⟩ := hc.out j (by rw [hn.out]; exact hlt)
      obtain ⟨d3, d4⟩ := hc.out (j - 1) (by rw [hn.out]; omega)
      obtain ⟨b1, b2⟩ := H.out.1 j (by rw [hn.out]; exact hlt)
      obtain ⟨b3, b4⟩ := H.out.1 (j - 1) (by rw [hn.out]; omega)
      have hcr := H.out.2 j hj1 (by rw [hn.out]; exact hlt)
      obtain ⟨s, hs⟩ : ∃ s : Nat, j - 1 = s := ⟨_, rfl⟩
      have hs2 : (j : Int) - 1 = s := by omega
      rw [hs] at d3 d4 hcr b3 b4
      obtain ⟨u, hu⟩ : ∃ u, l.getD j C2.zero = u := ⟨_, rfl⟩
      obtain ⟨v, hv⟩ : ∃ v, l.getD s C2.zero = v := ⟨_, rfl⟩
      rw [hu] at d1 d2 hcr b1 b2
      rw [hv] at d3 d4 hcr b3 b4
      obtain ⟨p1, p2⟩ := mul_in b3 b2
      obtain ⟨p3, p4⟩ := mul_in b1 b4
      have y1 : IntKind.i64.wrap (v.p * u.q) = v.p * u.q := IntWalk.i64_in _ (by omega)
      have y2 : IntKind.i64.wrap (u.p * v.q) = u.p * v.q := IntWalk.i64_in _ (by omega)
      have y5 : IntKind.i64.wrap (s : Int) = s := IntWalk.i64_in _ (by omega)
      have f1 : (0 : Int) ≤ j := by omega
      have f2 : (j : Int) < n := by omega
      have f3 : (0 : Int) ≤ s := by omega
      have f4 : (s : Int) < n := by omega
      obtain ⟨g', hgk⟩ : ∃ g', gk = g' + 1 := ⟨gk - 1, by omega⟩
      simp only [cross] at hcr
      have HJ := Lib.hid hjf
      clear hs hu hv p1 p2 p3 p4 b1 b2 b3 b4 hjf
      rcases hcr with hcr | hcr
      · go_wp2_with fail
        go_quiet (fail)
        go_wp2
        go_roundg g'
        case measure => omega
        case rel => exact ⟨j + 1, by go_num, by omega, by have := HJ.out; omega, _, rfl⟩
      · go_wp2_with fail
        go_quiet (fail)
        go_wp2
        go_roundg g'
        case measure => omega
        case rel => exact ⟨j + 1, by go_num, by omega, by have := HJ.out; omega, _, rfl⟩
    · have hlt2 : ¬ (j : Int) < n := by omega
      go_wp2_with fail
      go_ret
      exact ⟨rfl, by (repeat (first | with_reducible exact Grow.refl _ | with_reducible refine Grow.alloc ?_ _ | with_reducible refine Grow.drew ?_ | with_reducible refine Grow.drewN ?_ _ | (with_reducible refine Grow.setCell ?_ ?hp _; (case hp => (simp; try omega))) | with_reducible refine Grow.trans ?_ (by assumption)))⟩
theorem nb_none (a : Option Addr) (cap : Nat) (w : World) : Calls Try.prog 20 #[.slice a 0 cap] w fun e w' => e = .returned (.bool true) ∧ Grow w w' := by
  go_enter Try.func20, Try.ntmps20
  go_wp2_with fail
  go_loopw [3] (fun i wr => i = .int .i64 1 ∧ wr = w) (fun _ _ => 0)
  case atStart => exact ⟨rfl, rfl⟩
  case round =>
    obtain ⟨rfl, rfl⟩ := hrel
    go_wp2
    go_ret
    exact ⟨rfl, by (repeat (first | with_reducible exact Grow.refl _ | with_reducible refine Grow.alloc ?_ _ | with_reducible refine Grow.drew ?_ | with_reducible refine Grow.drewN ?_ _ | (with_reducible refine Grow.setCell ?_ ?hp _; (case hp => (simp; try omega))) | with_reducible refine Grow.trans ?_ (by assumption)))⟩
theorem nb_any (l : List C2) (v : Value) (hl : l.length ≤ 1152921504606846976) (H : Nb l) (w : World) (hv : RdCusps w v l) :
    Calls Try.prog 20 #[v] w fun e w' => e = .returned (.bool true) ∧ Grow w w' := by
  rcases hv with ⟨a, cap, rfl, rfl⟩ | ⟨b, off, cap, rfl, -, -, hc⟩
  · exact nb_none a cap w
  · exact nb_core l b off cap _ (Lib.hid rfl) hl (Lib.hid H) w (Lib.hid hc)

/-- The path of a cusp: neighbours. -/
theorem conv_nb {l : List Int} {x : List C2} (h : convF l = (x, 0)) : Nb (⟨1, 0⟩ :: x) := by
  obtain ⟨h1, h2, h3, h4⟩ := convF_some h
  have hs := conv_spec h
  have hc := conv_cross _ _ _ _ h1
  refine ⟨fun j hj => ?_, fun j hj1 hj2 => ?_⟩
  · cases j with
    | zero => simp; decide
    | succ j => have := hs.2 j (by simpa using hj); simpa using ⟨this.1, this.2.1⟩
  · obtain ⟨k, rfl⟩ : ∃ k, j = k + 1 := ⟨j - 1, by omega⟩
    have h5 := hc k (by simpa using hj2)
    have e : ((⟨1, 0⟩ : C2) :: x).getD (k + 1 - 1) C2.zero = if k = 0 then ⟨1, 0⟩ else x.getD (k - 1) C2.zero := by cases k <;> simp
    rw [e]
    have e2 : ((⟨1, 0⟩ : C2) :: x).getD (k + 1) C2.zero = x.getD k C2.zero := by simp
    rw [e2]
    have e3 : cross ⟨1, 0⟩ ⟨0, 1⟩ = 1 := by simp [cross]
    rw [e3] at h5
    have anti : ∀ a b : C2, cross a b = -cross b a := fun a b => by simp only [cross]; omega
    rw [anti, h5]
    split <;> omega
end Go.Proofs.Ytfjlecphjahahaa
