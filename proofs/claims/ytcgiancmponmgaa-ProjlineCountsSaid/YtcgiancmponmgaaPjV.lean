/- Walk: slices.BinarySearchFunc over points. -/
import Derived.Test.YtcgiancmponmgaaPjU
import Derived.BigQuiet
import Derived.Deep.QuietTactic
namespace Go.Proofs.Ytcgiancmponmgaa
open Go Go.RowKit

def ltP (x y : P3) : Prop := x.u < y.u ∨ (x.u = y.u ∧ x.v < y.v)
set_option maxRecDepth 20000 in
set_option maxHeartbeats 4000000 in
theorem bs_any (l : List P3) (x : P3) (b off cap m p : Nat) (hm2 : m ≤ 14400) (hp : p ≤ m) (w : World) (hb : b < w.heap.size)
    (hcells : Hid (∀ j, j < m → at3 (fun i => w.cell? ⟨b, i, none⟩) (off + j * 3) (l.getD j P3.zero)))
    (hlo : Hid (∀ j, j < p → ltP (l.getD j P3.zero) x)) (hhi : Hid (∀ j, p ≤ j → j < m → ¬ ltP (l.getD j P3.zero) x)) :
    Calls Try.prog 50 #[.slice (some ⟨b, off, none⟩) m cap, .agg #[.int .i64 x.u, .int .i64 x.v, .int .i64 x.t], .func (.func 49) #[] #[]] w
      fun e w' => ∃ bo, e = .returned (.tuple #[.int .i64 p, .bool bo]) ∧ Grow w w' := by
  go_enter Try.func50, Try.ntmps50
  go_wp2_with fail
  go_loopg [9, 10] m (fun k t9 t10 wr => ∃ i j : Nat, t9 = .int .i64 (i : Int) ∧ t10 = .int .i64 (j : Int) ∧ i ≤ p ∧ p ≤ j ∧ j ≤ m ∧ Hid (j ≤ i + k) ∧ Hid (Grow (w.alloc (.cells #[.int .i64 x.u, .int .i64 x.v, .int .i64 x.t] 24)) wr))
  case atStart => exact ⟨0, m, rfl, rfl, by omega, hp, by omega, Lib.hid (by omega), Lib.hid (Grow.refl _)⟩
  case round =>
    obtain ⟨i, j, rfl, rfl, hip, hpj, hjm, hk, hg⟩ := hrel
    have hgc := hg.out.cells
    have hgz := hg.out.size
    (try simp at hgz)
    have x0 : wr.cell? ⟨w.heap.size, 0, none⟩ = some (.int .i64 x.u) := by rw [hgc _ _ (by simp)]; go_simp
    have x1 : wr.cell? ⟨w.heap.size, 1, none⟩ = some (.int .i64 x.v) := by rw [hgc _ _ (by simp)]; go_simp
    have x2 : wr.cell? ⟨w.heap.size, 2, none⟩ = some (.int .i64 x.t) := by rw [hgc _ _ (by simp)]; go_simp
    have hcw : ∀ h, h < m → at3 (fun i => wr.cell? ⟨b, i, none⟩) (off + h * 3) (l.getD h P3.zero) := by
      intro h hh
      obtain ⟨a1, a2, a3⟩ := hcells.out h hh
      have e : ∀ o, wr.cell? ⟨b, o, none⟩ = w.cell? ⟨b, o, none⟩ := fun o => by
        rw [hgc _ _ (by simp; omega)]
        exact ((Grow.refl w).alloc _).cells b o hb
      exact ⟨(e _).trans a1, (e _).trans a2, (e _).trans a3⟩
    have z0 : w.heap.size < wr.heap.size := by omega
    have zb : b < wr.heap.size := by omega
    have HCW := Lib.hid hcw
    clear hgc hcw
    by_cases hlt : i < j
    · obtain ⟨g1, hgk⟩ : ∃ g1, gk = g1 + 1 := ⟨gk - 1, by have := hk.out; omega⟩
      have hij : (i : Int) < (j : Int) := by omega
      obtain ⟨h, hh⟩ : ∃ h, (i + j) / 2 = h := ⟨_, rfl⟩
      have hhm : h < m := by omega
      have hih : i ≤ h := by omega
      have hhj : h < j := by omega
      obtain ⟨c0, c1, c2⟩ := HCW.out h hhm
      simp only at c0 c1 c2
      obtain ⟨y, hy⟩ : ∃ y, l.getD h P3.zero = y := ⟨_, rfl⟩
      have hyl := hlo.out h
      have hyh := hhi.out h
      rw [hy] at c0 c1 c2 hyl hyh
      obtain ⟨C, hC⟩ : ∃ C, cmpP y x = C := ⟨_, rfl⟩
      have CM := Lib.hid (fun u => compare_any y x u)
      have hCn : C < 0 ↔ ltP y x := by rw [← hC]; exact cmpP_neg
      rw [hC] at CM
      clear hy hC
      have y1 : IntKind.i64.wrap ((i : Int) + (j : Int)) = (i : Int) + (j : Int) := IntWalk.i64_in _ (by omega)
      have yh : ((i : Int) + (j : Int)) / 2 = (h : Int) := by omega
      have hh0 : (0 : Int) ≤ (h : Int) := by omega
      have hh1 : (h : Int) < (m : Int) := by omega
      have y2 : IntKind.i64.wrap ((h : Int) + 1) = (h : Int) + 1 := IntWalk.i64_in _ (by omega)
      clear hh
      by_cases hlow : C < 0
      · have hhp : h < p := Nat.lt_of_not_le (fun h' => hyh h' hhm (hCn.1 hlow))
        clear hyl hyh hCn
        go_wp2_with fail
        refine region_grow (by kernel_rfl) (by kernel_rfl) ?_
        intro X F hF
        have hFc := hF.cells
        haveI hFn := hF.ne
        repeat (go_big_quiet_step ((first | (go_at_call 49; with_reducible exact hF.call (CM.out _)))))
        refine wpQuiet_nil ?_
        rintro _ ⟨x9, rfl⟩
        have hb5 := hF.grow x9
        clear hFc hFn hF
        generalize F x9 = w5 at *
        have hc5 := hb5.cells
        have hf5 := hb5.frees
        have hz5 := hb5.size
        (try simp at hz5)
        go_wp2_with fail
        go_roundg g1
        case measure => omega
        case rel => exact ⟨h + 1, j, by go_num, rfl, by omega, hpj, hjm, Lib.hid (by have := hk.out; omega), Lib.hid (hg.out.trans hb5)⟩
      · have hhp : p ≤ h := Nat.le_of_not_lt (fun h' => hlow (hCn.2 (hyl h')))
        clear hyl hyh hCn
        go_wp2_with fail
        refine region_grow (by kernel_rfl) (by kernel_rfl) ?_
        intro X F hF
        have hFc := hF.cells
        haveI hFn := hF.ne
        repeat (go_big_quiet_step ((first | (go_at_call 49; with_reducible exact hF.call (CM.out _)))))
        refine wpQuiet_nil ?_
        rintro _ ⟨x9, rfl⟩
        have hb5 := hF.grow x9
        clear hFc hFn hF
        generalize F x9 = w5 at *
        have hc5 := hb5.cells
        have hf5 := hb5.frees
        have hz5 := hb5.size
        (try simp at hz5)
        go_wp2_with fail
        go_roundg g1
        case measure => omega
        case rel => exact ⟨i, h, rfl, rfl, hip, hhp, by omega, Lib.hid (by have := hk.out; omega), Lib.hid (hg.out.trans hb5)⟩
    · have hi : i = p := by omega
      have hj : i = j := by omega
      subst hi
      subst hj
      have hij : ¬ (i : Int) < (i : Int) := by omega
      by_cases him : i < m
      · have him2 : (i : Int) < (m : Int) := by omega
        have hi0 : (0 : Int) ≤ (i : Int) := by omega
        have d1 : decide ((i : Int) < (m : Int)) = true := by simpa using him
        obtain ⟨c0, c1, c2⟩ := HCW.out i him
        simp only at c0 c1 c2
        obtain ⟨y, hy⟩ : ∃ y, l.getD i P3.zero = y := ⟨_, rfl⟩
        rw [hy] at c0 c1 c2
        obtain ⟨C, hC⟩ : ∃ C, cmpP y x = C := ⟨_, rfl⟩
        have CM := Lib.hid (fun u => compare_any y x u)
        rw [hC] at CM
        clear hy hC
        go_wp2_with fail
        refine region_grow (by kernel_rfl) (by kernel_rfl) ?_
        intro X F hF
        have hFc := hF.cells
        haveI hFn := hF.ne
        repeat (go_big_quiet_step ((first | (go_at_call 49; with_reducible exact hF.call (CM.out _)))))
        refine wpQuiet_nil ?_
        rintro _ ⟨x9, rfl⟩
        have hb5 := hF.grow x9
        clear hFc hFn hF
        generalize F x9 = w5 at *
        have hc5 := hb5.cells
        have hf5 := hb5.frees
        have hz5 := hb5.size
        (try simp at hz5)
        go_wp2_with fail
        refine bodyPost_ret (v := .tuple #[.int .i64 i, .bool (C == 0)]) (by simp only [results, Try.results50]; go_simp) rfl ⟨_, rfl, ?_⟩
        exact (((Grow.refl w).alloc _).trans hg.out).trans hb5
      · have him2 : ¬ (i : Int) < (m : Int) := by omega
        have d1 : decide ((i : Int) < (m : Int)) = false := by simpa using him
        go_wp2_with fail
        refine region_grow (by kernel_rfl) (by kernel_rfl) ?_
        intro X F hF
        have hFc := hF.cells
        haveI hFn := hF.ne
        repeat (go_big_quiet_step ((first | (go_at_call 49; with_reducible exact hF.call (compare_any x x _)))))
        refine wpQuiet_nil ?_
        rintro _ ⟨x9, rfl⟩
        have hb5 := hF.grow x9
        clear hFc hFn hF
        generalize F x9 = w5 at *
        have hc5 := hb5.cells
        have hf5 := hb5.frees
        have hz5 := hb5.size
        (try simp at hz5)
        go_wp2_with fail
        refine bodyPost_ret (v := .tuple #[.int .i64 i, .bool false]) (by simp only [results, Try.results50]; go_simp) rfl ⟨_, rfl, ?_⟩
        exact (((Grow.refl w).alloc _).trans hg.out).trans hb5
end Go.Proofs.Ytcgiancmponmgaa
