/- Walk: slices.Reverse over cusps. -/
import Derived.Test.YtfjlecphjahahaaPlN
import Derived.Test.YtfjlecphjahahaaSlA
import Derived.Deep.LoopGhost
import Derived.Laws.IdiomCopy
import Derived.BigRegion
namespace Go.Proofs.Ytfjlecphjahahaa
open Go Go.RowKit

theorem grown_set (w : World) (g o : Nat) (u : Value) : w.grownBy (w.setCell ⟨g, o, none⟩ u) (some g) :=
  ⟨rfl, rfl, rfl, Nat.le_of_eq (by simp), fun k _ hne => by
    have hne' : k ≠ g := fun e => hne (by rw [e])
    simp [World.setCell, Array.getElem?_modify, Ne.symm hne']⟩
theorem grown_trans {w1 w2 w3 : World} {r : Option Nat} (h : w1.grownBy w2 r) (k : w2.grownBy w3 r) : w1.grownBy w3 r :=
  ⟨k.os.trans h.os, k.tape.trans h.tape, k.output.trans h.output, Nat.le_trans h.size k.size, fun b hb hne => (k.block b (Nat.lt_of_lt_of_le hb h.size) hne).trans (h.block b hb hne)⟩
theorem RowAt.put {w : World} {g off cap : Nat} {m : List C2} (h : RowAt w g off cap m) (i : Nat) (hi : i < m.length) (c : C2) :
    RowAt ((w.setCell ⟨g, off + i * 2, none⟩ (.int .i64 c.p)).setCell ⟨g, off + i * 2 + 1, none⟩ (.int .i64 c.q)) g off cap (m.set i c) := by
  have hle := h.le
  have e : ((w.setCell ⟨g, off + i * 2, none⟩ (.int .i64 c.p)).setCell ⟨g, off + i * 2 + 1, none⟩ (.int .i64 c.q)) = w.setCells g (off + i * 2) [.int .i64 c.p, .int .i64 c.q] := rfl
  have hin := World.cell?_setCells_in g [.int .i64 c.p, .int .i64 c.q] (off + i * 2) w (fun j hj => by
    have := h.ex (i * 2 + j) (by simp at hj; omega)
    rw [Nat.add_assoc]; exact this)
  have h0 := hin 0 (by simp)
  have h1 := hin 1 (by simp)
  simp at h0 h1
  rw [e]
  refine ⟨by simp only [World.setCells]; simpa using h.lt, by simpa using hle, fun j hj => ?_, fun j hj => ?_, fun o => ?_⟩
  · simp at hj
    by_cases hji : j = i
    · subst hji
      simp only [List.getD, List.getElem?_set_self hi, Option.getD_some]
      exact ⟨h0, h1⟩
    · rw [World.cell?_setCells_out g _ _ _ _ (fun _ _ => by simp; omega), World.cell?_setCells_out g _ _ _ _ (fun _ _ => by simp; omega)]
      have e2 : (m.set i c).getD j C2.zero = m.getD j C2.zero := by simp only [List.getD, List.getElem?_set_ne (Ne.symm hji)]
      rw [e2]
      exact h.cells j hj
  · by_cases h2 : j < i * 2 ∨ i * 2 + 2 ≤ j
    · rw [World.cell?_setCells_out g _ _ _ _ (fun _ _ => by simp; omega)]
      exact h.ex j hj
    · rcases (by omega : j = i * 2 ∨ j = i * 2 + 1) with rfl | rfl
      · rw [h0]; rfl
      · rw [← Nat.add_assoc, h1]; rfl
  · rw [World.frozen?_setCells]; exact h.free o
theorem RowAt.drew {w : World} {g off cap : Nat} {m : List C2} (h : RowAt w g off cap m) : RowAt w.drew g off cap m := ⟨h.lt, h.le, h.cells, h.ex, h.free⟩
theorem grown_drew {w w' : World} {r : Option Nat} (h : w.grownBy w' r) : w.grownBy w'.drew r := ⟨h.os, h.tape, h.output, h.size, h.block⟩

def revSt (l m : List C2) (i n : Nat) : Prop := m.length = n ∧ ∀ j, j < n → m.getD j C2.zero = if j < i ∨ n ≤ j + i then l.getD (n - 1 - j) C2.zero else l.getD j C2.zero
theorem revSt_step {l m : List C2} {i k n : Nat} (hik : i < k) (hk : i + k + 1 = n) (h : revSt l m i n) : revSt l ((m.set i (m.getD k C2.zero)).set k (m.getD i C2.zero)) (i + 1) n := by
  obtain ⟨h1, h2⟩ := h
  refine ⟨by simp [h1], fun j hj => ?_⟩
  have hi := h2 i (by omega)
  have hk2 := h2 k (by omega)
  rw [if_neg (by omega)] at hi hk2
  by_cases e1 : j = k
  · subst e1
    simp only [List.getD, List.getElem?_set_self (show j < (m.set i (m[j]?.getD C2.zero)).length by simp; omega), Option.getD_some]
    rw [if_pos (by omega), show n - 1 - j = i by omega]
    exact hi
  · by_cases e2 : j = i
    · subst e2
      simp only [List.getD, List.getElem?_set_ne (Ne.symm e1), List.getElem?_set_self (show j < m.length by omega), Option.getD_some]
      rw [if_pos (by omega), show n - 1 - j = k by omega]
      exact hk2
    · simp only [List.getD, List.getElem?_set_ne (Ne.symm e1), List.getElem?_set_ne (Ne.symm e2)]
      have := h2 j hj
      simp only [List.getD] at this
      rw [this]
      by_cases hc : j < i ∨ n ≤ j + i
      · rw [if_pos hc, if_pos (by omega)]
      · rw [if_neg hc, if_neg (by omega)]
theorem revSt_done {l m : List C2} {i k n : Nat} (hl : l.length = n) (hik : k ≤ i) (hk : i + k + 1 = n) (h : revSt l m i n) : m = l.reverse := by
  obtain ⟨h1, h2⟩ := h
  apply List.ext_getElem?
  intro j
  by_cases hj : j < n
  · have := h2 j hj
    rw [List.getElem?_reverse (by omega), hl]
    simp only [List.getD] at this
    rw [List.getElem?_eq_getElem (by omega)] at this ⊢
    rw [List.getElem?_eq_getElem (show n - 1 - j < l.length by omega)]
    by_cases hc : j < i ∨ n ≤ j + i
    · rw [if_pos hc, List.getElem?_eq_getElem (show n - 1 - j < l.length by omega)] at this
      simpa using this
    · rw [if_neg hc, List.getElem?_eq_getElem (show j < l.length by omega)] at this
      have e : n - 1 - j = j := by omega
      simp only [e]
      simpa using this
  · rw [List.getElem?_eq_none (by omega), List.getElem?_eq_none (by simp; omega)]

set_option maxHeartbeats 1000000 in
theorem reverse_any (l : List C2) (g off cap n : Nat) (hn : Hid (l.length = n)) (h0 : 0 < n) (hn2 : n ≤ 1000000) (w : World) (hr : RowAt w g off cap l) :
    Calls Try.prog 40 #[.slice (some ⟨g, off, none⟩) n cap] w fun e w' => e = .returned (.tuple #[]) ∧ RowAt w' g off cap l.reverse ∧ w.grownBy w' (some g) := by
  have y0 : IntKind.i64.wrap ((n : Int) - 1) = (n : Int) - 1 := IntWalk.i64_in _ (by omega)
  go_enter Try.func40, Try.ntmps40
  go_wp2_with fail
  go_loopg [2, 3] n (fun f t2 t3 wr => ∃ (i k : Nat) (m : List C2), t2 = .int .i64 i ∧ t3 = .int .i64 k ∧ i + f = n ∧ Hid (i + k + 1 = n) ∧ Hid (revSt l m i n) ∧ RowAt wr g off cap m ∧ w.grownBy wr (some g))
  case atStart =>
    refine ⟨0, n - 1, l, rfl, ?_, by omega, by show 0 + (n - 1) + 1 = n; omega, ⟨hn.out, fun j hj => ?_⟩, hr, World.grownBy.refl _ _⟩
    · congr 1; omega
    · rw [if_neg (by omega)]
  case round =>
    obtain ⟨i, k, m, rfl, rfl, hf, hk, hst, hrow, hg⟩ := hrel
    have hi1 : (0 : Int) ≤ i := by omega
    have hk1 : (0 : Int) ≤ k := by omega
    by_cases hlt : i < k
    · obtain ⟨g', hgk⟩ : ∃ g', gk = g' + 1 := ⟨gk - 1, by have := hk.out; omega⟩
      have hlt2 : (i : Int) < k := by omega
      have hin : (i : Int) < n := by have := hk.out; omega
      have hkn : (k : Int) < n := by have := hk.out; omega
      have hml := hst.out.1
      obtain ⟨d1, d2⟩ := hrow.cells i (by have := hk.out; omega)
      obtain ⟨d3, d4⟩ := hrow.cells k (by have := hk.out; omega)
      have f1 := hrow.free
      have z1 := hrow.lt
      have HRow := Lib.hid hrow
      have HG := Lib.hid hg
      have HML := Lib.hid hml
      have hne : i ≠ k := by omega
      clear hrow hg hml hr
      obtain ⟨x, hx⟩ : ∃ x, m.getD i C2.zero = x := ⟨_, rfl⟩
      obtain ⟨y, hy⟩ : ∃ y, m.getD k C2.zero = y := ⟨_, rfl⟩
      have HX := Lib.hid hx
      have HY := Lib.hid hy
      rw [hx] at d1 d2
      rw [hy] at d3 d4
      clear hx hy
      go_wp2_with fail
      go_region
      have hrow2 := ((HRow.out.put i (by have := HML.out; have := hk.out; omega) y).put k (by have := HML.out; have := hk.out; simp; omega) x).drew
      have hg2 : w.grownBy _ (some g) := grown_drew (grown_trans HG.out (grown_trans (grown_trans (grown_trans (grown_set wr g (off + i * 2) (.int .i64 y.p)) (grown_set _ g (off + i * 2 + 1) (.int .i64 y.q))) (grown_set _ g (off + k * 2) (.int .i64 x.p))) (grown_set _ g (off + k * 2 + 1) (.int .i64 x.q))))
      obtain ⟨w5, hW⟩ : ∃ w5, ((((wr.setCell ⟨g, off + i * 2, none⟩ (.int .i64 y.p)).setCell ⟨g, off + i * 2 + 1, none⟩ (.int .i64 y.q)).setCell ⟨g, off + k * 2, none⟩ (.int .i64 x.p)).setCell ⟨g, off + k * 2 + 1, none⟩ (.int .i64 x.q)).drew = w5 := ⟨_, rfl⟩
      rw [hW]
      rw [hW] at hrow2 hg2
      have HRow2 := Lib.hid hrow2
      have HG2 := Lib.hid hg2
      clear hW hrow2 hg2 d1 d2 d3 d4 f1 z1
      have y1 : IntKind.i64.wrap ((k : Int) - 1) = (k : Int) - 1 := IntWalk.i64_in _ (by omega)
      go_wp2
      go_roundg g'
      case measure => omega
      case rel =>
        refine ⟨i + 1, k - 1, _, by go_num, ?_, by omega, by show i + 1 + (k - 1) + 1 = n; have := hk.out; omega, ?_, HRow2.out, HG2.out⟩
        · congr 1; omega
        · have h := revSt_step hlt hk.out hst.out
          rw [HX.out, HY.out] at h
          exact h
    · have hm : m = l.reverse := revSt_done hn.out (by omega) hk.out hst.out
      subst hm
      have hlt2 : ¬ (i : Int) < k := by omega
      have HRow := Lib.hid hrow
      have HG := Lib.hid hg
      clear hrow hg hr
      go_wp2
      first
        | (go_end0; exact ⟨rfl, HRow.out, HG.out⟩)
        | exact bodyPost_ret (results_none rfl _ _ _) rfl ⟨rfl, HRow.out, HG.out⟩
end Go.Proofs.Ytfjlecphjahahaa
