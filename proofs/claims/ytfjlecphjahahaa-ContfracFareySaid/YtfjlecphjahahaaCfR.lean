/- Walk: Farey of the program. -/
import Derived.Test.YtfjlecphjahahaaPlT
import Derived.Test.YtfjlecphjahahaaCfB
import Derived.Test.YtfjlecphjahahaaPlN
import Derived.Laws.OwnMore
namespace Go.Proofs.Ytfjlecphjahahaa
open Go Go.RowKit

theorem smallB_iff {c : C2} : smallB c = true ↔ 0 ≤ c.p ∧ c.p ≤ c.q ∧ 1 ≤ c.q ∧ c.q ≤ 60 := by simp [smallB, and_assoc]
def FarRel (w0 : World) (A B base : Nat) (n : Int) (M : List C2) (k : Nat) (t6 : Value) (wr : World) : Prop :=
  ∃ (a b : C2) (acc : List C2), (farOk k n a b = true ∧ acc ++ farL k n a b = M ∧ acc.length + k ≤ 1202) ∧
    wr.cell? ⟨A, 0, none⟩ = some (.int .i64 a.p) ∧ wr.cell? ⟨A, 1, none⟩ = some (.int .i64 a.q) ∧ wr.cell? ⟨B, 0, none⟩ = some (.int .i64 b.p) ∧ wr.cell? ⟨B, 1, none⟩ = some (.int .i64 b.q) ∧
    (∀ o, wr.frozen? ⟨A, o, none⟩ = false) ∧ (∀ o, wr.frozen? ⟨B, o, none⟩ = false) ∧ OwnCusps wr base t6 acc ∧ Grow w0 wr ∧ base ≤ wr.heap.size

set_option maxHeartbeats 2000000 in
theorem farey_core (n : Int) (h1 : 1 ≤ n) (h2 : n ≤ 60) (hok : Hid (farOk 1200 n ⟨0, 1⟩ ⟨1, n⟩ = true)) (M : List C2) (hM : Hid (farF n = M)) (w : World) :
    Calls Try.prog 27 #[.int .i64 n] w fun e w' => ∃ v, e = .returned (.tuple #[v, .int .i64 0]) ∧ OwnCusps w' w.heap.size v M ∧ Grow w w' := by
  obtain ⟨i0, hi, iz0, iz1, iz2⟩ := info_parts infoC
  have k1 : ¬ n < 1 := by omega
  have k2 : ¬ 60 < n := by omega
  go_enter Try.func27, Try.ntmps27
  go_wp2_with fail
  have hO := (World.ownsRow_lit (base := w.heap.size + 2) (e := 29) (size := 2) ((w.alloc (.cells #[.int .i64 0, .int .i64 1] 29)).alloc (.cells #[.int .i64 1, .int .i64 n] 29)) #[.int .i64 0, .int .i64 1] 1 (by simp) (by decide) rfl)
  have HO := Lib.hid hO
  clear hO
  go_loopg [6] 1200 (fun k t6 wr => Hid (FarRel w w.heap.size (w.heap.size + 1) (w.heap.size + 2) n M k t6 wr))
  case atStart =>
    refine ⟨⟨0, 1⟩, ⟨1, n⟩, [⟨0, 1⟩], ⟨hok.out, hM.out, by simp⟩, ?_, ?_, ?_, ?_, ?_, ?_, ?_, ?_, ?_⟩
    all_goals try (first | (go_simp; done) | (intro o; go_simp; done))
    · have h := HO.out
      unfold OwnCusps
      simpa [cellsC] using h
    · (repeat (first | with_reducible exact Grow.refl _ | with_reducible refine Grow.alloc ?_ _ | with_reducible refine Grow.drew ?_ | with_reducible refine Grow.drewN ?_ _ | (with_reducible refine Grow.setCell ?_ ?hp _; (case hp => (simp; try omega))) | with_reducible refine Grow.trans ?_ (by assumption)))
  case round =>
    obtain ⟨a, b, acc, ⟨g1, g2, g3⟩, a0, a1, b0, b1, f0, f1, hown, hg, hB⟩ := hrel
    have HG := Lib.hid hg
    have HOw := Lib.hid hown
    have z1 : w.heap.size < wr.heap.size := by omega
    have z2 : w.heap.size + 1 < wr.heap.size := by omega
    clear hg hown HO k1 k2
    cases gk with
    | zero => simp [farOk] at g1
    | succ g' =>
      simp only [farOk] at g1
      simp only [farL] at g2
      by_cases hlt : a.p < a.q
      · rw [if_pos hlt] at g1 g2
        simp only [Bool.and_eq_true] at g1
        obtain ⟨⟨s1, s2⟩, s3⟩ := g1
        obtain ⟨p1, p2, p3, p4⟩ := smallB_iff.1 s1
        obtain ⟨q1, q2, q3, q4⟩ := smallB_iff.1 s2
        have H3 := Lib.hid s3
        have H2 := Lib.hid g2
        have H4 := Lib.hid s2
        clear s1 s2 s3 g2
        have hbne : ¬ b.q = 0 := by omega
        have hbeq : (b.q == 0) = false := by simpa using hbne
        obtain ⟨K, hK⟩ : ∃ K, (n + a.q).tdiv b.q = K := ⟨_, rfl⟩
        have hK0 : 0 ≤ K := by rw [← hK]; exact Int.tdiv_nonneg (by omega) (by omega)
        have hK1 : K ≤ 120 := by rw [← hK]; exact (tdiv_bd (n + a.q) b.q 120 (by omega) (by omega)).2
        obtain ⟨m1, m2⟩ := mul_bd (a := K) (x := b.p) 120 60 (by omega) (by omega) (by omega) (by omega)
        obtain ⟨m3, m4⟩ := mul_bd (a := K) (x := b.q) 120 60 (by omega) (by omega) (by omega) (by omega)
        have y1 : IntKind.i64.wrap (n + a.q) = n + a.q := IntWalk.i64_in _ (by omega)
        have y2 : IntKind.i64.wrap K = K := IntWalk.i64_in _ (by omega)
        have y3 : IntKind.i64.wrap (K * b.p) = K * b.p := IntWalk.i64_in _ (by omega)
        have y4 : IntKind.i64.wrap (K * b.q) = K * b.q := IntWalk.i64_in _ (by omega)
        have y5 : wrap64 (K * b.p - a.p) = K * b.p - a.p := by unfold wrap64; omega
        have y6 : wrap64 (K * b.q - a.q) = K * b.q - a.q := by unfold wrap64; omega
        have HN : Hid (farN n a b = ⟨K * b.p - a.p, K * b.q - a.q⟩) := by
          show farN n a b = ⟨K * b.p - a.p, K * b.q - a.q⟩
          simp only [farN, hK]
        have hl2 : acc.length ≤ 1202 := by omega
        clear m1 m2 m3 m4 hK0 hK1
        go_wp2_with (at_builtin; refine wpList_append_own _ rfl _ _ 24 rfl (w.heap.size + 2) 29 i0 (.agg #[.int .i64 0, .int .i64 0]) 2 16 Try.underlying24 hi iz0 iz1 iz2 rfl (by decide) _ _ _ rfl (HOw.out.alloc _) ⟨wr.heap.size, 0, none⟩ 1 1 [.int .i64 (b.p), .int .i64 (b.q)] rfl rfl (two_cells _ _ _ _ _ ?c1) (two_oneCell _ _) ?c3 ?c4 ?c5 ?_)
        case c1 => simp
        case c3 => unfold maxLen; omega
        case c4 => omega
        case c5 => (try simp); omega
        intro v2 w2 hown2 hgrow2 _
        obtain ⟨hcc, hff⟩ := own_kept (HOw.out.alloc _) hgrow2 (by simp; omega)
        have hG3 : Grow w w2 := own_grow ((HG.out).alloc _) (HOw.out.alloc _) hgrow2 (by omega)
        have hsz := hgrow2.size
        simp at hsz
        have d0 : w2.cell? ⟨w.heap.size, 0, none⟩ = some (.int .i64 a.p) := by rw [hcc _ _ (by omega)]; go_simp
        have d1 : w2.cell? ⟨w.heap.size, 1, none⟩ = some (.int .i64 a.q) := by rw [hcc _ _ (by omega)]; go_simp
        have d2 : w2.cell? ⟨w.heap.size + 1, 0, none⟩ = some (.int .i64 b.p) := by rw [hcc _ _ (by omega)]; go_simp
        have d3 : w2.cell? ⟨w.heap.size + 1, 1, none⟩ = some (.int .i64 b.q) := by rw [hcc _ _ (by omega)]; go_simp
        have d6 : ∀ o, w2.frozen? ⟨w.heap.size, o, none⟩ = false := by intro o; rw [hff _ _ (by omega)]; go_simp
        have d7 : ∀ o, w2.frozen? ⟨w.heap.size + 1, o, none⟩ = false := by intro o; rw [hff _ _ (by omega)]; go_simp
        have u1 : w.heap.size < w2.heap.size := by omega
        have u2 : w.heap.size + 1 < w2.heap.size := by omega
        have HO3 := Lib.hid hown2
        have HG3 := Lib.hid hG3
        clear hown2 hgrow2 hG3 hcc hff hsz a0 a1 b0 b1 f0 f1 HOw HG
        go_wp2
        go_region
        go_wp2
        go_roundg g'
        case measure => omega
        case rel =>
          refine ⟨b, ⟨K * b.p - a.p, K * b.q - a.q⟩, acc ++ [b], ⟨by have h := H3.out; rw [HN.out] at h; exact h, by have h := H2.out; rw [HN.out] at h; simpa using h, by simp; omega⟩, ?_, ?_, ?_, ?_, ?_, ?_, ?_, (((((HG3.out.setCell (by simp) _).setCell (by simp) _).setCell (by simp) _).setCell (by simp) _).drew), by simp; omega⟩
          all_goals try (first | (go_simp; done) | (intro o; go_simp; done))
          unfold OwnCusps
          rw [cellsC_snoc]
          have h := (own_set (own_set (own_set (own_set HO3.out (a := ⟨w.heap.size, 0, none⟩) (by simp) (.int .i64 b.p)) (a := ⟨w.heap.size, 1, none⟩) (by simp) (.int .i64 b.q)) (a := ⟨w.heap.size + 1, 0, none⟩) (by simp) (.int .i64 (K * b.p - a.p))) (a := ⟨w.heap.size + 1, 1, none⟩) (by simp) (.int .i64 (K * b.q - a.q))).drew
          simpa using h
      · rw [if_neg hlt] at g2
        have hacc : acc = M := by simpa using g2
        have HA := Lib.hid hacc
        clear hacc g2 g1
        go_wp2_with fail
        refine bodyPost_ret (v := .tuple #[u6, .int .i64 0]) (by simp only [results, Try.results27]; go_simp) rfl ⟨_, rfl, ?_, HG.out⟩
        rw [← HA.out]
        exact own_base HOw.out (by omega)
theorem farey_out (n : Int) (h : n < 1 ∨ 60 < n) (w : World) :
    Calls Try.prog 27 #[.int .i64 n] w fun e w' => e = .returned (.tuple #[.slice none 0 0, .int .i64 2]) ∧ Grow w w' := by
  by_cases h1 : n < 1
  · go_enter Try.func27, Try.ntmps27
    go_wp2_with fail
    exact bodyPost_ret (v := .tuple #[.slice none 0 0, .int .i64 2]) (by simp only [results, Try.results27]; go_simp) rfl ⟨rfl, by (repeat (first | with_reducible exact Grow.refl _ | with_reducible refine Grow.alloc ?_ _ | with_reducible refine Grow.drew ?_ | with_reducible refine Grow.drewN ?_ _ | (with_reducible refine Grow.setCell ?_ ?hp _; (case hp => (simp; try omega))) | with_reducible refine Grow.trans ?_ (by assumption)))⟩
  · have h2 : 60 < n := by omega
    go_enter Try.func27, Try.ntmps27
    go_wp2_with fail
    exact bodyPost_ret (v := .tuple #[.slice none 0 0, .int .i64 2]) (by simp only [results, Try.results27]; go_simp) rfl ⟨rfl, by (repeat (first | with_reducible exact Grow.refl _ | with_reducible refine Grow.alloc ?_ _ | with_reducible refine Grow.drew ?_ | with_reducible refine Grow.drewN ?_ _ | (with_reducible refine Grow.setCell ?_ ?hp _; (case hp => (simp; try omega))) | with_reducible refine Grow.trans ?_ (by assumption)))⟩
end Go.Proofs.Ytfjlecphjahahaa
