/- Walk: Factor of the program. -/
import Derived.Test.YtkjcdiolimajdaaSlF
import Derived.Test.YtkjcdiolimajdaaPlW
import Derived.Deep.LoopGhost
namespace Go.Proofs.Ytkjcdiolimajdaa
open Go.RowKit

theorem infoInt : (Try.prog.info? 3).map (fun i => (i.zero, i.size, i.bytes)) = some (some (.int .i64 0), 1, 8) := by kernel_rfl

def FacRel (B0 B : Nat) (w0 : World) (L : List Int) (U : M2) (k : Nat) (wr : World) : Prop :=
  ∃ (m : M2) (acc : List Int) (v : Value), (m.fits = true ∧ m.det = 1 ∧ acc ++ (facL k m).1 = L ∧ (facL k m).2 = U ∧ m.c.natAbs < 2 ^ k ∧ acc.length + k ≤ 31) ∧
    wr.cell? ⟨B0, 0, none⟩ = some (.int .i64 m.a) ∧ wr.cell? ⟨B0, 1, none⟩ = some (.int .i64 m.b) ∧ wr.cell? ⟨B0, 2, none⟩ = some (.int .i64 m.c) ∧ wr.cell? ⟨B0, 3, none⟩ = some (.int .i64 m.d) ∧
    wr.cell? ⟨B0 + 1, 0, none⟩ = some (.bool false) ∧ wr.cell? ⟨B0 + 1, 1, none⟩ = some (.slice none 0 0) ∧ wr.cell? ⟨B, 0, none⟩ = some (.bool false) ∧ wr.cell? ⟨B, 1, none⟩ = some v ∧
    (∀ o, wr.frozen? ⟨B0, o, none⟩ = false) ∧ (∀ o, wr.frozen? ⟨B0 + 1, o, none⟩ = false) ∧ (∀ o, wr.frozen? ⟨B, o, none⟩ = false) ∧ OwnInts wr (B + 1) v acc ∧ Grow w0 wr ∧ B < wr.heap.size

set_option maxHeartbeats 4000000 in
theorem factor_core (m : M2) (h0 : checkF m = 0) (L : List Int) (U : M2) (HL : Hid ((facL 31 m).1 = L ∧ (facL 31 m).2 = U)) (w : World) :
    Calls Try.prog 29 #[.agg #[.int .i64 m.a, .int .i64 m.b, .int .i64 m.c, .int .i64 m.d]] w fun e w' =>
      ∃ v, e = .returned (.tuple #[.agg #[.bool (decide (U.a < 0)), v], .int .i64 0]) ∧ OwnInts w' w.heap.size v (L ++ [U.a * U.b]) ∧ Grow w w' := by
  obtain ⟨i0, hi, iz0, iz1, iz2⟩ := info_parts infoInt
  have k1 : (checkF m == 0) = true := by simpa using h0
  have k2 : (checkF m != 0) = false := by simpa using h0
  have HC := Lib.hid (checkF_zero.1 h0)
  clear h0
  go_enter Try.func29, Try.ntmps29
  go_wp2_with fail
  (go_at_call 28; refine (check_any _ _).mono ?_; rintro e w1 ⟨rfl, hb1⟩; have hc1 := hb1.cells; have hf1 := hb1.frees; have hz1 := hb1.size; (try simp at hz1))
  have zw1_0 : w.heap.size < w1.heap.size := (by omega); have zw1_1 : w.heap.size + 1 < w1.heap.size := (by omega)
  go_wp2_with fail
  go_loopg [] 31 (fun k wr => FacRel w.heap.size w1.heap.size w L U k wr)
  case atStart =>
    refine ⟨m, [], .slice none 0 0, ⟨HC.out.1, HC.out.2, HL.out.1, HL.out.2, ?_, by simp⟩, ?_⟩
    · have := fits_bd HC.out.1; omega
    · refine ⟨?_, ?_, ?_, ?_, ?_, ?_, ?_, ?_, ?_, ?_, ?_, World.ownsRow_nil _ _ _ _, ?_, ?_⟩
      all_goals go_simp
      (repeat (first | with_reducible exact Grow.refl _ | with_reducible refine Grow.alloc ?_ _ | with_reducible refine Grow.drew ?_ | with_reducible refine Grow.drewN ?_ _ | (with_reducible refine Grow.setCell ?_ ?hp _; (case hp => (simp; try omega))) | with_reducible refine Grow.trans ?_ (by assumption)))
  case round =>
    obtain ⟨u, acc, v, ⟨hfit, hdet, hacc, hend, hsm, hlen⟩, c0, c1, c2, c3, r0, r1, s0, s1, f0, f1, f2, hown, hg, hB⟩ := hrel
    clear hb1 hc1 hf1
    by_cases hc : u.c = 0
    · have e1 : (u.c == 0) = true := by simpa using hc
      have e2 : (u.c != 0) = false := by simpa using hc
      rw [facL_done hc] at hacc
      have hend2 : u = U := by rw [facL_done hc] at hend; exact hend
      simp only [List.append_nil] at hacc
      clear hend
      subst hacc
      subst hend2
      obtain ⟨p1, p2⟩ := mul_in (fitsB_iff.1 hfit).1 (fitsB_iff.1 hfit).2.1
      have y1 : IntKind.i64.wrap (u.a * u.b) = u.a * u.b := IntWalk.i64_in _ (by omega)
      have hl2 : acc.length ≤ 31 := by omega
      have HO := Lib.hid hown
      have HG := Lib.hid hg
      clear hc hfit hdet hsm hlen hown hg
      go_wp2_with (at_builtin; refine wpList_append_own _ rfl _ _ 53 rfl (w1.heap.size + 1) 3 i0 (.int .i64 0) 1 8 Try.underlying53 hi iz0 iz1 iz2 rfl (by decide) _ _ _ rfl ((own_set HO.out (by simp) _).alloc _) ⟨wr.heap.size, 0, none⟩ 1 1 [.int .i64 (u.a * u.b)] rfl rfl (one_cells _ _ _ _ ?c1) (one_oneCell _ _) ?c3 ?c4 ?c5 ?_)
      case c1 => simp
      case c3 => unfold maxLen; omega
      case c4 => omega
      case c5 => (try simp); omega
      intro v2 w2 hown2 hgrow2 _
      obtain ⟨gb, cap, hv2, hg1, hg2⟩ := own_slice hown2 (by omega)
      obtain ⟨hcc, hff⟩ := own_kept ((own_set HO.out (by simp) _).alloc _) hgrow2 (by simp; omega)
      have hG2 : Grow w w2 := own_grow (((HG.out).setCell (by simp; omega) _).alloc _) ((own_set HO.out (by simp) _).alloc _) hgrow2 (by omega)
      have z1 : w.heap.size < w1.heap.size + 1 := by omega
      have z2 : w.heap.size + 1 < w1.heap.size + 1 := by omega
      have z3 : w.heap.size < wr.heap.size := by omega
      have z4 : w.heap.size + 1 < wr.heap.size := by omega
      have HO2 := Lib.hid hown2
      have HG2 := Lib.hid hG2
      clear hown2 hgrow2
      rw [hv2] at HO2 ⊢
      clear hv2
      go_wp2
      refine bodyPost_ret (v := .tuple #[.agg #[.bool (decide (u.a < 0)), .slice (some ⟨gb, 0, none⟩) (acc.length + 1) cap], .int .i64 0]) (by simp only [results, Try.results29]; go_simp) rfl ⟨_, rfl, ?_, ?_⟩
      · have h3 := own_base (own_set (own_set (own_set HO2.out (a := ⟨w1.heap.size, 1, none⟩) (by simp) (.slice (some ⟨gb, 0, none⟩) (acc.length + 1) cap)) (a := ⟨w.heap.size + 1, 0, none⟩) (by simp; omega) (.bool (decide (u.a < 0)))) (a := ⟨w.heap.size + 1, 1, none⟩) (by simp; omega) (.slice (some ⟨gb, 0, none⟩) (acc.length + 1) cap)) (base' := w.heap.size) (by omega)
        unfold OwnInts
        simpa using h3
      · have hG3 := HG2.out
        clear hG2
        (repeat (first | with_reducible exact Grow.refl _ | with_reducible refine Grow.alloc ?_ _ | with_reducible refine Grow.drew ?_ | with_reducible refine Grow.drewN ?_ _ | (with_reducible refine Grow.setCell ?_ ?hp _; (case hp => (simp; try omega))) | with_reducible refine Grow.trans ?_ (by assumption)))
    · obtain ⟨n, rfl⟩ : ∃ n, gk = n + 1 := by
        cases gk with
        | zero => simp at hsm; omega
        | succ n => exact ⟨n, rfl⟩
      have e1 : (u.c == 0) = false := by simpa using hc
      have e2 : (u.c != 0) = true := by simpa using hc
      obtain ⟨fa, fb, fc, fd⟩ := fitsB_iff.1 hfit
      have N := Lib.hid (nearest_any u.a u.c fa fc hc)
      have hqi := near_q_bd hc fa fc
      obtain ⟨p1, p2⟩ := mul_in hqi fd
      obtain ⟨b1, b2⟩ := inB_iff.1 fb
      obtain ⟨-, r2, r3⟩ := near_spec u.a u.c hc
      obtain ⟨b3, b4⟩ := inB_iff.1 fc
      have r4 : -1073741824 ≤ nearR u.a u.c := by omega
      have r5 : nearR u.a u.c ≤ 1073741824 := by omega
      have y1 : IntKind.i64.wrap (nearQ u.a u.c * u.d) = nearQ u.a u.c * u.d := IntWalk.i64_in _ (by omega)
      have y2 : IntKind.i64.wrap (nearQ u.a u.c * u.d - u.b) = nearQ u.a u.c * u.d - u.b := IntWalk.i64_in _ (by omega)
      have HN := Lib.hid (And.intro (next_fits hfit hc hdet) (And.intro (next_det hc hdet) (next_small hc)))
      have HF := Lib.hid (And.intro hacc (And.intro hend (And.intro hsm hc)))
      have HO := Lib.hid hown
      have HG := Lib.hid hg
      have hl2 : acc.length ≤ 31 := by omega
      clear hacc hend hsm hc hfit hdet hown hg fa fb fc fd hqi r2 r3
      go_wp2_with (first | (go_at_call 47; refine (N.out _).mono ?_; rintro e w9 ⟨rfl, rfl⟩) | (at_builtin; refine wpList_append_own _ rfl _ _ 53 rfl (w1.heap.size + 1) 3 i0 (.int .i64 0) 1 8 Try.underlying53 hi iz0 iz1 iz2 rfl (by decide) _ _ _ rfl (HO.out.alloc _) ⟨wr.heap.size, 0, none⟩ 1 1 [.int .i64 (nearQ u.a u.c)] rfl rfl (one_cells _ _ _ _ ?c1) (one_oneCell _ _) ?c3 ?c4 ?c5 ?_))
      case c1 => simp
      case c3 => unfold maxLen; omega
      case c4 => omega
      case c5 => (try simp); omega
      intro v2 w2 hown2 hgrow2 _
      obtain ⟨gb, cap, hv2, hg1, hg2⟩ := own_slice hown2 (by omega)
      obtain ⟨hcc, hff⟩ := own_kept (HO.out.alloc _) hgrow2 (by simp; omega)
      have hG2 : Grow w w2 := own_grow ((HG.out).alloc _) (HO.out.alloc _) hgrow2 (by omega)
      have z1 : w.heap.size < w1.heap.size + 1 := by omega
      have z2 : w.heap.size + 1 < w1.heap.size + 1 := by omega
      have z3 : w.heap.size < wr.heap.size := by omega
      have z4 : w.heap.size + 1 < wr.heap.size := by omega
      have hsz := hgrow2.size
      have z5 : w1.heap.size < w2.heap.size := by simp at hsz; omega
      have HO2 := Lib.hid hown2
      have HG2 := Lib.hid hG2
      clear hown2 hgrow2 hG2 hsz
      rw [hv2] at HO2 ⊢
      clear hv2
      go_wp2
      go_roundg n
      case measure => omega
      case rel =>
        obtain ⟨n1, n2, n3⟩ := HN.out
        obtain ⟨g1, g2, g3, g4⟩ := HF.out
        refine ⟨u.next, acc ++ [nearQ u.a u.c], .slice (some ⟨gb, 0, none⟩) (acc.length + 1) cap, ⟨n1, n2, ?_, ?_, ?_, ?_⟩, ?_⟩
        · rw [← g1]; simp [facL, g4]
        · rw [← g2]; simp [facL, g4]
        · rw [Nat.pow_succ] at g3; omega
        · simp; omega
        · clear n1 n2 n3 g1 g2 g3 g4
          simp only [M2.next]
          refine ⟨?_, ?_, ?_, ?_, ?_, ?_, ?_, ?_, ?_, ?_, ?_, ?_, ?_, ?_⟩
          all_goals try (first | (go_simp; done) | (intro o; go_simp; done))
          · have h3 := own_set (own_set (own_set (own_set (own_set HO2.out (a := ⟨w1.heap.size, 1, none⟩) (by simp) (.slice (some ⟨gb, 0, none⟩) (acc.length + 1) cap)) (a := ⟨w.heap.size, 0, none⟩) (by simp; omega) (.int .i64 u.c)) (a := ⟨w.heap.size, 1, none⟩) (by simp; omega) (.int .i64 u.d)) (a := ⟨w.heap.size, 2, none⟩) (by simp; omega) (.int .i64 (-(nearR u.a u.c)))) (a := ⟨w.heap.size, 3, none⟩) (by simp; omega) (.int .i64 (nearQ u.a u.c * u.d - u.b))
            unfold OwnInts
            simpa using h3
          · have hG3 := HG2.out
            (repeat (first | with_reducible exact Grow.refl _ | with_reducible refine Grow.alloc ?_ _ | with_reducible refine Grow.drew ?_ | with_reducible refine Grow.drewN ?_ _ | (with_reducible refine Grow.setCell ?_ ?hp _; (case hp => (simp; try omega))) | with_reducible refine Grow.trans ?_ (by assumption)))
end Go.Proofs.Ytkjcdiolimajdaa
