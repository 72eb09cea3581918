/- Walks: Expand, the program's and the reference's. -/
import Derived.Test.YtfjlecphjahahaaPlJ
import Derived.Test.YtfjlecphjahahaaSlD
import Derived.Test.YtfjlecphjahahaaPlW
import Derived.Deep.LoopGhost
namespace Go.Proofs.Ytfjlecphjahahaa
open Go.RowKit

theorem infoI : (Try.prog.info? 3).map (fun i => (i.zero, i.size, i.bytes)) = some (some (.int .i64 0), 1, 8) := by kernel_rfl

def ExpRel (w0 : World) (B : Nat) (L : List Int) (k : Nat) (t5 t6 t7 : Value) (wr : World) : Prop :=
  ∃ (p q : Int) (acc : List Int), t6 = .int .i64 p ∧ t7 = .int .i64 q ∧ (acc ++ expE k p q = L ∧ 0 ≤ q ∧ q < k ∧ acc.length + k ≤ 1073741826 ∧ -1073741824 ≤ p ∧ p ≤ 1073741824 ∧ q ≤ 1073741824) ∧ OwnInts wr B t5 acc ∧ Grow w0 wr ∧ B ≤ wr.heap.size

set_option maxHeartbeats 1000000 in
theorem expand_core (c : C2) (h0 : ccF c = 0) (hq : c.q ≠ 0) (L : List Int) (HL : Hid (expE (c.q.toNat + 1) c.p c.q = L)) (w : World) :
    Calls Try.prog 16 #[.agg #[.int .i64 c.p, .int .i64 c.q]] w fun e w' =>
      ∃ v, e = .returned (.tuple #[v, .int .i64 0]) ∧ OwnInts w' w.heap.size v L ∧ Grow w w' := by
  obtain ⟨i0, hi, iz0, iz1, iz2⟩ := info_parts infoI
  obtain ⟨h1, h2, h3, -, -⟩ := ccF_zero.1 h0
  obtain ⟨b1, b2⟩ := inB_iff.1 h1
  obtain ⟨b3, b4⟩ := inB_iff.1 h3
  have k1 : (ccF c == 0) = true := by simpa using h0
  have k2 : (ccF c != 0) = false := by simpa using h0
  have k3 : (c.q == 0) = false := by simpa using hq
  have k4 : (c.q != 0) = true := by simpa using hq
  clear h0 hq h1 h3
  go_enter Try.func16, Try.ntmps16
  go_wp2_with fail
  (go_at_call 15; refine (checkCusp_any c _).mono ?_; rintro e w1 ⟨rfl, hb1⟩; have hc1 := hb1.cells; have hf1 := hb1.frees; have hz1 := hb1.size; (try simp at hz1))
  have zw1_0 : w.heap.size < w1.heap.size := (by omega)
  go_wp2_with fail
  go_quiet (fail)
  go_wp2_with fail
  have hg1 : Grow w w1 := by (repeat (first | with_reducible exact Grow.refl _ | with_reducible refine Grow.alloc ?_ _ | with_reducible refine Grow.drew ?_ | with_reducible refine Grow.drewN ?_ _ | (with_reducible refine Grow.setCell ?_ ?hp _; (case hp => (simp; try omega))) | with_reducible refine Grow.trans ?_ (by assumption)))
  go_loopg [5, 6, 7] (c.q.toNat + 1) (fun k t5 t6 t7 wr => ExpRel w (w.heap.size + 1) L k t5 t6 t7 wr)
  case atStart => exact ⟨c.p, c.q, [], rfl, rfl, ⟨HL.out, h2, by omega, by simp; omega, b1, b2, b4⟩, World.ownsRow_nil _ _ _ _, by (repeat (first | with_reducible exact Grow.refl _ | with_reducible refine Grow.alloc ?_ _ | with_reducible refine Grow.drew ?_ | with_reducible refine Grow.drewN ?_ _ | (with_reducible refine Grow.setCell ?_ ?hp _; (case hp => (simp; try omega))) | with_reducible refine Grow.trans ?_ (by assumption))), by simp; omega⟩
  case round =>
    obtain ⟨p, q, acc, rfl, rfl, ⟨g1, g2, g3, g4, g5, g6, g7⟩, hown, hg, hB⟩ := hrel
    have HG := Lib.hid hg
    have HO := Lib.hid hown
    clear hc1 hf1 hz1 hb1 hg hown k1 k2 k3 k4 hg1 b1 b2 b3 b4 zw1_0
    by_cases hq : q = 0
    · have e1 : (q == 0) = true := by simpa using hq
      have e2 : (q != 0) = false := by simpa using hq
      have ha : acc = L := by rw [hq, expE_zero] at g1; simpa using g1
      have HA := Lib.hid ha
      clear hq ha g1
      go_wp2_with fail
      refine bodyPost_ret (v := .tuple #[u5, .int .i64 0]) (by simp only [results, Try.results16]; go_simp) rfl ⟨_, rfl, ?_, ?_⟩
      · have h := own_base HO.out (base' := w.heap.size) (by omega)
        rw [← HA.out]
        exact h
      · exact HG.out
    · have e1 : (q == 0) = false := by simpa using hq
      have e2 : (q != 0) = true := by simpa using hq
      have e3 : ¬ q = 0 := hq
      have hqp : 0 < q := by omega
      obtain ⟨g', hgk⟩ : ∃ g', gk = g' + 1 := ⟨gk - 1, by omega⟩
      rw [hgk] at g1 g3 g4
      rw [expE_succ hq] at g1
      have HR := Lib.hid (rem_step (p := p) hqp)
      have HD := Lib.hid (div_step (p := p) hqp)
      have hm1 := Int.emod_nonneg p hq
      have hm2 := Int.emod_lt_of_pos p hqp
      obtain ⟨hm3, hm4⟩ := quo_bd hqp 1073741824 g5 g6 (by omega)
      have ht1 := Int.tmod_lt_of_pos p hqp
      have ht2 := Int.lt_tmod_of_pos p hqp
      have H1 := Lib.hid g1
      clear g1 hq
      by_cases hr : p.tmod q < 0
      · have hs : p.tmod q + q = p % q := by have h := HR.out; rw [if_pos hr] at h; exact h
        have y1 : IntKind.i64.wrap (p.tmod q + q) = p % q := (IntWalk.i64_in _ (by omega)).trans hs
        have y2 : IntKind.i64.wrap (p - p % q) = p - p % q := IntWalk.i64_in _ (by omega)
        have y3 : IntKind.i64.wrap (p.tmod q) = p.tmod q := IntWalk.i64_in _ (by omega)
        have y5 : (p - p % q).tdiv q = p / q := HD.out
        have y6 : IntKind.i64.wrap (p / q) = p / q := IntWalk.i64_in _ (by omega)
        clear hs
        generalize p % q = r at *
        generalize p / q = d at *
        go_wp2_with (at_builtin; refine wpList_append_own _ rfl _ _ 22 rfl (w.heap.size + 1) 3 i0 (.int .i64 0) 1 8 Try.underlying22 hi iz0 iz1 iz2 rfl (by decide) _ _ _ rfl (HO.out.alloc _) ⟨wr.heap.size, 0, none⟩ 1 1 [.int .i64 (d)] rfl rfl (one_cells _ _ _ _ ?c1) (one_oneCell _ _) ?c3 ?c4 ?c5 ?_)
        case c1 => simp
        case c3 => unfold maxLen; omega
        case c4 => omega
        case c5 => (try simp); omega
        intro v2 w2 hown2 hgrow2 _
        go_wp2
        go_roundg g'
        case measure => omega
        case rel =>
          refine ⟨q, r, acc ++ [d], rfl, rfl, ⟨?_, by omega, by omega, ?_, by omega, by omega, by omega⟩, ?_, own_grow ((HG.out).alloc _) (HO.out.alloc _) hgrow2 (by omega), by have := hgrow2.size; simp at this; omega⟩
          · have h := H1.out; simpa using h
          · simp; omega
          · unfold OwnInts; simpa using hown2
      · have hs : p.tmod q = p % q := by have h := HR.out; rw [if_neg hr] at h; exact h
        have y2 : IntKind.i64.wrap (p - p % q) = p - p % q := IntWalk.i64_in _ (by omega)
        have y5 : (p - p % q).tdiv q = p / q := HD.out
        have y6 : IntKind.i64.wrap (p / q) = p / q := IntWalk.i64_in _ (by omega)
        rw [hs] at hr
        have y7 : p.tmod q = p % q := hs
        clear hs HR ht1 ht2
        generalize p % q = r at *
        generalize p / q = d at *
        go_wp2_with (at_builtin; refine wpList_append_own _ rfl _ _ 22 rfl (w.heap.size + 1) 3 i0 (.int .i64 0) 1 8 Try.underlying22 hi iz0 iz1 iz2 rfl (by decide) _ _ _ rfl (HO.out.alloc _) ⟨wr.heap.size, 0, none⟩ 1 1 [.int .i64 (d)] rfl rfl (one_cells _ _ _ _ ?c1) (one_oneCell _ _) ?c3 ?c4 ?c5 ?_)
        case c1 => simp
        case c3 => unfold maxLen; omega
        case c4 => omega
        case c5 => (try simp); omega
        intro v2 w2 hown2 hgrow2 _
        go_wp2
        go_roundg g'
        case measure => omega
        case rel =>
          refine ⟨q, r, acc ++ [d], rfl, rfl, ⟨?_, by omega, by omega, ?_, by omega, by omega, by omega⟩, ?_, own_grow ((HG.out).alloc _) (HO.out.alloc _) hgrow2 (by omega), by have := hgrow2.size; simp at this; omega⟩
          · have h := H1.out; simpa using h
          · simp; omega
          · unfold OwnInts; simpa using hown2
theorem expand_err (c : C2) (h0 : ccF c ≠ 0) (w : World) :
    Calls Try.prog 16 #[.agg #[.int .i64 c.p, .int .i64 c.q]] w fun e w' => e = .returned (.tuple #[.slice none 0 0, .int .i64 (ccF c)]) ∧ Grow w w' := by
  have k1 : (ccF c == 0) = false := by simpa using h0
  have k2 : (ccF c != 0) = true := by simpa using h0
  clear h0
  go_enter Try.func16, Try.ntmps16
  go_wp2_with fail
  (go_at_call 15; refine (checkCusp_any c _).mono ?_; rintro e w1 ⟨rfl, hb1⟩; have hc1 := hb1.cells; have hf1 := hb1.frees; have hz1 := hb1.size; (try simp at hz1))
  have zw1_0 : w.heap.size < w1.heap.size := (by omega)
  go_wp2_with fail
  exact bodyPost_ret (v := .tuple #[.slice none 0 0, .int .i64 (ccF c)]) (by simp only [results, Try.results16]; go_simp) rfl ⟨rfl, by (repeat (first | with_reducible exact Grow.refl _ | with_reducible refine Grow.alloc ?_ _ | with_reducible refine Grow.drew ?_ | with_reducible refine Grow.drewN ?_ _ | (with_reducible refine Grow.setCell ?_ ?hp _; (case hp => (simp; try omega))) | with_reducible refine Grow.trans ?_ (by assumption)))⟩
theorem expand_inf (c : C2) (h0 : ccF c = 0) (hq : c.q = 0) (w : World) :
    Calls Try.prog 16 #[.agg #[.int .i64 c.p, .int .i64 c.q]] w fun e w' => e = .returned (.tuple #[.slice none 0 0, .int .i64 5]) ∧ Grow w w' := by
  have k1 : (ccF c == 0) = true := by simpa using h0
  have k2 : (ccF c != 0) = false := by simpa using h0
  have k3 : (c.q == 0) = true := by simpa using hq
  clear h0 hq
  go_enter Try.func16, Try.ntmps16
  go_wp2_with fail
  (go_at_call 15; refine (checkCusp_any c _).mono ?_; rintro e w1 ⟨rfl, hb1⟩; have hc1 := hb1.cells; have hf1 := hb1.frees; have hz1 := hb1.size; (try simp at hz1))
  have zw1_0 : w.heap.size < w1.heap.size := (by omega)
  go_wp2_with fail
  exact bodyPost_ret (v := .tuple #[.slice none 0 0, .int .i64 5]) (by simp only [results, Try.results16]; go_simp) rfl ⟨rfl, by (repeat (first | with_reducible exact Grow.refl _ | with_reducible refine Grow.alloc ?_ _ | with_reducible refine Grow.drew ?_ | with_reducible refine Grow.drewN ?_ _ | (with_reducible refine Grow.setCell ?_ ?hp _; (case hp => (simp; try omega))) | with_reducible refine Grow.trans ?_ (by assumption)))⟩
theorem expand_any (c : C2) (w : World) :
    Calls Try.prog 16 #[.agg #[.int .i64 c.p, .int .i64 c.q]] w fun e w' =>
      ∃ v, e = .returned (.tuple #[v, .int .i64 (expandF c).2]) ∧ OwnInts w' w.heap.size v (expandF c).1 ∧ Grow w w' := by
  by_cases h0 : ccF c = 0
  · by_cases hq : c.q = 0
    · have hu : expandF c = ([], 5) := by simp [expandF, h0, hq]
      rw [hu]
      refine (expand_inf c h0 hq w).mono ?_
      rintro e w' ⟨rfl, hg⟩
      exact ⟨_, rfl, World.ownsRow_nil _ _ _ _, hg⟩
    · have hu : expandF c = (expE (c.q.toNat + 1) c.p c.q, 0) := by simp [expandF, h0, hq]
      rw [hu]
      exact expand_core c h0 hq _ (Lib.hid rfl) w
  · have hu : expandF c = ([], ccF c) := by simp [expandF, h0]
    rw [hu]
    refine (expand_err c h0 w).mono ?_
    rintro e w' ⟨rfl, hg⟩
    exact ⟨_, rfl, World.ownsRow_nil _ _ _ _, hg⟩

set_option maxHeartbeats 1000000 in
theorem refExpand_core (c : C2) (h0 : ccF c = 0) (hq : c.q ≠ 0) (L : List Int) (HL : Hid (expE (c.q.toNat + 1) c.p c.q = L)) (w : World) :
    Calls Try.prog 23 #[.agg #[.int .i64 c.p, .int .i64 c.q]] w fun e w' =>
      ∃ v, e = .returned (.tuple #[v, .int .i64 0]) ∧ OwnInts w' w.heap.size v L ∧ Grow w w' := by
  obtain ⟨i0, hi, iz0, iz1, iz2⟩ := info_parts infoI
  obtain ⟨h1, h2, h3, -, -⟩ := ccF_zero.1 h0
  obtain ⟨b1, b2⟩ := inB_iff.1 h1
  obtain ⟨b3, b4⟩ := inB_iff.1 h3
  have k1 : (ccF c == 0) = true := by simpa using h0
  have k2 : (ccF c != 0) = false := by simpa using h0
  have k3 : (c.q == 0) = false := by simpa using hq
  have k4 : (c.q != 0) = true := by simpa using hq
  clear h0 hq h1 h3
  go_enter Try.func23, Try.ntmps23
  go_wp2_with fail
  (go_at_call 41; refine (refCheckCusp_any c _).mono ?_; rintro e w1 ⟨rfl, hb1⟩; have hc1 := hb1.cells; have hf1 := hb1.frees; have hz1 := hb1.size; (try simp at hz1))
  have zw1_0 : w.heap.size < w1.heap.size := (by omega)
  go_wp2_with fail
  go_quiet (fail)
  go_wp2_with fail
  have hg1 : Grow w w1 := by (repeat (first | with_reducible exact Grow.refl _ | with_reducible refine Grow.alloc ?_ _ | with_reducible refine Grow.drew ?_ | with_reducible refine Grow.drewN ?_ _ | (with_reducible refine Grow.setCell ?_ ?hp _; (case hp => (simp; try omega))) | with_reducible refine Grow.trans ?_ (by assumption)))
  go_loopg [5, 6, 7] (c.q.toNat + 1) (fun k t5 t6 t7 wr => ExpRel w (w.heap.size + 1) L k t5 t6 t7 wr)
  case atStart => exact ⟨c.p, c.q, [], rfl, rfl, ⟨HL.out, h2, by omega, by simp; omega, b1, b2, b4⟩, World.ownsRow_nil _ _ _ _, by (repeat (first | with_reducible exact Grow.refl _ | with_reducible refine Grow.alloc ?_ _ | with_reducible refine Grow.drew ?_ | with_reducible refine Grow.drewN ?_ _ | (with_reducible refine Grow.setCell ?_ ?hp _; (case hp => (simp; try omega))) | with_reducible refine Grow.trans ?_ (by assumption))), by simp; omega⟩
  case round =>
    obtain ⟨p, q, acc, rfl, rfl, ⟨g1, g2, g3, g4, g5, g6, g7⟩, hown, hg, hB⟩ := hrel
    have HG := Lib.hid hg
    have HO := Lib.hid hown
    clear hc1 hf1 hz1 hb1 hg hown k1 k2 k3 k4 hg1 b1 b2 b3 b4 zw1_0
    by_cases hq : q = 0
    · have e1 : (q == 0) = true := by simpa using hq
      have e2 : (q != 0) = false := by simpa using hq
      have ha : acc = L := by rw [hq, expE_zero] at g1; simpa using g1
      have HA := Lib.hid ha
      clear hq ha g1
      go_wp2_with fail
      refine bodyPost_ret (v := .tuple #[u5, .int .i64 0]) (by simp only [results, Try.results23]; go_simp) rfl ⟨_, rfl, ?_, ?_⟩
      · have h := own_base HO.out (base' := w.heap.size) (by omega)
        rw [← HA.out]
        exact h
      · exact HG.out
    · have e1 : (q == 0) = false := by simpa using hq
      have e2 : (q != 0) = true := by simpa using hq
      have e3 : ¬ q = 0 := hq
      have hqp : 0 < q := by omega
      obtain ⟨g', hgk⟩ : ∃ g', gk = g' + 1 := ⟨gk - 1, by omega⟩
      rw [hgk] at g1 g3 g4
      rw [expE_succ hq] at g1
      have HR := Lib.hid (rem_step (p := p) hqp)
      have HD := Lib.hid (div_step (p := p) hqp)
      have hm1 := Int.emod_nonneg p hq
      have hm2 := Int.emod_lt_of_pos p hqp
      obtain ⟨hm3, hm4⟩ := quo_bd hqp 1073741824 g5 g6 (by omega)
      have ht1 := Int.tmod_lt_of_pos p hqp
      have ht2 := Int.lt_tmod_of_pos p hqp
      have H1 := Lib.hid g1
      clear g1 hq
      by_cases hr : p.tmod q < 0
      · have hs : p.tmod q + q = p % q := by have h := HR.out; rw [if_pos hr] at h; exact h
        have y1 : IntKind.i64.wrap (p.tmod q + q) = p % q := (IntWalk.i64_in _ (by omega)).trans hs
        have y2 : IntKind.i64.wrap (p - p % q) = p - p % q := IntWalk.i64_in _ (by omega)
        have y3 : IntKind.i64.wrap (p.tmod q) = p.tmod q := IntWalk.i64_in _ (by omega)
        have y5 : (p - p % q).tdiv q = p / q := HD.out
        have y6 : IntKind.i64.wrap (p / q) = p / q := IntWalk.i64_in _ (by omega)
        clear hs
        generalize p % q = r at *
        generalize p / q = d at *
        go_wp2_with (at_builtin; refine wpList_append_own _ rfl _ _ 22 rfl (w.heap.size + 1) 3 i0 (.int .i64 0) 1 8 Try.underlying22 hi iz0 iz1 iz2 rfl (by decide) _ _ _ rfl (HO.out.alloc _) ⟨wr.heap.size, 0, none⟩ 1 1 [.int .i64 (d)] rfl rfl (one_cells _ _ _ _ ?c1) (one_oneCell _ _) ?c3 ?c4 ?c5 ?_)
        case c1 => simp
        case c3 => unfold maxLen; omega
        case c4 => omega
        case c5 => (try simp); omega
        intro v2 w2 hown2 hgrow2 _
        go_wp2
        go_roundg g'
        case measure => omega
        case rel =>
          refine ⟨q, r, acc ++ [d], rfl, rfl, ⟨?_, by omega, by omega, ?_, by omega, by omega, by omega⟩, ?_, own_grow ((HG.out).alloc _) (HO.out.alloc _) hgrow2 (by omega), by have := hgrow2.size; simp at this; omega⟩
          · have h := H1.out; simpa using h
          · simp; omega
          · unfold OwnInts; simpa using hown2
      · have hs : p.tmod q = p % q := by have h := HR.out; rw [if_neg hr] at h; exact h
        have y2 : IntKind.i64.wrap (p - p % q) = p - p % q := IntWalk.i64_in _ (by omega)
        have y5 : (p - p % q).tdiv q = p / q := HD.out
        have y6 : IntKind.i64.wrap (p / q) = p / q := IntWalk.i64_in _ (by omega)
        rw [hs] at hr
        have y7 : p.tmod q = p % q := hs
        clear hs HR ht1 ht2
        generalize p % q = r at *
        generalize p / q = d at *
        go_wp2_with (at_builtin; refine wpList_append_own _ rfl _ _ 22 rfl (w.heap.size + 1) 3 i0 (.int .i64 0) 1 8 Try.underlying22 hi iz0 iz1 iz2 rfl (by decide) _ _ _ rfl (HO.out.alloc _) ⟨wr.heap.size, 0, none⟩ 1 1 [.int .i64 (d)] rfl rfl (one_cells _ _ _ _ ?c1) (one_oneCell _ _) ?c3 ?c4 ?c5 ?_)
        case c1 => simp
        case c3 => unfold maxLen; omega
        case c4 => omega
        case c5 => (try simp); omega
        intro v2 w2 hown2 hgrow2 _
        go_wp2
        go_roundg g'
        case measure => omega
        case rel =>
          refine ⟨q, r, acc ++ [d], rfl, rfl, ⟨?_, by omega, by omega, ?_, by omega, by omega, by omega⟩, ?_, own_grow ((HG.out).alloc _) (HO.out.alloc _) hgrow2 (by omega), by have := hgrow2.size; simp at this; omega⟩
          · have h := H1.out; simpa using h
          · simp; omega
          · unfold OwnInts; simpa using hown2
theorem refExpand_err (c : C2) (h0 : ccF c ≠ 0) (w : World) :
    Calls Try.prog 23 #[.agg #[.int .i64 c.p, .int .i64 c.q]] w fun e w' => e = .returned (.tuple #[.slice none 0 0, .int .i64 (ccF c)]) ∧ Grow w w' := by
  have k1 : (ccF c == 0) = false := by simpa using h0
  have k2 : (ccF c != 0) = true := by simpa using h0
  clear h0
  go_enter Try.func23, Try.ntmps23
  go_wp2_with fail
  (go_at_call 41; refine (refCheckCusp_any c _).mono ?_; rintro e w1 ⟨rfl, hb1⟩; have hc1 := hb1.cells; have hf1 := hb1.frees; have hz1 := hb1.size; (try simp at hz1))
  have zw1_0 : w.heap.size < w1.heap.size := (by omega)
  go_wp2_with fail
  exact bodyPost_ret (v := .tuple #[.slice none 0 0, .int .i64 (ccF c)]) (by simp only [results, Try.results23]; go_simp) rfl ⟨rfl, by (repeat (first | with_reducible exact Grow.refl _ | with_reducible refine Grow.alloc ?_ _ | with_reducible refine Grow.drew ?_ | with_reducible refine Grow.drewN ?_ _ | (with_reducible refine Grow.setCell ?_ ?hp _; (case hp => (simp; try omega))) | with_reducible refine Grow.trans ?_ (by assumption)))⟩
theorem refExpand_inf (c : C2) (h0 : ccF c = 0) (hq : c.q = 0) (w : World) :
    Calls Try.prog 23 #[.agg #[.int .i64 c.p, .int .i64 c.q]] w fun e w' => e = .returned (.tuple #[.slice none 0 0, .int .i64 5]) ∧ Grow w w' := by
  have k1 : (ccF c == 0) = true := by simpa using h0
  have k2 : (ccF c != 0) = false := by simpa using h0
  have k3 : (c.q == 0) = true := by simpa using hq
  clear h0 hq
  go_enter Try.func23, Try.ntmps23
  go_wp2_with fail
  (go_at_call 41; refine (refCheckCusp_any c _).mono ?_; rintro e w1 ⟨rfl, hb1⟩; have hc1 := hb1.cells; have hf1 := hb1.frees; have hz1 := hb1.size; (try simp at hz1))
  have zw1_0 : w.heap.size < w1.heap.size := (by omega)
  go_wp2_with fail
  exact bodyPost_ret (v := .tuple #[.slice none 0 0, .int .i64 5]) (by simp only [results, Try.results23]; go_simp) rfl ⟨rfl, by (repeat (first | with_reducible exact Grow.refl _ | with_reducible refine Grow.alloc ?_ _ | with_reducible refine Grow.drew ?_ | with_reducible refine Grow.drewN ?_ _ | (with_reducible refine Grow.setCell ?_ ?hp _; (case hp => (simp; try omega))) | with_reducible refine Grow.trans ?_ (by assumption)))⟩
theorem refExpand_any (c : C2) (w : World) :
    Calls Try.prog 23 #[.agg #[.int .i64 c.p, .int .i64 c.q]] w fun e w' =>
      ∃ v, e = .returned (.tuple #[v, .int .i64 (expandF c).2]) ∧ OwnInts w' w.heap.size v (expandF c).1 ∧ Grow w w' := by
  by_cases h0 : ccF c = 0
  · by_cases hq : c.q = 0
    · have hu : expandF c = ([], 5) := by simp [expandF, h0, hq]
      rw [hu]
      refine (refExpand_inf c h0 hq w).mono ?_
      rintro e w' ⟨rfl, hg⟩
      exact ⟨_, rfl, World.ownsRow_nil _ _ _ _, hg⟩
    · have hu : expandF c = (expE (c.q.toNat + 1) c.p c.q, 0) := by simp [expandF, h0, hq]
      rw [hu]
      exact refExpand_core c h0 hq _ (Lib.hid rfl) w
  · have hu : expandF c = ([], ccF c) := by simp [expandF, h0]
    rw [hu]
    refine (refExpand_err c h0 w).mono ?_
    rintro e w' ⟨rfl, hg⟩
    exact ⟨_, rfl, World.ownsRow_nil _ _ _ _, hg⟩
end Go.Proofs.Ytfjlecphjahahaa
