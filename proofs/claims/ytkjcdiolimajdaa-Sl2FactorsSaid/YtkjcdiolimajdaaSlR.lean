/- Walk: Factor of the reference. -/
import Derived.Test.YtkjcdiolimajdaaSlH
import Derived.Test.YtkjcdiolimajdaaPlQ
namespace Go.Proofs.Ytkjcdiolimajdaa
open Go.RowKit

theorem near_r2 (a c : Int) (hc : c ≠ 0) : nearR a c = (if 2 * a.tmod c > c.natAbs then a.tmod c - c.natAbs else if 2 * a.tmod c ≤ -(c.natAbs : Int) then a.tmod c + c.natAbs else a.tmod c) := by
  have h := near_r a c hc
  have := tmod_lt a c hc
  split at h <;> split at h <;> split <;> first | omega | (split <;> omega) | skip
  all_goals split at h <;> omega


theorem step_calls (u : M2) (hu : u.fits = true) (hc : u.c ≠ 0) (hd : u.det = 1) :
    (∀ w, Calls Try.prog 27 #[.agg #[.int .i64 0, .int .i64 (-1), .int .i64 1, .int .i64 0]] w fun e w' => e = .returned (.agg #[.int .i64 0, .int .i64 1, .int .i64 (-1), .int .i64 0]) ∧ Grow w w') ∧
    (∀ w, Calls Try.prog 46 #[.agg #[.int .i64 1, .int .i64 (-(nearQ u.a u.c)), .int .i64 0, .int .i64 1], .agg #[.int .i64 u.a, .int .i64 u.b, .int .i64 u.c, .int .i64 u.d]] w fun e w' =>
      e = .returned (.agg #[.int .i64 (nearR u.a u.c), .int .i64 (u.b - nearQ u.a u.c * u.d), .int .i64 u.c, .int .i64 u.d]) ∧ Grow w w') ∧
    (∀ w, Calls Try.prog 46 #[.agg #[.int .i64 0, .int .i64 1, .int .i64 (-1), .int .i64 0], .agg #[.int .i64 (nearR u.a u.c), .int .i64 (u.b - nearQ u.a u.c * u.d), .int .i64 u.c, .int .i64 u.d]] w fun e w' =>
      e = .returned (.agg #[.int .i64 u.next.a, .int .i64 u.next.b, .int .i64 u.next.c, .int .i64 u.next.d]) ∧ Grow w w') := by
  obtain ⟨fa, fb, fc, fd⟩ := fitsB_iff.1 hu
  have hq := near_q_bd hc fa fc
  obtain ⟨q1, q2⟩ := inB_iff.1 hq
  have hn := next_fits hu hc hd
  obtain ⟨-, -, n3, n4⟩ := fits_bd hn
  simp only [M2.next] at n3 n4
  obtain ⟨h1, -⟩ := near_spec u.a u.c hc
  refine ⟨fun w => ?_, fun w => ?_, fun w => ?_⟩
  · exact back_any ⟨0, -1, 1, 0⟩ (by decide) w
  · have h := refTimes_any ⟨1, -(nearQ u.a u.c), 0, 1⟩ u (fitsB_iff.2 ⟨(by decide : inB 1 = true), (inB_iff.2 (by omega) : inB (-(nearQ u.a u.c)) = true), (by decide : inB 0 = true), (by decide : inB 1 = true)⟩) hu w
    have e : M2.times ⟨1, -(nearQ u.a u.c), 0, 1⟩ u = ⟨nearR u.a u.c, u.b - nearQ u.a u.c * u.d, u.c, u.d⟩ := by
      simp only [M2.times, Int.one_mul, Int.zero_mul, Int.zero_add, Int.neg_mul, M2.mk.injEq, and_true]
      omega
    rw [e] at h
    exact h
  · have h := refTimes_any ⟨0, 1, -1, 0⟩ ⟨nearR u.a u.c, u.b - nearQ u.a u.c * u.d, u.c, u.d⟩ (by decide) (fitsB_iff.2 ⟨(inB_iff.2 (by omega) : inB (nearR u.a u.c) = true), (inB_iff.2 (by omega) : inB (u.b - nearQ u.a u.c * u.d) = true), fc, fd⟩) w
    have e : M2.times ⟨0, 1, -1, 0⟩ ⟨nearR u.a u.c, u.b - nearQ u.a u.c * u.d, u.c, u.d⟩ = u.next := by
      simp only [M2.times, M2.next, Int.one_mul, Int.zero_mul, Int.zero_add, Int.neg_mul, M2.mk.injEq, true_and, Int.add_zero]
      omega
    rw [e] at h
    exact h

set_option maxHeartbeats 4000000 in
theorem refFactor_core (m : M2) (h0 : checkF m = 0) (L : List Int) (U : M2) (HL : Hid ((facL 31 m).1 = L ∧ (facL 31 m).2 = U)) (w : World) :
    Calls Try.prog 30 #[.agg #[.int .i64 m.a, .int .i64 m.b, .int .i64 m.c, .int .i64 m.d]] w fun e w' =>
      ∃ v, e = .returned (.tuple #[.agg #[.bool (decide (U.a < 0)), v], .int .i64 0]) ∧ OwnInts w' w.heap.size v (L ++ [U.a * U.b]) ∧ Grow w w' := by
  obtain ⟨i0, hi, iz0, iz1, iz2⟩ := info_parts infoInt
  have k1 : (checkF m == 0) = true := by simpa using h0
  have k2 : (checkF m != 0) = false := by simpa using h0
  have HC := Lib.hid (checkF_zero.1 h0)
  clear h0
  go_enter Try.func30, Try.ntmps30
  go_wp2_with fail
  (go_at_call 26; refine (refCheck_any _ _).mono ?_; rintro e w1 ⟨rfl, hb1⟩; have hc1 := hb1.cells; have hf1 := hb1.frees; have hz1 := hb1.size; (try simp at hz1))
  have zw1_0 : w.heap.size < w1.heap.size := (by omega); have zw1_1 : w.heap.size + 1 < w1.heap.size := (by omega)
  go_wp2_with fail
  go_loopg [] 31 (fun k wr => FacRel w.heap.size w1.heap.size w L U k wr)
  case atStart =>
    refine ⟨m, [], .slice none 0 0, ⟨HC.out.1, HC.out.2, HL.out.1, HL.out.2, ?_, by simp⟩, ?_⟩
    · have := fits_bd HC.out.1; omega
    · refine ⟨?_, ?_, ?_, ?_, ?_, ?_, ?_, ?_, ?_, ?_, ?_, World.ownsRow_nil _ _ _ _, ?_, ?_⟩
      all_goals go_simp
      (repeat (first | with_reducible exact Grow.refl _ | with_reducible refine Grow.alloc ?_ _ | with_reducible refine Grow.drew ?_ | with_reducible refine Grow.drewN ?_ _ | (with_reducible refine Grow.setCell ?_ ?hp _; (case hp => (simp; try omega))) | with_reducible refine Grow.trans ?_ (by assumption)))
  case round =>
    obtain ⟨u, acc, v, ⟨hfit, hdet, hacc, hend, hsm, hlen⟩, c0, c1, c2, c3, r0, r1, s0, s1, f0, f1, f2, hown, hg, hB⟩ := hrel
    clear hb1 hc1 hf1
    by_cases hc : u.c = 0
    · have e1 : (u.c == 0) = true := by simpa using hc
      have e2 : (u.c != 0) = false := by simpa using hc
      rw [facL_done hc] at hacc
      have hend2 : u = U := by rw [facL_done hc] at hend; exact hend
      simp only [List.append_nil] at hacc
      clear hend
      subst hacc
      subst hend2
      obtain ⟨p1, p2⟩ := mul_in (fitsB_iff.1 hfit).1 (fitsB_iff.1 hfit).2.1
      have y1 : IntKind.i64.wrap (u.a * u.b) = u.a * u.b := IntWalk.i64_in _ (by omega)
      have hl2 : acc.length ≤ 31 := by omega
      have HO := Lib.hid hown
      have HG := Lib.hid hg
      clear hc hfit hdet hsm hlen hown hg
      go_wp2_with (at_builtin; refine wpList_append_own _ rfl _ _ 53 rfl (w1.heap.size + 1) 3 i0 (.int .i64 0) 1 8 Try.underlying53 hi iz0 iz1 iz2 rfl (by decide) _ _ _ rfl ((own_set HO.out (by simp) _).alloc _) ⟨wr.heap.size, 0, none⟩ 1 1 [.int .i64 (u.a * u.b)] rfl rfl (one_cells _ _ _ _ ?c1) (one_oneCell _ _) ?c3 ?c4 ?c5 ?_)
      case c1 => simp
      case c3 => unfold maxLen; omega
      case c4 => omega
      case c5 => (try simp); omega
      intro v2 w2 hown2 hgrow2 _
      obtain ⟨gb, cap, hv2, hg1, hg2⟩ := own_slice hown2 (by omega)
      obtain ⟨hcc, hff⟩ := own_kept ((own_set HO.out (by simp) _).alloc _) hgrow2 (by simp; omega)
      have hG2 : Grow w w2 := own_grow (((HG.out).setCell (by simp; omega) _).alloc _) ((own_set HO.out (by simp) _).alloc _) hgrow2 (by omega)
      have z1 : w.heap.size < w1.heap.size + 1 := by omega
      have z2 : w.heap.size + 1 < w1.heap.size + 1 := by omega
      have z3 : w.heap.size < wr.heap.size := by omega
      have z4 : w.heap.size + 1 < wr.heap.size := by omega
      have HO2 := Lib.hid hown2
      have HG2 := Lib.hid hG2
      clear hown2 hgrow2
      rw [hv2] at HO2 ⊢
      clear hv2
      go_wp2
      refine bodyPost_ret (v := .tuple #[.agg #[.bool (decide (u.a < 0)), .slice (some ⟨gb, 0, none⟩) (acc.length + 1) cap], .int .i64 0]) (by simp only [results, Try.results30]; go_simp) rfl ⟨_, rfl, ?_, ?_⟩
      · have h3 := own_base (own_set (own_set (own_set HO2.out (a := ⟨w1.heap.size, 1, none⟩) (by simp) (.slice (some ⟨gb, 0, none⟩) (acc.length + 1) cap)) (a := ⟨w.heap.size + 1, 0, none⟩) (by simp; omega) (.bool (decide (u.a < 0)))) (a := ⟨w.heap.size + 1, 1, none⟩) (by simp; omega) (.slice (some ⟨gb, 0, none⟩) (acc.length + 1) cap)) (base' := w.heap.size) (by omega)
        unfold OwnInts
        simpa using h3
      · have hG3 := HG2.out
        clear hG2
        (repeat (first | with_reducible exact Grow.refl _ | with_reducible refine Grow.alloc ?_ _ | with_reducible refine Grow.drew ?_ | with_reducible refine Grow.drewN ?_ _ | (with_reducible refine Grow.setCell ?_ ?hp _; (case hp => (simp; try omega))) | with_reducible refine Grow.trans ?_ (by assumption)))
    · obtain ⟨n, rfl⟩ : ∃ n, gk = n + 1 := by
        cases gk with
        | zero => simp at hsm; omega
        | succ n => exact ⟨n, rfl⟩
      have e1 : (u.c == 0) = false := by simpa using hc
      have e2 : (u.c != 0) = true := by simpa using hc
      obtain ⟨fa, fb, fc, fd⟩ := fitsB_iff.1 hfit
      have hqi := near_q_bd hc fa fc
      obtain ⟨p1, p2⟩ := mul_in hqi fd
      obtain ⟨b1, b2⟩ := inB_iff.1 fb
      obtain ⟨-, r2, r3⟩ := near_spec u.a u.c hc
      obtain ⟨b3, b4⟩ := inB_iff.1 fc
      have r4 : -1073741824 ≤ nearR u.a u.c := by omega
      have r5 : nearR u.a u.c ≤ 1073741824 := by omega
      have y1 : IntKind.i64.wrap (nearQ u.a u.c * u.d) = nearQ u.a u.c * u.d := IntWalk.i64_in _ (by omega)
      have y2 : IntKind.i64.wrap (nearQ u.a u.c * u.d - u.b) = nearQ u.a u.c * u.d - u.b := IntWalk.i64_in _ (by omega)
      have y3 : IntKind.i64.wrap (-(nearQ u.a u.c)) = -(nearQ u.a u.c) := IntWalk.i64_in _ (by have := inB_iff.1 hqi; omega)
      have HN := Lib.hid (And.intro (next_fits hfit hc hdet) (And.intro (next_det hc hdet) (next_small hc)))
      have HF := Lib.hid (And.intro hacc (And.intro hend (And.intro hsm hc)))
      have HO := Lib.hid hown
      have HG := Lib.hid hg
      have hl2 : acc.length ≤ 31 := by omega
      obtain ⟨kB, kT, kN⟩ := step_calls u hfit hc hdet
      have KB := Lib.hid kB
      have KT := Lib.hid kT
      have KN := Lib.hid kN
      have hqd := near_q u.a u.c hc
      have hr2 := near_r2 u.a u.c hc
      obtain ⟨t1, t2⟩ := tmod_bd u.a u.c hc 1073741824 b3 b4
      have htl := tmod_lt u.a u.c hc
      obtain ⟨q1, q2⟩ := inB_iff.1 hqi
      obtain ⟨b5, b6⟩ := inB_iff.1 fa
      clear kB kT kN hacc hend hsm hfit hdet hown hg fa fb fc fd hqi r2 r3
      obtain ⟨t, ht⟩ : ∃ t, u.a.tmod u.c = t := ⟨_, rfl⟩
      rw [ht] at hr2 t1 t2 htl
      have hn : u.a.tmod (-u.c) = t := by rw [← ht, Int.tmod_neg]
      by_cases hs : 0 < u.c
      · have hz : (u.c.natAbs : Int) = u.c := by omega
        rw [hz] at hr2
        have htl : -u.c < t ∧ t < u.c := by omega
        clear hz
        have hs2 : ¬ u.c < -u.c := by omega
        have HR := Lib.hid hr2
        have HT := Lib.hid htl
        clear hr2 htl
        go_wp2_with fail
        go_loop [7] (fun r => ∃ x : Int, r = .int .i64 x ∧ (x = t ∨ (x = t - u.c ∧ 2 * t > u.c))) (fun r => (intOf r + 4294967296).toNat)
        case atStart => exact ⟨t, rfl, .inl rfl⟩
        case round =>
          obtain ⟨x, rfl, hx⟩ := hrel
          have hx1 : -2147483648 ≤ x := by omega
          have hx2 : x ≤ 2147483648 := by omega
          by_cases hgt : 2 * x > u.c
          · have hxt : x = t := by have := HT.out; omega
            have HX := Lib.hid hxt
            clear hxt hx
            go_wp2
            go_round
            case rel => exact ⟨_, rfl, .inr (by have := HX.out; omega)⟩
            case measure => simp [intOf]; omega
          · have HX := Lib.hid hx
            clear hx
            go_wp2_with fail
            go_loop [7] (fun r => ∃ y : Int, r = .int .i64 y ∧ (y = x ∨ (y = x + u.c ∧ 2 * x ≤ -(u.c)))) (fun r => (4294967296 - intOf r).toNat)
            case atStart => exact ⟨x, rfl, .inl rfl⟩
            case round =>
              obtain ⟨y, rfl, hy⟩ := hrel
              have hy1 : -4294967296 ≤ y := by omega
              have hy2 : y ≤ 4294967295 := by omega
              by_cases hle : 2 * y ≤ -(u.c)
              · have hyx : y = x := by have := HT.out; have := HX.out; omega
                have HY := Lib.hid hyx
                clear hyx hy
                go_wp2
                go_round
                case rel => exact ⟨_, rfl, .inr (by have := HY.out; omega)⟩
                case measure => simp [intOf]; omega
              · have hyr : y = nearR u.a u.c := by
                  have h1 := HR.out
                  have h2 := HX.out
                  have h3 := HT.out
                  split at h1
                  · omega
                  · split at h1 <;> omega
                clear hy hy1 hy2
                subst hyr
                clear HX hgt hx1 hx2
                go_wp2_with (at_builtin; refine wpList_append_own _ rfl _ _ 53 rfl (w1.heap.size + 1) 3 i0 (.int .i64 0) 1 8 Try.underlying53 hi iz0 iz1 iz2 rfl (by decide) _ _ _ rfl (HO.out.alloc _) ⟨wr.heap.size, 0, none⟩ 1 1 [.int .i64 (nearQ u.a u.c)] rfl rfl (one_cells _ _ _ _ ?c1) (one_oneCell _ _) ?c3 ?c4 ?c5 ?_)
                case c1 => simp
                case c3 => unfold maxLen; omega
                case c4 => omega
                case c5 => (try simp); omega
                intro v2 w2 hown2 hgrow2 _
                obtain ⟨gb, cap, hv2, hg1, hg2⟩ := own_slice hown2 (by omega)
                obtain ⟨hcc, hff⟩ := own_kept (HO.out.alloc _) hgrow2 (by simp; omega)
                have hG2 : Grow w w2 := own_grow ((HG.out).alloc _) (HO.out.alloc _) hgrow2 (by omega)
                have z1 : w.heap.size < w1.heap.size + 1 := by omega
                have z2 : w.heap.size + 1 < w1.heap.size + 1 := by omega
                have z3 : w.heap.size < wr.heap.size := by omega
                have z4 : w.heap.size + 1 < wr.heap.size := by omega
                have hsz := hgrow2.size
                have z5 : w1.heap.size < w2.heap.size := by simp at hsz; omega
                have z6 : w.heap.size < w2.heap.size := by omega
                have z7 : w.heap.size + 1 < w2.heap.size := by omega
                have HO2 := Lib.hid hown2
                have HG2 := Lib.hid hG2
                clear hown2 hgrow2 hG2 hsz
                rw [hv2] at HO2 ⊢
                clear hv2
                go_wp2
                refine region_grow_tail 8 (by kernel_rfl) (by kernel_rfl) ?_
                intro X F hF
                have hFc := hF.cells
                haveI hFn := hF.ne
                simp only [List.take_succ_cons, List.take_zero, List.drop_succ_cons, List.drop_zero]
                repeat (go_big_quiet_step ((first | (go_at_call 48; with_reducible exact hF.call (refS_any _)) | (go_at_call 49; with_reducible exact hF.call (refT_any _ _)) | (go_at_call 27; with_reducible exact hF.call (KB.out _)) | (go_at_call 46; with_reducible exact hF.call (KT.out _)) | (go_at_call 46; with_reducible exact hF.call (KN.out _)))))
                refine wpQuiet_nil ?_
                rintro _ ⟨x9, rfl⟩
                have hg3 := hF.grow x9
                clear hFc hFn hF
                generalize F x9 = w3 at *
                have hc3 := hg3.cells
                have hf3 := hg3.frees
                have hz3 : w2.heap.size ≤ w3.heap.size := by have h := hg3.size; simpa [World.setCell] using h
                have z8 : w1.heap.size < w3.heap.size := by omega
                go_wp2
                go_roundg n
                case measure => omega
                case rel =>
                  obtain ⟨n1, n2, n3⟩ := HN.out
                  obtain ⟨g1, g2, g3, g4⟩ := HF.out
                  refine ⟨u.next, acc ++ [nearQ u.a u.c], .slice (some ⟨gb, 0, none⟩) (acc.length + 1) cap, ⟨n1, n2, ?_, ?_, ?_, ?_⟩, ?_⟩
                  · rw [← g1]; simp [facL, g4]
                  · rw [← g2]; simp [facL, g4]
                  · rw [Nat.pow_succ] at g3; omega
                  · simp; omega
                  · clear n1 n2 n3 g1 g2 g3 g4
                    refine ⟨?_, ?_, ?_, ?_, ?_, ?_, ?_, ?_, ?_, ?_, ?_, ?_, ?_, ?_⟩
                    all_goals try (first | (go_simp; done) | (intro o; go_simp; done))
                    · have h3 := own_set (own_set (own_set (own_set (own_into (own_set HO2.out (a := ⟨w1.heap.size, 1, none⟩) (by simp) (.slice (some ⟨gb, 0, none⟩) (acc.length + 1) cap)) hg3) (a := ⟨w.heap.size, 0, none⟩) (by simp; omega) (.int .i64 u.next.a)) (a := ⟨w.heap.size, 1, none⟩) (by simp; omega) (.int .i64 u.next.b)) (a := ⟨w.heap.size, 2, none⟩) (by simp; omega) (.int .i64 u.next.c)) (a := ⟨w.heap.size, 3, none⟩) (by simp; omega) (.int .i64 u.next.d)
                      unfold OwnInts
                      simpa using h3
                    · have hG3 := HG2.out
                      have hG4 : Grow w w3 := Grow.trans (Grow.setCell hG3 (by simp; omega) _) hg3
                      clear hG3 hg3
                      (repeat (first | with_reducible exact Grow.refl _ | with_reducible refine Grow.alloc ?_ _ | with_reducible refine Grow.drew ?_ | with_reducible refine Grow.drewN ?_ _ | (with_reducible refine Grow.setCell ?_ ?hp _; (case hp => (simp; try omega))) | with_reducible refine Grow.trans ?_ (by assumption)))
      · have hz : (u.c.natAbs : Int) = -u.c := by omega
        rw [hz] at hr2
        have htl : u.c < t ∧ t < -u.c := by omega
        clear hz
        have hs2 : u.c < 0 := by omega
        have HR := Lib.hid hr2
        have HT := Lib.hid htl
        clear hr2 htl
        go_wp2_with fail
        go_loop [7] (fun r => ∃ x : Int, r = .int .i64 x ∧ (x = t ∨ (x = t - -u.c ∧ 2 * t > -u.c))) (fun r => (intOf r + 4294967296).toNat)
        case atStart => exact ⟨t, rfl, .inl rfl⟩
        case round =>
          obtain ⟨x, rfl, hx⟩ := hrel
          have hx1 : -2147483648 ≤ x := by omega
          have hx2 : x ≤ 2147483648 := by omega
          by_cases hgt : 2 * x > -u.c
          · have hxt : x = t := by have := HT.out; omega
            have HX := Lib.hid hxt
            clear hxt hx
            go_wp2
            go_round
            case rel => exact ⟨_, rfl, .inr (by have := HX.out; omega)⟩
            case measure => simp [intOf]; omega
          · have HX := Lib.hid hx
            clear hx
            go_wp2_with fail
            go_loop [7] (fun r => ∃ y : Int, r = .int .i64 y ∧ (y = x ∨ (y = x + -u.c ∧ 2 * x ≤ -(-u.c)))) (fun r => (4294967296 - intOf r).toNat)
            case atStart => exact ⟨x, rfl, .inl rfl⟩
            case round =>
              obtain ⟨y, rfl, hy⟩ := hrel
              have hy1 : -4294967296 ≤ y := by omega
              have hy2 : y ≤ 4294967295 := by omega
              by_cases hle : 2 * y ≤ -(-u.c)
              · have hyx : y = x := by have := HT.out; have := HX.out; omega
                have HY := Lib.hid hyx
                clear hyx hy
                go_wp2
                go_round
                case rel => exact ⟨_, rfl, .inr (by have := HY.out; omega)⟩
                case measure => simp [intOf]; omega
              · have hyr : y = nearR u.a u.c := by
                  have h1 := HR.out
                  have h2 := HX.out
                  have h3 := HT.out
                  split at h1
                  · omega
                  · split at h1 <;> omega
                clear hy hy1 hy2
                subst hyr
                clear HX hgt hx1 hx2
                go_wp2_with (at_builtin; refine wpList_append_own _ rfl _ _ 53 rfl (w1.heap.size + 1) 3 i0 (.int .i64 0) 1 8 Try.underlying53 hi iz0 iz1 iz2 rfl (by decide) _ _ _ rfl (HO.out.alloc _) ⟨wr.heap.size, 0, none⟩ 1 1 [.int .i64 (nearQ u.a u.c)] rfl rfl (one_cells _ _ _ _ ?c1) (one_oneCell _ _) ?c3 ?c4 ?c5 ?_)
                case c1 => simp
                case c3 => unfold maxLen; omega
                case c4 => omega
                case c5 => (try simp); omega
                intro v2 w2 hown2 hgrow2 _
                obtain ⟨gb, cap, hv2, hg1, hg2⟩ := own_slice hown2 (by omega)
                obtain ⟨hcc, hff⟩ := own_kept (HO.out.alloc _) hgrow2 (by simp; omega)
                have hG2 : Grow w w2 := own_grow ((HG.out).alloc _) (HO.out.alloc _) hgrow2 (by omega)
                have z1 : w.heap.size < w1.heap.size + 1 := by omega
                have z2 : w.heap.size + 1 < w1.heap.size + 1 := by omega
                have z3 : w.heap.size < wr.heap.size := by omega
                have z4 : w.heap.size + 1 < wr.heap.size := by omega
                have hsz := hgrow2.size
                have z5 : w1.heap.size < w2.heap.size := by simp at hsz; omega
                have z6 : w.heap.size < w2.heap.size := by omega
                have z7 : w.heap.size + 1 < w2.heap.size := by omega
                have HO2 := Lib.hid hown2
                have HG2 := Lib.hid hG2
                clear hown2 hgrow2 hG2 hsz
                rw [hv2] at HO2 ⊢
                clear hv2
                go_wp2
                refine region_grow_tail 8 (by kernel_rfl) (by kernel_rfl) ?_
                intro X F hF
                have hFc := hF.cells
                haveI hFn := hF.ne
                simp only [List.take_succ_cons, List.take_zero, List.drop_succ_cons, List.drop_zero]
                repeat (go_big_quiet_step ((first | (go_at_call 48; with_reducible exact hF.call (refS_any _)) | (go_at_call 49; with_reducible exact hF.call (refT_any _ _)) | (go_at_call 27; with_reducible exact hF.call (KB.out _)) | (go_at_call 46; with_reducible exact hF.call (KT.out _)) | (go_at_call 46; with_reducible exact hF.call (KN.out _)))))
                refine wpQuiet_nil ?_
                rintro _ ⟨x9, rfl⟩
                have hg3 := hF.grow x9
                clear hFc hFn hF
                generalize F x9 = w3 at *
                have hc3 := hg3.cells
                have hf3 := hg3.frees
                have hz3 : w2.heap.size ≤ w3.heap.size := by have h := hg3.size; simpa [World.setCell] using h
                have z8 : w1.heap.size < w3.heap.size := by omega
                go_wp2
                go_roundg n
                case measure => omega
                case rel =>
                  obtain ⟨n1, n2, n3⟩ := HN.out
                  obtain ⟨g1, g2, g3, g4⟩ := HF.out
                  refine ⟨u.next, acc ++ [nearQ u.a u.c], .slice (some ⟨gb, 0, none⟩) (acc.length + 1) cap, ⟨n1, n2, ?_, ?_, ?_, ?_⟩, ?_⟩
                  · rw [← g1]; simp [facL, g4]
                  · rw [← g2]; simp [facL, g4]
                  · rw [Nat.pow_succ] at g3; omega
                  · simp; omega
                  · clear n1 n2 n3 g1 g2 g3 g4
                    refine ⟨?_, ?_, ?_, ?_, ?_, ?_, ?_, ?_, ?_, ?_, ?_, ?_, ?_, ?_⟩
                    all_goals try (first | (go_simp; done) | (intro o; go_simp; done))
                    · have h3 := own_set (own_set (own_set (own_set (own_into (own_set HO2.out (a := ⟨w1.heap.size, 1, none⟩) (by simp) (.slice (some ⟨gb, 0, none⟩) (acc.length + 1) cap)) hg3) (a := ⟨w.heap.size, 0, none⟩) (by simp; omega) (.int .i64 u.next.a)) (a := ⟨w.heap.size, 1, none⟩) (by simp; omega) (.int .i64 u.next.b)) (a := ⟨w.heap.size, 2, none⟩) (by simp; omega) (.int .i64 u.next.c)) (a := ⟨w.heap.size, 3, none⟩) (by simp; omega) (.int .i64 u.next.d)
                      unfold OwnInts
                      simpa using h3
                    · have hG3 := HG2.out
                      have hG4 : Grow w w3 := Grow.trans (Grow.setCell hG3 (by simp; omega) _) hg3
                      clear hG3 hg3
                      (repeat (first | with_reducible exact Grow.refl _ | with_reducible refine Grow.alloc ?_ _ | with_reducible refine Grow.drew ?_ | with_reducible refine Grow.drewN ?_ _ | (with_reducible refine Grow.setCell ?_ ?hp _; (case hp => (simp; try omega))) | with_reducible refine Grow.trans ?_ (by assumption)))

theorem refFactor_err (m : M2) (h0 : checkF m ≠ 0) (w : World) :
    Calls Try.prog 30 #[.agg #[.int .i64 m.a, .int .i64 m.b, .int .i64 m.c, .int .i64 m.d]] w fun e w' =>
      e = .returned (.tuple #[.agg #[.bool false, .slice none 0 0], .int .i64 (checkF m)]) ∧ Grow w w' := by
  have k1 : (checkF m == 0) = false := by simpa using h0
  have k2 : (checkF m != 0) = true := by simpa using h0
  clear h0
  go_enter Try.func30, Try.ntmps30
  go_wp2_with fail
  (go_at_call 26; refine (refCheck_any _ _).mono ?_; rintro e w1 ⟨rfl, hb1⟩; have hc1 := hb1.cells; have hf1 := hb1.frees; have hz1 := hb1.size; (try simp at hz1))
  have zw1_0 : w.heap.size < w1.heap.size := (by omega); have zw1_1 : w.heap.size + 1 < w1.heap.size := (by omega)
  go_wp2_with fail
  exact bodyPost_ret (v := .tuple #[.agg #[.bool false, .slice none 0 0], .int .i64 (checkF m)]) (by simp only [results, Try.results30]; go_simp) rfl ⟨rfl, by (repeat (first | with_reducible exact Grow.refl _ | with_reducible refine Grow.alloc ?_ _ | with_reducible refine Grow.drew ?_ | with_reducible refine Grow.drewN ?_ _ | (with_reducible refine Grow.setCell ?_ ?hp _; (case hp => (simp; try omega))) | with_reducible refine Grow.trans ?_ (by assumption)))⟩

theorem refFactor_any (m : M2) (w : World) :
    Calls Try.prog 30 #[.agg #[.int .i64 m.a, .int .i64 m.b, .int .i64 m.c, .int .i64 m.d]] w fun e w' =>
      ∃ v, e = .returned (.tuple #[.agg #[.bool (facF m).1.neg, v], .int .i64 (facF m).2]) ∧ OwnInts w' w.heap.size v (facF m).1.exps ∧ Grow w w' := by
  by_cases h0 : checkF m = 0
  · have hu : facF m = (facW m, 0) := by simp [facF, h0]
    rw [hu]
    exact refFactor_core m h0 _ _ (Lib.hid ⟨rfl, rfl⟩) w
  · have hu : facF m = (⟨false, []⟩, checkF m) := by simp [facF, h0]
    rw [hu]
    refine (refFactor_err m h0 w).mono ?_
    rintro e w' ⟨rfl, hg⟩
    exact ⟨_, rfl, World.ownsRow_nil _ _ _ _, hg⟩

end Go.Proofs.Ytkjcdiolimajdaa
