/- Walk: Farey of the reference. -/
import Derived.Test.YtfjlecphjahahaaPlU
import Derived.Test.YtfjlecphjahahaaCfG
import Derived.Test.YtfjlecphjahahaaSlC
import Derived.Deep.DeepCutAuto
import Derived.Deep.CutBlock
import Derived.BigQuiet
namespace Go.Proofs.Ytfjlecphjahahaa
open Go Go.RowKit

theorem getD_mem {l : List C2} {j : Nat} (h : j < l.length) : l.getD j C2.zero = l[j] := by simp [h]
theorem RowAt.of_own2 {w : World} {base : Nat} {v : Value} {l : List C2} (h : OwnCusps w base v l) : (v = .slice none 0 0 ∧ l = []) ∨ ∃ g cap, v = .slice (some ⟨g, 0, none⟩) l.length cap ∧ base ≤ g ∧ RowAt w g 0 cap l := by
  by_cases h0 : 0 < l.length
  · obtain ⟨g, cap, e, hb, hr, -⟩ := RowAt.of_own h h0
    exact .inr ⟨g, cap, e, hb, hr⟩
  · obtain rfl : l = [] := List.eq_nil_of_length_eq_zero (by omega)
    rcases h.2 with ⟨e, -⟩ | ⟨g, cap, cur, e, hb, hg, hle, hm, hsz, -⟩
    · exact .inl ⟨e, rfl⟩
    · refine .inr ⟨g, cap, e, hb, ⟨(Array.getElem?_eq_some_iff.1 hg).1, by simp, fun j hj => by simp at hj, fun j hj => ?_, fun o => ?_⟩⟩
      · unfold World.cell?
        simp only [hg]
        simp [show j < cur.size by omega]
      · unfold World.frozen?
        simp only [hg]
        simp
theorem rd_take {w : World} {g cap : Nat} {l : List C2} (h : RowAt w g 0 cap l) (k : Nat) (hk : k ≤ l.length) : RdCusps w (.slice (some ⟨g, 0, none⟩) k cap) (l.take k) := by
  refine .inr ⟨g, 0, cap, by simp [Nat.min_eq_left hk], h.lt, by have := h.le; simp; omega, fun j hj => ?_⟩
  simp at hj
  have e : (l.take k).getD j C2.zero = l.getD j C2.zero := by simp [List.getD, show j < k by omega]
  rw [e]
  exact h.cells j (by omega)

theorem farM_len : farM.length ≤ 60000 := by decide +kernel
theorem sel_len (p q : Int) : (selF p q).length ≤ 60000 := Nat.le_trans (List.length_filter_le _ _) farM_len

set_option maxHeartbeats 8000000 in
theorem refFarey_core (n : Nat) (h1 : 1 ≤ n) (h2 : n ≤ 60) (w : World) :
    Calls Try.prog 28 #[.int .i64 n] w fun e w' => ∃ v, e = .returned (.tuple #[v, .int .i64 0]) ∧ OwnCusps w' w.heap.size v (farF n) ∧ Grow w w' := by
  obtain ⟨i0, hi, iz0, iz1, iz2⟩ := info_parts infoC
  have k1 : ¬ (n : Int) < 1 := by omega
  have k2 : ¬ (60 : Int) < n := by omega
  go_enter Try.func28, Try.ntmps28
  go_wp2_with fail
  go_loopg [4, 5] (n + 1) (fun f t4 t5 wr => ∃ q : Nat, t5 = .int .i64 q ∧ 1 ≤ q ∧ q ≤ n + 1 ∧ q + f = n + 2 ∧ Hid (OwnCusps wr w.heap.size t4 (selF 0 q)) ∧ Hid (Grow w wr))
  case atStart => exact ⟨1, rfl, by omega, by omega, by omega, by rw [show ((1 : Nat) : Int) = 1 from rfl, sel_start]; exact World.ownsRow_nil _ _ _ _, Grow.refl _⟩
  case round =>
    obtain ⟨q, rfl, hq1, hq2, hqf, hown0, hgr0⟩ := hrel
    clear k1 k2
    by_cases hle : q ≤ n
    · have hle2 : (q : Int) ≤ n := by omega
      obtain ⟨g1, hgk⟩ : ∃ g1, gk = g1 + 1 := ⟨gk - 1, by omega⟩
      have HQF := Lib.hid hqf
      clear hqf
      go_wp2_with fail
      go_loopg [4, 6] (q + 2) (fun f t4 t6 w2 => ∃ p : Nat, t6 = .int .i64 p ∧ p ≤ q + 1 ∧ p + f = q + 2 ∧ Hid (OwnCusps w2 w.heap.size t4 (selF p q)) ∧ Hid (Grow w w2))
      case atStart => exact ⟨0, rfl, by omega, by omega, hown0.out, hgr0.out⟩
      case round =>
        obtain ⟨p, rfl, hp2, hpf, hown, hgr⟩ := hrel
        by_cases hpq : p ≤ q
        · have hpq2 : (p : Int) ≤ q := by omega
          obtain ⟨g2, hgk2⟩ : ∃ g2, gk = g2 + 1 := ⟨gk - 1, by omega⟩
          have HPF := Lib.hid hpf
          clear hpf
          have GC := Lib.hid (fun w => refGcd_any p q (by omega) (by omega) (by omega) (by omega) w)
          obtain ⟨gg, hgg⟩ : ∃ gg : Nat, Int.gcd (p : Int) q = gg := ⟨_, rfl⟩
          rw [hgg] at GC
          have hgn : Nat.gcd p q = gg := by rw [← hgg]; simp [Int.gcd]
          by_cases hg1 : gg = 1
          · subst hg1
            obtain ⟨out, hout⟩ : ∃ out, selF p q = out := ⟨_, rfl⟩
            obtain ⟨N, hN0⟩ : ∃ N, atF (selF p q) p q (selF p q).length = N := ⟨_, rfl⟩
            have hst := sel_step p q hq1 (by omega) hpq hgn N hN0
            have hsm := sel_small p q
            rw [hout] at hst hN0 hsm
            have hown1 := hown.out
            rw [hout] at hown1
            have hstep := Lib.hid hst
            have hsmall := Lib.hid hsm
            have hlen : out.length ≤ 60000 := by rw [← hout]; exact sel_len p q
            clear hst hsm hown hgg hgn hout
            rcases RowAt.of_own2 hown1 with ⟨rfl, rfl⟩ | ⟨g, cap, rfl, hbg, row⟩
            · have hN00 : N = 0 := by rw [← hN0]; simp [atF]
              subst hN00
              simp only [List.take_nil, List.drop_nil] at hstep
              clear hown1 hN0
              go_wp2_with fail
              go_at_call 43
              refine (GC.out _).mono ?_
              rintro e w9 ⟨rfl, hb9⟩
              have hgr9 := Lib.hid (hgr.out.trans hb9)
              clear hb9
              go_upto_block 4 with fail
              go_cut [7] (fun t7 wc => t7 = .int .i64 0 ∧ Hid (Grow w9 wc))
              case first =>
                go_wp2_with fail
                go_loopg [7] 1 (fun f t7 w3 => t7 = .int .i64 0 ∧ w3 = w9)
                case atStart => exact ⟨rfl, rfl⟩
                case round =>
                  obtain ⟨rfl, rfl⟩ := hrel
                  go_wp2_with fail
                  go_quiet (fail)
                  go_wp2
                  go_meet
                  case rel => exact ⟨rfl, (Grow.refl _).drewN _⟩
              case rest =>
                obtain ⟨rfl, hgc⟩ := hcut
                go_wp2_with (at_builtin; refine wpList_append_ownrd _ rfl _ _ 24 rfl i0 (.agg #[.int .i64 0, .int .i64 0]) Try.underlying24 hi iz0 iz1 iz2 rfl w9.heap.size _ 0 _ rfl (World.ownsRow_nil _ _ _ _) _ (([] : List C2)) rfl ?rd ?len ?base ?_)
                case rd => exact .inl ⟨_, _, rfl, rfl⟩
                case len => simp
                case base => exact hgc.out.size
                intro v1 w1 ho1 hg1
                have hG1 : Grow w9 w1 := own_grow hgc.out (World.ownsRow_nil wc w9.heap.size 29 2) hg1 (Nat.le_refl _)
                have hO1 : OwnCusps w1 w9.heap.size v1 (([] : List C2)) := by unfold OwnCusps; simpa using ho1
                have HO1 := Lib.hid hO1
                have HG1 := Lib.hid hG1
                have hs1 := hG1.size
                clear ho1 hg1 hO1 hG1
                go_wp2_with (at_builtin; refine wpList_append_own _ rfl _ _ 24 rfl (w9.heap.size) 29 i0 (.agg #[.int .i64 0, .int .i64 0]) 2 16 Try.underlying24 hi iz0 iz1 iz2 rfl (by decide) _ _ _ rfl (HO1.out.alloc _) ⟨w1.heap.size, 0, none⟩ 1 1 [.int .i64 (p : Int), .int .i64 (q : Int)] rfl rfl (two_cells _ _ _ _ _ ?c1) (two_oneCell _ _) ?c3 ?c4 ?c5 ?_)
                case c1 => simp
                case c3 => unfold maxLen; (simp)
                case c4 => (simp)
                case c5 => (try simp); omega
                intro v2 w2 ho2 hg2 _
                have hG2 : Grow w9 w2 := own_grow (HG1.out.alloc _) (HO1.out.alloc _) hg2 (Nat.le_refl _)
                have hO2 : OwnCusps w2 w9.heap.size v2 (([] : List C2) ++ [⟨p, q⟩]) := by unfold OwnCusps; rw [cellsC_snoc]; simpa using ho2
                have HO2 := Lib.hid hO2
                have HG2 := Lib.hid hG2
                clear ho2 hg2 hO2 hG2
                go_wp2_with (at_builtin; refine wpList_append_ownrd _ rfl _ _ 24 rfl i0 (.agg #[.int .i64 0, .int .i64 0]) Try.underlying24 hi iz0 iz1 iz2 rfl w9.heap.size _ _ _ rfl (HO2.out) _ (([] : List C2)) rfl ?rd ?len ?base ?_)
                case rd => exact .inl ⟨_, _, rfl, rfl⟩
                case len => simp
                case base => exact HG2.out.size
                intro v3 w3 ho3 hg3
                have hG3 : Grow w9 w3 := own_grow HG2.out HO2.out hg3 (Nat.le_refl _)
                have HG3 := Lib.hid (hgr9.out.trans hG3)
                have HO3 : Hid (OwnCusps w3 w.heap.size v3 (selF (p + 1) q)) := by
                  show OwnCusps w3 w.heap.size v3 (selF (p + 1) q)
                  rw [hstep.out]
                  have e : ∀ (A B : List C2), A ++ (⟨p, q⟩ :: B) = (A ++ [⟨p, q⟩]) ++ B := fun A B => by simp
                  rw [e]
                  unfold OwnCusps
                  rw [cellsC_append, List.length_append]
                  first
                    | exact own_base ho3 hgr9.out.size
                    | (rw [show (List.take N out ++ [(⟨p, q⟩ : C2)]).length = min N out.length + 1 by simp, List.length_drop]; exact own_base ho3 hgr9.out.size)
                clear ho3 hg3 hG3
                go_wp2
                go_roundg g2
                case measure => omega
                case rel => exact ⟨p + 1, by go_num, by omega, by have := HPF.out; omega, by show OwnCusps w3 w.heap.size _ (selF (p + 1 : Nat) q); rw [show ((p + 1 : Nat) : Int) = (p : Int) + 1 by omega]; exact HO3.out, HG3.out⟩
            · have hN := Lib.hid hN0
              obtain ⟨m, hm0⟩ : ∃ m, out.length = m := ⟨_, rfl⟩
              have hm := Lib.hid hm0
              rw [hm0]
              rw [hm0] at hlen
              clear hown1 hN0 hm0
              go_wp2_with fail
              go_at_call 43
              refine (GC.out _).mono ?_
              rintro e w9 ⟨rfl, hb9⟩
              have hgr9 := Lib.hid (hgr.out.trans hb9)
              have Row := Lib.hid (row.grow hb9)
              clear hb9 row hbg
              go_upto_block 4 with fail
              go_cut [7] (fun t7 wc => t7 = .int .i64 N ∧ Hid (Grow w9 wc))
              case first =>
                go_wp2_with fail
                go_loopg [7] m (fun f t7 w3 => ∃ k : Nat, t7 = .int .i64 k ∧ k ≤ f ∧ k ≤ m ∧ Hid (atF out p q k = N) ∧ ∃ d, w3 = w9.drewN d)
                case atStart => exact ⟨m, rfl, Nat.le_refl _, Nat.le_refl _, by show atF out p q m = N; rw [← hm.out]; exact hN.out, 0, rfl⟩
                case round =>
                  obtain ⟨k, rfl, hkf, hkm, hat, d, rfl⟩ := hrel
                  cases k with
                  | zero =>
                    have hN0 : Hid (0 = N) := hat.out
                    go_wp2_with fail
                    go_quiet (fail)
                    go_wp2
                    go_meet
                    case rel => exact ⟨by rw [← hN0.out], ((Grow.refl w9).drewN _).drewN _⟩
                  | succ j =>
                    obtain ⟨d1, d2⟩ := Row.out.cells j (by rw [hm.out]; omega)
                    have hsm := smallB_iff.1 (hsmall.out (out.getD j C2.zero) (by rw [getD_mem (by rw [hm.out]; omega)]; exact List.getElem_mem _))
                    have hat2 := hat.out
                    simp only [atF] at hat2
                    obtain ⟨u, hu⟩ : ∃ u, out.getD j C2.zero = u := ⟨_, rfl⟩
                    rw [hu] at d1 d2 hsm hat2
                    simp only [Nat.zero_add] at d1 d2
                    obtain ⟨s1, s2, s3, s4⟩ := hsm
                    obtain ⟨k, hk⟩ : ∃ k : Nat, j + 1 = k := ⟨_, rfl⟩
                    have hk2 : (k : Int) - 1 = j := by omega
                    have hk3 : decide (0 < k) = true := by simp; omega
                    rw [hk]
                    rw [hk] at hat2
                    have HAT := Lib.hid hat2
                    clear hat hat2 hu
                    obtain ⟨m1, m2⟩ := mul_bd (a := u.p) (x := (q : Int)) 60 60 (by omega) (by omega) (by omega) (by omega)
                    obtain ⟨m3, m4⟩ := mul_bd (a := (p : Int)) (x := u.q) 60 60 (by omega) (by omega) (by omega) (by omega)
                    have y1 : IntKind.i64.wrap (u.p * q) = u.p * q := IntWalk.i64_in _ (by omega)
                    have y2 : IntKind.i64.wrap (p * u.q) = p * u.q := IntWalk.i64_in _ (by omega)
                    have y3 : IntKind.i64.wrap (j : Int) = j := IntWalk.i64_in _ (by omega)
                    have f1 : (0 : Int) ≤ j := by omega
                    have f2 : (j : Int) < m := by omega
                    obtain ⟨g3, hg3⟩ : ∃ g3, gk = g3 + 1 := ⟨gk - 1, by omega⟩
                    have HKK := Lib.hid hk
                    clear m1 m2 m3 m4 hk
                    by_cases hcmp : (p : Int) * u.q < u.p * q
                    · have hc1 : decide ((p : Int) * u.q < u.p * q) = true := by simpa using hcmp
                      have h3 := HAT.out
                      rw [if_pos hcmp] at h3
                      have H3 := Lib.hid h3
                      clear h3 hcmp HAT
                      go_wp2_with fail
                      go_quiet (fail)
                      go_wp2
                      go_roundg g3
                      case measure => omega
                      case rel => exact ⟨j, rfl, by have := HKK.out; omega, by omega, H3.out, _, rfl⟩
                    · have hc1 : decide ((p : Int) * u.q < u.p * q) = false := by rw [decide_eq_false_iff_not]; exact hcmp
                      have h3 := HAT.out
                      rw [if_neg hcmp] at h3
                      have H3 := Lib.hid h3
                      clear h3 hcmp HAT
                      go_wp2_with fail
                      go_quiet (fail)
                      go_wp2
                      go_meet
                      case rel => exact ⟨by rw [H3.out], ((Grow.refl w9).drewN _).drewN _⟩
              case rest =>
                obtain ⟨rfl, hgc⟩ := hcut
                have hN1 : N ≤ m := by rw [← hN.out, ← hm.out]; exact at_le _ _ _ _
                have hcapm := Row.out.le
                rw [hm.out] at hcapm
                have f1 : (0 : Int) ≤ N := by omega
                have f2 : (N : Int) ≤ m := by omega
                have f3 : (N : Int) ≤ cap := by omega
                have hNc : N ≤ cap := by omega
                have zg : g < wc.heap.size := Nat.lt_of_lt_of_le Row.out.lt hgc.out.size
                have RowC := Lib.hid (Row.out.grow hgc.out)
                go_wp2_with (at_builtin; refine wpList_append_ownrd _ rfl _ _ 24 rfl i0 (.agg #[.int .i64 0, .int .i64 0]) Try.underlying24 hi iz0 iz1 iz2 rfl w9.heap.size _ 0 _ rfl (World.ownsRow_nil _ _ _ _) _ (out.take N) rfl ?rd ?len ?base ?_)
                case rd => exact rd_take RowC.out N (by have := hm.out; omega)
                case len => (simp; have := hm.out; omega)
                case base => exact hgc.out.size
                intro v1 w1 ho1 hg1
                have hG1 : Grow w9 w1 := own_grow hgc.out (World.ownsRow_nil wc w9.heap.size 29 2) hg1 (Nat.le_refl _)
                have hO1 : OwnCusps w1 w9.heap.size v1 (out.take N) := by unfold OwnCusps; simpa using ho1
                have HO1 := Lib.hid hO1
                have HG1 := Lib.hid hG1
                have hs1 := hG1.size
                clear ho1 hg1 hO1 hG1
                go_wp2_with (at_builtin; refine wpList_append_own _ rfl _ _ 24 rfl (w9.heap.size) 29 i0 (.agg #[.int .i64 0, .int .i64 0]) 2 16 Try.underlying24 hi iz0 iz1 iz2 rfl (by decide) _ _ _ rfl (HO1.out.alloc _) ⟨w1.heap.size, 0, none⟩ 1 1 [.int .i64 (p : Int), .int .i64 (q : Int)] rfl rfl (two_cells _ _ _ _ _ ?c1) (two_oneCell _ _) ?c3 ?c4 ?c5 ?_)
                case c1 => simp
                case c3 => unfold maxLen; (simp; have := hm.out; omega)
                case c4 => (simp; have := hm.out; omega)
                case c5 => (try simp); omega
                intro v2 w2 ho2 hg2 _
                have hG2 : Grow w9 w2 := own_grow (HG1.out.alloc _) (HO1.out.alloc _) hg2 (Nat.le_refl _)
                have hO2 : OwnCusps w2 w9.heap.size v2 (out.take N ++ [⟨p, q⟩]) := by unfold OwnCusps; rw [cellsC_snoc]; simpa using ho2
                have HO2 := Lib.hid hO2
                have HG2 := Lib.hid hG2
                clear ho2 hg2 hO2 hG2
                have RowD := Lib.hid (Row.out.grow HG2.out)
                by_cases hc2 : cap = N
                · have e8 : m - N = 0 := by omega
                  have e9 : cap - N = 0 := by omega
                  go_wp2_with (at_builtin; refine wpList_append_ownrd _ rfl _ _ 24 rfl i0 (.agg #[.int .i64 0, .int .i64 0]) Try.underlying24 hi iz0 iz1 iz2 rfl w9.heap.size _ _ _ rfl (HO2.out) _ (out.drop N) rfl ?rd ?len ?base ?_)
                  case rd => exact .inl ⟨_, _, rfl, List.drop_of_length_le (by have := hm.out; omega)⟩
                  case len => (simp; have := hm.out; omega)
                  case base => exact HG2.out.size
                  intro v3 w3 ho3 hg3
                  have hG3 : Grow w9 w3 := own_grow HG2.out HO2.out hg3 (Nat.le_refl _)
                  have HG3 := Lib.hid (hgr9.out.trans hG3)
                  have HO3 : Hid (OwnCusps w3 w.heap.size v3 (selF (p + 1) q)) := by
                    show OwnCusps w3 w.heap.size v3 (selF (p + 1) q)
                    rw [hstep.out]
                    have e : ∀ (A B : List C2), A ++ (⟨p, q⟩ :: B) = (A ++ [⟨p, q⟩]) ++ B := fun A B => by simp
                    rw [e]
                    unfold OwnCusps
                    rw [cellsC_append, List.length_append]
                    first
                      | exact own_base ho3 hgr9.out.size
                      | (rw [show (List.take N out ++ [(⟨p, q⟩ : C2)]).length = min N out.length + 1 by simp, List.length_drop]; exact own_base ho3 hgr9.out.size)
                  clear ho3 hg3 hG3
                  go_wp2
                  go_roundg g2
                  case measure => omega
                  case rel => exact ⟨p + 1, by go_num, by omega, by have := HPF.out; omega, by show OwnCusps w3 w.heap.size _ (selF (p + 1 : Nat) q); rw [show ((p + 1 : Nat) : Int) = (p : Int) + 1 by omega]; exact HO3.out, HG3.out⟩
                · skip
                  go_wp2_with (at_builtin; refine wpList_append_ownrd _ rfl _ _ 24 rfl i0 (.agg #[.int .i64 0, .int .i64 0]) Try.underlying24 hi iz0 iz1 iz2 rfl w9.heap.size _ _ _ rfl (HO2.out) _ (out.drop N) rfl ?rd ?len ?base ?_)
                  case rd => (have h := rd_tail RowD.out.lt RowD.out.le N (by have := hm.out; omega) RowD.out.cells; rw [hm.out, Nat.zero_add] at h; exact h)
                  case len => (simp; have := hm.out; omega)
                  case base => exact HG2.out.size
                  intro v3 w3 ho3 hg3
                  have hG3 : Grow w9 w3 := own_grow HG2.out HO2.out hg3 (Nat.le_refl _)
                  have HG3 := Lib.hid (hgr9.out.trans hG3)
                  have HO3 : Hid (OwnCusps w3 w.heap.size v3 (selF (p + 1) q)) := by
                    show OwnCusps w3 w.heap.size v3 (selF (p + 1) q)
                    rw [hstep.out]
                    have e : ∀ (A B : List C2), A ++ (⟨p, q⟩ :: B) = (A ++ [⟨p, q⟩]) ++ B := fun A B => by simp
                    rw [e]
                    unfold OwnCusps
                    rw [cellsC_append, List.length_append]
                    first
                      | exact own_base ho3 hgr9.out.size
                      | (rw [show (List.take N out ++ [(⟨p, q⟩ : C2)]).length = min N out.length + 1 by simp, List.length_drop]; exact own_base ho3 hgr9.out.size)
                  clear ho3 hg3 hG3
                  go_wp2
                  go_roundg g2
                  case measure => omega
                  case rel => exact ⟨p + 1, by go_num, by omega, by have := HPF.out; omega, by show OwnCusps w3 w.heap.size _ (selF (p + 1 : Nat) q); rw [show ((p + 1 : Nat) : Int) = (p : Int) + 1 by omega]; exact HO3.out, HG3.out⟩
          · have e1 : ((gg : Int) == 1) = false := by simp; omega
            have e2 : ((gg : Int) != 1) = true := by simp; omega
            have hsk := Lib.hid (sel_skip p q hq1 (by omega) hpq (by rw [hgn]; exact hg1))
            clear hg1 hgg hgn
            go_wp2_with fail
            go_at_call 43
            refine (GC.out _).mono ?_
            rintro e w9 ⟨rfl, hb9⟩
            have hgr9 := Lib.hid (hgr.out.trans hb9)
            have HO9 := Lib.hid (hown.out.into hb9)
            clear hb9
            go_wp2_with fail
            go_roundg g2
            case measure => omega
            case rel => exact ⟨p + 1, by go_num, by omega, by have := HPF.out; omega, by show OwnCusps w9 w.heap.size _ (selF (p + 1 : Nat) q); rw [show ((p + 1 : Nat) : Int) = (p : Int) + 1 by omega, hsk.out]; exact HO9.out, hgr9.out⟩
        · have hpe : (p : Int) = q + 1 := by omega
          have hpq2 : ¬ (p : Int) ≤ q := by omega
          have hs : selF p q = selF 0 (q + 1) := by rw [hpe]; exact sel_row q
          have HO := Lib.hid hown.out
          rw [hs] at HO
          clear hpe hs hown
          go_wp2_with fail
          go_roundg g1
          case measure => omega
          case rel => exact ⟨q + 1, by go_num, by omega, by omega, by have := HQF.out; omega, by show OwnCusps wr w.heap.size _ (selF 0 (q + 1 : Nat)); rw [show ((q + 1 : Nat) : Int) = (q : Int) + 1 by omega]; exact HO.out, hgr.out⟩
    · have hqn : q = n + 1 := by omega
      have hle2 : ¬ (q : Int) ≤ n := by omega
      have hs : selF 0 q = farF n := by rw [hqn]; exact sel_end n h1 h2
      have HO := Lib.hid hown0.out
      rw [hs] at HO
      clear hqn hs hown0
      go_wp2_with fail
      refine bodyPost_ret (v := .tuple #[u4, .int .i64 0]) (by simp only [results, Try.results28]; go_simp) rfl ⟨_, rfl, HO.out, hgr0.out⟩
theorem refFarey_out (n : Int) (h : n < 1 ∨ 60 < n) (w : World) :
    Calls Try.prog 28 #[.int .i64 n] w fun e w' => e = .returned (.tuple #[.slice none 0 0, .int .i64 2]) ∧ Grow w w' := by
  by_cases h1 : n < 1
  · go_enter Try.func28, Try.ntmps28
    go_wp2_with fail
    exact bodyPost_ret (v := .tuple #[.slice none 0 0, .int .i64 2]) (by simp only [results, Try.results28]; go_simp) rfl ⟨rfl, by (repeat (first | with_reducible exact Grow.refl _ | with_reducible refine Grow.alloc ?_ _ | with_reducible refine Grow.drew ?_ | with_reducible refine Grow.drewN ?_ _ | (with_reducible refine Grow.setCell ?_ ?hp _; (case hp => (simp; try omega))) | with_reducible refine Grow.trans ?_ (by assumption)))⟩
  · have h2 : 60 < n := by omega
    go_enter Try.func28, Try.ntmps28
    go_wp2_with fail
    exact bodyPost_ret (v := .tuple #[.slice none 0 0, .int .i64 2]) (by simp only [results, Try.results28]; go_simp) rfl ⟨rfl, by (repeat (first | with_reducible exact Grow.refl _ | with_reducible refine Grow.alloc ?_ _ | with_reducible refine Grow.drew ?_ | with_reducible refine Grow.drewN ?_ _ | (with_reducible refine Grow.setCell ?_ ?hp _; (case hp => (simp; try omega))) | with_reducible refine Grow.trans ?_ (by assumption)))⟩
end Go.Proofs.Ytfjlecphjahahaa
