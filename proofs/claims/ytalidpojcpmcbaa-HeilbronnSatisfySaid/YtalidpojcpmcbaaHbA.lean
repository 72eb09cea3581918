/- Walk: Merel of the program, determinants to 24. -/
import Derived.Test.YtalidpojcpmcbaaProg
import Derived.Test.YtalidpojcpmcbaaHbP
import Derived.Test.YtalidpojcpmcbaaSlA
import Derived.OwnWalk
import Derived.Deep.LoopGhost
import Derived.Deep.DeepCutAuto
namespace Go.Proofs.Ytalidpojcpmcbaa
open Go Go.RowKit

theorem infoM : (Try.prog.info? 39).map (fun i => (i.zero, i.size, i.bytes)) = some (some (.agg #[.int .i64 0, .int .i64 0, .int .i64 0, .int .i64 0]), 4, 32) := by kernel_rfl
theorem tdiv_bd' (p g : Int) (B : Int) (h1 : -B ≤ p) (h2 : p ≤ B) : -B ≤ p.tdiv g ∧ p.tdiv g ≤ B := by
  have : (p.tdiv g).natAbs ≤ p.natAbs := by rw [Int.natAbs_tdiv]; exact Nat.div_le_self _ _
  omega
theorem tmod_bd' (p g : Int) (B : Int) (h1 : -B ≤ p) (h2 : p ≤ B) : -B ≤ p.tmod g ∧ p.tmod g ≤ B := by
  have : (p.tmod g).natAbs ≤ p.natAbs := by rw [Int.natAbs_tmod]; exact Nat.mod_le _ _
  omega
theorem acc_le {acc rest M : List M2} (h : acc ++ rest = M) (hM : M.length ≤ 100000) : acc.length ≤ 100000 := by
  rw [← h, List.length_append] at hM; omega

set_option maxRecDepth 20000 in
set_option maxHeartbeats 4000000 in
theorem merel_core (n : Int) (h1 : 1 ≤ n) (h2 : n ≤ 24) (M : List M2) (hM : Hid (merF n = M)) (hML : M.length ≤ 100000) (w : World) :
    Calls Try.prog 13 #[.int .i64 n] w fun e w' => ∃ v, e = .returned (.tuple #[v, .int .i64 0]) ∧ OwnMats w' w.heap.size v M ∧ Grow w w' := by
  obtain ⟨i0, hi, iz0, iz1, iz2⟩ := info_parts infoM
  have k1 : ¬ n < 1 := by omega
  have k2 : ¬ 128 < n := by omega
  go_enter Try.func13, Try.ntmps13
  go_wp2_with fail
  go_loopg [4, 5] 40 (fun k t4 t5 wr => ∃ (a : Int) (acc : List M2), t5 = .int .i64 a ∧ 1 ≤ a ∧ a ≤ 25 ∧ Hid (a + k = 41) ∧ Hid (acc ++ merA k n a = M) ∧ Hid (OwnMats wr w.heap.size t4 acc) ∧ Hid (Grow w wr))
  case atStart => exact ⟨1, [], rfl, by omega, by omega, by show (1 : Int) + (40 : Nat) = 41; omega, hM.out, World.ownsRow_nil _ _ _ _, Grow.refl _⟩
  case round =>
    obtain ⟨a, acc, rfl, ha1, ha2, hak, hacc, hown, hgr⟩ := hrel
    by_cases han : a ≤ n
    · obtain ⟨g1, hgk⟩ : ∃ g1, gk = g1 + 1 := ⟨gk - 1, by have := hak.out; omega⟩
      have hane : ¬ a = 0 := by omega
      have haneb : (a == 0) = false := by simpa using hane
      obtain ⟨q, hq⟩ : ∃ q, n.tdiv a = q := ⟨_, rfl⟩
      obtain ⟨t, ht⟩ : ∃ t, n.tmod a = t := ⟨_, rfl⟩
      have hq0 : 0 ≤ q := by rw [← hq]; exact Int.tdiv_nonneg (by omega) (by omega)
      have hq1 : q ≤ 24 := by rw [← hq]; exact Int.le_trans (Int.tdiv_le_self _ (by omega)) h2
      have ht0 : 0 ≤ t := by rw [← ht]; exact Int.tmod_nonneg _ (by omega)
      have ht1 : t < a := by rw [← ht]; exact Int.tmod_lt_of_pos _ (by omega)
      have y1 : IntKind.i64.wrap q = q := IntWalk.i64_in _ (by omega)
      have y2 : IntKind.i64.wrap t = t := IntWalk.i64_in _ (by omega)
      have hacc2 := hacc.out
      rw [hgk] at hacc2
      simp only [merA] at hacc2
      rw [if_pos han, ht] at hacc2
      have HA := Lib.hid hacc2
      clear hacc hacc2 k1 k2
      obtain ⟨tb, htb⟩ : ∃ tb : Bool, (t == 0) = tb := ⟨_, rfl⟩
      go_upto_if 23 with (fail)
      go_cut [4] (fun t4 wc => ∃ acc : List M2, Hid (acc ++ (merB 40 n a 1 ++ merA g1 n (a + 1)) = M) ∧ Hid (OwnMats wc w.heap.size t4 acc) ∧ Hid (Grow w wc))
      case first =>
        cases tb with
        | true =>
          have ht2 : t = 0 := by simpa using htb
          have hb := HA.out
          rw [if_pos ht2] at hb
          have HB := Lib.hid hb
          clear hb ht2 HA
          go_wp2_with fail
          go_loopg [4, 6] 40 (fun k t4 t6 wr2 => ∃ (c : Int) (acc : List M2), t6 = .int .i64 c ∧ 0 ≤ c ∧ c ≤ 25 ∧ Hid (c + k = 40) ∧ Hid (acc ++ (merC k n a c ++ (merB 40 n a 1 ++ merA g1 n (a + 1))) = M) ∧ Hid (OwnMats wr2 w.heap.size t4 acc) ∧ Hid (Grow w wr2))
          case atStart => exact ⟨0, acc, rfl, by omega, by omega, by show (0 : Int) + (40 : Nat) = 40; omega, HB.out, hown.out, hgr.out⟩
          case round =>
            clear hown hgr
            obtain ⟨c, acc, rfl, hc0, hc1, hck, hacc, hown, hgr⟩ := hrel
            have hacc2 := hacc.out
            by_cases hcq : c < q
            · obtain ⟨g2, hgk2⟩ : ∃ g2, gk = g2 + 1 := ⟨gk - 1, by have := hck.out; omega⟩
              rw [hgk2] at hacc2
              simp only [merC] at hacc2
              rw [hq, if_pos hcq] at hacc2
              have hlen := acc_le hacc2 hML
              have HC := Lib.hid hacc2
              clear hacc hacc2
              have hzz := hgr.out.size
              go_wp2_with (at_builtin; refine wpList_append_own _ rfl _ _ 24 rfl (w.heap.size) 39 i0 (.agg #[.int .i64 0, .int .i64 0, .int .i64 0, .int .i64 0]) 4 32 Try.underlying24 hi iz0 iz1 iz2 rfl (by decide) _ _ _ rfl (hown.out.alloc _) ⟨wr.heap.size, 0, none⟩ 1 1 [.int .i64 (a), .int .i64 (0), .int .i64 (c), .int .i64 (q)] rfl rfl (four_cells _ _ _ _ _ _ _ ?c1) (four_oneCell _ _ _ _) ?c3 ?c4 ?c5 ?_)
              case c1 => simp
              case c3 => unfold maxLen; omega
              case c4 => omega
              case c5 => (try simp); omega
              intro v2 w2 hown2 hgrow2 _
              have hG2 : Grow w w2 := own_grow (hgr.out.alloc _) (hown.out.alloc _) hgrow2 (Nat.le_refl _)
              have HO2 : Hid (OwnMats w2 w.heap.size v2 (acc ++ [⟨a, 0, c, q⟩])) := by show OwnMats w2 w.heap.size v2 (acc ++ [⟨a, 0, c, q⟩]); unfold OwnMats; rw [cellsM_snoc]; simpa using hown2
              have HG2 := Lib.hid hG2
              clear hown2 hgrow2 hG2 hown hgr
              go_wp2
              go_roundg g2
              case measure => omega
              case rel => exact ⟨c + 1, acc ++ [(⟨a, 0, c, q⟩ : M2)], rfl, by omega, by omega, by show c + 1 + (g2 : Int) = 40; have := hck.out; omega, (List.append_assoc _ _ _).trans HC.out, HO2.out, HG2.out⟩
            · have h0 : merC gk n a c = [] := by cases gk <;> simp [merC, hq, hcq]
              rw [h0, List.nil_append] at hacc2
              have HC := Lib.hid hacc2
              clear hacc hacc2 h0
              go_wp2_with fail
              go_meet
              case rel => exact ⟨acc, HC.out, hown.out, hgr.out⟩
        | false =>
          have ht2 : ¬ t = 0 := by simpa using htb
          have hb := HA.out
          rw [if_neg ht2, List.nil_append] at hb
          have HB := Lib.hid hb
          clear hb HA
          go_wp2_with fail
          go_meet
          case rel => exact ⟨acc, HB.out, hown.out, hgr.out⟩
      case rest =>
        clear HA hown hgr
        obtain ⟨acc, hacc, hown, hgr⟩ := hcut
        obtain ⟨d0, hd0⟩ : ∃ d0, (n + a - 1).tdiv a = d0 := ⟨_, rfl⟩
        have hd01 : 0 ≤ d0 := by rw [← hd0]; exact Int.tdiv_nonneg (by omega) (by omega)
        have hd02 : d0 ≤ 60 := by rw [← hd0]; exact Int.le_trans (Int.tdiv_le_self _ (by omega)) (by omega)
        have y3 : IntKind.i64.wrap (n + a) = n + a := IntWalk.i64_in _ (by omega)
        have y4 : IntKind.i64.wrap (n + a - 1) = n + a - 1 := IntWalk.i64_in _ (by omega)
        have y5 : IntKind.i64.wrap d0 = d0 := IntWalk.i64_in _ (by omega)
        go_wp2_with fail
        go_loopg [4, 7] 40 (fun k t4 t7 wr2 => ∃ (b : Int) (acc : List M2), t7 = .int .i64 b ∧ 1 ≤ b ∧ b ≤ 25 ∧ Hid (b + k = 41) ∧ Hid (acc ++ (merB k n a b ++ merA g1 n (a + 1)) = M) ∧ Hid (OwnMats wr2 w.heap.size t4 acc) ∧ Hid (Grow w wr2))
        case atStart => exact ⟨1, acc, rfl, by omega, by omega, by show (1 : Int) + (40 : Nat) = 41; omega, hacc.out, hown.out, hgr.out⟩
        case round =>
          clear hown hgr hacc
          obtain ⟨b, acc, rfl, hb0, hb1, hbk, hacc, hown, hgr⟩ := hrel
          have hacc2 := hacc.out
          by_cases hba : b < a
          · obtain ⟨g2, hgk2⟩ : ∃ g2, gk = g2 + 1 := ⟨gk - 1, by have := hbk.out; omega⟩
            rw [hgk2] at hacc2
            simp only [merB] at hacc2
            rw [hd0, if_pos hba, List.append_assoc] at hacc2
            have HB := Lib.hid hacc2
            have hbne : ¬ b = 0 := by omega
            have hbneb : (b == 0) = false := by simpa using hbne
            clear hacc hacc2
            go_wp2_with fail
            go_loopg [4, 8] 40 (fun k t4 t8 wr3 => ∃ (d : Int) (acc : List M2), t8 = .int .i64 d ∧ 0 ≤ d ∧ d ≤ 100 ∧ Hid (d + k = d0 + 40) ∧ Hid (acc ++ (merD k n a b d ++ (merB g2 n a (b + 1) ++ merA g1 n (a + 1))) = M) ∧ Hid (OwnMats wr3 w.heap.size t4 acc) ∧ Hid (Grow w wr3))
            case atStart => exact ⟨d0, acc, rfl, by omega, by omega, by show d0 + (40 : Nat) = d0 + 40; omega, HB.out, hown.out, hgr.out⟩
            case round =>
              clear hown hgr HB
              obtain ⟨d, acc, rfl, hd1, hd2, hdk, hacc, hown, hgr⟩ := hrel
              have hacc2 := hacc.out
              obtain ⟨m1, m2⟩ := mul_bd (a := d) (x := a - b) 100 100 (by omega) (by omega) (by omega) (by omega)
              obtain ⟨m3, m4⟩ := mul_bd (a := a) (x := d) 100 100 (by omega) (by omega) (by omega) (by omega)
              have y6 : IntKind.i64.wrap (d * (a - b)) = d * (a - b) := IntWalk.i64_in _ (by omega)
              have y7 : IntKind.i64.wrap (a - b) = a - b := IntWalk.i64_in _ (by omega)
              have y8 : IntKind.i64.wrap (a * d) = a * d := IntWalk.i64_in _ (by omega)
              have y9 : IntKind.i64.wrap (a * d - n) = a * d - n := IntWalk.i64_in _ (by omega)
              by_cases hdn : d * (a - b) < n
              · have hd3 : d ≤ 24 := by
                  have h : d * 1 ≤ d * (a - b) := Int.mul_le_mul_of_nonneg_left (by omega) hd1
                  omega
                obtain ⟨g3, hgk3⟩ : ∃ g3, gk = g3 + 1 := ⟨gk - 1, by have := hdk.out; omega⟩
                rw [hgk3] at hacc2
                simp only [merD] at hacc2
                rw [if_pos hdn] at hacc2
                obtain ⟨e, he⟩ : ∃ e, (a * d - n).tmod b = e := ⟨_, rfl⟩
                obtain ⟨c, hc⟩ : ∃ c, (a * d - n).tdiv b = c := ⟨_, rfl⟩
                obtain ⟨c1, c2⟩ : -100000 ≤ c ∧ c ≤ 100000 := by rw [← hc]; exact tdiv_bd' _ _ _ (by omega) (by omega)
                obtain ⟨c3, c4⟩ : -100000 ≤ e ∧ e ≤ 100000 := by rw [← he]; exact tmod_bd' _ _ _ (by omega) (by omega)
                have y10 : IntKind.i64.wrap c = c := IntWalk.i64_in _ (by omega)
                have y11 : IntKind.i64.wrap e = e := IntWalk.i64_in _ (by omega)
                rw [he, hc] at hacc2
                have hlen := acc_le hacc2 hML
                clear hacc m1 m2 m3 m4
                by_cases he0 : e = 0
                · have e2 : (e == 0) = true := by simpa using he0
                  rw [if_pos he0] at hacc2
                  have HD := Lib.hid hacc2
                  clear hacc2 he0
                  have hzz := hgr.out.size
                  go_wp2_with (at_builtin; refine wpList_append_own _ rfl _ _ 24 rfl (w.heap.size) 39 i0 (.agg #[.int .i64 0, .int .i64 0, .int .i64 0, .int .i64 0]) 4 32 Try.underlying24 hi iz0 iz1 iz2 rfl (by decide) _ _ _ rfl (hown.out.alloc _) ⟨wr.heap.size, 0, none⟩ 1 1 [.int .i64 (a), .int .i64 (b), .int .i64 (c), .int .i64 (d)] rfl rfl (four_cells _ _ _ _ _ _ _ ?c1) (four_oneCell _ _ _ _) ?c3 ?c4 ?c5 ?_)
                  case c1 => simp
                  case c3 => unfold maxLen; omega
                  case c4 => omega
                  case c5 => (try simp); omega
                  intro v2 w2 hown2 hgrow2 _
                  have hG2 : Grow w w2 := own_grow (hgr.out.alloc _) (hown.out.alloc _) hgrow2 (Nat.le_refl _)
                  have HO2 : Hid (OwnMats w2 w.heap.size v2 (acc ++ [⟨a, b, c, d⟩])) := by show OwnMats w2 w.heap.size v2 (acc ++ [⟨a, b, c, d⟩]); unfold OwnMats; rw [cellsM_snoc]; simpa using hown2
                  have HG2 := Lib.hid hG2
                  clear hown2 hgrow2 hG2 hown hgr
                  go_wp2
                  go_roundg g3
                  case measure => omega
                  case rel => exact ⟨d + 1, acc ++ [(⟨a, b, c, d⟩ : M2)], rfl, by omega, by omega, by show d + 1 + (g3 : Int) = d0 + 40; have := hdk.out; omega, (List.append_assoc _ _ _).trans HD.out, HO2.out, HG2.out⟩
                · have e2 : (e == 0) = false := by simpa using he0
                  rw [if_neg he0] at hacc2
                  have HD := Lib.hid hacc2
                  clear hacc2 he0
                  go_wp2_with fail
                  go_roundg g3
                  case measure => omega
                  case rel => exact ⟨d + 1, acc, rfl, by omega, by omega, by show d + 1 + (g3 : Int) = d0 + 40; have := hdk.out; omega, HD.out, hown.out, hgr.out⟩
              · have h0 : merD gk n a b d = [] := by cases gk <;> simp [merD, hdn]
                rw [h0, List.nil_append] at hacc2
                have HD := Lib.hid hacc2
                clear hacc hacc2 h0 m1 m2 m3 m4
                go_wp2_with fail
                go_roundg g2
                case measure => omega
                case rel => exact ⟨b + 1, acc, rfl, by omega, by omega, by show b + 1 + (g2 : Int) = 41; have := hbk.out; omega, HD.out, hown.out, hgr.out⟩
          · have h0 : merB gk n a b = [] := by cases gk <;> simp [merB, hba]
            rw [h0, List.nil_append] at hacc2
            have HB := Lib.hid hacc2
            clear hacc hacc2 h0
            go_wp2_with fail
            go_roundg g1
            case measure => omega
            case rel => exact ⟨a + 1, acc, rfl, by omega, by omega, by show a + 1 + (g1 : Int) = 41; have := hak.out; omega, HB.out, hown.out, hgr.out⟩
    · skip
      have h0 : merA gk n a = [] := by cases gk <;> simp [merA, han]
      have hacc2 := hacc.out
      rw [h0, List.append_nil] at hacc2
      have HA := Lib.hid hacc2
      clear hacc hacc2 h0 k1 k2
      go_wp2_with fail
      refine bodyPost_ret (v := .tuple #[u4, .int .i64 0]) (by simp only [results, Try.results13]; go_simp) rfl ⟨_, rfl, ?_, hgr.out⟩
      rw [← HA.out]
      exact hown.out
end Go.Proofs.Ytalidpojcpmcbaa
