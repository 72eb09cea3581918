/- Walk: Merel of the reference, determinants to 24. -/
import Derived.Test.YtalidpojcpmcbaaHbA
namespace Go.Proofs.Ytalidpojcpmcbaa
open Go Go.RowKit

set_option maxRecDepth 20000 in
set_option maxHeartbeats 4000000 in
theorem refMerel_core (n : Int) (h1 : 1 ≤ n) (h2 : n ≤ 24) (M : List M2) (hM : Hid (rmF n = M)) (hML : M.length ≤ 100000) (w : World) :
    Calls Try.prog 14 #[.int .i64 n] w fun e w' => ∃ v, e = .returned (.tuple #[v, .int .i64 0]) ∧ OwnMats w' w.heap.size v M ∧ Grow w w' := by
  obtain ⟨i0, hi, iz0, iz1, iz2⟩ := info_parts infoM
  have k1 : ¬ n < 1 := by omega
  have k2 : ¬ 128 < n := by omega
  go_enter Try.func14, Try.ntmps14
  go_wp2_with fail
  go_loopg [4, 5] 40 (fun k t4 t5 wr => ∃ (a : Int) (acc : List M2), t5 = .int .i64 a ∧ 1 ≤ a ∧ a ≤ 25 ∧ Hid (a + k = 41) ∧ Hid (acc ++ rmA k n a = M) ∧ Hid (OwnMats wr w.heap.size t4 acc) ∧ Hid (Grow w wr))
  case atStart => exact ⟨1, [], rfl, by omega, by omega, by show (1 : Int) + (40 : Nat) = 41; omega, hM.out, World.ownsRow_nil _ _ _ _, Grow.refl _⟩
  case round =>
    obtain ⟨a, acc, rfl, ha1, ha2, hak, hacc, hown, hgr⟩ := hrel
    have hacc2 := hacc.out
    clear k1 k2
    by_cases han : a ≤ n
    · obtain ⟨g1, hgk⟩ : ∃ g1, gk = g1 + 1 := ⟨gk - 1, by have := hak.out; omega⟩
      rw [hgk] at hacc2
      simp only [rmA] at hacc2
      rw [if_pos han] at hacc2
      have HA := Lib.hid hacc2
      clear hacc hacc2
      go_wp2_with fail
      go_loopg [4, 6] 40 (fun k t4 t6 wr2 => ∃ (b : Int) (acc : List M2), t6 = .int .i64 b ∧ 0 ≤ b ∧ b ≤ 25 ∧ Hid (b + k = 40) ∧ Hid (acc ++ (rmB k n a b ++ rmA g1 n (a + 1)) = M) ∧ Hid (OwnMats wr2 w.heap.size t4 acc) ∧ Hid (Grow w wr2))
      case atStart => exact ⟨0, acc, rfl, by omega, by omega, by show (0 : Int) + (40 : Nat) = 40; omega, HA.out, hown.out, hgr.out⟩
      case round =>
        clear hown hgr HA
        obtain ⟨b, acc, rfl, hb0, hb1, hbk, hacc, hown, hgr⟩ := hrel
        have hacc2 := hacc.out
        by_cases hba : b < a
        · obtain ⟨g2, hgk2⟩ : ∃ g2, gk = g2 + 1 := ⟨gk - 1, by have := hbk.out; omega⟩
          rw [hgk2] at hacc2
          simp only [rmB] at hacc2
          rw [if_pos hba, List.append_assoc] at hacc2
          have HB := Lib.hid hacc2
          clear hacc hacc2
          go_wp2_with fail
          go_loopg [4, 7] 40 (fun k t4 t7 wr3 => ∃ (c : Int) (acc : List M2), t7 = .int .i64 c ∧ 0 ≤ c ∧ c ≤ 25 ∧ Hid (c + k = 40) ∧ Hid (acc ++ (rmC k n a b c ++ (rmB g2 n a (b + 1) ++ rmA g1 n (a + 1))) = M) ∧ Hid (OwnMats wr3 w.heap.size t4 acc) ∧ Hid (Grow w wr3))
          case atStart => exact ⟨0, acc, rfl, by omega, by omega, by show (0 : Int) + (40 : Nat) = 40; omega, HB.out, hown.out, hgr.out⟩
          case round =>
            clear hown hgr HB
            obtain ⟨c, acc, rfl, hc0, hc1, hck, hacc, hown, hgr⟩ := hrel
            have hacc2 := hacc.out
            by_cases hcn : c < n
            · obtain ⟨g3, hgk3⟩ : ∃ g3, gk = g3 + 1 := ⟨gk - 1, by have := hck.out; omega⟩
              rw [hgk3] at hacc2
              simp only [rmC] at hacc2
              rw [if_pos hcn, List.append_assoc] at hacc2
              have HC := Lib.hid hacc2
              clear hacc hacc2
              go_wp2_with fail
              go_loopg [4, 8] 40 (fun k t4 t8 wr4 => ∃ (d : Int) (acc : List M2), t8 = .int .i64 d ∧ 1 ≤ d ∧ d ≤ 30 ∧ Hid (d + k = c + 41) ∧ Hid (acc ++ (rmD k n a b c d ++ (rmC g3 n a b (c + 1) ++ (rmB g2 n a (b + 1) ++ rmA g1 n (a + 1)))) = M) ∧ Hid (OwnMats wr4 w.heap.size t4 acc) ∧ Hid (Grow w wr4))
              case atStart => exact ⟨c + 1, acc, rfl, by omega, by omega, by show c + 1 + (40 : Nat) = c + 41; omega, HC.out, hown.out, hgr.out⟩
              case round =>
                clear hown hgr HC
                obtain ⟨d, acc, rfl, hd0, hd1, hdk, hacc, hown, hgr⟩ := hrel
                have hacc2 := hacc.out
                by_cases hdn : d ≤ n
                · obtain ⟨g4, hgk4⟩ : ∃ g4, gk = g4 + 1 := ⟨gk - 1, by have := hdk.out; omega⟩
                  rw [hgk4] at hacc2
                  simp only [rmD] at hacc2
                  rw [if_pos hdn] at hacc2
                  obtain ⟨m1, m2⟩ := mul_bd (a := a) (x := d) 100 100 (by omega) (by omega) (by omega) (by omega)
                  obtain ⟨m3, m4⟩ := mul_bd (a := b) (x := c) 100 100 (by omega) (by omega) (by omega) (by omega)
                  have y1 : IntKind.i64.wrap (a * d) = a * d := IntWalk.i64_in _ (by omega)
                  have y2 : IntKind.i64.wrap (b * c) = b * c := IntWalk.i64_in _ (by omega)
                  obtain ⟨e, he⟩ : ∃ e, a * d - b * c = e := ⟨_, rfl⟩
                  have y3 : IntKind.i64.wrap e = e := IntWalk.i64_in _ (by omega)
                  rw [he] at hacc2
                  clear hacc m1 m2 m3 m4
                  have hlen := acc_le hacc2 hML
                  have hzz := hgr.out.size
                  by_cases hen : e = n
                  · have e2 : (e == n) = true := by simpa using hen
                    rw [if_pos hen] at hacc2
                    have HD := Lib.hid hacc2
                    have HEN := Lib.hid hen
                    clear hacc2 hen
                    go_wp2_with (at_builtin; refine wpList_append_own _ rfl _ _ 24 rfl (w.heap.size) 39 i0 (.agg #[.int .i64 0, .int .i64 0, .int .i64 0, .int .i64 0]) 4 32 Try.underlying24 hi iz0 iz1 iz2 rfl (by decide) _ _ _ rfl (hown.out.alloc _) ⟨wr.heap.size, 0, none⟩ 1 1 [.int .i64 (a), .int .i64 (b), .int .i64 (c), .int .i64 (d)] rfl rfl (four_cells _ _ _ _ _ _ _ ?c1) (four_oneCell _ _ _ _) ?c3 ?c4 ?c5 ?_)
                    case c1 => simp
                    case c3 => unfold maxLen; omega
                    case c4 => omega
                    case c5 => (try simp); omega
                    intro v2 w2 hown2 hgrow2 _
                    have hG2 : Grow w w2 := own_grow (hgr.out.alloc _) (hown.out.alloc _) hgrow2 (Nat.le_refl _)
                    have HO2 : Hid (OwnMats w2 w.heap.size v2 (acc ++ [⟨a, b, c, d⟩])) := by show OwnMats w2 w.heap.size v2 (acc ++ [⟨a, b, c, d⟩]); unfold OwnMats; rw [cellsM_snoc]; simpa using hown2
                    have HG2 := Lib.hid hG2
                    clear hown2 hgrow2 hG2 hown hgr
                    go_wp2
                    go_roundg g4
                    case measure => omega
                    case rel => exact ⟨d + 1, acc ++ [(⟨a, b, c, d⟩ : M2)], rfl, by omega, by omega, by show d + 1 + (g4 : Int) = c + 41; have := hdk.out; omega, (List.append_assoc _ _ _).trans HD.out, HO2.out, HG2.out⟩
                  · have e2 : (e == n) = false := by simpa using hen
                    rw [if_neg hen] at hacc2
                    have HD := Lib.hid hacc2
                    clear hacc2 hen
                    go_wp2_with fail
                    go_roundg g4
                    case measure => omega
                    case rel => exact ⟨d + 1, acc, rfl, by omega, by omega, by show d + 1 + (g4 : Int) = c + 41; have := hdk.out; omega, HD.out, hown.out, hgr.out⟩
                · have h0 : rmD gk n a b c d = [] := by cases gk <;> simp [rmD, hdn]
                  rw [h0, List.nil_append] at hacc2
                  have HD := Lib.hid hacc2
                  clear hacc hacc2 h0
                  go_wp2_with fail
                  go_roundg g3
                  case measure => omega
                  case rel => exact ⟨c + 1, acc, rfl, by omega, by omega, by show c + 1 + (g3 : Int) = 40; have := hck.out; omega, HD.out, hown.out, hgr.out⟩
            · have h0 : rmC gk n a b c = [] := by cases gk <;> simp [rmC, hcn]
              rw [h0, List.nil_append] at hacc2
              have HC := Lib.hid hacc2
              clear hacc hacc2 h0
              go_wp2_with fail
              go_roundg g2
              case measure => omega
              case rel => exact ⟨b + 1, acc, rfl, by omega, by omega, by show b + 1 + (g2 : Int) = 40; have := hbk.out; omega, HC.out, hown.out, hgr.out⟩
        · have h0 : rmB gk n a b = [] := by cases gk <;> simp [rmB, hba]
          rw [h0, List.nil_append] at hacc2
          have HB := Lib.hid hacc2
          clear hacc hacc2 h0
          go_wp2_with fail
          go_roundg g1
          case measure => omega
          case rel => exact ⟨a + 1, acc, rfl, by omega, by omega, by show a + 1 + (g1 : Int) = 41; have := hak.out; omega, HB.out, hown.out, hgr.out⟩
    · have h0 : rmA gk n a = [] := by cases gk <;> simp [rmA, han]
      rw [h0, List.append_nil] at hacc2
      have HA := Lib.hid hacc2
      clear hacc hacc2 h0
      go_wp2_with fail
      refine bodyPost_ret (v := .tuple #[u4, .int .i64 0]) (by simp only [results, Try.results14]; go_simp) rfl ⟨_, rfl, ?_, hgr.out⟩
      rw [← HA.out]
      exact hown.out
end Go.Proofs.Ytalidpojcpmcbaa
