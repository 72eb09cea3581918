/- Walks: Convergents, the program's. -/
import Derived.Test.YtfjlecphjahahaaPlY
import Derived.Test.YtfjlecphjahahaaSlA
import Derived.Deep.LoopGhost
import Derived.BigRegion
import Derived.BigQuiet
namespace Go.Proofs.Ytfjlecphjahahaa
open Go.RowKit

theorem infoC : (Try.prog.info? 29).map (fun i => (i.zero, i.size, i.bytes)) = some (some (.agg #[.int .i64 0, .int .i64 0]), 2, 16) := by kernel_rfl
theorem okE_iff {i : Nat} {n : Int} : okE i n = true ↔ inB n = true ∧ (i = 0 ∨ 1 ≤ n) := by simp [okE]
theorem okL_in : ∀ (i : Nat) (l : List Int), okL i l = true → ∀ j, j < l.length → inB (l.getD j 0) = true
  | _, [], _, j, hj => by simp at hj
  | i, n :: l, h, 0, _ => by simp [okL, okE] at h; simpa using h.1.1
  | i, n :: l, h, j + 1, hj => by
    simp only [okL, Bool.and_eq_true] at h
    have := okL_in (i + 1) l h.2 j (by simpa using hj)
    simpa using this
theorem conv_bd {n a b : Int} (hn : inB n = true) (ha : inB a = true) (hb : inB b = true) : (-1152921504606846976 ≤ n * b ∧ n * b ≤ 1152921504606846976) ∧ (-1152921505680588800 ≤ n * b + a ∧ n * b + a ≤ 1152921505680588800) := by
  have h := mul_in hn hb
  have h2 := inB_iff.1 ha
  exact ⟨h, by omega, by omega⟩
set_option maxHeartbeats 400000 in
theorem cin_any (n : Int) (w : World) :
    Calls Try.prog 37 #[.int .i64 n] w fun e w' => e = .returned (.bool (inB n)) ∧ w = w' := by
  by_cases h : -1073741824 ≤ n
  · go_enter Try.func37, Try.ntmps37
    go_wp2
    go_ret
    exact ⟨by simp [inB, h], rfl⟩
  · have h' : n < -1073741824 := by omega
    go_enter Try.func37, Try.ntmps37
    go_wp2
    go_ret
    exact ⟨by simp [inB]; omega, rfl⟩

theorem conv_none (a : Option Addr) (cap : Nat) (w : World) :
    Calls Try.prog 14 #[.slice a 0 cap] w fun e w' => e = .returned (.tuple #[.slice none 0 0, .int .i64 3]) ∧ Grow w w' := by
  go_enter Try.func14, Try.ntmps14
  go_wp2
  exact bodyPost_ret (v := .tuple #[.slice none 0 0, .int .i64 3]) (by simp only [results, Try.results14]; go_simp) rfl ⟨rfl, by (repeat (first | with_reducible exact Grow.refl _ | with_reducible refine Grow.alloc ?_ _ | with_reducible refine Grow.drew ?_ | with_reducible refine Grow.drewN ?_ _ | (with_reducible refine Grow.setCell ?_ ?hp _; (case hp => (simp; try omega))) | with_reducible refine Grow.trans ?_ (by assumption)))⟩
theorem conv_long (a : Option Addr) (n cap : Nat) (h : 64 < n) (w : World) :
    Calls Try.prog 14 #[.slice a n cap] w fun e w' => e = .returned (.tuple #[.slice none 0 0, .int .i64 2]) ∧ Grow w w' := by
  have h1 : (64 : Int) < n := by omega
  have h2 : ((n : Int) == 0) = false := by simp; omega
  go_enter Try.func14, Try.ntmps14
  go_wp2
  exact bodyPost_ret (v := .tuple #[.slice none 0 0, .int .i64 2]) (by simp only [results, Try.results14]; go_simp) rfl ⟨rfl, by (repeat (first | with_reducible exact Grow.refl _ | with_reducible refine Grow.alloc ?_ _ | with_reducible refine Grow.drew ?_ | with_reducible refine Grow.drewN ?_ _ | (with_reducible refine Grow.setCell ?_ ?hp _; (case hp => (simp; try omega))) | with_reducible refine Grow.trans ?_ (by assumption)))⟩

def ConvRel (w0 : World) (A B base : Nat) (R : Option (List C2)) (l : List Int) (i : Nat) (t6 : Value) (wr : World) : Prop :=
  ∃ (a b : C2) (acc : List C2), ((convR (l.drop i) a b).map (acc ++ ·) = R ∧ inB a.p = true ∧ inB a.q = true ∧ inB b.p = true ∧ inB b.q = true ∧ acc.length = i) ∧
    wr.cell? ⟨A, 0, none⟩ = some (.int .i64 a.p) ∧ wr.cell? ⟨A, 1, none⟩ = some (.int .i64 a.q) ∧ wr.cell? ⟨B, 0, none⟩ = some (.int .i64 b.p) ∧ wr.cell? ⟨B, 1, none⟩ = some (.int .i64 b.q) ∧
    (∀ o, wr.frozen? ⟨A, o, none⟩ = false) ∧ (∀ o, wr.frozen? ⟨B, o, none⟩ = false) ∧ OwnCusps wr base t6 acc ∧ Grow w0 wr ∧ base ≤ wr.heap.size

def convOut : Option (List C2) → List C2 × Int
  | none => ([], 7)
  | some x => (x, 0)

set_option maxHeartbeats 2000000 in
theorem conv_core (l : List Int) (b off cap n : Nat) (hn : Hid (l.length = n)) (h0 : 0 < n) (h64 : n ≤ 64) (K : Bool) (HK : Hid (okL 0 l = K)) (R : Option (List C2)) (HR : Hid (convR l ⟨0, 1⟩ ⟨1, 0⟩ = R)) (r : List C2) (er : Int)
    (HV : Hid ((if K = true then convOut R else ([], 2)) = (r, er))) (w : World) (hb : b < w.heap.size) (hc : Hid (∀ j, j < l.length → w.cell? ⟨b, off + j, none⟩ = some (.int .i64 (l.getD j 0)))) :
    Calls Try.prog 14 #[.slice (some ⟨b, off, none⟩) n cap] w fun e w' =>
      ∃ v, e = .returned (.tuple #[v, .int .i64 er]) ∧ OwnCusps w' w.heap.size v r ∧ Grow w w' := by
  obtain ⟨i0, hi, iz0, iz1, iz2⟩ := info_parts infoC
  have k1 : ((n : Int) == 0) = false := by simp; omega
  have k2 : ¬ (64 : Int) < n := by omega
  go_enter Try.func14, Try.ntmps14
  go_wp2_with fail
  go_loopg [19] n (fun k i wr => ∃ j : Nat, i = .int .i64 j ∧ Hid (okL j (l.drop j) = K) ∧ j + k = n ∧ w = wr)
  case atStart => exact ⟨0, rfl, HK.out, by omega, rfl⟩
  case round =>
    obtain ⟨j, rfl, hm, hjk, rfl⟩ := hrel
    by_cases hlt : j < n
    · have d1 := hc.out j (by have := hn.out; omega)
      have hdr := drop_consI l j (by have := hn.out; omega)
      have hm2 := hm.out
      rw [hdr] at hm2
      clear hdr
      generalize hx : l.getD j 0 = x at *
      have HX := Lib.hid hx
      clear hx
      obtain ⟨g', hgk⟩ : ∃ g', gk = g' + 1 := ⟨gk - 1, by omega⟩
      have hj1 : (j : Int) < n := by omega
      have hj0 : (0 : Int) ≤ j := by omega
      simp only [okL] at hm2
      have HM := Lib.hid hm2
      clear hm2
      by_cases hin : inB x = true
      · by_cases hj : j = 0
        · subst hj
          have d2 : w.cell? ⟨b, off, none⟩ = some (.int .i64 x) := by simpa using d1
          clear d1
          go_wp2_with (go_at_call 37; refine (cin_any _ _).mono ?_; rintro e w1 ⟨rfl, rfl⟩)
          go_roundg g'
          case measure => omega
          case rel => exact ⟨1, by go_num, by have h := HM.out; rw [(okE_iff.2 ⟨hin, .inl rfl⟩)] at h; exact (by simpa using h : okL (0 + 1) (List.drop (0 + 1) l) = K), by omega, rfl⟩
        · have hj' : (0 : Int) < j := by omega
          by_cases hx1 : 1 ≤ x
          · have hx2 : ¬ x < 1 := by omega
            go_wp2_with (go_at_call 37; refine (cin_any _ _).mono ?_; rintro e w1 ⟨rfl, rfl⟩)
            go_roundg g'
            case measure => omega
            case rel => exact ⟨j + 1, by go_num, by have h := HM.out; rw [(okE_iff.2 ⟨hin, .inr hx1⟩)] at h; exact (by simpa using h : okL (j + 1) (List.drop (j + 1) l) = K), by omega, rfl⟩
          · have hx2 : x < 1 := by omega
            have hK : K = false := by
              have h := HM.out
              have he : okE j x = false := by
                rw [← Bool.not_eq_true, okE_iff]; omega
              rw [he] at h
              simpa using h.symm
            have hv : (r, er) = ([], 2) := by have h := HV.out; rw [hK] at h; simpa using h.symm
            obtain ⟨rfl, rfl⟩ := Prod.mk.inj hv
            clear hv hK
            go_wp2_with (go_at_call 37; refine (cin_any _ _).mono ?_; rintro e w1 ⟨rfl, rfl⟩)
            refine bodyPost_ret (v := .tuple #[.slice none 0 0, .int .i64 2]) (by simp only [results, Try.results14]; go_simp) rfl ⟨_, rfl, World.ownsRow_nil _ _ _ _, by (repeat (first | with_reducible exact Grow.refl _ | with_reducible refine Grow.alloc ?_ _ | with_reducible refine Grow.drew ?_ | with_reducible refine Grow.drewN ?_ _ | (with_reducible refine Grow.setCell ?_ ?hp _; (case hp => (simp; try omega))) | with_reducible refine Grow.trans ?_ (by assumption)))⟩
      · have hin' : inB x = false := eq_false_of_ne_true hin
        have hK : K = false := by
          have h := HM.out
          have he : okE j x = false := by
            rw [← Bool.not_eq_true, okE_iff]; simp [hin']
          rw [he] at h
          simpa using h.symm
        have hv : (r, er) = ([], 2) := by have h := HV.out; rw [hK] at h; simpa using h.symm
        obtain ⟨rfl, rfl⟩ := Prod.mk.inj hv
        clear hv hK
        go_wp2_with (go_at_call 37; refine (cin_any _ _).mono ?_; rintro e w1 ⟨rfl, rfl⟩)
        refine bodyPost_ret (v := .tuple #[.slice none 0 0, .int .i64 2]) (by simp only [results, Try.results14]; go_simp) rfl ⟨_, rfl, World.ownsRow_nil _ _ _ _, by (repeat (first | with_reducible exact Grow.refl _ | with_reducible refine Grow.alloc ?_ _ | with_reducible refine Grow.drew ?_ | with_reducible refine Grow.drewN ?_ _ | (with_reducible refine Grow.setCell ?_ ?hp _; (case hp => (simp; try omega))) | with_reducible refine Grow.trans ?_ (by assumption)))⟩
    · have hjn : j = n := by omega
      have hK : K = true := by
        have h := hm.out
        rw [List.drop_of_length_le (by have := hn.out; omega)] at h
        simpa [okL] using h.symm
      have hv : convOut R = (r, er) := by have h := HV.out; rw [hK] at h; simpa using h
      have HV2 := Lib.hid hv
      have HALL := Lib.hid (okL_in 0 l (HK.out.trans hK))
      clear hv hm HK HV hK
      go_wp2_with fail
      clear k1 k2 hlt hjn hjk
      go_loopg [6, 40] n (fun k t6 i wr => ∃ j : Nat, i = .int .i64 j ∧ j + k = n ∧ Hid (ConvRel w w.heap.size (w.heap.size + 1) (w.heap.size + 2) R l j t6 wr))
      case atStart =>
        refine ⟨0, rfl, by omega, ⟨0, 1⟩, ⟨1, 0⟩, [], ⟨by have h := HR.out; simpa using h, by decide, by decide, by decide, by decide, rfl⟩, ?_, ?_, ?_, ?_, ?_, ?_, World.ownsRow_nil _ _ _ _, ?_, ?_⟩
        all_goals try (first | (go_simp; done) | (intro o; go_simp; done))
        (repeat (first | with_reducible exact Grow.refl _ | with_reducible refine Grow.alloc ?_ _ | with_reducible refine Grow.drew ?_ | with_reducible refine Grow.drewN ?_ _ | (with_reducible refine Grow.setCell ?_ ?hp _; (case hp => (simp; try omega))) | with_reducible refine Grow.trans ?_ (by assumption)))
      case round =>
        obtain ⟨j, rfl, hjk, x, y, acc, ⟨g1, g2, g3, g4, g5, g6⟩, a0, a1, b0, b1, f0, f1, hown, hg, hB⟩ := hrel
        have HG := Lib.hid hg
        have HO := Lib.hid hown
        have z1 : w.heap.size < wr.heap.size := by omega
        have z2 : w.heap.size + 1 < wr.heap.size := by omega
        by_cases hlt : j < n
        · have d3 : b < wr.heap.size := by omega
          have d1 := (hg.cells b (off + j) hb).trans (hc.out j (by have := hn.out; omega))
          have hdr := drop_consI l j (by have := hn.out; omega)
          rw [hdr] at g1
          clear hdr
          generalize hx : l.getD j 0 = u at *
          have HX := Lib.hid hx
          clear hx hg hown
          obtain ⟨g', hgk⟩ : ∃ g', gk = g' + 1 := ⟨gk - 1, by omega⟩
          have hj1 : (j : Int) < n := by omega
          have hj0 : (0 : Int) ≤ j := by omega
          have H1 := Lib.hid g1
          have H6 := Lib.hid g6
          clear g1 g6
          have hu : inB u = true := by have h := HALL.out j (by have := hn.out; omega); rw [HX.out] at h; exact h
          obtain ⟨⟨p1, p2⟩, p3, p4⟩ := conv_bd hu g2 g4
          obtain ⟨⟨q1, q2⟩, q3, q4⟩ := conv_bd hu g3 g5
          have y1 : IntKind.i64.wrap (u * y.p) = u * y.p := IntWalk.i64_in _ (by omega)
          have y2 : wrap64 (u * y.p + x.p) = u * y.p + x.p := by unfold wrap64; omega
          have y3 : IntKind.i64.wrap (u * y.q) = u * y.q := IntWalk.i64_in _ (by omega)
          have y4 : wrap64 (u * y.q + x.q) = u * y.q + x.q := by unfold wrap64; omega
          have HY : Hid (inB y.p = true ∧ inB y.q = true) := ⟨g4, g5⟩
          clear p1 p2 p3 p4 q1 q2 q3 q4 hu g2 g3 g4 g5
          obtain ⟨P, hP⟩ : ∃ P, u * y.p + x.p = P := ⟨_, rfl⟩
          obtain ⟨Q, hQ⟩ : ∃ Q, u * y.q + x.q = Q := ⟨_, rfl⟩
          have H2 : Hid ((if inB P && inB Q then (convR (l.drop (j + 1)) y ⟨P, Q⟩).map (⟨P, Q⟩ :: ·) else none).map (acc ++ ·) = R) := by
            have h := H1.out
            simp only [convR] at h
            rw [hP, hQ] at h
            exact h
          have y5 : Hid (u * y.p + x.p = P) := hP
          have y6 : Hid (u * y.q + x.q = Q) := hQ
          clear hP hQ H1
          go_wp2_with fail
          go_region
          simp only [y5.out, y6.out]
          clear y1 y2 y3 y4 y5 y6
          have HO2 := Lib.hid (own_set (own_set (own_set (own_set HO.out (a := ⟨w.heap.size, 0, none⟩) (by simp) (.int .i64 y.p)) (a := ⟨w.heap.size, 1, none⟩) (by simp) (.int .i64 y.q)) (a := ⟨w.heap.size + 1, 0, none⟩) (by simp) (.int .i64 P)) (a := ⟨w.heap.size + 1, 1, none⟩) (by simp) (.int .i64 Q)).drew
          have HG2 : Hid (Grow w _) := (((((HG.out.setCell (p := ⟨w.heap.size, 0, none⟩) (by simp) (.int .i64 y.p)).setCell (p := ⟨w.heap.size, 1, none⟩) (by simp) (.int .i64 y.q)).setCell (p := ⟨w.heap.size + 1, 0, none⟩) (by simp) (.int .i64 P)).setCell (p := ⟨w.heap.size + 1, 1, none⟩) (by simp) (.int .i64 Q)).drew)
          obtain ⟨w5, hW, c0, c1, c2, c3, c4, c5, c6⟩ : ∃ w5, ((((wr.setCell ⟨w.heap.size, 0, none⟩ (.int .i64 y.p)).setCell ⟨w.heap.size, 1, none⟩ (.int .i64 y.q)).setCell ⟨w.heap.size + 1, 0, none⟩ (.int .i64 P)).setCell ⟨w.heap.size + 1, 1, none⟩ (.int .i64 Q)).drew = w5 ∧
              w5.cell? ⟨w.heap.size, 0, none⟩ = some (.int .i64 y.p) ∧ w5.cell? ⟨w.heap.size, 1, none⟩ = some (.int .i64 y.q) ∧ w5.cell? ⟨w.heap.size + 1, 0, none⟩ = some (.int .i64 P) ∧ w5.cell? ⟨w.heap.size + 1, 1, none⟩ = some (.int .i64 Q) ∧
              (∀ o, w5.frozen? ⟨w.heap.size, o, none⟩ = false) ∧ (∀ o, w5.frozen? ⟨w.heap.size + 1, o, none⟩ = false) ∧ w5.heap.size = wr.heap.size := by
            refine ⟨_, rfl, ?_, ?_, ?_, ?_, ?_, ?_, ?_⟩
            all_goals first | (go_simp; done) | (intro o; go_simp; done) | simp
          rw [hW]
          rw [hW] at HO2 HG2
          have z3 : w.heap.size < w5.heap.size := by omega
          have z4 : w.heap.size + 1 < w5.heap.size := by omega
          clear hW a0 a1 b0 b1 f0 f1 d1 d3 c6 HO HG
          have hl2 : acc.length ≤ 64 := by have := H6.out; omega
          by_cases hp : inB P = true
          · by_cases hq : inB Q = true
            · skip
              go_wp2_with (first | (go_at_call 37; refine (cin_any _ _).mono ?_; rintro e w1 ⟨rfl, rfl⟩) | (at_builtin; refine wpList_append_own _ rfl _ _ 24 rfl (w.heap.size + 2) 29 i0 (.agg #[.int .i64 0, .int .i64 0]) 2 16 Try.underlying24 hi iz0 iz1 iz2 rfl (by decide) _ _ _ rfl (HO2.out.alloc _) ⟨w5.heap.size, 0, none⟩ 1 1 [.int .i64 (P), .int .i64 (Q)] rfl rfl (two_cells _ _ _ _ _ ?c1) (two_oneCell _ _) ?c3 ?c4 ?c5 ?_))
              case c1 => simp
              case c3 => unfold maxLen; omega
              case c4 => omega
              case c5 => (try simp); omega
              intro v2 w2 hown2 hgrow2 _
              obtain ⟨hcc, hff⟩ := own_kept (HO2.out.alloc _) hgrow2 (by simp; omega)
              have hG3 : Grow w w2 := own_grow ((HG2.out).alloc _) (HO2.out.alloc _) hgrow2 (by omega)
              have hsz := hgrow2.size
              simp at hsz
              have HO3 := Lib.hid hown2
              have HG3 := Lib.hid hG3
              clear hown2 hgrow2 hG3
              go_wp2
              go_roundg g'
              case measure => omega
              case rel =>
                refine ⟨j + 1, by go_num, by omega, y, ⟨P, Q⟩, acc ++ [⟨P, Q⟩], ⟨?_, HY.out.1, HY.out.2, hp, hq, by have := H6.out; simp; omega⟩, ?_, ?_, ?_, ?_, ?_, ?_, ?_, HG3.out, by omega⟩
                · have h := H2.out
                  rw [if_pos (by simp [hp, hq])] at h
                  rw [← h]
                  simp [Option.map_map, Function.comp_def]
                all_goals try (first | (go_simp; done) | (intro o; go_simp; done))
                unfold OwnCusps
                rw [cellsC_snoc]
                have h := HO3.out
                simpa using h
            · have hq' : inB Q = false := eq_false_of_ne_true hq
              have hv : (r, er) = ([], 7) := by
                have h := H2.out
                rw [if_neg (by simp [hp, hq'])] at h
                have h3 := HV2.out
                rw [← h] at h3
                exact h3.symm
              obtain ⟨rfl, rfl⟩ := Prod.mk.inj hv
              clear hv
              go_wp2_with (go_at_call 37; refine (cin_any _ _).mono ?_; rintro e w1 ⟨rfl, rfl⟩)
              refine bodyPost_ret (v := .tuple #[.slice none 0 0, .int .i64 7]) (by simp only [results, Try.results14]; go_simp) rfl ⟨_, rfl, World.ownsRow_nil _ _ _ _, HG2.out⟩
          · have hp' : inB P = false := eq_false_of_ne_true hp
            have hv : (r, er) = ([], 7) := by
              have h := H2.out
              rw [if_neg (by simp [hp'])] at h
              have h3 := HV2.out
              rw [← h] at h3
              exact h3.symm
            obtain ⟨rfl, rfl⟩ := Prod.mk.inj hv
            clear hv
            go_wp2_with (go_at_call 37; refine (cin_any _ _).mono ?_; rintro e w1 ⟨rfl, rfl⟩)
            refine bodyPost_ret (v := .tuple #[.slice none 0 0, .int .i64 7]) (by simp only [results, Try.results14]; go_simp) rfl ⟨_, rfl, World.ownsRow_nil _ _ _ _, HG2.out⟩
        · have hjn : j = n := by omega
          have hR : some acc = R := by
            rw [List.drop_of_length_le (by have := hn.out; omega)] at g1
            simpa [convR] using g1
          have hv : (r, er) = (acc, 0) := by have h := HV2.out; rw [← hR] at h; exact h.symm
          obtain ⟨rfl, rfl⟩ := Prod.mk.inj hv
          subst hjn
          clear hv hR g1 hg hown
          go_wp2_with fail
          refine bodyPost_ret (v := .tuple #[u6, .int .i64 0]) (by simp only [results, Try.results14]; go_simp) rfl ⟨_, rfl, own_base HO.out (by omega), HG.out⟩

theorem conv_any (l : List Int) (v : Value) (hl : l.length ≤ 1152921504606846976) (w : World) (hv : RdInts w v l) :
    Calls Try.prog 14 #[v] w fun e w' =>
      ∃ v, e = .returned (.tuple #[v, .int .i64 (convF l).2]) ∧ OwnCusps w' w.heap.size v (convF l).1 ∧ Grow w w' := by
  by_cases h0 : l.length = 0
  · obtain ⟨a, cap, rfl⟩ := hv.form
    have e : convF l = ([], 3) := by unfold convF; rw [if_pos h0]
    rw [e, h0]
    refine (conv_none a cap w).mono ?_
    rintro e w' ⟨rfl, hg⟩
    exact ⟨_, rfl, World.ownsRow_nil _ _ _ _, hg⟩
  · by_cases h2 : 64 < l.length
    · obtain ⟨a, cap, rfl⟩ := hv.form
      have e : convF l = ([], 2) := by unfold convF; rw [if_neg h0, if_pos h2]
      rw [e]
      refine (conv_long a _ cap h2 w).mono ?_
      rintro e w' ⟨rfl, hg⟩
      exact ⟨_, rfl, World.ownsRow_nil _ _ _ _, hg⟩
    · rcases hv with ⟨_, _, _, rfl⟩ | ⟨b, off, cap, rfl, hb, hc⟩
      · simp at h0
      · have e : convF l = if okL 0 l = true then convOut (convR l ⟨0, 1⟩ ⟨1, 0⟩) else ([], 2) := by
          unfold convF; rw [if_neg h0, if_neg h2]
          split
          · cases convR l ⟨0, 1⟩ ⟨1, 0⟩ <;> rfl
          · rfl
        exact conv_core l b off cap l.length (Lib.hid rfl) (by omega) (by omega) _ (Lib.hid rfl) _ (Lib.hid rfl) _ _ (Lib.hid e.symm) w hb (Lib.hid hc)
end Go.Proofs.Ytfjlecphjahahaa
