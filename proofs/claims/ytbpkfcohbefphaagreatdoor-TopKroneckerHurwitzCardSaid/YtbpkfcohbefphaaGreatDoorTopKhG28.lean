/- Lemmas, plain laws and walks that the statement LwKronecker leans on (texts FaC, PhA), conditions as each theorem says. -/
import Derived.Test.YtbpkfcohbefphaaGreatDoorTopKhG18
import Derived.Test.YtbpkfcohbefphaaGreatDoorTopKhG21

namespace Go.Proofs.YtbpkfcohbefphaaGreatDoor
open Go Go.RowKit
set_option maxRecDepth 20000 in
set_option maxHeartbeats 8000000 in
theorem factorsF {σ : Type} (St : σ → World → Prop) (ok : σ → Nat → Nat → Prop) (step : σ → Nat → Nat → σ) (c1 : Value)
    (CL : ∀ (s : σ) (p e : Nat) (u : World), 2 ≤ p → p ≤ 1001 → 1 ≤ e → e ≤ 10 → ok s p e → St s u → Calls Tryz.prog 98 #[.int .i64 (p : Int), .int .i64 (e : Int), c1] u fun x w' => x = .returned (.tuple #[]) ∧ St (step s p e) w')
    (N : Nat) (h1 : 1 ≤ N) (h2 : N ≤ 1000) (s0 : σ) (hok : okS ok step (faL 33 N 2) s0) (w1 : World) (hM1 : St s0 w1) :
    Calls Tryz.prog 28 #[.int .i64 (N : Int), .func (.func 98) #[] #[c1]] w1 fun x w' => x = .returned (.tuple #[]) ∧ St (foldS step (faL 33 N 2) s0) w' := by
  obtain ⟨R, hR⟩ : ∃ R, foldS step (faL 33 N 2) s0 = R := ⟨_, rfl⟩
  rw [hR]
  have HR := Lib.hid hR
  have HOK := Lib.hid hok
  have HM1 := Lib.hid hM1
  have HCL := Lib.hid CL
  have HF := Lib.hid (FaH.start h1 h2)
  clear hR hok hM1 CL
  go_enter Tryz.func28, Tryz.ntmps28
  go_wp2_with fail
  go_loopg [0, 4] 33 (fun k t0 t4 wr => ∃ (n p : Nat) (s : σ), t0 = .int .i64 (n : Int) ∧ t4 = .int .i64 (p : Int) ∧ Hid (FaH k n p) ∧ Hid (okS ok step (faL k n p) s) ∧ Hid (foldS step (faL k n p) s = R) ∧ Hid (St s wr))
  case atStart => exact ⟨N, 2, s0, rfl, rfl, HF, HOK, HR, HM1⟩
  case round =>
    clear HR HOK HM1 HF
    obtain ⟨n, p, s, rfl, rfl, HF, hok, hx, hM⟩ := hrel
    have hn0 : 1 ≤ n := HF.out.1
    have hn1 : n ≤ 1000 := HF.out.2.1
    have hp0 : 2 ≤ p := HF.out.2.2.1
    have hp1 : p ≤ 1001 := HF.out.2.2.2.1
    by_cases hlt : 1 < n
    · obtain ⟨g1, hgk, hF2, hE10, hL⟩ := HF.out.next hlt
      have hok2 := hok.out
      have hx2 := hx.out
      rw [hL] at hok2 hx2
      obtain ⟨P, hP⟩ : ∃ P, faP n p = P := ⟨_, rfl⟩
      have hPb := faP_bd hlt hn1 hp0 hp1
      rw [hP] at hPb hF2 hE10 hok2 hx2
      obtain ⟨M, E, hME⟩ : ∃ M E, dvF P 10 n 0 = (M, E) := ⟨_, _, rfl⟩
      rw [hME] at hF2 hE10 hok2 hx2
      simp only at hF2 hE10 hok2 hx2
      have DV := Lib.hid hME
      have HF2 := Lib.hid hF2
      have FO := Lib.hid hok2
      have FX := Lib.hid hx2
      have hltI : (1 : Int) < (n : Int) := by omega
      obtain ⟨S, hS⟩ : ∃ S : Nat, p * p = S := ⟨_, rfl⟩
      have hSb : S ≤ 1001 * 1001 := by rw [← hS]; exact Nat.mul_le_mul hp1 hp1
      have YS : Hid (IntKind.i64.wrap ((p : Int) * (p : Int)) = (S : Int) ∧ wrap64 ((p : Int) * (p : Int)) = (S : Int)) := Lib.hid (by rw [show (p : Int) * (p : Int) = (S : Int) by rw [← hS]; simp]; exact w64n (by omega))
      have hP2 := Lib.hid hP
      have hcase : (n < S ∧ P = n) ∨ (¬ n < S ∧ P = p) := by
        have h3 := hP
        unfold faP at h3
        rw [hS] at h3
        by_cases hb : n < S
        · rw [if_pos hb] at h3; exact .inl ⟨hb, h3.symm⟩
        · rw [if_neg hb] at h3; exact .inr ⟨hb, h3.symm⟩
      have HCASE := Lib.hid hcase
      clear hcase
      clear hok hx hok2 hx2 hME hL hF2 hS hP
      obtain ⟨e1, e2⟩ := YS.out
      go_upto_if 14 with fail
      clear e1 e2 hltI
      go_cut [4] (fun t4 wc => t4 = .int .i64 (P : Int) ∧ wr = wc)
      case first =>
        rcases HCASE.out with ⟨hc, hPn⟩ | ⟨hc, hPn⟩
        · have HPN := Lib.hid hPn
          clear hPn
          go_wp2_with fail
          all_goals first
            | (exfalso; omega)
            | (go_meet; exact ⟨by rw [HPN.out], rfl⟩)
        · have HPN := Lib.hid hPn
          clear hPn
          go_wp2_with fail
          all_goals first
            | (exfalso; omega)
            | (go_meet; exact ⟨by rw [HPN.out], rfl⟩)
      case rest =>
        obtain ⟨rfl, rfl⟩ := hcut
        have hPz : ¬ ((P : Int) = 0) := by omega
        have hPz2 : ¬ (P = 0) := by omega
        go_wp2_with fail
        go_loopg [0, 5] 10 (fun k t0 t5 wx => ∃ m e : Nat, t0 = .int .i64 (m : Int) ∧ t5 = .int .i64 (e : Int) ∧ 1 ≤ m ∧ m ≤ 1000 ∧ e ≤ 10 ∧ Hid (m < 2 ^ k) ∧ Hid (e + k = 10) ∧ Hid (dvF P k m e = (M, E)) ∧ Hid (St s wx))
        case atStart => exact ⟨n, 0, rfl, rfl, hn0, hn1, by omega, Lib.hid (by omega), Lib.hid rfl, DV, hM⟩
        case round =>
          clear DV hM
          obtain ⟨m, e, rfl, rfl, hm0, hm1, he10, HM2, HE10, HDV, hM⟩ := hrel
          obtain ⟨r, hr⟩ : ∃ r, m % P = r := ⟨_, rfl⟩
          obtain ⟨q, hq⟩ : ∃ q, m / P = q := ⟨_, rfl⟩
          have T1 : Hid (Int.tmod (m : Int) (P : Int) = (r : Int)) := Lib.hid (by rw [← hr, Int.natCast_emod]; exact Int.tmod_eq_emod_of_nonneg (by omega))
          have T2 : Hid (Int.tdiv (m : Int) (P : Int) = (q : Int)) := Lib.hid (by rw [← hq, Int.natCast_ediv]; exact Int.tdiv_eq_ediv_of_nonneg (by omega))
          have hrb : r ≤ 1001 := by rw [← hr]; exact Nat.le_trans (Nat.mod_le _ _) (by omega)
          have hqb : q ≤ 1000 := by rw [← hq]; exact Nat.le_trans (Nat.div_le_self _ _) hm1
          have Y1 := Lib.hid (w64n (n := (r : Int)) (by omega))
          have Y2 := Lib.hid (w64n (n := (q : Int)) (by omega))
          have HRR := Lib.hid hr
          have HQQ := Lib.hid hq
          clear hr hq
          by_cases hr0 : r = 0
          · subst hr0
            obtain ⟨g2, hgk2, d1, d2, d3⟩ := dvF_go (e := e) hPb.1 hm0 HM2.out HRR.out
            rw [HQQ.out] at d1 d2 d3
            have HV := Lib.hid (d1.symm.trans HDV.out)
            have HD2 := Lib.hid d2
            have HD3 := Lib.hid d3
            have YE := Lib.hid (inc_wrap (i := e) (n := 100) (by omega) (by omega))
            have HG2 := Lib.hid hgk2
            clear d1 d2 d3 hgk2
            have t1 := T1.out
            have t2 := T2.out
            obtain ⟨y1, y2⟩ := Y1.out
            obtain ⟨y3, y4⟩ := Y2.out
            obtain ⟨y5, y6⟩ := YE.out
            go_wp2_with fail
            clear t1 t2 y1 y2 y3 y4 y5 y6
            go_roundg g2
            case measure => have := HG2.out; omega
            case rel => exact ⟨q, e + 1, rfl, rfl, HD2.out, hqb, by have := HE10.out; have := HG2.out; omega, HD3, Lib.hid (by have := HE10.out; have := HG2.out; omega), HV, hM⟩
          · have hre : ((r : Int) == 0) = false := by simp; omega
            have hdv2 := HDV.out
            rw [dvF_end (by rw [HRR.out]; exact hr0)] at hdv2
            obtain ⟨hmM, heE⟩ := Prod.mk.inj hdv2
            subst hmM
            subst heE
            clear hdv2 hr0
            have YP := Lib.hid (inc_wrap (i := P) (n := 2000) (by omega) (by omega))
            by_cases he0 : e = 0
            · subst he0
              have hn3 : decide ((0 : Int) < ((0 : Nat) : Int)) = false := by simp
              have fo := FO.out
              have fx := FX.out
              rw [if_neg (by omega), List.nil_append] at fo fx
              have FO2 := Lib.hid fo
              have FX2 := Lib.hid fx
              clear fo fx
              have t1 := T1.out
              obtain ⟨y1, y2⟩ := Y1.out
              obtain ⟨y5, y6⟩ := YP.out
              go_wp2_with fail
              clear t1 y1 y2 y5 y6
              go_roundg g1
              case measure => omega
              case rel => exact ⟨m, P + 1, s, rfl, rfl, HF2, FO2, FX2, hM⟩
            · have hn3 : (0 : Int) < (e : Int) := by omega
              have hn4 : 0 < e := by omega
              have fo := FO.out
              have fx := FX.out
              rw [if_pos hn4] at fo fx
              have FO1 := Lib.hid (show ok s P e from fo.1)
              have FO2 := Lib.hid (show okS ok step (faL g1 m (P + 1)) (step s P e) from fo.2)
              have FX2 := Lib.hid (show foldS step (faL g1 m (P + 1)) (step s P e) = R from fx)
              have CL := Lib.hid (fun u hu => HCL.out s P e u hPb.1 hPb.2 hn4 he10 FO1.out hu)
              clear fo fx
              have t1 := T1.out
              obtain ⟨y1, y2⟩ := Y1.out
              obtain ⟨y5, y6⟩ := YP.out
              go_wp2_with (go_at_call 98; (with_reducible refine (CL.out _ hM.out).mono ?_); (rintro x w3 ⟨rfl, hM3⟩; have HM3 := Lib.hid hM3; clear hM3))
              clear t1 y1 y2 y5 y6
              go_roundg g1
              case measure => omega
              case rel => exact ⟨m, P + 1, step s P e, rfl, rfl, HF2, FO2, FX2, HM3⟩
    · have hnl : ¬ ((1 : Int) < (n : Int)) := by omega
      have hn3 : n = 1 := by omega
      have HE : Hid (s = R) := Lib.hid (by
        have h3 := hx.out
        rw [faL_one _ _ hlt] at h3
        exact h3)
      clear hlt
      go_wp2_with fail
      (try simp only [Exit.inBlock, Exit.then])
      first
        | (refine bodyPost_end (results_none rfl _ _ _) rfl ?_; exact ⟨rfl, by rw [← HE.out]; exact hM.out⟩)
        | (refine bodyPost_ret (v := .tuple #[]) (results_none rfl _ _ _) rfl ?_; exact ⟨rfl, by rw [← HE.out]; exact hM.out⟩)
set_option maxRecDepth 20000 in
set_option maxHeartbeats 8000000 in
theorem factorsU {σ : Type} (St : σ → World → Prop) (ok : σ → Nat → Nat → Prop) (step : σ → Nat → Nat → σ) (c1 c2 : Value)
    (CL : ∀ (s : σ) (p e : Nat) (u : World), 2 ≤ p → p ≤ 1001 → 1 ≤ e → e ≤ 10 → ok s p e → St s u → Calls Tryz.prog 89 #[.int .i64 (p : Int), .int .i64 (e : Int), c1, c2] u fun x w' => x = .returned (.tuple #[]) ∧ St (step s p e) w')
    (N : Nat) (h1 : 1 ≤ N) (h2 : N ≤ 1000) (s0 : σ) (hok : okS ok step (faL 33 N 2) s0) (w1 : World) (hM1 : St s0 w1) :
    Calls Tryz.prog 28 #[.int .i64 (N : Int), .func (.func 89) #[] #[c1, c2]] w1 fun x w' => x = .returned (.tuple #[]) ∧ St (foldS step (faL 33 N 2) s0) w' := by
  obtain ⟨R, hR⟩ : ∃ R, foldS step (faL 33 N 2) s0 = R := ⟨_, rfl⟩
  rw [hR]
  have HR := Lib.hid hR
  have HOK := Lib.hid hok
  have HM1 := Lib.hid hM1
  have HCL := Lib.hid CL
  have HF := Lib.hid (FaH.start h1 h2)
  clear hR hok hM1 CL
  go_enter Tryz.func28, Tryz.ntmps28
  go_wp2_with fail
  go_loopg [0, 4] 33 (fun k t0 t4 wr => ∃ (n p : Nat) (s : σ), t0 = .int .i64 (n : Int) ∧ t4 = .int .i64 (p : Int) ∧ Hid (FaH k n p) ∧ Hid (okS ok step (faL k n p) s) ∧ Hid (foldS step (faL k n p) s = R) ∧ Hid (St s wr))
  case atStart => exact ⟨N, 2, s0, rfl, rfl, HF, HOK, HR, HM1⟩
  case round =>
    clear HR HOK HM1 HF
    obtain ⟨n, p, s, rfl, rfl, HF, hok, hx, hM⟩ := hrel
    have hn0 : 1 ≤ n := HF.out.1
    have hn1 : n ≤ 1000 := HF.out.2.1
    have hp0 : 2 ≤ p := HF.out.2.2.1
    have hp1 : p ≤ 1001 := HF.out.2.2.2.1
    by_cases hlt : 1 < n
    · obtain ⟨g1, hgk, hF2, hE10, hL⟩ := HF.out.next hlt
      have hok2 := hok.out
      have hx2 := hx.out
      rw [hL] at hok2 hx2
      obtain ⟨P, hP⟩ : ∃ P, faP n p = P := ⟨_, rfl⟩
      have hPb := faP_bd hlt hn1 hp0 hp1
      rw [hP] at hPb hF2 hE10 hok2 hx2
      obtain ⟨M, E, hME⟩ : ∃ M E, dvF P 10 n 0 = (M, E) := ⟨_, _, rfl⟩
      rw [hME] at hF2 hE10 hok2 hx2
      simp only at hF2 hE10 hok2 hx2
      have DV := Lib.hid hME
      have HF2 := Lib.hid hF2
      have FO := Lib.hid hok2
      have FX := Lib.hid hx2
      have hltI : (1 : Int) < (n : Int) := by omega
      obtain ⟨S, hS⟩ : ∃ S : Nat, p * p = S := ⟨_, rfl⟩
      have hSb : S ≤ 1001 * 1001 := by rw [← hS]; exact Nat.mul_le_mul hp1 hp1
      have YS : Hid (IntKind.i64.wrap ((p : Int) * (p : Int)) = (S : Int) ∧ wrap64 ((p : Int) * (p : Int)) = (S : Int)) := Lib.hid (by rw [show (p : Int) * (p : Int) = (S : Int) by rw [← hS]; simp]; exact w64n (by omega))
      have hP2 := Lib.hid hP
      have hcase : (n < S ∧ P = n) ∨ (¬ n < S ∧ P = p) := by
        have h3 := hP
        unfold faP at h3
        rw [hS] at h3
        by_cases hb : n < S
        · rw [if_pos hb] at h3; exact .inl ⟨hb, h3.symm⟩
        · rw [if_neg hb] at h3; exact .inr ⟨hb, h3.symm⟩
      have HCASE := Lib.hid hcase
      clear hcase
      clear hok hx hok2 hx2 hME hL hF2 hS hP
      obtain ⟨e1, e2⟩ := YS.out
      go_upto_if 14 with fail
      clear e1 e2 hltI
      go_cut [4] (fun t4 wc => t4 = .int .i64 (P : Int) ∧ wr = wc)
      case first =>
        rcases HCASE.out with ⟨hc, hPn⟩ | ⟨hc, hPn⟩
        · have HPN := Lib.hid hPn
          clear hPn
          go_wp2_with fail
          all_goals first
            | (exfalso; omega)
            | (go_meet; exact ⟨by rw [HPN.out], rfl⟩)
        · have HPN := Lib.hid hPn
          clear hPn
          go_wp2_with fail
          all_goals first
            | (exfalso; omega)
            | (go_meet; exact ⟨by rw [HPN.out], rfl⟩)
      case rest =>
        obtain ⟨rfl, rfl⟩ := hcut
        have hPz : ¬ ((P : Int) = 0) := by omega
        have hPz2 : ¬ (P = 0) := by omega
        go_wp2_with fail
        go_loopg [0, 5] 10 (fun k t0 t5 wx => ∃ m e : Nat, t0 = .int .i64 (m : Int) ∧ t5 = .int .i64 (e : Int) ∧ 1 ≤ m ∧ m ≤ 1000 ∧ e ≤ 10 ∧ Hid (m < 2 ^ k) ∧ Hid (e + k = 10) ∧ Hid (dvF P k m e = (M, E)) ∧ Hid (St s wx))
        case atStart => exact ⟨n, 0, rfl, rfl, hn0, hn1, by omega, Lib.hid (by omega), Lib.hid rfl, DV, hM⟩
        case round =>
          clear DV hM
          obtain ⟨m, e, rfl, rfl, hm0, hm1, he10, HM2, HE10, HDV, hM⟩ := hrel
          obtain ⟨r, hr⟩ : ∃ r, m % P = r := ⟨_, rfl⟩
          obtain ⟨q, hq⟩ : ∃ q, m / P = q := ⟨_, rfl⟩
          have T1 : Hid (Int.tmod (m : Int) (P : Int) = (r : Int)) := Lib.hid (by rw [← hr, Int.natCast_emod]; exact Int.tmod_eq_emod_of_nonneg (by omega))
          have T2 : Hid (Int.tdiv (m : Int) (P : Int) = (q : Int)) := Lib.hid (by rw [← hq, Int.natCast_ediv]; exact Int.tdiv_eq_ediv_of_nonneg (by omega))
          have hrb : r ≤ 1001 := by rw [← hr]; exact Nat.le_trans (Nat.mod_le _ _) (by omega)
          have hqb : q ≤ 1000 := by rw [← hq]; exact Nat.le_trans (Nat.div_le_self _ _) hm1
          have Y1 := Lib.hid (w64n (n := (r : Int)) (by omega))
          have Y2 := Lib.hid (w64n (n := (q : Int)) (by omega))
          have HRR := Lib.hid hr
          have HQQ := Lib.hid hq
          clear hr hq
          by_cases hr0 : r = 0
          · subst hr0
            obtain ⟨g2, hgk2, d1, d2, d3⟩ := dvF_go (e := e) hPb.1 hm0 HM2.out HRR.out
            rw [HQQ.out] at d1 d2 d3
            have HV := Lib.hid (d1.symm.trans HDV.out)
            have HD2 := Lib.hid d2
            have HD3 := Lib.hid d3
            have YE := Lib.hid (inc_wrap (i := e) (n := 100) (by omega) (by omega))
            have HG2 := Lib.hid hgk2
            clear d1 d2 d3 hgk2
            have t1 := T1.out
            have t2 := T2.out
            obtain ⟨y1, y2⟩ := Y1.out
            obtain ⟨y3, y4⟩ := Y2.out
            obtain ⟨y5, y6⟩ := YE.out
            go_wp2_with fail
            clear t1 t2 y1 y2 y3 y4 y5 y6
            go_roundg g2
            case measure => have := HG2.out; omega
            case rel => exact ⟨q, e + 1, rfl, rfl, HD2.out, hqb, by have := HE10.out; have := HG2.out; omega, HD3, Lib.hid (by have := HE10.out; have := HG2.out; omega), HV, hM⟩
          · have hre : ((r : Int) == 0) = false := by simp; omega
            have hdv2 := HDV.out
            rw [dvF_end (by rw [HRR.out]; exact hr0)] at hdv2
            obtain ⟨hmM, heE⟩ := Prod.mk.inj hdv2
            subst hmM
            subst heE
            clear hdv2 hr0
            have YP := Lib.hid (inc_wrap (i := P) (n := 2000) (by omega) (by omega))
            by_cases he0 : e = 0
            · subst he0
              have hn3 : decide ((0 : Int) < ((0 : Nat) : Int)) = false := by simp
              have fo := FO.out
              have fx := FX.out
              rw [if_neg (by omega), List.nil_append] at fo fx
              have FO2 := Lib.hid fo
              have FX2 := Lib.hid fx
              clear fo fx
              have t1 := T1.out
              obtain ⟨y1, y2⟩ := Y1.out
              obtain ⟨y5, y6⟩ := YP.out
              go_wp2_with fail
              clear t1 y1 y2 y5 y6
              go_roundg g1
              case measure => omega
              case rel => exact ⟨m, P + 1, s, rfl, rfl, HF2, FO2, FX2, hM⟩
            · have hn3 : (0 : Int) < (e : Int) := by omega
              have hn4 : 0 < e := by omega
              have fo := FO.out
              have fx := FX.out
              rw [if_pos hn4] at fo fx
              have FO1 := Lib.hid (show ok s P e from fo.1)
              have FO2 := Lib.hid (show okS ok step (faL g1 m (P + 1)) (step s P e) from fo.2)
              have FX2 := Lib.hid (show foldS step (faL g1 m (P + 1)) (step s P e) = R from fx)
              have CL := Lib.hid (fun u hu => HCL.out s P e u hPb.1 hPb.2 hn4 he10 FO1.out hu)
              clear fo fx
              have t1 := T1.out
              obtain ⟨y1, y2⟩ := Y1.out
              obtain ⟨y5, y6⟩ := YP.out
              go_wp2_with (go_at_call 89; (with_reducible refine (CL.out _ hM.out).mono ?_); (rintro x w3 ⟨rfl, hM3⟩; have HM3 := Lib.hid hM3; clear hM3))
              clear t1 y1 y2 y5 y6
              go_roundg g1
              case measure => omega
              case rel => exact ⟨m, P + 1, step s P e, rfl, rfl, HF2, FO2, FX2, HM3⟩
    · have hnl : ¬ ((1 : Int) < (n : Int)) := by omega
      have hn3 : n = 1 := by omega
      have HE : Hid (s = R) := Lib.hid (by
        have h3 := hx.out
        rw [faL_one _ _ hlt] at h3
        exact h3)
      clear hlt
      go_wp2_with fail
      (try simp only [Exit.inBlock, Exit.then])
      first
        | (refine bodyPost_end (results_none rfl _ _ _) rfl ?_; exact ⟨rfl, by rw [← HE.out]; exact hM.out⟩)
        | (refine bodyPost_ret (v := .tuple #[]) (results_none rfl _ _ _) rfl ?_; exact ⟨rfl, by rw [← HE.out]; exact hM.out⟩)
set_option maxRecDepth 20000 in
set_option maxHeartbeats 8000000 in
theorem factorsO {σ : Type} (St : σ → World → Prop) (ok : σ → Nat → Nat → Prop) (step : σ → Nat → Nat → σ) (c1 c2 c3 : Value)
    (CL : ∀ (s : σ) (p e : Nat) (u : World), 2 ≤ p → p ≤ 1001 → 1 ≤ e → e ≤ 10 → ok s p e → St s u → Calls Tryz.prog 132 #[.int .i64 (p : Int), .int .i64 (e : Int), c1, c2, c3] u fun x w' => x = .returned (.tuple #[]) ∧ St (step s p e) w')
    (N : Nat) (h1 : 1 ≤ N) (h2 : N ≤ 1000) (s0 : σ) (hok : okS ok step (faL 33 N 2) s0) (w1 : World) (hM1 : St s0 w1) :
    Calls Tryz.prog 28 #[.int .i64 (N : Int), .func (.func 132) #[] #[c1, c2, c3]] w1 fun x w' => x = .returned (.tuple #[]) ∧ St (foldS step (faL 33 N 2) s0) w' := by
  obtain ⟨R, hR⟩ : ∃ R, foldS step (faL 33 N 2) s0 = R := ⟨_, rfl⟩
  rw [hR]
  have HR := Lib.hid hR
  have HOK := Lib.hid hok
  have HM1 := Lib.hid hM1
  have HCL := Lib.hid CL
  have HF := Lib.hid (FaH.start h1 h2)
  clear hR hok hM1 CL
  go_enter Tryz.func28, Tryz.ntmps28
  go_wp2_with fail
  go_loopg [0, 4] 33 (fun k t0 t4 wr => ∃ (n p : Nat) (s : σ), t0 = .int .i64 (n : Int) ∧ t4 = .int .i64 (p : Int) ∧ Hid (FaH k n p) ∧ Hid (okS ok step (faL k n p) s) ∧ Hid (foldS step (faL k n p) s = R) ∧ Hid (St s wr))
  case atStart => exact ⟨N, 2, s0, rfl, rfl, HF, HOK, HR, HM1⟩
  case round =>
    clear HR HOK HM1 HF
    obtain ⟨n, p, s, rfl, rfl, HF, hok, hx, hM⟩ := hrel
    have hn0 : 1 ≤ n := HF.out.1
    have hn1 : n ≤ 1000 := HF.out.2.1
    have hp0 : 2 ≤ p := HF.out.2.2.1
    have hp1 : p ≤ 1001 := HF.out.2.2.2.1
    by_cases hlt : 1 < n
    · obtain ⟨g1, hgk, hF2, hE10, hL⟩ := HF.out.next hlt
      have hok2 := hok.out
      have hx2 := hx.out
      rw [hL] at hok2 hx2
      obtain ⟨P, hP⟩ : ∃ P, faP n p = P := ⟨_, rfl⟩
      have hPb := faP_bd hlt hn1 hp0 hp1
      rw [hP] at hPb hF2 hE10 hok2 hx2
      obtain ⟨M, E, hME⟩ : ∃ M E, dvF P 10 n 0 = (M, E) := ⟨_, _, rfl⟩
      rw [hME] at hF2 hE10 hok2 hx2
      simp only at hF2 hE10 hok2 hx2
      have DV := Lib.hid hME
      have HF2 := Lib.hid hF2
      have FO := Lib.hid hok2
      have FX := Lib.hid hx2
      have hltI : (1 : Int) < (n : Int) := by omega
      obtain ⟨S, hS⟩ : ∃ S : Nat, p * p = S := ⟨_, rfl⟩
      have hSb : S ≤ 1001 * 1001 := by rw [← hS]; exact Nat.mul_le_mul hp1 hp1
      have YS : Hid (IntKind.i64.wrap ((p : Int) * (p : Int)) = (S : Int) ∧ wrap64 ((p : Int) * (p : Int)) = (S : Int)) := Lib.hid (by rw [show (p : Int) * (p : Int) = (S : Int) by rw [← hS]; simp]; exact w64n (by omega))
      have hP2 := Lib.hid hP
      have hcase : (n < S ∧ P = n) ∨ (¬ n < S ∧ P = p) := by
        have h3 := hP
        unfold faP at h3
        rw [hS] at h3
        by_cases hb : n < S
        · rw [if_pos hb] at h3; exact .inl ⟨hb, h3.symm⟩
        · rw [if_neg hb] at h3; exact .inr ⟨hb, h3.symm⟩
      have HCASE := Lib.hid hcase
      clear hcase
      clear hok hx hok2 hx2 hME hL hF2 hS hP
      obtain ⟨e1, e2⟩ := YS.out
      go_upto_if 14 with fail
      clear e1 e2 hltI
      go_cut [4] (fun t4 wc => t4 = .int .i64 (P : Int) ∧ wr = wc)
      case first =>
        rcases HCASE.out with ⟨hc, hPn⟩ | ⟨hc, hPn⟩
        · have HPN := Lib.hid hPn
          clear hPn
          go_wp2_with fail
          all_goals first
            | (exfalso; omega)
            | (go_meet; exact ⟨by rw [HPN.out], rfl⟩)
        · have HPN := Lib.hid hPn
          clear hPn
          go_wp2_with fail
          all_goals first
            | (exfalso; omega)
            | (go_meet; exact ⟨by rw [HPN.out], rfl⟩)
      case rest =>
        obtain ⟨rfl, rfl⟩ := hcut
        have hPz : ¬ ((P : Int) = 0) := by omega
        have hPz2 : ¬ (P = 0) := by omega
        go_wp2_with fail
        go_loopg [0, 5] 10 (fun k t0 t5 wx => ∃ m e : Nat, t0 = .int .i64 (m : Int) ∧ t5 = .int .i64 (e : Int) ∧ 1 ≤ m ∧ m ≤ 1000 ∧ e ≤ 10 ∧ Hid (m < 2 ^ k) ∧ Hid (e + k = 10) ∧ Hid (dvF P k m e = (M, E)) ∧ Hid (St s wx))
        case atStart => exact ⟨n, 0, rfl, rfl, hn0, hn1, by omega, Lib.hid (by omega), Lib.hid rfl, DV, hM⟩
        case round =>
          clear DV hM
          obtain ⟨m, e, rfl, rfl, hm0, hm1, he10, HM2, HE10, HDV, hM⟩ := hrel
          obtain ⟨r, hr⟩ : ∃ r, m % P = r := ⟨_, rfl⟩
          obtain ⟨q, hq⟩ : ∃ q, m / P = q := ⟨_, rfl⟩
          have T1 : Hid (Int.tmod (m : Int) (P : Int) = (r : Int)) := Lib.hid (by rw [← hr, Int.natCast_emod]; exact Int.tmod_eq_emod_of_nonneg (by omega))
          have T2 : Hid (Int.tdiv (m : Int) (P : Int) = (q : Int)) := Lib.hid (by rw [← hq, Int.natCast_ediv]; exact Int.tdiv_eq_ediv_of_nonneg (by omega))
          have hrb : r ≤ 1001 := by rw [← hr]; exact Nat.le_trans (Nat.mod_le _ _) (by omega)
          have hqb : q ≤ 1000 := by rw [← hq]; exact Nat.le_trans (Nat.div_le_self _ _) hm1
          have Y1 := Lib.hid (w64n (n := (r : Int)) (by omega))
          have Y2 := Lib.hid (w64n (n := (q : Int)) (by omega))
          have HRR := Lib.hid hr
          have HQQ := Lib.hid hq
          clear hr hq
          by_cases hr0 : r = 0
          · subst hr0
            obtain ⟨g2, hgk2, d1, d2, d3⟩ := dvF_go (e := e) hPb.1 hm0 HM2.out HRR.out
            rw [HQQ.out] at d1 d2 d3
            have HV := Lib.hid (d1.symm.trans HDV.out)
            have HD2 := Lib.hid d2
            have HD3 := Lib.hid d3
            have YE := Lib.hid (inc_wrap (i := e) (n := 100) (by omega) (by omega))
            have HG2 := Lib.hid hgk2
            clear d1 d2 d3 hgk2
            have t1 := T1.out
            have t2 := T2.out
            obtain ⟨y1, y2⟩ := Y1.out
            obtain ⟨y3, y4⟩ := Y2.out
            obtain ⟨y5, y6⟩ := YE.out
            go_wp2_with fail
            clear t1 t2 y1 y2 y3 y4 y5 y6
            go_roundg g2
            case measure => have := HG2.out; omega
            case rel => exact ⟨q, e + 1, rfl, rfl, HD2.out, hqb, by have := HE10.out; have := HG2.out; omega, HD3, Lib.hid (by have := HE10.out; have := HG2.out; omega), HV, hM⟩
          · have hre : ((r : Int) == 0) = false := by simp; omega
            have hdv2 := HDV.out
            rw [dvF_end (by rw [HRR.out]; exact hr0)] at hdv2
            obtain ⟨hmM, heE⟩ := Prod.mk.inj hdv2
            subst hmM
            subst heE
            clear hdv2 hr0
            have YP := Lib.hid (inc_wrap (i := P) (n := 2000) (by omega) (by omega))
            by_cases he0 : e = 0
            · subst he0
              have hn3 : decide ((0 : Int) < ((0 : Nat) : Int)) = false := by simp
              have fo := FO.out
              have fx := FX.out
              rw [if_neg (by omega), List.nil_append] at fo fx
              have FO2 := Lib.hid fo
              have FX2 := Lib.hid fx
              clear fo fx
              have t1 := T1.out
              obtain ⟨y1, y2⟩ := Y1.out
              obtain ⟨y5, y6⟩ := YP.out
              go_wp2_with fail
              clear t1 y1 y2 y5 y6
              go_roundg g1
              case measure => omega
              case rel => exact ⟨m, P + 1, s, rfl, rfl, HF2, FO2, FX2, hM⟩
            · have hn3 : (0 : Int) < (e : Int) := by omega
              have hn4 : 0 < e := by omega
              have fo := FO.out
              have fx := FX.out
              rw [if_pos hn4] at fo fx
              have FO1 := Lib.hid (show ok s P e from fo.1)
              have FO2 := Lib.hid (show okS ok step (faL g1 m (P + 1)) (step s P e) from fo.2)
              have FX2 := Lib.hid (show foldS step (faL g1 m (P + 1)) (step s P e) = R from fx)
              have CL := Lib.hid (fun u hu => HCL.out s P e u hPb.1 hPb.2 hn4 he10 FO1.out hu)
              clear fo fx
              have t1 := T1.out
              obtain ⟨y1, y2⟩ := Y1.out
              obtain ⟨y5, y6⟩ := YP.out
              go_wp2_with (go_at_call 132; (with_reducible refine (CL.out _ hM.out).mono ?_); (rintro x w3 ⟨rfl, hM3⟩; have HM3 := Lib.hid hM3; clear hM3))
              clear t1 y1 y2 y5 y6
              go_roundg g1
              case measure => omega
              case rel => exact ⟨m, P + 1, step s P e, rfl, rfl, HF2, FO2, FX2, HM3⟩
    · have hnl : ¬ ((1 : Int) < (n : Int)) := by omega
      have hn3 : n = 1 := by omega
      have HE : Hid (s = R) := Lib.hid (by
        have h3 := hx.out
        rw [faL_one _ _ hlt] at h3
        exact h3)
      clear hlt
      go_wp2_with fail
      (try simp only [Exit.inBlock, Exit.then])
      first
        | (refine bodyPost_end (results_none rfl _ _ _) rfl ?_; exact ⟨rfl, by rw [← HE.out]; exact hM.out⟩)
        | (refine bodyPost_ret (v := .tuple #[]) (results_none rfl _ _ _) rfl ?_; exact ⟨rfl, by rw [← HE.out]; exact hM.out⟩)
end Go.Proofs.YtbpkfcohbefphaaGreatDoor
namespace Go.Proofs.YtbpkfcohbefphaaGreatDoor
open Go Go.RowKit
def phF (p e : Nat) : Nat := p ^ (e - 1) * (p - 1)
set_option maxRecDepth 20000 in
set_option maxHeartbeats 8000000 in
theorem phi1Q (p e : Nat) (hp0 : 2 ≤ p) (hp : p ≤ 1001) (he0 : 1 ≤ e) (he : e ≤ 10) (hb : p ^ (e - 1) ≤ 1000) (w : World) : Calls Tryz.prog 99 #[.int .i64 (p : Int), .int .i64 (e : Int)] w fun x w' => x = .returned (.int .i64 ((phF p e : Nat) : Int)) ∧ w = w' := by
  obtain ⟨e1, he1⟩ : ∃ x, e - 1 = x := ⟨_, rfl⟩
  have PW := Lib.hid (fun u => powQ p e1 (by omega) (by omega) (by rw [← he1]; exact hb) u)
  obtain ⟨q, hq⟩ : ∃ x, p ^ e1 = x := ⟨_, rfl⟩
  have hqb : q ≤ 1000 := by rw [← hq, ← he1]; exact hb
  rw [hq] at PW
  obtain ⟨z, hz⟩ : ∃ x, phF p e = x := ⟨_, rfl⟩
  have hzq : q * (p - 1) = z := by rw [← hz, ← hq, ← he1]; rfl
  have hzb : z ≤ 1000 * 1002 := by rw [← hzq]; exact Nat.mul_le_mul hqb (by omega)
  rw [hz]
  obtain ⟨p1, hp1⟩ : ∃ x, p - 1 = x := ⟨_, rfl⟩
  rw [hp1] at hzq
  have E1 : Hid (IntKind.i64.wrap ((e : Int) - 1) = (e1 : Int) ∧ wrap64 ((e : Int) - 1) = (e1 : Int)) := Lib.hid (by rw [show (e : Int) - 1 = (e1 : Int) by omega]; exact w64n (by omega))
  have E2 : Hid (IntKind.i64.wrap ((p : Int) - 1) = (p1 : Int) ∧ wrap64 ((p : Int) - 1) = (p1 : Int)) := Lib.hid (by rw [show (p : Int) - 1 = (p1 : Int) by omega]; exact w64n (by omega))
  have E3 : Hid (IntKind.i64.wrap ((q : Int) * (p1 : Int)) = (z : Int) ∧ wrap64 ((q : Int) * (p1 : Int)) = (z : Int)) := Lib.hid (by rw [show (q : Int) * (p1 : Int) = (z : Int) by rw [← hzq]; simp]; exact w64n (by omega))
  clear hzq hz hq he1 hp1 hb
  obtain ⟨x1, x2⟩ := E1.out
  obtain ⟨x3, x4⟩ := E2.out
  obtain ⟨x5, x6⟩ := E3.out
  go_enter Tryz.func99, Tryz.ntmps99
  go_wp2_with (go_at_call 72; (with_reducible refine (PW.out _).mono ?_); (rintro x u2 ⟨rfl, rfl⟩))
  go_ret
  exact ⟨rfl, rfl⟩
/-- The two cells of product: the function, the product so far. -/
structure PrHS (w0 : World) (out : Nat) (u : World) : Prop where
  grow : Grow w0 u
  c0 : u.cell? ⟨w0.heap.size, 0, none⟩ = some (.func (.func 99) #[] #[])
  c1 : u.cell? ⟨w0.heap.size + 1, 0, none⟩ = some (.int .i64 (out : Int))
  fr : ∀ o, u.frozen? ⟨w0.heap.size + 1, o, none⟩ = false
  lt : w0.heap.size + 1 < u.heap.size
def okPh (s p e : Nat) : Bool := decide (p ^ (e - 1) ≤ 1000) && decide (s * phF p e ≤ 1000000) && decide (s ≤ 1000000)
theorem PrHS.put {w0 u : World} {s : Nat} (h : PrHS w0 s u) (z : Nat) : PrHS w0 z (u.setCell ⟨w0.heap.size + 1, 0, none⟩ (.int .i64 (z : Int))).drew := by
  have hb : But (fun b => b = w0.heap.size + 1) u (u.setCell ⟨w0.heap.size + 1, 0, none⟩ (.int .i64 (z : Int))) := (But.refl (fun b => b = w0.heap.size + 1) u).set _ (.inr rfl) (fun x => by rw [h.c1]; simp)
  have hd : Grow (u.setCell ⟨w0.heap.size + 1, 0, none⟩ (.int .i64 (z : Int))) (u.setCell ⟨w0.heap.size + 1, 0, none⟩ (.int .i64 (z : Int))).drew := (Grow.refl _).drew
  have hb2 := hb.grow hd
  have hl := h.lt
  exact ⟨((h.grow.but _).trans hb2).asGrow (fun b e => by omega), (hb2.cells _ _ (by omega) (by omega)).trans h.c0, (hd.cells _ _ (Nat.lt_of_lt_of_le hl hb.size)).trans (World.cell?_setCell_same _ _ _ h.c1), fun o => (hb2.frees _ _ hl).trans (h.fr o), Nat.lt_of_lt_of_le hl hb2.size⟩
set_option maxRecDepth 20000 in
set_option maxHeartbeats 8000000 in
theorem prodH1Q (w0 : World) (s p e : Nat) (hp0 : 2 ≤ p) (hp1 : p ≤ 1001) (he0 : 1 ≤ e) (he1 : e ≤ 10) (hok : okPh s p e = true) (u : World) (hS : PrHS w0 s u) :
    Calls Tryz.prog 100 #[.int .i64 (p : Int), .int .i64 (e : Int), .pointer (some ⟨w0.heap.size + 1, 0, none⟩), .pointer (some ⟨w0.heap.size, 0, none⟩)] u fun x w' => x = .returned (.tuple #[]) ∧ PrHS w0 (s * phF p e) w' := by
  unfold okPh at hok
  simp only [Bool.and_eq_true, decide_eq_true_eq] at hok
  obtain ⟨⟨hk1, hk2⟩, hk3⟩ := hok
  have P1 := Lib.hid (fun v => phi1Q p e hp0 hp1 he0 he1 hk1 v)
  obtain ⟨q, hq⟩ : ∃ q, phF p e = q := ⟨_, rfl⟩
  rw [hq] at P1 hk2 ⊢
  obtain ⟨z, hz⟩ : ∃ z, s * q = z := ⟨_, rfl⟩
  rw [hz] at hk2 ⊢
  have E3 : Hid (IntKind.i64.wrap ((s : Int) * (q : Int)) = (z : Int) ∧ wrap64 ((s : Int) * (q : Int)) = (z : Int)) := Lib.hid (by rw [show (s : Int) * (q : Int) = (z : Int) by rw [← hz]; simp]; exact w64n (by omega))
  have hl0 := hS.lt
  have D0 := Lib.hid (fun (v : World) (hv : Grow u v) => (⟨(hv.cells _ _ (by omega)).trans hS.c0, (hv.cells _ _ (by omega)).trans hS.c1, fun o => (hv.frees _ _ (by omega)).trans (hS.fr o), Nat.lt_of_lt_of_le hS.lt hv.size, hv⟩ : v.cell? ⟨w0.heap.size, 0, none⟩ = some (.func (.func 99) #[] #[]) ∧ v.cell? ⟨w0.heap.size + 1, 0, none⟩ = some (.int .i64 (s : Int)) ∧ (∀ o, v.frozen? ⟨w0.heap.size + 1, o, none⟩ = false) ∧ w0.heap.size + 1 < v.heap.size ∧ Grow u v))
  have HS := Lib.hid hS
  clear hS hq hz hk1
  obtain ⟨x5, x6⟩ := E3.out
  go_enter Tryz.func100, Tryz.ntmps100
  go_upto_region 0 with fail
  refine region_held (id := 0) (fun v => Grow u v) [0, 1, 2, 3, 4, 5, 6] (kdL [1, 1, 0, 0, 2, 0, 3]) (by kernel_rfl) (by kernel_rfl) (fun t ht => kdL_lt _ t ht) ?hS0p ?_
  case hS0p => ((try dsimp only); (repeat (first | with_reducible exact Grow.refl _ | with_reducible refine Grow.alloc ?_ _ | with_reducible refine Grow.drew ?_ | with_reducible refine Grow.drewN ?_ _ | (with_reducible refine Grow.setCell ?_ ?hp _; (case hp => (simp; try omega))) | with_reducible refine Grow.trans ?_ (by assumption))))
  refine held_read (v := ?vp0) rfl rfl (Or.inl ⟨by rfl, ?hyp0⟩) ?_
  case hyp0 => (intro u hu; obtain ⟨f0, f1, f2, f3, f4⟩ := D0.out u hu; go_simp; (try with_reducible rfl))
  (try simp only [Act.put, List.setIfInBounds_toArray, List.set_cons_zero, List.set_cons_succ])
  refine held_read (v := ?vp1) rfl rfl (Or.inl ⟨by rfl, ?hyp1⟩) ?_
  case hyp1 => (intro u hu; obtain ⟨f0, f1, f2, f3, f4⟩ := D0.out u hu; go_simp; (try with_reducible rfl))
  (try simp only [Act.put, List.setIfInBounds_toArray, List.set_cons_zero, List.set_cons_succ])
  refine held_quiet (v := ?vp2) rfl rfl (Or.inl ⟨by rfl, ?hyp2⟩) ?_
  case hyp2 => (intro u hu; go_simp; (try with_reducible rfl))
  (try simp only [Act.put, List.setIfInBounds_toArray, List.set_cons_zero, List.set_cons_succ])
  refine held_quiet (v := ?vp3) rfl rfl (Or.inl ⟨by rfl, ?hyp3⟩) ?_
  case hyp3 => (intro u hu; go_simp; (try with_reducible rfl))
  (try simp only [Act.put, List.setIfInBounds_toArray, List.set_cons_zero, List.set_cons_succ])
  refine held_op rfl rfl (fun K hK => ?_)
  go_simp
  (go_at_call 99; (with_reducible refine (P1.out _).mono ?_); (rintro e u4 ⟨rfl, rfl⟩; obtain ⟨f0, f1, f2, f3, f4⟩ := D0.out u (Grow.refl _)))
  (try go_wp2_with fail)
  refine hK.out _ _ ?hSp4 ?_
  case hSp4 => ((try dsimp only); (repeat (first | with_reducible exact Grow.refl _ | with_reducible refine Grow.alloc ?_ _ | with_reducible refine Grow.drew ?_ | with_reducible refine Grow.drewN ?_ _ | (with_reducible refine Grow.setCell ?_ ?hp _; (case hp => (simp; try omega))) | with_reducible refine Grow.trans ?_ (by assumption))))
  clear hK K
  (try simp only [Act.put, List.setIfInBounds_toArray, List.set_cons_zero, List.set_cons_succ])
  refine held_quiet (v := ?vp5) rfl rfl (Or.inl ⟨by rfl, ?hyp5⟩) ?_
  case hyp5 => (intro u hu; go_simp; (try with_reducible rfl))
  (try simp only [Act.put, List.setIfInBounds_toArray, List.set_cons_zero, List.set_cons_succ])
  refine held_last rfl rfl (fun K hK => ?_)
  go_simp
  refine hK.out _ _ ?_
  clear hK K
  (try simp only [Act.put, List.setIfInBounds_toArray, List.set_cons_zero, List.set_cons_succ])
  refine held_done ?_
  go_wp2_with fail
  refine bodyPost_end (results_none rfl _ _ _) rfl ?_
  exact ⟨rfl, HS.out.put z⟩
def phiN (n : Nat) : Nat := foldS (fun s p e => s * phF p e) (faL 33 n 2) 1
set_option maxRecDepth 20000 in
set_option maxHeartbeats 8000000 in
theorem productHQ (n : Nat) (h1 : 1 ≤ n) (h2 : n ≤ 1000) (hok : okS (fun s p e => okPh s p e = true) (fun s p e => s * phF p e) (faL 33 n 2) 1) (w : World) :
    Calls Tryz.prog 70 #[.int .i64 (n : Int), .func (.func 99) #[] #[]] w fun x w' => x = .returned (.tuple #[.int .i64 (phiN n : Nat), .int .i64 0]) ∧ Grow w w' := by
  have IR := Lib.hid (fun u => inRangeQ n h1 h2 u)
  have FC := Lib.hid (fun u (hu : PrHS w 1 u) => factorsP (fun s u => PrHS w s u) (fun s p e => okPh s p e = true) (fun s p e => s * phF p e) (.pointer (some ⟨w.heap.size + 1, 0, none⟩)) (.pointer (some ⟨w.heap.size, 0, none⟩)) (fun s p e u a b c d ok hs => prodH1Q w s p e a b c d ok u hs) n h1 h2 1 hok u hu)
  have hmf : ∀ (fn : Fn) (first cap : Array Value) (w : World), (Instr.makeFunc fn first cap).run Tryz.prog w = .ok (.func fn first cap) w := fun _ _ _ _ => rfl
  obtain ⟨W1, hW1⟩ : ∃ W1 : World, W1 = w.alloc (.cells #[.func (.func 99) #[] #[]] 59) := ⟨_, rfl⟩
  obtain ⟨W2, hW2⟩ : ∃ W2 : World, W2 = W1.alloc (.cells #[.int .i64 1] 3) := ⟨_, rfl⟩
  have hz1 : W1.heap.size = w.heap.size + 1 := by rw [hW1]; simp
  have HP : Hid (PrHS w 1 W2) := Lib.hid (by
    obtain ⟨a0, -, a2⟩ := ak1 hW1 W2 (ag hW2)
    obtain ⟨b0, b1, b2⟩ := ak1 hW2 W2 (Grow.refl _)
    rw [hz1] at b0 b1 b2
    exact ⟨(ag hW1).trans (ag hW2), a0, b0, b1, b2⟩)
  have HW1 := Lib.hid hW1
  have HW2 := Lib.hid hW2
  have HZ1 := Lib.hid hz1
  clear hW1 hW2 hz1 hok
  go_enter Tryz.func70, Tryz.ntmps70
  go_upto_region 1 with fail
  rw [← HW1.out]
  go_upto_region 4 with (go_at_call 27; (with_reducible refine (IR.out _).mono ?_); (rintro x u2 ⟨rfl, rfl⟩))
  rw [← HW2.out, HZ1.out]
  go_wp2_with (go_at_call 28; (with_reducible refine (FC.out _ HP.out).mono ?_); (rintro x u3 ⟨rfl, hp3⟩; have HP3 := Lib.hid hp3; have c1 := hp3.c1; clear hp3))
  refine bodyPost_ret (v := .tuple #[.int .i64 ((phiN n : Nat) : Int), .int .i64 0]) (by rw [results_pair rfl]; first | rfl | go_simp) rfl ?_
  exact ⟨rfl, HP3.out.grow⟩
theorem okS_ph : ∀ n, n < 61 → n = 0 ∨ okSB (fun s p e => okPh s p e) (fun s p e => s * phF p e) (faL 33 n 2) 1 = true := by decide +kernel
theorem phiQ (n : Nat) (h1 : 1 ≤ n) (h2 : n ≤ 60) (w : World) : Calls Tryz.prog 67 #[.int .i64 (n : Int)] w fun x w' => x = .returned (.tuple #[.int .i64 (phiN n : Nat), .int .i64 0]) ∧ Grow w w' := by
  have PR := Lib.hid (fun u => productHQ n h1 (by omega) (okS_of (by
    rcases okS_ph n (by omega) with h | h
    · omega
    · exact h)) u)
  go_enter Tryz.func67, Tryz.ntmps67
  go_wp2_with (go_at_call 70; (with_reducible refine (PR.out _).mono ?_); (rintro x u2 ⟨rfl, hb2⟩))
  refine bodyPost_ret (v := .tuple #[.int .i64 ((phiN n : Nat) : Int), .int .i64 0]) (by rw [results_pair rfl]; first | rfl | go_simp) rfl ?_
  exact ⟨rfl, hb2⟩
end Go.Proofs.YtbpkfcohbefphaaGreatDoor
