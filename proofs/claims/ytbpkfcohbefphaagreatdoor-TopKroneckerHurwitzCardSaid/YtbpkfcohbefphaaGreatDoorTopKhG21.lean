/- Lemmas, plain laws and walks that the statement LwKronecker leans on (texts TwE, FaB, DvA, DvB, PsA, DvT), conditions as each theorem says. -/
import Derived.Test.YtbpkfcohbefphaaGreatDoorTopKhG18
import Derived.Test.YtbpkfcohbefphaaGreatDoorTopKhG20

namespace Go.Proofs.YtbpkfcohbefphaaGreatDoor
open Go Go.RowKit
theorem IntQ.but {X : Nat → Prop} {w w' : World} {B off n : Nat} {f : Nat → Int} (h : IntQ w B off n f) (hX : ¬ X B) (hg : But X w w') : IntQ w' B off n f :=
  ⟨Nat.lt_of_lt_of_le h.lt hg.size, fun i hi => (hg.cells _ _ h.lt hX).trans (h.cell i hi)⟩
theorem IntQ.cong {w : World} {B off n : Nat} {f g : Nat → Int} (h : IntQ w B off n f) (he : ∀ i, i < n → f i = g i) : IntQ w B off n g :=
  ⟨h.lt, fun i hi => by rw [← he i hi]; exact h.cell i hi⟩
theorem IntQ.set {w : World} {B off n : Nat} {f : Nat → Int} (h : IntQ w B off n f) {j : Nat} (hj : j < n) (x : Int) :
    IntQ (w.setCell ⟨B, off + j, none⟩ (.int .i64 x)) B off n (fun i => if i = j then x else f i) ∧ But (fun b => b = B) w (w.setCell ⟨B, off + j, none⟩ (.int .i64 x)) := by
  have hb : But (fun b => b = B) w (w.setCell ⟨B, off + j, none⟩ (.int .i64 x)) := (But.refl _ w).set _ (.inr rfl) (fun y => by rw [h.cell j hj]; simp)
  refine ⟨⟨Nat.lt_of_lt_of_le h.lt hb.size, fun i hi => ?_⟩, hb⟩
  by_cases e : i = j
  · subst e; rw [if_pos rfl]; exact World.cell?_setCell_same _ _ _ (h.cell i hi)
  · rw [if_neg e, World.cell?_setCell_other _ _ _ _ (by simp; try omega)]
    exact h.cell i hi
/-- What the closure needs: its captured cells and the row it counts in. -/
structure ManS (w : World) (p2 p3 p4 Mb cM prec : Nat) (h : Nat → Int) : Prop where
  c2 : w.cell? ⟨p2, 0, none⟩ = some (.int .i64 (prec : Int))
  c3 : w.cell? ⟨p3, 0, none⟩ = some (.slice (some ⟨Mb, 0, none⟩) prec cM)
  c4 : w.cell? ⟨p4, 0, none⟩ = some (.slice none 0 0)
  l2 : p2 < w.heap.size
  l3 : p3 < w.heap.size
  l4 : p4 < w.heap.size
  row : IntQ w Mb 0 prec h
  free : ∀ o, w.frozen? ⟨Mb, o, none⟩ = false
  n2 : p2 ≠ Mb
  n3 : p3 ≠ Mb
  n4 : p4 ≠ Mb
theorem ManS.but {X : Nat → Prop} {w w' : World} {p2 p3 p4 Mb cM prec : Nat} {h : Nat → Int} (H : ManS w p2 p3 p4 Mb cM prec h) (hb : But X w w') (x2 : ¬ X p2) (x3 : ¬ X p3) (x4 : ¬ X p4) (xM : ¬ X Mb) : ManS w' p2 p3 p4 Mb cM prec h :=
  ⟨(hb.cells _ _ H.l2 x2).trans H.c2, (hb.cells _ _ H.l3 x3).trans H.c3, (hb.cells _ _ H.l4 x4).trans H.c4, Nat.lt_of_lt_of_le H.l2 hb.size, Nat.lt_of_lt_of_le H.l3 hb.size, Nat.lt_of_lt_of_le H.l4 hb.size, H.row.but xM hb, fun o => (hb.frees _ _ H.row.lt).trans (H.free o), H.n2, H.n3, H.n4⟩
theorem ManS.step {w : World} {p2 p3 p4 Mb cM prec : Nat} {h : Nat → Int} (H : ManS w p2 p3 p4 Mb cM prec h) {j : Nat} (hj : j < prec) (x : Int) :
    ManS (w.setCell ⟨Mb, j, none⟩ (.int .i64 x)) p2 p3 p4 Mb cM prec (fun i => if i = j then x else h i) ∧ But (fun b => b = Mb) w (w.setCell ⟨Mb, j, none⟩ (.int .i64 x)) := by
  obtain ⟨h1, h2⟩ := H.row.set hj x
  rw [Nat.zero_add] at h1 h2
  exact ⟨⟨(h2.cells _ _ H.l2 H.n2).trans H.c2, (h2.cells _ _ H.l3 H.n3).trans H.c3, (h2.cells _ _ H.l4 H.n4).trans H.c4, Nat.lt_of_lt_of_le H.l2 h2.size, Nat.lt_of_lt_of_le H.l3 h2.size, Nat.lt_of_lt_of_le H.l4 h2.size, h1, fun o => (h2.frees _ _ H.row.lt).trans (H.free o), H.n2, H.n3, H.n4⟩, h2⟩
theorem ManS.cong {w : World} {p2 p3 p4 Mb cM prec : Nat} {h g : Nat → Int} (H : ManS w p2 p3 p4 Mb cM prec h) (he : ∀ i, i < prec → h i = g i) : ManS w p2 p3 p4 Mb cM prec g :=
  ⟨H.c2, H.c3, H.c4, H.l2, H.l3, H.l4, H.row.cong he, H.free, H.n2, H.n3, H.n4⟩
end Go.Proofs.YtbpkfcohbefphaaGreatDoor
namespace Go.Proofs.YtbpkfcohbefphaaGreatDoor
open Go Go.RowKit
set_option maxRecDepth 20000 in
set_option maxHeartbeats 8000000 in
theorem factorsP {σ : Type} (St : σ → World → Prop) (ok : σ → Nat → Nat → Prop) (step : σ → Nat → Nat → σ) (c1 c2 : Value)
    (CL : ∀ (s : σ) (p e : Nat) (u : World), 2 ≤ p → p ≤ 1001 → 1 ≤ e → e ≤ 10 → ok s p e → St s u → Calls Tryz.prog 100 #[.int .i64 (p : Int), .int .i64 (e : Int), c1, c2] u fun x w' => x = .returned (.tuple #[]) ∧ St (step s p e) w')
    (N : Nat) (h1 : 1 ≤ N) (h2 : N ≤ 1000) (s0 : σ) (hok : okS ok step (faL 33 N 2) s0) (w1 : World) (hM1 : St s0 w1) :
    Calls Tryz.prog 28 #[.int .i64 (N : Int), .func (.func 100) #[] #[c1, c2]] w1 fun x w' => x = .returned (.tuple #[]) ∧ St (foldS step (faL 33 N 2) s0) w' := by
  obtain ⟨R, hR⟩ : ∃ R, foldS step (faL 33 N 2) s0 = R := ⟨_, rfl⟩
  rw [hR]
  have HR := Lib.hid hR
  have HOK := Lib.hid hok
  have HM1 := Lib.hid hM1
  have HCL := Lib.hid CL
  have HF := Lib.hid (FaH.start h1 h2)
  clear hR hok hM1 CL
  go_enter Tryz.func28, Tryz.ntmps28
  go_wp2_with fail
  go_loopg [0, 4] 33 (fun k t0 t4 wr => ∃ (n p : Nat) (s : σ), t0 = .int .i64 (n : Int) ∧ t4 = .int .i64 (p : Int) ∧ Hid (FaH k n p) ∧ Hid (okS ok step (faL k n p) s) ∧ Hid (foldS step (faL k n p) s = R) ∧ Hid (St s wr))
  case atStart => exact ⟨N, 2, s0, rfl, rfl, HF, HOK, HR, HM1⟩
  case round =>
    clear HR HOK HM1 HF
    obtain ⟨n, p, s, rfl, rfl, HF, hok, hx, hM⟩ := hrel
    have hn0 : 1 ≤ n := HF.out.1
    have hn1 : n ≤ 1000 := HF.out.2.1
    have hp0 : 2 ≤ p := HF.out.2.2.1
    have hp1 : p ≤ 1001 := HF.out.2.2.2.1
    by_cases hlt : 1 < n
    · obtain ⟨g1, hgk, hF2, hE10, hL⟩ := HF.out.next hlt
      have hok2 := hok.out
      have hx2 := hx.out
      rw [hL] at hok2 hx2
      obtain ⟨P, hP⟩ : ∃ P, faP n p = P := ⟨_, rfl⟩
      have hPb := faP_bd hlt hn1 hp0 hp1
      rw [hP] at hPb hF2 hE10 hok2 hx2
      obtain ⟨M, E, hME⟩ : ∃ M E, dvF P 10 n 0 = (M, E) := ⟨_, _, rfl⟩
      rw [hME] at hF2 hE10 hok2 hx2
      simp only at hF2 hE10 hok2 hx2
      have DV := Lib.hid hME
      have HF2 := Lib.hid hF2
      have FO := Lib.hid hok2
      have FX := Lib.hid hx2
      have hltI : (1 : Int) < (n : Int) := by omega
      obtain ⟨S, hS⟩ : ∃ S : Nat, p * p = S := ⟨_, rfl⟩
      have hSb : S ≤ 1001 * 1001 := by rw [← hS]; exact Nat.mul_le_mul hp1 hp1
      have YS : Hid (IntKind.i64.wrap ((p : Int) * (p : Int)) = (S : Int) ∧ wrap64 ((p : Int) * (p : Int)) = (S : Int)) := Lib.hid (by rw [show (p : Int) * (p : Int) = (S : Int) by rw [← hS]; simp]; exact w64n (by omega))
      have hP2 := Lib.hid hP
      have hcase : (n < S ∧ P = n) ∨ (¬ n < S ∧ P = p) := by
        have h3 := hP
        unfold faP at h3
        rw [hS] at h3
        by_cases hb : n < S
        · rw [if_pos hb] at h3; exact .inl ⟨hb, h3.symm⟩
        · rw [if_neg hb] at h3; exact .inr ⟨hb, h3.symm⟩
      have HCASE := Lib.hid hcase
      clear hcase
      clear hok hx hok2 hx2 hME hL hF2 hS hP
      obtain ⟨e1, e2⟩ := YS.out
      go_upto_if 14 with fail
      clear e1 e2 hltI
      go_cut [4] (fun t4 wc => t4 = .int .i64 (P : Int) ∧ wr = wc)
      case first =>
        rcases HCASE.out with ⟨hc, hPn⟩ | ⟨hc, hPn⟩
        · have HPN := Lib.hid hPn
          clear hPn
          go_wp2_with fail
          all_goals first
            | (exfalso; omega)
            | (go_meet; exact ⟨by rw [HPN.out], rfl⟩)
        · have HPN := Lib.hid hPn
          clear hPn
          go_wp2_with fail
          all_goals first
            | (exfalso; omega)
            | (go_meet; exact ⟨by rw [HPN.out], rfl⟩)
      case rest =>
        obtain ⟨rfl, rfl⟩ := hcut
        have hPz : ¬ ((P : Int) = 0) := by omega
        have hPz2 : ¬ (P = 0) := by omega
        go_wp2_with fail
        go_loopg [0, 5] 10 (fun k t0 t5 wx => ∃ m e : Nat, t0 = .int .i64 (m : Int) ∧ t5 = .int .i64 (e : Int) ∧ 1 ≤ m ∧ m ≤ 1000 ∧ e ≤ 10 ∧ Hid (m < 2 ^ k) ∧ Hid (e + k = 10) ∧ Hid (dvF P k m e = (M, E)) ∧ Hid (St s wx))
        case atStart => exact ⟨n, 0, rfl, rfl, hn0, hn1, by omega, Lib.hid (by omega), Lib.hid rfl, DV, hM⟩
        case round =>
          clear DV hM
          obtain ⟨m, e, rfl, rfl, hm0, hm1, he10, HM2, HE10, HDV, hM⟩ := hrel
          obtain ⟨r, hr⟩ : ∃ r, m % P = r := ⟨_, rfl⟩
          obtain ⟨q, hq⟩ : ∃ q, m / P = q := ⟨_, rfl⟩
          have T1 : Hid (Int.tmod (m : Int) (P : Int) = (r : Int)) := Lib.hid (by rw [← hr, Int.natCast_emod]; exact Int.tmod_eq_emod_of_nonneg (by omega))
          have T2 : Hid (Int.tdiv (m : Int) (P : Int) = (q : Int)) := Lib.hid (by rw [← hq, Int.natCast_ediv]; exact Int.tdiv_eq_ediv_of_nonneg (by omega))
          have hrb : r ≤ 1001 := by rw [← hr]; exact Nat.le_trans (Nat.mod_le _ _) (by omega)
          have hqb : q ≤ 1000 := by rw [← hq]; exact Nat.le_trans (Nat.div_le_self _ _) hm1
          have Y1 := Lib.hid (w64n (n := (r : Int)) (by omega))
          have Y2 := Lib.hid (w64n (n := (q : Int)) (by omega))
          have HRR := Lib.hid hr
          have HQQ := Lib.hid hq
          clear hr hq
          by_cases hr0 : r = 0
          · subst hr0
            obtain ⟨g2, hgk2, d1, d2, d3⟩ := dvF_go (e := e) hPb.1 hm0 HM2.out HRR.out
            rw [HQQ.out] at d1 d2 d3
            have HV := Lib.hid (d1.symm.trans HDV.out)
            have HD2 := Lib.hid d2
            have HD3 := Lib.hid d3
            have YE := Lib.hid (inc_wrap (i := e) (n := 100) (by omega) (by omega))
            have HG2 := Lib.hid hgk2
            clear d1 d2 d3 hgk2
            have t1 := T1.out
            have t2 := T2.out
            obtain ⟨y1, y2⟩ := Y1.out
            obtain ⟨y3, y4⟩ := Y2.out
            obtain ⟨y5, y6⟩ := YE.out
            go_wp2_with fail
            clear t1 t2 y1 y2 y3 y4 y5 y6
            go_roundg g2
            case measure => have := HG2.out; omega
            case rel => exact ⟨q, e + 1, rfl, rfl, HD2.out, hqb, by have := HE10.out; have := HG2.out; omega, HD3, Lib.hid (by have := HE10.out; have := HG2.out; omega), HV, hM⟩
          · have hre : ((r : Int) == 0) = false := by simp; omega
            have hdv2 := HDV.out
            rw [dvF_end (by rw [HRR.out]; exact hr0)] at hdv2
            obtain ⟨hmM, heE⟩ := Prod.mk.inj hdv2
            subst hmM
            subst heE
            clear hdv2 hr0
            have YP := Lib.hid (inc_wrap (i := P) (n := 2000) (by omega) (by omega))
            by_cases he0 : e = 0
            · subst he0
              have hn3 : decide ((0 : Int) < ((0 : Nat) : Int)) = false := by simp
              have fo := FO.out
              have fx := FX.out
              rw [if_neg (by omega), List.nil_append] at fo fx
              have FO2 := Lib.hid fo
              have FX2 := Lib.hid fx
              clear fo fx
              have t1 := T1.out
              obtain ⟨y1, y2⟩ := Y1.out
              obtain ⟨y5, y6⟩ := YP.out
              go_wp2_with fail
              clear t1 y1 y2 y5 y6
              go_roundg g1
              case measure => omega
              case rel => exact ⟨m, P + 1, s, rfl, rfl, HF2, FO2, FX2, hM⟩
            · have hn3 : (0 : Int) < (e : Int) := by omega
              have hn4 : 0 < e := by omega
              have fo := FO.out
              have fx := FX.out
              rw [if_pos hn4] at fo fx
              have FO1 := Lib.hid (show ok s P e from fo.1)
              have FO2 := Lib.hid (show okS ok step (faL g1 m (P + 1)) (step s P e) from fo.2)
              have FX2 := Lib.hid (show foldS step (faL g1 m (P + 1)) (step s P e) = R from fx)
              have CL := Lib.hid (fun u hu => HCL.out s P e u hPb.1 hPb.2 hn4 he10 FO1.out hu)
              clear fo fx
              have t1 := T1.out
              obtain ⟨y1, y2⟩ := Y1.out
              obtain ⟨y5, y6⟩ := YP.out
              go_wp2_with (go_at_call 100; (with_reducible refine (CL.out _ hM.out).mono ?_); (rintro x w3 ⟨rfl, hM3⟩; have HM3 := Lib.hid hM3; clear hM3))
              clear t1 y1 y2 y5 y6
              go_roundg g1
              case measure => omega
              case rel => exact ⟨m, P + 1, step s P e, rfl, rfl, HF2, FO2, FX2, HM3⟩
    · have hnl : ¬ ((1 : Int) < (n : Int)) := by omega
      have hn3 : n = 1 := by omega
      have HE : Hid (s = R) := Lib.hid (by
        have h3 := hx.out
        rw [faL_one _ _ hlt] at h3
        exact h3)
      clear hlt
      go_wp2_with fail
      (try simp only [Exit.inBlock, Exit.then])
      first
        | (refine bodyPost_end (results_none rfl _ _ _) rfl ?_; exact ⟨rfl, by rw [← HE.out]; exact hM.out⟩)
        | (refine bodyPost_ret (v := .tuple #[]) (results_none rfl _ _ _) rfl ?_; exact ⟨rfl, by rw [← HE.out]; exact hM.out⟩)
set_option maxRecDepth 20000 in
set_option maxHeartbeats 8000000 in
theorem factorsD {σ : Type} (St : σ → World → Prop) (ok : σ → Nat → Nat → Prop) (step : σ → Nat → Nat → σ) (c1 : Value)
    (CL : ∀ (s : σ) (p e : Nat) (u : World), 2 ≤ p → p ≤ 1001 → 1 ≤ e → e ≤ 10 → ok s p e → St s u → Calls Tryz.prog 29 #[.int .i64 (p : Int), .int .i64 (e : Int), c1] u fun x w' => x = .returned (.tuple #[]) ∧ St (step s p e) w')
    (N : Nat) (h1 : 1 ≤ N) (h2 : N ≤ 1000) (s0 : σ) (hok : okS ok step (faL 33 N 2) s0) (w1 : World) (hM1 : St s0 w1) :
    Calls Tryz.prog 28 #[.int .i64 (N : Int), .func (.func 29) #[] #[c1]] w1 fun x w' => x = .returned (.tuple #[]) ∧ St (foldS step (faL 33 N 2) s0) w' := by
  obtain ⟨R, hR⟩ : ∃ R, foldS step (faL 33 N 2) s0 = R := ⟨_, rfl⟩
  rw [hR]
  have HR := Lib.hid hR
  have HOK := Lib.hid hok
  have HM1 := Lib.hid hM1
  have HCL := Lib.hid CL
  have HF := Lib.hid (FaH.start h1 h2)
  clear hR hok hM1 CL
  go_enter Tryz.func28, Tryz.ntmps28
  go_wp2_with fail
  go_loopg [0, 4] 33 (fun k t0 t4 wr => ∃ (n p : Nat) (s : σ), t0 = .int .i64 (n : Int) ∧ t4 = .int .i64 (p : Int) ∧ Hid (FaH k n p) ∧ Hid (okS ok step (faL k n p) s) ∧ Hid (foldS step (faL k n p) s = R) ∧ Hid (St s wr))
  case atStart => exact ⟨N, 2, s0, rfl, rfl, HF, HOK, HR, HM1⟩
  case round =>
    clear HR HOK HM1 HF
    obtain ⟨n, p, s, rfl, rfl, HF, hok, hx, hM⟩ := hrel
    have hn0 : 1 ≤ n := HF.out.1
    have hn1 : n ≤ 1000 := HF.out.2.1
    have hp0 : 2 ≤ p := HF.out.2.2.1
    have hp1 : p ≤ 1001 := HF.out.2.2.2.1
    by_cases hlt : 1 < n
    · obtain ⟨g1, hgk, hF2, hE10, hL⟩ := HF.out.next hlt
      have hok2 := hok.out
      have hx2 := hx.out
      rw [hL] at hok2 hx2
      obtain ⟨P, hP⟩ : ∃ P, faP n p = P := ⟨_, rfl⟩
      have hPb := faP_bd hlt hn1 hp0 hp1
      rw [hP] at hPb hF2 hE10 hok2 hx2
      obtain ⟨M, E, hME⟩ : ∃ M E, dvF P 10 n 0 = (M, E) := ⟨_, _, rfl⟩
      rw [hME] at hF2 hE10 hok2 hx2
      simp only at hF2 hE10 hok2 hx2
      have DV := Lib.hid hME
      have HF2 := Lib.hid hF2
      have FO := Lib.hid hok2
      have FX := Lib.hid hx2
      have hltI : (1 : Int) < (n : Int) := by omega
      obtain ⟨S, hS⟩ : ∃ S : Nat, p * p = S := ⟨_, rfl⟩
      have hSb : S ≤ 1001 * 1001 := by rw [← hS]; exact Nat.mul_le_mul hp1 hp1
      have YS : Hid (IntKind.i64.wrap ((p : Int) * (p : Int)) = (S : Int) ∧ wrap64 ((p : Int) * (p : Int)) = (S : Int)) := Lib.hid (by rw [show (p : Int) * (p : Int) = (S : Int) by rw [← hS]; simp]; exact w64n (by omega))
      have hP2 := Lib.hid hP
      have hcase : (n < S ∧ P = n) ∨ (¬ n < S ∧ P = p) := by
        have h3 := hP
        unfold faP at h3
        rw [hS] at h3
        by_cases hb : n < S
        · rw [if_pos hb] at h3; exact .inl ⟨hb, h3.symm⟩
        · rw [if_neg hb] at h3; exact .inr ⟨hb, h3.symm⟩
      have HCASE := Lib.hid hcase
      clear hcase
      clear hok hx hok2 hx2 hME hL hF2 hS hP
      obtain ⟨e1, e2⟩ := YS.out
      go_upto_if 14 with fail
      clear e1 e2 hltI
      go_cut [4] (fun t4 wc => t4 = .int .i64 (P : Int) ∧ wr = wc)
      case first =>
        rcases HCASE.out with ⟨hc, hPn⟩ | ⟨hc, hPn⟩
        · have HPN := Lib.hid hPn
          clear hPn
          go_wp2_with fail
          all_goals first
            | (exfalso; omega)
            | (go_meet; exact ⟨by rw [HPN.out], rfl⟩)
        · have HPN := Lib.hid hPn
          clear hPn
          go_wp2_with fail
          all_goals first
            | (exfalso; omega)
            | (go_meet; exact ⟨by rw [HPN.out], rfl⟩)
      case rest =>
        obtain ⟨rfl, rfl⟩ := hcut
        have hPz : ¬ ((P : Int) = 0) := by omega
        have hPz2 : ¬ (P = 0) := by omega
        go_wp2_with fail
        go_loopg [0, 5] 10 (fun k t0 t5 wx => ∃ m e : Nat, t0 = .int .i64 (m : Int) ∧ t5 = .int .i64 (e : Int) ∧ 1 ≤ m ∧ m ≤ 1000 ∧ e ≤ 10 ∧ Hid (m < 2 ^ k) ∧ Hid (e + k = 10) ∧ Hid (dvF P k m e = (M, E)) ∧ Hid (St s wx))
        case atStart => exact ⟨n, 0, rfl, rfl, hn0, hn1, by omega, Lib.hid (by omega), Lib.hid rfl, DV, hM⟩
        case round =>
          clear DV hM
          obtain ⟨m, e, rfl, rfl, hm0, hm1, he10, HM2, HE10, HDV, hM⟩ := hrel
          obtain ⟨r, hr⟩ : ∃ r, m % P = r := ⟨_, rfl⟩
          obtain ⟨q, hq⟩ : ∃ q, m / P = q := ⟨_, rfl⟩
          have T1 : Hid (Int.tmod (m : Int) (P : Int) = (r : Int)) := Lib.hid (by rw [← hr, Int.natCast_emod]; exact Int.tmod_eq_emod_of_nonneg (by omega))
          have T2 : Hid (Int.tdiv (m : Int) (P : Int) = (q : Int)) := Lib.hid (by rw [← hq, Int.natCast_ediv]; exact Int.tdiv_eq_ediv_of_nonneg (by omega))
          have hrb : r ≤ 1001 := by rw [← hr]; exact Nat.le_trans (Nat.mod_le _ _) (by omega)
          have hqb : q ≤ 1000 := by rw [← hq]; exact Nat.le_trans (Nat.div_le_self _ _) hm1
          have Y1 := Lib.hid (w64n (n := (r : Int)) (by omega))
          have Y2 := Lib.hid (w64n (n := (q : Int)) (by omega))
          have HRR := Lib.hid hr
          have HQQ := Lib.hid hq
          clear hr hq
          by_cases hr0 : r = 0
          · subst hr0
            obtain ⟨g2, hgk2, d1, d2, d3⟩ := dvF_go (e := e) hPb.1 hm0 HM2.out HRR.out
            rw [HQQ.out] at d1 d2 d3
            have HV := Lib.hid (d1.symm.trans HDV.out)
            have HD2 := Lib.hid d2
            have HD3 := Lib.hid d3
            have YE := Lib.hid (inc_wrap (i := e) (n := 100) (by omega) (by omega))
            have HG2 := Lib.hid hgk2
            clear d1 d2 d3 hgk2
            have t1 := T1.out
            have t2 := T2.out
            obtain ⟨y1, y2⟩ := Y1.out
            obtain ⟨y3, y4⟩ := Y2.out
            obtain ⟨y5, y6⟩ := YE.out
            go_wp2_with fail
            clear t1 t2 y1 y2 y3 y4 y5 y6
            go_roundg g2
            case measure => have := HG2.out; omega
            case rel => exact ⟨q, e + 1, rfl, rfl, HD2.out, hqb, by have := HE10.out; have := HG2.out; omega, HD3, Lib.hid (by have := HE10.out; have := HG2.out; omega), HV, hM⟩
          · have hre : ((r : Int) == 0) = false := by simp; omega
            have hdv2 := HDV.out
            rw [dvF_end (by rw [HRR.out]; exact hr0)] at hdv2
            obtain ⟨hmM, heE⟩ := Prod.mk.inj hdv2
            subst hmM
            subst heE
            clear hdv2 hr0
            have YP := Lib.hid (inc_wrap (i := P) (n := 2000) (by omega) (by omega))
            by_cases he0 : e = 0
            · subst he0
              have hn3 : decide ((0 : Int) < ((0 : Nat) : Int)) = false := by simp
              have fo := FO.out
              have fx := FX.out
              rw [if_neg (by omega), List.nil_append] at fo fx
              have FO2 := Lib.hid fo
              have FX2 := Lib.hid fx
              clear fo fx
              have t1 := T1.out
              obtain ⟨y1, y2⟩ := Y1.out
              obtain ⟨y5, y6⟩ := YP.out
              go_wp2_with fail
              clear t1 y1 y2 y5 y6
              go_roundg g1
              case measure => omega
              case rel => exact ⟨m, P + 1, s, rfl, rfl, HF2, FO2, FX2, hM⟩
            · have hn3 : (0 : Int) < (e : Int) := by omega
              have hn4 : 0 < e := by omega
              have fo := FO.out
              have fx := FX.out
              rw [if_pos hn4] at fo fx
              have FO1 := Lib.hid (show ok s P e from fo.1)
              have FO2 := Lib.hid (show okS ok step (faL g1 m (P + 1)) (step s P e) from fo.2)
              have FX2 := Lib.hid (show foldS step (faL g1 m (P + 1)) (step s P e) = R from fx)
              have CL := Lib.hid (fun u hu => HCL.out s P e u hPb.1 hPb.2 hn4 he10 FO1.out hu)
              clear fo fx
              have t1 := T1.out
              obtain ⟨y1, y2⟩ := Y1.out
              obtain ⟨y5, y6⟩ := YP.out
              go_wp2_with (go_at_call 29; (with_reducible refine (CL.out _ hM.out).mono ?_); (rintro x w3 ⟨rfl, hM3⟩; have HM3 := Lib.hid hM3; clear hM3))
              clear t1 y1 y2 y5 y6
              go_roundg g1
              case measure => omega
              case rel => exact ⟨m, P + 1, step s P e, rfl, rfl, HF2, FO2, FX2, HM3⟩
    · have hnl : ¬ ((1 : Int) < (n : Int)) := by omega
      have hn3 : n = 1 := by omega
      have HE : Hid (s = R) := Lib.hid (by
        have h3 := hx.out
        rw [faL_one _ _ hlt] at h3
        exact h3)
      clear hlt
      go_wp2_with fail
      (try simp only [Exit.inBlock, Exit.then])
      first
        | (refine bodyPost_end (results_none rfl _ _ _) rfl ?_; exact ⟨rfl, by rw [← HE.out]; exact hM.out⟩)
        | (refine bodyPost_ret (v := .tuple #[]) (results_none rfl _ _ _) rfl ?_; exact ⟨rfl, by rw [← HE.out]; exact hM.out⟩)
end Go.Proofs.YtbpkfcohbefphaaGreatDoor
namespace Go.Proofs.YtbpkfcohbefphaaGreatDoor
open Go Go.RowKit
structure RowJ (u : World) (g n cap : Nat) (xs : List Value) : Prop where
  len : xs.length = n
  row : ∃ cur, u.heap[g]? = some (.cells cur 3 (0, 0)) ∧ cur.size = cap ∧ cur.toList.take n = xs ∧ ∀ v, v ∈ cur.toList → ∃ x, v = .int .i64 x
  le : n ≤ cap
  max : cap ≤ maxLen
theorem RowJ.lt {u : World} {g n cap : Nat} {xs : List Value} (h : RowJ u g n cap xs) : g < u.heap.size := by
  obtain ⟨cur, h1, -⟩ := h.row
  exact (Array.getElem?_eq_some_iff.1 h1).1
theorem RowJ.but {X : Nat → Prop} {u u' : World} {g n cap : Nat} {xs : List Value} (h : RowJ u g n cap xs) (hb : But X u u') (hX : ¬ X g) : RowJ u' g n cap xs := by
  obtain ⟨cur, h1, h2⟩ := h.row
  exact ⟨h.len, ⟨cur, (hb.block g h.lt hX).trans h1, h2⟩, h.le, h.max⟩
theorem RowJ.grow {u u' : World} {g n cap : Nat} {xs : List Value} (h : RowJ u g n cap xs) (hg : Grow u u') : RowJ u' g n cap xs := h.but (X := fun _ => False) (hg.but _) (fun h => h)
theorem RowJ.cell {u : World} {g n cap : Nat} {xs : List Value} (h : RowJ u g n cap xs) {i : Nat} {x : Value} (hx : xs[i]? = some x) : u.cell? ⟨g, i, none⟩ = some x := by
  obtain ⟨cur, h1, -, h3, -⟩ := h.row
  rw [cell_of_row u g i cur 3 (0, 0) h1]
  rw [← h3, List.getElem?_take] at hx
  split at hx
  · simpa using hx
  · cases hx
section
variable {P : Program}
theorem run_append_j {ty t : TypeId} {i : TypeInfo} (ht : P.underlying t = some (.slice 3)) (hi : P.info? 3 = some i) (hz : i.zero = some (.int .i64 0)) (hsize : i.size = 1) (hby : i.bytes = 8)
    (w : World) (g n cap : Nat) (xs : List Value) (hrow : RowJ w g n cap xs) (ad : Addr) (c : Nat) (x : Int) (hc : w.cell? ad = some (.int .i64 x)) (hl : n + 1 ≤ 1000000) :
    ∃ g' cap' w', (Builtin.append_ #[t, t] ty #[.slice (some ⟨g, 0, none⟩) n cap, .slice (some ad) 1 c]).run P w = .ok (.slice (some ⟨g', 0, none⟩) (n + 1) cap') w' ∧ RowJ w' g' (n + 1) cap' (xs ++ [.int .i64 x]) ∧ (g' = g ∨ w.heap.size ≤ g') ∧ But (fun b => b = g) w w' ∧ (∀ o, o < n → w'.cell? ⟨g, o, none⟩ = w.cell? ⟨g, o, none⟩) := by
  have hnews : ∀ j u, [Value.int .i64 x][j]? = some u → w.cell? (ad.add j) = some u := by
    intro j u hu
    match j, hu with
    | 0, hu =>
      simp only [List.getElem?_cons_zero, Option.some.injEq] at hu
      subst hu
      simpa [Addr.add] using hc
  obtain ⟨hxs, ⟨cur, hg, hcs, htk, hall⟩, hnc, hcm⟩ := id hrow
  have hin : g < w.heap.size := hrow.lt
  by_cases hroom : n + 1 ≤ cap
  · have hr := run_append_room (P := P) w t ty 3 i ht hi g n cap cur hg ad 1 c [.int .i64 x] (by rw [hsize]; rfl) hnews (by intro u hu; simp at hu; subst hu; rfl) hroom (by rw [hsize, hcs]; simpa using hroom)
    have hnu : ∀ o y, w.cell? ⟨g, o, none⟩ ≠ some (.int .u32 y) := by
      intro o y hc
      rw [cell_of_row w g o cur 3 (0, 0) hg] at hc
      have hmem : Value.int .u32 y ∈ cur.toList := by
        obtain ⟨h1, h2⟩ := Array.getElem?_eq_some_iff.1 hc
        rw [← h2]; simp
      obtain ⟨z, hz'⟩ := hall _ hmem
      cases hz'
    have hrow' : RowJ _ g (n + 1) cap (xs ++ [.int .i64 x]) := ⟨by simp [hxs], ⟨_, setRow_heap w g cur (cur.toList.take (n * i.size) ++ [Value.int .i64 x] ++ cur.toList.drop (n * i.size + [Value.int .i64 x].length)).toArray 3 _ hg, by simp [hsize]; omega, by
        rw [hsize, Nat.mul_one]
        have h1 : (cur.toList.take n ++ [Value.int .i64 x]).length = n + 1 := by simp; omega
        rw [show (cur.toList.take n ++ [Value.int .i64 x] ++ cur.toList.drop (n + [Value.int .i64 x].length)).toArray.toList = (cur.toList.take n ++ [Value.int .i64 x]) ++ cur.toList.drop (n + [Value.int .i64 x].length) by simp, ← h1, List.take_left, htk], by
        intro u hu
        simp only [List.mem_append] at hu
        rcases hu with (hu | hu) | hu
        · exact hall u (List.mem_of_mem_take hu)
        · simp at hu; exact ⟨x, hu⟩
        · exact hall u (List.mem_of_mem_drop hu)⟩, hroom, hcm⟩
    refine ⟨g, cap, _, hr, hrow', .inl rfl, ⟨rfl, rfl, rfl, by simp [World.setRow], fun b _ hb' => setRow_other w g b _ hb', fun b o hb' => ?_, fun b o y hb' hc => ?_⟩, fun o ho => ?_⟩
    · by_cases hbg' : b = g
      · subst hbg'
        rw [frozen_plain (setRow_heap w b cur _ 3 _ hg) o, frozen_plain hg o]
      · unfold World.frozen?
        rw [setRow_other w g b _ hbg']
    · have hne : b ≠ g := fun e => by subst e; exact hnu o y hc
      rw [World.cell?_of_block (setRow_other w g b _ hne)]
      exact hc
    · obtain ⟨u, hu⟩ : ∃ u, xs[o]? = some u := ⟨_, List.getElem?_eq_getElem (by omega)⟩
      have h1 : (xs ++ [Value.int .i64 x])[o]? = some u := by rw [List.getElem?_append_left (by omega)]; exact hu
      exact (hrow'.cell h1).trans (hrow.cell hu).symm
  · have holds : ∀ j u, xs[j]? = some u → w.cell? ((⟨g, 0, none⟩ : Addr).add j) = some u := fun j u hu => by
      rw [Addr.add_lit, Nat.zero_add]; exact hrow.cell hu
    have hr := run_append_grow (P := P) w t ty 3 i (.int .i64 0) ht hi hz ⟨g, 0, none⟩ n cap xs (by rw [hsize, Nat.mul_one]; exact hxs) holds ad 1 c [.int .i64 x] (by rw [hsize]; rfl) hnews (by omega) (by omega) (growslice_fits (by omega) (by rw [hby]; omega))
    refine ⟨w.heap.size, _, _, hr, ⟨by simp [hxs], ⟨_, heap_alloc_new w.drew _, ?_, ?_, ?_⟩, grownCap_ge _ _ _ _, grownCap_le_maxLen _ _ _ _ (by unfold maxLen; omega)⟩, .inr (Nat.le_refl _), ((Grow.refl w).drew.alloc _).but _, fun o ho => ((Grow.refl w).drew.alloc _).cells _ _ hin⟩
    · have := grownCap_ge w (n + 1) cap 3
      simp [size_zeroCells, Value.cells, hxs]
      omega
    · have h1 : (xs ++ [Value.int .i64 x]).length = n + 1 := by simp [hxs]
      simp only [Array.toList_append]
      rw [← h1, List.take_left]
    · intro u hu
      simp only [Array.toList_append, List.mem_append] at hu
      rcases hu with (hu | hu) | hu
      · have : u ∈ xs := by simpa using hu
        rw [← htk] at this
        exact hall u (List.mem_of_mem_take this)
      · simp at hu; exact ⟨x, hu⟩
      · exact zero_ints _ u hu
theorem wpList_append_j (w : World) {ops : Array Oper} {rest : List Oper} {o : Oper} {a : Act} {Q : Exit → Act → World → Prop} (hgd : o.guard = none) (s x : Operand) (t : TypeId)
    (ho : o.op = .call { callee := .builtin .append, args := #[s, x], argTypes := #[t, t] }) (i : TypeInfo) (ht : P.underlying t = some (.slice 3)) (hi : P.info? 3 = some i) (hz : i.zero = some (.int .i64 0)) (hsize : i.size = 1) (hby : i.bytes = 8)
    (g n cap : Nat) (xs : List Value) (hs : a.eval s = .slice (some ⟨g, 0, none⟩) n cap) (hrow : RowJ w g n cap xs) (ad : Addr) (c : Nat) (z : Int) (hx : a.eval x = .slice (some ad) 1 c) (hc : w.cell? ad = some (.int .i64 z)) (hl : n + 1 ≤ 1000000)
    (h : ∀ g' cap' w', RowJ w' g' (n + 1) cap' (xs ++ [.int .i64 z]) → (g' = g ∨ w.heap.size ≤ g') → But (fun b => b = g) w w' → (∀ o, o < n → w'.cell? ⟨g, o, none⟩ = w.cell? ⟨g, o, none⟩) → wpList P ops Q rest (a.put o.dst (.slice (some ⟨g', 0, none⟩) (n + 1) cap')) w') : wpList P ops Q (o :: rest) a w := by
  refine wpList_plain hgd fun K hK' => ?_
  obtain ⟨g', cap', w', hrun, r1, r2, r3, r4⟩ := run_append_j (P := P) (ty := o.type) ht hi hz hsize hby w g n cap xs hrow ad c z hc hl
  unfold Oper.wp
  simp [execOp, ho, resolve, invoke, builtin, hs, hx, hrun, Result.andThen]
  exact hK' _ _ (h g' cap' w' r1 r2 r3 r4)
end
/-- The divisors' list behind one pair. -/
def dvR (s : List Nat) (p i : Nat) : List Nat := s ++ (List.range i).flatMap (fun k => s.map (fun d => d * p ^ (k + 1)))
def dvS (s : List Nat) (p e : Nat) : List Nat := dvR s p e
theorem dvR_len (s : List Nat) (p : Nat) : ∀ i, (dvR s p i).length = s.length * (i + 1)
  | 0 => by simp [dvR]
  | i + 1 => by
    have h := dvR_len s p i
    unfold dvR at h ⊢
    rw [List.range_succ, List.flatMap_append, ← List.append_assoc, List.length_append, h]
    simp [Nat.mul_add]
theorem dvR_succ (s : List Nat) (p i : Nat) : dvR s p (i + 1) = dvR s p i ++ s.map (fun d => d * p ^ (i + 1)) := by
  unfold dvR
  rw [List.range_succ, List.flatMap_append, ← List.append_assoc]
  simp
theorem dvR_pre (s : List Nat) (p i : Nat) : ∃ l, dvR s p i = s ++ l := ⟨_, rfl⟩
end Go.Proofs.YtbpkfcohbefphaaGreatDoor
namespace Go.Proofs.YtbpkfcohbefphaaGreatDoor
open Go Go.RowKit
def natV (l : List Nat) : List Value := l.map (fun d : Nat => Value.int .i64 (d : Int))
structure DvSt (w0 : World) (b4 : Nat) (s : List Nat) (u : World) : Prop where
  grow : Grow w0 u
  le : w0.heap.size ≤ b4
  lt : b4 < u.heap.size
  free : ∀ o, u.frozen? ⟨b4, o, none⟩ = false
  row : ∃ g cap, u.cell? ⟨b4, 0, none⟩ = some (.slice (some ⟨g, 0, none⟩) s.length cap) ∧ RowJ u g s.length cap (natV s) ∧ g ≠ b4 ∧ w0.heap.size ≤ g
theorem DvSt.go {w0 u u' : World} {b4 : Nat} {s : List Nat} (h : DvSt w0 b4 s u) (hg : Grow u u') : DvSt w0 b4 s u' := by
  obtain ⟨g, cap, h1, h2, h3, h4⟩ := h.row
  exact ⟨h.grow.trans hg, h.le, Nat.lt_of_lt_of_le h.lt hg.size, fun o => (hg.frees _ _ h.lt).trans (h.free o), g, cap, (hg.cells _ _ h.lt).trans h1, h2.grow hg, h3, h4⟩
theorem DvSt.push {w0 u u1 w7 : World} {b4 g cap g' cap' : Nat} {l : List Nat} {x : Nat} (H : DvSt w0 b4 l u) (hg4 : g ≠ b4) (hgw : w0.heap.size ≤ g) (hc : u.cell? ⟨b4, 0, none⟩ = some (.slice (some ⟨g, 0, none⟩) l.length cap)) (h1 : Grow u u1)
    (hr : RowJ w7 g' (l.length + 1) cap' (natV l ++ [.int .i64 (x : Int)])) (hg' : g' = g ∨ u1.heap.size ≤ g') (hb : But (fun b => b = g) u1 w7) :
    w7.cell? ⟨b4, 0, none⟩ = some (.slice (some ⟨g, 0, none⟩) l.length cap) ∧ (∀ o, w7.frozen? ⟨b4, o, none⟩ = false) ∧ b4 < w7.heap.size ∧ DvSt w0 b4 (l ++ [x]) (w7.setCell ⟨b4, 0, none⟩ (.slice (some ⟨g', 0, none⟩) (l.length + 1) cap')) ∧ But (fun b => b = b4) w7 (w7.setCell ⟨b4, 0, none⟩ (.slice (some ⟨g', 0, none⟩) (l.length + 1) cap')) := by
  have hl1 : b4 < u1.heap.size := Nat.lt_of_lt_of_le H.lt h1.size
  have hc7 : w7.cell? ⟨b4, 0, none⟩ = some (.slice (some ⟨g, 0, none⟩) l.length cap) := (hb.cells _ _ hl1 (fun e => hg4 e.symm)).trans ((h1.cells _ _ H.lt).trans hc)
  have hf7 : ∀ o, w7.frozen? ⟨b4, o, none⟩ = false := fun o => (hb.frees _ _ hl1).trans ((h1.frees _ _ H.lt).trans (H.free o))
  have hl7 : b4 < w7.heap.size := Nat.lt_of_lt_of_le hl1 hb.size
  have hg4' : g' ≠ b4 := by rcases hg' with h | h <;> omega
  have hgw' : w0.heap.size ≤ g' := by
    have h2 := H.grow.size
    have h3 := h1.size
    rcases hg' with h | h <;> omega
  have hbs : But (fun b => b = b4) w7 (w7.setCell ⟨b4, 0, none⟩ (.slice (some ⟨g', 0, none⟩) (l.length + 1) cap')) := (But.refl (fun b => b = b4) w7).set _ (.inr rfl) (fun x => by rw [hc7]; simp)
  refine ⟨hc7, hf7, hl7, ⟨?_, H.le, Nat.lt_of_lt_of_le hl7 hbs.size, fun o => (hbs.frees _ _ hl7).trans (hf7 o), g', cap', ?_, ?_, hg4', hgw'⟩, hbs⟩
  · exact ((((H.grow.trans h1).but (fun b => b = g ∨ b = b4)).trans (hb.mono (fun b e => .inl e))).trans (hbs.mono (fun b e => .inr e))).asGrow (fun b e => by
      have := H.le
      rcases e with e | e <;> omega)
  · rw [List.length_append]
    exact World.cell?_setCell_same _ _ _ hc7
  · have h5 := hr.but hbs (fun e => hg4' e)
    have e1 : natV (l ++ [x]) = natV l ++ [.int .i64 (x : Int)] := by simp [natV]
    rw [e1, List.length_append]
    exact h5
def okDv (s : List Nat) (p e : Nat) : Bool := decide (s.length * (e + 1) ≤ 1000) && decide (p ^ e ≤ 1000) && s.all (fun d => decide (d * p ^ e ≤ 1000))
set_option maxRecDepth 20000 in
set_option maxHeartbeats 8000000 in
theorem div1_any (w0 : World) (b4 : Nat) (s : List Nat) (p e : Nat) (hp0 : 2 ≤ p) (hp1 : p ≤ 1001) (_ : 1 ≤ e) (he1 : e ≤ 10) (hok : okDv s p e = true) (u : World) (hS : DvSt w0 b4 s u) :
    Calls Tryz.prog 29 #[.int .i64 (p : Int), .int .i64 (e : Int), .pointer (some ⟨b4, 0, none⟩)] u fun x w' => x = .returned (.tuple #[]) ∧ DvSt w0 b4 (dvS s p e) w' := by
  unfold okDv at hok
  simp only [Bool.and_eq_true, decide_eq_true_eq, List.all_eq_true] at hok
  obtain ⟨⟨hk1, hk2⟩, hk3⟩ := hok
  have hpe : ∀ i, i < e → p ^ (i + 1) ≤ 1000 := fun i hi => Nat.le_trans (Nat.pow_le_pow_right (by omega) hi) hk2
  have hdp : ∀ d, d ∈ s → ∀ i, i < e → d * p ^ (i + 1) ≤ 1000 := fun d hd i hi => Nat.le_trans (Nat.mul_le_mul_left _ (Nat.pow_le_pow_right (by omega) hi)) (hk3 d hd)
  have hlen : ∀ i, i ≤ e → (dvR s p i).length ≤ 1000 := fun i hi => by rw [dvR_len]; exact Nat.le_trans (Nat.mul_le_mul_left _ (by omega)) hk1
  obtain ⟨c, hc⟩ : ∃ c, s.length = c := ⟨_, rfl⟩
  have hcb : c ≤ 1000 := by rw [← hc]; exact Nat.le_trans (Nat.le_mul_of_pos_right _ (by omega)) hk1
  have HPE := Lib.hid hpe
  have HDP := Lib.hid hdp
  have HLEN := Lib.hid hlen
  have HC := Lib.hid hc
  have HS := Lib.hid hS
  obtain ⟨ii, hii, iiz0, iiz1, iiz2⟩ := info_parts infoInt
  obtain ⟨g, cap, hcell, hrow, hg4, hgw⟩ := hS.row
  rw [hc] at hcell hrow
  have hccap := hrow.le
  clear hk1 hk2 hk3 hpe hdp hlen hc hS hrow hg4 hgw
  go_enter Tryz.func29, Tryz.ntmps29
  go_wp2_with fail
  clear hcell hccap
  go_loopg [1, 6] e (fun gk t1 t6 wr => ∃ i e1 pw : Nat, t1 = .int .i64 (e1 : Int) ∧ t6 = .int .i64 (pw : Int) ∧ i ≤ e ∧ Hid (gk = e - i) ∧ Hid (e1 = e - i) ∧ Hid (pw = p ^ (i + 1)) ∧ Hid (DvSt w0 b4 (dvR s p i) wr))
  case atStart => exact ⟨0, e, p, rfl, rfl, Nat.zero_le _, Lib.hid rfl, Lib.hid rfl, Lib.hid (by simp), Lib.hid (by have h := HS.out; simpa [dvR] using h)⟩
  case round =>
    clear HS
    obtain ⟨i, e1, pw, rfl, rfl, hi, HGK, HE1, HPW, HS⟩ := hrel
    by_cases hie : i = e
    · have he0 : e1 = 0 := by have := HE1.out; omega
      subst he0
      have HIE := Lib.hid hie
      clear hie
      have hn3 : decide ((0 : Int) < ((0 : Nat) : Int)) = false := by simp
      go_wp2_with fail
      (try simp only [Exit.inBlock, Exit.then])
      first
        | (refine bodyPost_end (results_none rfl _ _ _) rfl ?_; exact ⟨rfl, by have h := HS.out; rw [HIE.out] at h; exact h⟩)
        | (refine bodyPost_ret (v := .tuple #[]) (results_none rfl _ _ _) rfl ?_; exact ⟨rfl, by have h := HS.out; rw [HIE.out] at h; exact h⟩)
    · have hil : i < e := by omega
      have he0 : 0 < e1 := by have := HE1.out; omega
      have he2 : (0 : Int) < (e1 : Int) := by omega
      have heb : e1 ≤ 10 := by have := HE1.out; omega
      obtain ⟨g, cap, hcell, hrow, hg4, hgw⟩ := HS.out.row
      obtain ⟨L, hL⟩ : ∃ L, (dvR s p i).length = L := ⟨_, rfl⟩
      have hLb : L ≤ 1000 := by rw [← hL]; exact HLEN.out i hi
      have hcL : c ≤ L := by
        rw [← hL, dvR_len, HC.out]; exact Nat.le_mul_of_pos_right _ (by omega)
      rw [hL] at hcell hrow
      have hLcap := hrow.le
      have hccap : c ≤ cap := by omega
      have hcapb := hrow.max
      have hcap2 : (cap : Int) ≤ 9223372036854775807 := by unfold maxLen at hcapb; omega
      have hc1 : (0 : Int) ≤ (c : Int) := by omega
      have hc2 : (c : Int) ≤ (cap : Int) := by omega
      have HCELLS : Hid (∀ (o x : Nat), s[o]? = some x → wr.cell? ⟨g, o, none⟩ = some (.int .i64 (x : Int))) := Lib.hid (fun o x hx => hrow.cell (by
        obtain ⟨l, hl⟩ := dvR_pre s p i
        rw [hl]
        unfold natV
        rw [List.getElem?_map, List.getElem?_append_left (by have := (List.getElem?_eq_some_iff.1 hx).1; exact this), hx]; rfl))
      have hglt := hrow.lt
      have HG4 := Lib.hid hg4
      have HL := Lib.hid hL
      clear hrow hL hie hg4
      go_wp2_with fail
      clear hcell hLcap hccap hcap2 hc1 hc2
      go_loopg [23] c (fun gk2 t23 wx => ∃ j : Nat, t23 = .int .i64 (j : Int) ∧ j ≤ c ∧ Hid (gk2 = c - j) ∧ Hid (DvSt w0 b4 (dvR s p i ++ (s.take j).map (fun d => d * pw)) wx) ∧ Hid (∀ (o x : Nat), s[o]? = some x → wx.cell? ⟨g, o, none⟩ = some (.int .i64 (x : Int))))
      case atStart => exact ⟨0, rfl, Nat.zero_le _, Lib.hid rfl, Lib.hid (by have h := HS.out; simpa using h), HCELLS⟩
      case round =>
        clear HS HCELLS
        obtain ⟨j, rfl, hj, HGK2, HS, HCELLS⟩ := hrel
        by_cases hjc : j = c
        · have y1 : decide ((j : Int) < (c : Int)) = false := by simp; omega
          have y2 : ¬ (j < c) := by omega
          have HD : Hid (DvSt w0 b4 (dvR s p (i + 1)) wr) := Lib.hid (by
            have h := HS.out
            rw [hjc, List.take_of_length_le (by rw [HC.out]; exact Nat.le_refl _), HPW.out, ← dvR_succ] at h
            exact h)
          obtain ⟨e2, he2'⟩ : ∃ e2, e1 - 1 = e2 := ⟨_, rfl⟩
          obtain ⟨pw2, hpw2⟩ : ∃ q, pw * p = q := ⟨_, rfl⟩
          have hpwb : pw ≤ 1000 := by have h := HPE.out i hil; have := HPW.out; omega
          have hpw2b : pw2 ≤ 1000 * 1001 := by rw [← hpw2]; exact Nat.mul_le_mul hpwb hp1
          have E1 : Hid (IntKind.i64.wrap ((e1 : Int) - 1) = (e2 : Int) ∧ wrap64 ((e1 : Int) - 1) = (e2 : Int)) := Lib.hid (by rw [show (e1 : Int) - 1 = (e2 : Int) by omega]; exact w64n (by omega))
          have E2 : Hid (IntKind.i64.wrap ((pw : Int) * (p : Int)) = (pw2 : Int) ∧ wrap64 ((pw : Int) * (p : Int)) = (pw2 : Int)) := Lib.hid (by rw [show (pw : Int) * (p : Int) = (pw2 : Int) by rw [← hpw2]; simp]; exact w64n (by omega))
          have HE2 : Hid (e2 = e - (i + 1)) := Lib.hid (by have := HE1.out; omega)
          have HPW2 : Hid (pw2 = p ^ (i + 1 + 1)) := Lib.hid (by rw [← hpw2, HPW.out]; exact (Nat.pow_succ p (i + 1)).symm)
          clear hjc he2' hpw2
          obtain ⟨x1, x2⟩ := E1.out
          obtain ⟨x3, x4⟩ := E2.out
          go_wp2_with fail
          clear x1 x2 x3 x4
          go_roundg (e - (i + 1))
          case measure => have := HGK.out; omega
          case rel => exact ⟨i + 1, e2, pw2, rfl, rfl, hil, Lib.hid rfl, HE2, HPW2, HD⟩
        · have hjl : j < c := by omega
          have y0 : (0 : Int) ≤ (j : Int) := by omega
          have y1 : (j : Int) < (c : Int) := by omega
          obtain ⟨d, hd⟩ : ∃ d, s[j]? = some d := ⟨_, List.getElem?_eq_getElem (by rw [HC.out]; exact hjl)⟩
          have hdc := HCELLS.out j d hd
          have hdm : d ∈ s := List.mem_of_getElem? hd
          obtain ⟨z, hz⟩ : ∃ z, d * pw = z := ⟨_, rfl⟩
          have hzb : z ≤ 1000 := by have h := HDP.out d hdm i hil; rw [← HPW.out] at h; omega
          have E1 : Hid (IntKind.i64.wrap ((d : Int) * (pw : Int)) = (z : Int) ∧ wrap64 ((d : Int) * (pw : Int)) = (z : Int)) := Lib.hid (by rw [show (d : Int) * (pw : Int) = (z : Int) by rw [← hz]; simp]; exact w64n (by omega))
          have YI := Lib.hid (inc_wrap (i := j) (n := 2000) (by omega) (by omega))
          obtain ⟨l, hl⟩ : ∃ l, dvR s p i ++ (s.take j).map (fun d => d * pw) = l := ⟨_, rfl⟩
          have hlb : l.length + 1 ≤ 1000000 := by
            rw [← hl, List.length_append, List.length_map, List.length_take]
            have := HL.out
            have := HC.out
            omega
          have hlc : c ≤ l.length := by
            rw [← hl, List.length_append]
            have := HL.out
            omega
          have HLL : Hid (l ++ [z] = dvR s p i ++ (s.take (j + 1)).map (fun d => d * pw)) := Lib.hid (by
            rw [← hl, List.take_add_one, hd, List.map_append, ← hz, List.append_assoc]; rfl)
          rw [hl] at HS
          obtain ⟨g5, cap5, hcell, hrow, hg5, hgw5⟩ := HS.out.row
          have HROW := Lib.hid hrow
          have hg5l := hrow.lt
          have HCL5 := Lib.hid hcell
          have HG5 := Lib.hid hg5
          have hgl2 : g < wr.heap.size := by
            rcases Nat.lt_or_ge g wr.heap.size with h | h
            · exact h
            · exfalso
              unfold World.cell? at hdc
              simp only [Option.isSome_none, Bool.false_eq_true, if_false] at hdc
              rw [Array.getElem?_eq_none h] at hdc
              cases hdc
          have jii := hii
          clear hd hz hl hrow hg5
          obtain ⟨x1, x2⟩ := E1.out
          go_wp2_with (at_builtin; go_loud (refine wpList_append_j _ rfl _ _ 33 rfl ii Tryz.underlying33 hii iiz0 iiz1 iiz2 g5 l.length cap5 (natV l) rfl (HROW.out.grow (by (repeat (first | with_reducible exact Grow.refl _ | with_reducible refine Grow.alloc ?_ _ | with_reducible refine Grow.drew ?_ | with_reducible refine Grow.drewN ?_ _ | (with_reducible refine Grow.setCell ?_ ?hp _; (case hp => (simp; try omega))) | with_reducible refine Grow.trans ?_ (by assumption))))) ⟨wr.heap.size, 0, none⟩ 1 (z : Int) rfl (by go_simp) hlb ?_))
          intro g7 cap7 w7 hrow7 hg7 hb7 hk7
          obtain ⟨p1, p2, p3, p4, p5⟩ := HS.out.push HG5.out hgw5 HCL5.out (show Grow wr (wr.alloc (.cells #[.int .i64 (z : Int)] 3)) by (repeat (first | with_reducible exact Grow.refl _ | with_reducible refine Grow.alloc ?_ _ | with_reducible refine Grow.drew ?_ | with_reducible refine Grow.drewN ?_ _ | (with_reducible refine Grow.setCell ?_ ?hp _; (case hp => (simp; try omega))) | with_reducible refine Grow.trans ?_ (by assumption)))) hrow7 (hg7.imp id (fun h => by simp; exact h)) hb7
          rw [HLL.out] at p4
          have HD2 := Lib.hid p4
          have HCELL2 : Hid (∀ (o x : Nat), s[o]? = some x → (w7.setCell ⟨b4, 0, none⟩ (.slice (some ⟨g7, 0, none⟩) (l.length + 1) cap7)).cell? ⟨g, o, none⟩ = some (.int .i64 (x : Int))) := Lib.hid (fun o x hx => by
            have hoc : o < c := by rw [← HC.out]; exact (List.getElem?_eq_some_iff.1 hx).1
            have q1 := HCELLS.out o x hx
            have ga : Grow wr (wr.alloc (.cells #[.int .i64 (z : Int)] 3)) := by (repeat (first | with_reducible exact Grow.refl _ | with_reducible refine Grow.alloc ?_ _ | with_reducible refine Grow.drew ?_ | with_reducible refine Grow.drewN ?_ _ | (with_reducible refine Grow.setCell ?_ ?hp _; (case hp => (simp; try omega))) | with_reducible refine Grow.trans ?_ (by assumption)))
            have q2 := (ga.cells g o hgl2).trans q1
            have q3 : w7.cell? ⟨g, o, none⟩ = some (.int .i64 (x : Int)) := by
              by_cases hgg : g = g5
              · rw [hgg] at q1 ⊢
                exact (hk7 o (by omega)).trans q1
              · exact (hb7.cells g o (Nat.lt_of_lt_of_le hgl2 ga.size) hgg).trans q2
            exact (p5.cells g o (by
              have h8 : w7.cell? ⟨g, o, none⟩ = some (.int .i64 (x : Int)) := q3
              rcases Nat.lt_or_ge g w7.heap.size with h | h
              · exact h
              · exfalso
                unfold World.cell? at h8
                simp only [Option.isSome_none, Bool.false_eq_true, if_false] at h8
                rw [Array.getElem?_eq_none h] at h8
                cases h8) HG4.out).trans q3)
          clear hrow7 hg7 hb7 hk7 p4 p5 x1 x2 hcell
          obtain ⟨x1, x2⟩ := YI.out
          go_wp2_with fail
          clear x1 x2
          go_roundg (c - (j + 1))
          case measure => have := HGK2.out; omega
          case rel => exact ⟨j + 1, rfl, hjl, Lib.hid rfl, HD2, HCELL2⟩
end Go.Proofs.YtbpkfcohbefphaaGreatDoor
namespace Go.Proofs.YtbpkfcohbefphaaGreatDoor
open Go Go.RowKit
theorem inRangeQ (n : Nat) (h1 : 1 ≤ n) (h2 : n ≤ 1000) (w : World) : Calls Tryz.prog 27 #[.int .i64 (n : Int)] w fun e w' => e = .returned (.bool true) ∧ w = w' := by
  have y1 : decide ((n : Int) ≥ 1) = true := by simp; omega
  have y2 : decide ((n : Int) ≤ 2147483647) = true := by simp; omega
  have y3 : decide (1 ≤ n) = true := by simp; omega
  go_enter Tryz.func27, Tryz.ntmps27
  go_wp2_with fail
  go_ret
  exact ⟨rfl, rfl⟩
set_option maxRecDepth 20000 in
set_option maxHeartbeats 8000000 in
theorem powQ (p e : Nat) (hp : 1 ≤ p) (he : e ≤ 10) (hb : p ^ e ≤ 1000) (w : World) : Calls Tryz.prog 72 #[.int .i64 (p : Int), .int .i64 (e : Int)] w fun x w' => x = .returned (.int .i64 ((p ^ e : Nat) : Int)) ∧ w = w' := by
  have HB : Hid (∀ i, i ≤ e → p ^ i ≤ 1000) := Lib.hid (fun i hi => Nat.le_trans (Nat.pow_le_pow_right hp hi) hb)
  clear hb
  go_enter Tryz.func72, Tryz.ntmps72
  go_wp2_with fail
  go_loopg [5, 7] e (fun gk t5 t7 wr => ∃ i q : Nat, t5 = .int .i64 (q : Int) ∧ t7 = .int .i64 (i : Int) ∧ i ≤ e ∧ Hid (gk = e - i) ∧ Hid (q = p ^ i) ∧ w = wr)
  case atStart => exact ⟨0, 1, rfl, rfl, Nat.zero_le _, Lib.hid rfl, Lib.hid rfl, rfl⟩
  case round =>
    obtain ⟨i, q, rfl, rfl, hi, HGK, HQ, rfl⟩ := hrel
    by_cases hie : i = e
    · have y1 : decide ((i : Int) < (e : Int)) = false := by simp; omega
      have y2 : ¬ (i < e) := by omega
      have HE : Hid (q = p ^ e) := Lib.hid (by rw [HQ.out, hie])
      clear hie
      go_wp2_with fail
      go_ret
      exact ⟨by rw [← HE.out]; rfl, rfl⟩
    · have hil : i < e := by omega
      have y1 : (i : Int) < (e : Int) := by omega
      obtain ⟨q2, hq2⟩ : ∃ x, q * p = x := ⟨_, rfl⟩
      have hq2b : q2 ≤ 1000 := by rw [← hq2, HQ.out, ← Nat.pow_succ]; exact HB.out (i + 1) hil
      have E1 : Hid (IntKind.i64.wrap ((q : Int) * (p : Int)) = (q2 : Int) ∧ wrap64 ((q : Int) * (p : Int)) = (q2 : Int)) := Lib.hid (by rw [show (q : Int) * (p : Int) = (q2 : Int) by rw [← hq2]; simp]; exact w64n (by omega))
      have HQ2 : Hid (q2 = p ^ (i + 1)) := Lib.hid (by rw [← hq2, HQ.out]; exact (Nat.pow_succ p i).symm)
      have YI := Lib.hid (inc_wrap (i := i) (n := 100) (by omega) (by omega))
      clear hq2 hie
      obtain ⟨x1, x2⟩ := E1.out
      obtain ⟨x3, x4⟩ := YI.out
      go_wp2_with fail
      clear x1 x2 x3 x4
      go_roundg (e - (i + 1))
      case measure => have := HGK.out; omega
      case rel => exact ⟨i + 1, q2, rfl, rfl, hil, Lib.hid rfl, HQ2, rfl⟩
def psF (p e : Nat) : Nat := p ^ (e - 1) * (p + 1)
set_option maxRecDepth 20000 in
set_option maxHeartbeats 8000000 in
theorem psi1Q (p e : Nat) (hp0 : 2 ≤ p) (hp : p ≤ 1001) (he0 : 1 ≤ e) (he : e ≤ 10) (hb : p ^ (e - 1) ≤ 1000) (w : World) : Calls Tryz.prog 71 #[.int .i64 (p : Int), .int .i64 (e : Int)] w fun x w' => x = .returned (.int .i64 ((psF p e : Nat) : Int)) ∧ w = w' := by
  obtain ⟨e1, he1⟩ : ∃ x, e - 1 = x := ⟨_, rfl⟩
  have PW := Lib.hid (fun u => powQ p e1 (by omega) (by omega) (by rw [← he1]; exact hb) u)
  obtain ⟨q, hq⟩ : ∃ x, p ^ e1 = x := ⟨_, rfl⟩
  have hqb : q ≤ 1000 := by rw [← hq, ← he1]; exact hb
  rw [hq] at PW
  obtain ⟨z, hz⟩ : ∃ x, psF p e = x := ⟨_, rfl⟩
  have hzq : q * (p + 1) = z := by rw [← hz, ← hq, ← he1]; rfl
  have hzb : z ≤ 1000 * 1002 := by rw [← hzq]; exact Nat.mul_le_mul hqb (by omega)
  rw [hz]
  obtain ⟨p1, hp1⟩ : ∃ x, p + 1 = x := ⟨_, rfl⟩
  rw [hp1] at hzq
  have E1 : Hid (IntKind.i64.wrap ((e : Int) - 1) = (e1 : Int) ∧ wrap64 ((e : Int) - 1) = (e1 : Int)) := Lib.hid (by rw [show (e : Int) - 1 = (e1 : Int) by omega]; exact w64n (by omega))
  have E2 : Hid (IntKind.i64.wrap ((p : Int) + 1) = (p1 : Int) ∧ wrap64 ((p : Int) + 1) = (p1 : Int)) := Lib.hid (by rw [show (p : Int) + 1 = (p1 : Int) by omega]; exact w64n (by omega))
  have E3 : Hid (IntKind.i64.wrap ((q : Int) * (p1 : Int)) = (z : Int) ∧ wrap64 ((q : Int) * (p1 : Int)) = (z : Int)) := Lib.hid (by rw [show (q : Int) * (p1 : Int) = (z : Int) by rw [← hzq]; simp]; exact w64n (by omega))
  clear hzq hz hq he1 hp1 hb
  obtain ⟨x1, x2⟩ := E1.out
  obtain ⟨x3, x4⟩ := E2.out
  obtain ⟨x5, x6⟩ := E3.out
  go_enter Tryz.func71, Tryz.ntmps71
  go_wp2_with (go_at_call 72; (with_reducible refine (PW.out _).mono ?_); (rintro x u2 ⟨rfl, rfl⟩))
  go_ret
  exact ⟨rfl, rfl⟩
/-- The two cells of product: the function, the product so far. -/
structure PrS (w0 : World) (out : Nat) (u : World) : Prop where
  grow : Grow w0 u
  c0 : u.cell? ⟨w0.heap.size, 0, none⟩ = some (.func (.func 71) #[] #[])
  c1 : u.cell? ⟨w0.heap.size + 1, 0, none⟩ = some (.int .i64 (out : Int))
  fr : ∀ o, u.frozen? ⟨w0.heap.size + 1, o, none⟩ = false
  lt : w0.heap.size + 1 < u.heap.size
def okPs (s p e : Nat) : Bool := decide (p ^ (e - 1) ≤ 1000) && decide (s * psF p e ≤ 1000000) && decide (s ≤ 1000000)
theorem PrS.put {w0 u : World} {s : Nat} (h : PrS w0 s u) (z : Nat) : PrS w0 z (u.setCell ⟨w0.heap.size + 1, 0, none⟩ (.int .i64 (z : Int))).drew := by
  have hb : But (fun b => b = w0.heap.size + 1) u (u.setCell ⟨w0.heap.size + 1, 0, none⟩ (.int .i64 (z : Int))) := (But.refl (fun b => b = w0.heap.size + 1) u).set _ (.inr rfl) (fun x => by rw [h.c1]; simp)
  have hd : Grow (u.setCell ⟨w0.heap.size + 1, 0, none⟩ (.int .i64 (z : Int))) (u.setCell ⟨w0.heap.size + 1, 0, none⟩ (.int .i64 (z : Int))).drew := (Grow.refl _).drew
  have hb2 := hb.grow hd
  have hl := h.lt
  exact ⟨((h.grow.but _).trans hb2).asGrow (fun b e => by omega), (hb2.cells _ _ (by omega) (by omega)).trans h.c0, (hd.cells _ _ (Nat.lt_of_lt_of_le hl hb.size)).trans (World.cell?_setCell_same _ _ _ h.c1), fun o => (hb2.frees _ _ hl).trans (h.fr o), Nat.lt_of_lt_of_le hl hb2.size⟩
set_option maxRecDepth 20000 in
set_option maxHeartbeats 8000000 in
theorem prod1Q (w0 : World) (s p e : Nat) (hp0 : 2 ≤ p) (hp1 : p ≤ 1001) (he0 : 1 ≤ e) (he1 : e ≤ 10) (hok : okPs s p e = true) (u : World) (hS : PrS w0 s u) :
    Calls Tryz.prog 100 #[.int .i64 (p : Int), .int .i64 (e : Int), .pointer (some ⟨w0.heap.size + 1, 0, none⟩), .pointer (some ⟨w0.heap.size, 0, none⟩)] u fun x w' => x = .returned (.tuple #[]) ∧ PrS w0 (s * psF p e) w' := by
  unfold okPs at hok
  simp only [Bool.and_eq_true, decide_eq_true_eq] at hok
  obtain ⟨⟨hk1, hk2⟩, hk3⟩ := hok
  have P1 := Lib.hid (fun v => psi1Q p e hp0 hp1 he0 he1 hk1 v)
  obtain ⟨q, hq⟩ : ∃ q, psF p e = q := ⟨_, rfl⟩
  rw [hq] at P1 hk2 ⊢
  obtain ⟨z, hz⟩ : ∃ z, s * q = z := ⟨_, rfl⟩
  rw [hz] at hk2 ⊢
  have E3 : Hid (IntKind.i64.wrap ((s : Int) * (q : Int)) = (z : Int) ∧ wrap64 ((s : Int) * (q : Int)) = (z : Int)) := Lib.hid (by rw [show (s : Int) * (q : Int) = (z : Int) by rw [← hz]; simp]; exact w64n (by omega))
  have hl0 := hS.lt
  have D0 := Lib.hid (fun (v : World) (hv : Grow u v) => (⟨(hv.cells _ _ (by omega)).trans hS.c0, (hv.cells _ _ (by omega)).trans hS.c1, fun o => (hv.frees _ _ (by omega)).trans (hS.fr o), Nat.lt_of_lt_of_le hS.lt hv.size, hv⟩ : v.cell? ⟨w0.heap.size, 0, none⟩ = some (.func (.func 71) #[] #[]) ∧ v.cell? ⟨w0.heap.size + 1, 0, none⟩ = some (.int .i64 (s : Int)) ∧ (∀ o, v.frozen? ⟨w0.heap.size + 1, o, none⟩ = false) ∧ w0.heap.size + 1 < v.heap.size ∧ Grow u v))
  have HS := Lib.hid hS
  clear hS hq hz hk1
  obtain ⟨x5, x6⟩ := E3.out
  go_enter Tryz.func100, Tryz.ntmps100
  go_upto_region 0 with fail
  refine region_held (id := 0) (fun v => Grow u v) [0, 1, 2, 3, 4, 5, 6] (kdL [1, 1, 0, 0, 2, 0, 3]) (by kernel_rfl) (by kernel_rfl) (fun t ht => kdL_lt _ t ht) ?hS0p ?_
  case hS0p => ((try dsimp only); (repeat (first | with_reducible exact Grow.refl _ | with_reducible refine Grow.alloc ?_ _ | with_reducible refine Grow.drew ?_ | with_reducible refine Grow.drewN ?_ _ | (with_reducible refine Grow.setCell ?_ ?hp _; (case hp => (simp; try omega))) | with_reducible refine Grow.trans ?_ (by assumption))))
  refine held_read (v := ?vp0) rfl rfl (Or.inl ⟨by rfl, ?hyp0⟩) ?_
  case hyp0 => (intro u hu; obtain ⟨f0, f1, f2, f3, f4⟩ := D0.out u hu; go_simp; (try with_reducible rfl))
  (try simp only [Act.put, List.setIfInBounds_toArray, List.set_cons_zero, List.set_cons_succ])
  refine held_read (v := ?vp1) rfl rfl (Or.inl ⟨by rfl, ?hyp1⟩) ?_
  case hyp1 => (intro u hu; obtain ⟨f0, f1, f2, f3, f4⟩ := D0.out u hu; go_simp; (try with_reducible rfl))
  (try simp only [Act.put, List.setIfInBounds_toArray, List.set_cons_zero, List.set_cons_succ])
  refine held_quiet (v := ?vp2) rfl rfl (Or.inl ⟨by rfl, ?hyp2⟩) ?_
  case hyp2 => (intro u hu; go_simp; (try with_reducible rfl))
  (try simp only [Act.put, List.setIfInBounds_toArray, List.set_cons_zero, List.set_cons_succ])
  refine held_quiet (v := ?vp3) rfl rfl (Or.inl ⟨by rfl, ?hyp3⟩) ?_
  case hyp3 => (intro u hu; go_simp; (try with_reducible rfl))
  (try simp only [Act.put, List.setIfInBounds_toArray, List.set_cons_zero, List.set_cons_succ])
  refine held_op rfl rfl (fun K hK => ?_)
  go_simp
  (go_at_call 71; (with_reducible refine (P1.out _).mono ?_); (rintro e u4 ⟨rfl, rfl⟩; obtain ⟨f0, f1, f2, f3, f4⟩ := D0.out u (Grow.refl _)))
  (try go_wp2_with fail)
  refine hK.out _ _ ?hSp4 ?_
  case hSp4 => ((try dsimp only); (repeat (first | with_reducible exact Grow.refl _ | with_reducible refine Grow.alloc ?_ _ | with_reducible refine Grow.drew ?_ | with_reducible refine Grow.drewN ?_ _ | (with_reducible refine Grow.setCell ?_ ?hp _; (case hp => (simp; try omega))) | with_reducible refine Grow.trans ?_ (by assumption))))
  clear hK K
  (try simp only [Act.put, List.setIfInBounds_toArray, List.set_cons_zero, List.set_cons_succ])
  refine held_quiet (v := ?vp5) rfl rfl (Or.inl ⟨by rfl, ?hyp5⟩) ?_
  case hyp5 => (intro u hu; go_simp; (try with_reducible rfl))
  (try simp only [Act.put, List.setIfInBounds_toArray, List.set_cons_zero, List.set_cons_succ])
  refine held_last rfl rfl (fun K hK => ?_)
  go_simp
  refine hK.out _ _ ?_
  clear hK K
  (try simp only [Act.put, List.setIfInBounds_toArray, List.set_cons_zero, List.set_cons_succ])
  refine held_done ?_
  go_wp2_with fail
  refine bodyPost_end (results_none rfl _ _ _) rfl ?_
  exact ⟨rfl, HS.out.put z⟩
def psiN (n : Nat) : Nat := foldS (fun s p e => s * psF p e) (faL 33 n 2) 1
set_option maxRecDepth 20000 in
set_option maxHeartbeats 8000000 in
theorem productQ (n : Nat) (h1 : 1 ≤ n) (h2 : n ≤ 1000) (hok : okS (fun s p e => okPs s p e = true) (fun s p e => s * psF p e) (faL 33 n 2) 1) (w : World) :
    Calls Tryz.prog 70 #[.int .i64 (n : Int), .func (.func 71) #[] #[]] w fun x w' => x = .returned (.tuple #[.int .i64 (psiN n : Nat), .int .i64 0]) ∧ Grow w w' := by
  have IR := Lib.hid (fun u => inRangeQ n h1 h2 u)
  have FC := Lib.hid (fun u (hu : PrS w 1 u) => factorsP (fun s u => PrS w s u) (fun s p e => okPs s p e = true) (fun s p e => s * psF p e) (.pointer (some ⟨w.heap.size + 1, 0, none⟩)) (.pointer (some ⟨w.heap.size, 0, none⟩)) (fun s p e u a b c d ok hs => prod1Q w s p e a b c d ok u hs) n h1 h2 1 hok u hu)
  have hmf : ∀ (fn : Fn) (first cap : Array Value) (w : World), (Instr.makeFunc fn first cap).run Tryz.prog w = .ok (.func fn first cap) w := fun _ _ _ _ => rfl
  obtain ⟨W1, hW1⟩ : ∃ W1 : World, W1 = w.alloc (.cells #[.func (.func 71) #[] #[]] 59) := ⟨_, rfl⟩
  obtain ⟨W2, hW2⟩ : ∃ W2 : World, W2 = W1.alloc (.cells #[.int .i64 1] 3) := ⟨_, rfl⟩
  have hz1 : W1.heap.size = w.heap.size + 1 := by rw [hW1]; simp
  have HP : Hid (PrS w 1 W2) := Lib.hid (by
    obtain ⟨a0, -, a2⟩ := ak1 hW1 W2 (ag hW2)
    obtain ⟨b0, b1, b2⟩ := ak1 hW2 W2 (Grow.refl _)
    rw [hz1] at b0 b1 b2
    exact ⟨(ag hW1).trans (ag hW2), a0, b0, b1, b2⟩)
  have HW1 := Lib.hid hW1
  have HW2 := Lib.hid hW2
  have HZ1 := Lib.hid hz1
  clear hW1 hW2 hz1 hok
  go_enter Tryz.func70, Tryz.ntmps70
  go_upto_region 1 with fail
  rw [← HW1.out]
  go_upto_region 4 with (go_at_call 27; (with_reducible refine (IR.out _).mono ?_); (rintro x u2 ⟨rfl, rfl⟩))
  rw [← HW2.out, HZ1.out]
  go_wp2_with (go_at_call 28; (with_reducible refine (FC.out _ HP.out).mono ?_); (rintro x u3 ⟨rfl, hp3⟩; have HP3 := Lib.hid hp3; have c1 := hp3.c1; clear hp3))
  refine bodyPost_ret (v := .tuple #[.int .i64 ((psiN n : Nat) : Int), .int .i64 0]) (by rw [results_pair rfl]; first | rfl | go_simp) rfl ?_
  exact ⟨rfl, HP3.out.grow⟩
theorem okS_ps : ∀ n, n < 61 → n = 0 ∨ okSB (fun s p e => okPs s p e) (fun s p e => s * psF p e) (faL 33 n 2) 1 = true := by decide +kernel
theorem psiQ (n : Nat) (h1 : 1 ≤ n) (h2 : n ≤ 60) (w : World) : Calls Tryz.prog 42 #[.int .i64 (n : Int)] w fun x w' => x = .returned (.tuple #[.int .i64 (psiN n : Nat), .int .i64 0]) ∧ Grow w w' := by
  have PR := Lib.hid (fun u => productQ n h1 (by omega) (okS_of (by
    rcases okS_ps n (by omega) with h | h
    · omega
    · exact h)) u)
  go_enter Tryz.func42, Tryz.ntmps42
  go_wp2_with (go_at_call 70; (with_reducible refine (PR.out _).mono ?_); (rintro x u2 ⟨rfl, hb2⟩))
  refine bodyPost_ret (v := .tuple #[.int .i64 ((psiN n : Nat) : Int), .int .i64 0]) (by rw [results_pair rfl]; first | rfl | go_simp) rfl ?_
  exact ⟨rfl, hb2⟩
end Go.Proofs.YtbpkfcohbefphaaGreatDoor
namespace Go.Proofs.YtbpkfcohbefphaaGreatDoor
open Go Go.RowKit
/-- The divisors of n in order. -/
def divs (n : Nat) : List Nat := (List.range (n + 1)).filter (fun d => d != 0 && n % d == 0)
def dvM (n : Nat) : List Nat := foldS dvS (faL 33 n 2) [1]
def dvOk (n : Nat) : Bool := okSB okDv dvS (faL 33 n 2) [1] && (dvM n).isPerm (divs n)
set_option maxHeartbeats 80000000 in
theorem divs_t0 : ∀ n : Nat, n < 400 → n = 0 ∨ dvOk n = true := by decide +kernel
set_option maxHeartbeats 80000000 in
theorem divs_t1 : ∀ n : Nat, n < 201 → dvOk (n + 400) = true := by decide +kernel
end Go.Proofs.YtbpkfcohbefphaaGreatDoor
