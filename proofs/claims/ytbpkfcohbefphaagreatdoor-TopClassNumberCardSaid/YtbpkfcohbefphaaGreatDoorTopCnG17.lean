/- Lemmas, plain laws and walks that the statement LwClassNumber leans on (texts FaA, TwD, TwE, FaC, FaB), conditions as each theorem says. -/
import Derived.Test.YtbpkfcohbefphaaGreatDoorTopCnG01
import Derived.Test.YtbpkfcohbefphaaGreatDoorTopCnG10
import Derived.Test.YtbpkfcohbefphaaGreatDoorTopCnG14

namespace Go.Proofs.YtbpkfcohbefphaaGreatDoor
/-- Division by p as often as it goes. -/
def dvF (p : Nat) : Nat → Nat → Nat → Nat × Nat
  | 0, n, e => (n, e)
  | f + 1, n, e => if n % p = 0 then dvF p f (n / p) (e + 1) else (n, e)
def faP (n p : Nat) : Nat := if n < p * p then n else p
/-- The pairs of primes and exponents. -/
def faL : Nat → Nat → Nat → List (Nat × Nat)
  | 0, _, _ => []
  | f + 1, n, p => if 1 < n then (if 0 < (dvF (faP n p) 10 n 0).2 then [(faP n p, (dvF (faP n p) 10 n 0).2)] else []) ++ faL f (dvF (faP n p) 10 n 0).1 (faP n p + 1) else []
def okS {σ : Type} (ok : σ → Nat → Nat → Prop) (step : σ → Nat → Nat → σ) : List (Nat × Nat) → σ → Prop
  | [], _ => True
  | x :: l, s => ok s x.1 x.2 ∧ okS ok step l (step s x.1 x.2)
def foldS {σ : Type} (step : σ → Nat → Nat → σ) : List (Nat × Nat) → σ → σ
  | [], s => s
  | x :: l, s => foldS step l (step s x.1 x.2)
def okSB {σ : Type} (ok : σ → Nat → Nat → Bool) (step : σ → Nat → Nat → σ) : List (Nat × Nat) → σ → Bool
  | [], _ => true
  | x :: l, s => ok s x.1 x.2 && okSB ok step l (step s x.1 x.2)
theorem okS_of {σ : Type} {ok : σ → Nat → Nat → Bool} {step : σ → Nat → Nat → σ} : ∀ {l : List (Nat × Nat)} {s : σ}, okSB ok step l s = true → okS (fun s p e => ok s p e = true) step l s
  | [], _, _ => trivial
  | x :: l, s, h => by
    unfold okSB at h
    rw [Bool.and_eq_true] at h
    exact ⟨h.1, okS_of h.2⟩
theorem div_lt_two {n p f : Nat} (hp : 2 ≤ p) (h : n < 2 ^ (f + 1)) : n / p < 2 ^ f := by
  refine Nat.div_lt_of_lt_mul (Nat.lt_of_lt_of_le h ?_)
  rw [Nat.pow_succ, Nat.mul_comm]
  exact Nat.mul_le_mul_right _ hp
theorem dvF_end {p f n e : Nat} (h : ¬ n % p = 0) : dvF p f n e = (n, e) := by
  cases f with
  | zero => rfl
  | succ f => unfold dvF; rw [if_neg h]
theorem dvF_go {p f n e : Nat} (hp : 2 ≤ p) (h1 : 1 ≤ n) (hf : n < 2 ^ f) (h : n % p = 0) : ∃ g, f = g + 1 ∧ dvF p f n e = dvF p g (n / p) (e + 1) ∧ 1 ≤ n / p ∧ n / p < 2 ^ g := by
  cases f with
  | zero => simp at hf; omega
  | succ g =>
    refine ⟨g, rfl, by rw [dvF, if_pos h], ?_, div_lt_two hp hf⟩
    rcases Nat.eq_zero_or_pos (n / p) with h0 | h0
    · have := Nat.div_add_mod n p
      rw [h0, h] at this; omega
    · exact h0
theorem dvF_ge {p : Nat} (hp : 2 ≤ p) : ∀ (f n e : Nat), 1 ≤ n → n < 2 ^ f → 1 ≤ (dvF p f n e).1 ∧ (dvF p f n e).1 ≤ n ∧ (dvF p f n e).2 ≤ e + f
  | f, n, e, h1, hf => by
    by_cases h : n % p = 0
    · obtain ⟨g, rfl, h2, h3, h4⟩ := dvF_go (e := e) hp h1 hf h
      obtain ⟨a, b, c⟩ := dvF_ge hp g (n / p) (e + 1) h3 h4
      rw [h2]
      exact ⟨a, Nat.le_trans b (Nat.div_le_self _ _), by omega⟩
    · rw [dvF_end h]
      exact ⟨h1, Nat.le_refl _, by omega⟩
theorem dvF_self {n : Nat} (h : 2 ≤ n) : dvF n 10 n 0 = (1, 1) := by
  rw [dvF, if_pos (Nat.mod_self n), Nat.div_self (by omega), dvF_end (by rw [Nat.mod_eq_of_lt (by omega)]; omega)]
/-- What holds at the head of the loop. -/
def FaH (k n p : Nat) : Prop := 1 ≤ n ∧ n ≤ 1000 ∧ 2 ≤ p ∧ p ≤ 1001 ∧ (1 < n → p ≤ 32 ∧ 33 ≤ p + k)
theorem FaH.start {n : Nat} (h1 : 1 ≤ n) (h2 : n ≤ 1000) : FaH 33 n 2 := ⟨h1, h2, by omega, by omega, fun _ => ⟨by omega, by omega⟩⟩
theorem faP_bd {n p : Nat} (hn : 1 < n) (hn2 : n ≤ 1000) (hp : 2 ≤ p) (hp2 : p ≤ 1001) : 2 ≤ faP n p ∧ faP n p ≤ 1001 := by
  unfold faP; split <;> omega
theorem FaH.next {k n p : Nat} (h : FaH k n p) (hn : 1 < n) : ∃ g, k = g + 1 ∧ FaH g (dvF (faP n p) 10 n 0).1 (faP n p + 1) ∧ (dvF (faP n p) 10 n 0).2 ≤ 10 ∧
    faL k n p = (if 0 < (dvF (faP n p) 10 n 0).2 then [(faP n p, (dvF (faP n p) 10 n 0).2)] else []) ++ faL g (dvF (faP n p) 10 n 0).1 (faP n p + 1) := by
  obtain ⟨h1, h2, h3, h4, h5⟩ := h
  obtain ⟨h6, h7⟩ := h5 hn
  obtain ⟨b1, b2⟩ := faP_bd hn h2 h3 h4
  obtain ⟨g, rfl⟩ : ∃ g, k = g + 1 := ⟨k - 1, by omega⟩
  obtain ⟨c1, c2, c3⟩ := dvF_ge b1 10 n 0 h1 (by omega)
  refine ⟨g, rfl, ⟨c1, by omega, by omega, ?_, ?_⟩, by omega, by rw [faL, if_pos hn]⟩
  · unfold faP; split
    · by_cases h8 : n = 1000 ∨ n < 1000 <;> omega
    · omega
  · unfold faP
    by_cases h8 : n < p * p
    · rw [if_pos h8, dvF_self (by omega)]
      intro h9; simp at h9
    · rw [if_neg h8]
      have h9 : p ≤ 31 := by
        rcases Nat.lt_or_ge 31 p with h10 | h10
        · have : 32 * 32 ≤ p * p := Nat.mul_le_mul h10 h10
          omega
        · exact h10
      intro _; omega
theorem faL_one (k p : Nat) {n : Nat} (h : ¬ 1 < n) : faL k n p = [] := by
  cases k with
  | zero => rfl
  | succ k => rw [faL, if_neg h]
end Go.Proofs.YtbpkfcohbefphaaGreatDoor
namespace Go.Proofs.YtbpkfcohbefphaaGreatDoor
open Go Go.RowKit
/-- Reading an own row of ints. -/
theorem OwnI.read {w : World} {base : Nat} {a : Option Addr} {n c : Nat} {xs : List Value} (h : OwnI w base (.slice a n c) n xs) (hn : 0 < n) : ∃ g, a = some ⟨g, 0, none⟩ ∧ base ≤ g ∧ g < w.heap.size ∧ ∀ (i : Nat) (x : Value), xs[i]? = some x → w.cell? ⟨g, i, none⟩ = some x := by
  obtain ⟨hl, h⟩ := h
  rcases h with ⟨-, h0⟩ | ⟨g, cap, cur, hv, hb, hg, h1, h2, h3, h4, h5⟩
  · omega
  · injection hv with e1 e2 e3
    refine ⟨g, e1, hb, (Array.getElem?_eq_some_iff.1 hg).1, fun i x hx => ?_⟩
    rw [cell_of_row w g i cur 3 (0, 0) hg]
    have hi : i < n := by
      have := (List.getElem?_eq_some_iff.1 hx).1
      omega
    rw [← h4, List.getElem?_take, if_pos hi] at hx
    rw [← hx]; simp
end Go.Proofs.YtbpkfcohbefphaaGreatDoor
namespace Go.Proofs.YtbpkfcohbefphaaGreatDoor
open Go Go.RowKit
theorem IntQ.but {X : Nat → Prop} {w w' : World} {B off n : Nat} {f : Nat → Int} (h : IntQ w B off n f) (hX : ¬ X B) (hg : But X w w') : IntQ w' B off n f :=
  ⟨Nat.lt_of_lt_of_le h.lt hg.size, fun i hi => (hg.cells _ _ h.lt hX).trans (h.cell i hi)⟩
theorem IntQ.cong {w : World} {B off n : Nat} {f g : Nat → Int} (h : IntQ w B off n f) (he : ∀ i, i < n → f i = g i) : IntQ w B off n g :=
  ⟨h.lt, fun i hi => by rw [← he i hi]; exact h.cell i hi⟩
theorem IntQ.set {w : World} {B off n : Nat} {f : Nat → Int} (h : IntQ w B off n f) {j : Nat} (hj : j < n) (x : Int) :
    IntQ (w.setCell ⟨B, off + j, none⟩ (.int .i64 x)) B off n (fun i => if i = j then x else f i) ∧ But (fun b => b = B) w (w.setCell ⟨B, off + j, none⟩ (.int .i64 x)) := by
  have hb : But (fun b => b = B) w (w.setCell ⟨B, off + j, none⟩ (.int .i64 x)) := (But.refl _ w).set _ (.inr rfl) (fun y => by rw [h.cell j hj]; simp)
  refine ⟨⟨Nat.lt_of_lt_of_le h.lt hb.size, fun i hi => ?_⟩, hb⟩
  by_cases e : i = j
  · subst e; rw [if_pos rfl]; exact World.cell?_setCell_same _ _ _ (h.cell i hi)
  · rw [if_neg e, World.cell?_setCell_other _ _ _ _ (by simp; try omega)]
    exact h.cell i hi
/-- What the closure needs: its captured cells and the row it counts in. -/
structure ManS (w : World) (p2 p3 p4 Mb cM prec : Nat) (h : Nat → Int) : Prop where
  c2 : w.cell? ⟨p2, 0, none⟩ = some (.int .i64 (prec : Int))
  c3 : w.cell? ⟨p3, 0, none⟩ = some (.slice (some ⟨Mb, 0, none⟩) prec cM)
  c4 : w.cell? ⟨p4, 0, none⟩ = some (.slice none 0 0)
  l2 : p2 < w.heap.size
  l3 : p3 < w.heap.size
  l4 : p4 < w.heap.size
  row : IntQ w Mb 0 prec h
  free : ∀ o, w.frozen? ⟨Mb, o, none⟩ = false
  n2 : p2 ≠ Mb
  n3 : p3 ≠ Mb
  n4 : p4 ≠ Mb
theorem ManS.but {X : Nat → Prop} {w w' : World} {p2 p3 p4 Mb cM prec : Nat} {h : Nat → Int} (H : ManS w p2 p3 p4 Mb cM prec h) (hb : But X w w') (x2 : ¬ X p2) (x3 : ¬ X p3) (x4 : ¬ X p4) (xM : ¬ X Mb) : ManS w' p2 p3 p4 Mb cM prec h :=
  ⟨(hb.cells _ _ H.l2 x2).trans H.c2, (hb.cells _ _ H.l3 x3).trans H.c3, (hb.cells _ _ H.l4 x4).trans H.c4, Nat.lt_of_lt_of_le H.l2 hb.size, Nat.lt_of_lt_of_le H.l3 hb.size, Nat.lt_of_lt_of_le H.l4 hb.size, H.row.but xM hb, fun o => (hb.frees _ _ H.row.lt).trans (H.free o), H.n2, H.n3, H.n4⟩
theorem ManS.step {w : World} {p2 p3 p4 Mb cM prec : Nat} {h : Nat → Int} (H : ManS w p2 p3 p4 Mb cM prec h) {j : Nat} (hj : j < prec) (x : Int) :
    ManS (w.setCell ⟨Mb, j, none⟩ (.int .i64 x)) p2 p3 p4 Mb cM prec (fun i => if i = j then x else h i) ∧ But (fun b => b = Mb) w (w.setCell ⟨Mb, j, none⟩ (.int .i64 x)) := by
  obtain ⟨h1, h2⟩ := H.row.set hj x
  rw [Nat.zero_add] at h1 h2
  exact ⟨⟨(h2.cells _ _ H.l2 H.n2).trans H.c2, (h2.cells _ _ H.l3 H.n3).trans H.c3, (h2.cells _ _ H.l4 H.n4).trans H.c4, Nat.lt_of_lt_of_le H.l2 h2.size, Nat.lt_of_lt_of_le H.l3 h2.size, Nat.lt_of_lt_of_le H.l4 h2.size, h1, fun o => (h2.frees _ _ H.row.lt).trans (H.free o), H.n2, H.n3, H.n4⟩, h2⟩
theorem ManS.cong {w : World} {p2 p3 p4 Mb cM prec : Nat} {h g : Nat → Int} (H : ManS w p2 p3 p4 Mb cM prec h) (he : ∀ i, i < prec → h i = g i) : ManS w p2 p3 p4 Mb cM prec g :=
  ⟨H.c2, H.c3, H.c4, H.l2, H.l3, H.l4, H.row.cong he, H.free, H.n2, H.n3, H.n4⟩
end Go.Proofs.YtbpkfcohbefphaaGreatDoor
namespace Go.Proofs.YtbpkfcohbefphaaGreatDoor
open Go Go.RowKit
set_option maxRecDepth 20000 in
set_option maxHeartbeats 8000000 in
theorem factorsF {σ : Type} (St : σ → World → Prop) (ok : σ → Nat → Nat → Prop) (step : σ → Nat → Nat → σ) (c1 : Value)
    (CL : ∀ (s : σ) (p e : Nat) (u : World), 2 ≤ p → p ≤ 1001 → 1 ≤ e → e ≤ 10 → ok s p e → St s u → Calls Tryz.prog 98 #[.int .i64 (p : Int), .int .i64 (e : Int), c1] u fun x w' => x = .returned (.tuple #[]) ∧ St (step s p e) w')
    (N : Nat) (h1 : 1 ≤ N) (h2 : N ≤ 1000) (s0 : σ) (hok : okS ok step (faL 33 N 2) s0) (w1 : World) (hM1 : St s0 w1) :
    Calls Tryz.prog 28 #[.int .i64 (N : Int), .func (.func 98) #[] #[c1]] w1 fun x w' => x = .returned (.tuple #[]) ∧ St (foldS step (faL 33 N 2) s0) w' := by
  obtain ⟨R, hR⟩ : ∃ R, foldS step (faL 33 N 2) s0 = R := ⟨_, rfl⟩
  rw [hR]
  have HR := Lib.hid hR
  have HOK := Lib.hid hok
  have HM1 := Lib.hid hM1
  have HCL := Lib.hid CL
  have HF := Lib.hid (FaH.start h1 h2)
  clear hR hok hM1 CL
  go_enter Tryz.func28, Tryz.ntmps28
  go_wp2_with fail
  go_loopg [0, 4] 33 (fun k t0 t4 wr => ∃ (n p : Nat) (s : σ), t0 = .int .i64 (n : Int) ∧ t4 = .int .i64 (p : Int) ∧ Hid (FaH k n p) ∧ Hid (okS ok step (faL k n p) s) ∧ Hid (foldS step (faL k n p) s = R) ∧ Hid (St s wr))
  case atStart => exact ⟨N, 2, s0, rfl, rfl, HF, HOK, HR, HM1⟩
  case round =>
    clear HR HOK HM1 HF
    obtain ⟨n, p, s, rfl, rfl, HF, hok, hx, hM⟩ := hrel
    have hn0 : 1 ≤ n := HF.out.1
    have hn1 : n ≤ 1000 := HF.out.2.1
    have hp0 : 2 ≤ p := HF.out.2.2.1
    have hp1 : p ≤ 1001 := HF.out.2.2.2.1
    by_cases hlt : 1 < n
    · obtain ⟨g1, hgk, hF2, hE10, hL⟩ := HF.out.next hlt
      have hok2 := hok.out
      have hx2 := hx.out
      rw [hL] at hok2 hx2
      obtain ⟨P, hP⟩ : ∃ P, faP n p = P := ⟨_, rfl⟩
      have hPb := faP_bd hlt hn1 hp0 hp1
      rw [hP] at hPb hF2 hE10 hok2 hx2
      obtain ⟨M, E, hME⟩ : ∃ M E, dvF P 10 n 0 = (M, E) := ⟨_, _, rfl⟩
      rw [hME] at hF2 hE10 hok2 hx2
      simp only at hF2 hE10 hok2 hx2
      have DV := Lib.hid hME
      have HF2 := Lib.hid hF2
      have FO := Lib.hid hok2
      have FX := Lib.hid hx2
      have hltI : (1 : Int) < (n : Int) := by omega
      obtain ⟨S, hS⟩ : ∃ S : Nat, p * p = S := ⟨_, rfl⟩
      have hSb : S ≤ 1001 * 1001 := by rw [← hS]; exact Nat.mul_le_mul hp1 hp1
      have YS : Hid (IntKind.i64.wrap ((p : Int) * (p : Int)) = (S : Int) ∧ wrap64 ((p : Int) * (p : Int)) = (S : Int)) := Lib.hid (by rw [show (p : Int) * (p : Int) = (S : Int) by rw [← hS]; simp]; exact w64n (by omega))
      have hP2 := Lib.hid hP
      have hcase : (n < S ∧ P = n) ∨ (¬ n < S ∧ P = p) := by
        have h3 := hP
        unfold faP at h3
        rw [hS] at h3
        by_cases hb : n < S
        · rw [if_pos hb] at h3; exact .inl ⟨hb, h3.symm⟩
        · rw [if_neg hb] at h3; exact .inr ⟨hb, h3.symm⟩
      have HCASE := Lib.hid hcase
      clear hcase
      clear hok hx hok2 hx2 hME hL hF2 hS hP
      obtain ⟨e1, e2⟩ := YS.out
      go_upto_if 14 with fail
      clear e1 e2 hltI
      go_cut [4] (fun t4 wc => t4 = .int .i64 (P : Int) ∧ wr = wc)
      case first =>
        rcases HCASE.out with ⟨hc, hPn⟩ | ⟨hc, hPn⟩
        · have HPN := Lib.hid hPn
          clear hPn
          go_wp2_with fail
          all_goals first
            | (exfalso; omega)
            | (go_meet; exact ⟨by rw [HPN.out], rfl⟩)
        · have HPN := Lib.hid hPn
          clear hPn
          go_wp2_with fail
          all_goals first
            | (exfalso; omega)
            | (go_meet; exact ⟨by rw [HPN.out], rfl⟩)
      case rest =>
        obtain ⟨rfl, rfl⟩ := hcut
        have hPz : ¬ ((P : Int) = 0) := by omega
        have hPz2 : ¬ (P = 0) := by omega
        go_wp2_with fail
        go_loopg [0, 5] 10 (fun k t0 t5 wx => ∃ m e : Nat, t0 = .int .i64 (m : Int) ∧ t5 = .int .i64 (e : Int) ∧ 1 ≤ m ∧ m ≤ 1000 ∧ e ≤ 10 ∧ Hid (m < 2 ^ k) ∧ Hid (e + k = 10) ∧ Hid (dvF P k m e = (M, E)) ∧ Hid (St s wx))
        case atStart => exact ⟨n, 0, rfl, rfl, hn0, hn1, by omega, Lib.hid (by omega), Lib.hid rfl, DV, hM⟩
        case round =>
          clear DV hM
          obtain ⟨m, e, rfl, rfl, hm0, hm1, he10, HM2, HE10, HDV, hM⟩ := hrel
          obtain ⟨r, hr⟩ : ∃ r, m % P = r := ⟨_, rfl⟩
          obtain ⟨q, hq⟩ : ∃ q, m / P = q := ⟨_, rfl⟩
          have T1 : Hid (Int.tmod (m : Int) (P : Int) = (r : Int)) := Lib.hid (by rw [← hr, Int.natCast_emod]; exact Int.tmod_eq_emod_of_nonneg (by omega))
          have T2 : Hid (Int.tdiv (m : Int) (P : Int) = (q : Int)) := Lib.hid (by rw [← hq, Int.natCast_ediv]; exact Int.tdiv_eq_ediv_of_nonneg (by omega))
          have hrb : r ≤ 1001 := by rw [← hr]; exact Nat.le_trans (Nat.mod_le _ _) (by omega)
          have hqb : q ≤ 1000 := by rw [← hq]; exact Nat.le_trans (Nat.div_le_self _ _) hm1
          have Y1 := Lib.hid (w64n (n := (r : Int)) (by omega))
          have Y2 := Lib.hid (w64n (n := (q : Int)) (by omega))
          have HRR := Lib.hid hr
          have HQQ := Lib.hid hq
          clear hr hq
          by_cases hr0 : r = 0
          · subst hr0
            obtain ⟨g2, hgk2, d1, d2, d3⟩ := dvF_go (e := e) hPb.1 hm0 HM2.out HRR.out
            rw [HQQ.out] at d1 d2 d3
            have HV := Lib.hid (d1.symm.trans HDV.out)
            have HD2 := Lib.hid d2
            have HD3 := Lib.hid d3
            have YE := Lib.hid (inc_wrap (i := e) (n := 100) (by omega) (by omega))
            have HG2 := Lib.hid hgk2
            clear d1 d2 d3 hgk2
            have t1 := T1.out
            have t2 := T2.out
            obtain ⟨y1, y2⟩ := Y1.out
            obtain ⟨y3, y4⟩ := Y2.out
            obtain ⟨y5, y6⟩ := YE.out
            go_wp2_with fail
            clear t1 t2 y1 y2 y3 y4 y5 y6
            go_roundg g2
            case measure => have := HG2.out; omega
            case rel => exact ⟨q, e + 1, rfl, rfl, HD2.out, hqb, by have := HE10.out; have := HG2.out; omega, HD3, Lib.hid (by have := HE10.out; have := HG2.out; omega), HV, hM⟩
          · have hre : ((r : Int) == 0) = false := by simp; omega
            have hdv2 := HDV.out
            rw [dvF_end (by rw [HRR.out]; exact hr0)] at hdv2
            obtain ⟨hmM, heE⟩ := Prod.mk.inj hdv2
            subst hmM
            subst heE
            clear hdv2 hr0
            have YP := Lib.hid (inc_wrap (i := P) (n := 2000) (by omega) (by omega))
            by_cases he0 : e = 0
            · subst he0
              have hn3 : decide ((0 : Int) < ((0 : Nat) : Int)) = false := by simp
              have fo := FO.out
              have fx := FX.out
              rw [if_neg (by omega), List.nil_append] at fo fx
              have FO2 := Lib.hid fo
              have FX2 := Lib.hid fx
              clear fo fx
              have t1 := T1.out
              obtain ⟨y1, y2⟩ := Y1.out
              obtain ⟨y5, y6⟩ := YP.out
              go_wp2_with fail
              clear t1 y1 y2 y5 y6
              go_roundg g1
              case measure => omega
              case rel => exact ⟨m, P + 1, s, rfl, rfl, HF2, FO2, FX2, hM⟩
            · have hn3 : (0 : Int) < (e : Int) := by omega
              have hn4 : 0 < e := by omega
              have fo := FO.out
              have fx := FX.out
              rw [if_pos hn4] at fo fx
              have FO1 := Lib.hid (show ok s P e from fo.1)
              have FO2 := Lib.hid (show okS ok step (faL g1 m (P + 1)) (step s P e) from fo.2)
              have FX2 := Lib.hid (show foldS step (faL g1 m (P + 1)) (step s P e) = R from fx)
              have CL := Lib.hid (fun u hu => HCL.out s P e u hPb.1 hPb.2 hn4 he10 FO1.out hu)
              clear fo fx
              have t1 := T1.out
              obtain ⟨y1, y2⟩ := Y1.out
              obtain ⟨y5, y6⟩ := YP.out
              go_wp2_with (go_at_call 98; (with_reducible refine (CL.out _ hM.out).mono ?_); (rintro x w3 ⟨rfl, hM3⟩; have HM3 := Lib.hid hM3; clear hM3))
              clear t1 y1 y2 y5 y6
              go_roundg g1
              case measure => omega
              case rel => exact ⟨m, P + 1, step s P e, rfl, rfl, HF2, FO2, FX2, HM3⟩
    · have hnl : ¬ ((1 : Int) < (n : Int)) := by omega
      have hn3 : n = 1 := by omega
      have HE : Hid (s = R) := Lib.hid (by
        have h3 := hx.out
        rw [faL_one _ _ hlt] at h3
        exact h3)
      clear hlt
      go_wp2_with fail
      (try simp only [Exit.inBlock, Exit.then])
      first
        | (refine bodyPost_end (results_none rfl _ _ _) rfl ?_; exact ⟨rfl, by rw [← HE.out]; exact hM.out⟩)
        | (refine bodyPost_ret (v := .tuple #[]) (results_none rfl _ _ _) rfl ?_; exact ⟨rfl, by rw [← HE.out]; exact hM.out⟩)
set_option maxRecDepth 20000 in
set_option maxHeartbeats 8000000 in
theorem factorsU {σ : Type} (St : σ → World → Prop) (ok : σ → Nat → Nat → Prop) (step : σ → Nat → Nat → σ) (c1 c2 : Value)
    (CL : ∀ (s : σ) (p e : Nat) (u : World), 2 ≤ p → p ≤ 1001 → 1 ≤ e → e ≤ 10 → ok s p e → St s u → Calls Tryz.prog 89 #[.int .i64 (p : Int), .int .i64 (e : Int), c1, c2] u fun x w' => x = .returned (.tuple #[]) ∧ St (step s p e) w')
    (N : Nat) (h1 : 1 ≤ N) (h2 : N ≤ 1000) (s0 : σ) (hok : okS ok step (faL 33 N 2) s0) (w1 : World) (hM1 : St s0 w1) :
    Calls Tryz.prog 28 #[.int .i64 (N : Int), .func (.func 89) #[] #[c1, c2]] w1 fun x w' => x = .returned (.tuple #[]) ∧ St (foldS step (faL 33 N 2) s0) w' := by
  obtain ⟨R, hR⟩ : ∃ R, foldS step (faL 33 N 2) s0 = R := ⟨_, rfl⟩
  rw [hR]
  have HR := Lib.hid hR
  have HOK := Lib.hid hok
  have HM1 := Lib.hid hM1
  have HCL := Lib.hid CL
  have HF := Lib.hid (FaH.start h1 h2)
  clear hR hok hM1 CL
  go_enter Tryz.func28, Tryz.ntmps28
  go_wp2_with fail
  go_loopg [0, 4] 33 (fun k t0 t4 wr => ∃ (n p : Nat) (s : σ), t0 = .int .i64 (n : Int) ∧ t4 = .int .i64 (p : Int) ∧ Hid (FaH k n p) ∧ Hid (okS ok step (faL k n p) s) ∧ Hid (foldS step (faL k n p) s = R) ∧ Hid (St s wr))
  case atStart => exact ⟨N, 2, s0, rfl, rfl, HF, HOK, HR, HM1⟩
  case round =>
    clear HR HOK HM1 HF
    obtain ⟨n, p, s, rfl, rfl, HF, hok, hx, hM⟩ := hrel
    have hn0 : 1 ≤ n := HF.out.1
    have hn1 : n ≤ 1000 := HF.out.2.1
    have hp0 : 2 ≤ p := HF.out.2.2.1
    have hp1 : p ≤ 1001 := HF.out.2.2.2.1
    by_cases hlt : 1 < n
    · obtain ⟨g1, hgk, hF2, hE10, hL⟩ := HF.out.next hlt
      have hok2 := hok.out
      have hx2 := hx.out
      rw [hL] at hok2 hx2
      obtain ⟨P, hP⟩ : ∃ P, faP n p = P := ⟨_, rfl⟩
      have hPb := faP_bd hlt hn1 hp0 hp1
      rw [hP] at hPb hF2 hE10 hok2 hx2
      obtain ⟨M, E, hME⟩ : ∃ M E, dvF P 10 n 0 = (M, E) := ⟨_, _, rfl⟩
      rw [hME] at hF2 hE10 hok2 hx2
      simp only at hF2 hE10 hok2 hx2
      have DV := Lib.hid hME
      have HF2 := Lib.hid hF2
      have FO := Lib.hid hok2
      have FX := Lib.hid hx2
      have hltI : (1 : Int) < (n : Int) := by omega
      obtain ⟨S, hS⟩ : ∃ S : Nat, p * p = S := ⟨_, rfl⟩
      have hSb : S ≤ 1001 * 1001 := by rw [← hS]; exact Nat.mul_le_mul hp1 hp1
      have YS : Hid (IntKind.i64.wrap ((p : Int) * (p : Int)) = (S : Int) ∧ wrap64 ((p : Int) * (p : Int)) = (S : Int)) := Lib.hid (by rw [show (p : Int) * (p : Int) = (S : Int) by rw [← hS]; simp]; exact w64n (by omega))
      have hP2 := Lib.hid hP
      have hcase : (n < S ∧ P = n) ∨ (¬ n < S ∧ P = p) := by
        have h3 := hP
        unfold faP at h3
        rw [hS] at h3
        by_cases hb : n < S
        · rw [if_pos hb] at h3; exact .inl ⟨hb, h3.symm⟩
        · rw [if_neg hb] at h3; exact .inr ⟨hb, h3.symm⟩
      have HCASE := Lib.hid hcase
      clear hcase
      clear hok hx hok2 hx2 hME hL hF2 hS hP
      obtain ⟨e1, e2⟩ := YS.out
      go_upto_if 14 with fail
      clear e1 e2 hltI
      go_cut [4] (fun t4 wc => t4 = .int .i64 (P : Int) ∧ wr = wc)
      case first =>
        rcases HCASE.out with ⟨hc, hPn⟩ | ⟨hc, hPn⟩
        · have HPN := Lib.hid hPn
          clear hPn
          go_wp2_with fail
          all_goals first
            | (exfalso; omega)
            | (go_meet; exact ⟨by rw [HPN.out], rfl⟩)
        · have HPN := Lib.hid hPn
          clear hPn
          go_wp2_with fail
          all_goals first
            | (exfalso; omega)
            | (go_meet; exact ⟨by rw [HPN.out], rfl⟩)
      case rest =>
        obtain ⟨rfl, rfl⟩ := hcut
        have hPz : ¬ ((P : Int) = 0) := by omega
        have hPz2 : ¬ (P = 0) := by omega
        go_wp2_with fail
        go_loopg [0, 5] 10 (fun k t0 t5 wx => ∃ m e : Nat, t0 = .int .i64 (m : Int) ∧ t5 = .int .i64 (e : Int) ∧ 1 ≤ m ∧ m ≤ 1000 ∧ e ≤ 10 ∧ Hid (m < 2 ^ k) ∧ Hid (e + k = 10) ∧ Hid (dvF P k m e = (M, E)) ∧ Hid (St s wx))
        case atStart => exact ⟨n, 0, rfl, rfl, hn0, hn1, by omega, Lib.hid (by omega), Lib.hid rfl, DV, hM⟩
        case round =>
          clear DV hM
          obtain ⟨m, e, rfl, rfl, hm0, hm1, he10, HM2, HE10, HDV, hM⟩ := hrel
          obtain ⟨r, hr⟩ : ∃ r, m % P = r := ⟨_, rfl⟩
          obtain ⟨q, hq⟩ : ∃ q, m / P = q := ⟨_, rfl⟩
          have T1 : Hid (Int.tmod (m : Int) (P : Int) = (r : Int)) := Lib.hid (by rw [← hr, Int.natCast_emod]; exact Int.tmod_eq_emod_of_nonneg (by omega))
          have T2 : Hid (Int.tdiv (m : Int) (P : Int) = (q : Int)) := Lib.hid (by rw [← hq, Int.natCast_ediv]; exact Int.tdiv_eq_ediv_of_nonneg (by omega))
          have hrb : r ≤ 1001 := by rw [← hr]; exact Nat.le_trans (Nat.mod_le _ _) (by omega)
          have hqb : q ≤ 1000 := by rw [← hq]; exact Nat.le_trans (Nat.div_le_self _ _) hm1
          have Y1 := Lib.hid (w64n (n := (r : Int)) (by omega))
          have Y2 := Lib.hid (w64n (n := (q : Int)) (by omega))
          have HRR := Lib.hid hr
          have HQQ := Lib.hid hq
          clear hr hq
          by_cases hr0 : r = 0
          · subst hr0
            obtain ⟨g2, hgk2, d1, d2, d3⟩ := dvF_go (e := e) hPb.1 hm0 HM2.out HRR.out
            rw [HQQ.out] at d1 d2 d3
            have HV := Lib.hid (d1.symm.trans HDV.out)
            have HD2 := Lib.hid d2
            have HD3 := Lib.hid d3
            have YE := Lib.hid (inc_wrap (i := e) (n := 100) (by omega) (by omega))
            have HG2 := Lib.hid hgk2
            clear d1 d2 d3 hgk2
            have t1 := T1.out
            have t2 := T2.out
            obtain ⟨y1, y2⟩ := Y1.out
            obtain ⟨y3, y4⟩ := Y2.out
            obtain ⟨y5, y6⟩ := YE.out
            go_wp2_with fail
            clear t1 t2 y1 y2 y3 y4 y5 y6
            go_roundg g2
            case measure => have := HG2.out; omega
            case rel => exact ⟨q, e + 1, rfl, rfl, HD2.out, hqb, by have := HE10.out; have := HG2.out; omega, HD3, Lib.hid (by have := HE10.out; have := HG2.out; omega), HV, hM⟩
          · have hre : ((r : Int) == 0) = false := by simp; omega
            have hdv2 := HDV.out
            rw [dvF_end (by rw [HRR.out]; exact hr0)] at hdv2
            obtain ⟨hmM, heE⟩ := Prod.mk.inj hdv2
            subst hmM
            subst heE
            clear hdv2 hr0
            have YP := Lib.hid (inc_wrap (i := P) (n := 2000) (by omega) (by omega))
            by_cases he0 : e = 0
            · subst he0
              have hn3 : decide ((0 : Int) < ((0 : Nat) : Int)) = false := by simp
              have fo := FO.out
              have fx := FX.out
              rw [if_neg (by omega), List.nil_append] at fo fx
              have FO2 := Lib.hid fo
              have FX2 := Lib.hid fx
              clear fo fx
              have t1 := T1.out
              obtain ⟨y1, y2⟩ := Y1.out
              obtain ⟨y5, y6⟩ := YP.out
              go_wp2_with fail
              clear t1 y1 y2 y5 y6
              go_roundg g1
              case measure => omega
              case rel => exact ⟨m, P + 1, s, rfl, rfl, HF2, FO2, FX2, hM⟩
            · have hn3 : (0 : Int) < (e : Int) := by omega
              have hn4 : 0 < e := by omega
              have fo := FO.out
              have fx := FX.out
              rw [if_pos hn4] at fo fx
              have FO1 := Lib.hid (show ok s P e from fo.1)
              have FO2 := Lib.hid (show okS ok step (faL g1 m (P + 1)) (step s P e) from fo.2)
              have FX2 := Lib.hid (show foldS step (faL g1 m (P + 1)) (step s P e) = R from fx)
              have CL := Lib.hid (fun u hu => HCL.out s P e u hPb.1 hPb.2 hn4 he10 FO1.out hu)
              clear fo fx
              have t1 := T1.out
              obtain ⟨y1, y2⟩ := Y1.out
              obtain ⟨y5, y6⟩ := YP.out
              go_wp2_with (go_at_call 89; (with_reducible refine (CL.out _ hM.out).mono ?_); (rintro x w3 ⟨rfl, hM3⟩; have HM3 := Lib.hid hM3; clear hM3))
              clear t1 y1 y2 y5 y6
              go_roundg g1
              case measure => omega
              case rel => exact ⟨m, P + 1, step s P e, rfl, rfl, HF2, FO2, FX2, HM3⟩
    · have hnl : ¬ ((1 : Int) < (n : Int)) := by omega
      have hn3 : n = 1 := by omega
      have HE : Hid (s = R) := Lib.hid (by
        have h3 := hx.out
        rw [faL_one _ _ hlt] at h3
        exact h3)
      clear hlt
      go_wp2_with fail
      (try simp only [Exit.inBlock, Exit.then])
      first
        | (refine bodyPost_end (results_none rfl _ _ _) rfl ?_; exact ⟨rfl, by rw [← HE.out]; exact hM.out⟩)
        | (refine bodyPost_ret (v := .tuple #[]) (results_none rfl _ _ _) rfl ?_; exact ⟨rfl, by rw [← HE.out]; exact hM.out⟩)
set_option maxRecDepth 20000 in
set_option maxHeartbeats 8000000 in
theorem factorsO {σ : Type} (St : σ → World → Prop) (ok : σ → Nat → Nat → Prop) (step : σ → Nat → Nat → σ) (c1 c2 c3 : Value)
    (CL : ∀ (s : σ) (p e : Nat) (u : World), 2 ≤ p → p ≤ 1001 → 1 ≤ e → e ≤ 10 → ok s p e → St s u → Calls Tryz.prog 132 #[.int .i64 (p : Int), .int .i64 (e : Int), c1, c2, c3] u fun x w' => x = .returned (.tuple #[]) ∧ St (step s p e) w')
    (N : Nat) (h1 : 1 ≤ N) (h2 : N ≤ 1000) (s0 : σ) (hok : okS ok step (faL 33 N 2) s0) (w1 : World) (hM1 : St s0 w1) :
    Calls Tryz.prog 28 #[.int .i64 (N : Int), .func (.func 132) #[] #[c1, c2, c3]] w1 fun x w' => x = .returned (.tuple #[]) ∧ St (foldS step (faL 33 N 2) s0) w' := by
  obtain ⟨R, hR⟩ : ∃ R, foldS step (faL 33 N 2) s0 = R := ⟨_, rfl⟩
  rw [hR]
  have HR := Lib.hid hR
  have HOK := Lib.hid hok
  have HM1 := Lib.hid hM1
  have HCL := Lib.hid CL
  have HF := Lib.hid (FaH.start h1 h2)
  clear hR hok hM1 CL
  go_enter Tryz.func28, Tryz.ntmps28
  go_wp2_with fail
  go_loopg [0, 4] 33 (fun k t0 t4 wr => ∃ (n p : Nat) (s : σ), t0 = .int .i64 (n : Int) ∧ t4 = .int .i64 (p : Int) ∧ Hid (FaH k n p) ∧ Hid (okS ok step (faL k n p) s) ∧ Hid (foldS step (faL k n p) s = R) ∧ Hid (St s wr))
  case atStart => exact ⟨N, 2, s0, rfl, rfl, HF, HOK, HR, HM1⟩
  case round =>
    clear HR HOK HM1 HF
    obtain ⟨n, p, s, rfl, rfl, HF, hok, hx, hM⟩ := hrel
    have hn0 : 1 ≤ n := HF.out.1
    have hn1 : n ≤ 1000 := HF.out.2.1
    have hp0 : 2 ≤ p := HF.out.2.2.1
    have hp1 : p ≤ 1001 := HF.out.2.2.2.1
    by_cases hlt : 1 < n
    · obtain ⟨g1, hgk, hF2, hE10, hL⟩ := HF.out.next hlt
      have hok2 := hok.out
      have hx2 := hx.out
      rw [hL] at hok2 hx2
      obtain ⟨P, hP⟩ : ∃ P, faP n p = P := ⟨_, rfl⟩
      have hPb := faP_bd hlt hn1 hp0 hp1
      rw [hP] at hPb hF2 hE10 hok2 hx2
      obtain ⟨M, E, hME⟩ : ∃ M E, dvF P 10 n 0 = (M, E) := ⟨_, _, rfl⟩
      rw [hME] at hF2 hE10 hok2 hx2
      simp only at hF2 hE10 hok2 hx2
      have DV := Lib.hid hME
      have HF2 := Lib.hid hF2
      have FO := Lib.hid hok2
      have FX := Lib.hid hx2
      have hltI : (1 : Int) < (n : Int) := by omega
      obtain ⟨S, hS⟩ : ∃ S : Nat, p * p = S := ⟨_, rfl⟩
      have hSb : S ≤ 1001 * 1001 := by rw [← hS]; exact Nat.mul_le_mul hp1 hp1
      have YS : Hid (IntKind.i64.wrap ((p : Int) * (p : Int)) = (S : Int) ∧ wrap64 ((p : Int) * (p : Int)) = (S : Int)) := Lib.hid (by rw [show (p : Int) * (p : Int) = (S : Int) by rw [← hS]; simp]; exact w64n (by omega))
      have hP2 := Lib.hid hP
      have hcase : (n < S ∧ P = n) ∨ (¬ n < S ∧ P = p) := by
        have h3 := hP
        unfold faP at h3
        rw [hS] at h3
        by_cases hb : n < S
        · rw [if_pos hb] at h3; exact .inl ⟨hb, h3.symm⟩
        · rw [if_neg hb] at h3; exact .inr ⟨hb, h3.symm⟩
      have HCASE := Lib.hid hcase
      clear hcase
      clear hok hx hok2 hx2 hME hL hF2 hS hP
      obtain ⟨e1, e2⟩ := YS.out
      go_upto_if 14 with fail
      clear e1 e2 hltI
      go_cut [4] (fun t4 wc => t4 = .int .i64 (P : Int) ∧ wr = wc)
      case first =>
        rcases HCASE.out with ⟨hc, hPn⟩ | ⟨hc, hPn⟩
        · have HPN := Lib.hid hPn
          clear hPn
          go_wp2_with fail
          all_goals first
            | (exfalso; omega)
            | (go_meet; exact ⟨by rw [HPN.out], rfl⟩)
        · have HPN := Lib.hid hPn
          clear hPn
          go_wp2_with fail
          all_goals first
            | (exfalso; omega)
            | (go_meet; exact ⟨by rw [HPN.out], rfl⟩)
      case rest =>
        obtain ⟨rfl, rfl⟩ := hcut
        have hPz : ¬ ((P : Int) = 0) := by omega
        have hPz2 : ¬ (P = 0) := by omega
        go_wp2_with fail
        go_loopg [0, 5] 10 (fun k t0 t5 wx => ∃ m e : Nat, t0 = .int .i64 (m : Int) ∧ t5 = .int .i64 (e : Int) ∧ 1 ≤ m ∧ m ≤ 1000 ∧ e ≤ 10 ∧ Hid (m < 2 ^ k) ∧ Hid (e + k = 10) ∧ Hid (dvF P k m e = (M, E)) ∧ Hid (St s wx))
        case atStart => exact ⟨n, 0, rfl, rfl, hn0, hn1, by omega, Lib.hid (by omega), Lib.hid rfl, DV, hM⟩
        case round =>
          clear DV hM
          obtain ⟨m, e, rfl, rfl, hm0, hm1, he10, HM2, HE10, HDV, hM⟩ := hrel
          obtain ⟨r, hr⟩ : ∃ r, m % P = r := ⟨_, rfl⟩
          obtain ⟨q, hq⟩ : ∃ q, m / P = q := ⟨_, rfl⟩
          have T1 : Hid (Int.tmod (m : Int) (P : Int) = (r : Int)) := Lib.hid (by rw [← hr, Int.natCast_emod]; exact Int.tmod_eq_emod_of_nonneg (by omega))
          have T2 : Hid (Int.tdiv (m : Int) (P : Int) = (q : Int)) := Lib.hid (by rw [← hq, Int.natCast_ediv]; exact Int.tdiv_eq_ediv_of_nonneg (by omega))
          have hrb : r ≤ 1001 := by rw [← hr]; exact Nat.le_trans (Nat.mod_le _ _) (by omega)
          have hqb : q ≤ 1000 := by rw [← hq]; exact Nat.le_trans (Nat.div_le_self _ _) hm1
          have Y1 := Lib.hid (w64n (n := (r : Int)) (by omega))
          have Y2 := Lib.hid (w64n (n := (q : Int)) (by omega))
          have HRR := Lib.hid hr
          have HQQ := Lib.hid hq
          clear hr hq
          by_cases hr0 : r = 0
          · subst hr0
            obtain ⟨g2, hgk2, d1, d2, d3⟩ := dvF_go (e := e) hPb.1 hm0 HM2.out HRR.out
            rw [HQQ.out] at d1 d2 d3
            have HV := Lib.hid (d1.symm.trans HDV.out)
            have HD2 := Lib.hid d2
            have HD3 := Lib.hid d3
            have YE := Lib.hid (inc_wrap (i := e) (n := 100) (by omega) (by omega))
            have HG2 := Lib.hid hgk2
            clear d1 d2 d3 hgk2
            have t1 := T1.out
            have t2 := T2.out
            obtain ⟨y1, y2⟩ := Y1.out
            obtain ⟨y3, y4⟩ := Y2.out
            obtain ⟨y5, y6⟩ := YE.out
            go_wp2_with fail
            clear t1 t2 y1 y2 y3 y4 y5 y6
            go_roundg g2
            case measure => have := HG2.out; omega
            case rel => exact ⟨q, e + 1, rfl, rfl, HD2.out, hqb, by have := HE10.out; have := HG2.out; omega, HD3, Lib.hid (by have := HE10.out; have := HG2.out; omega), HV, hM⟩
          · have hre : ((r : Int) == 0) = false := by simp; omega
            have hdv2 := HDV.out
            rw [dvF_end (by rw [HRR.out]; exact hr0)] at hdv2
            obtain ⟨hmM, heE⟩ := Prod.mk.inj hdv2
            subst hmM
            subst heE
            clear hdv2 hr0
            have YP := Lib.hid (inc_wrap (i := P) (n := 2000) (by omega) (by omega))
            by_cases he0 : e = 0
            · subst he0
              have hn3 : decide ((0 : Int) < ((0 : Nat) : Int)) = false := by simp
              have fo := FO.out
              have fx := FX.out
              rw [if_neg (by omega), List.nil_append] at fo fx
              have FO2 := Lib.hid fo
              have FX2 := Lib.hid fx
              clear fo fx
              have t1 := T1.out
              obtain ⟨y1, y2⟩ := Y1.out
              obtain ⟨y5, y6⟩ := YP.out
              go_wp2_with fail
              clear t1 y1 y2 y5 y6
              go_roundg g1
              case measure => omega
              case rel => exact ⟨m, P + 1, s, rfl, rfl, HF2, FO2, FX2, hM⟩
            · have hn3 : (0 : Int) < (e : Int) := by omega
              have hn4 : 0 < e := by omega
              have fo := FO.out
              have fx := FX.out
              rw [if_pos hn4] at fo fx
              have FO1 := Lib.hid (show ok s P e from fo.1)
              have FO2 := Lib.hid (show okS ok step (faL g1 m (P + 1)) (step s P e) from fo.2)
              have FX2 := Lib.hid (show foldS step (faL g1 m (P + 1)) (step s P e) = R from fx)
              have CL := Lib.hid (fun u hu => HCL.out s P e u hPb.1 hPb.2 hn4 he10 FO1.out hu)
              clear fo fx
              have t1 := T1.out
              obtain ⟨y1, y2⟩ := Y1.out
              obtain ⟨y5, y6⟩ := YP.out
              go_wp2_with (go_at_call 132; (with_reducible refine (CL.out _ hM.out).mono ?_); (rintro x w3 ⟨rfl, hM3⟩; have HM3 := Lib.hid hM3; clear hM3))
              clear t1 y1 y2 y5 y6
              go_roundg g1
              case measure => omega
              case rel => exact ⟨m, P + 1, step s P e, rfl, rfl, HF2, FO2, FX2, HM3⟩
    · have hnl : ¬ ((1 : Int) < (n : Int)) := by omega
      have hn3 : n = 1 := by omega
      have HE : Hid (s = R) := Lib.hid (by
        have h3 := hx.out
        rw [faL_one _ _ hlt] at h3
        exact h3)
      clear hlt
      go_wp2_with fail
      (try simp only [Exit.inBlock, Exit.then])
      first
        | (refine bodyPost_end (results_none rfl _ _ _) rfl ?_; exact ⟨rfl, by rw [← HE.out]; exact hM.out⟩)
        | (refine bodyPost_ret (v := .tuple #[]) (results_none rfl _ _ _) rfl ?_; exact ⟨rfl, by rw [← HE.out]; exact hM.out⟩)
end Go.Proofs.YtbpkfcohbefphaaGreatDoor
namespace Go.Proofs.YtbpkfcohbefphaaGreatDoor
open Go Go.RowKit
set_option maxRecDepth 20000 in
set_option maxHeartbeats 8000000 in
theorem factorsP {σ : Type} (St : σ → World → Prop) (ok : σ → Nat → Nat → Prop) (step : σ → Nat → Nat → σ) (c1 c2 : Value)
    (CL : ∀ (s : σ) (p e : Nat) (u : World), 2 ≤ p → p ≤ 1001 → 1 ≤ e → e ≤ 10 → ok s p e → St s u → Calls Tryz.prog 100 #[.int .i64 (p : Int), .int .i64 (e : Int), c1, c2] u fun x w' => x = .returned (.tuple #[]) ∧ St (step s p e) w')
    (N : Nat) (h1 : 1 ≤ N) (h2 : N ≤ 1000) (s0 : σ) (hok : okS ok step (faL 33 N 2) s0) (w1 : World) (hM1 : St s0 w1) :
    Calls Tryz.prog 28 #[.int .i64 (N : Int), .func (.func 100) #[] #[c1, c2]] w1 fun x w' => x = .returned (.tuple #[]) ∧ St (foldS step (faL 33 N 2) s0) w' := by
  obtain ⟨R, hR⟩ : ∃ R, foldS step (faL 33 N 2) s0 = R := ⟨_, rfl⟩
  rw [hR]
  have HR := Lib.hid hR
  have HOK := Lib.hid hok
  have HM1 := Lib.hid hM1
  have HCL := Lib.hid CL
  have HF := Lib.hid (FaH.start h1 h2)
  clear hR hok hM1 CL
  go_enter Tryz.func28, Tryz.ntmps28
  go_wp2_with fail
  go_loopg [0, 4] 33 (fun k t0 t4 wr => ∃ (n p : Nat) (s : σ), t0 = .int .i64 (n : Int) ∧ t4 = .int .i64 (p : Int) ∧ Hid (FaH k n p) ∧ Hid (okS ok step (faL k n p) s) ∧ Hid (foldS step (faL k n p) s = R) ∧ Hid (St s wr))
  case atStart => exact ⟨N, 2, s0, rfl, rfl, HF, HOK, HR, HM1⟩
  case round =>
    clear HR HOK HM1 HF
    obtain ⟨n, p, s, rfl, rfl, HF, hok, hx, hM⟩ := hrel
    have hn0 : 1 ≤ n := HF.out.1
    have hn1 : n ≤ 1000 := HF.out.2.1
    have hp0 : 2 ≤ p := HF.out.2.2.1
    have hp1 : p ≤ 1001 := HF.out.2.2.2.1
    by_cases hlt : 1 < n
    · obtain ⟨g1, hgk, hF2, hE10, hL⟩ := HF.out.next hlt
      have hok2 := hok.out
      have hx2 := hx.out
      rw [hL] at hok2 hx2
      obtain ⟨P, hP⟩ : ∃ P, faP n p = P := ⟨_, rfl⟩
      have hPb := faP_bd hlt hn1 hp0 hp1
      rw [hP] at hPb hF2 hE10 hok2 hx2
      obtain ⟨M, E, hME⟩ : ∃ M E, dvF P 10 n 0 = (M, E) := ⟨_, _, rfl⟩
      rw [hME] at hF2 hE10 hok2 hx2
      simp only at hF2 hE10 hok2 hx2
      have DV := Lib.hid hME
      have HF2 := Lib.hid hF2
      have FO := Lib.hid hok2
      have FX := Lib.hid hx2
      have hltI : (1 : Int) < (n : Int) := by omega
      obtain ⟨S, hS⟩ : ∃ S : Nat, p * p = S := ⟨_, rfl⟩
      have hSb : S ≤ 1001 * 1001 := by rw [← hS]; exact Nat.mul_le_mul hp1 hp1
      have YS : Hid (IntKind.i64.wrap ((p : Int) * (p : Int)) = (S : Int) ∧ wrap64 ((p : Int) * (p : Int)) = (S : Int)) := Lib.hid (by rw [show (p : Int) * (p : Int) = (S : Int) by rw [← hS]; simp]; exact w64n (by omega))
      have hP2 := Lib.hid hP
      have hcase : (n < S ∧ P = n) ∨ (¬ n < S ∧ P = p) := by
        have h3 := hP
        unfold faP at h3
        rw [hS] at h3
        by_cases hb : n < S
        · rw [if_pos hb] at h3; exact .inl ⟨hb, h3.symm⟩
        · rw [if_neg hb] at h3; exact .inr ⟨hb, h3.symm⟩
      have HCASE := Lib.hid hcase
      clear hcase
      clear hok hx hok2 hx2 hME hL hF2 hS hP
      obtain ⟨e1, e2⟩ := YS.out
      go_upto_if 14 with fail
      clear e1 e2 hltI
      go_cut [4] (fun t4 wc => t4 = .int .i64 (P : Int) ∧ wr = wc)
      case first =>
        rcases HCASE.out with ⟨hc, hPn⟩ | ⟨hc, hPn⟩
        · have HPN := Lib.hid hPn
          clear hPn
          go_wp2_with fail
          all_goals first
            | (exfalso; omega)
            | (go_meet; exact ⟨by rw [HPN.out], rfl⟩)
        · have HPN := Lib.hid hPn
          clear hPn
          go_wp2_with fail
          all_goals first
            | (exfalso; omega)
            | (go_meet; exact ⟨by rw [HPN.out], rfl⟩)
      case rest =>
        obtain ⟨rfl, rfl⟩ := hcut
        have hPz : ¬ ((P : Int) = 0) := by omega
        have hPz2 : ¬ (P = 0) := by omega
        go_wp2_with fail
        go_loopg [0, 5] 10 (fun k t0 t5 wx => ∃ m e : Nat, t0 = .int .i64 (m : Int) ∧ t5 = .int .i64 (e : Int) ∧ 1 ≤ m ∧ m ≤ 1000 ∧ e ≤ 10 ∧ Hid (m < 2 ^ k) ∧ Hid (e + k = 10) ∧ Hid (dvF P k m e = (M, E)) ∧ Hid (St s wx))
        case atStart => exact ⟨n, 0, rfl, rfl, hn0, hn1, by omega, Lib.hid (by omega), Lib.hid rfl, DV, hM⟩
        case round =>
          clear DV hM
          obtain ⟨m, e, rfl, rfl, hm0, hm1, he10, HM2, HE10, HDV, hM⟩ := hrel
          obtain ⟨r, hr⟩ : ∃ r, m % P = r := ⟨_, rfl⟩
          obtain ⟨q, hq⟩ : ∃ q, m / P = q := ⟨_, rfl⟩
          have T1 : Hid (Int.tmod (m : Int) (P : Int) = (r : Int)) := Lib.hid (by rw [← hr, Int.natCast_emod]; exact Int.tmod_eq_emod_of_nonneg (by omega))
          have T2 : Hid (Int.tdiv (m : Int) (P : Int) = (q : Int)) := Lib.hid (by rw [← hq, Int.natCast_ediv]; exact Int.tdiv_eq_ediv_of_nonneg (by omega))
          have hrb : r ≤ 1001 := by rw [← hr]; exact Nat.le_trans (Nat.mod_le _ _) (by omega)
          have hqb : q ≤ 1000 := by rw [← hq]; exact Nat.le_trans (Nat.div_le_self _ _) hm1
          have Y1 := Lib.hid (w64n (n := (r : Int)) (by omega))
          have Y2 := Lib.hid (w64n (n := (q : Int)) (by omega))
          have HRR := Lib.hid hr
          have HQQ := Lib.hid hq
          clear hr hq
          by_cases hr0 : r = 0
          · subst hr0
            obtain ⟨g2, hgk2, d1, d2, d3⟩ := dvF_go (e := e) hPb.1 hm0 HM2.out HRR.out
            rw [HQQ.out] at d1 d2 d3
            have HV := Lib.hid (d1.symm.trans HDV.out)
            have HD2 := Lib.hid d2
            have HD3 := Lib.hid d3
            have YE := Lib.hid (inc_wrap (i := e) (n := 100) (by omega) (by omega))
            have HG2 := Lib.hid hgk2
            clear d1 d2 d3 hgk2
            have t1 := T1.out
            have t2 := T2.out
            obtain ⟨y1, y2⟩ := Y1.out
            obtain ⟨y3, y4⟩ := Y2.out
            obtain ⟨y5, y6⟩ := YE.out
            go_wp2_with fail
            clear t1 t2 y1 y2 y3 y4 y5 y6
            go_roundg g2
            case measure => have := HG2.out; omega
            case rel => exact ⟨q, e + 1, rfl, rfl, HD2.out, hqb, by have := HE10.out; have := HG2.out; omega, HD3, Lib.hid (by have := HE10.out; have := HG2.out; omega), HV, hM⟩
          · have hre : ((r : Int) == 0) = false := by simp; omega
            have hdv2 := HDV.out
            rw [dvF_end (by rw [HRR.out]; exact hr0)] at hdv2
            obtain ⟨hmM, heE⟩ := Prod.mk.inj hdv2
            subst hmM
            subst heE
            clear hdv2 hr0
            have YP := Lib.hid (inc_wrap (i := P) (n := 2000) (by omega) (by omega))
            by_cases he0 : e = 0
            · subst he0
              have hn3 : decide ((0 : Int) < ((0 : Nat) : Int)) = false := by simp
              have fo := FO.out
              have fx := FX.out
              rw [if_neg (by omega), List.nil_append] at fo fx
              have FO2 := Lib.hid fo
              have FX2 := Lib.hid fx
              clear fo fx
              have t1 := T1.out
              obtain ⟨y1, y2⟩ := Y1.out
              obtain ⟨y5, y6⟩ := YP.out
              go_wp2_with fail
              clear t1 y1 y2 y5 y6
              go_roundg g1
              case measure => omega
              case rel => exact ⟨m, P + 1, s, rfl, rfl, HF2, FO2, FX2, hM⟩
            · have hn3 : (0 : Int) < (e : Int) := by omega
              have hn4 : 0 < e := by omega
              have fo := FO.out
              have fx := FX.out
              rw [if_pos hn4] at fo fx
              have FO1 := Lib.hid (show ok s P e from fo.1)
              have FO2 := Lib.hid (show okS ok step (faL g1 m (P + 1)) (step s P e) from fo.2)
              have FX2 := Lib.hid (show foldS step (faL g1 m (P + 1)) (step s P e) = R from fx)
              have CL := Lib.hid (fun u hu => HCL.out s P e u hPb.1 hPb.2 hn4 he10 FO1.out hu)
              clear fo fx
              have t1 := T1.out
              obtain ⟨y1, y2⟩ := Y1.out
              obtain ⟨y5, y6⟩ := YP.out
              go_wp2_with (go_at_call 100; (with_reducible refine (CL.out _ hM.out).mono ?_); (rintro x w3 ⟨rfl, hM3⟩; have HM3 := Lib.hid hM3; clear hM3))
              clear t1 y1 y2 y5 y6
              go_roundg g1
              case measure => omega
              case rel => exact ⟨m, P + 1, step s P e, rfl, rfl, HF2, FO2, FX2, HM3⟩
    · have hnl : ¬ ((1 : Int) < (n : Int)) := by omega
      have hn3 : n = 1 := by omega
      have HE : Hid (s = R) := Lib.hid (by
        have h3 := hx.out
        rw [faL_one _ _ hlt] at h3
        exact h3)
      clear hlt
      go_wp2_with fail
      (try simp only [Exit.inBlock, Exit.then])
      first
        | (refine bodyPost_end (results_none rfl _ _ _) rfl ?_; exact ⟨rfl, by rw [← HE.out]; exact hM.out⟩)
        | (refine bodyPost_ret (v := .tuple #[]) (results_none rfl _ _ _) rfl ?_; exact ⟨rfl, by rw [← HE.out]; exact hM.out⟩)
set_option maxRecDepth 20000 in
set_option maxHeartbeats 8000000 in
theorem factorsD {σ : Type} (St : σ → World → Prop) (ok : σ → Nat → Nat → Prop) (step : σ → Nat → Nat → σ) (c1 : Value)
    (CL : ∀ (s : σ) (p e : Nat) (u : World), 2 ≤ p → p ≤ 1001 → 1 ≤ e → e ≤ 10 → ok s p e → St s u → Calls Tryz.prog 29 #[.int .i64 (p : Int), .int .i64 (e : Int), c1] u fun x w' => x = .returned (.tuple #[]) ∧ St (step s p e) w')
    (N : Nat) (h1 : 1 ≤ N) (h2 : N ≤ 1000) (s0 : σ) (hok : okS ok step (faL 33 N 2) s0) (w1 : World) (hM1 : St s0 w1) :
    Calls Tryz.prog 28 #[.int .i64 (N : Int), .func (.func 29) #[] #[c1]] w1 fun x w' => x = .returned (.tuple #[]) ∧ St (foldS step (faL 33 N 2) s0) w' := by
  obtain ⟨R, hR⟩ : ∃ R, foldS step (faL 33 N 2) s0 = R := ⟨_, rfl⟩
  rw [hR]
  have HR := Lib.hid hR
  have HOK := Lib.hid hok
  have HM1 := Lib.hid hM1
  have HCL := Lib.hid CL
  have HF := Lib.hid (FaH.start h1 h2)
  clear hR hok hM1 CL
  go_enter Tryz.func28, Tryz.ntmps28
  go_wp2_with fail
  go_loopg [0, 4] 33 (fun k t0 t4 wr => ∃ (n p : Nat) (s : σ), t0 = .int .i64 (n : Int) ∧ t4 = .int .i64 (p : Int) ∧ Hid (FaH k n p) ∧ Hid (okS ok step (faL k n p) s) ∧ Hid (foldS step (faL k n p) s = R) ∧ Hid (St s wr))
  case atStart => exact ⟨N, 2, s0, rfl, rfl, HF, HOK, HR, HM1⟩
  case round =>
    clear HR HOK HM1 HF
    obtain ⟨n, p, s, rfl, rfl, HF, hok, hx, hM⟩ := hrel
    have hn0 : 1 ≤ n := HF.out.1
    have hn1 : n ≤ 1000 := HF.out.2.1
    have hp0 : 2 ≤ p := HF.out.2.2.1
    have hp1 : p ≤ 1001 := HF.out.2.2.2.1
    by_cases hlt : 1 < n
    · obtain ⟨g1, hgk, hF2, hE10, hL⟩ := HF.out.next hlt
      have hok2 := hok.out
      have hx2 := hx.out
      rw [hL] at hok2 hx2
      obtain ⟨P, hP⟩ : ∃ P, faP n p = P := ⟨_, rfl⟩
      have hPb := faP_bd hlt hn1 hp0 hp1
      rw [hP] at hPb hF2 hE10 hok2 hx2
      obtain ⟨M, E, hME⟩ : ∃ M E, dvF P 10 n 0 = (M, E) := ⟨_, _, rfl⟩
      rw [hME] at hF2 hE10 hok2 hx2
      simp only at hF2 hE10 hok2 hx2
      have DV := Lib.hid hME
      have HF2 := Lib.hid hF2
      have FO := Lib.hid hok2
      have FX := Lib.hid hx2
      have hltI : (1 : Int) < (n : Int) := by omega
      obtain ⟨S, hS⟩ : ∃ S : Nat, p * p = S := ⟨_, rfl⟩
      have hSb : S ≤ 1001 * 1001 := by rw [← hS]; exact Nat.mul_le_mul hp1 hp1
      have YS : Hid (IntKind.i64.wrap ((p : Int) * (p : Int)) = (S : Int) ∧ wrap64 ((p : Int) * (p : Int)) = (S : Int)) := Lib.hid (by rw [show (p : Int) * (p : Int) = (S : Int) by rw [← hS]; simp]; exact w64n (by omega))
      have hP2 := Lib.hid hP
      have hcase : (n < S ∧ P = n) ∨ (¬ n < S ∧ P = p) := by
        have h3 := hP
        unfold faP at h3
        rw [hS] at h3
        by_cases hb : n < S
        · rw [if_pos hb] at h3; exact .inl ⟨hb, h3.symm⟩
        · rw [if_neg hb] at h3; exact .inr ⟨hb, h3.symm⟩
      have HCASE := Lib.hid hcase
      clear hcase
      clear hok hx hok2 hx2 hME hL hF2 hS hP
      obtain ⟨e1, e2⟩ := YS.out
      go_upto_if 14 with fail
      clear e1 e2 hltI
      go_cut [4] (fun t4 wc => t4 = .int .i64 (P : Int) ∧ wr = wc)
      case first =>
        rcases HCASE.out with ⟨hc, hPn⟩ | ⟨hc, hPn⟩
        · have HPN := Lib.hid hPn
          clear hPn
          go_wp2_with fail
          all_goals first
            | (exfalso; omega)
            | (go_meet; exact ⟨by rw [HPN.out], rfl⟩)
        · have HPN := Lib.hid hPn
          clear hPn
          go_wp2_with fail
          all_goals first
            | (exfalso; omega)
            | (go_meet; exact ⟨by rw [HPN.out], rfl⟩)
      case rest =>
        obtain ⟨rfl, rfl⟩ := hcut
        have hPz : ¬ ((P : Int) = 0) := by omega
        have hPz2 : ¬ (P = 0) := by omega
        go_wp2_with fail
        go_loopg [0, 5] 10 (fun k t0 t5 wx => ∃ m e : Nat, t0 = .int .i64 (m : Int) ∧ t5 = .int .i64 (e : Int) ∧ 1 ≤ m ∧ m ≤ 1000 ∧ e ≤ 10 ∧ Hid (m < 2 ^ k) ∧ Hid (e + k = 10) ∧ Hid (dvF P k m e = (M, E)) ∧ Hid (St s wx))
        case atStart => exact ⟨n, 0, rfl, rfl, hn0, hn1, by omega, Lib.hid (by omega), Lib.hid rfl, DV, hM⟩
        case round =>
          clear DV hM
          obtain ⟨m, e, rfl, rfl, hm0, hm1, he10, HM2, HE10, HDV, hM⟩ := hrel
          obtain ⟨r, hr⟩ : ∃ r, m % P = r := ⟨_, rfl⟩
          obtain ⟨q, hq⟩ : ∃ q, m / P = q := ⟨_, rfl⟩
          have T1 : Hid (Int.tmod (m : Int) (P : Int) = (r : Int)) := Lib.hid (by rw [← hr, Int.natCast_emod]; exact Int.tmod_eq_emod_of_nonneg (by omega))
          have T2 : Hid (Int.tdiv (m : Int) (P : Int) = (q : Int)) := Lib.hid (by rw [← hq, Int.natCast_ediv]; exact Int.tdiv_eq_ediv_of_nonneg (by omega))
          have hrb : r ≤ 1001 := by rw [← hr]; exact Nat.le_trans (Nat.mod_le _ _) (by omega)
          have hqb : q ≤ 1000 := by rw [← hq]; exact Nat.le_trans (Nat.div_le_self _ _) hm1
          have Y1 := Lib.hid (w64n (n := (r : Int)) (by omega))
          have Y2 := Lib.hid (w64n (n := (q : Int)) (by omega))
          have HRR := Lib.hid hr
          have HQQ := Lib.hid hq
          clear hr hq
          by_cases hr0 : r = 0
          · subst hr0
            obtain ⟨g2, hgk2, d1, d2, d3⟩ := dvF_go (e := e) hPb.1 hm0 HM2.out HRR.out
            rw [HQQ.out] at d1 d2 d3
            have HV := Lib.hid (d1.symm.trans HDV.out)
            have HD2 := Lib.hid d2
            have HD3 := Lib.hid d3
            have YE := Lib.hid (inc_wrap (i := e) (n := 100) (by omega) (by omega))
            have HG2 := Lib.hid hgk2
            clear d1 d2 d3 hgk2
            have t1 := T1.out
            have t2 := T2.out
            obtain ⟨y1, y2⟩ := Y1.out
            obtain ⟨y3, y4⟩ := Y2.out
            obtain ⟨y5, y6⟩ := YE.out
            go_wp2_with fail
            clear t1 t2 y1 y2 y3 y4 y5 y6
            go_roundg g2
            case measure => have := HG2.out; omega
            case rel => exact ⟨q, e + 1, rfl, rfl, HD2.out, hqb, by have := HE10.out; have := HG2.out; omega, HD3, Lib.hid (by have := HE10.out; have := HG2.out; omega), HV, hM⟩
          · have hre : ((r : Int) == 0) = false := by simp; omega
            have hdv2 := HDV.out
            rw [dvF_end (by rw [HRR.out]; exact hr0)] at hdv2
            obtain ⟨hmM, heE⟩ := Prod.mk.inj hdv2
            subst hmM
            subst heE
            clear hdv2 hr0
            have YP := Lib.hid (inc_wrap (i := P) (n := 2000) (by omega) (by omega))
            by_cases he0 : e = 0
            · subst he0
              have hn3 : decide ((0 : Int) < ((0 : Nat) : Int)) = false := by simp
              have fo := FO.out
              have fx := FX.out
              rw [if_neg (by omega), List.nil_append] at fo fx
              have FO2 := Lib.hid fo
              have FX2 := Lib.hid fx
              clear fo fx
              have t1 := T1.out
              obtain ⟨y1, y2⟩ := Y1.out
              obtain ⟨y5, y6⟩ := YP.out
              go_wp2_with fail
              clear t1 y1 y2 y5 y6
              go_roundg g1
              case measure => omega
              case rel => exact ⟨m, P + 1, s, rfl, rfl, HF2, FO2, FX2, hM⟩
            · have hn3 : (0 : Int) < (e : Int) := by omega
              have hn4 : 0 < e := by omega
              have fo := FO.out
              have fx := FX.out
              rw [if_pos hn4] at fo fx
              have FO1 := Lib.hid (show ok s P e from fo.1)
              have FO2 := Lib.hid (show okS ok step (faL g1 m (P + 1)) (step s P e) from fo.2)
              have FX2 := Lib.hid (show foldS step (faL g1 m (P + 1)) (step s P e) = R from fx)
              have CL := Lib.hid (fun u hu => HCL.out s P e u hPb.1 hPb.2 hn4 he10 FO1.out hu)
              clear fo fx
              have t1 := T1.out
              obtain ⟨y1, y2⟩ := Y1.out
              obtain ⟨y5, y6⟩ := YP.out
              go_wp2_with (go_at_call 29; (with_reducible refine (CL.out _ hM.out).mono ?_); (rintro x w3 ⟨rfl, hM3⟩; have HM3 := Lib.hid hM3; clear hM3))
              clear t1 y1 y2 y5 y6
              go_roundg g1
              case measure => omega
              case rel => exact ⟨m, P + 1, step s P e, rfl, rfl, HF2, FO2, FX2, HM3⟩
    · have hnl : ¬ ((1 : Int) < (n : Int)) := by omega
      have hn3 : n = 1 := by omega
      have HE : Hid (s = R) := Lib.hid (by
        have h3 := hx.out
        rw [faL_one _ _ hlt] at h3
        exact h3)
      clear hlt
      go_wp2_with fail
      (try simp only [Exit.inBlock, Exit.then])
      first
        | (refine bodyPost_end (results_none rfl _ _ _) rfl ?_; exact ⟨rfl, by rw [← HE.out]; exact hM.out⟩)
        | (refine bodyPost_ret (v := .tuple #[]) (results_none rfl _ _ _) rfl ?_; exact ⟨rfl, by rw [← HE.out]; exact hM.out⟩)
end Go.Proofs.YtbpkfcohbefphaaGreatDoor
