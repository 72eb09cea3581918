/- Lemmas, plain laws and walks that the statement LwThreeSquares leans on (texts RwL, RwM, RwU), conditions as each theorem says. -/
import Derived.Test.YtbpkfcohbefphaaGreatTopThreeSquaresG10

/- Walks over grids: store. -/
namespace Go.Proofs.YtbpkfcohbefphaaGreat
open Go Go.RowKit
theorem infoMat : (Tryz.prog.info? 95).map (fun i => (i.zero, i.size, i.bytes)) = some (some (.agg #[.int .i64 0, .int .i64 0, .slice none 0 0]), 3, 40) := by kernel_rfl
theorem div_mod_step {j m i : Nat} (hi : ¬ i < j * m) (hi2 : i < j * m + m) : i / m = j ∧ i % m = i - j * m := by
  have hm : 0 < m := by
    rcases Nat.eq_zero_or_pos m with h | h
    · subst h; omega
    · exact h
  have e : i = (i - j * m) + m * j := by rw [Nat.mul_comm m j]; omega
  constructor
  · rw [e, Nat.add_mul_div_left _ _ hm, Nat.div_eq_of_lt (by omega)]; omega
  · conv => lhs; rw [e]
    rw [Nat.add_mul_mod_self_left, Nat.mod_eq_of_lt (by omega)]
/-- The two cells of store: what it returns (block w.heap.size), and out. -/
def StR (w : World) (n m : Nat) (u : World) (L : Nat) (av : Option Addr) (cv z : Nat) : Prop :=
  Grow w u ∧ u.cell? ⟨w.heap.size + 1, 0, none⟩ = some (.int .i64 (n : Int)) ∧ u.cell? ⟨w.heap.size + 1, 1, none⟩ = some (.int .i64 (m : Int)) ∧ u.cell? ⟨w.heap.size + 1, 2, none⟩ = some (.slice av L cv) ∧
  u.cell? ⟨w.heap.size, 0, none⟩ = some (.int .i64 0) ∧ u.cell? ⟨w.heap.size, 1, none⟩ = some (.int .i64 0) ∧ u.cell? ⟨w.heap.size, 2, none⟩ = some (.slice none z z) ∧
  (∀ o, u.frozen? ⟨w.heap.size, o, none⟩ = false) ∧ (∀ o, u.frozen? ⟨w.heap.size + 1, o, none⟩ = false) ∧ w.heap.size + 1 < u.heap.size
set_option maxRecDepth 20000 in
set_option maxHeartbeats 8000000 in
theorem storeQ (n m Ga ca : Nat) (Ra Oa Ca : Nat → Nat) (A : Nat → Nat → Rat) (hn : 0 < n) (hn' : n ≤ 1000) (hm : 0 < m) (hm' : m ≤ 1000) (w : World) (hA : GridQ w Ga n Ra Oa Ca m A) :
    Calls Tryz.prog 136 #[.int .i64 (m : Int), .slice (some ⟨Ga, 0, none⟩) n ca] w fun e w' =>
    ∃ B N c, e = .returned (.agg #[.int .i64 (n : Int), .int .i64 (m : Int), .slice (some ⟨B, 0, none⟩) N c]) ∧ N = n * m ∧ N ≤ c ∧ w.heap.size ≤ B ∧ RowQ w' B 0 N (fun k => A (k / m) (k % m)) ∧ Grow w w' := by
  obtain ⟨ir, hir, irz0, irz1, irz2⟩ := info_parts infoRat
  have HA := Lib.hid hA
  have hzA := hA.lt
  clear hA
  go_enter Tryz.func136, Tryz.ntmps136
  go_upto_region 3 with fail
  obtain ⟨W2, hW2⟩ : ∃ W2 : World, W2 = (w.alloc (.cells #[.int .i64 0, .int .i64 0, .slice none 0 0] 95)).alloc (.cells #[.int .i64 (n : Int), .int .i64 (m : Int), .slice none 0 0] 95) := ⟨_, rfl⟩
  rw [← hW2]
  have g2 : Grow w W2 := by rw [hW2]; (repeat (first | with_reducible exact Grow.refl _ | with_reducible refine Grow.alloc ?_ _ | with_reducible refine Grow.drew ?_ | with_reducible refine Grow.drewN ?_ _ | (with_reducible refine Grow.setCell ?_ ?hp _; (case hp => (simp; try omega))) | with_reducible refine Grow.trans ?_ (by assumption)))
  have hz2 : W2.heap.size = w.heap.size + 1 + 1 := by rw [hW2]; simp
  have c0 : StR w n m W2 0 none 0 0 := by
    refine ⟨g2, ?_, ?_, ?_, ?_, ?_, ?_, ?_, ?_, by omega⟩ <;> first | (rw [hW2]; go_simp; done) | (intro o; rw [hW2]; go_simp)
  have C0 := Lib.hid c0
  clear hW2 g2 c0 hz2
  go_loopg [14] n (fun gk t14 wr => ∃ (j L cv : Nat) (av : Option Addr) (xs : List Value), t14 = .int .i64 (j : Int) ∧ j ≤ n ∧ Hid (gk = n - j) ∧ Hid (L = j * m) ∧ Hid (StR w n m wr L av cv 0) ∧ Hid (wr.ownsRow (w.heap.size + 1 + 1) 36 4 (.slice av L cv) L xs) ∧ Hid (ListR w xs L (fun k => A (k / m) (k % m))))
  case atStart => exact ⟨0, 0, 0, none, [], rfl, Nat.zero_le _, Lib.hid rfl, Lib.hid (by rw [Nat.zero_mul]), C0, Lib.hid ⟨rfl, .inl ⟨rfl, rfl⟩⟩, Lib.hid (ListR.nil _ _)⟩
  case round =>
    obtain ⟨j, L, cv, av, xs, rfl, hj2, HGK, HL, HS, HO, HX⟩ := hrel
    obtain ⟨hg, c1, c2, c3, r1, r2, r3, ff1, ff2, hsz⟩ := HS.out
    have hG := Lib.hid hg
    by_cases hjm : j = n
    · have y1 : decide ((j : Int) < (n : Int)) = false := by simp; omega
      subst hjm
      have hLp : 0 < L := by rw [HL.out]; exact Nat.mul_pos hn hm
      obtain ⟨g, cap, hv, hg1, hg2⟩ := own_slice HO.out hLp
      injection hv with h1 h2 h3
      subst h1 h3
      have HO' := Lib.hid HO.out
      clear HO
      go_wp2_with fail
      have e1 := own_set (own_set (own_set HO'.out (a := ⟨w.heap.size, 0, none⟩) (by show w.heap.size < _; omega) (.int .i64 (j : Int))) (a := ⟨w.heap.size, 1, none⟩) (by show w.heap.size < _; omega) (.int .i64 (m : Int))) (a := ⟨w.heap.size, 2, none⟩) (by show w.heap.size < _; omega) (.slice (some ⟨g, 0, none⟩) L cv)
      have hgF : Grow w (((wr.setCell ⟨w.heap.size, 0, none⟩ (.int .i64 (j : Int))).setCell ⟨w.heap.size, 1, none⟩ (.int .i64 (m : Int))).setCell ⟨w.heap.size, 2, none⟩ (.slice (some ⟨g, 0, none⟩) L cv)) := ((hG.out.setCell (Nat.le_refl _) _).setCell (Nat.le_refl _) _).setCell (Nat.le_refl _) _
      refine bodyPost_ret (v := .agg #[.int .i64 (j : Int), .int .i64 (m : Int), .slice (some ⟨g, 0, none⟩) L cv]) (by rw [results_one rfl]; go_simp) rfl ⟨g, L, cv, rfl, HL.out, (own_cells HO'.out).2.2.1, by omega, own_rowq e1 (HX.out.grow hgF), hgF⟩
    · have y0 : (0 : Int) ≤ (j : Int) := by omega
      have y2 : (j : Int) < (n : Int) := by omega
      have qa := (HA.out.grow hg).cell j (by omega)
      obtain ⟨ys, hyl, hyr⟩ := (HA.out.row j (by omega)).toList (HA.out.cap j (by omega))
      have HYL := Lib.hid hyl
      have HYR := Lib.hid (hyr.grow hg)
      have hLb : L ≤ 999000 := by
        rw [HL.out]
        exact Nat.le_trans (Nat.mul_le_mul (show j ≤ 999 by omega) hm') (by omega)
      clear hyl hyr hg
      go_wp2_with (at_builtin; refine wpList_append_rd _ rfl _ _ 23 rfl 36 ir _ 4 64 Tryz.underlying23 hir irz0 irz1 irz2 rfl (by decide) (w.heap.size + 1 + 1) _ L xs rfl HO.out _ m ys rfl HYR.out (by omega) (by decide) (by omega) ?_)
      intro v5 w5 hown5 hgrow5
      obtain ⟨a5, c5, rfl⟩ := own_form hown5
      obtain ⟨kc, kf⟩ := own_kept HO.out hgrow5 (by omega)
      have hs5 : wr.heap.size ≤ w5.heap.size := hgrow5.size
      have hg5 : Grow w w5 := hG.out.grown hgrow5 (fun k hk => by have := (HO.out.lt k hk).1; omega)
      have HC5 : Hid (StR w n m w5 L av cv 0) := Lib.hid ⟨hg5, (kc _ _ (by omega)).trans c1, (kc _ _ (by omega)).trans c2, (kc _ _ (by omega)).trans c3, (kc _ _ (by omega)).trans r1, (kc _ _ (by omega)).trans r2, (kc _ _ (by omega)).trans r3, fun o => (kf _ _ (by omega)).trans (ff1 o), fun o => (kf _ _ (by omega)).trans (ff2 o), by omega⟩
      have HO5 := Lib.hid hown5
      clear hown5 hgrow5 kc kf hg5 hs5 c1 c2 c3 r1 r2 r3 ff1 ff2
      obtain ⟨-, c1, c2, c3, r1, r2, r3, ff1, ff2, hsz5⟩ := HC5.out
      obtain ⟨L5, hL5⟩ : ∃ L5, L + m = L5 := ⟨_, rfl⟩
      rw [hL5] at HO5 ⊢
      have HL5 := Lib.hid hL5
      clear hL5
      have y4 : IntKind.i64.wrap ((j : Int) + 1) = ((j + 1 : Nat) : Int) := (IntWalk.i64_in ((j : Int) + 1) (by omega)).trans (by omega)
      have y3 : wrap64 ((j : Int) + 1) = ((j + 1 : Nat) : Int) := by clear y4; unfold wrap64; omega
      go_wp2_with fail
      clear y3 y4
      go_roundg (n - (j + 1))
      case measure => have := HGK.out; omega
      case rel =>
        refine ⟨j + 1, L5, c5, a5, xs ++ ys, rfl, by omega, Lib.hid rfl, Lib.hid (by rw [← HL5.out, HL.out, Nat.add_mul, Nat.one_mul]), Lib.hid ⟨HC5.out.1.setCell (by show w.heap.size ≤ w.heap.size + 1; omega) _, by go_simp, by go_simp, by go_simp, by go_simp, by go_simp, by go_simp, by intro o; simpa using ff1 o, by intro o; simpa using ff2 o, by simpa [World.setCell] using hsz5⟩, Lib.hid (own_set HO5.out (by show w.heap.size + 1 < _; omega) _), Lib.hid ?_⟩
        have h1 := HX.out.append HYL.out
        rw [HL5.out] at h1
        refine h1.cong (fun i hi => ?_)
        by_cases hiL : i < L
        · rw [if_pos hiL]
        · rw [if_neg hiL]
          have h2 := HL.out
          have h3 := HL5.out
          subst h2
          obtain ⟨e1, e2⟩ := div_mod_step hiL (by omega)
          rw [e1, e2]
end Go.Proofs.YtbpkfcohbefphaaGreat
/- Elimination: the plain steps, their bounds, and what stands in memory while reduce walks. -/
namespace Go.Proofs.YtbpkfcohbefphaaGreat
open Go Go.RowKit

/-- The pivot's row divided. -/
def elimP (c : Nat) (M : Nat → Nat → Rat) : Nat → Nat → Rat := upd M c (fun i => if c ≤ i then M c i / M c c else M c i)
/-- Rows before j cleared. -/
def elimJ (c j : Nat) (M : Nat → Nat → Rat) : Nat → Nat → Rat := fun a i => if a ≠ c ∧ a < j ∧ c ≤ i then M a i + -(M a c) * M c i else M a i
def elim (n c : Nat) (M : Nat → Nat → Rat) : Nat → Nat → Rat := elimJ c n (elimP c M)
def redM (n : Nat) : Nat → (Nat → Nat → Rat) → (Nat → Nat → Rat)
  | 0, M => M
  | c + 1, M => elim n c (redM n c M)
def redD (n : Nat) : Nat → (Nat → Nat → Rat) → Rat
  | 0, _ => 1
  | c + 1, M => redD n c M * redM n c M c c
/-- One step stays in one digit. -/
structure RedB (n m c : Nat) (d : Rat) (N : Nat → Nat → Rat) : Prop where
  piv : N c c ≠ 0
  det : MulB d (N c c)
  quo : ∀ i, c ≤ i → i < m → N c i ≠ 0 → QuoB (N c i) (N c c)
  row : ∀ j, j < n → j ≠ c → N j c ≠ 0 → ∀ i, c ≤ i → i < m → elimP c N c i ≠ 0 → MulB (-(N j c)) (elimP c N c i) ∧ AddB (N j i) (-(N j c) * elimP c N c i)
theorem elimP_other {c a : Nat} (M : Nat → Nat → Rat) (h : a ≠ c) : elimP c M a = M a := upd_other _ _ h
theorem elimJ_zero (c : Nat) (M : Nat → Nat → Rat) : elimJ c 0 M = M := by
  funext a i
  unfold elimJ
  rw [if_neg (by omega)]
theorem elimJ_pivot (c j : Nat) (M : Nat → Nat → Rat) : elimJ c j M c = M c := by
  funext i
  unfold elimJ
  rw [if_neg (by omega)]
theorem elimJ_at (c j : Nat) (M : Nat → Nat → Rat) : elimJ c j M j = M j := by
  funext i
  unfold elimJ
  rw [if_neg (by omega)]
/-- The pivot's row is passed over. -/
theorem elimJ_skip (c : Nat) (M : Nat → Nat → Rat) : elimJ c (c + 1) M = elimJ c c M := by
  funext a i
  unfold elimJ
  by_cases h : a ≠ c ∧ a < c + 1 ∧ c ≤ i
  · rw [if_pos h, if_pos ⟨h.1, by omega, h.2.2⟩]
  · rw [if_neg h, if_neg (by omega)]
/-- A row whose entry is 0 is passed over. -/
theorem elimJ_zero_row (c j : Nat) (M : Nat → Nat → Rat) (h0 : M j c = 0) : elimJ c (j + 1) M = elimJ c j M := by
  funext a i
  unfold elimJ
  by_cases haj : a = j
  · subst haj
    rw [if_neg (show ¬ (a ≠ c ∧ a < a ∧ c ≤ i) by omega)]
    split
    · rw [h0, Rat.neg_zero, Rat.zero_mul, Rat.add_zero]
    · rfl
  · by_cases h : a ≠ c ∧ a < j + 1 ∧ c ≤ i
    · rw [if_pos h, if_pos ⟨h.1, by omega, h.2.2⟩]
    · rw [if_neg h, if_neg (by omega)]
theorem elimJ_row (c j : Nat) (M : Nat → Nat → Rat) (hjc : j ≠ c) : elimJ c (j + 1) M = upd (elimJ c j M) j (fun i => if c ≤ i then M j i + -(M j c) * M c i else M j i) := by
  funext a i
  by_cases haj : a = j
  · subst haj
    rw [upd_same]
    unfold elimJ
    by_cases h : c ≤ i
    · rw [if_pos ⟨hjc, by omega, h⟩, if_pos h]
    · rw [if_neg (by omega), if_neg h]
  · rw [upd_other _ _ haj]
    unfold elimJ
    by_cases h : a ≠ c ∧ a < j + 1 ∧ c ≤ i
    · rw [if_pos h, if_pos ⟨h.1, by omega, h.2.2⟩]
    · rw [if_neg h, if_neg (by omega)]
/-- What stands in memory while reduce walks: the grid, det in block D, the result's cell in block B0. -/
structure RedS (w : World) (B0 D G n m : Nat) (R O C : Nat → Nat) (u : World) (d : Rat) (N : Nat → Nat → Rat) : Prop where
  but : But (fun b => ∃ i, i < n ∧ b = R i) w u
  grid : GridQ u G n R O C m N
  det : RowQ u D 0 1 (fun _ => d)
  res : RowP u B0 0 1 (fun _ => none)
  far1 : B0 < D
  far2 : ∀ i, i < n → R i < B0
  far3 : G < B0
  base : w.heap.size ≤ B0
theorem RedS.grow {w u u' : World} {B0 D G n m : Nat} {R O C : Nat → Nat} {d : Rat} {N : Nat → Nat → Rat} (h : RedS w B0 D G n m R O C u d N) (hg : Grow u u') : RedS w B0 D G n m R O C u' d N :=
  ⟨h.but.grow hg, h.grid.grow hg, RowP.grow h.det hg, h.res.grow hg, h.far1, h.far2, h.far3, h.base⟩
theorem RedS.row {w u u' : World} {B0 D G n m : Nat} {R O C : Nat → Nat} {d : Rat} {N : Nat → Nat → Rat} (h : RedS w B0 D G n m R O C u d N) {j : Nat} (hj : j < n) {r : Nat → Rat} (hb : But (fun b => b = R j) u u') (hr : RowQ u' (R j) (O j) m r) : RedS w B0 D G n m R O C u' d (upd N j r) :=
  ⟨h.but.late hb (fun b _ hb => ⟨j, hj, hb⟩), h.grid.row_set hj hb hr, RowP.but h.det (fun e => by have := h.far2 j hj; have := h.far1; omega) hb, h.res.but (fun e => by have := h.far2 j hj; omega) hb, h.far1, h.far2, h.far3, h.base⟩
theorem RedS.cong {w u : World} {B0 D G n m : Nat} {R O C : Nat → Nat} {d : Rat} {N N' : Nat → Nat → Rat} (h : RedS w B0 D G n m R O C u d N) (hN : ∀ i j, i < n → j < m → N' i j = N i j) : RedS w B0 D G n m R O C u d N' :=
  ⟨h.but, h.grid.cong hN, h.det, h.res, h.far1, h.far2, h.far3, h.base⟩
theorem RedS.setD {w u : World} {B0 D G n m : Nat} {R O C : Nat → Nat} {d d' : Rat} {N : Nat → Nat → Rat} (h : RedS w B0 D G n m R O C u d N) {s : Bool} {a : Option Addr} {l c : Nat} {t : Bool} {b : Option Addr} {k e : Nat}
    (hx : RatR u (.agg #[.bool s, .slice a l c, .bool t, .slice b k e]) d') : RedS w B0 D G n m R O C (st4 u D 0 (.bool s) (.slice a l c) (.bool t) (.slice b k e)) d' N := by
  have hb : But (fun b => b = D) u (st4 u D 0 (.bool s) (.slice a l c) (.bool t) (.slice b k e)) := But.st4 (X := fun b => b = D) (But.refl _ u) (.inr rfl) (RowP.q4 h.det (show 0 < 1 by omega)) _ _ _ _ _ _ _ _
  have h1 := h.far1
  have h2 := h.base
  have hr := RowQ.set h.det (show 0 < 1 by omega) hx
  refine ⟨h.but.late hb (fun b hb' hbD => by omega), h.grid.but (by have := h.far3; omega) (fun i hi e => by have := h.far2 i hi; omega) hb, RowQ.cong hr (fun j hj => by rw [if_pos (by omega)]), h.res.but (by omega) hb, h.far1, h.far2, h.far3, h.base⟩
/-- An own row outside of what may change. -/
theorem own_but {X : Nat → Prop} {w w1 : World} {base : Nat} {e : TypeId} {size : Nat} {v : Value} {n : Nat} {xs : List Value} (h : w.ownsRow base e size v n xs) (hg : But X w w1) (hX : ∀ b, base ≤ b → ¬ X b) : w1.ownsRow base e size v n xs := by
  refine ⟨h.1, ?_⟩
  rcases h.2 with h2 | ⟨g, cap, cur, hv, hb, hh, h3⟩
  · exact .inl h2
  · exact .inr ⟨g, cap, cur, hv, hb, (hg.block g (Array.getElem?_eq_some_iff.1 hh).1 (hX g hb)).trans hh, h3⟩
end Go.Proofs.YtbpkfcohbefphaaGreat
/- An own row of ints without digits beside it, and its append: no digit anywhere changes. -/
namespace Go.Proofs.YtbpkfcohbefphaaGreat
open Go Go.RowKit

/-- A row of n ints (zeros of one kind behind them), in a block from base on. -/
def OwnI (w : World) (base : Nat) (v : Value) (n : Nat) (xs : List Value) : Prop :=
  xs.length = n ∧ ((v = .slice none 0 0 ∧ n = 0) ∨ ∃ g cap cur, v = .slice (some ⟨g, 0, none⟩) n cap ∧ base ≤ g ∧ w.heap[g]? = some (.cells cur 3 (0, 0)) ∧ n ≤ cap ∧ cap ≤ maxLen ∧ cur.size = cap ∧ cur.toList.take n = xs ∧ ∀ u, u ∈ cur.toList → ∃ x, u = .int .i64 x)
theorem OwnI.nil (w : World) (base : Nat) : OwnI w base (.slice none 0 0) 0 [] := ⟨rfl, .inl ⟨rfl, rfl⟩⟩
theorem OwnI.form {w : World} {base : Nat} {v : Value} {n : Nat} {xs : List Value} (h : OwnI w base v n xs) : ∃ a c, v = .slice a n c := by
  rcases h.2 with ⟨rfl, rfl⟩ | ⟨g, cap, cur, rfl, _⟩
  · exact ⟨_, _, rfl⟩
  · exact ⟨_, _, rfl⟩
theorem OwnI.but {X : Nat → Prop} {w w1 : World} {base : Nat} {v : Value} {n : Nat} {xs : List Value} (h : OwnI w base v n xs) (hg : But X w w1) (hX : ∀ b, base ≤ b → ¬ X b) : OwnI w1 base v n xs := by
  refine ⟨h.1, ?_⟩
  rcases h.2 with h2 | ⟨g, cap, cur, hv, hb, hh, h3⟩
  · exact .inl h2
  · exact .inr ⟨g, cap, cur, hv, hb, (hg.block g (Array.getElem?_eq_some_iff.1 hh).1 (hX g hb)).trans hh, h3⟩
theorem OwnI.grow {w w1 : World} {base : Nat} {v : Value} {n : Nat} {xs : List Value} (h : OwnI w base v n xs) (hg : Grow w w1) : OwnI w1 base v n xs := h.but (X := fun _ => False) (hg.but _) (fun _ _ h => h)
theorem zero_ints (k : Nat) : ∀ u, u ∈ (Builtin.zeroCells #[.int .i64 0] k).toList → ∃ x, u = Value.int .i64 x := by
  intro u hu
  simp [Builtin.zeroCells] at hu
  obtain ⟨i, -, rfl⟩ := hu
  exact ⟨0, by simp [Nat.mod_one]⟩
theorem frozen_plain {w : World} {g : Nat} {cur : Array Value} {e : TypeId} (h : w.heap[g]? = some (.cells cur e (0, 0))) (o : Nat) : w.frozen? ⟨g, o, none⟩ = false := by
  unfold World.frozen?
  simp only [h]
  simp
section
variable {P : Program}
theorem run_append_int {ty t : TypeId} {i : TypeInfo} (ht : P.underlying t = some (.slice 3)) (hi : P.info? 3 = some i) (hz : i.zero = some (.int .i64 0)) (hsize : i.size = 1) (hby : i.bytes = 8)
    (w : World) (base : Nat) (v : Value) (n : Nat) (xs : List Value) (hown : OwnI w base v n xs) (ad : Addr) (c : Nat) (x : Int) (hx : w.cell? ad = some (.int .i64 x)) (hl : n + 1 ≤ 1000000) (hb : base ≤ w.heap.size) :
    ∃ v' w', (Builtin.append_ #[t, t] ty #[v, .slice (some ad) 1 c]).run P w = .ok v' w' ∧ OwnI w' base v' (n + 1) (xs ++ [.int .i64 x]) ∧ But (fun b => base ≤ b) w w' := by
  have hnews : ∀ j u, [Value.int .i64 x][j]? = some u → w.cell? (ad.add j) = some u := by
    intro j u hu
    match j, hu with
    | 0, hu =>
      simp only [List.getElem?_cons_zero, Option.some.injEq] at hu
      subst hu
      simpa [Addr.add] using hx
  obtain ⟨hxs, h⟩ := hown
  rcases h with ⟨rfl, rfl⟩ | ⟨g, cap, cur, rfl, hbg, hg, hnc, hcm, hcs, htk, hall⟩
  · have hr := run_append_nil (P := P) w t ty 3 i (.int .i64 0) ht hi hz ad 1 c [.int .i64 x] (by rw [hsize]; rfl) hnews (by omega) (by omega) (by rw [hby]; omega)
    refine ⟨_, _, hr, ⟨by simp [hxs], .inr ⟨w.heap.size, _, _, rfl, hb, heap_alloc_new w.drew _, grownCap_ge _ _ _ _, grownCap_le_maxLen _ _ _ _ (by unfold maxLen; omega), ?_, ?_, ?_⟩⟩, ((Grow.refl w).drew.alloc _).but _⟩
    · have := grownCap_ge w 1 0 3
      simp [size_zeroCells, Value.cells]
      omega
    · have : xs = [] := List.eq_nil_of_length_eq_zero hxs
      subst this
      simp
    · intro u hu
      rw [Array.toList_append, List.mem_append] at hu
      rcases hu with hu | hu
      · simp at hu; exact ⟨x, hu⟩
      · exact zero_ints _ u hu
  · by_cases hroom : n + 1 ≤ cap
    · have hr := run_append_room (P := P) w t ty 3 i ht hi g n cap cur hg ad 1 c [.int .i64 x] (by rw [hsize]; rfl) hnews (by intro u hu; simp at hu; subst hu; rfl) hroom (by rw [hsize, hcs]; simpa using hroom)
      have hin : g < w.heap.size := (Array.getElem?_eq_some_iff.1 hg).1
      have hnu : ∀ o y, w.cell? ⟨g, o, none⟩ ≠ some (.int .u32 y) := by
        intro o y hc
        rw [cell_of_row w g o cur 3 (0, 0) hg] at hc
        have hmem : Value.int .u32 y ∈ cur.toList := by
          have := Array.getElem?_eq_some_iff.1 hc
          obtain ⟨h1, h2⟩ := this
          rw [← h2]; simp
        obtain ⟨z, hz'⟩ := hall _ hmem
        cases hz'
      refine ⟨_, _, hr, ⟨by simp [hxs], .inr ⟨g, cap, _, rfl, hbg, setRow_heap w g cur _ 3 _ hg, hroom, hcm, ?_, ?_, ?_⟩⟩, rfl, rfl, rfl, by simp [World.setRow], fun b _ hb' => setRow_other w g b _ (fun e => hb' (by omega)), fun b o hb' => ?_, fun b o y hb' hc => ?_⟩
      · simp [hsize]
        omega
      · rw [hsize, Nat.mul_one]
        have h1 : (cur.toList.take n ++ [Value.int .i64 x]).length = n + 1 := by simp; omega
        rw [show (cur.toList.take n ++ [Value.int .i64 x] ++ cur.toList.drop (n + [Value.int .i64 x].length)).toArray.toList = (cur.toList.take n ++ [Value.int .i64 x]) ++ cur.toList.drop (n + [Value.int .i64 x].length) by simp, ← h1, List.take_left, htk]
      · intro u hu
        simp only [List.mem_append] at hu
        rcases hu with (hu | hu) | hu
        · exact hall u (List.mem_of_mem_take hu)
        · simp at hu; exact ⟨x, hu⟩
        · exact hall u (List.mem_of_mem_drop hu)
      · by_cases hbg' : b = g
        · subst hbg'
          rw [frozen_plain (setRow_heap w b cur _ 3 _ hg) o, frozen_plain hg o]
        · unfold World.frozen?
          rw [setRow_other w g b _ hbg']
      · have hne : b ≠ g := fun e => by subst e; exact hnu o y hc
        rw [World.cell?_of_block (setRow_other w g b _ hne)]
        exact hc
    · have holds : ∀ j u, xs[j]? = some u → w.cell? ((⟨g, 0, none⟩ : Addr).add j) = some u := fun j u hu => by
        rw [Addr.add_lit, Nat.zero_add, cell_of_row w g j cur 3 (0, 0) hg]
        rw [← htk, List.getElem?_take] at hu
        split at hu
        · simpa using hu
        · cases hu
      have hr := run_append_grow (P := P) w t ty 3 i (.int .i64 0) ht hi hz ⟨g, 0, none⟩ n cap xs (by rw [hsize, Nat.mul_one]; exact hxs) holds ad 1 c [.int .i64 x] (by rw [hsize]; rfl) hnews (by omega) (by omega) (growslice_fits (by omega) (by rw [hby]; omega))
      refine ⟨_, _, hr, ⟨by simp [hxs], .inr ⟨w.heap.size, _, _, rfl, hb, heap_alloc_new w.drew _, grownCap_ge _ _ _ _, grownCap_le_maxLen _ _ _ _ (by unfold maxLen; omega), ?_, ?_, ?_⟩⟩, ((Grow.refl w).drew.alloc _).but _⟩
      · have := grownCap_ge w (n + 1) cap 3
        simp [size_zeroCells, Value.cells, hxs]
        omega
      · have h1 : (xs ++ [Value.int .i64 x]).length = n + 1 := by simp [hxs]
        simp only [Array.toList_append]
        rw [← h1, List.take_left]
      · intro u hu
        simp only [Array.toList_append, List.mem_append] at hu
        rcases hu with (hu | hu) | hu
        · have : u ∈ xs := by simpa using hu
          rw [← htk] at this
          exact hall u (List.mem_of_mem_take this)
        · simp at hu; exact ⟨x, hu⟩
        · exact zero_ints _ u hu
theorem wpList_append_int (w : World) {ops : Array Oper} {rest : List Oper} {o : Oper} {a : Act} {Q : Exit → Act → World → Prop} (hgd : o.guard = none) (s x : Operand) (t : TypeId)
    (ho : o.op = .call { callee := .builtin .append, args := #[s, x], argTypes := #[t, t] }) (i : TypeInfo) (ht : P.underlying t = some (.slice 3)) (hi : P.info? 3 = some i) (hz : i.zero = some (.int .i64 0)) (hsize : i.size = 1) (hby : i.bytes = 8)
    (base : Nat) (v : Value) (n : Nat) (xs : List Value) (hs : a.eval s = v) (hown : OwnI w base v n xs) (ad : Addr) (c : Nat) (z : Int) (hx : a.eval x = .slice (some ad) 1 c) (hc : w.cell? ad = some (.int .i64 z)) (hl : n + 1 ≤ 1000000) (hb : base ≤ w.heap.size)
    (h : ∀ v' w', OwnI w' base v' (n + 1) (xs ++ [.int .i64 z]) → But (fun b => base ≤ b) w w' → wpList P ops Q rest (a.put o.dst v') w') : wpList P ops Q (o :: rest) a w := by
  refine wpList_plain hgd fun K hK' => ?_
  obtain ⟨v', w', hrun, r1, r2⟩ := run_append_int (P := P) (ty := o.type) ht hi hz hsize hby w base v n xs hown ad c z hc hl hb
  unfold Oper.wp
  simp [execOp, ho, resolve, invoke, builtin, hs, hx, hrun, Result.andThen]
  exact hK' _ _ (h v' w' r1 r2)
end
theorem RedS.app {w u u' : World} {B0 D G n m : Nat} {R O C : Nat → Nat} {d : Rat} {N : Nat → Nat → Rat} (h : RedS w B0 D G n m R O C u d N) (hb : But (fun b => D + 1 ≤ b) u u') : RedS w B0 D G n m R O C u' d N := by
  have h1 := h.far1
  have h2 := h.base
  have h3 := h.far3
  exact ⟨h.but.late hb (fun b hb' hbD => by omega), h.grid.but (by omega) (fun i hi e => by have := h.far2 i hi; omega) hb, RowP.but h.det (by omega) hb, h.res.but (by omega) hb, h.far1, h.far2, h.far3, h.base⟩
end Go.Proofs.YtbpkfcohbefphaaGreat
