/- Lemmas, plain laws and walks that the statement LwThreeSquares leans on (texts RwS), conditions as each theorem says. -/
import Derived.Test.YtbpkfcohbefphaaGreatTopThreeSquaresG13

/- Walk: Signature. -/
namespace Go.Proofs.YtbpkfcohbefphaaGreat
open Go Go.RowKit

/-- Row r, columns before c, with f times row i added. -/
def srA (f : Rat) (i r c : Nat) (M : Nat → Nat → Rat) : Nat → Nat → Rat := fun a b => if a = r ∧ b < c then M r b + f * M i b else M a b
/-- Column r, rows before c, with f times column i added. -/
def srB (f : Rat) (i r c : Nat) (M : Nat → Nat → Rat) : Nat → Nat → Rat := fun a b => if b = r ∧ a < c then M a r + f * M a i else M a b
theorem srA_zero (f : Rat) (i r : Nat) (M : Nat → Nat → Rat) : srA f i r 0 M = M := by
  funext a b; simp [srA]
theorem srB_zero (f : Rat) (i r : Nat) (M : Nat → Nat → Rat) : srB f i r 0 M = M := by
  funext a b; simp [srB]
theorem srA_full (f : Rat) (i r n : Nat) (M : Nat → Nat → Rat) (a b : Nat) (hb : b < n) : srA f i r n M a b = sigA f i r M a b := by
  unfold srA sigA
  by_cases h : a = r
  · rw [if_pos ⟨h, hb⟩, if_pos h]
  · rw [if_neg (fun e => h e.1), if_neg h]
theorem srB_full (f : Rat) (i r n : Nat) (M : Nat → Nat → Rat) (a b : Nat) (ha : a < n) : srB f i r n M a b = sigB f i r M a b := by
  unfold srB sigB
  by_cases h : b = r
  · rw [if_pos ⟨h, ha⟩, if_pos h]
  · rw [if_neg (fun e => h e.1), if_neg h]
theorem srA_here (f : Rat) (i r c : Nat) (M : Nat → Nat → Rat) : srA f i r c M r c = M r c := by
  unfold srA; rw [if_neg (by omega)]
theorem srA_piv (f : Rat) (i r c b : Nat) (M : Nat → Nat → Rat) (h : i ≠ r) : srA f i r c M i b = M i b := by
  unfold srA; rw [if_neg (fun e => h e.1)]
theorem srB_here (f : Rat) (i r c b : Nat) (M : Nat → Nat → Rat) : srB f i r c M c b = M c b := by
  unfold srB; rw [if_neg (by omega)]
theorem srA_step (f : Rat) (i r c : Nat) (M : Nat → Nat → Rat) : upd (srA f i r c M) r (fun b => if b = c then M r c + f * M i c else srA f i r c M r b) = srA f i r (c + 1) M := by
  funext a b
  by_cases h : a = r
  · subst h
    rw [upd_same]
    by_cases hb : b = c
    · subst hb; simp [srA]
    · rw [if_neg hb]
      unfold srA
      by_cases h2 : b < c
      · rw [if_pos ⟨rfl, h2⟩, if_pos ⟨rfl, by omega⟩]
      · rw [if_neg (by omega), if_neg (by omega)]
  · rw [upd_other _ _ h]
    unfold srA
    rw [if_neg (fun e => h e.1), if_neg (fun e => h e.1)]
theorem srB_step (f : Rat) (i r c : Nat) (M : Nat → Nat → Rat) : upd (srB f i r c M) c (fun b => if b = r then M c r + f * M c i else srB f i r c M c b) = srB f i r (c + 1) M := by
  funext a b
  by_cases h : a = c
  · subst h
    rw [upd_same]
    by_cases hb : b = r
    · subst hb; simp [srB]
    · rw [if_neg hb]
      unfold srB
      rw [if_neg (fun e => hb e.1), if_neg (fun e => hb e.1)]
  · rw [upd_other _ _ h]
    unfold srB
    by_cases h2 : b = r ∧ a < c
    · rw [if_pos h2, if_pos ⟨h2.1, by omega⟩]
    · rw [if_neg h2, if_neg (by omega)]
/-- What stands in memory while Signature walks. -/
structure SigS (w : World) (G D n : Nat) (R O C : Nat → Nat) (u : World) (k : Nat) (N : Nat → Nat → Rat) : Prop where
  grow : Grow w u
  grid : GridQ u G n R O C n N
  mark : MarkB u D n (fun i => decide (i < k))
  bG : w.heap.size ≤ G
  bR : ∀ i, i < n → w.heap.size ≤ R i
  bD : w.heap.size ≤ D
  dG : D ≠ G
  dR : ∀ i, i < n → R i ≠ D
section
variable {w u u' : World} {G D n k : Nat} {R O C : Nat → Nat} {N N' : Nat → Nat → Rat}
theorem SigS.go (h : SigS w G D n R O C u k N) (hg : Grow u u') : SigS w G D n R O C u' k N :=
  ⟨h.grow.trans hg, h.grid.grow hg, h.mark.grow hg, h.bG, h.bR, h.bD, h.dG, h.dR⟩
theorem SigS.cong (h : SigS w G D n R O C u k N) (hN : ∀ i j, i < n → j < n → N' i j = N i j) : SigS w G D n R O C u k N' :=
  ⟨h.grow, h.grid.cong hN, h.mark, h.bG, h.bR, h.bD, h.dG, h.dR⟩
theorem SigS.row (h : SigS w G D n R O C u k N) {j : Nat} (hj : j < n) {r : Nat → Rat} (hb : But (fun b => b = R j) u u') (hr : RowQ u' (R j) (O j) n r) : SigS w G D n R O C u' k (upd N j r) := by
  refine ⟨(((h.grow.but _).trans hb).asGrow (fun b e => ?_)), h.grid.row_set hj hb hr, h.mark.but (fun e => h.dR j hj e.symm) hb, h.bG, h.bR, h.bD, h.dG, h.dR⟩
  rw [e]; exact h.bR j hj
theorem SigS.put (h : SigS w G D n R O C u k N) {j c : Nat} (hj : j < n) (hc : c < n) {s : Bool} {a : Option Addr} {l z : Nat} {t : Bool} {b : Option Addr} {y e : Nat} {x : Rat}
    (hx : RatR u (.agg #[.bool s, .slice a l z, .bool t, .slice b y e]) x) : But (fun b => b = R j) u (st4 u (R j) (O j + c * 4) (.bool s) (.slice a l z) (.bool t) (.slice b y e)) ∧ SigS w G D n R O C (st4 u (R j) (O j + c * 4) (.bool s) (.slice a l z) (.bool t) (.slice b y e)) k (upd N j (fun i => if i = c then x else N j i)) := by
  have hb : But (fun b => b = R j) u (st4 u (R j) (O j + c * 4) (.bool s) (.slice a l z) (.bool t) (.slice b y e)) := But.st4 (X := fun b => b = R j) (But.refl _ u) (.inr rfl) (RowP.q4 (h.grid.row j hj) hc) _ _ _ _ _ _ _ _
  exact ⟨hb, h.row hj hb (RowQ.set (h.grid.row j hj) hc hx)⟩
theorem SigS.tick (h : SigS w G D n R O C u k N) (hk : k < n) : SigS w G D n R O C (u.setCell ⟨D, k, none⟩ (.bool true)) (k + 1) N := by
  have hb : But (fun b => b = D) u (u.setCell ⟨D, k, none⟩ (.bool true)) := h.mark.but_set (X := fun b => b = D) hk (.inr rfl) (But.refl _ u) _
  refine ⟨(((h.grow.but _).trans hb).asGrow (fun b e => ?_)), h.grid.but (fun e => h.dG e.symm) (fun i hi => h.dR i hi) hb, (h.mark.set hk true).cong (fun i hi => ?_), h.bG, h.bR, h.bD, h.dG, h.dR⟩
  · rw [e]; exact h.bD
  · by_cases hik : i = k
    · subst hik; rw [upd_same]; simp
    · rw [upd_other _ _ hik]; simp only [decide_eq_decide]; omega
end
theorem made_marks {w : World} {base g n : Nat} {t : TypeId} (h : w.ownsRow base t 1 (.slice (some ⟨g, 0, none⟩) n n) n (madeCells #[.bool false] n).toList) : MarkB w g n (fun _ => false) := by
  obtain ⟨h1, h2, h3, h4, h5⟩ := own_cells h
  refine ⟨h1, h4, fun i hi => h5 _ _ ?_⟩
  rw [madeCells_get _ _ _ (by omega)]
  simp [Nat.mod_one]
theorem infoBool : (Tryz.prog.info? 4).map (fun i => (i.zero, i.size, i.bytes)) = some (some (.bool false), 1, 1) := by kernel_rfl
theorem sg_pos {x : Rat} (h : 0 < x) : sgI x.num = 1 := by
  have h1 : 0 < x.num := Rat.intCast_pos.mp h
  unfold sgI
  rw [if_neg (by omega), if_pos h1]
theorem rat_ne {x : Rat} (h : 0 < x) : x ≠ 0 := fun e => by rw [e] at h; exact absurd h (by decide)
/-- The world behind four stores of a fraction in a new cell. -/
theorem newcell (u : World) (ty : TypeId) {s t : Bool} {a b : Option Addr} {l c k e : Nat} {x : Rat} (hx : RatR u (.agg #[.bool s, .slice a l c, .bool t, .slice b k e]) x) :
    Grow u (st4 (u.alloc (.cells #[.bool false, .slice none 0 0, .bool false, .slice none 0 0] ty)) u.heap.size 0 (.bool s) (.slice a l c) (.bool t) (.slice b k e)) ∧ RowQ (st4 (u.alloc (.cells #[.bool false, .slice none 0 0, .bool false, .slice none 0 0] ty)) u.heap.size 0 (.bool s) (.slice a l c) (.bool t) (.slice b k e)) u.heap.size 0 1 (fun _ => x) := by
  have h1 := rowp_alloc u ty
  have hg : Grow u (u.alloc (.cells #[.bool false, .slice none 0 0, .bool false, .slice none 0 0] ty)) := (Grow.refl u).alloc _
  have h2 := RowP.set h1 (show 0 < 1 by omega) (hx.grow hg)
  have hb : But (fun b => b = u.heap.size) u (st4 (u.alloc (.cells #[.bool false, .slice none 0 0, .bool false, .slice none 0 0] ty)) u.heap.size (0 + 0 * 4) (.bool s) (.slice a l c) (.bool t) (.slice b k e)) := But.st4 (X := fun b => b = u.heap.size) (hg.but _) (.inr rfl) (h1.q4 (show 0 < 1 by omega)) _ _ _ _ _ _ _ _
  refine ⟨hb.asGrow (fun b e => by omega), RowP.mono h2 (Nat.le_refl _) (fun j x hj hx => ?_)⟩
  rw [if_pos (by omega)]; exact hx
/-- A fraction's cell stored to again. -/
theorem recell {u : World} {F : Nat} {y x : Rat} {s t : Bool} {a b : Option Addr} {l c k e : Nat} (h : RowQ u F 0 1 (fun _ => y)) (hx : RatR u (.agg #[.bool s, .slice a l c, .bool t, .slice b k e]) x) :
    But (fun b => b = F) u (st4 u F 0 (.bool s) (.slice a l c) (.bool t) (.slice b k e)) ∧ RowQ (st4 u F 0 (.bool s) (.slice a l c) (.bool t) (.slice b k e)) F 0 1 (fun _ => x) := by
  refine ⟨But.st4 (X := fun b => b = F) (But.refl _ u) (.inr rfl) (by have := RowP.q4 h (show 0 < 1 by omega); simpa using this) _ _ _ _ _ _ _ _, RowQ.cong (RowQ.set h (show 0 < 1 by omega) hx) (fun j hj => ?_)⟩
  rw [if_pos (by omega)]
theorem results_t4 {fn : Func} {p q r s : Tmp} (h : fn.results = #[.tmp p, .tmp q, .tmp r, .tmp s]) (tmps : Array Value) (P : Program) (w : World) :
    (results fn tmps).run P w = .ok (.tuple #[tmps.getD p undef, tmps.getD q undef, tmps.getD r undef, tmps.getD s undef]) w := by
  simp [results, h]
theorem cellB {u0 u : World} {ty : TypeId} {s t : Bool} {a b : Option Addr} {l c k e : Nat} {x : Rat} (hg : Grow (u0.alloc (.cells #[.bool false, .slice none 0 0, .bool false, .slice none 0 0] ty)) u) (hx : RatR u (.agg #[.bool s, .slice a l c, .bool t, .slice b k e]) x) :
    Grow u0 (st4 u u0.heap.size 0 (.bool s) (.slice a l c) (.bool t) (.slice b k e)) ∧ RowQ (st4 u u0.heap.size 0 (.bool s) (.slice a l c) (.bool t) (.slice b k e)) u0.heap.size 0 1 (fun _ => x) := by
  have h1 := (rowp_alloc u0 ty).grow hg
  have hb : But (fun b => b = u0.heap.size) u0 (st4 u u0.heap.size 0 (.bool s) (.slice a l c) (.bool t) (.slice b k e)) := But.st4 (X := fun b => b = u0.heap.size) ((((Grow.refl u0).alloc _).trans hg).but _) (.inr rfl) (by have := h1.q4 (show 0 < 1 by omega); simpa using this) _ _ _ _ _ _ _ _
  refine ⟨hb.asGrow (fun b e => by omega), RowP.mono (by have := RowP.set h1 (show 0 < 1 by omega) hx; simpa using this) (Nat.le_refl _) (fun j y hj hy => ?_)⟩
  rw [if_pos (by omega)]; exact hy
set_option maxRecDepth 20000 in
set_option maxHeartbeats 8000000 in
theorem signatureQ (n N Ba oa ca : Nat) (r0 : Nat → Rat) (M : Nat → Nat → Rat) (hN : N = n * n) (hn : n ≤ 1000) (hM : ∀ i j, M i j = r0 (i * n + j)) (hS : ∀ i j, j < i → i < n → M i j = M j i ∧ AddB (M i j) (-(M j i)))
    (hB : ∀ k, k < n → SigSB n k (sigM n k M)) (w : World) (hA : RowQ w Ba oa N r0) :
    Calls Tryz.prog 61 #[.agg #[.int .i64 (n : Int), .int .i64 (n : Int), .slice (some ⟨Ba, oa, none⟩) N ca]] w fun e w' =>
    e = .returned (.tuple #[.int .i64 (n : Int), .int .i64 0, .int .i64 0, .int .i64 0]) ∧ Grow w w' := by
  obtain ⟨ib, hib, ibz0, ibz1, ibz2⟩ := info_parts infoBool
  have SQ := Lib.hid (fun u => squareQ n N hN hn (some ⟨Ba, oa, none⟩) ca u)
  have hM2 : (fun i k => r0 (i * n + k)) = M := by funext i k; rw [hM]
  have LD := Lib.hid (fun (u : World) (hu : Grow w u) => loadQ n n N hN hn hn Ba oa ca r0 u (RowP.grow hA hu))
  rw [hM2] at LD
  have HB := Lib.hid hB
  have HS := Lib.hid hS
  clear hA hN hM hM2 hB hS
  obtain ⟨W1, hW1⟩ : ∃ W1 : World, W1 = w.alloc (.cells #[.int .i64 (n : Int), .int .i64 (n : Int), .slice (some ⟨Ba, oa, none⟩) N ca] 95) := ⟨_, rfl⟩
  have g1 : Grow w W1 := by rw [hW1]; (repeat (first | with_reducible exact Grow.refl _ | with_reducible refine Grow.alloc ?_ _ | with_reducible refine Grow.drew ?_ | with_reducible refine Grow.drewN ?_ _ | (with_reducible refine Grow.setCell ?_ ?hp _; (case hp => (simp; try omega))) | with_reducible refine Grow.trans ?_ (by assumption)))
  have c0 : ∀ u : World, Grow W1 u → u.cell? ⟨w.heap.size, 0, none⟩ = some (.int .i64 (n : Int)) ∧ u.cell? ⟨w.heap.size, 1, none⟩ = some (.int .i64 (n : Int)) ∧ u.cell? ⟨w.heap.size, 2, none⟩ = some (.slice (some ⟨Ba, oa, none⟩) N ca) := by
    intro u hg
    refine ⟨?_, ?_, ?_⟩ <;> (refine (hg.cells _ _ (by rw [hW1]; simp)).trans ?_; rw [hW1]; go_simp)
  have C0 := Lib.hid c0
  have HW1 := Lib.hid hW1
  have G1 := Lib.hid g1
  clear c0 hW1 g1
  go_enter Tryz.func61, Tryz.ntmps61
  go_upto_region 1 with fail
  rw [← HW1.out]
  obtain ⟨b0, b1, b2⟩ := C0.out W1 (Grow.refl _)
  have hg1 := G1.out
  go_upto_region 4 with (first | (go_at_call 92; (with_reducible refine (SQ.out _).mono ?_); (rintro e u1 ⟨rfl, hb1⟩; obtain ⟨d0, d1, d2⟩ := C0.out u1 (by (repeat (first | with_reducible exact Grow.refl _ | with_reducible refine Grow.alloc ?_ _ | with_reducible refine Grow.drew ?_ | with_reducible refine Grow.drewN ?_ _ | (with_reducible refine Grow.setCell ?_ ?hp _; (case hp => (simp; try omega))) | with_reducible refine Grow.trans ?_ (by assumption)))))) | (go_at_call 93; (with_reducible refine (LD.out _ (by (repeat (first | with_reducible exact Grow.refl _ | with_reducible refine Grow.alloc ?_ _ | with_reducible refine Grow.drew ?_ | with_reducible refine Grow.drewN ?_ _ | (with_reducible refine Grow.setCell ?_ ?hp _; (case hp => (simp; try omega))) | with_reducible refine Grow.trans ?_ (by assumption))))).mono ?_); (rintro e u2 ⟨G, rfl, hge, hb2⟩)))
  have hg2 : Grow w u2 := by (repeat (first | with_reducible exact Grow.refl _ | with_reducible refine Grow.alloc ?_ _ | with_reducible refine Grow.drew ?_ | with_reducible refine Grow.drewN ?_ _ | (with_reducible refine Grow.setCell ?_ ?hp _; (case hp => (simp; try omega))) | with_reducible refine Grow.trans ?_ (by assumption)))
  have hz1 : w.heap.size ≤ u1.heap.size := by have h1 := hb1.size; have h2 := hg1.size; omega
  obtain ⟨hbG, R, O, C, hgq, hbR⟩ := hge
  have HGQ := Lib.hid hgq
  have HBR := Lib.hid (fun i (hi : i < n) => Nat.le_trans hz1 (hbR i hi))
  have hG0 : w.heap.size ≤ G := Nat.le_trans hz1 hbG
  have SY := Lib.hid (fun (u : World) (hu : Grow u2 u) => symmetricQ n G n R O C M hn HS.out u (HGQ.out.grow hu))
  clear hgq hbR hbG hb1 hb2 hz1 b0 b1 b2 d0 d1 d2
  go_wp2_with (first | (go_at_call 94; (with_reducible refine (SY.out _ (by (repeat (first | with_reducible exact Grow.refl _ | with_reducible refine Grow.alloc ?_ _ | with_reducible refine Grow.drew ?_ | with_reducible refine Grow.drewN ?_ _ | (with_reducible refine Grow.setCell ?_ ?hp _; (case hp => (simp; try omega))) | with_reducible refine Grow.trans ?_ (by assumption))))).mono ?_); (rintro e u3 ⟨rfl, hb3⟩)) | (at_make; refine wpList_make_full _ rfl _ _ 133 rfl (w.heap.size) 4 ib (.bool false) 1 Tryz.underlying133 hib ibz0 ibz1 .i64 .i64 (n : Int) (n : Int) n rfl rfl rfl rfl ?m1 ?m2 ?m3 ?_))
  case m1 => rw [ibz2]; omega
  case m2 => unfold maxLen; omega
  case m3 => have := hg2.size; have := hb3.size; omega
  intro w4 hown4 hgrow4
  have HM4 := Lib.hid (made_marks (g := u3.heap.size) hown4)
  have hg4 : Grow u2 w4 := hb3.trans ((Grow.refl u3).grown hgrow4 (fun k hk => by cases hk))
  have hz4 := hb3.size
  obtain ⟨D, hD⟩ : ∃ D, u3.heap.size = D := ⟨_, rfl⟩
  have hgl := HGQ.out.lt
  have hrl : ∀ i, i < n → R i < u2.heap.size := fun i hi => (HGQ.out.row i hi).lt
  rw [hD] at HM4 hz4
  have hzw := hg2.size
  have HS0 : Hid (SigS w G D n R O C w4 0 (sigM n 0 M)) := Lib.hid ⟨hg2.trans hg4, HGQ.out.grow hg4, HM4.out.cong (fun i _ => by simp), hG0, HBR.out, by omega, by omega, fun i hi => by have := hrl i hi; omega⟩
  rw [hD]
  clear hD HM4 hown4 hgrow4 hib ibz0 ibz1 ibz2 hz4 hgl hrl hzw hG0 hg4 hb3 hg1 hg2 HGQ HBR SY SQ LD C0 HW1 G1
  have hpiv : ∀ k, k < n → sigM n k M k k ≠ 0 := fun k hk => rat_ne (HB.out k hk).piv
  have TU := Lib.hid (fun (u : World) (k : Nat) (hk : k ≤ n) (h : SigS w G D n R O C u k (sigM n k M)) => turnQ n G n D n k R O C (sigM n k M) hn hk (hpiv k) u h.grid h.mark)
  clear hpiv
  have TU0 := Lib.hid (TU.out w4 0 (Nat.zero_le _) HS0.out)
  obtain ⟨z0, hz0⟩ : ∃ z, (if 0 < n then ((0 : Nat) : Int) else -1) = z := ⟨_, rfl⟩
  rw [hz0] at TU0
  have HZ0 := Lib.hid hz0
  clear hz0
  go_wp2_with (go_at_call 95; (with_reducible refine (TU0.out).mono ?_); (rintro e u5 ⟨rfl, hb5⟩))
  have HS5 := Lib.hid (HS0.out.go hb5)
  clear HS0 TU0 hb5
  go_loopg [2, 3, 8] n (fun gk t2 t3 t8 wr => ∃ (k : Nat) (z : Int), t2 = .int .i64 (k : Int) ∧ t3 = .int .i64 0 ∧ t8 = .int .i64 z ∧ k ≤ n ∧ Hid ((if k < n then (k : Int) else -1) = z) ∧ Hid (gk = n - k) ∧ Hid (SigS w G D n R O C wr k (sigM n k M)))
  case atStart => exact ⟨0, z0, rfl, rfl, rfl, Nat.zero_le _, HZ0, Lib.hid rfl, HS5⟩
  case round =>
    clear HS5 HZ0
    obtain ⟨k, z, rfl, rfl, rfl, hk2, HZ, HGK, HSK⟩ := hrel
    by_cases hkn : k = n
    · have hz := HZ.out
      rw [if_neg (by omega)] at hz
      subst hz
      subst hkn
      have y1 : IntKind.i64.wrap ((k : Int) - (k : Int)) = 0 := by rw [Int.sub_self]; rfl
      have y2 : wrap64 ((k : Int) - (k : Int)) = 0 := by rw [Int.sub_self]; unfold wrap64; omega
      have hg := HSK.out.grow
      go_wp2_with fail
      exact bodyPost_ret (v := .tuple #[.int .i64 (k : Int), .int .i64 0, .int .i64 0, .int .i64 0]) (by rw [results_t4 rfl]; rfl) rfl ⟨rfl, by (repeat (first | with_reducible exact Grow.refl _ | with_reducible refine Grow.alloc ?_ _ | with_reducible refine Grow.drew ?_ | with_reducible refine Grow.drewN ?_ _ | (with_reducible refine Grow.setCell ?_ ?hp _; (case hp => (simp; try omega))) | with_reducible refine Grow.trans ?_ (by assumption)))⟩
    · have hk : k < n := by omega
      have hz := HZ.out
      rw [if_pos hk] at hz
      subst hz
      have HSB := Lib.hid (HB.out k hk)
      have hstep : sigM n (k + 1) M = sigJ k n (sigM n k M) := rfl
      obtain ⟨K, hK⟩ : ∃ K, sigM n k M = K := ⟨_, rfl⟩
      have TU1 := Lib.hid (fun (u : World) (h : SigS w G D n R O C u (k + 1) (sigM n (k + 1) M)) => TU.out u (k + 1) (by omega) h)
      rw [hK] at HSK HSB hstep
      rw [hstep] at TU1
      have HST := Lib.hid hstep
      clear hstep hK HZ
      have y0 : (0 : Int) ≤ (k : Int) := by omega
      have y1 : (k : Int) < (n : Int) := by omega
      have y2 : decide ((k : Int) ≥ 0) = true := by simp
      obtain ⟨s2, a2, l2, c2, t2, b2, k2, e2, hcP, hvP⟩ := row_cells (HSK.out.grid.row k hk) hk
      have hcG := HSK.out.grid.cells hk wr (Grow.refl _)
      have hcP2 := hcP wr (Grow.refl _)
      obtain ⟨f0, f1, f2, f3, f4, f5⟩ := hcP2
      have SG := Lib.hid (fun (u : World) (hu : Grow wr u) => signQ (K k k) _ u (hvP.grow hu))
      rw [sg_pos HSB.out.piv] at SG
      clear hvP hcP
      have y4 : IntKind.i64.wrap ((k : Int) + 1) = ((k + 1 : Nat) : Int) := (IntWalk.i64_in ((k : Int) + 1) (by omega)).trans (by omega)
      have y3 : wrap64 ((k : Int) + 1) = ((k + 1 : Nat) : Int) := by clear y4; unfold wrap64; omega
      go_upto_region 13 with (go_at_call 22; (with_reducible refine (SG.out _ (by (repeat (first | with_reducible exact Grow.refl _ | with_reducible refine Grow.alloc ?_ _ | with_reducible refine Grow.drew ?_ | with_reducible refine Grow.drewN ?_ _ | (with_reducible refine Grow.setCell ?_ ?hp _; (case hp => (simp; try omega))) | with_reducible refine Grow.trans ?_ (by assumption))))).mono ?_); (rintro e u6 ⟨rfl, hb6⟩))
      clear y3 y4 f0 f1 f2 f3 f4 f5 hcG SG
      have HS6 := Lib.hid (HSK.out.go hb6)
      have hm6 := HS6.out.mark.cell k hk
      have hmf := HS6.out.mark.free
      have hml := HS6.out.mark.lt
      have HS7 := Lib.hid (HS6.out.tick hk)
      clear HS6 HSK hb6
      go_wp2_with fail
      clear hm6 hmf hml
      go_loopg [51] n (fun gk2 t51 wx => ∃ r : Nat, t51 = .int .i64 (r : Int) ∧ r ≤ n ∧ Hid (gk2 = n - r) ∧ Hid (SigS w G D n R O C wx (k + 1) (sigJ k r K)))
      case atStart => exact ⟨0, rfl, Nat.zero_le _, Lib.hid rfl, HS7⟩
      case round =>
        clear HS7
        obtain ⟨r, rfl, hr2, HGK2, HSR⟩ := hrel
        by_cases hrn : r = n
        · have z1 : decide ((r : Int) < (n : Int)) = false := by simp; omega
          rw [hrn] at HSR
          have TU2 := Lib.hid (TU1.out wr HSR.out)
          obtain ⟨z, hz⟩ : ∃ z, (if k + 1 < n then ((k + 1 : Nat) : Int) else -1) = z := ⟨_, rfl⟩
          rw [hz] at TU2
          have HZ := Lib.hid hz
          clear hz
          go_wp2_with (go_at_call 95; (with_reducible refine (TU2.out).mono ?_); (rintro e u8 ⟨rfl, hb8⟩))
          go_roundg (n - (k + 1))
          case measure => have := HGK.out; omega
          case rel => exact ⟨k + 1, z, rfl, rfl, rfl, by omega, HZ, Lib.hid rfl, Lib.hid (by rw [HST.out]; exact HSR.out.go hb8)⟩
        · have hr : r < n := by omega
          have x0 : (0 : Int) ≤ (r : Int) := by omega
          have x1 : (r : Int) < (n : Int) := by omega
          have hmr := HSR.out.mark.cell r hr
          by_cases hrk : r ≤ k
          · rw [decide_eq_true (by omega : r < k + 1)] at hmr
            have y4 : IntKind.i64.wrap ((r : Int) + 1) = ((r + 1 : Nat) : Int) := (IntWalk.i64_in ((r : Int) + 1) (by omega)).trans (by omega)
            have y3 : wrap64 ((r : Int) + 1) = ((r + 1 : Nat) : Int) := by clear y4; unfold wrap64; omega
            go_wp2_with fail
            clear y3 y4
            go_roundg (n - (r + 1))
            case measure => have := HGK2.out; omega
            case rel => exact ⟨r + 1, rfl, by omega, Lib.hid rfl, Lib.hid (by rw [sigJ, if_pos hrk]; exact HSR.out)⟩
          · have hkr : k < r := by omega
            rw [decide_eq_false (by omega : ¬ r < k + 1)] at hmr
            have hsj : sigJ k (r + 1) K = sigRow k r (sigJ k r K) := by rw [sigJ, if_neg hrk]
            have hpk : sigJ k r K k k = K k k := sigJ_at k r K k k (by omega) (by omega)
            have HPK : Hid (0 < sigJ k r K k k) := Lib.hid (by rw [hpk]; exact HSB.out.piv)
            have HRW := Lib.hid (HSB.out.rows r hkr hr)
            obtain ⟨L, hL⟩ : ∃ L, sigJ k r K = L := ⟨_, rfl⟩
            rw [hL] at hsj HPK HRW HSR
            have HSJ := Lib.hid hsj
            clear hsj hpk hL
            obtain ⟨s2, a2, l2, c2, t2, b2, k2, e2, hcP, hvP⟩ := row_cells (HSR.out.grid.row r hr) hk
            have PC := Lib.hid hcP
            have GR := Lib.hid (HSR.out.grid.cells hr)
            have GK := Lib.hid (HSR.out.grid.cells hk)
            have NZ := Lib.hid (fun (u : World) (hu : Grow wr u) => nonzeroQ (L r k) _ u (hvP.grow hu))
            clear hcP
            obtain ⟨f0, f1, f2, f3, f4, f5⟩ := PC.out wr (Grow.refl _)
            have f6 := GR.out wr (Grow.refl _)
            by_cases hz : L r k = 0
            · rw [decide_eq_false (show ¬ L r k ≠ 0 by simpa using hz)] at NZ
              clear hvP
              have y4 : IntKind.i64.wrap ((r : Int) + 1) = ((r + 1 : Nat) : Int) := (IntWalk.i64_in ((r : Int) + 1) (by omega)).trans (by omega)
              have y3 : wrap64 ((r : Int) + 1) = ((r + 1 : Nat) : Int) := by clear y4; unfold wrap64; omega
              go_wp2_with (go_at_call 96; (with_reducible refine (NZ.out _ (by (repeat (first | with_reducible exact Grow.refl _ | with_reducible refine Grow.alloc ?_ _ | with_reducible refine Grow.drew ?_ | with_reducible refine Grow.drewN ?_ _ | (with_reducible refine Grow.setCell ?_ ?hp _; (case hp => (simp; try omega))) | with_reducible refine Grow.trans ?_ (by assumption))))).mono ?_); (rintro e u4 ⟨rfl, hb4⟩))
              clear y3 y4
              go_roundg (n - (r + 1))
              case measure => have := HGK2.out; omega
              case rel => exact ⟨r + 1, rfl, by omega, Lib.hid rfl, Lib.hid (by rw [HSJ.out, sigRow_zero hz]; exact HSR.out.go (by (repeat (first | with_reducible exact Grow.refl _ | with_reducible refine Grow.alloc ?_ _ | with_reducible refine Grow.drew ?_ | with_reducible refine Grow.drewN ?_ _ | (with_reducible refine Grow.setCell ?_ ?hp _; (case hp => (simp; try omega))) | with_reducible refine Grow.trans ?_ (by assumption)))))⟩
            · rw [decide_eq_true (show L r k ≠ 0 from hz)] at NZ
              rw [sigRow_pos hz] at HSJ
              have HRB := Lib.hid (HRW.out hz)
              obtain ⟨s3, a3, l3, c3, t3, b3, k3, e3, hcQ, hvQ⟩ := row_cells (HSR.out.grid.row k hk) hk
              have QC := Lib.hid hcQ
              have QU := Lib.hid (fun (u : World) (hu : Grow wr u) => quoQ (L r k) (L k k) _ _ (rat_ne HPK.out) HRB.out.quo.1 HRB.out.quo.2 u (hvP.grow hu) (hvQ.grow hu))
              clear hcQ hvP hvQ HRW
              obtain ⟨q, hq⟩ : ∃ q, L r k / L k k = q := ⟨_, rfl⟩
              rw [hq] at QU HSJ
              have HRBr := Lib.hid HRB.out.row
              have HRBc := Lib.hid HRB.out.col
              rw [hq] at HRBr HRBc
              clear hq HRB
              obtain ⟨f, hf⟩ : ∃ f, -q = f := ⟨_, rfl⟩
              have HF := Lib.hid hf
              rw [hf] at HSJ HRBr HRBc
              clear hf
              have d0 : ∀ u : World, Grow wr u → u.cell? ⟨R r, O r + k * 4, none⟩ = some (.bool s2) ∧ u.cell? ⟨R r, O r + k * 4 + 1, none⟩ = some (.slice a2 l2 c2) ∧ u.cell? ⟨R r, O r + k * 4 + 2, none⟩ = some (.bool t2) ∧ u.cell? ⟨R r, O r + k * 4 + 3, none⟩ = some (.slice b2 k2 e2) ∧ u.cell? ⟨R k, O k + k * 4, none⟩ = some (.bool s3) ∧ u.cell? ⟨R k, O k + k * 4 + 1, none⟩ = some (.slice a3 l3 c3) ∧ u.cell? ⟨R k, O k + k * 4 + 2, none⟩ = some (.bool t3) ∧ u.cell? ⟨R k, O k + k * 4 + 3, none⟩ = some (.slice b3 k3 e3) ∧ u.cell? ⟨G, r, none⟩ = some (.slice (some ⟨R r, O r, none⟩) n (C r)) ∧ u.cell? ⟨G, k, none⟩ = some (.slice (some ⟨R k, O k, none⟩) n (C k)) := by
                intro u hu
                obtain ⟨p0, p1, p2, p3, -, -⟩ := PC.out u hu
                obtain ⟨q0, q1, q2, q3, -, -⟩ := QC.out u hu
                exact ⟨p0, p1, p2, p3, q0, q1, q2, q3, GR.out u hu, GK.out u hu⟩
              have D0 := Lib.hid d0
              clear d0
              have RL := Lib.hid (fun i (hi : i < n) => (HSR.out.grid.row i hi).lt)
              go_upto_region 18 with (go_at_call 96; (with_reducible refine (NZ.out _ (by (repeat (first | with_reducible exact Grow.refl _ | with_reducible refine Grow.alloc ?_ _ | with_reducible refine Grow.drew ?_ | with_reducible refine Grow.drewN ?_ _ | (with_reducible refine Grow.setCell ?_ ?hp _; (case hp => (simp; try omega))) | with_reducible refine Grow.trans ?_ (by assumption))))).mono ?_); (rintro e u4 ⟨rfl, hb4⟩))
              clear f0 f1 f2 f3 f4 f5 f6 hmr NZ
              go_cut [10, 11] (fun t10 t11 wx => ∃ F, t10 = .pointer (some ⟨F, 0, none⟩) ∧ t11 = .int .i64 0 ∧ Hid (Grow wr wx) ∧ Hid (RowQ wx F 0 1 (fun _ => q)) ∧ Hid (∀ i, i < n → R i < F) ∧ wr.heap.size ≤ F)
              case first =>
                have hz4 := hb4.size
                go_region_held3 (fun u => u.cell? ⟨R r, O r + k * 4, none⟩ = some (.bool s2) ∧ u.cell? ⟨R r, O r + k * 4 + 1, none⟩ = some (.slice a2 l2 c2) ∧ u.cell? ⟨R r, O r + k * 4 + 2, none⟩ = some (.bool t2) ∧ u.cell? ⟨R r, O r + k * 4 + 3, none⟩ = some (.slice b2 k2 e2) ∧ u.cell? ⟨R k, O k + k * 4, none⟩ = some (.bool s3) ∧ u.cell? ⟨R k, O k + k * 4 + 1, none⟩ = some (.slice a3 l3 c3) ∧ u.cell? ⟨R k, O k + k * 4 + 2, none⟩ = some (.bool t3) ∧ u.cell? ⟨R k, O k + k * 4 + 3, none⟩ = some (.slice b3 k3 e3) ∧ u.cell? ⟨G, r, none⟩ = some (.slice (some ⟨R r, O r, none⟩) n (C r)) ∧ u.cell? ⟨G, k, none⟩ = some (.slice (some ⟨R k, O k, none⟩) n (C k)))
                  (exact D0.out _ (by (repeat (first | with_reducible exact Grow.refl _ | with_reducible refine Grow.alloc ?_ _ | with_reducible refine Grow.drew ?_ | with_reducible refine Grow.drewN ?_ _ | (with_reducible refine Grow.setCell ?_ ?hp _; (case hp => (simp; try omega))) | with_reducible refine Grow.trans ?_ (by assumption)))))
                  (first | (go_at_call 50; (with_reducible refine (QU.out _ (by (repeat (first | with_reducible exact Grow.refl _ | with_reducible refine Grow.alloc ?_ _ | with_reducible refine Grow.drew ?_ | with_reducible refine Grow.drewN ?_ _ | (with_reducible refine Grow.setCell ?_ ?hp _; (case hp => (simp; try omega))) | with_reducible refine Grow.trans ?_ (by assumption))))).mono ?_); (rintro e u5 ⟨v5, rfl, hv5, hb5⟩; obtain ⟨s5, a5, l5, c5, t5, b5, k5, e5, rfl⟩ := hv5.form; have HV5 := Lib.hid hv5; clear hv5; (try (have hk9 := ak4 (w := u4) (t := 36) (v0 := .bool false) (v1 := .slice none 0 0) (v2 := .bool false) (v3 := .slice none 0 0) rfl u5 (Grow.trans (Grow.drew (Grow.refl _)) hb5); obtain ⟨o0, o1, o2, o3, of, oz⟩ := hk9)))))
                all_goals (try simp only [Exit.then])
                all_goals go_wp2_with fail
                all_goals go_meet
                all_goals first
                  | exact ⟨_, rfl, rfl, Lib.hid (by (repeat (first | with_reducible exact Grow.refl _ | with_reducible refine Grow.alloc ?_ _ | with_reducible refine Grow.drew ?_ | with_reducible refine Grow.drewN ?_ _ | (with_reducible refine Grow.setCell ?_ ?hp _; (case hp => (simp; try omega))) | with_reducible refine Grow.trans ?_ (by assumption)))), Lib.hid (rowq_alloc u5 36 HV5.out), Lib.hid (fun i hi => by have h1 := RL.out i hi; have h2 := hb5.size; simp at h2; omega), by have h2 := hb5.size; simp at h2; omega⟩
                  | exact ⟨_, rfl, rfl, Lib.hid (hb4.trans (cellB (ty := 36) (Grow.trans (Grow.drew (Grow.refl _)) hb5) HV5.out).1), Lib.hid (cellB (ty := 36) (Grow.trans (Grow.drew (Grow.refl _)) hb5) HV5.out).2, Lib.hid (fun i hi => by have h1 := RL.out i hi; omega), by omega⟩
              case rest =>
                obtain ⟨F, rfl, rfl, HG7, HF7, HFR, hFz⟩ := hcut
                clear QU D0 RL hb4 HPK PC QC
                obtain ⟨w7, rfl⟩ : ∃ w7, w7 = wc := ⟨_, rfl⟩
                obtain ⟨s5, a5, l5, c5, t5, b5, k5, e5, hcF, hvF⟩ := row_cells HF7.out (show 0 < 1 by omega)
                simp only [Nat.zero_mul, Nat.add_zero, Nat.zero_add] at hcF
                have FC := Lib.hid hcF
                have NG := Lib.hid (fun (u : World) (hu : Grow w7 u) => negQ q _ u (hvF.grow hu))
                rw [HF.out] at NG
                clear hcF hvF
                obtain ⟨f0, f1, f2, f3, f4, f5⟩ := FC.out w7 (Grow.refl _)
                go_upto_region 20 with (go_at_call 36; (with_reducible refine (NG.out _ (by (repeat (first | with_reducible exact Grow.refl _ | with_reducible refine Grow.alloc ?_ _ | with_reducible refine Grow.drew ?_ | with_reducible refine Grow.drewN ?_ _ | (with_reducible refine Grow.setCell ?_ ?hp _; (case hp => (simp; try omega))) | with_reducible refine Grow.trans ?_ (by assumption))))).mono ?_); (rintro e u8 ⟨v8, rfl, hv8, hb8⟩; obtain ⟨s8, a8, l8, c8, t8, b8, k8, e8, rfl⟩ := hv8.form; have HV8 := Lib.hid hv8; clear hv8; obtain ⟨g0, g1, g2, g3, g4, g5⟩ := FC.out u8 (by (repeat (first | with_reducible exact Grow.refl _ | with_reducible refine Grow.alloc ?_ _ | with_reducible refine Grow.drew ?_ | with_reducible refine Grow.drewN ?_ _ | (with_reducible refine Grow.setCell ?_ ?hp _; (case hp => (simp; try omega))) | with_reducible refine Grow.trans ?_ (by assumption))))))
                have hrc := recell (HF7.out.grow hb8) HV8.out
                have hz7 := HG7.out.size
                have hG8 : Grow wr (st4 u8 F 0 (.bool s8) (.slice a8 l8 c8) (.bool t8) (.slice b8 k8 e8)) := (((HG7.out.trans hb8).but _).trans hrc.1).asGrow (fun b e => by omega)
                have hsg := HSR.out.go hG8
                obtain ⟨w8, hw8⟩ : ∃ w8, (((u8.setCell ⟨F, 0, none⟩ (.bool s8)).setCell ⟨F, 1, none⟩ (.slice a8 l8 c8)).setCell ⟨F, 2, none⟩ (.bool t8)).setCell ⟨F, 3, none⟩ (.slice b8 k8 e8) = w8 := ⟨_, rfl⟩
                rw [hw8]
                have HS8 : Hid (SigS w G D n R O C w8 (k + 1) L) := Lib.hid (by rw [← hw8]; exact hsg)
                have HF8 : Hid (RowQ w8 F 0 1 (fun _ => f)) := Lib.hid (by rw [← hw8]; exact hrc.2)
                clear hrc hG8 hsg hw8 HV8 hb8 g0 g1 g2 g3 g4 g5 f0 f1 f2 f3 f4 f5 FC NG HF7 HG7 HSR HF GR GK hz7
                go_wp2_with fail
                go_loopg [91] n (fun gk3 t91 wy => ∃ c : Nat, t91 = .int .i64 (c : Int) ∧ c ≤ n ∧ Hid (gk3 = n - c) ∧ Hid (SigS w G D n R O C wy (k + 1) (srA f k r c L)) ∧ Hid (RowQ wy F 0 1 (fun _ => f)))
                case atStart => exact ⟨0, rfl, Nat.zero_le _, Lib.hid rfl, Lib.hid (by rw [srA_zero]; exact HS8.out), HF8⟩
                case round =>
                  clear HS8 HF8
                  obtain ⟨c, rfl, hc2, HGK3, HSC, HFC⟩ := hrel
                  by_cases hcn : c = n
                  · have v1 : decide ((c : Int) < (n : Int)) = false := by simp; omega
                    have v2 : ¬ ((c : Int) < (n : Int)) := by omega
                    rw [hcn] at HSC
                    clear hcn
                    have HSA := Lib.hid (HSC.out.cong (N' := sigA f k r L) (fun i j _ hj => (srA_full f k r n L i j hj).symm))
                    obtain ⟨LA, hLA⟩ : ∃ LA, sigA f k r L = LA := ⟨_, rfl⟩
                    rw [hLA] at HSA HSJ HRBc
                    clear hLA HSC HRBr
                    go_wp2_with fail
                    go_loopg [120] n (fun gk4 t120 wz => ∃ c : Nat, t120 = .int .i64 (c : Int) ∧ c ≤ n ∧ Hid (gk4 = n - c) ∧ Hid (SigS w G D n R O C wz (k + 1) (srB f k r c LA)) ∧ Hid (RowQ wz F 0 1 (fun _ => f)))
                    case atStart => exact ⟨0, rfl, Nat.zero_le _, Lib.hid rfl, Lib.hid (by rw [srB_zero]; exact HSA.out), HFC⟩
                    case round =>
                      clear HSA HFC
                      obtain ⟨d, rfl, hd2, HGK4, HSD, HFD⟩ := hrel
                      by_cases hdn : d = n
                      · have v2 : decide ((d : Int) < (n : Int)) = false := by simp; omega
                        rw [hdn] at HSD
                        have HSE := Lib.hid (HSD.out.cong (N' := sigB f k r LA) (fun i j hi _ => (srB_full f k r n LA i j hi).symm))
                        have y4 : IntKind.i64.wrap ((r : Int) + 1) = ((r + 1 : Nat) : Int) := (IntWalk.i64_in ((r : Int) + 1) (by omega)).trans (by omega)
                        have y3 : wrap64 ((r : Int) + 1) = ((r + 1 : Nat) : Int) := by clear y4; unfold wrap64; omega
                        go_wp2_with fail
                        clear y3 y4
                        go_roundg (n - (r + 1))
                        case measure => have := HGK2.out; omega
                        case rel => exact ⟨r + 1, rfl, by omega, Lib.hid rfl, Lib.hid (by rw [HSJ.out]; exact HSE.out)⟩
                      · have hd : d < n := by omega
                        have v0 : (0 : Int) ≤ (d : Int) := by omega
                        have v2 : (d : Int) < (n : Int) := by omega
                        have hrow := HSD.out.grid.row d hd
                        obtain ⟨s2, a2, l2, c2, t2, b2, k2, e2, hcP, hvP⟩ := row_cells hrow hr
                        obtain ⟨s3, a3, l3, c3, t3, b3, k3, e3, hcQ, hvQ⟩ := row_cells hrow hk
                        obtain ⟨s5, a5, l5, c5, t5, b5, k5, e5, hcF, hvF⟩ := row_cells HFD.out (show 0 < 1 by omega)
                        rw [srB_here] at hvP hvQ
                        simp only [Nat.zero_mul, Nat.add_zero, Nat.zero_add] at hcF
                        have PC := Lib.hid hcP
                        have QC := Lib.hid hcQ
                        have FC := Lib.hid hcF
                        have GR := Lib.hid (HSD.out.grid.cells hd)
                        obtain ⟨hmb, hab⟩ := HRBc.out d hd
                        have ML := Lib.hid (fun (u : World) (hu : Grow wr u) => mulQ f (LA d k) _ _ hmb.1 hmb.2 u (hvF.grow hu) (hvQ.grow hu))
                        have AD := Lib.hid (fun (u : World) (v : Value) (hv : RatR u v (f * LA d k)) (hu : Grow wr u) => addQ (LA d r) (f * LA d k) _ v hab u (hvP.grow hu) hv)
                        clear hcP hcQ hcF hvP hvQ hvF hmb hab hrow
                        go_upto_region 28 with fail
                        refine region_held (id := 28) (fun u => Grow wr u) [0, 1, 2, 3, 4, 5, 6, 7, 8, 9, 10, 11, 12, 13, 14, 15, 16, 17, 18, 19, 20, 21, 22, 23] (kdL [0, 0, 0, 1, 0, 0, 0, 0, 1, 0, 0, 1, 1, 0, 0, 0, 1, 0, 0, 1, 2, 2, 0, 3]) (by kernel_rfl) (by kernel_rfl) (fun t ht => kdL_lt _ t ht) ?hS0q ?_
                        case hS0q => ((try dsimp only); (repeat (first | with_reducible exact Grow.refl _ | with_reducible refine Grow.alloc ?_ _ | with_reducible refine Grow.drew ?_ | with_reducible refine Grow.drewN ?_ _ | (with_reducible refine Grow.setCell ?_ ?hp _; (case hp => (simp; try omega))) | with_reducible refine Grow.trans ?_ (by assumption))))
                        refine held_quiet (v := ?vq0) rfl rfl (Or.inl ⟨by rfl, ?hyq0⟩) ?_
                        case hyq0 => (intro u hu; go_simp; (try with_reducible rfl))
                        (try simp only [Act.put, List.setIfInBounds_toArray])
                        refine held_quiet (v := ?vq1) rfl rfl (Or.inl ⟨by rfl, ?hyq1⟩) ?_
                        case hyq1 => (intro u hu; go_simp; (try with_reducible rfl))
                        (try simp only [Act.put])
                        refine held_quiet (v := ?vq2) rfl rfl (Or.inl ⟨by rfl, ?hyq2⟩) ?_
                        case hyq2 => (intro u hu; go_simp; (try with_reducible rfl))
                        (try simp only [Act.put])
                        refine held_read (v := ?vq3) rfl rfl (Or.inl ⟨by rfl, ?hyq3⟩) ?_
                        case hyq3 => (intro u hu; obtain ⟨f0, f1, f2, f3, f4, f5⟩ := PC.out u (by (repeat (first | with_reducible exact Grow.refl _ | with_reducible refine Grow.alloc ?_ _ | with_reducible refine Grow.drew ?_ | with_reducible refine Grow.drewN ?_ _ | (with_reducible refine Grow.setCell ?_ ?hp _; (case hp => (simp; try omega))) | with_reducible refine Grow.trans ?_ (by assumption)))); obtain ⟨g0, g1, g2, g3, g4, g5⟩ := QC.out u (by (repeat (first | with_reducible exact Grow.refl _ | with_reducible refine Grow.alloc ?_ _ | with_reducible refine Grow.drew ?_ | with_reducible refine Grow.drewN ?_ _ | (with_reducible refine Grow.setCell ?_ ?hp _; (case hp => (simp; try omega))) | with_reducible refine Grow.trans ?_ (by assumption)))); obtain ⟨h0, h1, h2, h3, h4, h5⟩ := FC.out u (by (repeat (first | with_reducible exact Grow.refl _ | with_reducible refine Grow.alloc ?_ _ | with_reducible refine Grow.drew ?_ | with_reducible refine Grow.drewN ?_ _ | (with_reducible refine Grow.setCell ?_ ?hp _; (case hp => (simp; try omega))) | with_reducible refine Grow.trans ?_ (by assumption)))); have hg := GR.out u (by (repeat (first | with_reducible exact Grow.refl _ | with_reducible refine Grow.alloc ?_ _ | with_reducible refine Grow.drew ?_ | with_reducible refine Grow.drewN ?_ _ | (with_reducible refine Grow.setCell ?_ ?hp _; (case hp => (simp; try omega))) | with_reducible refine Grow.trans ?_ (by assumption)))); go_simp; (try with_reducible rfl))
                        (try simp only [Act.put])
                        refine held_quiet (v := ?vq4) rfl rfl (Or.inl ⟨by rfl, ?hyq4⟩) ?_
                        case hyq4 => (intro u hu; go_simp; (try with_reducible rfl))
                        (try simp only [Act.put])
                        refine held_quiet (v := ?vq5) rfl rfl (Or.inl ⟨by rfl, ?hyq5⟩) ?_
                        case hyq5 => (intro u hu; go_simp; (try with_reducible rfl))
                        (try simp only [Act.put])
                        refine held_quiet (v := ?vq6) rfl rfl (Or.inl ⟨by rfl, ?hyq6⟩) ?_
                        case hyq6 => (intro u hu; go_simp; (try with_reducible rfl))
                        (try simp only [Act.put])
                        refine held_quiet (v := ?vq7) rfl rfl (Or.inl ⟨by rfl, ?hyq7⟩) ?_
                        case hyq7 => (intro u hu; go_simp; (try with_reducible rfl))
                        (try simp only [Act.put])
                        refine held_read (v := ?vq8) rfl rfl (Or.inl ⟨by rfl, ?hyq8⟩) ?_
                        case hyq8 => (intro u hu; obtain ⟨f0, f1, f2, f3, f4, f5⟩ := PC.out u (by (repeat (first | with_reducible exact Grow.refl _ | with_reducible refine Grow.alloc ?_ _ | with_reducible refine Grow.drew ?_ | with_reducible refine Grow.drewN ?_ _ | (with_reducible refine Grow.setCell ?_ ?hp _; (case hp => (simp; try omega))) | with_reducible refine Grow.trans ?_ (by assumption)))); obtain ⟨g0, g1, g2, g3, g4, g5⟩ := QC.out u (by (repeat (first | with_reducible exact Grow.refl _ | with_reducible refine Grow.alloc ?_ _ | with_reducible refine Grow.drew ?_ | with_reducible refine Grow.drewN ?_ _ | (with_reducible refine Grow.setCell ?_ ?hp _; (case hp => (simp; try omega))) | with_reducible refine Grow.trans ?_ (by assumption)))); obtain ⟨h0, h1, h2, h3, h4, h5⟩ := FC.out u (by (repeat (first | with_reducible exact Grow.refl _ | with_reducible refine Grow.alloc ?_ _ | with_reducible refine Grow.drew ?_ | with_reducible refine Grow.drewN ?_ _ | (with_reducible refine Grow.setCell ?_ ?hp _; (case hp => (simp; try omega))) | with_reducible refine Grow.trans ?_ (by assumption)))); have hg := GR.out u (by (repeat (first | with_reducible exact Grow.refl _ | with_reducible refine Grow.alloc ?_ _ | with_reducible refine Grow.drew ?_ | with_reducible refine Grow.drewN ?_ _ | (with_reducible refine Grow.setCell ?_ ?hp _; (case hp => (simp; try omega))) | with_reducible refine Grow.trans ?_ (by assumption)))); go_simp; (try with_reducible rfl))
                        (try simp only [Act.put])
                        refine held_quiet (v := ?vq9) rfl rfl (Or.inl ⟨by rfl, ?hyq9⟩) ?_
                        case hyq9 => (intro u hu; go_simp; (try with_reducible rfl))
                        (try simp only [Act.put])
                        refine held_quiet (v := ?vq10) rfl rfl (Or.inl ⟨by rfl, ?hyq10⟩) ?_
                        case hyq10 => (intro u hu; go_simp; (try with_reducible rfl))
                        (try simp only [Act.put])
                        refine held_read (v := ?vq11) rfl rfl (Or.inl ⟨by rfl, ?hyq11⟩) ?_
                        case hyq11 => (intro u hu; obtain ⟨f0, f1, f2, f3, f4, f5⟩ := PC.out u (by (repeat (first | with_reducible exact Grow.refl _ | with_reducible refine Grow.alloc ?_ _ | with_reducible refine Grow.drew ?_ | with_reducible refine Grow.drewN ?_ _ | (with_reducible refine Grow.setCell ?_ ?hp _; (case hp => (simp; try omega))) | with_reducible refine Grow.trans ?_ (by assumption)))); obtain ⟨g0, g1, g2, g3, g4, g5⟩ := QC.out u (by (repeat (first | with_reducible exact Grow.refl _ | with_reducible refine Grow.alloc ?_ _ | with_reducible refine Grow.drew ?_ | with_reducible refine Grow.drewN ?_ _ | (with_reducible refine Grow.setCell ?_ ?hp _; (case hp => (simp; try omega))) | with_reducible refine Grow.trans ?_ (by assumption)))); obtain ⟨h0, h1, h2, h3, h4, h5⟩ := FC.out u (by (repeat (first | with_reducible exact Grow.refl _ | with_reducible refine Grow.alloc ?_ _ | with_reducible refine Grow.drew ?_ | with_reducible refine Grow.drewN ?_ _ | (with_reducible refine Grow.setCell ?_ ?hp _; (case hp => (simp; try omega))) | with_reducible refine Grow.trans ?_ (by assumption)))); have hg := GR.out u (by (repeat (first | with_reducible exact Grow.refl _ | with_reducible refine Grow.alloc ?_ _ | with_reducible refine Grow.drew ?_ | with_reducible refine Grow.drewN ?_ _ | (with_reducible refine Grow.setCell ?_ ?hp _; (case hp => (simp; try omega))) | with_reducible refine Grow.trans ?_ (by assumption)))); go_simp; (try with_reducible rfl))
                        (try simp only [Act.put])
                        refine held_read (v := ?vq12) rfl rfl (Or.inl ⟨by rfl, ?hyq12⟩) ?_
                        case hyq12 => (intro u hu; obtain ⟨f0, f1, f2, f3, f4, f5⟩ := PC.out u (by (repeat (first | with_reducible exact Grow.refl _ | with_reducible refine Grow.alloc ?_ _ | with_reducible refine Grow.drew ?_ | with_reducible refine Grow.drewN ?_ _ | (with_reducible refine Grow.setCell ?_ ?hp _; (case hp => (simp; try omega))) | with_reducible refine Grow.trans ?_ (by assumption)))); obtain ⟨g0, g1, g2, g3, g4, g5⟩ := QC.out u (by (repeat (first | with_reducible exact Grow.refl _ | with_reducible refine Grow.alloc ?_ _ | with_reducible refine Grow.drew ?_ | with_reducible refine Grow.drewN ?_ _ | (with_reducible refine Grow.setCell ?_ ?hp _; (case hp => (simp; try omega))) | with_reducible refine Grow.trans ?_ (by assumption)))); obtain ⟨h0, h1, h2, h3, h4, h5⟩ := FC.out u (by (repeat (first | with_reducible exact Grow.refl _ | with_reducible refine Grow.alloc ?_ _ | with_reducible refine Grow.drew ?_ | with_reducible refine Grow.drewN ?_ _ | (with_reducible refine Grow.setCell ?_ ?hp _; (case hp => (simp; try omega))) | with_reducible refine Grow.trans ?_ (by assumption)))); have hg := GR.out u (by (repeat (first | with_reducible exact Grow.refl _ | with_reducible refine Grow.alloc ?_ _ | with_reducible refine Grow.drew ?_ | with_reducible refine Grow.drewN ?_ _ | (with_reducible refine Grow.setCell ?_ ?hp _; (case hp => (simp; try omega))) | with_reducible refine Grow.trans ?_ (by assumption)))); go_simp; (try with_reducible rfl))
                        (try simp only [Act.put])
                        refine held_quiet (v := ?vq13) rfl rfl (Or.inl ⟨by rfl, ?hyq13⟩) ?_
                        case hyq13 => (intro u hu; go_simp; (try with_reducible rfl))
                        (try simp only [Act.put])
                        refine held_quiet (v := ?vq14) rfl rfl (Or.inl ⟨by rfl, ?hyq14⟩) ?_
                        case hyq14 => (intro u hu; go_simp; (try with_reducible rfl))
                        (try simp only [Act.put])
                        refine held_quiet (v := ?vq15) rfl rfl (Or.inl ⟨by rfl, ?hyq15⟩) ?_
                        case hyq15 => (intro u hu; go_simp; (try with_reducible rfl))
                        (try simp only [Act.put])
                        refine held_read (v := ?vq16) rfl rfl (Or.inl ⟨by rfl, ?hyq16⟩) ?_
                        case hyq16 => (intro u hu; obtain ⟨f0, f1, f2, f3, f4, f5⟩ := PC.out u (by (repeat (first | with_reducible exact Grow.refl _ | with_reducible refine Grow.alloc ?_ _ | with_reducible refine Grow.drew ?_ | with_reducible refine Grow.drewN ?_ _ | (with_reducible refine Grow.setCell ?_ ?hp _; (case hp => (simp; try omega))) | with_reducible refine Grow.trans ?_ (by assumption)))); obtain ⟨g0, g1, g2, g3, g4, g5⟩ := QC.out u (by (repeat (first | with_reducible exact Grow.refl _ | with_reducible refine Grow.alloc ?_ _ | with_reducible refine Grow.drew ?_ | with_reducible refine Grow.drewN ?_ _ | (with_reducible refine Grow.setCell ?_ ?hp _; (case hp => (simp; try omega))) | with_reducible refine Grow.trans ?_ (by assumption)))); obtain ⟨h0, h1, h2, h3, h4, h5⟩ := FC.out u (by (repeat (first | with_reducible exact Grow.refl _ | with_reducible refine Grow.alloc ?_ _ | with_reducible refine Grow.drew ?_ | with_reducible refine Grow.drewN ?_ _ | (with_reducible refine Grow.setCell ?_ ?hp _; (case hp => (simp; try omega))) | with_reducible refine Grow.trans ?_ (by assumption)))); have hg := GR.out u (by (repeat (first | with_reducible exact Grow.refl _ | with_reducible refine Grow.alloc ?_ _ | with_reducible refine Grow.drew ?_ | with_reducible refine Grow.drewN ?_ _ | (with_reducible refine Grow.setCell ?_ ?hp _; (case hp => (simp; try omega))) | with_reducible refine Grow.trans ?_ (by assumption)))); go_simp; (try with_reducible rfl))
                        (try simp only [Act.put])
                        refine held_quiet (v := ?vq17) rfl rfl (Or.inl ⟨by rfl, ?hyq17⟩) ?_
                        case hyq17 => (intro u hu; go_simp; (try with_reducible rfl))
                        (try simp only [Act.put])
                        refine held_quiet (v := ?vq18) rfl rfl (Or.inl ⟨by rfl, ?hyq18⟩) ?_
                        case hyq18 => (intro u hu; go_simp; (try with_reducible rfl))
                        (try simp only [Act.put])
                        refine held_read (v := ?vq19) rfl rfl (Or.inl ⟨by rfl, ?hyq19⟩) ?_
                        case hyq19 => (intro u hu; obtain ⟨f0, f1, f2, f3, f4, f5⟩ := PC.out u (by (repeat (first | with_reducible exact Grow.refl _ | with_reducible refine Grow.alloc ?_ _ | with_reducible refine Grow.drew ?_ | with_reducible refine Grow.drewN ?_ _ | (with_reducible refine Grow.setCell ?_ ?hp _; (case hp => (simp; try omega))) | with_reducible refine Grow.trans ?_ (by assumption)))); obtain ⟨g0, g1, g2, g3, g4, g5⟩ := QC.out u (by (repeat (first | with_reducible exact Grow.refl _ | with_reducible refine Grow.alloc ?_ _ | with_reducible refine Grow.drew ?_ | with_reducible refine Grow.drewN ?_ _ | (with_reducible refine Grow.setCell ?_ ?hp _; (case hp => (simp; try omega))) | with_reducible refine Grow.trans ?_ (by assumption)))); obtain ⟨h0, h1, h2, h3, h4, h5⟩ := FC.out u (by (repeat (first | with_reducible exact Grow.refl _ | with_reducible refine Grow.alloc ?_ _ | with_reducible refine Grow.drew ?_ | with_reducible refine Grow.drewN ?_ _ | (with_reducible refine Grow.setCell ?_ ?hp _; (case hp => (simp; try omega))) | with_reducible refine Grow.trans ?_ (by assumption)))); have hg := GR.out u (by (repeat (first | with_reducible exact Grow.refl _ | with_reducible refine Grow.alloc ?_ _ | with_reducible refine Grow.drew ?_ | with_reducible refine Grow.drewN ?_ _ | (with_reducible refine Grow.setCell ?_ ?hp _; (case hp => (simp; try omega))) | with_reducible refine Grow.trans ?_ (by assumption)))); go_simp; (try with_reducible rfl))
                        (try simp only [Act.put])
                        refine held_op rfl rfl (fun K hK => ?_)
                        go_simp
                        (go_at_call 10; (with_reducible refine (ML.out _ (by (repeat (first | with_reducible exact Grow.refl _ | with_reducible refine Grow.alloc ?_ _ | with_reducible refine Grow.drew ?_ | with_reducible refine Grow.drewN ?_ _ | (with_reducible refine Grow.setCell ?_ ?hp _; (case hp => (simp; try omega))) | with_reducible refine Grow.trans ?_ (by assumption))))).mono ?_); (rintro e u10 ⟨v10, rfl, hv10, hb10⟩; obtain ⟨s10, a10, l10, c10, t10, b10, k10, e10, rfl⟩ := hv10.form; have HV10 := Lib.hid hv10; clear hv10))
                        (try go_wp2_with fail)
                        refine hK.out _ _ ?hSq20 ?_
                        case hSq20 => ((try dsimp only); (repeat (first | with_reducible exact Grow.refl _ | with_reducible refine Grow.alloc ?_ _ | with_reducible refine Grow.drew ?_ | with_reducible refine Grow.drewN ?_ _ | (with_reducible refine Grow.setCell ?_ ?hp _; (case hp => (simp; try omega))) | with_reducible refine Grow.trans ?_ (by assumption))))
                        clear hK K
                        (try simp only [Act.put])
                        refine held_op rfl rfl (fun K hK => ?_)
                        go_simp
                        (go_at_call 21; (with_reducible refine (AD.out _ _ (HV10.out.grow (by (repeat (first | with_reducible exact Grow.refl _ | with_reducible refine Grow.alloc ?_ _ | with_reducible refine Grow.drew ?_ | with_reducible refine Grow.drewN ?_ _ | (with_reducible refine Grow.setCell ?_ ?hp _; (case hp => (simp; try omega))) | with_reducible refine Grow.trans ?_ (by assumption))))) (by (repeat (first | with_reducible exact Grow.refl _ | with_reducible refine Grow.alloc ?_ _ | with_reducible refine Grow.drew ?_ | with_reducible refine Grow.drewN ?_ _ | (with_reducible refine Grow.setCell ?_ ?hp _; (case hp => (simp; try omega))) | with_reducible refine Grow.trans ?_ (by assumption))))).mono ?_); (rintro e u11 ⟨v11, rfl, hv11, hb11⟩; obtain ⟨s11, a11, l11, c11, t11, b11, k11, e11, rfl⟩ := hv11.form; have HV11 := Lib.hid hv11; clear hv11 HV10; obtain ⟨p0, p1, p2, p3, p4, p5⟩ := PC.out u11 (by (repeat (first | with_reducible exact Grow.refl _ | with_reducible refine Grow.alloc ?_ _ | with_reducible refine Grow.drew ?_ | with_reducible refine Grow.drewN ?_ _ | (with_reducible refine Grow.setCell ?_ ?hp _; (case hp => (simp; try omega))) | with_reducible refine Grow.trans ?_ (by assumption))))))
                        (try go_wp2_with fail)
                        refine hK.out _ _ ?hSq21 ?_
                        case hSq21 => ((try dsimp only); (repeat (first | with_reducible exact Grow.refl _ | with_reducible refine Grow.alloc ?_ _ | with_reducible refine Grow.drew ?_ | with_reducible refine Grow.drewN ?_ _ | (with_reducible refine Grow.setCell ?_ ?hp _; (case hp => (simp; try omega))) | with_reducible refine Grow.trans ?_ (by assumption))))
                        clear hK K
                        (try simp only [Act.put])
                        refine held_quiet (v := ?vq22) rfl rfl (Or.inl ⟨by rfl, ?hyq22⟩) ?_
                        case hyq22 => (intro u hu; go_simp; (try with_reducible rfl))
                        (try simp only [Act.put])
                        refine held_last rfl rfl (fun K hK => ?_)
                        go_simp
                        refine hK.out _ _ ?_
                        clear hK K
                        (try simp only [Act.put])
                        refine held_done ?_
                        have hput := (HSD.out.go (show Grow wr u11 by (repeat (first | with_reducible exact Grow.refl _ | with_reducible refine Grow.alloc ?_ _ | with_reducible refine Grow.drew ?_ | with_reducible refine Grow.drewN ?_ _ | (with_reducible refine Grow.setCell ?_ ?hp _; (case hp => (simp; try omega))) | with_reducible refine Grow.trans ?_ (by assumption))))).put hd hr HV11.out
                        rw [srB_step] at hput
                        have hff := RowP.but (X := fun b => b = R d) (HFD.out.grow (show Grow wr u11 by (repeat (first | with_reducible exact Grow.refl _ | with_reducible refine Grow.alloc ?_ _ | with_reducible refine Grow.drew ?_ | with_reducible refine Grow.drewN ?_ _ | (with_reducible refine Grow.setCell ?_ ?hp _; (case hp => (simp; try omega))) | with_reducible refine Grow.trans ?_ (by assumption))))) (fun e => by have := HFR.out d hd; omega) hput.1
                        obtain ⟨w12, hw12⟩ : ∃ w12, (((u11.setCell ⟨R d, O d + r * 4, none⟩ (.bool s11)).setCell ⟨R d, O d + r * 4 + 1, none⟩ (.slice a11 l11 c11)).setCell ⟨R d, O d + r * 4 + 2, none⟩ (.bool t11)).setCell ⟨R d, O d + r * 4 + 3, none⟩ (.slice b11 k11 e11) = w12 := ⟨_, rfl⟩
                        rw [hw12]
                        have HS12 : Hid (SigS w G D n R O C w12 (k + 1) (srB f k r (d + 1) LA)) := Lib.hid (by rw [← hw12]; exact hput.2)
                        have HF12 : Hid (RowQ w12 F 0 1 (fun _ => f)) := Lib.hid (by rw [← hw12]; exact hff)
                        clear hput hff hw12 HV11 PC QC FC GR ML AD
                        have y4 : IntKind.i64.wrap ((d : Int) + 1) = ((d + 1 : Nat) : Int) := (IntWalk.i64_in ((d : Int) + 1) (by omega)).trans (by omega)
                        have y3 : wrap64 ((d : Int) + 1) = ((d + 1 : Nat) : Int) := by clear y4; unfold wrap64; omega
                        go_wp2_with fail
                        clear y3 y4
                        go_roundg (n - (d + 1))
                        case measure => have := HGK4.out; omega
                        case rel => exact ⟨d + 1, rfl, by omega, Lib.hid rfl, HS12, HF12⟩
                  · have hc : c < n := by omega
                    have v0 : (0 : Int) ≤ (c : Int) := by omega
                    have v1 : (c : Int) < (n : Int) := by omega
                    obtain ⟨s2, a2, l2, c2, t2, b2, k2, e2, hcP, hvP⟩ := row_cells (HSC.out.grid.row r hr) hc
                    obtain ⟨s3, a3, l3, c3, t3, b3, k3, e3, hcQ, hvQ⟩ := row_cells (HSC.out.grid.row k hk) hc
                    obtain ⟨s5, a5, l5, c5, t5, b5, k5, e5, hcF, hvF⟩ := row_cells HFC.out (show 0 < 1 by omega)
                    rw [srA_here] at hvP
                    rw [srA_piv _ _ _ _ _ _ (by omega)] at hvQ
                    simp only [Nat.zero_mul, Nat.add_zero, Nat.zero_add] at hcF
                    have PC := Lib.hid hcP
                    have QC := Lib.hid hcQ
                    have FC := Lib.hid hcF
                    have GR := Lib.hid (HSC.out.grid.cells hr)
                    have GK := Lib.hid (HSC.out.grid.cells hk)
                    obtain ⟨hmb, hab⟩ := HRBr.out c hc
                    have ML := Lib.hid (fun (u : World) (hu : Grow wr u) => mulQ f (L k c) _ _ hmb.1 hmb.2 u (hvF.grow hu) (hvQ.grow hu))
                    have AD := Lib.hid (fun (u : World) (v : Value) (hv : RatR u v (f * L k c)) (hu : Grow wr u) => addQ (L r c) (f * L k c) _ v hab u (hvP.grow hu) hv)
                    clear hcP hcQ hcF hvP hvQ hvF hmb hab
                    go_upto_region 23 with fail
                    refine region_held (id := 23) (fun u => Grow wr u) [0, 1, 2, 3, 4, 5, 6, 7, 8, 9, 10, 11, 12, 13, 14, 15, 16, 17, 18, 19, 20, 21, 22, 23] (kdL [0, 0, 0, 1, 0, 0, 0, 0, 1, 0, 0, 1, 1, 0, 0, 0, 1, 0, 0, 1, 2, 2, 0, 3]) (by kernel_rfl) (by kernel_rfl) (fun t ht => kdL_lt _ t ht) ?hS0p ?_
                    case hS0p => ((try dsimp only); (repeat (first | with_reducible exact Grow.refl _ | with_reducible refine Grow.alloc ?_ _ | with_reducible refine Grow.drew ?_ | with_reducible refine Grow.drewN ?_ _ | (with_reducible refine Grow.setCell ?_ ?hp _; (case hp => (simp; try omega))) | with_reducible refine Grow.trans ?_ (by assumption))))
                    refine held_quiet (v := ?vp0) rfl rfl (Or.inl ⟨by rfl, ?hyp0⟩) ?_
                    case hyp0 => (intro u hu; go_simp; (try with_reducible rfl))
                    (try simp only [Act.put, List.setIfInBounds_toArray])
                    refine held_quiet (v := ?vp1) rfl rfl (Or.inl ⟨by rfl, ?hyp1⟩) ?_
                    case hyp1 => (intro u hu; go_simp; (try with_reducible rfl))
                    (try simp only [Act.put])
                    refine held_quiet (v := ?vp2) rfl rfl (Or.inl ⟨by rfl, ?hyp2⟩) ?_
                    case hyp2 => (intro u hu; go_simp; (try with_reducible rfl))
                    (try simp only [Act.put])
                    refine held_read (v := ?vp3) rfl rfl (Or.inl ⟨by rfl, ?hyp3⟩) ?_
                    case hyp3 => (intro u hu; obtain ⟨f0, f1, f2, f3, f4, f5⟩ := PC.out u (by (repeat (first | with_reducible exact Grow.refl _ | with_reducible refine Grow.alloc ?_ _ | with_reducible refine Grow.drew ?_ | with_reducible refine Grow.drewN ?_ _ | (with_reducible refine Grow.setCell ?_ ?hp _; (case hp => (simp; try omega))) | with_reducible refine Grow.trans ?_ (by assumption)))); obtain ⟨g0, g1, g2, g3, g4, g5⟩ := QC.out u (by (repeat (first | with_reducible exact Grow.refl _ | with_reducible refine Grow.alloc ?_ _ | with_reducible refine Grow.drew ?_ | with_reducible refine Grow.drewN ?_ _ | (with_reducible refine Grow.setCell ?_ ?hp _; (case hp => (simp; try omega))) | with_reducible refine Grow.trans ?_ (by assumption)))); obtain ⟨h0, h1, h2, h3, h4, h5⟩ := FC.out u (by (repeat (first | with_reducible exact Grow.refl _ | with_reducible refine Grow.alloc ?_ _ | with_reducible refine Grow.drew ?_ | with_reducible refine Grow.drewN ?_ _ | (with_reducible refine Grow.setCell ?_ ?hp _; (case hp => (simp; try omega))) | with_reducible refine Grow.trans ?_ (by assumption)))); have hg := GR.out u (by (repeat (first | with_reducible exact Grow.refl _ | with_reducible refine Grow.alloc ?_ _ | with_reducible refine Grow.drew ?_ | with_reducible refine Grow.drewN ?_ _ | (with_reducible refine Grow.setCell ?_ ?hp _; (case hp => (simp; try omega))) | with_reducible refine Grow.trans ?_ (by assumption)))); have hg2 := GK.out u (by (repeat (first | with_reducible exact Grow.refl _ | with_reducible refine Grow.alloc ?_ _ | with_reducible refine Grow.drew ?_ | with_reducible refine Grow.drewN ?_ _ | (with_reducible refine Grow.setCell ?_ ?hp _; (case hp => (simp; try omega))) | with_reducible refine Grow.trans ?_ (by assumption)))); go_simp; (try with_reducible rfl))
                    (try simp only [Act.put])
                    refine held_quiet (v := ?vp4) rfl rfl (Or.inl ⟨by rfl, ?hyp4⟩) ?_
                    case hyp4 => (intro u hu; go_simp; (try with_reducible rfl))
                    (try simp only [Act.put])
                    refine held_quiet (v := ?vp5) rfl rfl (Or.inl ⟨by rfl, ?hyp5⟩) ?_
                    case hyp5 => (intro u hu; go_simp; (try with_reducible rfl))
                    (try simp only [Act.put])
                    refine held_quiet (v := ?vp6) rfl rfl (Or.inl ⟨by rfl, ?hyp6⟩) ?_
                    case hyp6 => (intro u hu; go_simp; (try with_reducible rfl))
                    (try simp only [Act.put])
                    refine held_quiet (v := ?vp7) rfl rfl (Or.inl ⟨by rfl, ?hyp7⟩) ?_
                    case hyp7 => (intro u hu; go_simp; (try with_reducible rfl))
                    (try simp only [Act.put])
                    refine held_read (v := ?vp8) rfl rfl (Or.inl ⟨by rfl, ?hyp8⟩) ?_
                    case hyp8 => (intro u hu; obtain ⟨f0, f1, f2, f3, f4, f5⟩ := PC.out u (by (repeat (first | with_reducible exact Grow.refl _ | with_reducible refine Grow.alloc ?_ _ | with_reducible refine Grow.drew ?_ | with_reducible refine Grow.drewN ?_ _ | (with_reducible refine Grow.setCell ?_ ?hp _; (case hp => (simp; try omega))) | with_reducible refine Grow.trans ?_ (by assumption)))); obtain ⟨g0, g1, g2, g3, g4, g5⟩ := QC.out u (by (repeat (first | with_reducible exact Grow.refl _ | with_reducible refine Grow.alloc ?_ _ | with_reducible refine Grow.drew ?_ | with_reducible refine Grow.drewN ?_ _ | (with_reducible refine Grow.setCell ?_ ?hp _; (case hp => (simp; try omega))) | with_reducible refine Grow.trans ?_ (by assumption)))); obtain ⟨h0, h1, h2, h3, h4, h5⟩ := FC.out u (by (repeat (first | with_reducible exact Grow.refl _ | with_reducible refine Grow.alloc ?_ _ | with_reducible refine Grow.drew ?_ | with_reducible refine Grow.drewN ?_ _ | (with_reducible refine Grow.setCell ?_ ?hp _; (case hp => (simp; try omega))) | with_reducible refine Grow.trans ?_ (by assumption)))); have hg := GR.out u (by (repeat (first | with_reducible exact Grow.refl _ | with_reducible refine Grow.alloc ?_ _ | with_reducible refine Grow.drew ?_ | with_reducible refine Grow.drewN ?_ _ | (with_reducible refine Grow.setCell ?_ ?hp _; (case hp => (simp; try omega))) | with_reducible refine Grow.trans ?_ (by assumption)))); have hg2 := GK.out u (by (repeat (first | with_reducible exact Grow.refl _ | with_reducible refine Grow.alloc ?_ _ | with_reducible refine Grow.drew ?_ | with_reducible refine Grow.drewN ?_ _ | (with_reducible refine Grow.setCell ?_ ?hp _; (case hp => (simp; try omega))) | with_reducible refine Grow.trans ?_ (by assumption)))); go_simp; (try with_reducible rfl))
                    (try simp only [Act.put])
                    refine held_quiet (v := ?vp9) rfl rfl (Or.inl ⟨by rfl, ?hyp9⟩) ?_
                    case hyp9 => (intro u hu; go_simp; (try with_reducible rfl))
                    (try simp only [Act.put])
                    refine held_quiet (v := ?vp10) rfl rfl (Or.inl ⟨by rfl, ?hyp10⟩) ?_
                    case hyp10 => (intro u hu; go_simp; (try with_reducible rfl))
                    (try simp only [Act.put])
                    refine held_read (v := ?vp11) rfl rfl (Or.inl ⟨by rfl, ?hyp11⟩) ?_
                    case hyp11 => (intro u hu; obtain ⟨f0, f1, f2, f3, f4, f5⟩ := PC.out u (by (repeat (first | with_reducible exact Grow.refl _ | with_reducible refine Grow.alloc ?_ _ | with_reducible refine Grow.drew ?_ | with_reducible refine Grow.drewN ?_ _ | (with_reducible refine Grow.setCell ?_ ?hp _; (case hp => (simp; try omega))) | with_reducible refine Grow.trans ?_ (by assumption)))); obtain ⟨g0, g1, g2, g3, g4, g5⟩ := QC.out u (by (repeat (first | with_reducible exact Grow.refl _ | with_reducible refine Grow.alloc ?_ _ | with_reducible refine Grow.drew ?_ | with_reducible refine Grow.drewN ?_ _ | (with_reducible refine Grow.setCell ?_ ?hp _; (case hp => (simp; try omega))) | with_reducible refine Grow.trans ?_ (by assumption)))); obtain ⟨h0, h1, h2, h3, h4, h5⟩ := FC.out u (by (repeat (first | with_reducible exact Grow.refl _ | with_reducible refine Grow.alloc ?_ _ | with_reducible refine Grow.drew ?_ | with_reducible refine Grow.drewN ?_ _ | (with_reducible refine Grow.setCell ?_ ?hp _; (case hp => (simp; try omega))) | with_reducible refine Grow.trans ?_ (by assumption)))); have hg := GR.out u (by (repeat (first | with_reducible exact Grow.refl _ | with_reducible refine Grow.alloc ?_ _ | with_reducible refine Grow.drew ?_ | with_reducible refine Grow.drewN ?_ _ | (with_reducible refine Grow.setCell ?_ ?hp _; (case hp => (simp; try omega))) | with_reducible refine Grow.trans ?_ (by assumption)))); have hg2 := GK.out u (by (repeat (first | with_reducible exact Grow.refl _ | with_reducible refine Grow.alloc ?_ _ | with_reducible refine Grow.drew ?_ | with_reducible refine Grow.drewN ?_ _ | (with_reducible refine Grow.setCell ?_ ?hp _; (case hp => (simp; try omega))) | with_reducible refine Grow.trans ?_ (by assumption)))); go_simp; (try with_reducible rfl))
                    (try simp only [Act.put])
                    refine held_read (v := ?vp12) rfl rfl (Or.inl ⟨by rfl, ?hyp12⟩) ?_
                    case hyp12 => (intro u hu; obtain ⟨f0, f1, f2, f3, f4, f5⟩ := PC.out u (by (repeat (first | with_reducible exact Grow.refl _ | with_reducible refine Grow.alloc ?_ _ | with_reducible refine Grow.drew ?_ | with_reducible refine Grow.drewN ?_ _ | (with_reducible refine Grow.setCell ?_ ?hp _; (case hp => (simp; try omega))) | with_reducible refine Grow.trans ?_ (by assumption)))); obtain ⟨g0, g1, g2, g3, g4, g5⟩ := QC.out u (by (repeat (first | with_reducible exact Grow.refl _ | with_reducible refine Grow.alloc ?_ _ | with_reducible refine Grow.drew ?_ | with_reducible refine Grow.drewN ?_ _ | (with_reducible refine Grow.setCell ?_ ?hp _; (case hp => (simp; try omega))) | with_reducible refine Grow.trans ?_ (by assumption)))); obtain ⟨h0, h1, h2, h3, h4, h5⟩ := FC.out u (by (repeat (first | with_reducible exact Grow.refl _ | with_reducible refine Grow.alloc ?_ _ | with_reducible refine Grow.drew ?_ | with_reducible refine Grow.drewN ?_ _ | (with_reducible refine Grow.setCell ?_ ?hp _; (case hp => (simp; try omega))) | with_reducible refine Grow.trans ?_ (by assumption)))); have hg := GR.out u (by (repeat (first | with_reducible exact Grow.refl _ | with_reducible refine Grow.alloc ?_ _ | with_reducible refine Grow.drew ?_ | with_reducible refine Grow.drewN ?_ _ | (with_reducible refine Grow.setCell ?_ ?hp _; (case hp => (simp; try omega))) | with_reducible refine Grow.trans ?_ (by assumption)))); have hg2 := GK.out u (by (repeat (first | with_reducible exact Grow.refl _ | with_reducible refine Grow.alloc ?_ _ | with_reducible refine Grow.drew ?_ | with_reducible refine Grow.drewN ?_ _ | (with_reducible refine Grow.setCell ?_ ?hp _; (case hp => (simp; try omega))) | with_reducible refine Grow.trans ?_ (by assumption)))); go_simp; (try with_reducible rfl))
                    (try simp only [Act.put])
                    refine held_quiet (v := ?vp13) rfl rfl (Or.inl ⟨by rfl, ?hyp13⟩) ?_
                    case hyp13 => (intro u hu; go_simp; (try with_reducible rfl))
                    (try simp only [Act.put])
                    refine held_quiet (v := ?vp14) rfl rfl (Or.inl ⟨by rfl, ?hyp14⟩) ?_
                    case hyp14 => (intro u hu; go_simp; (try with_reducible rfl))
                    (try simp only [Act.put])
                    refine held_quiet (v := ?vp15) rfl rfl (Or.inl ⟨by rfl, ?hyp15⟩) ?_
                    case hyp15 => (intro u hu; go_simp; (try with_reducible rfl))
                    (try simp only [Act.put])
                    refine held_read (v := ?vp16) rfl rfl (Or.inl ⟨by rfl, ?hyp16⟩) ?_
                    case hyp16 => (intro u hu; obtain ⟨f0, f1, f2, f3, f4, f5⟩ := PC.out u (by (repeat (first | with_reducible exact Grow.refl _ | with_reducible refine Grow.alloc ?_ _ | with_reducible refine Grow.drew ?_ | with_reducible refine Grow.drewN ?_ _ | (with_reducible refine Grow.setCell ?_ ?hp _; (case hp => (simp; try omega))) | with_reducible refine Grow.trans ?_ (by assumption)))); obtain ⟨g0, g1, g2, g3, g4, g5⟩ := QC.out u (by (repeat (first | with_reducible exact Grow.refl _ | with_reducible refine Grow.alloc ?_ _ | with_reducible refine Grow.drew ?_ | with_reducible refine Grow.drewN ?_ _ | (with_reducible refine Grow.setCell ?_ ?hp _; (case hp => (simp; try omega))) | with_reducible refine Grow.trans ?_ (by assumption)))); obtain ⟨h0, h1, h2, h3, h4, h5⟩ := FC.out u (by (repeat (first | with_reducible exact Grow.refl _ | with_reducible refine Grow.alloc ?_ _ | with_reducible refine Grow.drew ?_ | with_reducible refine Grow.drewN ?_ _ | (with_reducible refine Grow.setCell ?_ ?hp _; (case hp => (simp; try omega))) | with_reducible refine Grow.trans ?_ (by assumption)))); have hg := GR.out u (by (repeat (first | with_reducible exact Grow.refl _ | with_reducible refine Grow.alloc ?_ _ | with_reducible refine Grow.drew ?_ | with_reducible refine Grow.drewN ?_ _ | (with_reducible refine Grow.setCell ?_ ?hp _; (case hp => (simp; try omega))) | with_reducible refine Grow.trans ?_ (by assumption)))); have hg2 := GK.out u (by (repeat (first | with_reducible exact Grow.refl _ | with_reducible refine Grow.alloc ?_ _ | with_reducible refine Grow.drew ?_ | with_reducible refine Grow.drewN ?_ _ | (with_reducible refine Grow.setCell ?_ ?hp _; (case hp => (simp; try omega))) | with_reducible refine Grow.trans ?_ (by assumption)))); go_simp; (try with_reducible rfl))
                    (try simp only [Act.put])
                    refine held_quiet (v := ?vp17) rfl rfl (Or.inl ⟨by rfl, ?hyp17⟩) ?_
                    case hyp17 => (intro u hu; go_simp; (try with_reducible rfl))
                    (try simp only [Act.put])
                    refine held_quiet (v := ?vp18) rfl rfl (Or.inl ⟨by rfl, ?hyp18⟩) ?_
                    case hyp18 => (intro u hu; go_simp; (try with_reducible rfl))
                    (try simp only [Act.put])
                    refine held_read (v := ?vp19) rfl rfl (Or.inl ⟨by rfl, ?hyp19⟩) ?_
                    case hyp19 => (intro u hu; obtain ⟨f0, f1, f2, f3, f4, f5⟩ := PC.out u (by (repeat (first | with_reducible exact Grow.refl _ | with_reducible refine Grow.alloc ?_ _ | with_reducible refine Grow.drew ?_ | with_reducible refine Grow.drewN ?_ _ | (with_reducible refine Grow.setCell ?_ ?hp _; (case hp => (simp; try omega))) | with_reducible refine Grow.trans ?_ (by assumption)))); obtain ⟨g0, g1, g2, g3, g4, g5⟩ := QC.out u (by (repeat (first | with_reducible exact Grow.refl _ | with_reducible refine Grow.alloc ?_ _ | with_reducible refine Grow.drew ?_ | with_reducible refine Grow.drewN ?_ _ | (with_reducible refine Grow.setCell ?_ ?hp _; (case hp => (simp; try omega))) | with_reducible refine Grow.trans ?_ (by assumption)))); obtain ⟨h0, h1, h2, h3, h4, h5⟩ := FC.out u (by (repeat (first | with_reducible exact Grow.refl _ | with_reducible refine Grow.alloc ?_ _ | with_reducible refine Grow.drew ?_ | with_reducible refine Grow.drewN ?_ _ | (with_reducible refine Grow.setCell ?_ ?hp _; (case hp => (simp; try omega))) | with_reducible refine Grow.trans ?_ (by assumption)))); have hg := GR.out u (by (repeat (first | with_reducible exact Grow.refl _ | with_reducible refine Grow.alloc ?_ _ | with_reducible refine Grow.drew ?_ | with_reducible refine Grow.drewN ?_ _ | (with_reducible refine Grow.setCell ?_ ?hp _; (case hp => (simp; try omega))) | with_reducible refine Grow.trans ?_ (by assumption)))); have hg2 := GK.out u (by (repeat (first | with_reducible exact Grow.refl _ | with_reducible refine Grow.alloc ?_ _ | with_reducible refine Grow.drew ?_ | with_reducible refine Grow.drewN ?_ _ | (with_reducible refine Grow.setCell ?_ ?hp _; (case hp => (simp; try omega))) | with_reducible refine Grow.trans ?_ (by assumption)))); go_simp; (try with_reducible rfl))
                    (try simp only [Act.put])
                    refine held_op rfl rfl (fun K hK => ?_)
                    go_simp
                    (go_at_call 10; (with_reducible refine (ML.out _ (by (repeat (first | with_reducible exact Grow.refl _ | with_reducible refine Grow.alloc ?_ _ | with_reducible refine Grow.drew ?_ | with_reducible refine Grow.drewN ?_ _ | (with_reducible refine Grow.setCell ?_ ?hp _; (case hp => (simp; try omega))) | with_reducible refine Grow.trans ?_ (by assumption))))).mono ?_); (rintro e u10 ⟨v10, rfl, hv10, hb10⟩; obtain ⟨s10, a10, l10, c10, t10, b10, k10, e10, rfl⟩ := hv10.form; have HV10 := Lib.hid hv10; clear hv10))
                    (try go_wp2_with fail)
                    refine hK.out _ _ ?hSp20 ?_
                    case hSp20 => ((try dsimp only); (repeat (first | with_reducible exact Grow.refl _ | with_reducible refine Grow.alloc ?_ _ | with_reducible refine Grow.drew ?_ | with_reducible refine Grow.drewN ?_ _ | (with_reducible refine Grow.setCell ?_ ?hp _; (case hp => (simp; try omega))) | with_reducible refine Grow.trans ?_ (by assumption))))
                    clear hK K
                    (try simp only [Act.put])
                    refine held_op rfl rfl (fun K hK => ?_)
                    go_simp
                    (go_at_call 21; (with_reducible refine (AD.out _ _ (HV10.out.grow (by (repeat (first | with_reducible exact Grow.refl _ | with_reducible refine Grow.alloc ?_ _ | with_reducible refine Grow.drew ?_ | with_reducible refine Grow.drewN ?_ _ | (with_reducible refine Grow.setCell ?_ ?hp _; (case hp => (simp; try omega))) | with_reducible refine Grow.trans ?_ (by assumption))))) (by (repeat (first | with_reducible exact Grow.refl _ | with_reducible refine Grow.alloc ?_ _ | with_reducible refine Grow.drew ?_ | with_reducible refine Grow.drewN ?_ _ | (with_reducible refine Grow.setCell ?_ ?hp _; (case hp => (simp; try omega))) | with_reducible refine Grow.trans ?_ (by assumption))))).mono ?_); (rintro e u11 ⟨v11, rfl, hv11, hb11⟩; obtain ⟨s11, a11, l11, c11, t11, b11, k11, e11, rfl⟩ := hv11.form; have HV11 := Lib.hid hv11; clear hv11 HV10; obtain ⟨p0, p1, p2, p3, p4, p5⟩ := PC.out u11 (by (repeat (first | with_reducible exact Grow.refl _ | with_reducible refine Grow.alloc ?_ _ | with_reducible refine Grow.drew ?_ | with_reducible refine Grow.drewN ?_ _ | (with_reducible refine Grow.setCell ?_ ?hp _; (case hp => (simp; try omega))) | with_reducible refine Grow.trans ?_ (by assumption))))))
                    (try go_wp2_with fail)
                    refine hK.out _ _ ?hSp21 ?_
                    case hSp21 => ((try dsimp only); (repeat (first | with_reducible exact Grow.refl _ | with_reducible refine Grow.alloc ?_ _ | with_reducible refine Grow.drew ?_ | with_reducible refine Grow.drewN ?_ _ | (with_reducible refine Grow.setCell ?_ ?hp _; (case hp => (simp; try omega))) | with_reducible refine Grow.trans ?_ (by assumption))))
                    clear hK K
                    (try simp only [Act.put])
                    refine held_quiet (v := ?vp22) rfl rfl (Or.inl ⟨by rfl, ?hyp22⟩) ?_
                    case hyp22 => (intro u hu; go_simp; (try with_reducible rfl))
                    (try simp only [Act.put])
                    refine held_last rfl rfl (fun K hK => ?_)
                    go_simp
                    refine hK.out _ _ ?_
                    clear hK K
                    (try simp only [Act.put])
                    refine held_done ?_
                    have hput := (HSC.out.go (show Grow wr u11 by (repeat (first | with_reducible exact Grow.refl _ | with_reducible refine Grow.alloc ?_ _ | with_reducible refine Grow.drew ?_ | with_reducible refine Grow.drewN ?_ _ | (with_reducible refine Grow.setCell ?_ ?hp _; (case hp => (simp; try omega))) | with_reducible refine Grow.trans ?_ (by assumption))))).put hr hc HV11.out
                    rw [srA_step] at hput
                    have hff := RowP.but (X := fun b => b = R r) (HFC.out.grow (show Grow wr u11 by (repeat (first | with_reducible exact Grow.refl _ | with_reducible refine Grow.alloc ?_ _ | with_reducible refine Grow.drew ?_ | with_reducible refine Grow.drewN ?_ _ | (with_reducible refine Grow.setCell ?_ ?hp _; (case hp => (simp; try omega))) | with_reducible refine Grow.trans ?_ (by assumption))))) (fun e => by have := HFR.out r hr; omega) hput.1
                    obtain ⟨w12, hw12⟩ : ∃ w12, (((u11.setCell ⟨R r, O r + c * 4, none⟩ (.bool s11)).setCell ⟨R r, O r + c * 4 + 1, none⟩ (.slice a11 l11 c11)).setCell ⟨R r, O r + c * 4 + 2, none⟩ (.bool t11)).setCell ⟨R r, O r + c * 4 + 3, none⟩ (.slice b11 k11 e11) = w12 := ⟨_, rfl⟩
                    rw [hw12]
                    have HS12 : Hid (SigS w G D n R O C w12 (k + 1) (srA f k r (c + 1) L)) := Lib.hid (by rw [← hw12]; exact hput.2)
                    have HF12 : Hid (RowQ w12 F 0 1 (fun _ => f)) := Lib.hid (by rw [← hw12]; exact hff)
                    clear hput hff hw12 HV11 PC QC FC GR GK ML AD
                    have y4 : IntKind.i64.wrap ((c : Int) + 1) = ((c + 1 : Nat) : Int) := (IntWalk.i64_in ((c : Int) + 1) (by omega)).trans (by omega)
                    have y3 : wrap64 ((c : Int) + 1) = ((c + 1 : Nat) : Int) := by clear y4; unfold wrap64; omega
                    go_wp2_with fail
                    clear y3 y4
                    go_roundg (n - (c + 1))
                    case measure => have := HGK3.out; omega
                    case rel => exact ⟨c + 1, rfl, by omega, Lib.hid rfl, HS12, HF12⟩
end Go.Proofs.YtbpkfcohbefphaaGreat
