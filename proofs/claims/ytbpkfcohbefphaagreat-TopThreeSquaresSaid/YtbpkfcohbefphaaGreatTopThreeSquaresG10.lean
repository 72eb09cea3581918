/- Lemmas, plain laws and walks that the statement LwThreeSquares leans on (texts RwH, RwI, RwJ, RwK), conditions as each theorem says. -/
import Derived.Test.YtbpkfcohbefphaaGreatTopThreeSquaresG02
import Derived.Test.YtbpkfcohbefphaaGreatTopThreeSquaresG09

/- Walks over grids: blank, unit. -/
namespace Go.Proofs.YtbpkfcohbefphaaGreat
open Go Go.RowKit
set_option maxRecDepth 20000 in
set_option maxHeartbeats 8000000 in
theorem blankQ (n m : Nat) (hn : n ≤ 1000) (hm : m ≤ 1000) (w : World) : Calls Tryz.prog 148 #[.int .i64 (n : Int), .int .i64 (m : Int)] w fun e w' =>
    ∃ G, e = .returned (.slice (some ⟨G, 0, none⟩) n n) ∧ GridE w' w.heap.size G n m (fun _ _ => 0) ∧ Grow w w' := by
  obtain ⟨iu, hiu, iuz0, iuz1, iuz2⟩ := info_parts infoRow
  have ZR := Lib.hid (fun u => zerosQ m hm u)
  go_enter Tryz.func148, Tryz.ntmps148
  go_wp2_with (at_make; refine wpList_make_full _ rfl _ _ 130 rfl (w.heap.size) 23 iu (.slice none 0 0) 1 Tryz.underlying130 hiu iuz0 iuz1 .i64 .i64 (n : Int) (n : Int) n rfl rfl rfl rfl ?m1 ?m2 (Nat.le_refl _) ?_)
  case m1 => rw [iuz2]; omega
  case m2 => unfold maxLen; omega
  intro w1 hown1 hgrow1
  have HM := Lib.hid (made_grid (g := w.heap.size) hown1)
  have hz1 := HM.out.lt
  have HG1 := Lib.hid (show Grow w w1 from (Grow.refl w).grown hgrow1 (fun k hk => by cases hk))
  clear hown1 hgrow1 hiu iuz0 iuz1 iuz2
  go_wp2_with fail
  go_loopg [11] n (fun gk t9 wr => ∃ (j : Nat) (R O C : Nat → Nat), t9 = .int .i64 (j : Int) ∧ j ≤ n ∧ Hid (gk = n - j) ∧ Hid (Grow w wr) ∧ Hid (SlG wr w.heap.size n) ∧ Hid (GridQ wr w.heap.size j R O C m (fun _ _ => 0)) ∧ Hid (∀ i, i < j → w.heap.size ≤ R i))
  case atStart => exact ⟨0, fun _ => 0, fun _ => 0, fun _ => 0, rfl, Nat.zero_le _, Lib.hid rfl, HG1, HM, Lib.hid (GridQ.empty HM.out _ _ _ _ _), Lib.hid (fun i hi => absurd hi (Nat.not_lt_zero _))⟩
  case round =>
    obtain ⟨j, R, O, C, rfl, hj2, HGK, HGR, HSL, HGQ, HBS⟩ := hrel
    by_cases hjm : j = n
    · have y1 : decide ((j : Int) < (n : Int)) = false := by simp; omega
      subst hjm
      go_wp2_with fail
      go_ret
      exact ⟨_, rfl, ⟨Nat.le_refl _, R, O, C, HGQ.out, HBS.out⟩, HGR.out⟩
    · have y0 : (0 : Int) ≤ (j : Int) := by omega
      have y2 : (j : Int) < (n : Int) := by omega
      obtain ⟨a3, l3, c3, q0⟩ := HSL.out.cell j (by omega)
      have hlA := HSL.out.lt
      have hfA := HSL.out.free
      have d0 : ∀ u : World, Grow wr u → u.cell? ⟨w.heap.size, j, none⟩ = some (.slice a3 l3 c3) ∧ (∀ o, u.frozen? ⟨w.heap.size, o, none⟩ = false) ∧ w.heap.size < u.heap.size := by
        intro u hg
        have hzu := hg.size
        exact ⟨(hg.cells _ _ hlA).trans q0, fun o => (hg.frees _ _ hlA).trans (hfA o), by omega⟩
      have D0 := Lib.hid d0
      clear d0
      have HST : Hid (∀ (u : World) (B : Nat), Grow wr u → wr.heap.size ≤ B → RowQ u B 0 m (fun _ => 0) → GridQ (u.setCell ⟨w.heap.size, j, none⟩ (.slice (some ⟨B, 0, none⟩) m m)) w.heap.size (j + 1) (upd R j B) (upd O j 0) (upd C j m) m (fun _ _ => 0)) :=
        Lib.hid (fun u B hu hB hr => ((HGQ.out.grow hu).snoc (HSL.out.grow hu) (by omega) hr (Nat.le_refl _) (by omega) (fun i hi e => by have := (HGQ.out.row i hi).lt; omega)).cong (fun i k _ _ => by
          by_cases hij : i = j
          · subst hij; rw [upd_same]
          · rw [upd_other _ _ hij]))
      have HS2 : Hid (∀ (u : World) (B : Nat), Grow wr u → SlG (u.setCell ⟨w.heap.size, j, none⟩ (.slice (some ⟨B, 0, none⟩) m m)) w.heap.size n) := Lib.hid (fun u B hu => (HSL.out.grow hu).set (by omega) _ _ _)
      clear hfA
      have y4 : IntKind.i64.wrap ((j : Int) + 1) = ((j + 1 : Nat) : Int) := (IntWalk.i64_in ((j : Int) + 1) (by omega)).trans (by omega)
      have y3 : wrap64 ((j : Int) + 1) = ((j + 1 : Nat) : Int) := by clear y4; unfold wrap64; omega
      go_wp2_with (go_at_call 153; (with_reducible refine (ZR.out _).mono ?_); (rintro e u6 ⟨B, rfl, hB, hrow, hb6⟩; have HROW := Lib.hid hrow; clear hrow; obtain ⟨f0_6, df6, dz6⟩ := D0.out u6 (by (repeat (first | with_reducible exact Grow.refl _ | with_reducible refine Grow.alloc ?_ _ | with_reducible refine Grow.drew ?_ | with_reducible refine Grow.drewN ?_ _ | (with_reducible refine Grow.setCell ?_ ?hp _; (case hp => (simp; try omega))) | with_reducible refine Grow.trans ?_ (by assumption))))))
      clear y3 y4
      have hst := HST.out u6 B (by (repeat (first | with_reducible exact Grow.refl _ | with_reducible refine Grow.alloc ?_ _ | with_reducible refine Grow.drew ?_ | with_reducible refine Grow.drewN ?_ _ | (with_reducible refine Grow.setCell ?_ ?hp _; (case hp => (simp; try omega))) | with_reducible refine Grow.trans ?_ (by assumption)))) (by have := hb6.size; omega) HROW.out
      have hs2 := HS2.out u6 B (by (repeat (first | with_reducible exact Grow.refl _ | with_reducible refine Grow.alloc ?_ _ | with_reducible refine Grow.drew ?_ | with_reducible refine Grow.drewN ?_ _ | (with_reducible refine Grow.setCell ?_ ?hp _; (case hp => (simp; try omega))) | with_reducible refine Grow.trans ?_ (by assumption))))
      go_roundg (n - (j + 1))
      case measure => have := HGK.out; omega
      case rel =>
        refine ⟨j + 1, _, _, _, rfl, by omega, Lib.hid rfl, Lib.hid (by have h9 := HGR.out; (repeat (first | with_reducible exact Grow.refl _ | with_reducible refine Grow.alloc ?_ _ | with_reducible refine Grow.drew ?_ | with_reducible refine Grow.drewN ?_ _ | (with_reducible refine Grow.setCell ?_ ?hp _; (case hp => (simp; try omega))) | with_reducible refine Grow.trans ?_ (by assumption)))), Lib.hid hs2, Lib.hid hst, Lib.hid ?_⟩
        intro i hi
        by_cases hij : i = j
        · subst hij; rw [upd_same]; omega
        · rw [upd_other _ _ hij]; exact HBS.out i (by omega)
set_option maxRecDepth 20000 in
set_option maxHeartbeats 8000000 in
theorem unitQ (n : Nat) (hn : n ≤ 1000) (w : World) : Calls Tryz.prog 134 #[.int .i64 (n : Int)] w fun e w' =>
    ∃ G, e = .returned (.slice (some ⟨G, 0, none⟩) n n) ∧ GridE w' w.heap.size G n n (fun i k => if i = k then 1 else 0) ∧ Grow w w' := by
  have BL := Lib.hid (fun u => blankQ n n hn hn u)
  have OF := Lib.hid (fun u => ofQ 1 (by decide) u)
  go_enter Tryz.func134, Tryz.ntmps134
  go_wp2_with (go_at_call 148; (with_reducible refine (BL.out _).mono ?_); (rintro e w1 ⟨G, rfl, ⟨hbG, R, O, C, hgq, hbs⟩, hg1⟩; have HQ1 := Lib.hid hgq; have HBS := Lib.hid hbs; have HG1 := Lib.hid hg1; clear hgq hbs hg1))
  go_loopg [10] n (fun gk t9 wr => ∃ j : Nat, t9 = .int .i64 (j : Int) ∧ j ≤ n ∧ Hid (gk = n - j) ∧ Hid (Grow w wr) ∧ Hid (GridQ wr G n R O C n (fun i k => if i = k ∧ i < j then 1 else 0)))
  case atStart => exact ⟨0, rfl, Nat.zero_le _, Lib.hid rfl, HG1, Lib.hid (HQ1.out.cong (fun i k _ _ => by rw [if_neg (by omega)]))⟩
  case round =>
    obtain ⟨j, rfl, hj2, HGK, HGR, HGQ⟩ := hrel
    by_cases hjm : j = n
    · have y1 : decide ((j : Int) < (n : Int)) = false := by simp; omega
      subst hjm
      go_wp2_with fail
      go_ret
      refine ⟨_, rfl, ⟨hbG, R, O, C, HGQ.out.cong (fun i k hi _ => ?_), HBS.out⟩, HGR.out⟩
      by_cases hik : i = k
      · rw [if_pos hik, if_pos ⟨hik, hi⟩]
      · rw [if_neg hik, if_neg (fun h => hik h.1)]
    · have y0 : (0 : Int) ≤ (j : Int) := by omega
      have y2 : (j : Int) < (n : Int) := by omega
      have hROW := HGQ.out.row j (by omega)
      obtain ⟨s3, a3, l3, c3, t3, b3, k3, e3, q0, q1, q2, q3⟩ := RowP.q4 hROW (show j < n by omega)
      have qG := HGQ.out.cell j (by omega)
      have hlG := HGQ.out.lt
      have hfar := HGQ.out.far j (by omega)
      have hlA := hROW.lt
      have hfA := hROW.free
      have hbR := HBS.out j (by omega)
      have HRA := Lib.hid hROW
      obtain ⟨Rj, hRj⟩ : ∃ x, R j = x := ⟨_, rfl⟩
      obtain ⟨Oj, hOj⟩ : ∃ x, O j = x := ⟨_, rfl⟩
      obtain ⟨Cj, hCj⟩ : ∃ x, C j = x := ⟨_, rfl⟩
      have d0 : ∀ u : World, Grow wr u → u.cell? ⟨Rj, Oj + j * 4, none⟩ = some (.bool s3) ∧ u.cell? ⟨Rj, Oj + j * 4 + 1, none⟩ = some (.slice a3 l3 c3) ∧ u.cell? ⟨Rj, Oj + j * 4 + 2, none⟩ = some (.bool t3) ∧ u.cell? ⟨Rj, Oj + j * 4 + 3, none⟩ = some (.slice b3 k3 e3) ∧ (∀ o, u.frozen? ⟨Rj, o, none⟩ = false) ∧ Rj < u.heap.size ∧ u.cell? ⟨G, j, none⟩ = some (.slice (some ⟨Rj, Oj, none⟩) n Cj) := by
        rw [hRj, hOj] at q0 q1 q2 q3
        rw [hRj, hOj, hCj] at qG
        rw [hRj] at hlA hfA
        intro u hg
        have hzu := hg.size
        refine ⟨?_, ?_, ?_, ?_, fun o => (hg.frees _ _ hlA).trans (hfA o), by omega, (hg.cells _ _ hlG).trans qG⟩
        · exact (hg.cells _ _ hlA).trans q0
        · exact (hg.cells _ _ hlA).trans q1
        · exact (hg.cells _ _ hlA).trans q2
        · exact (hg.cells _ _ hlA).trans q3
      have D0 := Lib.hid d0
      have HST : Hid (∀ (u : World), Grow wr u → ∀ (s : Bool) (a : Option Addr) (l c : Nat) (t : Bool) (b : Option Addr) (k e : Nat), RatR u (.agg #[.bool s, .slice a l c, .bool t, .slice b k e]) 1 → GridQ (st4 u Rj (Oj + j * 4) (.bool s) (.slice a l c) (.bool t) (.slice b k e)) G n R O C n (fun i k => if i = k ∧ i < j + 1 then 1 else 0)) :=
        Lib.hid (fun u hu s a l c t b k e hx => by
          have h1 := RowQ.set (RowP.grow HRA.out hu) (show j < n by omega) hx
          have h2 := But.st4 (X := fun b => b = R j) (But.refl _ u) (.inr rfl) (RowP.q4 (RowP.grow HRA.out hu) (show j < n by omega)) s a l c t b k e
          rw [← hRj, ← hOj]
          refine ((HGQ.out.grow hu).row_set (by omega) h2 h1).cong (fun i k hi hk => ?_)
          by_cases hij : i = j
          · subst hij
            rw [upd_same]
            by_cases hik : i = k
            · rw [if_pos ⟨hik, by omega⟩, if_pos hik.symm]
            · rw [if_neg (fun h => hik h.1), if_neg (fun h => hik h.symm), if_neg (fun h => hik h.1)]
          · rw [upd_other _ _ hij]
            by_cases hik : i = k ∧ i < j
            · rw [if_pos hik, if_pos ⟨hik.1, by omega⟩]
            · rw [if_neg hik, if_neg (fun h => hik ⟨h.1, by omega⟩)])
      have hbR' : w.heap.size ≤ Rj := by rw [← hRj]; exact hbR
      clear d0 hfA hlA q0 q1 q2 q3 qG hROW hfar hbR hRj hOj hCj hlG
      go_upto_region 5 with fail
      refine region_held (id := 5) (fun u => Grow wr u) [0, 1, 2, 3, 4, 5, 6, 7] (kdL [0, 0, 0, 1, 0, 2, 0, 3]) (by kernel_rfl) (by kernel_rfl) (fun t ht => kdL_lt _ t ht) ?hS0p ?_
      case hS0p => ((try dsimp only); (repeat (first | with_reducible exact Grow.refl _ | with_reducible refine Grow.alloc ?_ _ | with_reducible refine Grow.drew ?_ | with_reducible refine Grow.drewN ?_ _ | (with_reducible refine Grow.setCell ?_ ?hp _; (case hp => (simp; try omega))) | with_reducible refine Grow.trans ?_ (by assumption))))
      refine held_quiet (v := ?vp0) rfl rfl (Or.inl ⟨by rfl, ?hyp0⟩) ?_
      case hyp0 => (intro u hu; go_simp; (try with_reducible rfl))
      (try simp only [Act.put, List.setIfInBounds_toArray])
      refine held_quiet (v := ?vp1) rfl rfl (Or.inl ⟨by rfl, ?hyp1⟩) ?_
      case hyp1 => (intro u hu; go_simp; (try with_reducible rfl))
      (try simp only [Act.put])
      refine held_quiet (v := ?vp2) rfl rfl (Or.inl ⟨by rfl, ?hyp2⟩) ?_
      case hyp2 => (intro u hu; go_simp; (try with_reducible rfl))
      (try simp only [Act.put])
      refine held_read (v := ?vp3) rfl rfl (Or.inl ⟨by rfl, ?hyp3⟩) ?_
      case hyp3 => (intro u hu; obtain ⟨f0, f1, f2, f3, df, dz, dg⟩ := D0.out u hu; go_simp; (try with_reducible rfl))
      (try simp only [Act.put])
      refine held_quiet (v := ?vp4) rfl rfl (Or.inl ⟨by rfl, ?hyp4⟩) ?_
      case hyp4 => (intro u hu; go_simp; (try with_reducible rfl))
      (try simp only [Act.put])
      refine held_op rfl rfl (fun K hK => ?_)
      go_simp
      (go_at_call 18; (with_reducible refine (OF.out _).mono ?_); (rintro e u6 ⟨v6, rfl, hv6, hb6⟩; obtain ⟨s6, a6, l6, c6, t6, b6, k6, e6, rfl⟩ := hv6.form; have HV6 := Lib.hid hv6; clear hv6; obtain ⟨f0_6, f1_6, f2_6, f3_6, df6, dz6, dg6⟩ := D0.out u6 (by (repeat (first | with_reducible exact Grow.refl _ | with_reducible refine Grow.alloc ?_ _ | with_reducible refine Grow.drew ?_ | with_reducible refine Grow.drewN ?_ _ | (with_reducible refine Grow.setCell ?_ ?hp _; (case hp => (simp; try omega))) | with_reducible refine Grow.trans ?_ (by assumption))))))
      (try go_wp2_with fail)
      refine hK.out _ _ ?hSp5 ?_
      case hSp5 => ((try dsimp only); (repeat (first | with_reducible exact Grow.refl _ | with_reducible refine Grow.alloc ?_ _ | with_reducible refine Grow.drew ?_ | with_reducible refine Grow.drewN ?_ _ | (with_reducible refine Grow.setCell ?_ ?hp _; (case hp => (simp; try omega))) | with_reducible refine Grow.trans ?_ (by assumption))))
      clear hK K
      (try simp only [Act.put])
      refine held_quiet (v := ?vp6) rfl rfl (Or.inl ⟨by rfl, ?hyp6⟩) ?_
      case hyp6 => (intro u hu; go_simp; (try with_reducible rfl))
      (try simp only [Act.put])
      refine held_last rfl rfl (fun K hK => ?_)
      go_simp
      refine hK.out _ _ ?_
      clear hK K
      (try simp only [Act.put])
      refine held_done ?_
      have hst := HST.out u6 (by (repeat (first | with_reducible exact Grow.refl _ | with_reducible refine Grow.alloc ?_ _ | with_reducible refine Grow.drew ?_ | with_reducible refine Grow.drewN ?_ _ | (with_reducible refine Grow.setCell ?_ ?hp _; (case hp => (simp; try omega))) | with_reducible refine Grow.trans ?_ (by assumption)))) _ _ _ _ _ _ _ _ (HV6.out.grow (by (repeat (first | with_reducible exact Grow.refl _ | with_reducible refine Grow.alloc ?_ _ | with_reducible refine Grow.drew ?_ | with_reducible refine Grow.drewN ?_ _ | (with_reducible refine Grow.setCell ?_ ?hp _; (case hp => (simp; try omega))) | with_reducible refine Grow.trans ?_ (by assumption)))))
      have y4 : IntKind.i64.wrap ((j : Int) + 1) = ((j + 1 : Nat) : Int) := (IntWalk.i64_in ((j : Int) + 1) (by omega)).trans (by omega)
      have y3 : wrap64 ((j : Int) + 1) = ((j + 1 : Nat) : Int) := by clear y4; unfold wrap64; omega
      go_wp2_with fail
      clear y3 y4
      go_roundg (n - (j + 1))
      case measure => have := HGK.out; omega
      case rel => exact ⟨j + 1, rfl, by omega, Lib.hid rfl, Lib.hid (by have h9 := HGR.out; (repeat (first | with_reducible exact Grow.refl _ | with_reducible refine Grow.alloc ?_ _ | with_reducible refine Grow.drew ?_ | with_reducible refine Grow.drewN ?_ _ | (with_reducible refine Grow.setCell ?_ ?hp _; (case hp => (simp; try omega))) | with_reducible refine Grow.trans ?_ (by assumption)))), Lib.hid hst⟩
end Go.Proofs.YtbpkfcohbefphaaGreat
/- Walks over grids: load. -/
namespace Go.Proofs.YtbpkfcohbefphaaGreat
open Go Go.RowKit
theorem SlG.far {w : World} {G n : Nat} (h : SlG w G n) : G < w.heap.size := h.lt
/-- A store into a cell behind the prefix. -/
theorem GridQ.keep {w : World} {G k n k' m : Nat} {R O C : Nat → Nat} {M : Nat → Nat → Rat} (h : GridQ w G k R O C m M) (hs : SlG w G n) (hk : k ≤ k') (hk' : k' < n) (v : Value) : GridQ (w.setCell ⟨G, k', none⟩ v) G k R O C m M := by
  have hbut : But (fun b => b = G) w (w.setCell ⟨G, k', none⟩ v) := SlG.but_set (X := fun b => b = G) hs hk' (.inr rfl) (But.refl _ w) v
  refine ⟨by simpa [World.setCell] using h.lt, fun o => by simpa using h.free o, fun i hi => ?_, h.cap, fun i hi => RowP.but (h.row i hi) (h.far i hi) hbut, h.far, h.inj⟩
  rw [World.cell?_setCell_other _ _ _ _ (by simp; try omega)]
  exact h.cell i hi
/-- A row more, whose slice stands there already. -/
theorem GridQ.add {w : World} {G k m : Nat} {R O C : Nat → Nat} {M : Nat → Nat → Rat} (h : GridQ w G k R O C m M) {r o c : Nat} {x : Nat → Rat} (hcell : w.cell? ⟨G, k, none⟩ = some (.slice (some ⟨r, o, none⟩) m c)) (hr : RowQ w r o m x) (hc : m ≤ c) (hrG : r ≠ G) (hnew : ∀ i, i < k → R i ≠ r) :
    GridQ w G (k + 1) (upd R k r) (upd O k o) (upd C k c) m (upd M k x) := by
  refine ⟨h.lt, h.free, fun i hi => ?_, fun i hi => ?_, fun i hi => ?_, fun i hi => ?_, fun i j hi hj e => ?_⟩
  · by_cases hik : i = k
    · subst hik; rw [upd_same, upd_same, upd_same]; exact hcell
    · rw [upd_other _ _ hik, upd_other _ _ hik, upd_other _ _ hik]; exact h.cell i (by omega)
  · by_cases hik : i = k
    · subst hik; rw [upd_same]; exact hc
    · rw [upd_other _ _ hik]; exact h.cap i (by omega)
  · by_cases hik : i = k
    · subst hik; rw [upd_same, upd_same, upd_same]; exact hr
    · rw [upd_other _ _ hik, upd_other _ _ hik, upd_other _ _ hik]; exact h.row i (by omega)
  · by_cases hik : i = k
    · subst hik; rw [upd_same]; exact hrG
    · rw [upd_other _ _ hik]; exact h.far i (by omega)
  · by_cases hik : i = k
    · by_cases hjk : j = k
      · omega
      · subst hik
        rw [upd_same, upd_other _ _ hjk] at e
        exact absurd e.symm (hnew j (by omega))
    · by_cases hjk : j = k
      · subst hjk
        rw [upd_same, upd_other _ _ hik] at e
        exact absurd e (hnew i (by omega))
      · rw [upd_other _ _ hik, upd_other _ _ hjk] at e
        exact h.inj i j (by omega) (by omega) e
theorem mul_lt' {i k n m : Nat} (hi : i < n) (hk : k < m) : i * m + k < n * m := by
  have := Nat.mul_le_mul_right m (show i + 1 ≤ n from hi)
  rw [Nat.add_mul] at this
  omega
set_option maxRecDepth 20000 in
set_option maxHeartbeats 8000000 in
theorem loadQ (n m N : Nat) (hN : N = n * m) (hn : n ≤ 1000) (hm : m ≤ 1000) (Ba oa ca : Nat) (r : Nat → Rat) (w : World) (hA : RowQ w Ba oa N r) : Calls Tryz.prog 93 #[.agg #[.int .i64 (n : Int), .int .i64 (m : Int), .slice (some ⟨Ba, oa, none⟩) N ca]] w fun e w' =>
    ∃ G, e = .returned (.slice (some ⟨G, 0, none⟩) n n) ∧ GridE w' w.heap.size G n m (fun i k => r (i * m + k)) ∧ Grow w w' := by
  obtain ⟨iu, hiu, iuz0, iuz1, iuz2⟩ := info_parts infoRat
  obtain ⟨ig, hig, igz0, igz1, igz2⟩ := info_parts infoRow
  have HN := Lib.hid hN
  have HA := Lib.hid hA
  have hzA := hA.lt
  clear hA hN
  obtain ⟨W1, hW1⟩ : ∃ W1 : World, W1 = w.alloc (.cells #[.int .i64 (n : Int), .int .i64 (m : Int), .slice (some ⟨Ba, oa, none⟩) N ca] 95) := ⟨_, rfl⟩
  have g1 : Grow w W1 := by rw [hW1]; (repeat (first | with_reducible exact Grow.refl _ | with_reducible refine Grow.alloc ?_ _ | with_reducible refine Grow.drew ?_ | with_reducible refine Grow.drewN ?_ _ | (with_reducible refine Grow.setCell ?_ ?hp _; (case hp => (simp; try omega))) | with_reducible refine Grow.trans ?_ (by assumption)))
  have hz1 : w.heap.size + 1 ≤ W1.heap.size := by rw [hW1]; simp
  have c0 : ∀ u : World, Grow W1 u → u.cell? ⟨w.heap.size, 0, none⟩ = some (.int .i64 (n : Int)) ∧ u.cell? ⟨w.heap.size, 1, none⟩ = some (.int .i64 (m : Int)) ∧ u.cell? ⟨w.heap.size, 2, none⟩ = some (.slice (some ⟨Ba, oa, none⟩) N ca) := by
    intro u hg
    refine ⟨?_, ?_, ?_⟩ <;> (refine (hg.cells _ _ (by omega)).trans ?_; rw [hW1]; go_simp)
  have C0 := Lib.hid c0
  have HW1 := Lib.hid hW1
  have G1 := Lib.hid g1
  clear c0 hW1 g1
  go_enter Tryz.func93, Tryz.ntmps93
  go_upto_region 1 with fail
  rw [← HW1.out]
  obtain ⟨b0, b1, b2⟩ := C0.out W1 (Grow.refl _)
  go_wp2_with (at_make; refine wpList_make_full _ rfl _ _ 130 rfl (w.heap.size) 23 ig (.slice none 0 0) 1 Tryz.underlying130 hig igz0 igz1 .i64 .i64 (n : Int) (n : Int) n rfl rfl rfl rfl ?m1 ?m2 ?m3 ?_)
  case m1 => rw [igz2]; omega
  case m2 => unfold maxLen; omega
  case m3 => omega
  intro w2 hown2 hgrow2
  have HM := Lib.hid (made_grid (g := W1.heap.size) hown2)
  have hz2 := HM.out.lt
  have HG2 := Lib.hid (show Grow W1 w2 from (Grow.refl W1).grown hgrow2 (fun k hk => by cases hk))
  clear hown2 hgrow2 hig igz0 igz1 igz2 b0 b1 b2
  go_wp2_with fail
  go_loopg [11] n (fun gk t9 wr => ∃ (j : Nat) (R O C : Nat → Nat), t9 = .int .i64 (j : Int) ∧ j ≤ n ∧ Hid (gk = n - j) ∧ Hid (Grow W1 wr) ∧ Hid (SlG wr W1.heap.size n) ∧ Hid (GridQ wr W1.heap.size j R O C m (fun i k => r (i * m + k))) ∧ Hid (∀ i, i < j → w.heap.size ≤ R i))
  case atStart => exact ⟨0, fun _ => 0, fun _ => 0, fun _ => 0, rfl, Nat.zero_le _, Lib.hid rfl, HG2, HM, Lib.hid (GridQ.empty HM.out _ _ _ _ _), Lib.hid (fun i hi => absurd hi (Nat.not_lt_zero _))⟩
  case round =>
    obtain ⟨j, R, O, C, rfl, hj2, HGK, HGR, HSL, HGQ, HBS⟩ := hrel
    obtain ⟨wo, rfl⟩ : ∃ wo, wo = wr := ⟨_, rfl⟩
    by_cases hjm : j = n
    · have y1 : decide ((j : Int) < (n : Int)) = false := by simp; omega
      subst hjm
      go_wp2_with fail
      go_ret
      exact ⟨_, rfl, ⟨by omega, R, O, C, HGQ.out, HBS.out⟩, G1.out.trans HGR.out⟩
    · have y0 : (0 : Int) ≤ (j : Int) := by omega
      have y2 : (j : Int) < (n : Int) := by omega
      have hzr := HSL.out.lt
      obtain ⟨b0, b1, b2⟩ := C0.out wo HGR.out
      go_wp2_with (at_make; refine wpList_make_full _ rfl _ _ 23 rfl (w.heap.size) 36 iu (.agg #[.bool false, .slice none 0 0, .bool false, .slice none 0 0]) 4 Tryz.underlying23 hiu iuz0 iuz1 .i64 .i64 (m : Int) (m : Int) m rfl rfl rfl rfl ?m1 ?m2 ?m3 ?_)
      case m1 => rw [iuz2]; omega
      case m2 => unfold maxLen; omega
      case m3 => omega
      intro w5 hown5 hgrow5
      have HM5 := Lib.hid (made_row (g := wo.heap.size) hown5)
      have hz5 := HM5.out.lt
      have hg5 : Grow wo w5 := (Grow.refl wo).grown hgrow5 (fun k hk => by cases hk)
      have HSL5 := Lib.hid (HSL.out.grow hg5)
      have HGQ5 := Lib.hid (HGQ.out.grow hg5)
      have HG5 := Lib.hid (HGR.out.trans hg5)
      have HNEW : Hid (∀ i, i < j → R i ≠ wo.heap.size) := Lib.hid (fun i hi e => by have := (HGQ.out.row i hi).lt; omega)
      have hzG : W1.heap.size < w5.heap.size := by omega
      clear hown5 hgrow5 hg5 b0 b1 b2
      obtain ⟨b0, b1, b2⟩ := C0.out w5 HG5.out
      obtain ⟨a3, l3, c3, q0⟩ := HSL5.out.cell j (by omega)
      have hfG := HSL5.out.free
      have HB5 : Hid (But (fun b => b = W1.heap.size) w5 (w5.setCell ⟨W1.heap.size, j, none⟩ (.slice (some ⟨wo.heap.size, 0, none⟩) m m))) := Lib.hid (SlG.but_set (X := fun b => b = W1.heap.size) HSL5.out (by omega) (.inr rfl) (But.refl _ _) _)
      have hne : wo.heap.size ≠ W1.heap.size := by omega
      have hne' : W1.heap.size ≠ w.heap.size := by omega
      go_wp2_with fail
      go_loopg [25] m (fun gk2 t25 wr => ∃ k : Nat, t25 = .int .i64 (k : Int) ∧ k ≤ m ∧ Hid (gk2 = m - k) ∧ Hid (Grow W1 wr) ∧ Hid (SlG wr W1.heap.size n) ∧ Hid (GridQ wr W1.heap.size j R O C m (fun i k => r (i * m + k))) ∧ Hid (wr.cell? ⟨W1.heap.size, j, none⟩ = some (.slice (some ⟨wo.heap.size, 0, none⟩) m m)) ∧ Hid (RowP wr wo.heap.size 0 m (fun i => if i < k then some (r (j * m + i)) else none)))
      case atStart =>
        refine ⟨0, rfl, Nat.zero_le _, Lib.hid rfl, Lib.hid ?_, Lib.hid (HSL5.out.set (by omega) _ _ _), Lib.hid (HGQ5.out.keep HSL5.out (Nat.le_refl _) (by omega) _), Lib.hid (World.cell?_setCell_same _ _ _ q0), Lib.hid ((RowP.but HM5.out hne HB5.out).mono (Nat.le_refl _) (fun i x _ hx => by rw [if_neg (Nat.not_lt_zero _)] at hx; cases hx))⟩
        have h9 := HG5.out
        exact Grow.setCell h9 (Nat.le_refl _) _
      case round =>
        obtain ⟨k, rfl, hk2, HGK2, HGR2, HSL2, HGQ2, HCJ, HRA⟩ := hrel
        clear HSL5 HGQ5 HG5 HB5 HM5 b0 b1 b2 q0 hfG
        by_cases hkm : k = m
        · have y1 : decide ((k : Int) < (m : Int)) = false := by simp; omega
          subst hkm
          have y4 : IntKind.i64.wrap ((j : Int) + 1) = ((j + 1 : Nat) : Int) := (IntWalk.i64_in ((j : Int) + 1) (by omega)).trans (by omega)
          have y3 : wrap64 ((j : Int) + 1) = ((j + 1 : Nat) : Int) := by clear y4; unfold wrap64; omega
          go_wp2_with fail
          clear y3 y4
          go_roundg (n - (j + 1))
          case measure => have := HGK.out; omega
          case rel =>
            refine ⟨j + 1, _, _, _, rfl, by omega, Lib.hid rfl, HGR2, HSL2, Lib.hid ((HGQ2.out.add HCJ.out (HRA.out.full (x := fun i => r (j * k + i)) (fun i hi => by rw [if_pos hi])) (Nat.le_refl _) hne HNEW.out).cong ?_), Lib.hid ?_⟩
            · intro i x hi hx
              by_cases hij : i = j
              · subst hij; rw [upd_same]
              · rw [upd_other _ _ hij]
            · intro i hi
              by_cases hij : i = j
              · subst hij; rw [upd_same]; omega
              · rw [upd_other _ _ hij]; exact HBS.out i (by omega)
        · have x0 : (0 : Int) ≤ (k : Int) := by omega
          have x2 : (k : Int) < (m : Int) := by omega
          obtain ⟨b0, b1, b2⟩ := C0.out wr HGR2.out
          obtain ⟨s3, a3, l3, c3, t3, b3, k3, e3, q0, q1, q2, q3⟩ := RowP.q4 HRA.out (show k < m by omega)
          rw [Nat.zero_add] at q0 q1 q2 q3
          obtain ⟨p, hp⟩ : ∃ p, j * m = p := ⟨_, rfl⟩
          obtain ⟨q, hq⟩ : ∃ q, p + k = q := ⟨_, rfl⟩
          have hqN : q < N := by rw [HN.out, ← hq, ← hp]; exact mul_lt' (by omega) (by omega)
          have hpb : p ≤ 1000000 := by rw [← hp]; exact Nat.le_trans (Nat.mul_le_mul (show j ≤ 1000 by omega) hm) (by omega)
          have HA2 := Lib.hid (RowP.grow HA.out (G1.out.trans HGR2.out))
          obtain ⟨s2, a2, l2, c2, t2, b2', k2, e2, ⟨p0, p1, p2, p3⟩, hvb⟩ := RowQ.at4 HA2.out hqN
          have z0 : (0 : Int) ≤ (q : Int) := by omega
          have z2 : (q : Int) < (N : Int) := by omega
          have hjm' : ((j : Int) * (m : Int)) = (p : Int) := by rw [← hp]; simp
          have w4 : IntKind.i64.wrap ((j : Int) * (m : Int)) = (p : Int) := by rw [hjm']; exact IntWalk.i64_in _ (by omega)
          have w5' : IntKind.i64.wrap ((p : Int) + (k : Int)) = (q : Int) := (IntWalk.i64_in _ (by clear w4; omega)).trans (by clear w4; omega)
          have hlB : wo.heap.size < wr.heap.size := HRA.out.lt
          have hfB := HRA.out.free
          have hcj := HCJ.out
          have hlG := HSL2.out.lt
          have hlA := HA2.out.lt
          have hlW := HGR2.out.size
          have d0 : ∀ u : World, Grow wr u → u.cell? ⟨wo.heap.size, k * 4, none⟩ = some (.bool s3) ∧ u.cell? ⟨wo.heap.size, k * 4 + 1, none⟩ = some (.slice a3 l3 c3) ∧ u.cell? ⟨wo.heap.size, k * 4 + 2, none⟩ = some (.bool t3) ∧ u.cell? ⟨wo.heap.size, k * 4 + 3, none⟩ = some (.slice b3 k3 e3) ∧ u.cell? ⟨Ba, oa + q * 4, none⟩ = some (.bool s2) ∧ u.cell? ⟨Ba, oa + q * 4 + 1, none⟩ = some (.slice a2 l2 c2) ∧ u.cell? ⟨Ba, oa + q * 4 + 2, none⟩ = some (.bool t2) ∧ u.cell? ⟨Ba, oa + q * 4 + 3, none⟩ = some (.slice b2' k2 e2) ∧ u.cell? ⟨W1.heap.size, j, none⟩ = some (.slice (some ⟨wo.heap.size, 0, none⟩) m m) ∧ u.cell? ⟨w.heap.size, 1, none⟩ = some (.int .i64 (m : Int)) ∧ u.cell? ⟨w.heap.size, 2, none⟩ = some (.slice (some ⟨Ba, oa, none⟩) N ca) ∧ (∀ o, u.frozen? ⟨wo.heap.size, o, none⟩ = false) ∧ wo.heap.size < u.heap.size := by
            clear w4 w5'
            intro u hg
            have hzu := hg.size
            refine ⟨?_, ?_, ?_, ?_, ?_, ?_, ?_, ?_, ?_, ?_, ?_, fun o => (hg.frees _ _ hlB).trans (hfB o), by omega⟩
            · exact (hg.cells _ _ hlB).trans q0
            · exact (hg.cells _ _ hlB).trans q1
            · exact (hg.cells _ _ hlB).trans q2
            · exact (hg.cells _ _ hlB).trans q3
            · exact (hg.cells _ _ hlA).trans p0
            · exact (hg.cells _ _ hlA).trans p1
            · exact (hg.cells _ _ hlA).trans p2
            · exact (hg.cells _ _ hlA).trans p3
            · exact (hg.cells _ _ hlG).trans hcj
            · exact (hg.cells _ _ (by omega)).trans b1
            · exact (hg.cells _ _ (by omega)).trans b2
          have D0 := Lib.hid d0
          have NQ := Lib.hid (fun u hu => normalQ (r q) _ u (hvb.grow hu))
          have HST : Hid (∀ (u : World), Grow wr u → ∀ (s : Bool) (a : Option Addr) (l c : Nat) (t : Bool) (b : Option Addr) (k' e : Nat), RatR u (.agg #[.bool s, .slice a l c, .bool t, .slice b k' e]) (r q) → Grow W1 (st4 u wo.heap.size (k * 4) (.bool s) (.slice a l c) (.bool t) (.slice b k' e)) ∧ SlG (st4 u wo.heap.size (k * 4) (.bool s) (.slice a l c) (.bool t) (.slice b k' e)) W1.heap.size n ∧ GridQ (st4 u wo.heap.size (k * 4) (.bool s) (.slice a l c) (.bool t) (.slice b k' e)) W1.heap.size j R O C m (fun i k => r (i * m + k)) ∧ (st4 u wo.heap.size (k * 4) (.bool s) (.slice a l c) (.bool t) (.slice b k' e)).cell? ⟨W1.heap.size, j, none⟩ = some (.slice (some ⟨wo.heap.size, 0, none⟩) m m) ∧ RowP (st4 u wo.heap.size (k * 4) (.bool s) (.slice a l c) (.bool t) (.slice b k' e)) wo.heap.size 0 m (fun i => if i < k + 1 then some (r (j * m + i)) else none)) :=
            Lib.hid (fun u hu s a l c t b k' e hx => by
              clear w4 w5'
              have hbt : But (fun b => b = wo.heap.size) u (st4 u wo.heap.size (0 + k * 4) (.bool s) (.slice a l c) (.bool t) (.slice b k' e)) := But.st4 (X := fun b => b = wo.heap.size) (But.refl _ u) (.inr rfl) (RowP.q4 (RowP.grow HRA.out hu) (show k < m by omega)) _ _ _ _ _ _ _ _
              have hrp := RowP.set (RowP.grow HRA.out hu) (show k < m by omega) hx
              rw [Nat.zero_add] at hbt hrp
              have hW : Grow W1 u := HGR2.out.trans hu
              have hzu := hu.size
              refine ⟨But.asGrow (X := fun b => b = wo.heap.size) ((hW.but _).trans hbt) (fun b hb => by omega), (HSL2.out.grow hu).but (fun e => hne e.symm) hbt, (HGQ2.out.grow hu).but (fun e => hne e.symm) (fun i hi e => HNEW.out i hi e) hbt, ?_, hrp.mono (Nat.le_refl _) ?_⟩
              · rw [hbt.cells _ _ (by omega) (fun e => hne e.symm)]
                exact (hu.cells _ _ hlG).trans hcj
              · intro i x hi hx'
                by_cases hij : i = k
                · subst hij; rw [if_pos rfl]; rw [if_pos (by omega)] at hx'; rw [hp, hq] at hx'; exact hx'
                · rw [if_neg hij]
                  by_cases h3 : i < k
                  · rw [if_pos h3]; rw [if_pos (by omega)] at hx'; exact hx'
                  · rw [if_neg (by omega)] at hx'; cases hx')
          have w4b : wrap64 ((j : Int) * (m : Int)) = (p : Int) := by clear w4 w5'; rw [hjm']; unfold wrap64; omega
          have w5b : wrap64 ((p : Int) + (k : Int)) = (q : Int) := by clear w4 w5' w4b; unfold wrap64; omega
          clear d0 hfB q0 q1 q2 q3 p0 p1 p2 p3 hcj hvb hp hq hqN hpb hjm' b0 b1 b2
          go_upto_region 9 with fail
          refine region_held (id := 9) (fun u => Grow wr u) [0, 1, 2, 3, 4, 5, 6, 7, 8, 9, 10, 11, 12, 13, 14, 15, 16, 17] (kdL [0, 0, 0, 1, 0, 0, 1, 0, 0, 1, 0, 0, 0, 0, 1, 2, 0, 3]) (by kernel_rfl) (by kernel_rfl) (fun t ht => kdL_lt _ t ht) ?hS0p ?_
          case hS0p => ((try dsimp only); (repeat (first | with_reducible exact Grow.refl _ | with_reducible refine Grow.alloc ?_ _ | with_reducible refine Grow.drew ?_ | with_reducible refine Grow.drewN ?_ _ | (with_reducible refine Grow.setCell ?_ ?hp _; (case hp => (simp; try omega))) | with_reducible refine Grow.trans ?_ (by assumption))))
          refine held_quiet (v := ?vp0) rfl rfl (Or.inl ⟨by rfl, ?hyp0⟩) ?_
          case hyp0 => (intro u hu; go_simp; (try with_reducible rfl))
          (try simp only [Act.put, List.setIfInBounds_toArray])
          refine held_quiet (v := ?vp1) rfl rfl (Or.inl ⟨by rfl, ?hyp1⟩) ?_
          case hyp1 => (intro u hu; go_simp; (try with_reducible rfl))
          (try simp only [Act.put])
          refine held_quiet (v := ?vp2) rfl rfl (Or.inl ⟨by rfl, ?hyp2⟩) ?_
          case hyp2 => (intro u hu; go_simp; (try with_reducible rfl))
          (try simp only [Act.put])
          refine held_read (v := ?vp3) rfl rfl (Or.inl ⟨by rfl, ?hyp3⟩) ?_
          case hyp3 => (intro u hu; obtain ⟨f0, f1, f2, f3, f4, f5, f6, f7, f8, f9, f10, df, dz⟩ := D0.out u hu; go_simp; (try with_reducible rfl))
          (try simp only [Act.put])
          refine held_quiet (v := ?vp4) rfl rfl (Or.inl ⟨by rfl, ?hyp4⟩) ?_
          case hyp4 => (intro u hu; go_simp; (try with_reducible rfl))
          (try simp only [Act.put])
          refine held_quiet (v := ?vp5) rfl rfl (Or.inl ⟨by rfl, ?hyp5⟩) ?_
          case hyp5 => (intro u hu; go_simp; (try with_reducible rfl))
          (try simp only [Act.put])
          refine held_read (v := ?vp6) rfl rfl (Or.inl ⟨by rfl, ?hyp6⟩) ?_
          case hyp6 => (intro u hu; obtain ⟨f0, f1, f2, f3, f4, f5, f6, f7, f8, f9, f10, df, dz⟩ := D0.out u hu; go_simp; (try with_reducible rfl))
          (try simp only [Act.put])
          refine held_quiet (v := ?vp7) rfl rfl (Or.inl ⟨by rfl, ?hyp7⟩) ?_
          case hyp7 => (intro u hu; go_simp; (try with_reducible rfl))
          (try simp only [Act.put])
          refine held_quiet (v := ?vp8) rfl rfl (Or.inl ⟨by rfl, ?hyp8⟩) ?_
          case hyp8 => (intro u hu; go_simp; (try with_reducible rfl))
          (try simp only [Act.put])
          refine held_read (v := ?vp9) rfl rfl (Or.inl ⟨by rfl, ?hyp9⟩) ?_
          case hyp9 => (intro u hu; obtain ⟨f0, f1, f2, f3, f4, f5, f6, f7, f8, f9, f10, df, dz⟩ := D0.out u hu; go_simp; (try with_reducible rfl))
          (try simp only [Act.put])
          refine held_quiet (v := ?vp10) rfl rfl (Or.inl ⟨by rfl, ?hyp10⟩) ?_
          case hyp10 => (intro u hu; go_simp; (try with_reducible rfl))
          (try simp only [Act.put])
          refine held_quiet (v := ?vp11) rfl rfl (Or.inl ⟨by rfl, ?hyp11⟩) ?_
          case hyp11 => (intro u hu; go_simp; (try with_reducible rfl))
          (try simp only [Act.put])
          refine held_quiet (v := ?vp12) rfl rfl (Or.inl ⟨by rfl, ?hyp12⟩) ?_
          case hyp12 => (intro u hu; go_simp; (try with_reducible rfl))
          (try simp only [Act.put])
          refine held_quiet (v := ?vp13) rfl rfl (Or.inl ⟨by rfl, ?hyp13⟩) ?_
          case hyp13 => (intro u hu; go_simp; (try with_reducible rfl))
          (try simp only [Act.put])
          refine held_read (v := ?vp14) rfl rfl (Or.inl ⟨by rfl, ?hyp14⟩) ?_
          case hyp14 => (intro u hu; obtain ⟨f0, f1, f2, f3, f4, f5, f6, f7, f8, f9, f10, df, dz⟩ := D0.out u hu; go_simp; (try with_reducible rfl))
          (try simp only [Act.put])
          refine held_op rfl rfl (fun K hK => ?_)
          go_simp
          (go_at_call 31; (with_reducible refine (NQ.out _ (by (repeat (first | with_reducible exact Grow.refl _ | with_reducible refine Grow.alloc ?_ _ | with_reducible refine Grow.drew ?_ | with_reducible refine Grow.drewN ?_ _ | (with_reducible refine Grow.setCell ?_ ?hp _; (case hp => (simp; try omega))) | with_reducible refine Grow.trans ?_ (by assumption))))).mono ?_); (rintro e u6 ⟨v6, rfl, hv6, hb6⟩; obtain ⟨s6, a6, l6, c6, t6, b6, k6, e6, rfl⟩ := hv6.form; have HV6 := Lib.hid hv6; clear hv6; obtain ⟨f0_6, f1_6, f2_6, f3_6, f4_6, f5_6, f6_6, f7_6, f8_6, f9_6, f10_6, df6, dz6⟩ := D0.out u6 (by (repeat (first | with_reducible exact Grow.refl _ | with_reducible refine Grow.alloc ?_ _ | with_reducible refine Grow.drew ?_ | with_reducible refine Grow.drewN ?_ _ | (with_reducible refine Grow.setCell ?_ ?hp _; (case hp => (simp; try omega))) | with_reducible refine Grow.trans ?_ (by assumption))))))
          (try go_wp2_with fail)
          refine hK.out _ _ ?hSp15 ?_
          case hSp15 => ((try dsimp only); (repeat (first | with_reducible exact Grow.refl _ | with_reducible refine Grow.alloc ?_ _ | with_reducible refine Grow.drew ?_ | with_reducible refine Grow.drewN ?_ _ | (with_reducible refine Grow.setCell ?_ ?hp _; (case hp => (simp; try omega))) | with_reducible refine Grow.trans ?_ (by assumption))))
          clear hK K
          (try simp only [Act.put])
          refine held_quiet (v := ?vp16) rfl rfl (Or.inl ⟨by rfl, ?hyp16⟩) ?_
          case hyp16 => (intro u hu; go_simp; (try with_reducible rfl))
          (try simp only [Act.put])
          refine held_last rfl rfl (fun K hK => ?_)
          go_simp
          refine hK.out _ _ ?_
          clear hK K
          (try simp only [Act.put])
          refine held_done ?_
          clear w4 w5' w4b w5b
          have hst := HST.out u6 (by (repeat (first | with_reducible exact Grow.refl _ | with_reducible refine Grow.alloc ?_ _ | with_reducible refine Grow.drew ?_ | with_reducible refine Grow.drewN ?_ _ | (with_reducible refine Grow.setCell ?_ ?hp _; (case hp => (simp; try omega))) | with_reducible refine Grow.trans ?_ (by assumption)))) _ _ _ _ _ _ _ _ (HV6.out.grow (by (repeat (first | with_reducible exact Grow.refl _ | with_reducible refine Grow.alloc ?_ _ | with_reducible refine Grow.drew ?_ | with_reducible refine Grow.drewN ?_ _ | (with_reducible refine Grow.setCell ?_ ?hp _; (case hp => (simp; try omega))) | with_reducible refine Grow.trans ?_ (by assumption)))))
          have y4 : IntKind.i64.wrap ((k : Int) + 1) = ((k + 1 : Nat) : Int) := (IntWalk.i64_in ((k : Int) + 1) (by omega)).trans (by omega)
          have y3 : wrap64 ((k : Int) + 1) = ((k + 1 : Nat) : Int) := by clear y4; unfold wrap64; omega
          go_wp2_with fail
          clear y3 y4
          go_roundg (m - (k + 1))
          case measure => have := HGK2.out; omega
          case rel => exact ⟨k + 1, rfl, by omega, Lib.hid rfl, Lib.hid hst.1, Lib.hid hst.2.1, Lib.hid hst.2.2.1, Lib.hid hst.2.2.2.1, Lib.hid hst.2.2.2.2⟩
end Go.Proofs.YtbpkfcohbefphaaGreat
/- Fractions as lists of cells: reading a row as a list, appends, own rows as rows of fractions. -/
namespace Go.Proofs.YtbpkfcohbefphaaGreat
open Go Go.RowKit

/-- The cells xs are n fractions. -/
structure ListR (w : World) (xs : List Value) (n : Nat) (r : Nat → Rat) : Prop where
  len : xs.length = n * 4
  one : ∀ u ∈ xs, u.oneCell' = true
  at4 : ∀ j, j < n → ∃ s a l c t b k e, Q4 (fun i => xs[i]?) (j * 4) s a l c t b k e ∧ RatR w (.agg #[.bool s, .slice a l c, .bool t, .slice b k e]) (r j)
theorem ListR.but {X : Nat → Prop} {w w' : World} {xs : List Value} {n : Nat} {r : Nat → Rat} (h : ListR w xs n r) (hg : But X w w') : ListR w' xs n r :=
  ⟨h.len, h.one, fun j hj => by
    obtain ⟨s, a, l, c, t, b, k, e, h1, h2⟩ := h.at4 j hj
    exact ⟨s, a, l, c, t, b, k, e, h1, h2.but hg⟩⟩
theorem ListR.grow {w w' : World} {xs : List Value} {n : Nat} {r : Nat → Rat} (h : ListR w xs n r) (hg : Grow w w') : ListR w' xs n r := h.but (X := fun _ => False) (hg.but _)
theorem ListR.cong {w : World} {xs : List Value} {n : Nat} {r r' : Nat → Rat} (h : ListR w xs n r) (hr : ∀ j, j < n → r' j = r j) : ListR w xs n r' :=
  ⟨h.len, h.one, fun j hj => by rw [hr j hj]; exact h.at4 j hj⟩
theorem ListR.nil (w : World) (r : Nat → Rat) : ListR w [] 0 r := ⟨rfl, (fun _ h => by cases h), fun _ h => absurd h (Nat.not_lt_zero _)⟩
theorem ListR.append {w : World} {xs ys : List Value} {n m : Nat} {r r' : Nat → Rat} (h : ListR w xs n r) (h' : ListR w ys m r') : ListR w (xs ++ ys) (n + m) (fun j => if j < n then r j else r' (j - n)) := by
  refine ⟨by rw [List.length_append, h.len, h'.len]; omega, fun u hu => ?_, fun j hj => ?_⟩
  · rcases List.mem_append.1 hu with hu | hu
    · exact h.one u hu
    · exact h'.one u hu
  · by_cases hjn : j < n
    · obtain ⟨s, a, l, c, t, b, k, e, ⟨h1, h2, h3, h4⟩, h5⟩ := h.at4 j hjn
      have hl := h.len
      refine ⟨s, a, l, c, t, b, k, e, ⟨?_, ?_, ?_, ?_⟩, by rw [if_pos hjn]; exact h5⟩
      · exact (List.getElem?_append_left (by omega)).trans h1
      · exact (List.getElem?_append_left (by omega)).trans h2
      · exact (List.getElem?_append_left (by omega)).trans h3
      · exact (List.getElem?_append_left (by omega)).trans h4
    · obtain ⟨s, a, l, c, t, b, k, e, ⟨h1, h2, h3, h4⟩, h5⟩ := h'.at4 (j - n) (by omega)
      have hl := h.len
      have e0 : ∀ o, j * 4 + o - xs.length = (j - n) * 4 + o := fun o => by omega
      refine ⟨s, a, l, c, t, b, k, e, ⟨?_, ?_, ?_, ?_⟩, by rw [if_neg hjn]; exact h5⟩
      · exact (List.getElem?_append_right (by omega)).trans (by rw [show j * 4 - xs.length = (j - n) * 4 from e0 0]; exact h1)
      · exact (List.getElem?_append_right (by omega)).trans (by rw [e0 1]; exact h2)
      · exact (List.getElem?_append_right (by omega)).trans (by rw [e0 2]; exact h3)
      · exact (List.getElem?_append_right (by omega)).trans (by rw [e0 3]; exact h4)
/-- A row as a list. -/
theorem RowQ.toList {w : World} {B off m c : Nat} {r : Nat → Rat} (h : RowQ w B off m r) (hc : m ≤ c) : ∃ xs, ListR w xs m r ∧ RdRow w 4 (.slice (some ⟨B, off, none⟩) m c) m xs := by
  have hx : ∀ i, i < m * 4 → ∃ v, w.cell? ⟨B, off + i, none⟩ = some v ∧ v.oneCell' = true := fun i hi => by
    obtain ⟨s, a, l, c, t, b, k, e, ⟨h1, h2, h3, h4⟩, -⟩ := RowQ.at4 h (show i / 4 < m by omega)
    have hi4 : i % 4 < 4 := Nat.mod_lt _ (by omega)
    have hd : off + i = off + i / 4 * 4 + i % 4 := by omega
    rcases (by omega : i % 4 = 0 ∨ i % 4 = 1 ∨ i % 4 = 2 ∨ i % 4 = 3) with h0 | h0 | h0 | h0 <;> rw [hd, h0]
    · exact ⟨_, h1, rfl⟩
    · exact ⟨_, h2, rfl⟩
    · exact ⟨_, h3, rfl⟩
    · exact ⟨_, h4, rfl⟩
  have hget : ∀ i, i < m * 4 → ((List.range (m * 4)).map (fun i => (w.cell? ⟨B, off + i, none⟩).getD undef))[i]? = w.cell? ⟨B, off + i, none⟩ := fun i hi => by
    obtain ⟨v, hv, -⟩ := hx i hi
    simp [hi, hv]
  have hone : ∀ u ∈ (List.range (m * 4)).map (fun i => (w.cell? ⟨B, off + i, none⟩).getD undef), u.oneCell' = true := fun u hu => by
    obtain ⟨i, hi, rfl⟩ := List.mem_map.1 hu
    obtain ⟨v, hv, h1⟩ := hx i (List.mem_range.1 hi)
    rw [hv]; exact h1
  refine ⟨(List.range (m * 4)).map (fun i => (w.cell? ⟨B, off + i, none⟩).getD undef), ⟨by simp, hone, fun j hj => ?_⟩, by simp, hone, .inr ⟨B, off, c, rfl, h.lt, hc, fun i u hu => ?_⟩⟩
  · obtain ⟨s, a, l, c, t, b, k, e, ⟨h1, h2, h3, h4⟩, h5⟩ := RowQ.at4 h hj
    refine ⟨s, a, l, c, t, b, k, e, ⟨(hget _ (by omega)).trans h1, (hget _ (by omega)).trans ?_, (hget _ (by omega)).trans ?_, (hget _ (by omega)).trans ?_⟩, h5⟩
    · exact h2
    · exact h3
    · exact h4
  · by_cases hi : i < m * 4
    · rw [hget i hi] at hu; exact hu
    · rw [List.getElem?_eq_none (by simp; omega)] at hu; cases hu
/-- An own row of fractions. -/
theorem own_rowq {w : World} {base g n cap : Nat} {t : TypeId} {xs : List Value} {r : Nat → Rat} (h : w.ownsRow base t 4 (.slice (some ⟨g, 0, none⟩) n cap) n xs) (hl : ListR w xs n r) : RowQ w g 0 n r := by
  obtain ⟨h1, h2, h3, h4, h5⟩ := own_cells h
  refine ⟨h1, h4, fun j hj => ?_⟩
  obtain ⟨s, a, l, c, t, b, k, e, ⟨q1, q2, q3, q4⟩, q5⟩ := hl.at4 j hj
  refine ⟨s, a, l, c, t, b, k, e, ⟨?_, ?_, ?_, ?_⟩, fun x hx => by injection hx with hx; rw [← hx]; exact q5⟩
  · exact h5 _ _ (by rw [Nat.zero_add]; exact q1)
  · exact h5 _ _ (by rw [Nat.zero_add]; exact q2)
  · exact h5 _ _ (by rw [Nat.zero_add]; exact q3)
  · exact h5 _ _ (by rw [Nat.zero_add]; exact q4)
theorem own_form {w : World} {base : Nat} {e : TypeId} {size : Nat} {v : Value} {n : Nat} {xs : List Value} (h : w.ownsRow base e size v n xs) : ∃ a c, v = .slice a n c := by
  rcases h.2 with ⟨rfl, rfl⟩ | ⟨g, cap, cur, rfl, _⟩
  · exact ⟨_, _, rfl⟩
  · exact ⟨_, _, rfl⟩
section
variable {P : Program}
/-- The append in a drawn region. -/
theorem step_append_rd {ops : Array Oper} {o : Oper} {a : Act} {w : World} {K : Act → World → Prop} {Q : Exit → Act → World → Prop} {E : Prop} (hgd : o.guard = none) (s x : Operand) (t : TypeId)
    (ho : o.op = .call { callee := .builtin .append, args := #[s, x], argTypes := #[t, t] }) (e : TypeId) (i : TypeInfo) (z : Value) (size bytes : Nat) (ht : P.underlying t = some (.slice e)) (hi : P.info? e = some i) (hz : i.zero = some z) (hsize : i.size = size) (hby : i.bytes = bytes) (hzs : z.cells.size = size) (hs0 : 0 < size)
    (base : Nat) (v : Value) (n : Nat) (xs : List Value) (hs : a.eval s = v) (hown : w.ownsRow base e size v n xs) (vx : Value) (m : Nat) (news : List Value) (hx : a.eval x = vx) (hrd : RdRow w size vx m news) (hl : n + m ≤ 1000000) (hbb : bytes ≤ 1000) (hb : base ≤ w.heap.size)
    (h : ∀ v' w', w'.ownsRow base e size v' (n + m) (xs ++ news) → w.grownBy w' v.ownBlock → K (a.put o.dst v') w') :
    if Region.wanted o (yielded ops a.tmps) = true then Oper.wp P o a w K Q else E := by
  have hw : Region.wanted o (yielded ops a.tmps) = true := by simp [Region.wanted, hgd]
  rw [if_pos hw]
  obtain ⟨v', w', hrun, r1, r2⟩ := run_append_rd (P := P) (ty := o.type) ht hi hz hsize hby hzs hs0 w base v n xs hown vx m news hrd hl hbb hb
  unfold Oper.wp
  simp [execOp, ho, resolve, invoke, builtin, hs, hx, hrun, Result.andThen]
  exact h v' w' r1 r2
end
theorem empty_row (w : World) (e : TypeId) (size : Nat) : (w.alloc (.cells #[] e)).ownsRow w.heap.size e size (.slice (some ⟨w.heap.size, 0, none⟩) 0 0) 0 [] :=
  World.ownsRow_lit (base := w.heap.size) (e := e) (size := size) w #[] 0 (Nat.le_refl _) (by decide) (by simp)
end Go.Proofs.YtbpkfcohbefphaaGreat
/- Walks over grids: beside, store. -/
namespace Go.Proofs.YtbpkfcohbefphaaGreat
open Go Go.RowKit
set_option maxRecDepth 20000 in
set_option maxHeartbeats 8000000 in
theorem besideQ (n ma mb Ga Gb ca cb : Nat) (Ra Oa Ca Rb Ob Cb : Nat → Nat) (A B : Nat → Nat → Rat) (hn : n ≤ 1000) (hma : 0 < ma) (hma' : ma ≤ 1000) (hmb : mb ≤ 1000) (w : World) (hA : GridQ w Ga n Ra Oa Ca ma A) (hB : GridQ w Gb n Rb Ob Cb mb B) :
    Calls Tryz.prog 133 #[.slice (some ⟨Ga, 0, none⟩) n ca, .slice (some ⟨Gb, 0, none⟩) n cb] w fun e w' =>
    ∃ G, e = .returned (.slice (some ⟨G, 0, none⟩) n n) ∧ GridE w' w.heap.size G n (ma + mb) (fun i k => if k < ma then A i k else B i (k - ma)) ∧ Grow w w' := by
  obtain ⟨iu, hiu, iuz0, iuz1, iuz2⟩ := info_parts infoRow
  obtain ⟨ir, hir, irz0, irz1, irz2⟩ := info_parts infoRat
  have HA := Lib.hid hA
  have HB := Lib.hid hB
  clear hA hB
  go_enter Tryz.func133, Tryz.ntmps133
  go_wp2_with (at_make; refine wpList_make_full _ rfl _ _ 130 rfl (w.heap.size) 23 iu (.slice none 0 0) 1 Tryz.underlying130 hiu iuz0 iuz1 .i64 .i64 (n : Int) (n : Int) n rfl rfl rfl rfl ?m1 ?m2 (Nat.le_refl _) ?_)
  case m1 => rw [iuz2]; omega
  case m2 => unfold maxLen; omega
  intro w1 hown1 hgrow1
  have HM := Lib.hid (made_grid (g := w.heap.size) hown1)
  have hz1 := HM.out.lt
  have HG1 := Lib.hid (show Grow w w1 from (Grow.refl w).grown hgrow1 (fun k hk => by cases hk))
  clear hown1 hgrow1 hiu iuz0 iuz1 iuz2
  go_wp2_with fail
  go_loopg [12] n (fun gk t9 wr => ∃ (j : Nat) (R O C : Nat → Nat), t9 = .int .i64 (j : Int) ∧ j ≤ n ∧ Hid (gk = n - j) ∧ Hid (Grow w wr) ∧ Hid (SlG wr w.heap.size n) ∧ Hid (GridQ wr w.heap.size j R O C (ma + mb) (fun i k => if k < ma then A i k else B i (k - ma))) ∧ Hid (∀ i, i < j → w.heap.size ≤ R i))
  case atStart => exact ⟨0, fun _ => 0, fun _ => 0, fun _ => 0, rfl, Nat.zero_le _, Lib.hid rfl, HG1, HM, Lib.hid (GridQ.empty HM.out _ _ _ _ _), Lib.hid (fun i hi => absurd hi (Nat.not_lt_zero _))⟩
  case round =>
    obtain ⟨j, R, O, C, rfl, hj2, HGK, HGR, HSL, HGQ, HBS⟩ := hrel
    by_cases hjm : j = n
    · have y1 : decide ((j : Int) < (n : Int)) = false := by simp; omega
      subst hjm
      go_wp2_with fail
      go_ret
      exact ⟨_, rfl, ⟨Nat.le_refl _, R, O, C, HGQ.out, HBS.out⟩, HGR.out⟩
    · have y0 : (0 : Int) ≤ (j : Int) := by omega
      have y2 : (j : Int) < (n : Int) := by omega
      obtain ⟨a3, l3, c3, q0⟩ := HSL.out.cell j (by omega)
      have hlA := HSL.out.lt
      have hfA := HSL.out.free
      have HA2 := Lib.hid (HA.out.grow HGR.out)
      have HB2 := Lib.hid (HB.out.grow HGR.out)
      have qa := HA2.out.cell j (by omega)
      have qb := HB2.out.cell j (by omega)
      obtain ⟨xs, hxl, hxr⟩ := (HA2.out.row j (by omega)).toList (HA2.out.cap j (by omega))
      obtain ⟨ys, hyl, hyr⟩ := (HB2.out.row j (by omega)).toList (HB2.out.cap j (by omega))
      have HXL := Lib.hid hxl
      have HXR := Lib.hid hxr
      have HYL := Lib.hid hyl
      have HYR := Lib.hid hyr
      have hlGa := HA2.out.lt
      have hlGb := HB2.out.lt
      have d0 : ∀ u : World, Grow wr u → u.cell? ⟨w.heap.size, j, none⟩ = some (.slice a3 l3 c3) ∧ u.cell? ⟨Ga, j, none⟩ = some (.slice (some ⟨Ra j, Oa j, none⟩) ma (Ca j)) ∧ u.cell? ⟨Gb, j, none⟩ = some (.slice (some ⟨Rb j, Ob j, none⟩) mb (Cb j)) ∧ (∀ o, u.frozen? ⟨w.heap.size, o, none⟩ = false) ∧ w.heap.size < u.heap.size := by
        intro u hg
        have hzu := hg.size
        exact ⟨(hg.cells _ _ hlA).trans q0, (hg.cells _ _ hlGa).trans qa, (hg.cells _ _ hlGb).trans qb, fun o => (hg.frees _ _ hlA).trans (hfA o), by omega⟩
      have D0 := Lib.hid d0
      clear d0
      have HST : Hid (∀ (u : World) (g c : Nat), Grow wr u → wr.heap.size ≤ g → ma + mb ≤ c → RowQ u g 0 (ma + mb) (fun k => if k < ma then A j k else B j (k - ma)) → GridQ (u.setCell ⟨w.heap.size, j, none⟩ (.slice (some ⟨g, 0, none⟩) (ma + mb) c)) w.heap.size (j + 1) (upd R j g) (upd O j 0) (upd C j c) (ma + mb) (fun i k => if k < ma then A i k else B i (k - ma))) :=
        Lib.hid (fun u g c hu hB hc hr => ((HGQ.out.grow hu).snoc (HSL.out.grow hu) (by omega) hr hc (by omega) (fun i hi e => by have := (HGQ.out.row i hi).lt; omega)).cong (fun i k _ _ => by
          by_cases hij : i = j
          · subst hij; rw [upd_same]
          · rw [upd_other _ _ hij]))
      have HS2 : Hid (∀ (u : World) (g c : Nat), Grow wr u → SlG (u.setCell ⟨w.heap.size, j, none⟩ (.slice (some ⟨g, 0, none⟩) (ma + mb) c)) w.heap.size n) := Lib.hid (fun u B c hu => (HSL.out.grow hu).set (by omega) _ _ _)
      clear hfA hxl hxr hyl hyr q0 qa qb
      go_upto_region 5 with fail
      refine region_held (id := 5) (fun u => Grow wr u) [0, 1, 3, 4, 5, 6, 8, 9, 10, 11, 2, 7, 12, 13, 14] (kdL [0, 0, 2, 0, 0, 0, 1, 2, 0, 0, 0, 1, 2, 0, 3]) (by kernel_rfl) (by kernel_rfl) (fun t ht => kdL_lt _ t ht) ?hS0p ?_
      case hS0p => ((try dsimp only); (repeat (first | with_reducible exact Grow.refl _ | with_reducible refine Grow.alloc ?_ _ | with_reducible refine Grow.drew ?_ | with_reducible refine Grow.drewN ?_ _ | (with_reducible refine Grow.setCell ?_ ?hp _; (case hp => (simp; try omega))) | with_reducible refine Grow.trans ?_ (by assumption))))
      refine held_quiet (v := ?vp0) rfl rfl (Or.inl ⟨by rfl, ?hyp0⟩) ?_
      case hyp0 => (intro u hu; go_simp; (try with_reducible rfl))
      (try simp only [Act.put, List.setIfInBounds_toArray])
      refine held_quiet (v := ?vp1) rfl rfl (Or.inl ⟨by rfl, ?hyp1⟩) ?_
      case hyp1 => (intro u hu; go_simp; (try with_reducible rfl))
      (try simp only [Act.put])
      refine held_quiet (v := ?vp3) rfl rfl (Or.inl ⟨by rfl, ?hyp3⟩) ?_
      case hyp3 => (intro u hu; go_simp; (try with_reducible rfl))
      (try simp only [Act.put])
      refine held_quiet (v := ?vp4) rfl rfl (Or.inl ⟨by rfl, ?hyp4⟩) ?_
      case hyp4 => (intro u hu; go_simp; (try with_reducible rfl))
      (try simp only [Act.put])
      refine held_quiet (v := ?vp5) rfl rfl (Or.inl ⟨by rfl, ?hyp5⟩) ?_
      case hyp5 => (intro u hu; go_simp; (try with_reducible rfl))
      (try simp only [Act.put])
      refine held_read (v := ?vp6) rfl rfl (Or.inl ⟨by rfl, ?hyp6⟩) ?_
      case hyp6 => (intro u hu; obtain ⟨f0, f1, f2, df, dz⟩ := D0.out u hu; go_simp; (try with_reducible rfl))
      (try simp only [Act.put])
      refine held_quiet (v := ?vp8) rfl rfl (Or.inl ⟨by rfl, ?hyp8⟩) ?_
      case hyp8 => (intro u hu; go_simp; (try with_reducible rfl))
      (try simp only [Act.put])
      refine held_quiet (v := ?vp9) rfl rfl (Or.inl ⟨by rfl, ?hyp9⟩) ?_
      case hyp9 => (intro u hu; go_simp; (try with_reducible rfl))
      (try simp only [Act.put])
      refine held_quiet (v := ?vp10) rfl rfl (Or.inl ⟨by rfl, ?hyp10⟩) ?_
      case hyp10 => (intro u hu; go_simp; (try with_reducible rfl))
      (try simp only [Act.put])
      refine held_read (v := ?vp11) rfl rfl (Or.inl ⟨by rfl, ?hyp11⟩) ?_
      case hyp11 => (intro u hu; obtain ⟨f0, f1, f2, df, dz⟩ := D0.out u hu; go_simp; (try with_reducible rfl))
      (try simp only [Act.put])
      refine held_op rfl rfl (fun K hK => ?_)
      go_simp
      refine hK.out _ _ ?hSp2 ?_
      case hSp2 => ((try dsimp only); (repeat (first | with_reducible exact Grow.refl _ | with_reducible refine Grow.alloc ?_ _ | with_reducible refine Grow.drew ?_ | with_reducible refine Grow.drewN ?_ _ | (with_reducible refine Grow.setCell ?_ ?hp _; (case hp => (simp; try omega))) | with_reducible refine Grow.trans ?_ (by assumption))))
      clear hK K
      (try simp only [Act.put])
      refine held_op rfl rfl (fun K hK => ?_)
      (refine step_append_rd (by rfl) _ _ _ (by rfl) 36 ir _ 4 64 Tryz.underlying23 hir irz0 irz1 irz2 rfl (by decide) wr.heap.size _ 0 [] (by rfl) (empty_row wr.drew 36 4) _ ma xs (by rfl) (HXR.out.grow (by (repeat (first | with_reducible exact Grow.refl _ | with_reducible refine Grow.alloc ?_ _ | with_reducible refine Grow.drew ?_ | with_reducible refine Grow.drewN ?_ _ | (with_reducible refine Grow.setCell ?_ ?hp _; (case hp => (simp; try omega))) | with_reducible refine Grow.trans ?_ (by assumption))))) (by omega) (by decide) (by simp) ?_; intro vA wA hoA hgA; have GA : Hid (Grow wr wA) := Lib.hid (own_grow ((Grow.refl wr).drew.alloc _) (empty_row wr.drew 36 4) hgA (Nat.le_refl _)); have HOA := Lib.hid hoA; have hbA := GA.out; clear hoA hgA; obtain ⟨aA, cA, rfl⟩ := own_form HOA.out)
      refine hK.out _ _ ?hSp7 ?_
      case hSp7 => ((try dsimp only); (repeat (first | with_reducible exact Grow.refl _ | with_reducible refine Grow.alloc ?_ _ | with_reducible refine Grow.drew ?_ | with_reducible refine Grow.drewN ?_ _ | (with_reducible refine Grow.setCell ?_ ?hp _; (case hp => (simp; try omega))) | with_reducible refine Grow.trans ?_ (by assumption))))
      clear hK K
      (try simp only [Act.put])
      refine held_op rfl rfl (fun K hK => ?_)
      (refine step_append_rd (by rfl) _ _ _ (by rfl) 36 ir _ 4 64 Tryz.underlying23 hir irz0 irz1 irz2 rfl (by decide) wr.heap.size _ _ _ (by rfl) HOA.out _ mb ys (by rfl) (HYR.out.grow GA.out) (by omega) (by decide) GA.out.size ?_; intro vB wB hoB hgB; have GB : Hid (Grow wr wB) := Lib.hid (own_grow GA.out HOA.out hgB (Nat.le_refl _)); have hbB := GB.out; rw [Nat.zero_add, List.nil_append] at hoB; obtain ⟨gB, cB, rfl, hgb1, hgb2⟩ := own_slice hoB (by omega); have HOB := Lib.hid hoB; clear hoB hgB; obtain ⟨f0_6, f1_6, f2_6, df6, dz6⟩ := D0.out wB (by (repeat (first | with_reducible exact Grow.refl _ | with_reducible refine Grow.alloc ?_ _ | with_reducible refine Grow.drew ?_ | with_reducible refine Grow.drewN ?_ _ | (with_reducible refine Grow.setCell ?_ ?hp _; (case hp => (simp; try omega))) | with_reducible refine Grow.trans ?_ (by assumption)))))
      refine hK.out _ _ ?hSp12 ?_
      case hSp12 => ((try dsimp only); (repeat (first | with_reducible exact Grow.refl _ | with_reducible refine Grow.alloc ?_ _ | with_reducible refine Grow.drew ?_ | with_reducible refine Grow.drewN ?_ _ | (with_reducible refine Grow.setCell ?_ ?hp _; (case hp => (simp; try omega))) | with_reducible refine Grow.trans ?_ (by assumption))))
      clear hK K
      (try simp only [Act.put])
      refine held_quiet (v := ?vp13) rfl rfl (Or.inl ⟨by rfl, ?hyp13⟩) ?_
      case hyp13 => (intro u hu; go_simp; (try with_reducible rfl))
      (try simp only [Act.put])
      refine held_last rfl rfl (fun K hK => ?_)
      go_simp
      refine hK.out _ _ ?_
      clear hK K
      (try simp only [Act.put])
      refine held_done ?_
      have HLB := Lib.hid ((HXL.out.grow GB.out).append (HYL.out.grow GB.out))
      have hst := HST.out wB gB cB (by (repeat (first | with_reducible exact Grow.refl _ | with_reducible refine Grow.alloc ?_ _ | with_reducible refine Grow.drew ?_ | with_reducible refine Grow.drewN ?_ _ | (with_reducible refine Grow.setCell ?_ ?hp _; (case hp => (simp; try omega))) | with_reducible refine Grow.trans ?_ (by assumption)))) (by omega) (own_cells HOB.out).2.2.1 (own_rowq HOB.out HLB.out)
      have hs2 := HS2.out wB gB cB (by (repeat (first | with_reducible exact Grow.refl _ | with_reducible refine Grow.alloc ?_ _ | with_reducible refine Grow.drew ?_ | with_reducible refine Grow.drewN ?_ _ | (with_reducible refine Grow.setCell ?_ ?hp _; (case hp => (simp; try omega))) | with_reducible refine Grow.trans ?_ (by assumption))))
      have y4 : IntKind.i64.wrap ((j : Int) + 1) = ((j + 1 : Nat) : Int) := (IntWalk.i64_in ((j : Int) + 1) (by omega)).trans (by omega)
      have y3 : wrap64 ((j : Int) + 1) = ((j + 1 : Nat) : Int) := by clear y4; unfold wrap64; omega
      go_wp2_with fail
      clear y3 y4
      go_roundg (n - (j + 1))
      case measure => have := HGK.out; omega
      case rel =>
        refine ⟨j + 1, _, _, _, rfl, by omega, Lib.hid rfl, Lib.hid (by have h9 := HGR.out; have h8 := GB.out; (repeat (first | with_reducible exact Grow.refl _ | with_reducible refine Grow.alloc ?_ _ | with_reducible refine Grow.drew ?_ | with_reducible refine Grow.drewN ?_ _ | (with_reducible refine Grow.setCell ?_ ?hp _; (case hp => (simp; try omega))) | with_reducible refine Grow.trans ?_ (by assumption)))), Lib.hid hs2, Lib.hid hst, Lib.hid ?_⟩
        intro i hi
        by_cases hij : i = j
        · subst hij; rw [upd_same]; have := HGR.out.size; omega
        · rw [upd_other _ _ hij]; exact HBS.out i (by omega)
end Go.Proofs.YtbpkfcohbefphaaGreat
