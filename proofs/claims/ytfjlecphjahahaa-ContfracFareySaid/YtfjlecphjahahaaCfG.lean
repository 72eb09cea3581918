/- Walk: Chain of the program. -/
import Derived.Test.YtfjlecphjahahaaCfD
import Derived.Test.YtfjlecphjahahaaCfE
import Derived.Test.YtfjlecphjahahaaCfF
namespace Go.Proofs.Ytfjlecphjahahaa
open Go Go.RowKit

theorem RowAt.grow {w w' : World} {g off cap : Nat} {l : List C2} (h : RowAt w g off cap l) (hg : Grow w w') : RowAt w' g off cap l :=
  ⟨Nat.lt_of_lt_of_le h.lt hg.size, h.le, fun j hj => ⟨(hg.cells g _ h.lt).trans (h.cells j hj).1, (hg.cells g _ h.lt).trans (h.cells j hj).2⟩, fun j hj => by rw [hg.cells g _ h.lt]; exact h.ex j hj, fun o => (hg.frees g o h.lt).trans (h.free o)⟩
theorem RowAt.far {w w' : World} {g g2 off cap : Nat} {l : List C2} (h : RowAt w g2 off cap l) (hg : w.grownBy w' (some g)) (hne : g2 ≠ g) : RowAt w' g2 off cap l := by
  have hk : w'.heap[g2]? = w.heap[g2]? := hg.block g2 h.lt (fun e => hne (by simp at e; exact e))
  exact ⟨Nat.lt_of_lt_of_le h.lt hg.size, h.le, fun j hj => ⟨(World.cell?_of_block hk).trans (h.cells j hj).1, (World.cell?_of_block hk).trans (h.cells j hj).2⟩, fun j hj => by rw [World.cell?_of_block (a := ⟨g2, off + j, none⟩) hk]; exact h.ex j hj, fun o => (World.frozen?_of_block (a := ⟨g2, o, none⟩) hk).trans (h.free o)⟩
theorem comF_le : ∀ (x y : List C2), comF x y ≤ x.length ∧ comF x y ≤ y.length
  | [], _ => by simp [comF]
  | _ :: _, [] => by simp [comF]
  | a :: x, b :: y => by
    have := comF_le x y
    unfold comF
    split <;> simp <;> omega
theorem comF_step {x y : List C2} {k : Nat} (hx : k < x.length) (hy : k < y.length) : comF (x.drop k) (y.drop k) = if eqC (x.getD k C2.zero) (y.getD k C2.zero) then comF (x.drop (k + 1)) (y.drop (k + 1)) + 1 else 0 := by
  rw [List.drop_eq_getElem_cons hx, List.drop_eq_getElem_cons hy]
  simp [comF, hx, hy]
theorem comF_end {x y : List C2} {k : Nat} (h : x.length ≤ k ∨ y.length ≤ k) : comF (x.drop k) (y.drop k) = 0 := by
  rcases h with h | h
  · rw [List.drop_of_length_le h]; simp [comF]
  · rw [List.drop_of_length_le h]; cases x.drop k <;> simp [comF]

set_option maxHeartbeats 2000000 in
theorem chain_core (a b : C2) (x y : List C2) (nx ny : Nat) (hx0 : Hid (x.length = nx)) (hy0 : Hid (y.length = ny)) (hx1 : 0 < nx) (hy1 : 0 < ny) (hx2 : nx ≤ 65) (hy2 : ny ≤ 65) (N : Nat) (hN : Hid (comF x y = N)) (hN1 : 1 ≤ N)
    (X : Hid (∀ w, Calls Try.prog 17 #[.agg #[.int .i64 a.p, .int .i64 a.q]] w fun e w' => ∃ v, e = .returned (.tuple #[v, .int .i64 0]) ∧ OwnCusps w' w.heap.size v x ∧ Grow w w'))
    (Y : Hid (∀ w, Calls Try.prog 17 #[.agg #[.int .i64 b.p, .int .i64 b.q]] w fun e w' => ∃ v, e = .returned (.tuple #[v, .int .i64 0]) ∧ OwnCusps w' w.heap.size v y ∧ Grow w w')) (w : World) :
    Calls Try.prog 21 #[.agg #[.int .i64 a.p, .int .i64 a.q], .agg #[.int .i64 b.p, .int .i64 b.q]] w fun e w' => ∃ v, e = .returned (.tuple #[v, .int .i64 0]) ∧ RdCusps w' v ((x.drop (N - 1)).reverse ++ y.drop N) ∧ Grow w w' := by
  obtain ⟨i0, hi, iz0, iz1, iz2⟩ := info_parts infoC
  go_enter Try.func21, Try.ntmps21
  go_wp2_with fail
  go_at_call 17
  refine (X.out _).mono ?_
  rintro e w1 ⟨v1, rfl, ho1, hb1⟩
  obtain ⟨g1, cap1, rfl, hg1, row1, hcap1⟩ := RowAt.of_own ho1 (by rw [hx0.out]; exact hx1)
  rw [hx0.out]
  have hc1 := hb1.cells
  have hf1 := hb1.frees
  have hz1 := hb1.size
  simp at hz1
  have z1 : w.heap.size < w1.heap.size := by omega
  have z2 : w.heap.size + 1 < w1.heap.size := by omega
  have z3 := row1.lt
  have hG1 : Grow w w1 := by (repeat (first | with_reducible exact Grow.refl _ | with_reducible refine Grow.alloc ?_ _ | with_reducible refine Grow.drew ?_ | with_reducible refine Grow.drewN ?_ _ | (with_reducible refine Grow.setCell ?_ ?hp _; (case hp => (simp; try omega))) | with_reducible refine Grow.trans ?_ (by assumption)))
  simp at hg1
  have c0 : w1.cell? ⟨w.heap.size + 1, 0, none⟩ = some (.int .i64 b.p) := by rw [hc1 _ _ (by simp)]; go_simp
  have c1 : w1.cell? ⟨w.heap.size + 1, 1, none⟩ = some (.int .i64 b.q) := by rw [hc1 _ _ (by simp)]; go_simp
  clear hc1 hf1 hb1 ho1
  go_wp2_with fail
  go_at_call 17
  refine (Y.out _).mono ?_
  rintro e w2 ⟨v2, rfl, ho2, hb2⟩
  obtain ⟨g2, cap2, rfl, hg2, row2, hcap2⟩ := RowAt.of_own ho2 (by rw [hy0.out]; exact hy1)
  rw [hy0.out]
  have hz2 := hb2.size
  have z4 : w.heap.size < w2.heap.size := by omega
  have z5 : g1 < w2.heap.size := by omega
  have z6 := row2.lt
  have hne : g1 ≠ g2 := by omega
  have hG2 : Grow w w2 := hG1.trans hb2
  have Row1 := Lib.hid (row1.grow hb2)
  have Row2 := Lib.hid row2
  have HG := Lib.hid hG2
  have hle1 := row1.le
  have hle2 := row2.le
  rw [hx0.out] at hle1
  rw [hy0.out] at hle2
  have hg1' : w.heap.size ≤ g1 := by omega
  clear X Y c0 c1 hb2 ho2 hG1 hG2 row1 row2 z1 z2 z3 hz1 hz2 hg1 hg2
  obtain ⟨mn, hm⟩ : ∃ mn : Int, (if ny < nx then (ny : Int) else nx) = mn := ⟨_, rfl⟩
  have HM := Lib.hid hm
  go_wp2_with fail
  go_loopg [9] (nx + 1) (fun f t9 wr => ∃ k : Nat, t9 = .int .i64 k ∧ k + f = nx + 1 ∧ k ≤ ny ∧ Hid (k + comF (x.drop k) (y.drop k) = N) ∧ ∃ d, wr = w2.drewN d)
  case atStart => exact ⟨0, rfl, by omega, by omega, by show 0 + comF (x.drop 0) (y.drop 0) = N; simpa using hN.out, 0, rfl⟩
  case round =>
    obtain ⟨k, rfl, hf, hky, hk, d, rfl⟩ := hrel
    by_cases hlt : k < nx ∧ k < ny
    · obtain ⟨hx3, hy3⟩ := hlt
      obtain ⟨d1, d2⟩ := Row1.out.cells k (by rw [hx0.out]; exact hx3)
      obtain ⟨d3, d4⟩ := Row2.out.cells k (by rw [hy0.out]; exact hy3)
      have hs := comF_step (x := x) (y := y) (k := k) (by rw [hx0.out]; exact hx3) (by rw [hy0.out]; exact hy3)
      have HS := Lib.hid hs
      clear hs
      obtain ⟨u, hu⟩ : ∃ u, x.getD k C2.zero = u := ⟨_, rfl⟩
      obtain ⟨v, hv⟩ : ∃ v, y.getD k C2.zero = v := ⟨_, rfl⟩
      rw [hu] at d1 d2 HS
      rw [hv] at d3 d4 HS
      clear hu hv
      simp only [Nat.zero_add] at d1 d2 d3 d4
      have hk0 : (0 : Int) ≤ k := by omega
      have hkx : (k : Int) < nx := by omega
      have hky2 : (k : Int) < ny := by omega
      have hmin : (k : Int) < mn := by rw [← HM.out]; split <;> omega
      obtain ⟨g', hgk⟩ : ∃ g', gk = g' + 1 := ⟨gk - 1, by omega⟩
      by_cases he : eqC u v = true
      · have e1 : (u.p == v.p) = true := by rw [eqC_iff.1 he]; simp
        have e2 : (u.q == v.q) = true := by rw [eqC_iff.1 he]; simp
        have HE := Lib.hid he
        clear he
        go_wp2_with fail
        go_quiet (fail)
        go_wp2
        go_roundg g'
        case measure => omega
        case rel =>
          refine ⟨k + 1, by go_num, by omega, by omega, ?_, _, rfl⟩
          have h := hk.out
          rw [HS.out, if_pos HE.out] at h
          show k + 1 + _ = N
          omega
      · have hkN : k = N := by have h := hk.out; rw [HS.out, if_neg he] at h; omega
        have hkn1 : k ≤ nx := by omega
        have f0 : (0 : Int) ≤ k := by omega
        subst hkN
        obtain ⟨s, hs⟩ : ∃ s : Nat, (k : Int) - 1 = s := ⟨k - 1, by omega⟩
        have HSS := Lib.hid hs
        have f1 : (0 : Int) ≤ s := by omega
        have f2 : (s : Int) ≤ nx := by omega
        have f3 : (k : Int) ≤ ny := by omega
        have y1 : IntKind.i64.wrap (s : Int) = s := IntWalk.i64_in _ (by omega)
        have hcs : ¬ cap1 = s := by omega
        have hsn : s < nx := by omega
        have hby : ∃ B : Bool, (u.p == v.p) = B ∧ (B = true → (u.q == v.q) = false) := by
          refine ⟨_, rfl, fun h => ?_⟩
          simp only [beq_iff_eq] at h
          simp only [beq_eq_false_iff_ne, ne_eq]
          intro h2
          apply he
          simp [eqC, h, h2]
        obtain ⟨B, e1, e2⟩ := hby
        clear he
        cases B with
        | true =>
          have e3 := e2 rfl
          clear e2
          go_wp2_with fail
          go_quiet (fail)
          by_cases hc2 : cap2 = k
          · have e8 : ny - k = 0 := by omega
            have e9 : cap2 - k = 0 := by omega
            go_wp2_with fail
            go_at_call 40
            refine (reverse_any (x.drop s) g1 (s * 2) (cap1 - s) (nx - s) (by show (x.drop s).length = nx - s; rw [List.length_drop, hx0.out]) (by omega) (by omega) _ (RowAt.tail (Row1.out.grow (by (repeat (first | with_reducible exact Grow.refl _ | with_reducible refine Grow.alloc ?_ _ | with_reducible refine Grow.drew ?_ | with_reducible refine Grow.drewN ?_ _ | (with_reducible refine Grow.setCell ?_ ?hp _; (case hp => (simp; try omega))) | with_reducible refine Grow.trans ?_ (by assumption))))) s (by have := hx0.out; omega))).mono ?_
            rintro e w3 ⟨rfl, hrow3, hg3⟩
            have hG3 : Grow w w3 := Grow.grown (HG.out.drewN _) hg3 (fun j hj => by simp at hj; omega)
            have hn3 : ((x.drop s).reverse).length = nx - s := by simp; have := hx0.out; omega
            have hrow4 := RowAt.far (Row2.out.grow (by (repeat (first | with_reducible exact Grow.refl _ | with_reducible refine Grow.alloc ?_ _ | with_reducible refine Grow.drew ?_ | with_reducible refine Grow.drewN ?_ _ | (with_reducible refine Grow.setCell ?_ ?hp _; (case hp => (simp; try omega))) | with_reducible refine Grow.trans ?_ (by assumption))))) hg3 (Ne.symm hne)
            have Row3 := Lib.hid hrow3
            have Row4 := Lib.hid hrow4
            have HG3 := Lib.hid hG3
            clear hrow3 hg3 hG3 hrow4
            go_wp2_with (at_builtin; refine wpList_append_row _ rfl _ _ 24 rfl i0 (.agg #[.int .i64 0, .int .i64 0]) Try.underlying24 hi iz0 iz1 iz2 rfl g1 (s * 2) (cap1 - s) (nx - s) _ rfl hn3.symm Row3.out _ (y.drop k) rfl ?rd ?len ?_)
            case rd => exact .inl ⟨_, _, rfl, List.drop_of_length_le (by have := hy0.out; omega)⟩
            case len => simp; have := hx0.out; have := hy0.out; omega
            intro v4 w4 hrd4 hg4
            have hG4 : Grow w w4 := Grow.grown HG3.out hg4 (fun j hj => by simp at hj; omega)
            have HG4 := Lib.hid hG4
            have HR4 := Lib.hid hrd4
            clear hG4 hrd4 hg4
            go_wp2
            refine bodyPost_ret (v := .tuple #[v4, .int .i64 0]) (by simp only [results, Try.results21]; go_simp) rfl ⟨_, rfl, ?_, HG4.out⟩
            rw [show k - 1 = s by omega]
            exact HR4.out
          · skip
            go_wp2_with fail
            go_at_call 40
            refine (reverse_any (x.drop s) g1 (s * 2) (cap1 - s) (nx - s) (by show (x.drop s).length = nx - s; rw [List.length_drop, hx0.out]) (by omega) (by omega) _ (RowAt.tail (Row1.out.grow (by (repeat (first | with_reducible exact Grow.refl _ | with_reducible refine Grow.alloc ?_ _ | with_reducible refine Grow.drew ?_ | with_reducible refine Grow.drewN ?_ _ | (with_reducible refine Grow.setCell ?_ ?hp _; (case hp => (simp; try omega))) | with_reducible refine Grow.trans ?_ (by assumption))))) s (by have := hx0.out; omega))).mono ?_
            rintro e w3 ⟨rfl, hrow3, hg3⟩
            have hG3 : Grow w w3 := Grow.grown (HG.out.drewN _) hg3 (fun j hj => by simp at hj; omega)
            have hn3 : ((x.drop s).reverse).length = nx - s := by simp; have := hx0.out; omega
            have hrow4 := RowAt.far (Row2.out.grow (by (repeat (first | with_reducible exact Grow.refl _ | with_reducible refine Grow.alloc ?_ _ | with_reducible refine Grow.drew ?_ | with_reducible refine Grow.drewN ?_ _ | (with_reducible refine Grow.setCell ?_ ?hp _; (case hp => (simp; try omega))) | with_reducible refine Grow.trans ?_ (by assumption))))) hg3 (Ne.symm hne)
            have Row3 := Lib.hid hrow3
            have Row4 := Lib.hid hrow4
            have HG3 := Lib.hid hG3
            clear hrow3 hg3 hG3 hrow4
            go_wp2_with (at_builtin; refine wpList_append_row _ rfl _ _ 24 rfl i0 (.agg #[.int .i64 0, .int .i64 0]) Try.underlying24 hi iz0 iz1 iz2 rfl g1 (s * 2) (cap1 - s) (nx - s) _ rfl hn3.symm Row3.out _ (y.drop k) rfl ?rd ?len ?_)
            case rd => (have h := rd_tail Row4.out.lt Row4.out.le k (by have := hy0.out; omega) Row4.out.cells; rw [hy0.out, Nat.zero_add] at h; exact h)
            case len => simp; have := hx0.out; have := hy0.out; omega
            intro v4 w4 hrd4 hg4
            have hG4 : Grow w w4 := Grow.grown HG3.out hg4 (fun j hj => by simp at hj; omega)
            have HG4 := Lib.hid hG4
            have HR4 := Lib.hid hrd4
            clear hG4 hrd4 hg4
            go_wp2
            refine bodyPost_ret (v := .tuple #[v4, .int .i64 0]) (by simp only [results, Try.results21]; go_simp) rfl ⟨_, rfl, ?_, HG4.out⟩
            rw [show k - 1 = s by omega]
            exact HR4.out
        | false =>
          clear e2
          go_wp2_with fail
          go_quiet (fail)
          by_cases hc2 : cap2 = k
          · have e8 : ny - k = 0 := by omega
            have e9 : cap2 - k = 0 := by omega
            go_wp2_with fail
            go_at_call 40
            refine (reverse_any (x.drop s) g1 (s * 2) (cap1 - s) (nx - s) (by show (x.drop s).length = nx - s; rw [List.length_drop, hx0.out]) (by omega) (by omega) _ (RowAt.tail (Row1.out.grow (by (repeat (first | with_reducible exact Grow.refl _ | with_reducible refine Grow.alloc ?_ _ | with_reducible refine Grow.drew ?_ | with_reducible refine Grow.drewN ?_ _ | (with_reducible refine Grow.setCell ?_ ?hp _; (case hp => (simp; try omega))) | with_reducible refine Grow.trans ?_ (by assumption))))) s (by have := hx0.out; omega))).mono ?_
            rintro e w3 ⟨rfl, hrow3, hg3⟩
            have hG3 : Grow w w3 := Grow.grown (HG.out.drewN _) hg3 (fun j hj => by simp at hj; omega)
            have hn3 : ((x.drop s).reverse).length = nx - s := by simp; have := hx0.out; omega
            have hrow4 := RowAt.far (Row2.out.grow (by (repeat (first | with_reducible exact Grow.refl _ | with_reducible refine Grow.alloc ?_ _ | with_reducible refine Grow.drew ?_ | with_reducible refine Grow.drewN ?_ _ | (with_reducible refine Grow.setCell ?_ ?hp _; (case hp => (simp; try omega))) | with_reducible refine Grow.trans ?_ (by assumption))))) hg3 (Ne.symm hne)
            have Row3 := Lib.hid hrow3
            have Row4 := Lib.hid hrow4
            have HG3 := Lib.hid hG3
            clear hrow3 hg3 hG3 hrow4
            go_wp2_with (at_builtin; refine wpList_append_row _ rfl _ _ 24 rfl i0 (.agg #[.int .i64 0, .int .i64 0]) Try.underlying24 hi iz0 iz1 iz2 rfl g1 (s * 2) (cap1 - s) (nx - s) _ rfl hn3.symm Row3.out _ (y.drop k) rfl ?rd ?len ?_)
            case rd => exact .inl ⟨_, _, rfl, List.drop_of_length_le (by have := hy0.out; omega)⟩
            case len => simp; have := hx0.out; have := hy0.out; omega
            intro v4 w4 hrd4 hg4
            have hG4 : Grow w w4 := Grow.grown HG3.out hg4 (fun j hj => by simp at hj; omega)
            have HG4 := Lib.hid hG4
            have HR4 := Lib.hid hrd4
            clear hG4 hrd4 hg4
            go_wp2
            refine bodyPost_ret (v := .tuple #[v4, .int .i64 0]) (by simp only [results, Try.results21]; go_simp) rfl ⟨_, rfl, ?_, HG4.out⟩
            rw [show k - 1 = s by omega]
            exact HR4.out
          · skip
            go_wp2_with fail
            go_at_call 40
            refine (reverse_any (x.drop s) g1 (s * 2) (cap1 - s) (nx - s) (by show (x.drop s).length = nx - s; rw [List.length_drop, hx0.out]) (by omega) (by omega) _ (RowAt.tail (Row1.out.grow (by (repeat (first | with_reducible exact Grow.refl _ | with_reducible refine Grow.alloc ?_ _ | with_reducible refine Grow.drew ?_ | with_reducible refine Grow.drewN ?_ _ | (with_reducible refine Grow.setCell ?_ ?hp _; (case hp => (simp; try omega))) | with_reducible refine Grow.trans ?_ (by assumption))))) s (by have := hx0.out; omega))).mono ?_
            rintro e w3 ⟨rfl, hrow3, hg3⟩
            have hG3 : Grow w w3 := Grow.grown (HG.out.drewN _) hg3 (fun j hj => by simp at hj; omega)
            have hn3 : ((x.drop s).reverse).length = nx - s := by simp; have := hx0.out; omega
            have hrow4 := RowAt.far (Row2.out.grow (by (repeat (first | with_reducible exact Grow.refl _ | with_reducible refine Grow.alloc ?_ _ | with_reducible refine Grow.drew ?_ | with_reducible refine Grow.drewN ?_ _ | (with_reducible refine Grow.setCell ?_ ?hp _; (case hp => (simp; try omega))) | with_reducible refine Grow.trans ?_ (by assumption))))) hg3 (Ne.symm hne)
            have Row3 := Lib.hid hrow3
            have Row4 := Lib.hid hrow4
            have HG3 := Lib.hid hG3
            clear hrow3 hg3 hG3 hrow4
            go_wp2_with (at_builtin; refine wpList_append_row _ rfl _ _ 24 rfl i0 (.agg #[.int .i64 0, .int .i64 0]) Try.underlying24 hi iz0 iz1 iz2 rfl g1 (s * 2) (cap1 - s) (nx - s) _ rfl hn3.symm Row3.out _ (y.drop k) rfl ?rd ?len ?_)
            case rd => (have h := rd_tail Row4.out.lt Row4.out.le k (by have := hy0.out; omega) Row4.out.cells; rw [hy0.out, Nat.zero_add] at h; exact h)
            case len => simp; have := hx0.out; have := hy0.out; omega
            intro v4 w4 hrd4 hg4
            have hG4 : Grow w w4 := Grow.grown HG3.out hg4 (fun j hj => by simp at hj; omega)
            have HG4 := Lib.hid hG4
            have HR4 := Lib.hid hrd4
            clear hG4 hrd4 hg4
            go_wp2
            refine bodyPost_ret (v := .tuple #[v4, .int .i64 0]) (by simp only [results, Try.results21]; go_simp) rfl ⟨_, rfl, ?_, HG4.out⟩
            rw [show k - 1 = s by omega]
            exact HR4.out
    · have hkN : k = N := by have h := hk.out; rw [comF_end (by have := hx0.out; have := hy0.out; omega)] at h; omega
      have hmin : decide ((k : Int) < mn) = false := by rw [decide_eq_false_iff_not, ← HM.out]; split <;> omega
      have hkx : k ≤ nx := by rw [hkN, ← hN.out, ← hx0.out]; exact (comF_le x y).1
      have hkn1 : k ≤ nx := by omega
      have f0 : (0 : Int) ≤ k := by omega
      subst hkN
      obtain ⟨s, hs⟩ : ∃ s : Nat, (k : Int) - 1 = s := ⟨k - 1, by omega⟩
      have HSS := Lib.hid hs
      have f1 : (0 : Int) ≤ s := by omega
      have f2 : (s : Int) ≤ nx := by omega
      have f3 : (k : Int) ≤ ny := by omega
      have y1 : IntKind.i64.wrap (s : Int) = s := IntWalk.i64_in _ (by omega)
      have hcs : ¬ cap1 = s := by omega
      have hsn : s < nx := by omega
      go_wp2_with fail
      go_quiet (fail)
      by_cases hc2 : cap2 = k
      · have e8 : ny - k = 0 := by omega
        have e9 : cap2 - k = 0 := by omega
        go_wp2_with fail
        go_at_call 40
        refine (reverse_any (x.drop s) g1 (s * 2) (cap1 - s) (nx - s) (by show (x.drop s).length = nx - s; rw [List.length_drop, hx0.out]) (by omega) (by omega) _ (RowAt.tail (Row1.out.grow (by (repeat (first | with_reducible exact Grow.refl _ | with_reducible refine Grow.alloc ?_ _ | with_reducible refine Grow.drew ?_ | with_reducible refine Grow.drewN ?_ _ | (with_reducible refine Grow.setCell ?_ ?hp _; (case hp => (simp; try omega))) | with_reducible refine Grow.trans ?_ (by assumption))))) s (by have := hx0.out; omega))).mono ?_
        rintro e w3 ⟨rfl, hrow3, hg3⟩
        have hG3 : Grow w w3 := Grow.grown (HG.out.drewN _) hg3 (fun j hj => by simp at hj; omega)
        have hn3 : ((x.drop s).reverse).length = nx - s := by simp; have := hx0.out; omega
        have hrow4 := RowAt.far (Row2.out.grow (by (repeat (first | with_reducible exact Grow.refl _ | with_reducible refine Grow.alloc ?_ _ | with_reducible refine Grow.drew ?_ | with_reducible refine Grow.drewN ?_ _ | (with_reducible refine Grow.setCell ?_ ?hp _; (case hp => (simp; try omega))) | with_reducible refine Grow.trans ?_ (by assumption))))) hg3 (Ne.symm hne)
        have Row3 := Lib.hid hrow3
        have Row4 := Lib.hid hrow4
        have HG3 := Lib.hid hG3
        clear hrow3 hg3 hG3 hrow4
        go_wp2_with (at_builtin; refine wpList_append_row _ rfl _ _ 24 rfl i0 (.agg #[.int .i64 0, .int .i64 0]) Try.underlying24 hi iz0 iz1 iz2 rfl g1 (s * 2) (cap1 - s) (nx - s) _ rfl hn3.symm Row3.out _ (y.drop k) rfl ?rd ?len ?_)
        case rd => exact .inl ⟨_, _, rfl, List.drop_of_length_le (by have := hy0.out; omega)⟩
        case len => simp; have := hx0.out; have := hy0.out; omega
        intro v4 w4 hrd4 hg4
        have hG4 : Grow w w4 := Grow.grown HG3.out hg4 (fun j hj => by simp at hj; omega)
        have HG4 := Lib.hid hG4
        have HR4 := Lib.hid hrd4
        clear hG4 hrd4 hg4
        go_wp2
        refine bodyPost_ret (v := .tuple #[v4, .int .i64 0]) (by simp only [results, Try.results21]; go_simp) rfl ⟨_, rfl, ?_, HG4.out⟩
        rw [show k - 1 = s by omega]
        exact HR4.out
      · skip
        go_wp2_with fail
        go_at_call 40
        refine (reverse_any (x.drop s) g1 (s * 2) (cap1 - s) (nx - s) (by show (x.drop s).length = nx - s; rw [List.length_drop, hx0.out]) (by omega) (by omega) _ (RowAt.tail (Row1.out.grow (by (repeat (first | with_reducible exact Grow.refl _ | with_reducible refine Grow.alloc ?_ _ | with_reducible refine Grow.drew ?_ | with_reducible refine Grow.drewN ?_ _ | (with_reducible refine Grow.setCell ?_ ?hp _; (case hp => (simp; try omega))) | with_reducible refine Grow.trans ?_ (by assumption))))) s (by have := hx0.out; omega))).mono ?_
        rintro e w3 ⟨rfl, hrow3, hg3⟩
        have hG3 : Grow w w3 := Grow.grown (HG.out.drewN _) hg3 (fun j hj => by simp at hj; omega)
        have hn3 : ((x.drop s).reverse).length = nx - s := by simp; have := hx0.out; omega
        have hrow4 := RowAt.far (Row2.out.grow (by (repeat (first | with_reducible exact Grow.refl _ | with_reducible refine Grow.alloc ?_ _ | with_reducible refine Grow.drew ?_ | with_reducible refine Grow.drewN ?_ _ | (with_reducible refine Grow.setCell ?_ ?hp _; (case hp => (simp; try omega))) | with_reducible refine Grow.trans ?_ (by assumption))))) hg3 (Ne.symm hne)
        have Row3 := Lib.hid hrow3
        have Row4 := Lib.hid hrow4
        have HG3 := Lib.hid hG3
        clear hrow3 hg3 hG3 hrow4
        go_wp2_with (at_builtin; refine wpList_append_row _ rfl _ _ 24 rfl i0 (.agg #[.int .i64 0, .int .i64 0]) Try.underlying24 hi iz0 iz1 iz2 rfl g1 (s * 2) (cap1 - s) (nx - s) _ rfl hn3.symm Row3.out _ (y.drop k) rfl ?rd ?len ?_)
        case rd => (have h := rd_tail Row4.out.lt Row4.out.le k (by have := hy0.out; omega) Row4.out.cells; rw [hy0.out, Nat.zero_add] at h; exact h)
        case len => simp; have := hx0.out; have := hy0.out; omega
        intro v4 w4 hrd4 hg4
        have hG4 : Grow w w4 := Grow.grown HG3.out hg4 (fun j hj => by simp at hj; omega)
        have HG4 := Lib.hid hG4
        have HR4 := Lib.hid hrd4
        clear hG4 hrd4 hg4
        go_wp2
        refine bodyPost_ret (v := .tuple #[v4, .int .i64 0]) (by simp only [results, Try.results21]; go_simp) rfl ⟨_, rfl, ?_, HG4.out⟩
        rw [show k - 1 = s by omega]
        exact HR4.out

theorem chain_err1 (a b : C2) (x : List C2) (er : Int) (h0 : er ≠ 0) (X : Hid (∀ w, Calls Try.prog 17 #[.agg #[.int .i64 a.p, .int .i64 a.q]] w fun e w' => ∃ v, e = .returned (.tuple #[v, .int .i64 er]) ∧ OwnCusps w' w.heap.size v x ∧ Grow w w')) (w : World) :
    Calls Try.prog 21 #[.agg #[.int .i64 a.p, .int .i64 a.q], .agg #[.int .i64 b.p, .int .i64 b.q]] w fun e w' => e = .returned (.tuple #[.slice none 0 0, .int .i64 er]) ∧ Grow w w' := by
  have k1 : (er == 0) = false := by simpa using h0
  have k2 : (er != 0) = true := by simpa using h0
  clear h0
  go_enter Try.func21, Try.ntmps21
  go_wp2_with fail
  go_at_call 17
  refine (X.out _).mono ?_
  rintro e w1 ⟨v1, rfl, ho1, hb1⟩
  clear ho1
  go_wp2_with fail
  exact bodyPost_ret (v := .tuple #[.slice none 0 0, .int .i64 er]) (by simp only [results, Try.results21]; go_simp) rfl ⟨rfl, by (repeat (first | with_reducible exact Grow.refl _ | with_reducible refine Grow.alloc ?_ _ | with_reducible refine Grow.drew ?_ | with_reducible refine Grow.drewN ?_ _ | (with_reducible refine Grow.setCell ?_ ?hp _; (case hp => (simp; try omega))) | with_reducible refine Grow.trans ?_ (by assumption)))⟩
theorem chain_err2 (a b : C2) (x y : List C2) (er : Int) (h0 : er ≠ 0) (X : Hid (∀ w, Calls Try.prog 17 #[.agg #[.int .i64 a.p, .int .i64 a.q]] w fun e w' => ∃ v, e = .returned (.tuple #[v, .int .i64 0]) ∧ OwnCusps w' w.heap.size v x ∧ Grow w w'))
    (Y : Hid (∀ w, Calls Try.prog 17 #[.agg #[.int .i64 b.p, .int .i64 b.q]] w fun e w' => ∃ v, e = .returned (.tuple #[v, .int .i64 er]) ∧ OwnCusps w' w.heap.size v y ∧ Grow w w')) (w : World) :
    Calls Try.prog 21 #[.agg #[.int .i64 a.p, .int .i64 a.q], .agg #[.int .i64 b.p, .int .i64 b.q]] w fun e w' => e = .returned (.tuple #[.slice none 0 0, .int .i64 er]) ∧ Grow w w' := by
  have k1 : (er == 0) = false := by simpa using h0
  have k2 : (er != 0) = true := by simpa using h0
  clear h0
  go_enter Try.func21, Try.ntmps21
  go_wp2_with fail
  go_at_call 17
  refine (X.out _).mono ?_
  rintro e w1 ⟨v1, rfl, ho1, hb1⟩
  have hc1 := hb1.cells
  have hf1 := hb1.frees
  have hz1 := hb1.size
  simp at hz1
  have z2 : w.heap.size + 1 < w1.heap.size := by omega
  have c0 : w1.cell? ⟨w.heap.size + 1, 0, none⟩ = some (.int .i64 b.p) := by rw [hc1 _ _ (by simp)]; go_simp
  have c1 : w1.cell? ⟨w.heap.size + 1, 1, none⟩ = some (.int .i64 b.q) := by rw [hc1 _ _ (by simp)]; go_simp
  have hG1 : Grow w w1 := by (repeat (first | with_reducible exact Grow.refl _ | with_reducible refine Grow.alloc ?_ _ | with_reducible refine Grow.drew ?_ | with_reducible refine Grow.drewN ?_ _ | (with_reducible refine Grow.setCell ?_ ?hp _; (case hp => (simp; try omega))) | with_reducible refine Grow.trans ?_ (by assumption)))
  clear ho1 hb1 hc1 hf1 hz1
  go_wp2_with fail
  go_at_call 17
  refine (Y.out _).mono ?_
  rintro e w2 ⟨v2, rfl, ho2, hb2⟩
  clear ho2
  go_wp2_with fail
  have hG2 := hG1.trans hb2
  refine bodyPost_ret (v := .tuple #[.slice none 0 0, .int .i64 er]) (by simp only [results, Try.results21]; go_simp) rfl ⟨rfl, hG2⟩

theorem pathF_ok {c : C2} (h : (pathF c).2 = 0) : ∃ l, (pathF c).1 = ⟨1, 0⟩ :: l := by
  unfold pathF at h ⊢
  split
  · exact ⟨[], rfl⟩
  · split
    · exact ⟨_, rfl⟩
    · rename_i h1 h2
      rw [if_neg h1, if_neg h2] at h
      exact absurd h h2
theorem com_pos {c d : C2} (h : (pathF c).2 = 0) (k : (pathF d).2 = 0) : 1 ≤ comF (pathF c).1 (pathF d).1 := by
  obtain ⟨l, hl⟩ := pathF_ok h
  obtain ⟨m, hm⟩ := pathF_ok k
  rw [hl, hm]
  simp [comF, eqC]
theorem chain_any (a b : C2) (w : World) :
    Calls Try.prog 21 #[.agg #[.int .i64 a.p, .int .i64 a.q], .agg #[.int .i64 b.p, .int .i64 b.q]] w fun e w' => ∃ v, e = .returned (.tuple #[v, .int .i64 (chainF a b).2]) ∧ RdCusps w' v (chainF a b).1 ∧ Grow w w' := by
  have X := Lib.hid (fun w => path_any a w)
  have Y := Lib.hid (fun w => path_any b w)
  by_cases h1 : (pathF a).2 = 0
  · by_cases h2 : (pathF b).2 = 0
    · have e : chainF a b = (chainOf (pathF a).1 (pathF b).1, 0) := by unfold chainF; rw [if_pos h1, if_pos h2]
      rw [e]
      rw [h1] at X
      rw [h2] at Y
      obtain ⟨l, hl⟩ := pathF_ok h1
      obtain ⟨m, hm⟩ := pathF_ok h2
      exact chain_core a b _ _ _ _ (Lib.hid rfl) (Lib.hid rfl) (by rw [hl]; simp) (by rw [hm]; simp) (pathF_len a) (pathF_len b) _ (Lib.hid rfl) (com_pos h1 h2) X Y w
    · have e : chainF a b = ([], (pathF b).2) := by unfold chainF; rw [if_pos h1, if_neg h2]
      rw [e]
      rw [h1] at X
      refine (chain_err2 a b _ _ _ h2 X Y w).mono ?_
      rintro e w' ⟨rfl, hg⟩
      exact ⟨_, rfl, .inl ⟨_, _, rfl, rfl⟩, hg⟩
  · have e : chainF a b = ([], (pathF a).2) := by unfold chainF; rw [if_neg h1]
    rw [e]
    refine (chain_err1 a b _ _ h1 X w).mono ?_
    rintro e w' ⟨rfl, hg⟩
    exact ⟨_, rfl, .inl ⟨_, _, rfl, rfl⟩, hg⟩
end Go.Proofs.Ytfjlecphjahahaa
