/- Walk: Chain of the reference. -/
import Derived.Test.YtfjlecphjahahaaCfG
import Derived.Test.YtfjlecphjahahaaCfK
import Derived.Deep.DeepCutAuto
import Derived.Deep.CutBlock
namespace Go.Proofs.Ytfjlecphjahahaa
open Go Go.RowKit

set_option maxHeartbeats 2000000 in
theorem refChain_core (a b : C2) (x y : List C2) (nx ny : Nat) (hx0 : Hid (x.length = nx)) (hy0 : Hid (y.length = ny)) (hx1 : 0 < nx) (hy1 : 0 < ny) (hx2 : nx ≤ 65) (hy2 : ny ≤ 65) (N : Nat) (hN : Hid (comF x y = N)) (hN1 : 1 ≤ N)
    (X : Hid (∀ w, Calls Try.prog 18 #[.agg #[.int .i64 a.p, .int .i64 a.q]] w fun e w' => ∃ v, e = .returned (.tuple #[v, .int .i64 0]) ∧ OwnCusps w' w.heap.size v x ∧ Grow w w'))
    (Y : Hid (∀ w, Calls Try.prog 18 #[.agg #[.int .i64 b.p, .int .i64 b.q]] w fun e w' => ∃ v, e = .returned (.tuple #[v, .int .i64 0]) ∧ OwnCusps w' w.heap.size v y ∧ Grow w w')) (w : World) :
    Calls Try.prog 22 #[.agg #[.int .i64 a.p, .int .i64 a.q], .agg #[.int .i64 b.p, .int .i64 b.q]] w fun e w' => ∃ v, e = .returned (.tuple #[v, .int .i64 0]) ∧ RdCusps w' v ((x.drop (N - 1)).reverse ++ y.drop N) ∧ Grow w w' := by
  obtain ⟨i0, hi, iz0, iz1, iz2⟩ := info_parts infoC
  go_enter Try.func22, Try.ntmps22
  go_wp2_with fail
  go_at_call 18
  refine (X.out _).mono ?_
  rintro e w1 ⟨v1, rfl, ho1, hb1⟩
  obtain ⟨g1, cap1, rfl, hg1, row1, hcap1⟩ := RowAt.of_own ho1 (by rw [hx0.out]; exact hx1)
  rw [hx0.out]
  have hc1 := hb1.cells
  have hf1 := hb1.frees
  have hz1 := hb1.size
  simp at hz1
  have z1 : w.heap.size < w1.heap.size := by omega
  have z2 : w.heap.size + 1 < w1.heap.size := by omega
  have z3 := row1.lt
  have hG1 : Grow w w1 := by (repeat (first | with_reducible exact Grow.refl _ | with_reducible refine Grow.alloc ?_ _ | with_reducible refine Grow.drew ?_ | with_reducible refine Grow.drewN ?_ _ | (with_reducible refine Grow.setCell ?_ ?hp _; (case hp => (simp; try omega))) | with_reducible refine Grow.trans ?_ (by assumption)))
  simp at hg1
  have c0 : w1.cell? ⟨w.heap.size + 1, 0, none⟩ = some (.int .i64 b.p) := by rw [hc1 _ _ (by simp)]; go_simp
  have c1 : w1.cell? ⟨w.heap.size + 1, 1, none⟩ = some (.int .i64 b.q) := by rw [hc1 _ _ (by simp)]; go_simp
  clear hc1 hf1 hb1 ho1
  go_wp2_with fail
  go_at_call 18
  refine (Y.out _).mono ?_
  rintro e w2 ⟨v2, rfl, ho2, hb2⟩
  obtain ⟨g2, cap2, rfl, hg2, row2, hcap2⟩ := RowAt.of_own ho2 (by rw [hy0.out]; exact hy1)
  rw [hy0.out]
  have hz2 := hb2.size
  have z4 : w.heap.size < w2.heap.size := by omega
  have z5 : g1 < w2.heap.size := by omega
  have z6 := row2.lt
  have hG2 : Grow w w2 := hG1.trans hb2
  have Row1 := Lib.hid (row1.grow hb2)
  have Row2 := Lib.hid row2
  have HG := Lib.hid hG2
  have hle1 := row1.le
  have hle2 := row2.le
  rw [hx0.out] at hle1
  rw [hy0.out] at hle2
  clear X Y c0 c1 hb2 ho2 hG1 hG2 row1 row2 z1 z2 z3 hz1 hz2 hg1 hg2
  have hkx : N ≤ nx := by rw [← hN.out, ← hx0.out]; exact (comF_le x y).1
  have hky : N ≤ ny := by rw [← hN.out, ← hy0.out]; exact (comF_le x y).2
  go_upto_block 0 with fail
  go_cut [10] (fun t10 wc => t10 = .int .i64 N ∧ Hid (Grow w2 wc))
  case first =>
    go_wp2_with fail
    go_loopg [10] (nx + 1) (fun f t9 wr => ∃ k : Nat, t9 = .int .i64 k ∧ k + f = nx + 1 ∧ k ≤ ny ∧ Hid (k + comF (x.drop k) (y.drop k) = N) ∧ ∃ d, wr = w2.drewN d)
    case atStart => exact ⟨0, rfl, by omega, by omega, by show 0 + comF (x.drop 0) (y.drop 0) = N; simpa using hN.out, 0, rfl⟩
    case round =>
      obtain ⟨k, rfl, hf, hky1, hk, d, rfl⟩ := hrel
      by_cases hkx1 : k < nx
      · by_cases hky2 : k < ny
        · obtain ⟨d1, d2⟩ := Row1.out.cells k (by rw [hx0.out]; exact hkx1)
          obtain ⟨d3, d4⟩ := Row2.out.cells k (by rw [hy0.out]; exact hky2)
          have hs := comF_step (x := x) (y := y) (k := k) (by rw [hx0.out]; exact hkx1) (by rw [hy0.out]; exact hky2)
          have HS := Lib.hid hs
          clear hs
          obtain ⟨u, hu⟩ : ∃ u, x.getD k C2.zero = u := ⟨_, rfl⟩
          obtain ⟨v, hv⟩ : ∃ v, y.getD k C2.zero = v := ⟨_, rfl⟩
          rw [hu] at d1 d2 HS
          rw [hv] at d3 d4 HS
          clear hu hv
          simp only [Nat.zero_add] at d1 d2 d3 d4
          have f0 : (0 : Int) ≤ k := by omega
          have f1 : (k : Int) < nx := by omega
          have f2 : (k : Int) < ny := by omega
          have f1' : decide ((k : Int) < nx) = true := by simpa using hkx1
          have f2' : decide ((k : Int) < ny) = true := by simpa using hky2
          obtain ⟨g', hgk⟩ : ∃ g', gk = g' + 1 := ⟨gk - 1, by omega⟩
          by_cases he : eqC u v = true
          · have e1 : (u.p == v.p) = true := by rw [eqC_iff.1 he]; simp
            have e2 : (u.q == v.q) = true := by rw [eqC_iff.1 he]; simp
            have HE := Lib.hid he
            clear he
            go_wp2_with fail
            go_quiet (fail)
            go_wp2
            go_roundg g'
            case measure => omega
            case rel =>
              refine ⟨k + 1, by go_num, by omega, by omega, ?_, _, rfl⟩
              have h := hk.out
              rw [HS.out, if_pos HE.out] at h
              show k + 1 + _ = N
              omega
          · have hkN : k = N := by have h := hk.out; rw [HS.out, if_neg he] at h; omega
            have HKN := Lib.hid hkN
            have hby : ∃ B : Bool, (u.p == v.p) = B ∧ (B = true → (u.q == v.q) = false) := by
              refine ⟨_, rfl, fun h => ?_⟩
              simp only [beq_iff_eq] at h
              simp only [beq_eq_false_iff_ne, ne_eq]
              intro h2
              apply he
              simp [eqC, h, h2]
            obtain ⟨B, e1, e2⟩ := hby
            clear he hkN
            cases B with
            | true =>
              have e3 := e2 rfl
              clear e2
              go_wp2_with fail
              go_quiet (fail)
              go_wp2
              go_meet
              case rel => exact ⟨by rw [HKN.out], ((Grow.refl w2).drewN _).drewN _⟩
            | false =>
              clear e2
              go_wp2_with fail
              go_quiet (fail)
              go_wp2
              go_meet
              case rel => exact ⟨by rw [HKN.out], ((Grow.refl w2).drewN _).drewN _⟩
        · have hkN : k = N := by have h := hk.out; rw [comF_end (by have := hx0.out; have := hy0.out; omega)] at h; omega
          have HKN := Lib.hid hkN
          have f1' : decide ((k : Int) < nx) = true := by simpa using hkx1
          have f2' : decide ((k : Int) < ny) = false := by simpa using hky2
          clear hkN
          go_wp2_with fail
          go_quiet (fail)
          go_wp2
          go_meet
          case rel => exact ⟨by rw [HKN.out], ((Grow.refl w2).drewN _).drewN _⟩
      · have hkN : k = N := by have h := hk.out; rw [comF_end (by have := hx0.out; have := hy0.out; omega)] at h; omega
        have HKN := Lib.hid hkN
        have f1' : decide ((k : Int) < nx) = false := by simpa using hkx1
        clear hkN
        go_wp2_with fail
        go_quiet (fail)
        go_wp2
        go_meet
        case rel => exact ⟨by rw [HKN.out], ((Grow.refl w2).drewN _).drewN _⟩
  case rest =>
    obtain ⟨rfl, hgc⟩ := hcut
    have HGC := Lib.hid (HG.out.trans hgc.out)
    have RowC1 := Lib.hid (Row1.out.grow hgc.out)
    have RowC2 := Lib.hid (Row2.out.grow hgc.out)
    have zc1 : g1 < wc.heap.size := Nat.lt_of_lt_of_le z5 hgc.out.size
    have zc2 : g2 < wc.heap.size := Nat.lt_of_lt_of_le z6 hgc.out.size
    clear hgc Row1 Row2 HG z4 z5 z6 hN
    obtain ⟨s, hs⟩ : ∃ s : Nat, (N : Int) - 1 = s := ⟨N - 1, by omega⟩
    have HSS := Lib.hid hs
    have f0 : (0 : Int) ≤ N := by omega
    have f3 : (N : Int) ≤ ny := by omega
    have hsn : s < nx := by omega
    have y2 : IntKind.i64.wrap ((nx : Int) - 1) = (nx : Int) - 1 := IntWalk.i64_in _ (by omega)
    go_wp2_with fail
    go_loopg [11, 12] (nx - s) (fun f t11 t12 wr => ∃ (i : Int) (acc : List C2), t12 = .int .i64 i ∧ f ≤ nx - s ∧ Hid (i + 1 = s + f ∧ acc = (x.drop (s + f)).reverse) ∧ OwnCusps wr wc.heap.size t11 acc ∧ Hid (Grow wc wr))
    case atStart =>
      refine ⟨(nx : Int) - 1, [], by go_num, by omega, ⟨by omega, ?_⟩, World.ownsRow_nil _ _ _ _, Grow.refl _⟩
      rw [List.drop_of_length_le (by have := hx0.out; omega)]; rfl
    case round =>
      obtain ⟨i, acc, rfl, hf, hm, hown, hgr⟩ := hrel
      have HO := Lib.hid hown
      have zr1 : g1 < wr.heap.size := Nat.lt_of_lt_of_le zc1 hgr.out.size
      have zr2 : g2 < wr.heap.size := Nat.lt_of_lt_of_le zc2 hgr.out.size
      have zr3 := hgr.out.size
      clear hown
      by_cases hlt : (s : Int) ≤ i
      · obtain ⟨t, ht⟩ : ∃ t : Nat, i = t := ⟨i.toNat, by omega⟩
        subst ht
        obtain ⟨g', hgk⟩ : ∃ g', gk = g' + 1 := ⟨gk - 1, by have := hm.out.1; omega⟩
        have htn : t < nx := by have := hm.out.1; omega
        obtain ⟨d1, d2⟩ := (RowC1.out.grow hgr.out).cells t (by rw [hx0.out]; exact htn)
        obtain ⟨u, hu⟩ : ∃ u, x.getD t C2.zero = u := ⟨_, rfl⟩
        rw [hu] at d1 d2
        simp only [Nat.zero_add] at d1 d2
        have hacc : acc ++ [u] = (x.drop (s + g')).reverse := by
          have e1 : s + gk = t + 1 := by have := hm.out.1; omega
          have e2 : s + g' = t := by omega
          rw [hm.out.2, e1, e2, List.drop_eq_getElem_cons (show t < x.length by have := hx0.out; omega)]
          have := hx0.out
          simp only [List.reverse_cons]
          rw [← hu]
          simp [show t < x.length by omega]
        have hlen : acc.length ≤ 65 := by
          rw [hm.out.2]; simp; have := hx0.out; omega
        have HA := Lib.hid hacc
        have f1 : (0 : Int) ≤ t := by omega
        have f2 : (t : Int) < nx := by omega
        have y3 : IntKind.i64.wrap ((t : Int) - 1) = (t : Int) - 1 := IntWalk.i64_in _ (by omega)
        have y4 : IntKind.i64.wrap (s : Int) = s := IntWalk.i64_in _ (by omega)
        clear hu hacc
        go_wp2_with (at_builtin; refine wpList_append_own _ rfl _ _ 24 rfl (wc.heap.size) 29 i0 (.agg #[.int .i64 0, .int .i64 0]) 2 16 Try.underlying24 hi iz0 iz1 iz2 rfl (by decide) _ _ _ rfl (HO.out.alloc _) ⟨wr.heap.size, 0, none⟩ 1 1 [.int .i64 (u.p), .int .i64 (u.q)] rfl rfl (two_cells _ _ _ _ _ ?c1) (two_oneCell _ _) ?c3 ?c4 ?c5 ?_)
        case c1 => simp
        case c3 => unfold maxLen; omega
        case c4 => omega
        case c5 => (try simp); omega
        intro v7 w7 hown7 hgrow7 _
        have hG7 : Grow wc w7 := own_grow ((hgr.out).alloc _) (HO.out.alloc _) hgrow7 (by omega)
        go_wp2
        go_roundg g'
        case measure => omega
        case rel =>
          refine ⟨(t : Int) - 1, acc ++ [u], rfl, by omega, ⟨by have := hm.out.1; omega, HA.out⟩, ?_, hG7⟩
          unfold OwnCusps
          rw [cellsC_snoc]
          simpa using hown7
      · have hlt2 : ¬ (s : Int) ≤ i := hlt
        have y4 : IntKind.i64.wrap (s : Int) = s := IntWalk.i64_in _ (by omega)
        have hacc : acc = (x.drop s).reverse := by
          have h := hm.out.1
          have e : gk = 0 := by omega
          have h2 := hm.out.2
          rw [e, Nat.add_zero] at h2
          exact h2
        have hlen : acc.length ≤ 65 := by rw [hacc]; simp; have := hx0.out; omega
        have HA := Lib.hid hacc
        clear hacc
        by_cases hc2 : cap2 = N
        · have e8 : ny - N = 0 := by omega
          have e9 : cap2 - N = 0 := by omega
          go_wp2_with (at_builtin; refine wpList_append_ownrd _ rfl _ _ 24 rfl i0 (.agg #[.int .i64 0, .int .i64 0]) Try.underlying24 hi iz0 iz1 iz2 rfl wc.heap.size _ _ _ rfl HO.out _ (y.drop N) rfl ?rd ?len (by omega) ?_)
          case rd => exact .inl ⟨_, _, rfl, List.drop_of_length_le (by have := hy0.out; omega)⟩
          case len => have := hy0.out; omega
          intro v4 w4 ho4 hg4
          have hG4 : Grow wc w4 := own_grow hgr.out HO.out hg4 (Nat.le_refl _)
          have HG4 := Lib.hid (HGC.out.trans hG4)
          have HR4 : Hid (RdCusps w4 v4 (acc ++ y.drop N)) := OwnCusps.rd (base := wc.heap.size) (by unfold OwnCusps; rw [cellsC_append, List.length_append, List.length_drop]; exact ho4)
          clear hG4 ho4 hg4
          go_wp2
          refine bodyPost_ret (v := .tuple #[v4, .int .i64 0]) (by simp only [results, Try.results22]; go_simp) rfl ⟨_, rfl, ?_, HG4.out⟩
          rw [show N - 1 = s by omega, ← HA.out]
          exact HR4.out
        · skip
          go_wp2_with (at_builtin; refine wpList_append_ownrd _ rfl _ _ 24 rfl i0 (.agg #[.int .i64 0, .int .i64 0]) Try.underlying24 hi iz0 iz1 iz2 rfl wc.heap.size _ _ _ rfl HO.out _ (y.drop N) rfl ?rd ?len (by omega) ?_)
          case rd => (have hrw := RowC2.out.grow hgr.out; have h := rd_tail hrw.lt hrw.le N (by have := hy0.out; omega) hrw.cells; rw [hy0.out, Nat.zero_add] at h; exact h)
          case len => have := hy0.out; omega
          intro v4 w4 ho4 hg4
          have hG4 : Grow wc w4 := own_grow hgr.out HO.out hg4 (Nat.le_refl _)
          have HG4 := Lib.hid (HGC.out.trans hG4)
          have HR4 : Hid (RdCusps w4 v4 (acc ++ y.drop N)) := OwnCusps.rd (base := wc.heap.size) (by unfold OwnCusps; rw [cellsC_append, List.length_append, List.length_drop]; exact ho4)
          clear hG4 ho4 hg4
          go_wp2
          refine bodyPost_ret (v := .tuple #[v4, .int .i64 0]) (by simp only [results, Try.results22]; go_simp) rfl ⟨_, rfl, ?_, HG4.out⟩
          rw [show N - 1 = s by omega, ← HA.out]
          exact HR4.out

theorem refChain_err1 (a b : C2) (x y : List C2) (er e2 : Int) (h0 : er ≠ 0) (X : Hid (∀ w, Calls Try.prog 18 #[.agg #[.int .i64 a.p, .int .i64 a.q]] w fun e w' => ∃ v, e = .returned (.tuple #[v, .int .i64 er]) ∧ OwnCusps w' w.heap.size v x ∧ Grow w w'))
    (Y : Hid (∀ w, Calls Try.prog 18 #[.agg #[.int .i64 b.p, .int .i64 b.q]] w fun e w' => ∃ v, e = .returned (.tuple #[v, .int .i64 e2]) ∧ OwnCusps w' w.heap.size v y ∧ Grow w w')) (w : World) :
    Calls Try.prog 22 #[.agg #[.int .i64 a.p, .int .i64 a.q], .agg #[.int .i64 b.p, .int .i64 b.q]] w fun e w' => e = .returned (.tuple #[.slice none 0 0, .int .i64 er]) ∧ Grow w w' := by
  have k1 : (er == 0) = false := by simpa using h0
  have k2 : (er != 0) = true := by simpa using h0
  clear h0
  go_enter Try.func22, Try.ntmps22
  go_wp2_with fail
  go_at_call 18
  refine (X.out _).mono ?_
  rintro e w1 ⟨v1, rfl, ho1, hb1⟩
  have hc1 := hb1.cells
  have hf1 := hb1.frees
  have hz1 := hb1.size
  simp at hz1
  have z2 : w.heap.size + 1 < w1.heap.size := by omega
  have c0 : w1.cell? ⟨w.heap.size + 1, 0, none⟩ = some (.int .i64 b.p) := by rw [hc1 _ _ (by simp)]; go_simp
  have c1 : w1.cell? ⟨w.heap.size + 1, 1, none⟩ = some (.int .i64 b.q) := by rw [hc1 _ _ (by simp)]; go_simp
  have hG1 : Grow w w1 := by (repeat (first | with_reducible exact Grow.refl _ | with_reducible refine Grow.alloc ?_ _ | with_reducible refine Grow.drew ?_ | with_reducible refine Grow.drewN ?_ _ | (with_reducible refine Grow.setCell ?_ ?hp _; (case hp => (simp; try omega))) | with_reducible refine Grow.trans ?_ (by assumption)))
  clear ho1 hb1 hc1 hf1 hz1
  go_wp2_with fail
  go_at_call 18
  refine (Y.out _).mono ?_
  rintro e w2 ⟨v2, rfl, ho2, hb2⟩
  clear ho2
  go_wp2_with fail
  have hG2 := hG1.trans hb2
  refine bodyPost_ret (v := .tuple #[.slice none 0 0, .int .i64 er]) (by simp only [results, Try.results22]; go_simp) rfl ⟨rfl, hG2⟩


theorem refChain_err2 (a b : C2) (x y : List C2) (er : Int) (h0 : er ≠ 0) (X : Hid (∀ w, Calls Try.prog 18 #[.agg #[.int .i64 a.p, .int .i64 a.q]] w fun e w' => ∃ v, e = .returned (.tuple #[v, .int .i64 0]) ∧ OwnCusps w' w.heap.size v x ∧ Grow w w'))
    (Y : Hid (∀ w, Calls Try.prog 18 #[.agg #[.int .i64 b.p, .int .i64 b.q]] w fun e w' => ∃ v, e = .returned (.tuple #[v, .int .i64 er]) ∧ OwnCusps w' w.heap.size v y ∧ Grow w w')) (w : World) :
    Calls Try.prog 22 #[.agg #[.int .i64 a.p, .int .i64 a.q], .agg #[.int .i64 b.p, .int .i64 b.q]] w fun e w' => e = .returned (.tuple #[.slice none 0 0, .int .i64 er]) ∧ Grow w w' := by
  have k1 : (er == 0) = false := by simpa using h0
  have k2 : (er != 0) = true := by simpa using h0
  clear h0
  go_enter Try.func22, Try.ntmps22
  go_wp2_with fail
  go_at_call 18
  refine (X.out _).mono ?_
  rintro e w1 ⟨v1, rfl, ho1, hb1⟩
  have hc1 := hb1.cells
  have hf1 := hb1.frees
  have hz1 := hb1.size
  simp at hz1
  have z2 : w.heap.size + 1 < w1.heap.size := by omega
  have c0 : w1.cell? ⟨w.heap.size + 1, 0, none⟩ = some (.int .i64 b.p) := by rw [hc1 _ _ (by simp)]; go_simp
  have c1 : w1.cell? ⟨w.heap.size + 1, 1, none⟩ = some (.int .i64 b.q) := by rw [hc1 _ _ (by simp)]; go_simp
  have hG1 : Grow w w1 := by (repeat (first | with_reducible exact Grow.refl _ | with_reducible refine Grow.alloc ?_ _ | with_reducible refine Grow.drew ?_ | with_reducible refine Grow.drewN ?_ _ | (with_reducible refine Grow.setCell ?_ ?hp _; (case hp => (simp; try omega))) | with_reducible refine Grow.trans ?_ (by assumption)))
  clear ho1 hb1 hc1 hf1 hz1
  go_wp2_with fail
  go_at_call 18
  refine (Y.out _).mono ?_
  rintro e w2 ⟨v2, rfl, ho2, hb2⟩
  clear ho2
  go_wp2_with fail
  have hG2 := hG1.trans hb2
  refine bodyPost_ret (v := .tuple #[.slice none 0 0, .int .i64 er]) (by simp only [results, Try.results22]; go_simp) rfl ⟨rfl, hG2⟩


theorem refChain_any (a b : C2) (w : World) :
    Calls Try.prog 22 #[.agg #[.int .i64 a.p, .int .i64 a.q], .agg #[.int .i64 b.p, .int .i64 b.q]] w fun e w' => ∃ v, e = .returned (.tuple #[v, .int .i64 (chainF a b).2]) ∧ RdCusps w' v (chainF a b).1 ∧ Grow w w' := by
  have X := Lib.hid (fun w => refPath_any a w)
  have Y := Lib.hid (fun w => refPath_any b w)
  by_cases h1 : (pathF a).2 = 0
  · by_cases h2 : (pathF b).2 = 0
    · have e : chainF a b = (chainOf (pathF a).1 (pathF b).1, 0) := by unfold chainF; rw [if_pos h1, if_pos h2]
      rw [e]
      rw [h1] at X
      rw [h2] at Y
      obtain ⟨l, hl⟩ := pathF_ok h1
      obtain ⟨m, hm⟩ := pathF_ok h2
      exact refChain_core a b _ _ _ _ (Lib.hid rfl) (Lib.hid rfl) (by rw [hl]; simp) (by rw [hm]; simp) (pathF_len a) (pathF_len b) _ (Lib.hid rfl) (com_pos h1 h2) X Y w
    · have e : chainF a b = ([], (pathF b).2) := by unfold chainF; rw [if_pos h1, if_neg h2]
      rw [e]
      rw [h1] at X
      refine (refChain_err2 a b _ _ _ h2 X Y w).mono ?_
      rintro e w' ⟨rfl, hg⟩
      exact ⟨_, rfl, .inl ⟨_, _, rfl, rfl⟩, hg⟩
  · have e : chainF a b = ([], (pathF a).2) := by unfold chainF; rw [if_neg h1]
    rw [e]
    refine (refChain_err1 a b _ _ _ _ h1 X Y w).mono ?_
    rintro e w' ⟨rfl, hg⟩
    exact ⟨_, rfl, .inl ⟨_, _, rfl, rfl⟩, hg⟩
end Go.Proofs.Ytfjlecphjahahaa
