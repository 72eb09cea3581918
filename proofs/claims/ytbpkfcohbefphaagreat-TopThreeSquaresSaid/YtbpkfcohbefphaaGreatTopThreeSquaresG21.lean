/- Lemmas, plain laws and walks that the statement LwThreeSquares leans on (texts TwD, TwE, ThF), conditions as each theorem says. -/
import Derived.Test.YtbpkfcohbefphaaGreatTopThreeSquaresG11
import Derived.Test.YtbpkfcohbefphaaGreatTopThreeSquaresG15
import Derived.Test.YtbpkfcohbefphaaGreatTopThreeSquaresG19
import Derived.Test.YtbpkfcohbefphaaGreatTopThreeSquaresG20

/- Walk of theta: box. -/
namespace Go.Proofs.YtbpkfcohbefphaaGreat
open Go Go.RowKit

/-- The number of entries of the diagonal before entry k of a square. -/
def dgN (n k : Nat) : Nat := k / n + if k / n < k % n then 1 else 0
theorem dgN_zero (n : Nat) : dgN n 0 = 0 := by unfold dgN; simp
theorem dgN_end {n : Nat} (hn : 0 < n) : dgN n (n * n) = n := by
  unfold dgN
  rw [Nat.mul_mod_right, Nat.mul_div_cancel_left n hn, if_neg (by omega)]
  omega
theorem dgN_eq {n k : Nat} (h : k / n = k % n) : dgN n k = k / n := by unfold dgN; rw [if_neg (by omega)]; omega
theorem dgN_yes {n k : Nat} (hn : 0 < n) (h : k / n = k % n) : dgN n (k + 1) = k / n + 1 := by
  have hlt := Nat.mod_lt k hn
  unfold dgN
  by_cases h1 : k % n + 1 < n
  · obtain ⟨e1, e2⟩ := div_succ_lt hn h1
    rw [e1, e2, if_pos (by omega)]
  · obtain ⟨e1, e2⟩ := div_succ_eq hn (show k % n + 1 = n by omega)
    rw [e1, e2, if_neg (by omega)]
theorem dgN_no {n k : Nat} (hk : k < n * n) (h : k / n ≠ k % n) : dgN n (k + 1) = dgN n k := by
  have hn : 0 < n := by
    rcases Nat.eq_zero_or_pos n with h0 | h0
    · subst h0; simp at hk
    · exact h0
  have hlt := Nat.mod_lt k hn
  have hlt2 : k / n < n := Nat.div_lt_of_lt_mul hk
  unfold dgN
  by_cases h1 : k % n + 1 < n
  · obtain ⟨e1, e2⟩ := div_succ_lt hn h1
    rw [e1, e2]
    by_cases h2 : k / n < k % n
    · rw [if_pos h2, if_pos (by omega)]
    · rw [if_neg h2, if_neg (by omega)]
  · obtain ⟨e1, e2⟩ := div_succ_eq hn (show k % n + 1 = n by omega)
    have a1 : ¬ (k / n + 1 < 0) := Nat.not_lt_zero _
    have a2 : k / n < k % n := by omega
    rw [e1, e2, if_neg a1, if_pos a2]
/-- Reading an own row of ints. -/
theorem OwnI.read {w : World} {base : Nat} {a : Option Addr} {n c : Nat} {xs : List Value} (h : OwnI w base (.slice a n c) n xs) (hn : 0 < n) : ∃ g, a = some ⟨g, 0, none⟩ ∧ base ≤ g ∧ g < w.heap.size ∧ ∀ (i : Nat) (x : Value), xs[i]? = some x → w.cell? ⟨g, i, none⟩ = some x := by
  obtain ⟨hl, h⟩ := h
  rcases h with ⟨-, h0⟩ | ⟨g, cap, cur, hv, hb, hg, h1, h2, h3, h4, h5⟩
  · omega
  · injection hv with e1 e2 e3
    refine ⟨g, e1, hb, (Array.getElem?_eq_some_iff.1 hg).1, fun i x hx => ?_⟩
    rw [cell_of_row w g i cur 3 (0, 0) hg]
    have hi : i < n := by
      have := (List.getElem?_eq_some_iff.1 hx).1
      omega
    rw [← h4, List.getElem?_take, if_pos hi] at hx
    rw [← hx]; simp
theorem ak2b {w0 u : World} {Z b : Nat} {v0 v1 : Value} (hb : But (fun x => Z ≤ x) w0 u) (hz : b < Z) (hlt : b < w0.heap.size) (h : w0.cell? ⟨b, 0, none⟩ = some v0 ∧ w0.cell? ⟨b, 1, none⟩ = some v1) : u.cell? ⟨b, 0, none⟩ = some v0 ∧ u.cell? ⟨b, 1, none⟩ = some v1 :=
  ⟨(hb.cells _ _ hlt (by omega)).trans h.1, (hb.cells _ _ hlt (by omega)).trans h.2⟩
set_option maxRecDepth 20000 in
set_option maxHeartbeats 8000000 in
theorem boxT (n N B off c m : Nat) (tm : Int) (f : Nat → Int) (M : Nat → Nat → Rat) (v : Nat → Rat) (q b : Nat → Nat) (hN : N = n * n) (hn0 : 0 < n) (hn : n ≤ 8) (hf : ∀ i, i < N → -1000 ≤ f i ∧ f i ≤ 1000)
    (hM : ∀ i j, M i j = (f (i * n + j) : Rat)) (hB : ∀ c, c < n → RedB n (n + n) c (redD n c (besU n M)) (redM n c (besU n M)))
    (hm : m ≤ 1000) (htm : tm = 2 * (m : Int)) (hv : ∀ i, i < n → redM n n (besU n M) i (n + i) = v i) (hmul : ∀ i, i < n → MulB (tm : Rat) (v i))
    (hq : ∀ i, i < n → ((tm : Rat) * v i).num / (((tm : Rat) * v i).den : Int) = (q i : Int) ∧ q i ≤ 1000000000) (hb : ∀ i, i < n → sqN (q i) = b i) (hbx : ∀ i, i ≤ n → boxN b i ≤ 1048576)
    (w : World) (hA : IntQ w B off N f) :
    Calls Tryz.prog 63 #[.agg #[.int .i64 (n : Int), .slice (some ⟨B, off, none⟩) N c], .int .i64 (m : Int)] w fun e w' =>
      ∃ B' c', e = .returned (.tuple #[.slice (some ⟨B', 0, none⟩) n c', .bool true]) ∧ IntQ w' B' 0 n (fun i => (b i : Int)) ∧ Grow w w' := by
  have INV := Lib.hid (fun (u : World) (hu : Grow w u) => inverseT n N B off c f M hN hn0 hn hf hM hB u (hA.grow hu))
  have hNb : N ≤ 64 := by rw [hN]; exact Nat.mul_le_mul hn hn
  have hNp : 0 < N := by rw [hN]; exact Nat.mul_pos hn0 hn0
  have HN := Lib.hid hN
  have HV := Lib.hid hv
  have HMU := Lib.hid hmul
  have HQ := Lib.hid hq
  have HBB := Lib.hid hb
  have HBX := Lib.hid hbx
  have HTM := Lib.hid htm
  clear hA hN hM hB hf hv hmul hq hb hbx
  have Y0 : Hid (IntKind.i64.wrap (2 * (m : Int)) = tm ∧ wrap64 (2 * (m : Int)) = tm) := Lib.hid (by rw [← htm]; exact w64n (by omega))
  have OF := Lib.hid (fun (u : World) => ofQ tm (by omega) u)
  clear htm
  obtain ⟨ii, hii, iiz0, iiz1, iiz2⟩ := info_parts infoInt
  have HII := Lib.hid hii
  have HI0 := Lib.hid iiz0
  have HI1 := Lib.hid iiz1
  have HI2 := Lib.hid iiz2
  clear hii iiz0 iiz1 iiz2
  obtain ⟨W1, hW1⟩ : ∃ W1 : World, W1 = w.alloc (.cells #[.int .i64 (n : Int), .slice (some ⟨B, off, none⟩) N c] 31) := ⟨_, rfl⟩
  have hg1 := ag hW1
  have K1 := Lib.hid (ak2 hW1)
  have HW1 := Lib.hid hW1
  clear hW1
  go_enter Tryz.func63, Tryz.ntmps63
  go_upto_region 1 with fail
  rw [← HW1.out]
  obtain ⟨b0, b1, b2, b3⟩ := K1.out W1 (Grow.refl _)
  go_wp2_with (go_at_call 97; (with_reducible refine (INV.out _ (by (repeat (first | with_reducible exact Grow.refl _ | with_reducible refine Grow.alloc ?_ _ | with_reducible refine Grow.drew ?_ | with_reducible refine Grow.drewN ?_ _ | (with_reducible refine Grow.setCell ?_ ?hp _; (case hp => (simp; try omega))) | with_reducible refine Grow.trans ?_ (by assumption))))).mono ?_); (rintro e u2 ⟨B2, L2, c2, rfl, hL2, hr2, hb2⟩; have e2 := (hL2.trans HN.out.symm).symm; subst e2; have HR2 := Lib.hid hr2; clear hL2 hr2))
  obtain ⟨Z, hZ⟩ : ∃ Z, u2.heap.size = Z := ⟨_, rfl⟩
  have GC := Lib.hid (fun (u : World) (hu : But (fun x => Z ≤ x) u2 u) => ak2b hu (show w.heap.size < Z by have := hb2.size; omega) (show w.heap.size < u2.heap.size by have := hb2.size; omega) ⟨(K1.out u2 hb2).1, (K1.out u2 hb2).2.1⟩)
  have RC := Lib.hid (fun (u : World) (hu : But (fun x => Z ≤ x) u2 u) => RowP.but HR2.out (show ¬ Z ≤ B2 by have := HR2.out.lt; omega) hu)
  have HG2 := Lib.hid (hg1.trans hb2)
  have HWZ : Hid (w.heap.size < u2.heap.size) := Lib.hid (by have h1 := (K1.out W1 (Grow.refl _)).2.2.2; have h2 := hb2.size; omega)
  have HZ := Lib.hid hZ
  clear b0 b1 b2 b3 hb2 hZ K1 INV hg1
  go_loopg [6, 7, 18] N (fun gk t6 t7 t18 wr => ∃ (k d s cv : Nat) (av : Option Addr) (xs : List Value), t18 = .int .i64 (k : Int) ∧ t6 = .int .i64 (s : Int) ∧ t7 = .slice av d cv ∧ k ≤ N ∧ Hid (gk = N - k) ∧ Hid (d = dgN n k) ∧ Hid (s = boxN b d) ∧ Hid (OwnI wr Z (.slice av d cv) d xs) ∧ Hid (∀ i, i < d → xs[i]? = some (.int .i64 (b i : Int))) ∧ Hid (But (fun x => Z ≤ x) u2 wr))
  case atStart => exact ⟨0, 0, 1, 0, none, [], rfl, rfl, rfl, Nat.zero_le _, Lib.hid rfl, Lib.hid (dgN_zero n).symm, Lib.hid rfl, Lib.hid (OwnI.nil _ _), Lib.hid (fun i hi => absurd hi (Nat.not_lt_zero i)), Lib.hid (But.refl _ _)⟩
  case round =>
    obtain ⟨k, d, s, cv, av, xs, rfl, rfl, rfl, hk2, HGK, HD, HS, HO, HX, HB2⟩ := hrel
    by_cases hkn : k = N
    · have y1 : decide ((k : Int) < (N : Int)) = false := by simp; omega
      have y2 : ¬ (k < N) := by omega
      have hdn : d = n := by rw [HD.out, hkn, HN.out, dgN_end hn0]
      subst hdn
      obtain ⟨g, rfl, hgz, hgl, hgc⟩ := HO.out.read hn0
      have HGZ := Lib.hid hgz
      have HGL := Lib.hid hgl
      have HGC := Lib.hid hgc
      clear hgz hgl hgc hkn
      go_wp2_with fail
      refine bodyPost_ret (v := .tuple #[.slice (some ⟨g, 0, none⟩) d cv, .bool true]) (by rw [results_pair rfl]; go_simp) rfl ?_
      exact ⟨g, ⟨cv, rfl⟩, ⟨HGL.out, fun i hi => by rw [Nat.zero_add]; exact HGC.out i _ (HX.out i hi)⟩, ((HG2.out.but _).trans HB2.out).asGrow (fun x hx => by have := HG2.out.size; have := HZ.out; omega)⟩
    · have hk : k < N := by omega
      have x0 : (0 : Int) ≤ (k : Int) := by omega
      have x1 : (k : Int) < (N : Int) := by omega
      obtain ⟨s2, a2, l2, c2', t2, b2', k2, e2, ⟨p0, p1, p2, p3⟩, hvb⟩ := RowQ.at4 (RC.out wr HB2.out) hk
      rw [Nat.zero_add] at p0 p1 p2 p3
      obtain ⟨g0, g1⟩ := GC.out wr HB2.out
      have HVB := Lib.hid hvb
      have hzr : w.heap.size < wr.heap.size := by have := HWZ.out; have := HB2.out.size; omega
      clear hvb hkn
      go_upto_region 6 with fail
      obtain ⟨w5, hw5⟩ : ∃ w5 : World, w5 = wr.alloc (.cells #[.bool s2, .slice a2 l2 c2', .bool t2, .slice b2' k2 e2] 36) := ⟨_, rfl⟩
      have hg5 := ag hw5
      have K5 := Lib.hid (ak4 hw5)
      have K6 : Hid (∀ u : World, Grow w5 u → u.cell? ⟨w.heap.size, 0, none⟩ = some (.int .i64 (n : Int))) := Lib.hid (fun u hu => ((hg5.trans hu).cells _ _ hzr).trans g0)
      rw [← hw5]
      obtain ⟨di, hdi⟩ : ∃ di, k / n = di := ⟨_, rfl⟩
      obtain ⟨dj, hdj⟩ : ∃ dj, k % n = dj := ⟨_, rfl⟩
      have hdn : di < n := by rw [← hdi]; exact Nat.div_lt_of_lt_mul (by rw [← HN.out]; exact hk)
      have e1 : Int.tdiv (k : Int) (n : Int) = (di : Int) := by rw [← hdi, Int.natCast_ediv]; exact Int.tdiv_eq_ediv_of_nonneg x0
      have e2 : Int.tmod (k : Int) (n : Int) = (dj : Int) := by rw [← hdj, Int.natCast_emod]; exact Int.tmod_eq_emod_of_nonneg x0
      have E1 := Lib.hid e1
      have E2 := Lib.hid e2
      have E3 := Lib.hid (w64n (n := (di : Int)) (by omega))
      have E4 := Lib.hid (w64n (n := (dj : Int)) (by have := Nat.mod_lt k hn0; omega))
      have HDI := Lib.hid hdi
      have HDJ := Lib.hid hdj
      have hnz : ¬ (n = 0) := by omega
      have hnz' : ¬ ((n : Int) = 0) := by omega
      clear hw5 p0 p1 p2 p3 g0 g1 e1 e2 hdi hdj
      have HDN := Lib.hid hdn
      have Y4 := Lib.hid (inc_wrap hk (by omega))
      have HK := Lib.hid hk
      have d1 := E1.out
      have d2 := E2.out
      obtain ⟨e3a, e3b⟩ := E3.out
      obtain ⟨e4a, e4b⟩ := E4.out
      have f0 := K6.out w5 (Grow.refl _)
      refine region_held (id := 6) (fun u => Grow w5 u) [0, 1, 2, 3, 4, 5, 6, 7, 8] (kdL [0, 0, 1, 0, 0, 0, 1, 0, 0]) (by kernel_rfl) (by kernel_rfl) (fun t ht => kdL_lt _ t ht) ?hS0p ?_
      case hS0p => ((try dsimp only); (repeat (first | with_reducible exact Grow.refl _ | with_reducible refine Grow.alloc ?_ _ | with_reducible refine Grow.drew ?_ | with_reducible refine Grow.drewN ?_ _ | (with_reducible refine Grow.setCell ?_ ?hp _; (case hp => (simp; try omega))) | with_reducible refine Grow.trans ?_ (by assumption))))
      refine held_quiet (v := ?vp0) rfl rfl (Or.inl ⟨by rfl, ?hyp0⟩) ?_
      case hyp0 => (intro u hu; go_simp; (try with_reducible rfl))
      (try simp only [Act.put, List.setIfInBounds_toArray])
      refine held_quiet (v := ?vp1) rfl rfl (Or.inl ⟨by rfl, ?hyp1⟩) ?_
      case hyp1 => (intro u hu; go_simp; (try with_reducible rfl))
      (try simp only [Act.put])
      refine held_read (v := ?vp2) rfl rfl (Or.inl ⟨by rfl, ?hyp2⟩) ?_
      case hyp2 => (intro u hu; have f0 := K6.out u hu; go_simp; (try with_reducible rfl))
      (try simp only [Act.put])
      refine held_quiet (v := ?vp3) rfl rfl (Or.inl ⟨by rfl, ?hyp3⟩) ?_
      case hyp3 => (intro u hu; go_simp; (try with_reducible rfl))
      (try simp only [Act.put])
      refine held_quiet (v := ?vp4) rfl rfl (Or.inl ⟨by rfl, ?hyp4⟩) ?_
      case hyp4 => (intro u hu; go_simp; (try with_reducible rfl))
      (try simp only [Act.put])
      refine held_quiet (v := ?vp5) rfl rfl (Or.inl ⟨by rfl, ?hyp5⟩) ?_
      case hyp5 => (intro u hu; go_simp; (try with_reducible rfl))
      (try simp only [Act.put])
      refine held_read (v := ?vp6) rfl rfl (Or.inl ⟨by rfl, ?hyp6⟩) ?_
      case hyp6 => (intro u hu; have f0 := K6.out u hu; go_simp; (try with_reducible rfl))
      (try simp only [Act.put])
      refine held_quiet (v := ?vp7) rfl rfl (Or.inl ⟨by rfl, ?hyp7⟩) ?_
      case hyp7 => (intro u hu; go_simp; (try with_reducible rfl))
      (try simp only [Act.put])
      refine held_quiet (v := ?vp8) rfl rfl (Or.inl ⟨by rfl, ?hyp8⟩) ?_
      case hyp8 => (intro u hu; go_simp; (try with_reducible rfl))
      (try simp only [Act.put])
      refine held_done ?_
      clear d1 d2 e3a e3b e4a e4b f0
      have HG5 := Lib.hid (hg5.trans (show Grow w5 w5.drew by (repeat (first | with_reducible exact Grow.refl _ | with_reducible refine Grow.alloc ?_ _ | with_reducible refine Grow.drew ?_ | with_reducible refine Grow.drewN ?_ _ | (with_reducible refine Grow.setCell ?_ ?hp _; (case hp => (simp; try omega))) | with_reducible refine Grow.trans ?_ (by assumption)))))
      have K7 := Lib.hid (fun u (hu : Grow w5.drew u) => K5.out u ((show Grow w5 w5.drew by (repeat (first | with_reducible exact Grow.refl _ | with_reducible refine Grow.alloc ?_ _ | with_reducible refine Grow.drew ?_ | with_reducible refine Grow.drewN ?_ _ | (with_reducible refine Grow.setCell ?_ ?hp _; (case hp => (simp; try omega))) | with_reducible refine Grow.trans ?_ (by assumption)))).trans hu))
      generalize w5.drew = w7 at *
      by_cases hdd : di = dj
      · subst hdd
        have hd : d = di := by rw [HD.out, dgN_eq (by rw [HDI.out, HDJ.out]), HDI.out]
        subst hd
        have z1 : ((d : Int) != (d : Int)) = false := by simp
        go_simp
        go_upto_region 7 with fail
        clear z1
        have hvd : redM n n (besU n M) (k / n) (n + k % n) = v d := by rw [HDI.out, HDJ.out]; exact HV.out d HDN.out
        have hvb := HVB.out
        rw [hvd] at hvb
        have MU := Lib.hid (fun (u : World) (vv : Value) (hv : RatR u vv (tm : Rat)) (hu : Grow w7 u) => mulQ (tm : Rat) (v d) vv _ (HMU.out d HDN.out).1 (HMU.out d HDN.out).2 u hv (hvb.grow (HG5.out.trans hu)))
        have FL := Lib.hid (fun (u : World) (vv : Value) (hv : RatR u vv ((tm : Rat) * v d)) => floorQ _ vv u hv)
        have hq1 := HQ.out d HDN.out
        rw [hq1.1] at FL
        have SQ := Lib.hid (fun (u : World) (vv : Value) (hv : IntR u vv ((q d : Nat) : Int)) => sqrtV (q d) hq1.2 vv u hv)
        rw [HBB.out d HDN.out] at SQ
        have hbx1 := HBX.out (d + 1) HDN.out
        have hs := HS.out
        rw [show boxN b (d + 1) = boxN b d * (2 * b d + 1) from rfl, ← hs] at hbx1
        obtain ⟨bd, hbd⟩ : ∃ x, b d = x := ⟨_, rfl⟩
        rw [hbd] at SQ hbx1
        have HBD := Lib.hid hbd
        have hs0 : 0 < s := by rw [hs]; exact boxN_pos b d
        have hbb : 2 * bd + 1 ≤ 1048576 := Nat.le_trans (Nat.le_mul_of_pos_left _ hs0) hbx1
        have SM := Lib.hid (fun (u : World) (vv : Value) (hv : IntR u vv ((bd : Nat) : Int)) => smallV (bd : Int) vv u hv)
        clear hvb hvd hq1 hs hbd
        obtain ⟨f0, f1, f2, f3, f4, f5⟩ := K7.out w7 (Grow.refl _)
        obtain ⟨y0a, y0b⟩ := Y0.out
        refine region_flex (id := 7) w7 [⟨11, 10, .cells #[.bool false, .slice none 0 0] 34⟩] [0, 1, 3, 2, 4, 5, 6, 7, 8, 9, 10] [12, 13, 14] (kdL [0, 0, 2, 1, 2, 2, 2, 0, 0, 0, 0, 2, 3, 0, 0]) (by kernel_rfl) (by kernel_rfl) (fun t ht => kdL_lt _ t ht) (by simp) (by simp) ?hgq ?halq ?_
        case hgq => (repeat (first | with_reducible exact Grow.refl _ | with_reducible refine Grow.alloc ?_ _ | with_reducible refine Grow.drew ?_ | with_reducible refine Grow.drewN ?_ _ | (with_reducible refine Grow.setCell ?_ ?hp _; (case hp => (simp; try omega))) | with_reducible refine Grow.trans ?_ (by assumption)))
        case halq => (intro x hx; simp only [List.mem_cons, List.not_mem_nil, or_false] at hx; subst hx; all_goals (refine ⟨⟨_, rfl, rfl⟩, fun K a u hK => ?_⟩; refine wpOp_step rfl (fun K' hK' => ?_); go_simp; exact hK' _ _ hK))
        refine flex_quiet (v := ?vq0) rfl rfl (fun t => Or.inl ⟨by rfl, ?hyq0⟩) ?_
        case hyq0 => (intro u hu; simp only [aof, List.foldl_cons, List.foldl_nil, Act.put, List.setIfInBounds_toArray, List.set_cons_zero, List.set_cons_succ]; go_simp; (try with_reducible rfl))
        (try simp only [Act.put, List.setIfInBounds_toArray, List.set_cons_zero, List.set_cons_succ])
        refine flex_quiet (v := ?vq1) rfl rfl (fun t => Or.inl ⟨by rfl, ?hyq1⟩) ?_
        case hyq1 => (intro u hu; simp only [aof, List.foldl_cons, List.foldl_nil, Act.put, List.setIfInBounds_toArray, List.set_cons_zero, List.set_cons_succ]; go_simp; (try with_reducible rfl))
        (try simp only [Act.put, List.setIfInBounds_toArray, List.set_cons_zero, List.set_cons_succ])
        refine flex_read (v := ?vq3) rfl rfl (fun t => Or.inl ⟨by rfl, ?hyq3⟩) ?_
        case hyq3 => (intro u hu; obtain ⟨f0, f1, f2, f3, f4, f5⟩ := K7.out u hu; simp only [aof, List.foldl_cons, List.foldl_nil, Act.put, List.setIfInBounds_toArray, List.set_cons_zero, List.set_cons_succ]; go_simp; (try with_reducible rfl))
        (try simp only [Act.put, List.setIfInBounds_toArray, List.set_cons_zero, List.set_cons_succ])
        refine flex_op rfl rfl (fun t2 u2 hu2 K hK => ?_)
        simp only [aof, List.foldl_cons, List.foldl_nil, Act.put, List.setIfInBounds_toArray, List.set_cons_zero, List.set_cons_succ]
        go_simp
        (go_at_call 18; (with_reducible refine (OF.out _).mono ?_); (rintro e u10 ⟨v10, rfl, hv10, hb10⟩; obtain ⟨s10, a10, l10, c10, t10, b10, k10, e10, rfl⟩ := hv10.form; have HV10 := Lib.hid hv10; clear hv10))
        (try go_wp2_with fail)
        refine hK.out _ (.agg #[.bool s10, .slice a10 l10 c10, .bool t10, .slice b10 k10 e10]) _ ?heq2 ?hgq2 ?_
        case heq2 => (simp only [aof, List.foldl_cons, List.foldl_nil, Act.put, List.setIfInBounds_toArray, List.set_cons_zero, List.set_cons_succ])
        case hgq2 => (repeat (first | with_reducible exact Grow.refl _ | with_reducible refine Grow.alloc ?_ _ | with_reducible refine Grow.drew ?_ | with_reducible refine Grow.drewN ?_ _ | (with_reducible refine Grow.setCell ?_ ?hp _; (case hp => (simp; try omega))) | with_reducible refine Grow.trans ?_ (by assumption)))
        clear hK K t2
        (try simp only [Act.put, List.setIfInBounds_toArray, List.set_cons_zero, List.set_cons_succ])
        refine flex_op rfl rfl (fun t4 u4 hu4 K hK => ?_)
        simp only [aof, List.foldl_cons, List.foldl_nil, Act.put, List.setIfInBounds_toArray, List.set_cons_zero, List.set_cons_succ]
        go_simp
        (go_at_call 10; (with_reducible refine (MU.out _ _ (HV10.out.grow (by (repeat (first | with_reducible exact Grow.refl _ | with_reducible refine Grow.alloc ?_ _ | with_reducible refine Grow.drew ?_ | with_reducible refine Grow.drewN ?_ _ | (with_reducible refine Grow.setCell ?_ ?hp _; (case hp => (simp; try omega))) | with_reducible refine Grow.trans ?_ (by assumption))))) (by (repeat (first | with_reducible exact Grow.refl _ | with_reducible refine Grow.alloc ?_ _ | with_reducible refine Grow.drew ?_ | with_reducible refine Grow.drewN ?_ _ | (with_reducible refine Grow.setCell ?_ ?hp _; (case hp => (simp; try omega))) | with_reducible refine Grow.trans ?_ (by assumption))))).mono ?_); (rintro e u11 ⟨v11, rfl, hv11, hb11⟩; obtain ⟨s11, a11, l11, c11, t11, b11, k11, e11, rfl⟩ := hv11.form; have HV11 := Lib.hid hv11; clear hv11))
        (try go_wp2_with fail)
        refine hK.out _ (.agg #[.bool s11, .slice a11 l11 c11, .bool t11, .slice b11 k11 e11]) _ ?heq4 ?hgq4 ?_
        case heq4 => (simp only [aof, List.foldl_cons, List.foldl_nil, Act.put, List.setIfInBounds_toArray, List.set_cons_zero, List.set_cons_succ])
        case hgq4 => (repeat (first | with_reducible exact Grow.refl _ | with_reducible refine Grow.alloc ?_ _ | with_reducible refine Grow.drew ?_ | with_reducible refine Grow.drewN ?_ _ | (with_reducible refine Grow.setCell ?_ ?hp _; (case hp => (simp; try omega))) | with_reducible refine Grow.trans ?_ (by assumption)))
        clear hK K t4
        (try simp only [Act.put, List.setIfInBounds_toArray, List.set_cons_zero, List.set_cons_succ])
        refine flex_op rfl rfl (fun t5 u5 hu5 K hK => ?_)
        simp only [aof, List.foldl_cons, List.foldl_nil, Act.put, List.setIfInBounds_toArray, List.set_cons_zero, List.set_cons_succ]
        go_simp
        (go_at_call 89; (with_reducible refine (FL.out _ _ (HV11.out.grow (by (repeat (first | with_reducible exact Grow.refl _ | with_reducible refine Grow.alloc ?_ _ | with_reducible refine Grow.drew ?_ | with_reducible refine Grow.drewN ?_ _ | (with_reducible refine Grow.setCell ?_ ?hp _; (case hp => (simp; try omega))) | with_reducible refine Grow.trans ?_ (by assumption)))))).mono ?_); (rintro e u12 ⟨v12, rfl, hv12, hb12⟩; obtain ⟨s12, a12, l12, c12, rfl⟩ := hv12.form; have HV12 := Lib.hid hv12; clear hv12))
        (try go_wp2_with fail)
        refine hK.out _ (.agg #[.bool s12, .slice a12 l12 c12]) _ ?heq5 ?hgq5 ?_
        case heq5 => (simp only [aof, List.foldl_cons, List.foldl_nil, Act.put, List.setIfInBounds_toArray, List.set_cons_zero, List.set_cons_succ])
        case hgq5 => (repeat (first | with_reducible exact Grow.refl _ | with_reducible refine Grow.alloc ?_ _ | with_reducible refine Grow.drew ?_ | with_reducible refine Grow.drewN ?_ _ | (with_reducible refine Grow.setCell ?_ ?hp _; (case hp => (simp; try omega))) | with_reducible refine Grow.trans ?_ (by assumption)))
        clear hK K t5
        (try simp only [Act.put, List.setIfInBounds_toArray, List.set_cons_zero, List.set_cons_succ])
        refine flex_op rfl rfl (fun t6 u6 hu6 K hK => ?_)
        simp only [aof, List.foldl_cons, List.foldl_nil, Act.put, List.setIfInBounds_toArray, List.set_cons_zero, List.set_cons_succ]
        go_simp
        (go_at_call 98; (with_reducible refine (SQ.out _ _ (HV12.out.grow (by (repeat (first | with_reducible exact Grow.refl _ | with_reducible refine Grow.alloc ?_ _ | with_reducible refine Grow.drew ?_ | with_reducible refine Grow.drewN ?_ _ | (with_reducible refine Grow.setCell ?_ ?hp _; (case hp => (simp; try omega))) | with_reducible refine Grow.trans ?_ (by assumption)))))).mono ?_); (rintro e u13 ⟨v13, x13, rfl, hv13, hb13⟩; obtain ⟨s13, a13, l13, c13, rfl⟩ := hv13.form; have HV13 := Lib.hid hv13; clear hv13))
        (try go_wp2_with fail)
        refine hK.out _ (.tuple #[.agg #[.bool s13, .slice a13 l13 c13], .bool x13, .int .i64 0]) _ ?heq6 ?hgq6 ?_
        case heq6 => (simp only [aof, List.foldl_cons, List.foldl_nil, Act.put, List.setIfInBounds_toArray, List.set_cons_zero, List.set_cons_succ])
        case hgq6 => (repeat (first | with_reducible exact Grow.refl _ | with_reducible refine Grow.alloc ?_ _ | with_reducible refine Grow.drew ?_ | with_reducible refine Grow.drewN ?_ _ | (with_reducible refine Grow.setCell ?_ ?hp _; (case hp => (simp; try omega))) | with_reducible refine Grow.trans ?_ (by assumption)))
        clear hK K t6
        (try simp only [Act.put, List.setIfInBounds_toArray, List.set_cons_zero, List.set_cons_succ])
        refine flex_quiet (v := ?vq7) rfl rfl (fun t => Or.inl ⟨by rfl, ?hyq7⟩) ?_
        case hyq7 => (intro u hu; simp only [aof, List.foldl_cons, List.foldl_nil, Act.put, List.setIfInBounds_toArray, List.set_cons_zero, List.set_cons_succ]; go_simp; (try with_reducible rfl))
        (try simp only [Act.put, List.setIfInBounds_toArray, List.set_cons_zero, List.set_cons_succ])
        refine flex_quiet (v := ?vq8) rfl rfl (fun t => Or.inl ⟨by rfl, ?hyq8⟩) ?_
        case hyq8 => (intro u hu; simp only [aof, List.foldl_cons, List.foldl_nil, Act.put, List.setIfInBounds_toArray, List.set_cons_zero, List.set_cons_succ]; go_simp; (try with_reducible rfl))
        (try simp only [Act.put, List.setIfInBounds_toArray, List.set_cons_zero, List.set_cons_succ])
        refine flex_quiet (v := ?vq9) rfl rfl (fun t => Or.inl ⟨by rfl, ?hyq9⟩) ?_
        case hyq9 => (intro u hu; simp only [aof, List.foldl_cons, List.foldl_nil, Act.put, List.setIfInBounds_toArray, List.set_cons_zero, List.set_cons_succ]; go_simp; (try with_reducible rfl))
        (try simp only [Act.put, List.setIfInBounds_toArray, List.set_cons_zero, List.set_cons_succ])
        refine flex_quiet (v := ?vq10) rfl rfl (fun t => Or.inl ⟨by rfl, ?hyq10⟩) ?_
        case hyq10 => (intro u hu; simp only [aof, List.foldl_cons, List.foldl_nil, Act.put, List.setIfInBounds_toArray, List.set_cons_zero, List.set_cons_succ]; go_simp; (try with_reducible rfl))
        (try simp only [Act.put, List.setIfInBounds_toArray, List.set_cons_zero, List.set_cons_succ])
        refine flex_done (fun Fq uq huq hFq hNq => ?_)
        have hFq0 := hFq ⟨11, 10, .cells #[.bool false, .slice none 0 0] 34⟩ (by simp)
        clear hFq hNq
        (try simp only [aof, List.foldl_cons, List.foldl_nil, Act.put, List.setIfInBounds_toArray, List.set_cons_zero, List.set_cons_succ, ptrX])
        generalize Fq 11 = Fbq0 at *
        clear Fq
        have hFX := hFq0
        obtain ⟨hFx, hF1, hF2, hF3⟩ := hFq0
        obtain ⟨o0, o1, of, oz⟩ := ak2 rfl _ hF3
        rw [hF2] at o0 o1 of oz
        refine held_last rfl rfl (fun K hK => ?_)
        go_simp
        refine hK.out _ _ ?_
        clear hK K
        (try simp only [Act.put])
        refine held_quiet (v := ?vq13) rfl rfl (Or.inl ⟨by rfl, ?hyq13⟩) ?_
        case hyq13 => (intro u hu; go_simp; (try with_reducible rfl))
        (try simp only [Act.put])
        refine held_quiet (v := ?vq14) rfl rfl (Or.inl ⟨by rfl, ?hyq14⟩) ?_
        case hyq14 => (intro u hu; go_simp; (try with_reducible rfl))
        (try simp only [Act.put])
        refine held_done ?_
        obtain ⟨hG8, hX8, hXz⟩ := hFX.putI (HV13.out.grow huq)
        obtain ⟨w8, hw8⟩ : ∃ w8, (uq.setCell ⟨Fbq0, 0, none⟩ (.bool s13)).setCell ⟨Fbq0, 1, none⟩ (.slice a13 l13 c13) = w8 := ⟨_, rfl⟩
        rw [hw8] at hG8 hX8 ⊢
        have HG8 := Lib.hid hG8
        have HX8 := Lib.hid hX8
        clear hw8 hG8 hX8 hXz HV13 HV12 HV11 HV10 huq hFX o0 o1 of oz hFx hF1 hF2 hF3 hb10 hb11 hb12 hb13 f0 f1 f2 f3 f4 f5 y0a y0b
        generalize Fbq0 = X at *
        obtain ⟨sx, ax, lx, cx, hcX, hvX⟩ := int_cells HX8.out
        have HVX := Lib.hid hvX
        obtain ⟨p0, p1, p2, p3⟩ := hcX w8 (Grow.refl _)
        have hq3 := hbx1
        have Y1 := Lib.hid (w64n (n := ((2 * bd : Nat) : Int)) (by omega))
        have Y2 := Lib.hid (w64n (n := ((2 * bd + 1 : Nat) : Int)) (by omega))
        have Y3 := Lib.hid (w64n (n := ((s * (2 * bd + 1) : Nat) : Int)) (by omega))
        have z1 : decide ((bd : Int) > 1048576) = false := by simp; omega
        obtain ⟨x1, hx1⟩ : ∃ x, 2 * bd = x := ⟨_, rfl⟩
        obtain ⟨x2, hx2⟩ : ∃ x, x1 + 1 = x := ⟨_, rfl⟩
        obtain ⟨x3, hx3⟩ : ∃ x, s * x2 = x := ⟨_, rfl⟩
        rw [hx1, hx2, hx3] at Y3 hbx1
        rw [hx1, hx2] at Y2
        rw [hx1] at Y1
        have j1 : 2 * (bd : Int) = (x1 : Int) := by omega
        have j2 : (x1 : Int) + 1 = (x2 : Int) := by omega
        have j3 : (s : Int) * (x2 : Int) = (x3 : Int) := by rw [← hx3]; simp
        have J1 : Hid (IntKind.i64.wrap (2 * (bd : Int)) = (x1 : Int) ∧ wrap64 (2 * (bd : Int)) = (x1 : Int)) := Lib.hid (by rw [j1]; exact Y1.out)
        have J2 : Hid (IntKind.i64.wrap ((x1 : Int) + 1) = (x2 : Int) ∧ wrap64 ((x1 : Int) + 1) = (x2 : Int)) := Lib.hid (by rw [j2]; exact Y2.out)
        have J3 : Hid (IntKind.i64.wrap ((s : Int) * (x2 : Int)) = (x3 : Int) ∧ wrap64 ((s : Int) * (x2 : Int)) = (x3 : Int)) := Lib.hid (by rw [j3]; exact Y3.out)
        have z2 : decide ((x3 : Int) > 1048576) = false := by simp; omega
        have z3 : ¬ (1048576 < (bd : Int)) := by omega
        have z4 : ¬ (1048576 < (x3 : Int)) := by omega
        have z5 : ¬ (1048576 < bd) := by omega
        have z6 : ¬ (1048576 < x3) := by omega
        have HX3 : Hid (x3 = boxN b (d + 1)) := Lib.hid (by rw [← hx3, ← hx2, ← hx1, HS.out, ← HBD.out]; rfl)
        have HS0 := Lib.hid hs0
        clear j1 j2 j3 Y1 Y2 Y3 hx1 hx2 hx3 hq3 hbb hs0 hbx1
        go_simp
        go_upto_region 9 with (go_at_call 53; (with_reducible refine (SM.out _ _ (HVX.out.grow (by (repeat (first | with_reducible exact Grow.refl _ | with_reducible refine Grow.alloc ?_ _ | with_reducible refine Grow.drew ?_ | with_reducible refine Grow.drewN ?_ _ | (with_reducible refine Grow.setCell ?_ ?hp _; (case hp => (simp; try omega))) | with_reducible refine Grow.trans ?_ (by assumption)))))).mono ?_); (rintro e u14 ⟨rfl, hb14⟩))
        obtain ⟨j1a, j1b⟩ := J1.out
        obtain ⟨j2a, j2b⟩ := J2.out
        obtain ⟨j3a, j3b⟩ := J3.out
        go_upto_region 14 with fail
        clear j1a j1b j2a j2b j3a j3b z1 z2 z3 z4 z5 z6 p0 p1 p2 p3 J1 J2 J3
        have hgw : Grow wr u14 := HG5.out.trans (HG8.out.trans hb14)
        have hll : d + 1 ≤ 1000000 := by omega
        have hzz : Z ≤ (u14.alloc (.cells #[.int .i64 (bd : Int)] 3)).heap.size := by
          have h1 := HB2.out.size
          have h2 := hgw.size
          have h3 := HZ.out
          simp; omega
        have hcell : (u14.alloc (.cells #[.int .i64 (bd : Int)] 3)).cell? ⟨u14.heap.size, 0, none⟩ = some (.int .i64 (bd : Int)) := by rw [World.cell?_alloc_at _ _ _ _ rfl]; rfl
        have hoc : OwnI (u14.alloc (.cells #[.int .i64 (bd : Int)] 3)) Z (.slice av d cv) d xs := HO.out.grow (hgw.trans ((Grow.refl _).alloc _))
        have hga : Grow wr (u14.alloc (.cells #[.int .i64 (bd : Int)] 3)) := hgw.trans ((Grow.refl _).alloc _)
        go_wp2_with (at_builtin; refine wpList_append_int _ rfl _ _ 29 rfl ii Tryz.underlying29 HII.out HI0.out HI1.out HI2.out Z (.slice av d cv) d xs rfl hoc ⟨u14.heap.size, 0, none⟩ 1 (bd : Int) rfl hcell hll hzz ?_)
        intro v15 w15 hown15 hb15
        obtain ⟨a15, c15, rfl⟩ := hown15.form
        have HO15 := Lib.hid hown15
        have HB15 := Lib.hid ((HB2.out.trans (hga.but _)).trans hb15)
        have HLX := Lib.hid hoc.1
        clear hown15 hb15 hcell hoc hga hzz hll hgw hb14 HG8 HX8 hcX hvX HVX
        obtain ⟨y4, y3⟩ := Y4.out
        go_wp2_with fail
        clear y4 y3
        go_roundg (N - (k + 1))
        case measure => have := HGK.out; have := HK.out; omega
        case rel =>
          refine ⟨k + 1, d + 1, x3, c15, a15, _, rfl, rfl, rfl, HK.out, Lib.hid rfl, Lib.hid ?_, HX3, HO15, Lib.hid ?_, HB15⟩
          · rw [dgN_yes hn0 (by rw [HDI.out, HDJ.out]), HDI.out]
          · intro i hi
            by_cases h1 : i < d
            · rw [List.getElem?_append_left (by rw [HLX.out]; exact h1)]; exact HX.out i h1
            · have h2 : i = d := by omega
              subst h2
              rw [List.getElem?_append_right (by rw [HLX.out]; exact Nat.le_refl _), HLX.out, Nat.sub_self, ← HBD.out]
              rfl
      · have z1 : ((di : Int) != (dj : Int)) = true := by simp; omega
        have hd : d = dgN n (k + 1) := by rw [HD.out]; exact (dgN_no (by rw [← HN.out]; exact HK.out) (by rw [HDI.out, HDJ.out]; exact hdd)).symm
        have HD2 := Lib.hid hd
        clear hd
        go_simp
        obtain ⟨y4, y3⟩ := Y4.out
        go_wp2_with fail
        clear y4 y3
        go_roundg (N - (k + 1))
        case measure => have := HGK.out; omega
        case rel => exact ⟨k + 1, d, s, cv, av, xs, rfl, rfl, rfl, HK.out, Lib.hid rfl, HD2, HS, Lib.hid (HO.out.grow HG5.out), HX, Lib.hid (HB2.out.trans (HG5.out.but _))⟩
end Go.Proofs.YtbpkfcohbefphaaGreat
/- Walk: the closure of theta.weighted. -/
namespace Go.Proofs.YtbpkfcohbefphaaGreat
open Go Go.RowKit

theorem IntQ.but {X : Nat → Prop} {w w' : World} {B off n : Nat} {f : Nat → Int} (h : IntQ w B off n f) (hX : ¬ X B) (hg : But X w w') : IntQ w' B off n f :=
  ⟨Nat.lt_of_lt_of_le h.lt hg.size, fun i hi => (hg.cells _ _ h.lt hX).trans (h.cell i hi)⟩
theorem IntQ.cong {w : World} {B off n : Nat} {f g : Nat → Int} (h : IntQ w B off n f) (he : ∀ i, i < n → f i = g i) : IntQ w B off n g :=
  ⟨h.lt, fun i hi => by rw [← he i hi]; exact h.cell i hi⟩
theorem IntQ.set {w : World} {B off n : Nat} {f : Nat → Int} (h : IntQ w B off n f) {j : Nat} (hj : j < n) (x : Int) :
    IntQ (w.setCell ⟨B, off + j, none⟩ (.int .i64 x)) B off n (fun i => if i = j then x else f i) ∧ But (fun b => b = B) w (w.setCell ⟨B, off + j, none⟩ (.int .i64 x)) := by
  have hb : But (fun b => b = B) w (w.setCell ⟨B, off + j, none⟩ (.int .i64 x)) := (But.refl _ w).set _ (.inr rfl) (fun y => by rw [h.cell j hj]; simp)
  refine ⟨⟨Nat.lt_of_lt_of_le h.lt hb.size, fun i hi => ?_⟩, hb⟩
  by_cases e : i = j
  · subst e; rw [if_pos rfl]; exact World.cell?_setCell_same _ _ _ (h.cell i hi)
  · rw [if_neg e, World.cell?_setCell_other _ _ _ _ (by simp; try omega)]
    exact h.cell i hi
/-- What the closure needs: its captured cells and the row it counts in. -/
structure ManS (w : World) (p2 p3 p4 Mb cM prec : Nat) (h : Nat → Int) : Prop where
  c2 : w.cell? ⟨p2, 0, none⟩ = some (.int .i64 (prec : Int))
  c3 : w.cell? ⟨p3, 0, none⟩ = some (.slice (some ⟨Mb, 0, none⟩) prec cM)
  c4 : w.cell? ⟨p4, 0, none⟩ = some (.slice none 0 0)
  l2 : p2 < w.heap.size
  l3 : p3 < w.heap.size
  l4 : p4 < w.heap.size
  row : IntQ w Mb 0 prec h
  free : ∀ o, w.frozen? ⟨Mb, o, none⟩ = false
  n2 : p2 ≠ Mb
  n3 : p3 ≠ Mb
  n4 : p4 ≠ Mb
theorem ManS.but {X : Nat → Prop} {w w' : World} {p2 p3 p4 Mb cM prec : Nat} {h : Nat → Int} (H : ManS w p2 p3 p4 Mb cM prec h) (hb : But X w w') (x2 : ¬ X p2) (x3 : ¬ X p3) (x4 : ¬ X p4) (xM : ¬ X Mb) : ManS w' p2 p3 p4 Mb cM prec h :=
  ⟨(hb.cells _ _ H.l2 x2).trans H.c2, (hb.cells _ _ H.l3 x3).trans H.c3, (hb.cells _ _ H.l4 x4).trans H.c4, Nat.lt_of_lt_of_le H.l2 hb.size, Nat.lt_of_lt_of_le H.l3 hb.size, Nat.lt_of_lt_of_le H.l4 hb.size, H.row.but xM hb, fun o => (hb.frees _ _ H.row.lt).trans (H.free o), H.n2, H.n3, H.n4⟩
theorem ManS.step {w : World} {p2 p3 p4 Mb cM prec : Nat} {h : Nat → Int} (H : ManS w p2 p3 p4 Mb cM prec h) {j : Nat} (hj : j < prec) (x : Int) :
    ManS (w.setCell ⟨Mb, j, none⟩ (.int .i64 x)) p2 p3 p4 Mb cM prec (fun i => if i = j then x else h i) ∧ But (fun b => b = Mb) w (w.setCell ⟨Mb, j, none⟩ (.int .i64 x)) := by
  obtain ⟨h1, h2⟩ := H.row.set hj x
  rw [Nat.zero_add] at h1 h2
  exact ⟨⟨(h2.cells _ _ H.l2 H.n2).trans H.c2, (h2.cells _ _ H.l3 H.n3).trans H.c3, (h2.cells _ _ H.l4 H.n4).trans H.c4, Nat.lt_of_lt_of_le H.l2 h2.size, Nat.lt_of_lt_of_le H.l3 h2.size, Nat.lt_of_lt_of_le H.l4 h2.size, h1, fun o => (h2.frees _ _ H.row.lt).trans (H.free o), H.n2, H.n3, H.n4⟩, h2⟩
theorem ManS.cong {w : World} {p2 p3 p4 Mb cM prec : Nat} {h g : Nat → Int} (H : ManS w p2 p3 p4 Mb cM prec h) (he : ∀ i, i < prec → h i = g i) : ManS w p2 p3 p4 Mb cM prec g :=
  ⟨H.c2, H.c3, H.c4, H.l2, H.l3, H.l4, H.row.cong he, H.free, H.n2, H.n3, H.n4⟩
set_option maxRecDepth 20000 in
set_option maxHeartbeats 8000000 in
theorem cbT (p2 p3 p4 Mb cM prec q nx cx : Nat) (ax : Option Addr) (v5 : Value) (h : Nat → Int) (hh : ∀ j, j < prec → 0 ≤ h j ∧ h j ≤ 1000000000) (w : World) (H : ManS w p2 p3 p4 Mb cM prec h) :
    Calls Tryz.prog 65 #[.slice ax nx cx, .int .i64 (q : Int), .pointer (some ⟨p2, 0, none⟩), .pointer (some ⟨p3, 0, none⟩), .pointer (some ⟨p4, 0, none⟩), v5] w fun e w' =>
      e = .returned (.tuple #[]) ∧ ManS w' p2 p3 p4 Mb cM prec (fun i => if i = q then h i + 1 else h i) ∧ But (fun b => b = Mb) w w' := by
  obtain ⟨c2, c3, c4, l2, l3, l4, row, free, n2, n3, n4⟩ := id H
  have HH := Lib.hid H
  clear H
  by_cases hq : q < prec
  · have hc := row.cell q hq
    rw [Nat.zero_add] at hc
    obtain ⟨x, hx⟩ : ∃ x, h q = x := ⟨_, rfl⟩
    have hxb := hh q hq
    rw [hx] at hc hxb
    have Y := Lib.hid (w64n (n := x + 1) (by omega))
    have hst := HH.out.step hq (x + 1)
    have z0 : decide ((q : Int) ≥ (prec : Int)) = false := by simp; omega
    have z1 : ¬ ((prec : Int) ≤ (q : Int)) := by omega
    have z2 : ¬ (prec ≤ q) := by omega
    have z3 : (0 : Int) ≤ (q : Int) := by omega
    have z4 : (q : Int) < (prec : Int) := by omega
    have HX := Lib.hid hx
    have HST := Lib.hid hst
    have c4' : (w.setCell ⟨Mb, q, none⟩ (.int .i64 (x + 1))).cell? ⟨p4, 0, none⟩ = some (.slice none 0 0) := hst.1.c4
    obtain ⟨y1, y2⟩ := Y.out
    clear hst hxb hx row hh
    go_enter Tryz.func65, Tryz.ntmps65
    go_wp2_with fail
    obtain ⟨w1, hw1⟩ : ∃ w1, w.setCell ⟨Mb, q, none⟩ (.int .i64 (x + 1)) = w1 := ⟨_, rfl⟩
    rw [hw1] at HST ⊢
    clear hw1 c4' y1 y2 hc
    go_loopg [24] 0 (fun gk t24 wr => t24 = .int .i64 0 ∧ Hid (wr = w1))
    case atStart => exact ⟨rfl, Lib.hid rfl⟩
    case round =>
      obtain ⟨rfl, HW⟩ := hrel
      go_wp2_with fail
      (try simp only [Exit.inBlock, Exit.then]); refine bodyPost_end (results_none rfl _ _ _) rfl ?_
      refine ⟨rfl, ?_, ?_⟩
      · rw [HW.out]; exact HST.out.1.cong (fun i hi => by by_cases e : i = q <;> simp [e, HX.out])
      · rw [HW.out]; exact HST.out.2
  · have z0 : decide ((q : Int) ≥ (prec : Int)) = true := by simp; omega
    have z1 : (prec : Int) ≤ (q : Int) := by omega
    have z2 : prec ≤ q := by omega
    go_enter Tryz.func65, Tryz.ntmps65
    go_wp2_with fail
    refine bodyPost_ret (v := .tuple #[]) (results_none rfl _ _ _) rfl ?_
    exact ⟨rfl, HH.out.cong (fun i hi => by rw [if_neg (by omega)]), But.refl _ _⟩
end Go.Proofs.YtbpkfcohbefphaaGreat
/- Plain law: the value of a form at a point, as theta.each sums it; what each keeps in memory. -/
namespace Go.Proofs.YtbpkfcohbefphaaGreat
open Go Go.RowKit

def psN (g x : Nat → Int) : Nat → Int
  | 0 => 0
  | k + 1 => psN g x k + g k * x k
def ssN (n : Nat) (f x : Nat → Int) : Nat → Int
  | 0 => 0
  | i + 1 => ssN n f x i + x i * psN (fun k => f (i * n + k)) x n
theorem psN_le {g x : Nat → Int} {n : Nat} (hg : ∀ k, k < n → (g k).natAbs ≤ 1000) (hx : ∀ k, k < n → (x k).natAbs ≤ 1048576) : ∀ k, k ≤ n → (psN g x k).natAbs ≤ k * 1048576000
  | 0, _ => by simp [psN]
  | k + 1, h => by
    have h1 := psN_le hg hx k (by omega)
    have h2 := abs_mul_le (hg k (by omega)) (hx k (by omega)) (show 1000 * 1048576 ≤ 1048576000 by decide)
    have h3 := Int.natAbs_add_le (psN g x k) (g k * x k)
    show (psN g x k + g k * x k).natAbs ≤ _
    omega
theorem ssN_le {n : Nat} {f x : Nat → Int} (hn : n ≤ 8) (hf : ∀ k, k < n * n → (f k).natAbs ≤ 1000) (hx : ∀ k, k < n → (x k).natAbs ≤ 1048576) : ∀ i, i ≤ n → (ssN n f x i).natAbs ≤ i * 9000000000000000
  | 0, _ => by simp [ssN]
  | i + 1, h => by
    have h1 := ssN_le hn hf hx i (by omega)
    have h2 := psN_le (g := fun k => f (i * n + k)) (n := n) (fun k hk => hf _ (ix_lt h hk hn).1) hx n (Nat.le_refl _)
    have h3 := abs_mul_le (hx i h) (Nat.le_trans h2 (Nat.mul_le_mul_right _ hn)) (show 1048576 * (8 * 1048576000) ≤ 9000000000000000 by decide)
    have h4 := Int.natAbs_add_le (ssN n f x i) (x i * psN (fun k => f (i * n + k)) x n)
    show (ssN n f x i + x i * psN (fun k => f (i * n + k)) x n).natAbs ≤ _
    omega
theorem IntQ.upd {w : World} {B n : Nat} {f : Nat → Int} (h : IntQ w B 0 n f) {j : Nat} (hj : j < n) (x : Int) :
    IntQ (w.setCell ⟨B, j, none⟩ (.int .i64 x)) B 0 n (upd f j x) ∧ But (fun b => b = B) w (w.setCell ⟨B, j, none⟩ (.int .i64 x)) := by
  have h1 := h.set hj x
  rw [Nat.zero_add] at h1
  exact ⟨h1.1.cong (fun i hi => by by_cases e : i = j <;> simp [Go.Proofs.YtbpkfcohbefphaaGreat.upd, e]), h1.2⟩
/-- The memory of each: its form at Z, its point at Z + 1, what the closure counts. -/
structure EaS (w u : World) (Z N n c B off p2 p3 p4 Mb cM prec : Nat) (x h : Nat → Int) : Prop where
  chg : But (fun y => y = Mb ∨ Z ≤ y) w u
  lt : Z + 1 < u.heap.size
  g0 : u.cell? ⟨Z, 0, none⟩ = some (.int .i64 (n : Int))
  g1 : u.cell? ⟨Z, 1, none⟩ = some (.slice (some ⟨B, off, none⟩) N c)
  row : IntQ u (Z + 1) 0 n x
  free : ∀ o, u.frozen? ⟨Z + 1, o, none⟩ = false
  man : ManS u p2 p3 p4 Mb cM prec h
  m1 : Mb < Z
  m2 : p2 < Z
  m3 : p3 < Z
  m4 : p4 < Z
theorem EaS.grow {w u u' : World} {Z N n c B off p2 p3 p4 Mb cM prec : Nat} {x h : Nat → Int} (H : EaS w u Z N n c B off p2 p3 p4 Mb cM prec x h) (hg : Grow u u') : EaS w u' Z N n c B off p2 p3 p4 Mb cM prec x h :=
  ⟨H.chg.trans (hg.but _), Nat.lt_of_lt_of_le H.lt hg.size, (hg.cells _ _ (by have := H.lt; omega)).trans H.g0, (hg.cells _ _ (by have := H.lt; omega)).trans H.g1, H.row.grow hg, fun o => (hg.frees _ _ H.lt).trans (H.free o), H.man.but (X := fun _ => False) (hg.but _) (fun e => e) (fun e => e) (fun e => e) (fun e => e), H.m1, H.m2, H.m3, H.m4⟩
theorem EaS.put {w u : World} {Z N n c B off p2 p3 p4 Mb cM prec : Nat} {x h : Nat → Int} (H : EaS w u Z N n c B off p2 p3 p4 Mb cM prec x h) {j : Nat} (hj : j < n) (v : Int) : EaS w (u.setCell ⟨Z + 1, j, none⟩ (.int .i64 v)) Z N n c B off p2 p3 p4 Mb cM prec (upd x j v) h := by
  obtain ⟨h1, h2⟩ := H.row.upd hj v
  have hl := H.lt
  exact ⟨H.chg.trans (h2.mono (fun b e => .inr (by omega))), Nat.lt_of_lt_of_le H.lt h2.size, (h2.cells _ _ (by omega) (by omega)).trans H.g0, (h2.cells _ _ (by omega) (by omega)).trans H.g1, h1, fun o => (h2.frees _ _ hl).trans (H.free o), H.man.but h2 (by have := H.m2; omega) (by have := H.m3; omega) (by have := H.m4; omega) (by have := H.m1; omega), H.m1, H.m2, H.m3, H.m4⟩
theorem EaS.call {w u u' : World} {Z N n c B off p2 p3 p4 Mb cM prec : Nat} {x h h' : Nat → Int} (H : EaS w u Z N n c B off p2 p3 p4 Mb cM prec x h) (hm : ManS u' p2 p3 p4 Mb cM prec h') (hb : But (fun b => b = Mb) u u') : EaS w u' Z N n c B off p2 p3 p4 Mb cM prec x h' := by
  have hl := H.lt
  have h1 := H.m1
  exact ⟨H.chg.trans (hb.mono (fun b e => .inl e)), Nat.lt_of_lt_of_le H.lt hb.size, (hb.cells _ _ (by omega) (by omega)).trans H.g0, (hb.cells _ _ (by omega) (by omega)).trans H.g1, H.row.but (by omega) hb, fun o => (hb.frees _ _ hl).trans (H.free o), hm, H.m1, H.m2, H.m3, H.m4⟩
theorem EaS.congX {w u : World} {Z N n c B off p2 p3 p4 Mb cM prec : Nat} {x x' h : Nat → Int} (H : EaS w u Z N n c B off p2 p3 p4 Mb cM prec x h) (he : ∀ i, i < n → x i = x' i) : EaS w u Z N n c B off p2 p3 p4 Mb cM prec x' h :=
  ⟨H.chg, H.lt, H.g0, H.g1, H.row.cong he, H.free, H.man, H.m1, H.m2, H.m3, H.m4⟩
theorem EaS.congH {w u : World} {Z N n c B off p2 p3 p4 Mb cM prec : Nat} {x h h' : Nat → Int} (H : EaS w u Z N n c B off p2 p3 p4 Mb cM prec x h) (he : ∀ i, i < prec → h i = h' i) : EaS w u Z N n c B off p2 p3 p4 Mb cM prec x h' :=
  ⟨H.chg, H.lt, H.g0, H.g1, H.row, H.free, H.man.cong he, H.m1, H.m2, H.m3, H.m4⟩
/-- The form's row and the box's row, unchanged. -/
theorem EaS.old {w u : World} {Z N n c B off p2 p3 p4 Mb cM prec : Nat} {x h : Nat → Int} (H : EaS w u Z N n c B off p2 p3 p4 Mb cM prec x h) (hz : Z = w.heap.size) {B' off' n' : Nat} {f : Nat → Int} (hA : IntQ w B' off' n' f) (hne : B' ≠ Mb) : IntQ u B' off' n' f :=
  hA.but (by have := hA.lt; omega) H.chg
end Go.Proofs.YtbpkfcohbefphaaGreat
