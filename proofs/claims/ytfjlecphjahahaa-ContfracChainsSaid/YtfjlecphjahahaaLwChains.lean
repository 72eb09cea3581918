/- The chain between two cusps is that of the reference, or the error is; it consists of Farey neighbours, and backwards it is the chain in the other direction. No condition: every two cusps. -/
import Derived.Test.YtfjlecphjahahaaCfZ
import Derived.Test.YtfjlecphjahahaaCfI
import Derived.Test.YtfjlecphjahahaaCfN
import Derived.Test.YtfjlecphjahahaaPlP
import Derived.Test.YtfjlecphjahahaaPlR
namespace Go.Proofs.Ytfjlecphjahahaa.chains
open Go Go.RowKit Go.ChangeShapes Go.WideShapes Go.ChangeAt

set_option maxHeartbeats 1000000 in
theorem walk_err (a b : C2) (z : List C2) (hzl : z.length ≤ 1000000) (er : Int) (he : er ≠ 0) (X : Hid (∀ w, Calls Try.prog 21 #[.agg #[.int .i64 a.p, .int .i64 a.q], .agg #[.int .i64 b.p, .int .i64 b.q]] w fun e w' => ∃ v, e = .returned (.tuple #[v, .int .i64 er]) ∧ RdCusps w' v z ∧ Grow w w'))
    (Y : Hid (∀ w, Calls Try.prog 22 #[.agg #[.int .i64 a.p, .int .i64 a.q], .agg #[.int .i64 b.p, .int .i64 b.q]] w fun e w' => ∃ v, e = .returned (.tuple #[v, .int .i64 er]) ∧ RdCusps w' v z ∧ Grow w w')) (w : World) :
    Calls Try.prog 6 #[.agg #[.int .i64 a.p, .int .i64 a.q], .agg #[.int .i64 b.p, .int .i64 b.q]] w fun ex w' => ex = .returned (.bool true) ∧ Grow w w' := by
  have e1 : (er == 0) = false := by simpa using he
  have e2 : (er != 0) = true := by simpa using he
  clear he
  go_enter Try.func6, Try.ntmps6
  go_wp2_with fail
  (go_at_call 13; refine (awake19_any _).mono ?_; rintro e w1 ⟨rfl, hb1⟩; have hc1 := hb1.cells; have hf1 := hb1.frees; have hz1 := hb1.size; (try simp at hz1))
  have z1a : w.heap.size < w1.heap.size := by omega
  have z1b : w.heap.size + 1 < w1.heap.size := by omega
  have c0 : w1.cell? ⟨w.heap.size, 0, none⟩ = some (.int .i64 a.p) := by rw [hc1 _ _ (by simp; try omega)]; go_simp
  have c1 : w1.cell? ⟨w.heap.size, 1, none⟩ = some (.int .i64 a.q) := by rw [hc1 _ _ (by simp; try omega)]; go_simp
  have c2 : w1.cell? ⟨w.heap.size + 1, 0, none⟩ = some (.int .i64 b.p) := by rw [hc1 _ _ (by simp; try omega)]; go_simp
  have c3 : w1.cell? ⟨w.heap.size + 1, 1, none⟩ = some (.int .i64 b.q) := by rw [hc1 _ _ (by simp; try omega)]; go_simp
  have hG1 : Grow w w1 := by (repeat (first | with_reducible exact Grow.refl _ | with_reducible refine Grow.alloc ?_ _ | with_reducible refine Grow.drew ?_ | with_reducible refine Grow.drewN ?_ _ | (with_reducible refine Grow.setCell ?_ ?hp _; (case hp => (simp; try omega))) | with_reducible refine Grow.trans ?_ (by assumption)))
  clear hc1 hf1 hb1
  go_wp2_with fail
  go_at_call 21
  refine (X.out _).mono ?_
  rintro e w2 ⟨v2, rfl, hr2, hb2⟩
  have d0 := (hb2.cells _ 0 z1a).trans c0
  have d1 := (hb2.cells _ 1 z1a).trans c1
  have d2 := (hb2.cells _ 0 z1b).trans c2
  have d3 := (hb2.cells _ 1 z1b).trans c3
  have z2a : w.heap.size < w2.heap.size := Nat.lt_of_lt_of_le z1a hb2.size
  have z2b : w.heap.size + 1 < w2.heap.size := Nat.lt_of_lt_of_le z1b hb2.size
  have hG2 := hG1.trans hb2
  clear hb2 c0 c1 c2 c3 hG1
  go_wp2_with fail
  go_at_call 22
  refine (Y.out _).mono ?_
  rintro e w3 ⟨v3, rfl, hr3, hb3⟩
  have hG3 := hG2.trans hb3
  have HS := Lib.hid (same_same z _ _ (by omega) w3 (hr2.grow hb3) hr3)
  have HG3 := Lib.hid hG3
  clear hr3 hb3 hr2 hG2 hG3
  go_wp2_with (go_at_call 19; refine HS.out.mono ?_; rintro e w4 ⟨rfl, hb4⟩)
  have HB4 := Lib.hid hb4
  clear hb4
  go_ret
  exact ⟨rfl, HG3.out.trans HB4.out⟩

set_option maxHeartbeats 2000000 in
theorem walk_core (a b : C2) (z : List C2) (n : Nat) (hn : Hid (z.length = n)) (hn0 : 0 < n) (hn1 : n ≤ 1000) (hza : Hid (z.getD 0 C2.zero = a)) (hzb : Hid (z.getD (n - 1) C2.zero = b)) (hnb : Hid (Nb z))
    (X : Hid (∀ w, Calls Try.prog 21 #[.agg #[.int .i64 a.p, .int .i64 a.q], .agg #[.int .i64 b.p, .int .i64 b.q]] w fun e w' => ∃ v, e = .returned (.tuple #[v, .int .i64 0]) ∧ RdCusps w' v z ∧ Grow w w'))
    (Y : Hid (∀ w, Calls Try.prog 22 #[.agg #[.int .i64 a.p, .int .i64 a.q], .agg #[.int .i64 b.p, .int .i64 b.q]] w fun e w' => ∃ v, e = .returned (.tuple #[v, .int .i64 0]) ∧ RdCusps w' v z ∧ Grow w w'))
    (Z : Hid (∀ w, Calls Try.prog 21 #[.agg #[.int .i64 b.p, .int .i64 b.q], .agg #[.int .i64 a.p, .int .i64 a.q]] w fun e w' => ∃ v, e = .returned (.tuple #[v, .int .i64 0]) ∧ RdCusps w' v z.reverse ∧ Grow w w')) (w : World) :
    Calls Try.prog 6 #[.agg #[.int .i64 a.p, .int .i64 a.q], .agg #[.int .i64 b.p, .int .i64 b.q]] w fun ex w' => ex = .returned (.bool true) ∧ Grow w w' := by
  go_enter Try.func6, Try.ntmps6
  go_wp2_with fail
  (go_at_call 13; refine (awake19_any _).mono ?_; rintro e w1 ⟨rfl, hb1⟩; have hc1 := hb1.cells; have hf1 := hb1.frees; have hz1 := hb1.size; (try simp at hz1))
  have z1a : w.heap.size < w1.heap.size := by omega
  have z1b : w.heap.size + 1 < w1.heap.size := by omega
  have c0 : w1.cell? ⟨w.heap.size, 0, none⟩ = some (.int .i64 a.p) := by rw [hc1 _ _ (by simp; try omega)]; go_simp
  have c1 : w1.cell? ⟨w.heap.size, 1, none⟩ = some (.int .i64 a.q) := by rw [hc1 _ _ (by simp; try omega)]; go_simp
  have c2 : w1.cell? ⟨w.heap.size + 1, 0, none⟩ = some (.int .i64 b.p) := by rw [hc1 _ _ (by simp; try omega)]; go_simp
  have c3 : w1.cell? ⟨w.heap.size + 1, 1, none⟩ = some (.int .i64 b.q) := by rw [hc1 _ _ (by simp; try omega)]; go_simp
  have hG1 : Grow w w1 := by (repeat (first | with_reducible exact Grow.refl _ | with_reducible refine Grow.alloc ?_ _ | with_reducible refine Grow.drew ?_ | with_reducible refine Grow.drewN ?_ _ | (with_reducible refine Grow.setCell ?_ ?hp _; (case hp => (simp; try omega))) | with_reducible refine Grow.trans ?_ (by assumption)))
  clear hc1 hf1 hb1
  go_wp2_with fail
  go_at_call 21
  refine (X.out _).mono ?_
  rintro e w2 ⟨v2, rfl, hr2, hb2⟩
  have d0 := (hb2.cells _ 0 z1a).trans c0
  have d1 := (hb2.cells _ 1 z1a).trans c1
  have d2 := (hb2.cells _ 0 z1b).trans c2
  have d3 := (hb2.cells _ 1 z1b).trans c3
  have z2a : w.heap.size < w2.heap.size := Nat.lt_of_lt_of_le z1a hb2.size
  have z2b : w.heap.size + 1 < w2.heap.size := Nat.lt_of_lt_of_le z1b hb2.size
  have hG2 := hG1.trans hb2
  have HR2 := Lib.hid hr2
  clear hb2 c0 c1 c2 c3 hG1 hr2 z1a z1b
  go_wp2_with fail
  go_at_call 22
  refine (Y.out _).mono ?_
  rintro e w3 ⟨v3, rfl, hr3, hb3⟩
  have c0 := (hb3.cells _ 0 z2a).trans d0
  have c1 := (hb3.cells _ 1 z2a).trans d1
  have c2 := (hb3.cells _ 0 z2b).trans d2
  have c3 := (hb3.cells _ 1 z2b).trans d3
  have z3a : w.heap.size < w3.heap.size := Nat.lt_of_lt_of_le z2a hb3.size
  have z3b : w.heap.size + 1 < w3.heap.size := Nat.lt_of_lt_of_le z2b hb3.size
  have hG3 := hG2.trans hb3
  have HS := Lib.hid (same_same z _ _ (by have := hn.out; omega) w3 (HR2.out.grow hb3) hr3)
  have HR3 := Lib.hid (HR2.out.grow hb3)
  have HG3 := Lib.hid hG3
  clear hr3 hb3 hG2 hG3 HR2 d0 d1 d2 d3 z2a z2b
  go_wp2_with (go_at_call 19; refine HS.out.mono ?_; rintro e w4 ⟨rfl, hb4⟩; (have d0 := (hb4.cells _ 0 z3a).trans c0); (have d1 := (hb4.cells _ 1 z3a).trans c1); (have d2 := (hb4.cells _ 0 z3b).trans c2); (have d3 := (hb4.cells _ 1 z3b).trans c3); (have z4a : w.heap.size < w4.heap.size := Nat.lt_of_lt_of_le z3a hb4.size); (have z4b : w.heap.size + 1 < w4.heap.size := Nat.lt_of_lt_of_le z3b hb4.size))
  have HG4 := Lib.hid (HG3.out.trans hb4)
  have HR4 := Lib.hid (HR3.out.grow hb4)
  clear hb4 HG3 HR3 HS c0 c1 c2 c3 z3a z3b
  go_at_call 21
  refine (Z.out _).mono ?_
  rintro e w5 ⟨v5, rfl, hr5, hb5⟩
  have c0 := (hb5.cells _ 0 z4a).trans d0
  have c1 := (hb5.cells _ 1 z4a).trans d1
  have c2 := (hb5.cells _ 0 z4b).trans d2
  have c3 := (hb5.cells _ 1 z4b).trans d3
  have z5a : w.heap.size < w5.heap.size := Nat.lt_of_lt_of_le z4a hb5.size
  have z5b : w.heap.size + 1 < w5.heap.size := Nat.lt_of_lt_of_le z4b hb5.size
  have HG5 := Lib.hid (HG4.out.trans hb5)
  have hr4 := HR4.out.grow hb5
  obtain ⟨g1, o1, k1, rfl, zg1, hcx⟩ := rd_open hr4 (by rw [hn.out]; exact hn0)
  obtain ⟨g2, o2, k2, rfl, zg2, hcz⟩ := rd_open hr5 (by rw [List.length_reverse, hn.out]; exact hn0)
  have HR5 := Lib.hid hr4
  rw [hn.out] at HR5
  rw [List.length_reverse, hn.out]
  have HCX := Lib.hid hcx
  have HCZ := Lib.hid hcz
  obtain ⟨d4, d5⟩ := hcx 0 (by rw [hn.out]; exact hn0)
  obtain ⟨d6, d7⟩ := hcx (n - 1) (by rw [hn.out]; omega)
  rw [hza.out] at d4 d5
  rw [hzb.out] at d6 d7
  simp only [Nat.zero_mul, Nat.add_zero] at d4 d5
  obtain ⟨s, hs⟩ : ∃ s : Nat, n - 1 = s := ⟨_, rfl⟩
  have hs2 : (n : Int) - 1 = s := by omega
  rw [hs] at d6 d7
  have y5 : IntKind.i64.wrap (s : Int) = s := IntWalk.i64_in _ (by omega)
  have f0 : (0 : Int) < n := by omega
  have f3 : (0 : Int) ≤ s := by omega
  have f4 : (s : Int) < n := by omega
  have hnz : ((n : Int) == 0) = false := by simp; omega
  have hlen : z.length ≤ 1152921504606846976 := by have := hn.out; omega
  have HL := Lib.hid hlen
  clear hb5 HG4 HR4 hr4 hr5 hcx hcz d0 d1 d2 d3 z4a z4b hlen X Y Z
  go_wp2_with fail
  refine region_grow (by kernel_rfl) (by kernel_rfl) ?_
  intro X F hF
  have hFc := hF.cells
  haveI hFn := hF.ne
  repeat (go_big_quiet_step ((first | (go_at_call 20; with_reducible exact hF.call (nb_any z _ HL.out hnb.out _ (HR5.out.grow (hF.grow _)))))))
  refine wpQuiet_nil ?_
  rintro _ ⟨x9, rfl⟩
  have hb6 := hF.grow x9
  clear hFc hFn hF
  generalize F x9 = w6 at *
  have hc6 := hb6.cells
  have hf6 := hb6.frees
  have hz6 := hb6.size
  (try simp at hz6)
  have HB6 := Lib.hid hb6
  have zh1 : g1 < w6.heap.size := by omega
  have zh2 : g2 < w6.heap.size := by omega
  clear c0 c1 c2 c3 d4 d5 d6 d7 hb6 hc6 hf6 hz6
  go_wp2_with fail
  go_loopg [11] n (fun f i wr => ∃ j : Nat, i = .int .i64 j ∧ j + f = n ∧ ∃ d, wr = w6.drewN d)
  case atStart => exact ⟨0, rfl, by omega, 0, rfl⟩
  case round =>
    obtain ⟨j, rfl, hjf, d, rfl⟩ := hrel
    by_cases hlt : j < n
    · obtain ⟨t, ht⟩ : ∃ t : Nat, s - j = t := ⟨_, rfl⟩
      have ht2 : (s : Int) - j = t := by omega
      obtain ⟨d1, d2⟩ := HCZ.out j (by rw [List.length_reverse, hn.out]; exact hlt)
      obtain ⟨d3, d4⟩ := HCX.out t (by rw [hn.out]; omega)
      have hrev : z.reverse.getD j C2.zero = z.getD t C2.zero := by
        simp only [List.getD]
        rw [List.getElem?_reverse (by rw [hn.out]; exact hlt)]
        congr 2
        have := hn.out; omega
      rw [hrev] at d1 d2
      obtain ⟨u, hu⟩ : ∃ u, z.getD t C2.zero = u := ⟨_, rfl⟩
      rw [hu] at d1 d2 d3 d4
      have e1 := (HB6.out.cells _ _ zg2).trans d1
      have e2 := (HB6.out.cells _ _ zg2).trans d2
      have e3 := (HB6.out.cells _ _ zg1).trans d3
      have e4 := (HB6.out.cells _ _ zg1).trans d4
      have y6 : IntKind.i64.wrap (t : Int) = t := IntWalk.i64_in _ (by omega)
      have g1' : (0 : Int) ≤ j := by omega
      have g2' : (j : Int) < n := by omega
      have g3' : (0 : Int) ≤ t := by omega
      have g4' : (t : Int) < n := by omega
      obtain ⟨g', hgk⟩ : ∃ g', gk = g' + 1 := ⟨gk - 1, by omega⟩
      have HJ := Lib.hid hjf
      clear hrev hu d1 d2 d3 d4 ht hjf
      go_wp2_with fail
      go_quiet (fail)
      go_wp2
      go_roundg g'
      case measure => omega
      case rel => exact ⟨j + 1, by go_num, by have := HJ.out; omega, _, rfl⟩
    · have hlt2 : ¬ (j : Int) < n := by omega
      go_wp2_with fail
      go_ret
      exact ⟨rfl, (HG5.out.trans HB6.out).drewN _⟩

theorem walk (a b : C2) (w : World) : Calls Try.prog 6 #[.agg #[.int .i64 a.p, .int .i64 a.q], .agg #[.int .i64 b.p, .int .i64 b.q]] w fun ex w' => ex = .returned (.bool true) ∧ Grow w w' := by
  have X := Lib.hid (fun w => chain_any a b w)
  have Y := Lib.hid (fun w => refChain_any a b w)
  have Z := Lib.hid (fun w => chain_any b a w)
  by_cases h1 : (pathF a).2 = 0
  · by_cases h2 : (pathF b).2 = 0
    · have e : chainF a b = (chainOf (pathF a).1 (pathF b).1, 0) := by unfold chainF; rw [if_pos h1, if_pos h2]
      have e' : chainF b a = (chainOf (pathF b).1 (pathF a).1, 0) := by unfold chainF; rw [if_pos h2, if_pos h1]
      obtain ⟨p1, p2, p3, p4⟩ := path_spec h1
      obtain ⟨q1, q2, q3, q4⟩ := path_spec h2
      obtain ⟨r1, r2, r3, r4, r5⟩ := chain_spec p4 q4 p1 q1 p3 q3 (com_pos h1 h2)
      rw [e] at X Y
      rw [e', r5] at Z
      have l1 := pathF_len a
      have l2 := pathF_len b
      exact walk_core a b _ _ (Lib.hid rfl) r1 (by unfold chainOf; simp; omega) (Lib.hid r2) (Lib.hid r3) (Lib.hid r4) X Y Z w
    · have e : chainF a b = ([], (pathF b).2) := by unfold chainF; rw [if_pos h1, if_neg h2]
      rw [e] at X Y
      exact walk_err a b [] (by simp) _ h2 X Y w
  · have e : chainF a b = ([], (pathF a).2) := by unfold chainF; rw [if_neg h1]
    rw [e] at X Y
    exact walk_err a b [] (by simp) _ h1 X Y w

set_option maxRecDepth 100000 in
theorem lifted (os : Os) (started : os.Started) (H : Type) (enc : TypeId × Value → H) :
    ReturnsInHanded {} Try.checked os 6 .any (Rows.contfracChainsSpec.pre6 enc Try.prog Try.f6 Rows.contfracChainsRow.domain false) (Rows.contfracChainsSpec.post enc Try.prog Try.f6 false true false false) := by
  refine returnsInHanded_of_change (C := Try.checked) own started (by kernel_rfl) Try.func6
    (ChangeSpec.witness6 (enc := enc) (C := Try.checked) false ⟨#[], #[.agg #[.int .i64 0, .int .i64 0], .agg #[.int .i64 0, .int .i64 0]], []⟩ 8 (by kernel_rfl) (by kernel_rfl) (by kernel_rfl) (by kernel_rfl)) ?_
  intro W base args ds gs before hval0 hW hcnd _
  have hval : ∀ (j : Nat) t v, Try.f6.params[j]? = some t → args[j]? = some v → Value.okWide Try.prog W .any base t v := hval0
  have hW' := hW
  obtain ⟨p, q, hA0, hV, rfl, -, -⟩ := hW
  have hA : DataW.TrodAll enc Try.prog W 0 (fun _ => true) true Try.f6.params.toList args.toList ds p := hA0
  rw [Try.params6] at hA hval
  obtain ⟨v0, vs0, d0, ds0, p0, q0, hargs, rfl, rfl, h0, r0⟩ := trodAll_cons hA
  obtain ⟨v1, vs1, d1, ds1, p1, q1, rfl, rfl, rfl, h1, r1⟩ := trodAll_cons r0
  obtain ⟨rfl, rfl, rfl⟩ := trodAll_nil r1
  obtain rfl : args = #[v0, v1] := by cases args; simp_all
  obtain ⟨rfl, rfl⟩ := trodVars_none hV
  obtain ⟨a0, rfl, c0⟩ := open_cusp (hval 0 29 v0 rfl rfl) h0
  obtain ⟨a1, rfl, c1⟩ := open_cusp (hval 1 29 v1 rfl rfl) h1
  clear hA0 hval0
  refine (walk a0 a1 W).mono fun e W' ⟨he, hg⟩ => ?_
  subst he
  exact ⟨_, rfl, law_post 4 rfl Try.underlying4 laidOut (of_decide_eq_true (by kernel_rfl)) rfl hW' rfl hg⟩

theorem over : Rows.contfracChainsRow.holds Try.pinned (OpenSpec.ofChange Rows.contfracChainsSpec) :=
  OpenClaim.holds_of_wide 6 Try.f6 rfl rfl rfl rfl rfl rfl rfl ⟨rfl, rfl, rfl, rfl, rfl⟩ rfl rfl rfl rfl rfl (by kernel_rfl) Try.func6 (by kernel_rfl)
    (of_decide_eq_true (by kernel_rfl)) (by unfold Func.isWrapper; rw [if_neg (by decide +kernel)]; exact ⟨rfl, rfl⟩)
    (fun os started H enc _ => lifted os started H enc)

theorem proved : Rows.ContfracChainsSaid := over
end Go.Proofs.Ytfjlecphjahahaa.chains
