/- No fraction with a smaller denominator than a convergent is better than the convergent before it. No condition: every cusp, every index, every fraction. -/
import Derived.Test.YtfjlecphjahahaaCfZ
import Derived.Test.YtfjlecphjahahaaCfI
import Derived.Test.YtfjlecphjahahaaPlM
namespace Go.Proofs.Ytfjlecphjahahaa.best
open Go Go.RowKit Go.ChangeShapes Go.WideShapes Go.ChangeAt

set_option maxHeartbeats 1000000 in
theorem walk_err (c : C2) (i r s : Int) (L : List Int) (er : Int) (n : Nat) (hn : Hid (L.length = n)) (he : er ≠ 0 ∨ (er = 0 ∧ n < 2)) (X : Hid (∀ w, Calls Try.prog 16 #[.agg #[.int .i64 c.p, .int .i64 c.q]] w fun e w' => ∃ v, e = .returned (.tuple #[v, .int .i64 er]) ∧ OwnInts w' w.heap.size v L ∧ Grow w w')) (w : World) :
    Calls Try.prog 4 #[.agg #[.int .i64 c.p, .int .i64 c.q], .int .u8 i, .agg #[.int .i32 r, .int .i32 s]] w fun ex w' => ex = .returned (.bool true) ∧ Grow w w' := by
  go_enter Try.func4, Try.ntmps4
  go_wp2_with fail
  (go_at_call 13; refine (awake19_any _).mono ?_; rintro e w1 ⟨rfl, hb1⟩; have hc1 := hb1.cells; have hf1 := hb1.frees; have hz1 := hb1.size; (try simp at hz1))
  have z1 : w.heap.size < w1.heap.size := by omega
  have hG1 : Grow w w1 := by (repeat (first | with_reducible exact Grow.refl _ | with_reducible refine Grow.alloc ?_ _ | with_reducible refine Grow.drew ?_ | with_reducible refine Grow.drewN ?_ _ | (with_reducible refine Grow.setCell ?_ ?hp _; (case hp => (simp; try omega))) | with_reducible refine Grow.trans ?_ (by assumption)))
  go_wp2_with fail
  go_at_call 16
  refine (X.out _).mono ?_
  rintro e w2 ⟨v2, rfl, ho2, hb2⟩
  have hG2 := hG1.trans hb2
  obtain ⟨ao, c2, rfl⟩ := ho2.rd.form
  rw [hn.out]
  clear ho2 hb1 hb2 hG1 X hc1 hf1
  rcases he with he | ⟨rfl, hlt⟩
  · have e1 : (er == 0) = false := by simpa using he
    have e2 : (er != 0) = true := by simpa using he
    clear he
    go_wp2_with fail
    go_ret
    exact ⟨rfl, hG2⟩
  · have hlt2 : (n : Int) < 2 := by omega
    go_wp2_with fail
    go_ret
    exact ⟨rfl, hG2⟩

set_option maxHeartbeats 2000000 in
theorem walk_core (c : C2) (h0 : ccF c = 0) (i r s : Int) (hi : 0 ≤ i) (hi2 : i ≤ 255) (hr : -2147483648 ≤ r) (hr2 : r ≤ 2147483647) (hs : -2147483648 ≤ s) (hs2 : s ≤ 2147483647)
    (L : List Int) (n : Nat) (hn : Hid (L.length = n)) (hn2 : 2 ≤ n) (hn3 : n ≤ 64) (x : List C2) (hx : Hid (x.length = n)) (hC : Hid (convF L = (x, 0)))
    (hT : Hid (∀ j, 1 ≤ j → j < x.length → ∃ s t : Int, 0 < s ∧ 0 ≤ t ∧ c.p = s * (x.getD j C2.zero).p + t * (x.getD (j - 1) C2.zero).p ∧ c.q = s * (x.getD j C2.zero).q + t * (x.getD (j - 1) C2.zero).q))
    (X : Hid (∀ w, Calls Try.prog 16 #[.agg #[.int .i64 c.p, .int .i64 c.q]] w fun e w' => ∃ v, e = .returned (.tuple #[v, .int .i64 0]) ∧ OwnInts w' w.heap.size v L ∧ Grow w w')) (w : World) :
    Calls Try.prog 4 #[.agg #[.int .i64 c.p, .int .i64 c.q], .int .u8 i, .agg #[.int .i32 r, .int .i32 s]] w fun ex w' => ex = .returned (.bool true) ∧ Grow w w' := by
  obtain ⟨g1, g2, g3, -, -⟩ := ccF_zero.1 h0
  clear h0
  go_enter Try.func4, Try.ntmps4
  go_wp2_with fail
  (go_at_call 13; refine (awake19_any _).mono ?_; rintro e w1 ⟨rfl, hb1⟩; have hc1 := hb1.cells; have hf1 := hb1.frees; have hz1 := hb1.size; (try simp at hz1))
  have z1 : w.heap.size < w1.heap.size := by omega
  have z2 : w.heap.size + 1 < w1.heap.size := by omega
  have hG1 : Grow w w1 := by (repeat (first | with_reducible exact Grow.refl _ | with_reducible refine Grow.alloc ?_ _ | with_reducible refine Grow.drew ?_ | with_reducible refine Grow.drewN ?_ _ | (with_reducible refine Grow.setCell ?_ ?hp _; (case hp => (simp; try omega))) | with_reducible refine Grow.trans ?_ (by assumption)))
  have c0 : w1.cell? ⟨w.heap.size, 0, none⟩ = some (.int .i64 c.p) := by rw [hc1 _ _ (by simp; try omega)]; go_simp
  have c1 : w1.cell? ⟨w.heap.size, 1, none⟩ = some (.int .i64 c.q) := by rw [hc1 _ _ (by simp; try omega)]; go_simp
  have c2 : w1.cell? ⟨w.heap.size + 1, 0, none⟩ = some (.int .i32 r) := by rw [hc1 _ _ (by simp; try omega)]; go_simp
  have c3 : w1.cell? ⟨w.heap.size + 1, 1, none⟩ = some (.int .i32 s) := by rw [hc1 _ _ (by simp; try omega)]; go_simp
  clear hc1 hf1 hb1
  go_wp2_with fail
  go_at_call 16
  refine (X.out _).mono ?_
  rintro e w2 ⟨v2, rfl, ho2, hb2⟩
  have HC := Lib.hid (conv_any L v2 (by have := hn.out; omega) w2 ho2.rd)
  rw [hC.out] at HC
  obtain ⟨ao, cc2, rfl⟩ := ho2.rd.form
  rw [hn.out] at HC ⊢
  have hlt2 : ¬ (n : Int) < 2 := by omega
  clear ho2
  go_wp2_with fail
  go_at_call 14
  refine HC.out.mono ?_
  rintro e w3 ⟨v3, rfl, ho3, hb3⟩
  have hG13 := hb2.trans hb3
  have hG3 := hG1.trans hG13
  obtain ⟨g, cap3, rfl, -, row3, -⟩ := RowAt.of_own ho3 (by rw [hx.out]; omega)
  rw [hx.out]
  have d0 : w3.cell? ⟨w.heap.size, 0, none⟩ = some (.int .i64 c.p) := (hG13.cells _ _ z1).trans c0
  have d1 : w3.cell? ⟨w.heap.size, 1, none⟩ = some (.int .i64 c.q) := (hG13.cells _ _ z1).trans c1
  have d2 : w3.cell? ⟨w.heap.size + 1, 0, none⟩ = some (.int .i32 r) := (hG13.cells _ _ z2).trans c2
  have d3 : w3.cell? ⟨w.heap.size + 1, 1, none⟩ = some (.int .i32 s) := (hG13.cells _ _ z2).trans c3
  have hsz := hG13.size
  have z3 : w.heap.size < w3.heap.size := by omega
  have z4 : w.heap.size + 1 < w3.heap.size := by omega
  have zg := row3.lt
  have Row3 := Lib.hid row3
  have HG3 := Lib.hid hG3
  clear ho3 hb2 hb3 hG1 hG13 hG3 HC X c0 c1 c2 c3 row3 z1 z2 hsz hz1
  obtain ⟨m, hm⟩ : ∃ m : Nat, (n : Int) - 1 = m := ⟨n - 1, by omega⟩
  have hm0 : ¬ (m : Int) = 0 := by omega
  have hm1 : ((m : Int) == 0) = false := by simpa using hm0
  obtain ⟨t, ht⟩ : ∃ t, i.tmod m = t := ⟨_, rfl⟩
  have ht0 : 0 ≤ t := by rw [← ht]; exact Int.tmod_nonneg _ hi
  have ht1 : t < m := by rw [← ht]; exact Int.tmod_lt_of_pos _ (by omega)
  obtain ⟨k, hk⟩ : ∃ k : Nat, 1 + t = k := ⟨(1 + t).toNat, by omega⟩
  have hk1 : 1 ≤ k := by omega
  have hk2 : k < n := by omega
  have y1 : IntKind.i64.wrap (m : Int) = m := IntWalk.i64_in _ (by omega)
  have y2 : IntKind.i64.wrap (k : Int) = k := IntWalk.i64_in _ (by omega)
  have y3 : IntKind.i64.wrap t = t := IntWalk.i64_in _ (by omega)
  have y4 : IntKind.i64.wrap i = i := IntWalk.i64_in _ (by omega)
  have y5 : IntKind.i64.wrap r = r := IntWalk.i64_in _ (by omega)
  have y6 : IntKind.i64.wrap s = s := IntWalk.i64_in _ (by omega)
  go_wp2_with fail
  go_region
  obtain ⟨d4, d5⟩ := Row3.out.cells k (by rw [hx.out]; exact hk2)
  obtain ⟨d6, d7⟩ := Row3.out.cells (k - 1) (by rw [hx.out]; omega)
  obtain ⟨hdet, hbds⟩ := conv_spec hC.out
  obtain ⟨hcr, -⟩ := hdet k hk1 (by rw [hx.out]; exact hk2)
  obtain ⟨b1, b2, b2'⟩ := hbds k (by rw [hx.out]; exact hk2)
  obtain ⟨b3, b4, b4'⟩ := hbds (k - 1) (by rw [hx.out]; omega)
  obtain ⟨S, T, hS, hT1, hT2, hT3⟩ := hT.out k hk1 (by rw [hx.out]; exact hk2)
  obtain ⟨j, hj⟩ : ∃ j : Nat, k - 1 = j := ⟨_, rfl⟩
  have hj2 : (k : Int) - 1 = j := by omega
  rw [hj] at d6 d7 hcr b3 b4 b4' hT2 hT3
  obtain ⟨u, hu⟩ : ∃ u, x.getD k C2.zero = u := ⟨_, rfl⟩
  obtain ⟨v, hv⟩ : ∃ v, x.getD j C2.zero = v := ⟨_, rfl⟩
  rw [hu] at d4 d5 hcr b1 b2 b2' hT2 hT3
  rw [hv] at d6 d7 hcr b3 b4 b4' hT2 hT3
  simp only [Nat.zero_add] at d4 d5 d6 d7
  have hdd : Hid (cross u v = 1 ∨ cross u v = -1) := by show cross u v = 1 ∨ cross u v = -1; omega
  have HT : Hid (0 < S ∧ 0 ≤ T ∧ c.p = S * u.p + T * v.p ∧ c.q = S * u.q + T * v.q) := ⟨hS, hT1, hT2, hT3⟩
  have f1 : (0 : Int) ≤ k := by omega
  have f2 : (k : Int) < n := by omega
  have f3 : (0 : Int) ≤ j := by omega
  have f4 : (j : Int) < n := by omega
  have y7 : IntKind.i64.wrap (j : Int) = j := IntWalk.i64_in _ (by omega)
  have Hq := Lib.hid g2
  clear hS hT1 hT2 hT3 hu hv hcr hdet hbds hj hm ht ht0 ht1 hk y1 y3 y4 y5 hm0 hm1 hT hC g2
  by_cases hs0 : s ≤ 0
  · go_wp2_with fail
    go_ret
    exact ⟨rfl, HG3.out.drew⟩
  · have hs1 : decide (s ≤ 0) = false := by simpa using hs0
    by_cases hsq : u.q ≤ s
    · go_wp2_with fail
      go_ret
      exact ⟨rfl, HG3.out.drew⟩
    · have hsq1 : decide (u.q ≤ s) = false := by rw [decide_eq_false_iff_not]; exact hsq
      have hbest := best (b := v) (b' := u) (p0 := c.p) (q0 := c.q) (r := r) (s := s) HT.out.1 HT.out.2.1 HT.out.2.2.1 HT.out.2.2.2 hdd.out (by omega) (by omega) (by omega)
      obtain ⟨e1, e2⟩ := inB_iff.1 g1
      obtain ⟨e3, e4⟩ := inB_iff.1 g3
      obtain ⟨p1, p2⟩ := mul_bd (a := s) (x := c.p) 2147483648 1073741824 (by omega) (by omega) e1 e2
      obtain ⟨p3, p4⟩ := mul_bd (a := r) (x := c.q) 2147483648 1073741824 (by omega) (by omega) e3 e4
      obtain ⟨p5, p6⟩ := mul_in b4 g1
      obtain ⟨p7, p8⟩ := mul_in b3 g3
      have w1 : IntKind.i64.wrap (s * c.p) = s * c.p := IntWalk.i64_in _ (by omega)
      have w2 : IntKind.i64.wrap (r * c.q) = r * c.q := IntWalk.i64_in _ (by omega)
      have w3 : IntKind.i64.wrap (v.q * c.p) = v.q * c.p := IntWalk.i64_in _ (by omega)
      have w4 : IntKind.i64.wrap (v.p * c.q) = v.p * c.q := IntWalk.i64_in _ (by omega)
      obtain ⟨A, hA⟩ : ∃ A, s * c.p - r * c.q = A := ⟨_, rfl⟩
      obtain ⟨B, hB⟩ : ∃ B, v.q * c.p - v.p * c.q = B := ⟨_, rfl⟩
      rw [hA, hB] at hbest
      have hA1 : -4611686018427387904 ≤ A ∧ A ≤ 4611686018427387904 := by omega
      have hB1 : -4611686018427387904 ≤ B ∧ B ≤ 4611686018427387904 := by omega
      obtain ⟨hA1, hA2⟩ := hA1
      obtain ⟨hB1, hB2⟩ := hB1
      have w5 : IntKind.i64.wrap A = A := IntWalk.i64_in _ (by omega)
      have w6 : IntKind.i64.wrap B = B := IntWalk.i64_in _ (by omega)
      have w7 : IntKind.i64.wrap (-A) = -A := IntWalk.i64_in _ (by omega)
      have w8 : IntKind.i64.wrap (-B) = -B := IntWalk.i64_in _ (by omega)
      clear p1 p2 p3 p4 p5 p6 p7 p8 b1 b2 b2' b3 b4 b4' g1 g3 e1 e2 e3 e4 hs0 hsq
      go_wp2_with fail
      go_quiet (fail)
      go_wp2
      all_goals go_ret
      all_goals exact ⟨congrArg (fun b => Ending.returned (Value.bool b)) (decide_eq_true (by omega)), HG3.out.drewN _⟩

theorem cells_pair : Try.prog.cellsOf 21 = 1 := by kernel_rfl
theorem cells_arr : Try.prog.cellsOf 32 = 2 := by kernel_rfl
theorem open_pair {H : Type} {enc : TypeId × Value → H} {w : World} {r : Reach} {b0 : Nat} {v : Value} {d : DataW H} {p : List MemPlace} {base : Nat} {spare : Nat → Bool} {held : Bool}
    (hv : Value.okWide Try.prog w r b0 32 v) (h : DataW.Trod enc Try.prog w base spare held 32 v d p) : ∃ a b : Int, v = .agg #[.int .i32 a, .int .i32 b] ∧ (-2147483648 ≤ a ∧ a ≤ 2147483647) ∧ (-2147483648 ≤ b ∧ b ≤ 2147483647) := by
  simp only [Value.okWide, Try.underlying32] at hv
  obtain ⟨cs, rfl, h2, -⟩ := hv
  have h2' : cs.size = 2 := by rw [h2, cells_arr]
  obtain ⟨c0, c1, rfl⟩ : ∃ c0 c1, cs = #[c0, c1] := by
    obtain ⟨l⟩ := cs
    match l, h2' with
    | [a, b], _ => exact ⟨a, b, rfl⟩
  obtain ⟨fuel, hf⟩ := h
  cases fuel with
  | zero => simp [DataW.trod] at hf
  | succ m =>
    rw [DataW.trod_step] at hf
    unfold DataW.trodStep at hf
    simp [Try.underlying32, Value.cells, cells_pair, List.range_succ, Option.bind_eq_some_iff] at hf
    obtain ⟨-, a, q, ha, ys, ⟨a2, q2, hb, -⟩, -, -⟩ := hf
    obtain ⟨x, e0, -, wx⟩ := DataW.trod_int Try.underlying21 ha
    obtain ⟨y, e1, -, wy⟩ := DataW.trod_int Try.underlying21 hb
    simp at e0 e1
    subst e0 e1
    exact ⟨x, y, rfl, bounds_i32 wx, bounds_i32 wy⟩

theorem walk (c : C2) (i : Int) (hi : 0 ≤ i ∧ i ≤ 255) (r s : Int) (hr : -2147483648 ≤ r ∧ r ≤ 2147483647) (hs : -2147483648 ≤ s ∧ s ≤ 2147483647) (w : World) :
    Calls Try.prog 4 #[.agg #[.int .i64 c.p, .int .i64 c.q], .int .u8 i, .agg #[.int .i32 r, .int .i32 s]] w fun ex w' => ex = .returned (.bool true) ∧ Grow w w' := by
  have X := Lib.hid (fun w => expand_any c w)
  by_cases h0 : ccF c = 0 ∧ c.q ≠ 0
  · obtain ⟨x, e1, e2, e3, e4, e5, e6⟩ := exp_top h0.1 h0.2
    have hl := convF_some e2
    rw [e1] at X
    by_cases hn : (expandF c).1.length < 2
    · exact walk_err c i r s _ 0 _ (Lib.hid rfl) (.inr ⟨rfl, hn⟩) X w
    · exact walk_core c h0.1 i r s hi.1 hi.2 hr.1 hr.2 hs.1 hs.2 _ _ (Lib.hid rfl) (by omega) (by omega) x (Lib.hid e3) (Lib.hid e2) (Lib.hid e6) X w
  · refine walk_err c i r s _ _ _ (Lib.hid rfl) (.inl ?_) X w
    unfold expandF
    by_cases h1 : ccF c = 0
    · rw [if_pos h1, if_pos (by omega)]; simp
    · rw [if_neg h1]; exact h1

set_option maxRecDepth 100000 in
theorem lifted (os : Os) (started : os.Started) (H : Type) (enc : TypeId × Value → H) :
    ReturnsInHanded {} Try.checked os 4 .any (Rows.contfracBestSpec.pre6 enc Try.prog Try.f4 Rows.contfracBestRow.domain false) (Rows.contfracBestSpec.post enc Try.prog Try.f4 false true false false) := by
  refine returnsInHanded_of_change (C := Try.checked) own started (by kernel_rfl) Try.func4
    (ChangeSpec.witness6 (enc := enc) (C := Try.checked) false ⟨#[], #[.agg #[.int .i64 0, .int .i64 0], .int .u8 0, .agg #[.int .i32 0, .int .i32 0]], []⟩ 8 (by kernel_rfl) (by kernel_rfl) (by kernel_rfl) (by kernel_rfl)) ?_
  intro W base args ds gs before hval0 hW hcnd _
  have hval : ∀ (j : Nat) t v, Try.f4.params[j]? = some t → args[j]? = some v → Value.okWide Try.prog W .any base t v := hval0
  have hW' := hW
  obtain ⟨p, q, hA0, hV, rfl, -, -⟩ := hW
  have hA : DataW.TrodAll enc Try.prog W 0 (fun _ => true) true Try.f4.params.toList args.toList ds p := hA0
  rw [Try.params4] at hA hval
  obtain ⟨v0, vs0, d0, ds0, p0, q0, hargs, rfl, rfl, h0, r0⟩ := trodAll_cons hA
  obtain ⟨v1, vs1, d1, ds1, p1, q1, rfl, rfl, rfl, h1, r1⟩ := trodAll_cons r0
  obtain ⟨v2, vs2, d2, ds2, p2, q2, rfl, rfl, rfl, h2, r2⟩ := trodAll_cons r1
  obtain ⟨rfl, rfl, rfl⟩ := trodAll_nil r2
  obtain rfl : args = #[v0, v1, v2] := by cases args; simp_all
  obtain ⟨rfl, rfl⟩ := trodVars_none hV
  obtain ⟨a0, rfl, c0⟩ := open_cusp (hval 0 29 v0 rfl rfl) h0
  obtain ⟨a1, rfl, rfl, -, b1⟩ := open_int Try.underlying5 (hval 1 5 v1 rfl rfl) h1
  have c1 := bounds_u8 b1
  obtain ⟨a2, b2, rfl, c2, e2⟩ := open_pair (hval 2 32 v2 rfl rfl) h2
  clear hA0 hval0
  refine (walk a0 a1 c1 a2 b2 c2 e2 W).mono fun e W' ⟨he, hg⟩ => ?_
  subst he
  exact ⟨_, rfl, law_post 4 rfl Try.underlying4 laidOut (of_decide_eq_true (by kernel_rfl)) rfl hW' rfl hg⟩

theorem over : Rows.contfracBestRow.holds Try.pinned (OpenSpec.ofChange Rows.contfracBestSpec) :=
  OpenClaim.holds_of_wide 4 Try.f4 rfl rfl rfl rfl rfl rfl rfl ⟨rfl, rfl, rfl, rfl, rfl⟩ rfl rfl rfl rfl rfl (by kernel_rfl) Try.func4 (by kernel_rfl)
    (of_decide_eq_true (by kernel_rfl)) (by unfold Func.isWrapper; rw [if_neg (by decide +kernel)]; exact ⟨rfl, rfl⟩)
    (fun os started H enc _ => lifted os started H enc)

theorem proved : Rows.ContfracBestSaid := over
end Go.Proofs.Ytfjlecphjahahaa.best
