/- A pair is its unit times its normal form modulo n, and a multiple of the pair by a unit has the same normal form. No condition: every input. -/
import Derived.Test.YtcgiancmponmgaaPkE
import Derived.Test.YtcgiancmponmgaaPkF
import Derived.Test.YtcgiancmponmgaaPlZ
namespace Go.Proofs.Ytcgiancmponmgaa.units
open Go Go.RowKit Go.ChangeShapes Go.WideShapes Go.ChangeAt

theorem cells_arr : Try.prog.cellsOf 31 = 2 := by kernel_rfl
theorem cells_pair : Try.prog.cellsOf 3 = 1 := by kernel_rfl
theorem open_pair64 {H : Type} {enc : TypeId × Value → H} {w : World} {r : Reach} {b0 : Nat} {v : Value} {d : DataW H} {p : List MemPlace} {base : Nat} {spare : Nat → Bool} {held : Bool}
    (hv : Value.okWide Try.prog w r b0 31 v) (h : DataW.Trod enc Try.prog w base spare held 31 v d p) : ∃ a b : Int, v = .agg #[.int .i64 a, .int .i64 b] ∧ (-9223372036854775808 ≤ a ∧ a ≤ 9223372036854775807) ∧ (-9223372036854775808 ≤ b ∧ b ≤ 9223372036854775807) := by
  simp only [Value.okWide, Try.underlying31] at hv
  obtain ⟨cs, rfl, h2, -⟩ := hv
  have h2' : cs.size = 2 := by rw [h2, cells_arr]
  obtain ⟨c0, c1, rfl⟩ : ∃ c0 c1, cs = #[c0, c1] := by
    obtain ⟨l⟩ := cs
    match l, h2' with
    | [a, b], _ => exact ⟨a, b, rfl⟩
  obtain ⟨fuel, hf⟩ := h
  cases fuel with
  | zero => simp [DataW.trod] at hf
  | succ m =>
    rw [DataW.trod_step] at hf
    unfold DataW.trodStep at hf
    simp [Try.underlying31, Value.cells, cells_pair, List.range_succ, Option.bind_eq_some_iff] at hf
    obtain ⟨-, a, q, ha, ys, ⟨a2, q2, hb, -⟩, -, -⟩ := hf
    obtain ⟨x, e0, -, wx⟩ := DataW.trod_int Try.underlying3 ha
    obtain ⟨y, e1, -, wy⟩ := DataW.trod_int Try.underlying3 hb
    simp at e0 e1
    subst e0 e1
    exact ⟨x, y, rfl, bounds_i64 wx, bounds_i64 wy⟩
set_option maxRecDepth 20000 in
set_option maxHeartbeats 4000000 in
theorem walk (n : Int) (_hn : -9223372036854775808 ≤ n ∧ n ≤ 9223372036854775807) (c d : Int) (_hc : -9223372036854775808 ≤ c ∧ c ≤ 9223372036854775807) (_hd : -9223372036854775808 ≤ d ∧ d ≤ 9223372036854775807) (s : Int) (hs : -32768 ≤ s ∧ s ≤ 32767) (w : World) :
    Calls Try.prog 4 #[.int .i64 n, .agg #[.int .i64 c, .int .i64 d], .int .i16 s] w fun e w' => e = .returned (.bool true) ∧ Grow w w' := by
  clear _hn _hc _hd
  have PN := Lib.hid (fun u => pNormal_any n c d u)
  rcases nmR_cases n c d with ⟨er, hx, he⟩ | ⟨h1, h2, bc, bd, hg, hx⟩
  · rw [hx] at PN
    have e1 : (er != 0) = true := by simpa using he
    clear hx he
    go_enter Try.func4, Try.ntmps4
    go_wp2_with fail
    go_at_call 12
    with_reducible refine (awake21_any _).mono ?_
    rintro e w1 ⟨rfl, hb1⟩
    have c0 : w1.cell? ⟨w.heap.size, 0, none⟩ = some (.int .i64 c) := by rw [hb1.cells _ _ (by simp)]; go_simp
    have c1 : w1.cell? ⟨w.heap.size, 1, none⟩ = some (.int .i64 d) := by rw [hb1.cells _ _ (by simp)]; go_simp
    have hz1 := hb1.size
    (try simp at hz1)
    have hz1b : w.heap.size < w1.heap.size := by omega
    go_wp2_with fail
    go_at_call 13
    with_reducible refine (PN.out _).mono ?_
    rintro e w2 ⟨rfl, hb2⟩
    go_wp2_with fail
    go_ret
    exact ⟨rfl, by (repeat (first | with_reducible exact Grow.refl _ | with_reducible refine Grow.alloc ?_ _ | with_reducible refine Grow.drew ?_ | with_reducible refine Grow.drewN ?_ _ | (with_reducible refine Grow.setCell ?_ ?hp _; (case hp => (simp; try omega))) | with_reducible refine Grow.trans ?_ (by assumption)))⟩
  · obtain ⟨x, hxx⟩ : ∃ x, normF n (c % n) (d % n) = x := ⟨_, rfl⟩
    obtain ⟨⟨r1, r2, r3, r4, t1, t2⟩, dvu, dvv, hmul⟩ := units_law h1 h2 hg hxx
    have hxP : nmR n c d = (x, 0) := by rw [hx, hxx]
    rw [hxP] at PN
    have bc' := inB_iff.1 bc
    have bd' := inB_iff.1 bd
    have tu0 : 0 ≤ x.t * x.u := Int.mul_nonneg (by omega) r1
    have tv0 : 0 ≤ x.t * x.v := Int.mul_nonneg (by omega) r3
    have tu1 : x.t * x.u ≤ 120 * 120 := Int.mul_le_mul (by omega) (by omega) r1 (by omega)
    have tv1 : x.t * x.v ≤ 120 * 120 := Int.mul_le_mul (by omega) (by omega) r3 (by omega)
    have y1 : IntKind.i64.wrap (x.t * x.u) = x.t * x.u := IntWalk.i64_in _ (by omega)
    have y2 : IntKind.i64.wrap (x.t * x.v) = x.t * x.v := IntWalk.i64_in _ (by omega)
    obtain ⟨E, hE⟩ : ∃ E, x.t * x.u - c = E := ⟨_, rfl⟩
    obtain ⟨F, hF⟩ : ∃ F, x.t * x.v - d = F := ⟨_, rfl⟩
    have y3 : wrap64 (x.t * x.u - c) = E := by rw [← hE]; unfold wrap64; omega
    have y4 : wrap64 (x.t * x.v - d) = F := by rw [← hF]; unfold wrap64; omega
    have y5 : IntKind.i64.wrap (x.t * x.u - c) = E := by rw [← hE]; exact IntWalk.i64_in _ (by omega)
    have y6 : IntKind.i64.wrap (x.t * x.v - d) = F := by rw [← hF]; exact IntWalk.i64_in _ (by omega)
    have y7 : E.tmod n = 0 := by rw [← hE]; exact Int.tmod_eq_zero_of_dvd dvu
    have y8 : F.tmod n = 0 := by rw [← hF]; exact Int.tmod_eq_zero_of_dvd dvv
    have n0 : ¬ n = 0 := by omega
    have n1 : (n == 0) = false := by simpa using n0
    have a1 : ¬ x.u < 0 := by omega
    have a2 : ¬ n ≤ x.u := by omega
    have a3 : ¬ x.v < 0 := by omega
    have a4 : ¬ n ≤ x.v := by omega
    have a5 : ¬ x.t < 1 := by omega
    have a6 : ¬ n < x.t := by omega
    have ys : IntKind.i64.wrap s = s := IntWalk.i64_in _ (by omega)
    have GC := Lib.hid (fun u => refGcd_any s n (by omega) (by omega) (by omega) (by omega) u)
    obtain ⟨G, hG⟩ : ∃ G : Int, ((Int.gcd s n : Nat) : Int) = G := ⟨_, rfl⟩
    rw [hG] at GC
    by_cases hG1 : G = 1
    · obtain ⟨y, hy, f1, f2, f3, f4, f5⟩ := hmul s hs.1 hs.2 (by omega)
      have PM := Lib.hid (fun u => pNormal_any n (s * x.u) (s * x.v) u)
      rw [hy, ] at PM
      have su := Int.natAbs_mul s x.u
      have sv := Int.natAbs_mul s x.v
      have su2 : s.natAbs * x.u.natAbs ≤ 32768 * x.u.natAbs := Nat.mul_le_mul_right _ (by omega)
      have sv2 : s.natAbs * x.v.natAbs ≤ 32768 * x.v.natAbs := Nat.mul_le_mul_right _ (by omega)
      have z1 : IntKind.i64.wrap (s * x.u) = s * x.u := IntWalk.i64_in _ (by generalize s * x.u = q at *; generalize s.natAbs * x.u.natAbs = r at *; omega)
      have z2 : IntKind.i64.wrap (s * x.v) = s * x.v := IntWalk.i64_in _ (by generalize s * x.v = q at *; generalize s.natAbs * x.v.natAbs = r at *; omega)
      obtain ⟨D, hD⟩ : ∃ D, y.t - s = D := ⟨_, rfl⟩
      have z3 : wrap64 (y.t - s) = D := by rw [← hD]; unfold wrap64; omega
      have z4 : IntKind.i64.wrap (y.t - s) = D := by rw [← hD]; exact IntWalk.i64_in _ (by omega)
      have z5 : D.tmod n = 0 := by rw [← hD]; exact Int.tmod_eq_zero_of_dvd f5
      have e1 : (G != 1) = false := by simpa using hG1
      have q1 : (y.u == x.u) = true := by simpa using f1
      have q2 : (y.v == x.v) = true := by simpa using f2
      clear hx hxx hxP dvu dvv hmul bc bd hg tu0 tv0 tu1 tv1 hE hF hG hG1 hy su sv su2 sv2 hD f1 f2 f5
      go_enter Try.func4, Try.ntmps4
      go_wp2_with fail
      go_at_call 12
      with_reducible refine (awake21_any _).mono ?_
      rintro e w1 ⟨rfl, hb1⟩
      have c0 : w1.cell? ⟨w.heap.size, 0, none⟩ = some (.int .i64 c) := by rw [hb1.cells _ _ (by simp)]; go_simp
      have c1 : w1.cell? ⟨w.heap.size, 1, none⟩ = some (.int .i64 d) := by rw [hb1.cells _ _ (by simp)]; go_simp
      have hz1 := hb1.size
      (try simp at hz1)
      have hz1b : w.heap.size < w1.heap.size := by omega
      go_wp2_with fail
      go_at_call 13
      with_reducible refine (PN.out _).mono ?_
      rintro e w2 ⟨rfl, hb2⟩
      have d0 : w2.cell? ⟨w.heap.size, 0, none⟩ = some (.int .i64 c) := by rw [hb2.cells _ _ hz1b]; exact c0
      have d1 : w2.cell? ⟨w.heap.size, 1, none⟩ = some (.int .i64 d) := by rw [hb2.cells _ _ hz1b]; exact c1
      have hz2 := hb2.size
      have hz2b : w.heap.size < w2.heap.size := by omega
      go_wp2_with fail
      go_at_call 15
      with_reducible refine (GC.out _).mono ?_
      rintro e w3 ⟨rfl, hb3⟩
      have x0 : w3.cell? ⟨w2.heap.size, 0, none⟩ = some (.int .i64 x.u) := by rw [hb3.cells _ _ (by simp)]; go_simp
      have x1 : w3.cell? ⟨w2.heap.size, 1, none⟩ = some (.int .i64 x.v) := by rw [hb3.cells _ _ (by simp)]; go_simp
      have x2 : w3.cell? ⟨w2.heap.size, 2, none⟩ = some (.int .i64 x.t) := by rw [hb3.cells _ _ (by simp)]; go_simp
      have hz3 := hb3.size
      (try simp at hz3)
      have hz3b : w2.heap.size < w3.heap.size := by omega
      go_wp2_with fail
      go_at_call 13
      refine (PM.out _).mono ?_
      rintro e w4 ⟨rfl, hb4⟩
      have x3 : w4.cell? ⟨w2.heap.size, 0, none⟩ = some (.int .i64 x.u) := by rw [hb4.cells _ _ hz3b]; exact x0
      have x4 : w4.cell? ⟨w2.heap.size, 1, none⟩ = some (.int .i64 x.v) := by rw [hb4.cells _ _ hz3b]; exact x1
      have hz4 := hb4.size
      have hz4b : w2.heap.size < w4.heap.size := by omega
      have n0' : ¬ n = 0 := n0
      go_wp2_with fail
      go_ret
      exact ⟨rfl, by (repeat (first | with_reducible exact Grow.refl _ | with_reducible refine Grow.alloc ?_ _ | with_reducible refine Grow.drew ?_ | with_reducible refine Grow.drewN ?_ _ | (with_reducible refine Grow.setCell ?_ ?hp _; (case hp => (simp; try omega))) | with_reducible refine Grow.trans ?_ (by assumption)))⟩
    · have e1 : (G != 1) = true := by simpa using hG1
      clear hx hxx hxP dvu dvv hmul bc bd hg tu0 tv0 tu1 tv1 hE hF hG hG1
      go_enter Try.func4, Try.ntmps4
      go_wp2_with fail
      go_at_call 12
      with_reducible refine (awake21_any _).mono ?_
      rintro e w1 ⟨rfl, hb1⟩
      have c0 : w1.cell? ⟨w.heap.size, 0, none⟩ = some (.int .i64 c) := by rw [hb1.cells _ _ (by simp)]; go_simp
      have c1 : w1.cell? ⟨w.heap.size, 1, none⟩ = some (.int .i64 d) := by rw [hb1.cells _ _ (by simp)]; go_simp
      have hz1 := hb1.size
      (try simp at hz1)
      have hz1b : w.heap.size < w1.heap.size := by omega
      go_wp2_with fail
      go_at_call 13
      with_reducible refine (PN.out _).mono ?_
      rintro e w2 ⟨rfl, hb2⟩
      have d0 : w2.cell? ⟨w.heap.size, 0, none⟩ = some (.int .i64 c) := by rw [hb2.cells _ _ hz1b]; exact c0
      have d1 : w2.cell? ⟨w.heap.size, 1, none⟩ = some (.int .i64 d) := by rw [hb2.cells _ _ hz1b]; exact c1
      have hz2 := hb2.size
      have hz2b : w.heap.size < w2.heap.size := by omega
      go_wp2_with fail
      go_at_call 15
      with_reducible refine (GC.out _).mono ?_
      rintro e w3 ⟨rfl, hb3⟩
      go_wp2_with fail
      go_ret
      exact ⟨rfl, by (repeat (first | with_reducible exact Grow.refl _ | with_reducible refine Grow.alloc ?_ _ | with_reducible refine Grow.drew ?_ | with_reducible refine Grow.drewN ?_ _ | (with_reducible refine Grow.setCell ?_ ?hp _; (case hp => (simp; try omega))) | with_reducible refine Grow.trans ?_ (by assumption)))⟩

set_option maxRecDepth 100000 in
theorem lifted (os : Os) (started : os.Started) (H : Type) (enc : TypeId × Value → H) :
    ReturnsInHanded {} Try.checked os 4 .any (Rows.projlineUnitsSpec.pre6 enc Try.prog Try.f4 Rows.projlineUnitsRow.domain false) (Rows.projlineUnitsSpec.post enc Try.prog Try.f4 false true false false) := by
  refine returnsInHanded_of_change (C := Try.checked) own started (by kernel_rfl) Try.func4
    (ChangeSpec.witness6 (enc := enc) (C := Try.checked) false ⟨#[], #[.int .i64 0, .agg #[.int .i64 0, .int .i64 0], .int .i16 0], []⟩ 8 (by kernel_rfl) (by kernel_rfl) (by kernel_rfl) (by kernel_rfl)) ?_
  intro W base args ds gs before hval0 hW hcnd _
  have hval : ∀ (j : Nat) t v, Try.f4.params[j]? = some t → args[j]? = some v → Value.okWide Try.prog W .any base t v := hval0
  have hW' := hW
  obtain ⟨p, q, hA0, hV, rfl, -, -⟩ := hW
  have hA : DataW.TrodAll enc Try.prog W 0 (fun _ => true) true Try.f4.params.toList args.toList ds p := hA0
  rw [Try.params4] at hA hval
  obtain ⟨v0, vs0, d0, ds0, p0, q0, hargs, rfl, rfl, h0, r0⟩ := trodAll_cons hA
  obtain ⟨v1, vs1, d1, ds1, p1, q1, rfl, rfl, rfl, h1, r1⟩ := trodAll_cons r0
  obtain ⟨v2, vs2, d2, ds2, p2, q2, rfl, rfl, rfl, h2, r2⟩ := trodAll_cons r1
  obtain ⟨rfl, rfl, rfl⟩ := trodAll_nil r2
  obtain rfl : args = #[v0, v1, v2] := by cases args; simp_all
  obtain ⟨rfl, rfl⟩ := trodVars_none hV
  obtain ⟨a0, rfl, rfl, -, b0⟩ := open_int Try.underlying3 (hval 0 3 v0 rfl rfl) h0
  have c0 := bounds_i64 b0
  obtain ⟨a1, b1, rfl, c1, e1⟩ := open_pair64 (hval 1 31 v1 rfl rfl) h1
  obtain ⟨a2, rfl, rfl, -, b2⟩ := open_int Try.underlying32 (hval 2 32 v2 rfl rfl) h2
  have c2 := bounds_i16 b2
  clear hA0 hval0
  refine (walk a0 c0 a1 b1 c1 e1 a2 c2 W).mono fun e W' ⟨he, hg⟩ => ?_
  subst he
  exact ⟨_, rfl, law_post 4 rfl Try.underlying4 laidOut (of_decide_eq_true (by kernel_rfl)) rfl hW' rfl hg⟩

theorem over : Rows.projlineUnitsRow.holds Try.pinned (OpenSpec.ofChange Rows.projlineUnitsSpec) :=
  OpenClaim.holds_of_wide 4 Try.f4 rfl rfl rfl rfl rfl rfl rfl ⟨rfl, rfl, rfl, rfl, rfl⟩ rfl rfl rfl rfl rfl (by kernel_rfl) Try.func4 (by kernel_rfl)
    (of_decide_eq_true (by kernel_rfl)) (by unfold Func.isWrapper; rw [if_neg (by decide +kernel)]; exact ⟨rfl, rfl⟩)
    (fun os started H enc _ => lifted os started H enc)

theorem proved : Rows.ProjlineUnitsSaid := over
end Go.Proofs.Ytcgiancmponmgaa.units
