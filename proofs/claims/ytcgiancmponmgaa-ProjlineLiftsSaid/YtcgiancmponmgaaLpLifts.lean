/- The lift of a point is that of the reference, or the error is; it is in SL2(Z) and maps (0 : 1) to the point. No condition: every input. -/
import Derived.Test.YtcgiancmponmgaaPkJ
import Derived.Test.YtcgiancmponmgaaPlZ
import Derived.Test.YtcgiancmponmgaaSlB
namespace Go.Proofs.Ytcgiancmponmgaa.lifts
open Go Go.RowKit Go.ChangeShapes Go.WideShapes Go.ChangeAt

set_option maxRecDepth 20000 in
set_option maxHeartbeats 4000000 in
theorem walk (n : Int) (_hn : -9223372036854775808 ≤ n ∧ n ≤ 9223372036854775807) (i : Int) (_hi : -9223372036854775808 ≤ i ∧ i ≤ 9223372036854775807) (w : World) :
    Calls Try.prog 11 #[.int .i64 n, .int .i64 i] w fun e w' => e = .returned (.bool true) ∧ Grow w w' := by
  clear _hn _hi
  have PN := Lib.hid (fun u => lift_any n i u)
  have RN := Lib.hid (fun u => refLift_any n i u)
  rcases ptR_cases n i with h | ⟨h1, h2, j, rfl, hj, x, hx, hxl, hin, hix⟩
  · have hl : lfR n i = (M2.zero, 2) := by unfold lfR; rw [h, if_pos (by simp)]
    rw [hl] at PN RN
    clear h hl
    obtain ⟨M, hM⟩ : ∃ M, M2.zero = M := ⟨_, rfl⟩
    rw [hM] at PN RN
    clear hM
    go_enter Try.func11, Try.ntmps11
    go_wp2_with fail
    go_at_call 12
    with_reducible refine (awake21_any _).mono ?_
    rintro e w1 ⟨rfl, hb1⟩
    go_wp2_with fail
    go_at_call 28
    with_reducible refine (PN.out _).mono ?_
    rintro e w2 ⟨rfl, hb2⟩
    have HB2 := Lib.hid (hb1.trans hb2)
    clear hb1 hb2
    go_wp2_with fail
    go_at_call 29
    with_reducible refine (RN.out _).mono ?_
    rintro e w3 ⟨rfl, hb3⟩
    have hz3 := hb3.size
    (try simp at hz3)
    have hz3b : w2.heap.size < w3.heap.size := by omega
    have c0 : w3.cell? ⟨w2.heap.size, 0, none⟩ = some (.int .i64 M.a) := by rw [hb3.cells _ _ (by simp)]; go_simp
    have c1 : w3.cell? ⟨w2.heap.size, 1, none⟩ = some (.int .i64 M.b) := by rw [hb3.cells _ _ (by simp)]; go_simp
    have c2 : w3.cell? ⟨w2.heap.size, 2, none⟩ = some (.int .i64 M.c) := by rw [hb3.cells _ _ (by simp)]; go_simp
    have c3 : w3.cell? ⟨w2.heap.size, 3, none⟩ = some (.int .i64 M.d) := by rw [hb3.cells _ _ (by simp)]; go_simp
    go_wp2_with fail
    go_ret
    exact ⟨rfl, by have h2 := HB2.out; (repeat (first | with_reducible exact Grow.refl _ | with_reducible refine Grow.alloc ?_ _ | with_reducible refine Grow.drew ?_ | with_reducible refine Grow.drewN ?_ _ | (with_reducible refine Grow.setCell ?_ ?hp _; (case hp => (simp; try omega))) | with_reducible refine Grow.trans ?_ (by assumption)))⟩
  · have hl : lfR n (j : Int) = (rsF n x.u x.v, 0) := by unfold lfR; rw [hx, if_neg (by simp)]
    rw [hl] at PN RN
    obtain ⟨q1, q2⟩ := lift_law h1 h2 hin
    have IX := Lib.hid (fun u => index_any n 0 1 u)
    rw [ixR_01 h1 h2] at IX
    obtain ⟨k, hk⟩ : ∃ k : Int, (ixF n (nm01 n) : Int) = k := ⟨_, rfl⟩
    obtain ⟨M, hM⟩ : ∃ M, rsF n x.u x.v = M := ⟨_, rfl⟩
    rw [hM] at PN RN q1 q2
    rw [hk] at IX q2
    rw [hix] at q2
    have AC := Lib.hid (fun u => act_any n k M u)
    rw [q2] at AC
    have CK := Lib.hid (fun u => check_any M u)
    rw [q1] at CK
    clear hl hx hxl hin hix hk hM q1 q2 hj
    go_enter Try.func11, Try.ntmps11
    go_wp2_with fail
    go_at_call 12
    with_reducible refine (awake21_any _).mono ?_
    rintro e w1 ⟨rfl, hb1⟩
    go_wp2_with fail
    go_at_call 28
    with_reducible refine (PN.out _).mono ?_
    rintro e w2 ⟨rfl, hb2⟩
    have HB2 := Lib.hid (hb1.trans hb2)
    clear hb1 hb2
    go_wp2_with fail
    go_at_call 29
    with_reducible refine (RN.out _).mono ?_
    rintro e w3 ⟨rfl, hb3⟩
    have hz3 := hb3.size
    (try simp at hz3)
    have hz3b : w2.heap.size < w3.heap.size := by omega
    have c0 : w3.cell? ⟨w2.heap.size, 0, none⟩ = some (.int .i64 M.a) := by rw [hb3.cells _ _ (by simp)]; go_simp
    have c1 : w3.cell? ⟨w2.heap.size, 1, none⟩ = some (.int .i64 M.b) := by rw [hb3.cells _ _ (by simp)]; go_simp
    have c2 : w3.cell? ⟨w2.heap.size, 2, none⟩ = some (.int .i64 M.c) := by rw [hb3.cells _ _ (by simp)]; go_simp
    have c3 : w3.cell? ⟨w2.heap.size, 3, none⟩ = some (.int .i64 M.d) := by rw [hb3.cells _ _ (by simp)]; go_simp
    have HB3 := Lib.hid (by have h2 := HB2.out; exact ((h2.alloc (.cells #[.int .i64 M.a, .int .i64 M.b, .int .i64 M.c, .int .i64 M.d] 47)).trans (by first | exact hb3 | skip)) : Hid (Grow w w3))
    clear hb3
    go_wp2_with fail
    go_at_call 19
    with_reducible refine (IX.out _).mono ?_
    rintro e w4 ⟨rfl, hb4⟩
    have hz4 := hb4.size
    (try simp at hz4)
    have hz4b : w2.heap.size < w4.heap.size := by omega
    have d0 : w4.cell? ⟨w2.heap.size, 0, none⟩ = some (.int .i64 M.a) := by rw [hb4.cells _ _ (by simp; omega)]; go_simp
    have d1 : w4.cell? ⟨w2.heap.size, 1, none⟩ = some (.int .i64 M.b) := by rw [hb4.cells _ _ (by simp; omega)]; go_simp
    have d2 : w4.cell? ⟨w2.heap.size, 2, none⟩ = some (.int .i64 M.c) := by rw [hb4.cells _ _ (by simp; omega)]; go_simp
    have d3 : w4.cell? ⟨w2.heap.size, 3, none⟩ = some (.int .i64 M.d) := by rw [hb4.cells _ _ (by simp; omega)]; go_simp
    clear c0 c1 c2 c3
    go_wp2_with fail
    go_at_call 21
    with_reducible refine (AC.out _).mono ?_
    rintro e w5 ⟨rfl, hb5⟩
    have hz5 := hb5.size
    have hz5b : w2.heap.size < w5.heap.size := by omega
    have k0 : w5.cell? ⟨w2.heap.size, 0, none⟩ = some (.int .i64 M.a) := (hb5.cells _ _ hz4b).trans d0
    have k1 : w5.cell? ⟨w2.heap.size, 1, none⟩ = some (.int .i64 M.b) := (hb5.cells _ _ hz4b).trans d1
    have k2 : w5.cell? ⟨w2.heap.size, 2, none⟩ = some (.int .i64 M.c) := (hb5.cells _ _ hz4b).trans d2
    have k3 : w5.cell? ⟨w2.heap.size, 3, none⟩ = some (.int .i64 M.d) := (hb5.cells _ _ hz4b).trans d3
    clear d0 d1 d2 d3
    go_wp2_with fail
    go_at_call 26
    with_reducible refine (CK.out _).mono ?_
    rintro e w6 ⟨rfl, hb6⟩
    go_wp2_with fail
    go_ret
    exact ⟨rfl, by have h2 := HB3.out.out; (repeat (first | with_reducible exact Grow.refl _ | with_reducible refine Grow.alloc ?_ _ | with_reducible refine Grow.drew ?_ | with_reducible refine Grow.drewN ?_ _ | (with_reducible refine Grow.setCell ?_ ?hp _; (case hp => (simp; try omega))) | with_reducible refine Grow.trans ?_ (by assumption)))⟩

set_option maxRecDepth 100000 in
theorem lifted (os : Os) (started : os.Started) (H : Type) (enc : TypeId × Value → H) :
    ReturnsInHanded {} Try.checked os 11 .any (Rows.projlineLiftsSpec.pre6 enc Try.prog Try.f11 Rows.projlineLiftsRow.domain false) (Rows.projlineLiftsSpec.post enc Try.prog Try.f11 false true false false) := by
  refine returnsInHanded_of_change (C := Try.checked) own started (by kernel_rfl) Try.func11
    (ChangeSpec.witness6 (enc := enc) (C := Try.checked) false ⟨#[], #[.int .i64 0, .int .i64 0], []⟩ 8 (by kernel_rfl) (by kernel_rfl) (by kernel_rfl) (by kernel_rfl)) ?_
  intro W base args ds gs before hval0 hW hcnd _
  have hval : ∀ (j : Nat) t v, Try.f11.params[j]? = some t → args[j]? = some v → Value.okWide Try.prog W .any base t v := hval0
  have hW' := hW
  obtain ⟨p, q, hA0, hV, rfl, -, -⟩ := hW
  have hA : DataW.TrodAll enc Try.prog W 0 (fun _ => true) true Try.f11.params.toList args.toList ds p := hA0
  rw [Try.params11] at hA hval
  obtain ⟨v0, vs0, d0, ds0, p0, q0, hargs, rfl, rfl, h0, r0⟩ := trodAll_cons hA
  obtain ⟨v1, vs1, d1, ds1, p1, q1, rfl, rfl, rfl, h1, r1⟩ := trodAll_cons r0
  obtain ⟨rfl, rfl, rfl⟩ := trodAll_nil r1
  obtain rfl : args = #[v0, v1] := by cases args; simp_all
  obtain ⟨rfl, rfl⟩ := trodVars_none hV
  obtain ⟨a0, rfl, rfl, -, b0⟩ := open_int Try.underlying3 (hval 0 3 v0 rfl rfl) h0
  have c0 := bounds_i64 b0
  obtain ⟨a1, rfl, rfl, -, b1⟩ := open_int Try.underlying3 (hval 1 3 v1 rfl rfl) h1
  have c1 := bounds_i64 b1
  clear hA0 hval0
  refine (walk a0 c0 a1 c1 W).mono fun e W' ⟨he, hg⟩ => ?_
  subst he
  exact ⟨_, rfl, law_post 4 rfl Try.underlying4 laidOut (of_decide_eq_true (by kernel_rfl)) rfl hW' rfl hg⟩

theorem over : Rows.projlineLiftsRow.holds Try.pinned (OpenSpec.ofChange Rows.projlineLiftsSpec) :=
  OpenClaim.holds_of_wide 11 Try.f11 rfl rfl rfl rfl rfl rfl rfl ⟨rfl, rfl, rfl, rfl, rfl⟩ rfl rfl rfl rfl rfl (by kernel_rfl) Try.func11 (by kernel_rfl)
    (of_decide_eq_true (by kernel_rfl)) (by unfold Func.isWrapper; rw [if_neg (by decide +kernel)]; exact ⟨rfl, rfl⟩)
    (fun os started H enc _ => lifted os started H enc)

theorem proved : Rows.ProjlineLiftsSaid := over
end Go.Proofs.Ytcgiancmponmgaa.lifts
