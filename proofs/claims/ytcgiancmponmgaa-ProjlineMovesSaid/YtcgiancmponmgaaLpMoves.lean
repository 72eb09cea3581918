/- The image of a point under a matrix is that of the reference, or the error is. No condition: every input. -/
import Derived.Test.YtcgiancmponmgaaPkI
import Derived.Test.YtcgiancmponmgaaPlZ
namespace Go.Proofs.Ytcgiancmponmgaa.moves
open Go Go.RowKit Go.ChangeShapes Go.WideShapes Go.ChangeAt

set_option maxRecDepth 20000 in
set_option maxHeartbeats 4000000 in
theorem walk (n : Int) (_hn : -9223372036854775808 ≤ n ∧ n ≤ 9223372036854775807) (i : Int) (_hi : -9223372036854775808 ≤ i ∧ i ≤ 9223372036854775807) (m : M2) (w : World) :
    Calls Try.prog 7 #[.int .i64 n, .int .i64 i, .agg #[.int .i64 m.a, .int .i64 m.b, .int .i64 m.c, .int .i64 m.d]] w fun e w' => e = .returned (.bool true) ∧ Grow w w' := by
  clear _hn _hi
  have PN := Lib.hid (fun u => act_any n i m u)
  have RN := Lib.hid (fun u => refAct_any n i m u)
  obtain ⟨x, er, hx⟩ : ∃ x er, actR n i m = (x, er) := ⟨_, _, rfl⟩
  rw [hx] at PN RN
  clear hx
  go_enter Try.func7, Try.ntmps7
  go_wp2_with fail
  go_at_call 12
  with_reducible refine (awake21_any _).mono ?_
  rintro e w1 ⟨rfl, hb1⟩
  have hz1 := hb1.size
  (try simp at hz1)
  have hz1b : w.heap.size < w1.heap.size := by omega
  have c0 : w1.cell? ⟨w.heap.size, 0, none⟩ = some (.int .i64 m.a) := by rw [hb1.cells _ _ (by simp)]; go_simp
  have c1 : w1.cell? ⟨w.heap.size, 1, none⟩ = some (.int .i64 m.b) := by rw [hb1.cells _ _ (by simp)]; go_simp
  have c2 : w1.cell? ⟨w.heap.size, 2, none⟩ = some (.int .i64 m.c) := by rw [hb1.cells _ _ (by simp)]; go_simp
  have c3 : w1.cell? ⟨w.heap.size, 3, none⟩ = some (.int .i64 m.d) := by rw [hb1.cells _ _ (by simp)]; go_simp
  go_wp2_with fail
  go_at_call 21
  with_reducible refine (PN.out _).mono ?_
  rintro e w2 ⟨rfl, hb2⟩
  have hz2 := hb2.size
  have hz2b : w.heap.size < w2.heap.size := by omega
  have d0 : w2.cell? ⟨w.heap.size, 0, none⟩ = some (.int .i64 m.a) := by rw [hb2.cells _ _ (by omega)]; go_simp
  have d1 : w2.cell? ⟨w.heap.size, 1, none⟩ = some (.int .i64 m.b) := by rw [hb2.cells _ _ (by omega)]; go_simp
  have d2 : w2.cell? ⟨w.heap.size, 2, none⟩ = some (.int .i64 m.c) := by rw [hb2.cells _ _ (by omega)]; go_simp
  have d3 : w2.cell? ⟨w.heap.size, 3, none⟩ = some (.int .i64 m.d) := by rw [hb2.cells _ _ (by omega)]; go_simp
  clear c0 c1 c2 c3
  go_wp2_with fail
  go_at_call 22
  with_reducible refine (RN.out _).mono ?_
  rintro e w3 ⟨rfl, hb3⟩
  go_wp2_with fail
  go_ret
  exact ⟨rfl, (((Grow.alloc (Grow.refl w) _).trans hb1).trans hb2).trans hb3⟩

set_option maxRecDepth 100000 in
theorem lifted (os : Os) (started : os.Started) (H : Type) (enc : TypeId × Value → H) :
    ReturnsInHanded {} Try.checked os 7 .any (Rows.projlineMovesSpec.pre6 enc Try.prog Try.f7 Rows.projlineMovesRow.domain false) (Rows.projlineMovesSpec.post enc Try.prog Try.f7 false true false false) := by
  refine returnsInHanded_of_change (C := Try.checked) own started (by kernel_rfl) Try.func7
    (ChangeSpec.witness6 (enc := enc) (C := Try.checked) false ⟨#[], #[.int .i64 0, .int .i64 0, .agg #[.int .i64 0, .int .i64 0, .int .i64 0, .int .i64 0]], []⟩ 8 (by kernel_rfl) (by kernel_rfl) (by kernel_rfl) (by kernel_rfl)) ?_
  intro W base args ds gs before hval0 hW hcnd _
  have hval : ∀ (j : Nat) t v, Try.f7.params[j]? = some t → args[j]? = some v → Value.okWide Try.prog W .any base t v := hval0
  have hW' := hW
  obtain ⟨p, q, hA0, hV, rfl, -, -⟩ := hW
  have hA : DataW.TrodAll enc Try.prog W 0 (fun _ => true) true Try.f7.params.toList args.toList ds p := hA0
  rw [Try.params7] at hA hval
  obtain ⟨v0, vs0, d0, ds0, p0, q0, hargs, rfl, rfl, h0, r0⟩ := trodAll_cons hA
  obtain ⟨v1, vs1, d1, ds1, p1, q1, rfl, rfl, rfl, h1, r1⟩ := trodAll_cons r0
  obtain ⟨v2, vs2, d2, ds2, p2, q2, rfl, rfl, rfl, h2, r2⟩ := trodAll_cons r1
  obtain ⟨rfl, rfl, rfl⟩ := trodAll_nil r2
  obtain rfl : args = #[v0, v1, v2] := by cases args; simp_all
  obtain ⟨rfl, rfl⟩ := trodVars_none hV
  obtain ⟨a0, rfl, rfl, -, b0⟩ := open_int Try.underlying3 (hval 0 3 v0 rfl rfl) h0
  have c0 := bounds_i64 b0
  obtain ⟨a1, rfl, rfl, -, b1⟩ := open_int Try.underlying3 (hval 1 3 v1 rfl rfl) h1
  have c1 := bounds_i64 b1
  obtain ⟨a2, rfl, c2⟩ := open_mat (hval 2 47 v2 rfl rfl) h2
  clear hA0 hval0
  refine (walk a0 c0 a1 c1 a2 W).mono fun e W' ⟨he, hg⟩ => ?_
  subst he
  exact ⟨_, rfl, law_post 4 rfl Try.underlying4 laidOut (of_decide_eq_true (by kernel_rfl)) rfl hW' rfl hg⟩

theorem over : Rows.projlineMovesRow.holds Try.pinned (OpenSpec.ofChange Rows.projlineMovesSpec) :=
  OpenClaim.holds_of_wide 7 Try.f7 rfl rfl rfl rfl rfl rfl rfl ⟨rfl, rfl, rfl, rfl, rfl⟩ rfl rfl rfl rfl rfl (by kernel_rfl) Try.func7 (by kernel_rfl)
    (of_decide_eq_true (by kernel_rfl)) (by unfold Func.isWrapper; rw [if_neg (by decide +kernel)]; exact ⟨rfl, rfl⟩)
    (fun os started H enc _ => lifted os started H enc)

theorem proved : Rows.ProjlineMovesSaid := over
end Go.Proofs.Ytcgiancmponmgaa.moves
