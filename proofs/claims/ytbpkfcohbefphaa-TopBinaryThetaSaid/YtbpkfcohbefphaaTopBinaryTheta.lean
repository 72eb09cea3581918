/- For every binary quadratic form and every precision, TopBinaryTheta returns true, and its arguments read as before. No condition. -/
import Derived.Test.YtbpkfcohbefphaaTopBinaryThetaG25
namespace Go.Proofs.Ytbpkfcohbefphaa.binarytheta
open Go Go.RowKit Go.ChangeShapes Go.WideShapes Go.ChangeAt

theorem walk (A B C : Int) (prec : Int) (_ : -9223372036854775808 ≤ prec ∧ prec ≤ 9223372036854775807) (w : World) : Calls Try.prog 3 #[.agg #[.int .i64 A, .int .i64 B, .int .i64 C], .int .i64 prec] w fun e w' => e = .returned (.bool true) ∧ Grow w w' := topBinaryQ A B C prec w

set_option maxRecDepth 100000 in
theorem lifted (os : Os) (started : os.Started) (H : Type) (enc : TypeId × Value → H) :
    ReturnsInHanded {} Try.checked os 3 .any (Rows.topBinaryThetaSpec.pre6 enc Try.prog Try.f3 Rows.topBinaryThetaRow.domain false) (Rows.topBinaryThetaSpec.post enc Try.prog Try.f3 false true false false) := by
  refine returnsInHanded_of_change (C := Try.checked) own started (by kernel_rfl) Try.func3
    (ChangeSpec.witness6 (enc := enc) (C := Try.checked) false ⟨#[], #[.agg #[.int .i64 0, .int .i64 0, .int .i64 0], .int .i64 0], []⟩ 8 (by kernel_rfl) (by kernel_rfl) (by kernel_rfl) (by kernel_rfl)) ?_
  intro W base args ds gs before hval0 hW hcnd _
  have hval : ∀ (j : Nat) t v, Try.f3.params[j]? = some t → args[j]? = some v → Value.okWide Try.prog W .any base t v := hval0
  have hW' := hW
  obtain ⟨p, q, hA0, hV, rfl, -, -⟩ := hW
  have hA : DataW.TrodAll enc Try.prog W 0 (fun _ => true) true Try.f3.params.toList args.toList ds p := hA0
  rw [Try.params3] at hA hval
  obtain ⟨v0, vs0, d0, ds0, p0, q0, hargs, rfl, rfl, h0, r0⟩ := trodAll_cons hA
  obtain ⟨v1, vs1, d1, ds1, p1, q1, rfl, rfl, rfl, h1, r1⟩ := trodAll_cons r0
  obtain ⟨rfl, rfl, rfl⟩ := trodAll_nil r1
  obtain rfl : args = #[v0, v1] := by cases args; simp_all
  obtain ⟨rfl, rfl⟩ := trodVars_none hV
  obtain ⟨a0, b0, c0, rfl⟩ := open_qf (hval 0 23 v0 rfl rfl) h0
  obtain ⟨a1, rfl, rfl, -, b1⟩ := open_int Try.underlying3 (hval 1 3 v1 rfl rfl) h1
  have c1 := bounds_i64 b1
  clear hA0 hval0
  refine (walk a0 b0 c0 a1 c1 W).mono fun e W' ⟨he, hg⟩ => ?_
  subst he
  exact ⟨_, rfl, law_post 4 rfl Try.underlying4 laidOut (of_decide_eq_true (by kernel_rfl)) rfl hW' rfl hg⟩

theorem over : Rows.topBinaryThetaRow.holds Try.pinned (OpenSpec.ofChange Rows.topBinaryThetaSpec) :=
  OpenClaim.holds_of_wide 3 Try.f3 rfl rfl rfl rfl rfl rfl rfl ⟨rfl, rfl, rfl, rfl, rfl⟩ rfl rfl rfl rfl rfl (by kernel_rfl) Try.func3 (by kernel_rfl)
    (of_decide_eq_true (by kernel_rfl)) (by unfold Func.isWrapper; rw [if_neg (by decide +kernel)]; exact ⟨rfl, rfl⟩)
    (fun os started H enc _ => lifted os started H enc)

theorem proved : Rows.TopBinaryThetaSaid := over
end Go.Proofs.Ytbpkfcohbefphaa.binarytheta
