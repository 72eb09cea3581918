/- The index of a point is that of the reference, or the error is. No condition: every input. -/
import Derived.Test.YtcgiancmponmgaaPkG
import Derived.Test.YtcgiancmponmgaaPlZ
namespace Go.Proofs.Ytcgiancmponmgaa.indexes
open Go Go.RowKit Go.ChangeShapes Go.WideShapes Go.ChangeAt

set_option maxRecDepth 20000 in
set_option maxHeartbeats 4000000 in
theorem walk (n : Int) (_hn : -9223372036854775808 ≤ n ∧ n ≤ 9223372036854775807) (c : Int) (_hc : -9223372036854775808 ≤ c ∧ c ≤ 9223372036854775807) (d : Int) (_hd : -9223372036854775808 ≤ d ∧ d ≤ 9223372036854775807) (w : World) :
    Calls Try.prog 6 #[.int .i64 n, .int .i64 c, .int .i64 d] w fun e w' => e = .returned (.bool true) ∧ Grow w w' := by
  clear _hn _hc _hd
  have PN := Lib.hid (fun u => index_any n c d u)
  have RN := Lib.hid (fun u => refIndex_any n c d u)
  obtain ⟨x, er, hx⟩ : ∃ x er, ixR n c d = (x, er) := ⟨_, _, rfl⟩
  rw [hx] at PN RN
  clear hx
  go_enter Try.func6, Try.ntmps6
  go_wp2_with fail
  go_at_call 12
  with_reducible refine (awake21_any _).mono ?_
  rintro e w1 ⟨rfl, hb1⟩
  go_wp2_with fail
  go_at_call 19
  with_reducible refine (PN.out _).mono ?_
  rintro e w2 ⟨rfl, hb2⟩
  go_wp2_with fail
  go_at_call 20
  with_reducible refine (RN.out _).mono ?_
  rintro e w3 ⟨rfl, hb3⟩
  go_wp2_with fail
  go_ret
  exact ⟨rfl, (hb1.trans hb2).trans hb3⟩

set_option maxRecDepth 100000 in
theorem lifted (os : Os) (started : os.Started) (H : Type) (enc : TypeId × Value → H) :
    ReturnsInHanded {} Try.checked os 6 .any (Rows.projlineIndexesSpec.pre6 enc Try.prog Try.f6 Rows.projlineIndexesRow.domain false) (Rows.projlineIndexesSpec.post enc Try.prog Try.f6 false true false false) := by
  refine returnsInHanded_of_change (C := Try.checked) own started (by kernel_rfl) Try.func6
    (ChangeSpec.witness6 (enc := enc) (C := Try.checked) false ⟨#[], #[.int .i64 0, .int .i64 0, .int .i64 0], []⟩ 8 (by kernel_rfl) (by kernel_rfl) (by kernel_rfl) (by kernel_rfl)) ?_
  intro W base args ds gs before hval0 hW hcnd _
  have hval : ∀ (j : Nat) t v, Try.f6.params[j]? = some t → args[j]? = some v → Value.okWide Try.prog W .any base t v := hval0
  have hW' := hW
  obtain ⟨p, q, hA0, hV, rfl, -, -⟩ := hW
  have hA : DataW.TrodAll enc Try.prog W 0 (fun _ => true) true Try.f6.params.toList args.toList ds p := hA0
  rw [Try.params6] at hA hval
  obtain ⟨v0, vs0, d0, ds0, p0, q0, hargs, rfl, rfl, h0, r0⟩ := trodAll_cons hA
  obtain ⟨v1, vs1, d1, ds1, p1, q1, rfl, rfl, rfl, h1, r1⟩ := trodAll_cons r0
  obtain ⟨v2, vs2, d2, ds2, p2, q2, rfl, rfl, rfl, h2, r2⟩ := trodAll_cons r1
  obtain ⟨rfl, rfl, rfl⟩ := trodAll_nil r2
  obtain rfl : args = #[v0, v1, v2] := by cases args; simp_all
  obtain ⟨rfl, rfl⟩ := trodVars_none hV
  obtain ⟨a0, rfl, rfl, -, b0⟩ := open_int Try.underlying3 (hval 0 3 v0 rfl rfl) h0
  have c0 := bounds_i64 b0
  obtain ⟨a1, rfl, rfl, -, b1⟩ := open_int Try.underlying3 (hval 1 3 v1 rfl rfl) h1
  have c1 := bounds_i64 b1
  obtain ⟨a2, rfl, rfl, -, b2⟩ := open_int Try.underlying3 (hval 2 3 v2 rfl rfl) h2
  have c2 := bounds_i64 b2
  clear hA0 hval0
  refine (walk a0 c0 a1 c1 a2 c2 W).mono fun e W' ⟨he, hg⟩ => ?_
  subst he
  exact ⟨_, rfl, law_post 4 rfl Try.underlying4 laidOut (of_decide_eq_true (by kernel_rfl)) rfl hW' rfl hg⟩

theorem over : Rows.projlineIndexesRow.holds Try.pinned (OpenSpec.ofChange Rows.projlineIndexesSpec) :=
  OpenClaim.holds_of_wide 6 Try.f6 rfl rfl rfl rfl rfl rfl rfl ⟨rfl, rfl, rfl, rfl, rfl⟩ rfl rfl rfl rfl rfl (by kernel_rfl) Try.func6 (by kernel_rfl)
    (of_decide_eq_true (by kernel_rfl)) (by unfold Func.isWrapper; rw [if_neg (by decide +kernel)]; exact ⟨rfl, rfl⟩)
    (fun os started H enc _ => lifted os started H enc)

theorem proved : Rows.ProjlineIndexesSaid := over
end Go.Proofs.Ytcgiancmponmgaa.indexes
