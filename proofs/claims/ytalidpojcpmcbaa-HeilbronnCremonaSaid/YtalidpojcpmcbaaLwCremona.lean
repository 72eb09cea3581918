/- Cremona's matrices are as specified. No condition: every number. -/
import Derived.Test.YtalidpojcpmcbaaPlZ
import Derived.Test.YtalidpojcpmcbaaHcB
namespace Go.Proofs.Ytalidpojcpmcbaa.cremona
open Go Go.RowKit Go.ChangeShapes Go.WideShapes Go.ChangeAt

set_option maxHeartbeats 1000000 in
theorem walk_any (n : Int) (M : List M2) (er : Int) (hM : M.length ≤ 100000)
    (X : Hid (∀ w, Calls Try.prog 16 #[.int .i64 n] w fun e w' => ∃ v, e = .returned (.tuple #[v, .int .i64 er]) ∧ RdMats w' v M ∧ Grow w w'))
    (Y : Hid (∀ w, Calls Try.prog 17 #[.int .i64 n] w fun e w' => ∃ v, e = .returned (.tuple #[v, .int .i64 er]) ∧ RdMats w' v M ∧ Grow w w')) (w : World) :
    Calls Try.prog 4 #[.int .i64 n] w fun ex w' => ex = .returned (.bool true) ∧ Grow w w' := by
  go_enter Try.func4, Try.ntmps4
  go_wp2_with fail
  go_at_call 11
  refine (awake44_any _).mono ?_
  rintro e w1 ⟨rfl, hb1⟩
  have HG1 := Lib.hid hb1
  clear hb1
  go_wp2_with fail
  go_at_call 16
  with_reducible refine (X.out _).mono ?_
  rintro e w2 ⟨v2, rfl, hr2, hb2⟩
  have HG2 := Lib.hid (HG1.out.trans hb2)
  have HR2 := Lib.hid hr2
  clear hb2 hr2 HG1
  go_wp2_with fail
  go_at_call 17
  with_reducible refine (Y.out _).mono ?_
  rintro e w3 ⟨v3, rfl, hr3, hb3⟩
  have HS := Lib.hid (sameM_same M _ _ (by omega) w3 (HR2.out.grow hb3) hr3)
  have HG3 := Lib.hid (HG2.out.trans hb3)
  clear hb3 hr3 HR2 HG2
  go_wp2_with fail
  go_at_call 15
  with_reducible refine HS.out.mono ?_
  rintro e w4 ⟨rfl, hb4⟩
  have HG4 := Lib.hid (HG3.out.trans hb4)
  clear hb4
  go_wp2_with fail
  go_ret
  exact ⟨rfl, HG4.out⟩
theorem nil_rd (w : World) : RdMats w (.slice none 0 0) [] := .inl ⟨none, 0, rfl, rfl⟩
theorem of_err {f : Nat} {n er : Int} (h : ∀ w, Calls Try.prog f #[.int .i64 n] w fun e w' => e = .returned (.tuple #[.slice none 0 0, .int .i64 er]) ∧ Grow w w') (w : World) :
    Calls Try.prog f #[.int .i64 n] w fun e w' => ∃ v, e = .returned (.tuple #[v, .int .i64 er]) ∧ RdMats w' v [] ∧ Grow w w' :=
  (h w).mono fun _ w' hh => ⟨_, hh.1, nil_rd w', hh.2⟩
theorem of_ok {f : Nat} {n er : Int} {M : List M2} (h : ∀ w, Calls Try.prog f #[.int .i64 n] w fun e w' => ∃ v, e = .returned (.tuple #[v, .int .i64 er]) ∧ OwnMats w' w.heap.size v M ∧ Grow w w') (w : World) :
    Calls Try.prog f #[.int .i64 n] w fun e w' => ∃ v, e = .returned (.tuple #[v, .int .i64 er]) ∧ RdMats w' v M ∧ Grow w w' :=
  (h w).mono fun _ _ hh => by obtain ⟨v, h1, h2, h3⟩ := hh; exact ⟨v, h1, h2.rd, h3⟩
theorem pr_eq {p : Int} (h1 : 1 ≤ p) (h2 : p ≤ 128) : prF p = prR 140 p 2 ∧ crROk 200 p ((-(p - 1)).tdiv 2) = true := by
  obtain ⟨k, rfl⟩ : ∃ k : Nat, p = k := ⟨p.toNat, by omega⟩
  exact ⟨prAll_at 128 k pr_table (by omega) (by omega), crAll_at 128 k cr_table (by omega) (by omega)⟩
theorem walk (p : Int) (_ : -9223372036854775808 ≤ p ∧ p ≤ 9223372036854775807) (w : World) : Calls Try.prog 4 #[.int .i64 p] w fun ex w' => ex = .returned (.bool true) ∧ Grow w w' := by
  by_cases h : p < 1 ∨ 128 < p
  · exact walk_any p [] 2 (by decide) (Lib.hid (of_err (cremona_range p h))) (Lib.hid (of_err (refCremona_range p h))) w
  · obtain ⟨e1, e2⟩ := pr_eq (p := p) (by omega) (by omega)
    by_cases h3 : prF p = false ∨ p = 2
    · exact walk_any p [] 8 (by decide) (Lib.hid (of_err (cremona_prime p (by omega) (by omega) h3))) (Lib.hid (of_err (refCremona_prime p (by omega) (by omega) (by rw [← e1]; exact h3)))) w
    · have h4 : prF p = true := by
        cases hb : prF p with
        | true => rfl
        | false => exact absurd (.inl hb) h3
      have h5 : p ≠ 2 := fun e => h3 (.inr e)
      have hl := cr_len (n := p) (by omega) (by omega)
      exact walk_any p (crF p) 0 hl (Lib.hid (of_ok (cremona_core p (by omega) (by omega) h5 (Lib.hid h4) (Lib.hid e2) _ (Lib.hid rfl) hl))) (Lib.hid (of_ok (refCremona_core p (by omega) (by omega) h5 (Lib.hid (by rw [← e1]; exact h4)) (Lib.hid e2) _ (Lib.hid rfl) hl))) w

set_option maxRecDepth 100000 in
theorem lifted (os : Os) (started : os.Started) (H : Type) (enc : TypeId × Value → H) :
    ReturnsInHanded {} Try.checked os 4 .any (Rows.heilbronnCremonaSpec.pre6 enc Try.prog Try.f4 Rows.heilbronnCremonaRow.domain false) (Rows.heilbronnCremonaSpec.post enc Try.prog Try.f4 false true false false) := by
  refine returnsInHanded_of_change (C := Try.checked) own started (by kernel_rfl) Try.func4
    (ChangeSpec.witness6 (enc := enc) (C := Try.checked) false ⟨#[], #[.int .i64 0], []⟩ 8 (by kernel_rfl) (by kernel_rfl) (by kernel_rfl) (by kernel_rfl)) ?_
  intro W base args ds gs before hval0 hW hcnd _
  have hval : ∀ (j : Nat) t v, Try.f4.params[j]? = some t → args[j]? = some v → Value.okWide Try.prog W .any base t v := hval0
  have hW' := hW
  obtain ⟨p, q, hA0, hV, rfl, -, -⟩ := hW
  have hA : DataW.TrodAll enc Try.prog W 0 (fun _ => true) true Try.f4.params.toList args.toList ds p := hA0
  rw [Try.params4] at hA hval
  obtain ⟨v0, vs0, d0, ds0, p0, q0, hargs, rfl, rfl, h0, r0⟩ := trodAll_cons hA
  obtain ⟨rfl, rfl, rfl⟩ := trodAll_nil r0
  obtain rfl : args = #[v0] := by cases args; simp_all
  obtain ⟨rfl, rfl⟩ := trodVars_none hV
  obtain ⟨a0, rfl, rfl, -, b0⟩ := open_int Try.underlying3 (hval 0 3 v0 rfl rfl) h0
  have c0 := bounds_i64 b0
  clear hA0 hval0
  refine (walk a0 c0 W).mono fun e W' ⟨he, hg⟩ => ?_
  subst he
  exact ⟨_, rfl, law_post 4 rfl Try.underlying4 laidOut (of_decide_eq_true (by kernel_rfl)) rfl hW' rfl hg⟩

theorem over : Rows.heilbronnCremonaRow.holds Try.pinned (OpenSpec.ofChange Rows.heilbronnCremonaSpec) :=
  OpenClaim.holds_of_wide 4 Try.f4 rfl rfl rfl rfl rfl rfl rfl ⟨rfl, rfl, rfl, rfl, rfl⟩ rfl rfl rfl rfl rfl (by kernel_rfl) Try.func4 (by kernel_rfl)
    (of_decide_eq_true (by kernel_rfl)) (by unfold Func.isWrapper; rw [if_neg (by decide +kernel)]; exact ⟨rfl, rfl⟩)
    (fun os started H enc _ => lifted os started H enc)

theorem proved : Rows.HeilbronnCremonaSaid := over
end Go.Proofs.Ytalidpojcpmcbaa.cremona
