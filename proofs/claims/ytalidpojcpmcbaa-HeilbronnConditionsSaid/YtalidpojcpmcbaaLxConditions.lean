/- Whether any list satisfies Merel's condition is as specified (determinants of at most 24, lists of at most 120). No condition: every number, every list. -/
import Derived.Test.YtalidpojcpmcbaaHcY
import Derived.Test.YtalidpojcpmcbaaHcW
import Derived.Test.YtalidpojcpmcbaaHcB
namespace Go.Proofs.Ytalidpojcpmcbaa.conditions
open Go Go.RowKit Go.ChangeShapes Go.WideShapes Go.ChangeAt

theorem walk_far (n : Int) (h1 : 24 < n) (h2 : n ≤ 128) (a : Option Addr) (len cap : Nat) (w : World) :
    Calls Try.prog 5 #[.int .i64 n, .slice a len cap] w fun ex w' => ex = .returned (.bool true) ∧ Grow w w' := by
  have FA := Lib.hid (fun w => far_any n w)
  have hf : decide (24 < n ∧ n ≤ 128) = true := by simp [h1, h2]
  rw [hf] at FA
  clear hf
  go_enter Try.func5, Try.ntmps5
  go_wp2_with fail
  go_at_call 11
  refine (awake44_any _).mono ?_
  rintro e w1 ⟨rfl, hb1⟩
  have HG1 := Lib.hid hb1
  clear hb1
  go_wp2_with fail
  go_at_call 12
  with_reducible refine (FA.out _).mono ?_
  rintro e w5 ⟨rfl, hb5⟩
  have HG5 := Lib.hid (HG1.out.trans hb5)
  clear hb5 HG1
  go_wp2_with fail
  go_ret
  exact ⟨rfl, HG5.out⟩
theorem walk_long (n : Int) (hf : decide (24 < n ∧ n ≤ 128) = false) (a : Option Addr) (len cap : Nat) (hl : 120 < len) (w : World) :
    Calls Try.prog 5 #[.int .i64 n, .slice a len cap] w fun ex w' => ex = .returned (.bool true) ∧ Grow w w' := by
  have FA := Lib.hid (fun w => far_any n w)
  rw [hf] at FA
  have hl2 : (120 : Int) < len := by omega
  clear hf
  go_enter Try.func5, Try.ntmps5
  go_wp2_with fail
  go_at_call 11
  refine (awake44_any _).mono ?_
  rintro e w1 ⟨rfl, hb1⟩
  have HG1 := Lib.hid hb1
  clear hb1
  go_wp2_with fail
  go_at_call 12
  with_reducible refine (FA.out _).mono ?_
  rintro e w5 ⟨rfl, hb5⟩
  have HG5 := Lib.hid (HG1.out.trans hb5)
  clear hb5 HG1
  go_wp2_with fail
  go_ret
  exact ⟨rfl, HG5.out⟩
set_option maxHeartbeats 1000000 in
theorem walk_in (n : Int) (hf : decide (24 < n ∧ n ≤ 128) = false) (l : List M2) (a : Option Addr) (len cap : Nat) (hl : len ≤ 120) (hll : l.length ≤ 120) (R : Bool) (HR : Hid (R = true ↔ SatP n l)) (w : World) (hv : Hid (RdMats w (.slice a len cap) l)) :
    Calls Try.prog 5 #[.int .i64 n, .slice a len cap] w fun ex w' => ex = .returned (.bool true) ∧ Grow w w' := by
  obtain ⟨i0, hi0, iz0, iz1, iz2⟩ := info_parts infoM
  have FA := Lib.hid (fun w => far_any n w)
  rw [hf] at FA
  have hl2 : ¬ (120 : Int) < len := by omega
  have HLL := Lib.hid hll
  clear hf hll
  go_enter Try.func5, Try.ntmps5
  go_wp2_with fail
  go_at_call 11
  refine (awake44_any _).mono ?_
  rintro e w1 ⟨rfl, hb1⟩
  have HG1 := Lib.hid hb1
  clear hb1
  go_wp2_with fail
  go_at_call 12
  with_reducible refine (FA.out _).mono ?_
  rintro e w5 ⟨rfl, hb5⟩
  have HG5 := Lib.hid (HG1.out.trans hb5)
  have HV5 := Lib.hid (hv.out.grow HG5.out)
  clear hb5 HG1
  go_wp2_with (at_builtin; refine wpList_append_mats _ rfl _ _ 24 rfl i0 _ Try.underlying24 hi0 iz0 iz1 iz2 rfl w5.heap.size _ [] rfl (empty_own w5) _ l rfl ?rd ?len ?bb ?_)
  case rd => exact HV5.out.grow (by (repeat (first | with_reducible exact Grow.refl _ | with_reducible refine Grow.alloc ?_ _ | with_reducible refine Grow.drew ?_ | with_reducible refine Grow.drewN ?_ _ | (with_reducible refine Grow.setCell ?_ ?hp _; (case hp => (simp; try omega))) | with_reducible refine Grow.trans ?_ (by assumption))))
  case len => have := HLL.out; simp; omega
  case bb => simp
  intro v6 w6 ho6 hg6
  have hrd6 := ho6.rd
  have HR6 := Lib.hid hrd6
  have HG56 : Hid (Grow w5 w6) := Lib.hid (own_grow ((Grow.refl w5).alloc _) (empty_own w5) hg6 (Nat.le_refl _))
  have HG6 := Lib.hid (HG5.out.trans HG56.out)
  clear ho6 hg6 hrd6 HG56 HV5 HG5
  go_wp2_with fail
  go_at_call 18
  refine (satisfies_any n l _ (by have := HLL.out; omega) R HR.out _ HR6.out).mono ?_
  rintro e w7 ⟨rfl, hb7⟩
  have HG7 := Lib.hid (HG6.out.trans hb7)
  clear hb7 HG6
  go_wp2_with fail
  go_at_call 19
  refine (refsat_any n l _ (by have := HLL.out; omega) R HR.out _ (hv.out.grow HG7.out)).mono ?_
  rintro e w8 ⟨rfl, hb8⟩
  have HG8 := Lib.hid (HG7.out.trans hb8)
  clear hb8 HG7
  cases R with
  | true =>
    go_wp2_with fail
    go_ret
    exact ⟨rfl, HG8.out⟩
  | false =>
    go_wp2_with fail
    go_ret
    exact ⟨rfl, HG8.out⟩
theorem walk (n : Int) (_ : -9223372036854775808 ≤ n ∧ n ≤ 9223372036854775807) (l : List M2) (v : Value) (w : World) (hv : RdMats w v l) : Calls Try.prog 5 #[.int .i64 n, v] w fun ex w' => ex = .returned (.bool true) ∧ Grow w w' := by
  obtain ⟨a, cap, rfl⟩ := hv.form
  by_cases h : 24 < n ∧ n ≤ 128
  · exact walk_far n h.1 h.2 a _ cap w
  · have hf : decide (24 < n ∧ n ≤ 128) = false := by simpa using h
    by_cases hl : 120 < l.length
    · exact walk_long n hf a _ cap hl w
    · obtain ⟨R, hR⟩ : ∃ R : Bool, (R = true ↔ SatP n l) := ⟨satB n l, satB_iff⟩
      exact walk_in n hf l a _ cap (by omega) (by omega) R (Lib.hid hR) w (Lib.hid hv)

set_option maxRecDepth 100000 in
theorem lifted (os : Os) (started : os.Started) (H : Type) (enc : TypeId × Value → H) :
    ReturnsInHanded {} Try.checked os 5 .any (Rows.heilbronnConditionsSpec.pre6 enc Try.prog Try.f5 Rows.heilbronnConditionsRow.domain false) (Rows.heilbronnConditionsSpec.post enc Try.prog Try.f5 false true false false) := by
  refine returnsInHanded_of_change (C := Try.checked) own started (by kernel_rfl) Try.func5
    (ChangeSpec.witness6 (enc := enc) (C := Try.checked) false ⟨#[], #[.int .i64 0, .slice none 0 0], []⟩ 8 (by kernel_rfl) (by kernel_rfl) (by kernel_rfl) (by kernel_rfl)) ?_
  intro W base args ds gs before hval0 hW hcnd _
  have hval : ∀ (j : Nat) t v, Try.f5.params[j]? = some t → args[j]? = some v → Value.okWide Try.prog W .any base t v := hval0
  have hW' := hW
  obtain ⟨p, q, hA0, hV, rfl, -, -⟩ := hW
  have hA : DataW.TrodAll enc Try.prog W 0 (fun _ => true) true Try.f5.params.toList args.toList ds p := hA0
  rw [Try.params5] at hA hval
  obtain ⟨v0, vs0, d0, ds0, p0, q0, hargs, rfl, rfl, h0, r0⟩ := trodAll_cons hA
  obtain ⟨v1, vs1, d1, ds1, p1, q1, rfl, rfl, rfl, h1, r1⟩ := trodAll_cons r0
  obtain ⟨rfl, rfl, rfl⟩ := trodAll_nil r1
  obtain rfl : args = #[v0, v1] := by cases args; simp_all
  obtain ⟨rfl, rfl⟩ := trodVars_none hV
  obtain ⟨a0, rfl, rfl, -, b0⟩ := open_int Try.underlying3 (hval 0 3 v0 rfl rfl) h0
  have c0 := bounds_i64 b0
  obtain ⟨l1, c1⟩ := open_mats (hval 1 24 v1 rfl rfl) h1
  clear hA0 hval0
  refine (walk a0 c0 l1 v1 W c1).mono fun e W' ⟨he, hg⟩ => ?_
  subst he
  exact ⟨_, rfl, law_post 4 rfl Try.underlying4 laidOut (of_decide_eq_true (by kernel_rfl)) rfl hW' rfl hg⟩

theorem over : Rows.heilbronnConditionsRow.holds Try.pinned (OpenSpec.ofChange Rows.heilbronnConditionsSpec) :=
  OpenClaim.holds_of_wide 5 Try.f5 rfl rfl rfl rfl rfl rfl rfl ⟨rfl, rfl, rfl, rfl, rfl⟩ rfl rfl rfl rfl rfl (by kernel_rfl) Try.func5 (by kernel_rfl)
    (of_decide_eq_true (by kernel_rfl)) (by unfold Func.isWrapper; rw [if_neg (by decide +kernel)]; exact ⟨rfl, rfl⟩)
    (fun os started H enc _ => lifted os started H enc)

theorem proved : Rows.HeilbronnConditionsSaid := over
end Go.Proofs.Ytalidpojcpmcbaa.conditions
