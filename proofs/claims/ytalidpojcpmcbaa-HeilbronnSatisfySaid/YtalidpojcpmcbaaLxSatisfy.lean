/- Merel's, Cremona's and all chains' matrices satisfy the condition (determinants of at most 24). No condition: every number, every list. -/
import Derived.Test.YtalidpojcpmcbaaHcJ
import Derived.Test.YtalidpojcpmcbaaHcK
import Derived.Test.YtalidpojcpmcbaaHcW
import Derived.Test.YtalidpojcpmcbaaHcX
import Derived.Test.YtalidpojcpmcbaaHcB
namespace Go.Proofs.Ytalidpojcpmcbaa.satisfy
open Go Go.RowKit Go.ChangeShapes Go.WideShapes Go.ChangeAt

theorem walk_out (n : Int) (h : n < 1 ∨ 24 < n) (a : Option Addr) (len cap : Nat) (w : World) :
    Calls Try.prog 7 #[.int .i64 n, .slice a len cap] w fun ex w' => ex = .returned (.bool true) ∧ Grow w w' := by
  by_cases h1 : n < 1
  · go_enter Try.func7, Try.ntmps7
    go_wp2_with (go_at_call 11; refine (awake44_any _).mono ?_; rintro e w1 ⟨rfl, hb1⟩)
    go_ret
    exact ⟨rfl, hb1⟩
  · have h2 : 24 < n := by omega
    go_enter Try.func7, Try.ntmps7
    go_wp2_with (go_at_call 11; refine (awake44_any _).mono ?_; rintro e w1 ⟨rfl, hb1⟩)
    go_ret
    exact ⟨rfl, hb1⟩

set_option maxHeartbeats 2000000 in
theorem walk_in (n : Int) (h1 : 1 ≤ n) (h2 : n ≤ 24) (l : List Int) (a : Option Addr) (len cap : Nat) (MA MB MC : List M2) (er : Int) (b2 : Bool) (he2 : (er != 0) = b2)
    (HA : Hid (∀ w, Calls Try.prog 13 #[.int .i64 n] w fun e w' => ∃ v, e = .returned (.tuple #[v, .int .i64 0]) ∧ RdMats w' v MA ∧ Grow w w'))
    (HB : Hid (∀ w, Calls Try.prog 16 #[.int .i64 n] w fun e w' => ∃ v, e = .returned (.tuple #[v, .int .i64 er]) ∧ RdMats w' v MB ∧ Grow w w'))
    (HC : Hid (∀ w v, RdInts w v l → Calls Try.prog 20 #[.int .i64 n, v] w fun e w' => ∃ v, e = .returned (.tuple #[v, .int .i64 0]) ∧ RdMats w' v MC ∧ Grow w w'))
    (SA1 : Hid (∀ w v, RdMats w v MA → Calls Try.prog 19 #[.int .i64 n, v] w fun e w' => e = .returned (.bool true) ∧ Grow w w'))
    (SB1 : Hid (b2 = false → ∀ w v, RdMats w v MB → Calls Try.prog 19 #[.int .i64 n, v] w fun e w' => e = .returned (.bool true) ∧ Grow w w'))
    (SC1 : Hid (∀ w v, RdMats w v MC → Calls Try.prog 19 #[.int .i64 n, v] w fun e w' => e = .returned (.bool true) ∧ Grow w w'))
    (SA2 : Hid (∀ w v, RdMats w v MA → Calls Try.prog 18 #[.int .i64 n, v] w fun e w' => e = .returned (.bool true) ∧ Grow w w'))
    (SC2 : Hid (∀ w v, RdMats w v MC → Calls Try.prog 18 #[.int .i64 n, v] w fun e w' => e = .returned (.bool true) ∧ Grow w w')) (w : World) (hv : Hid (RdInts w (.slice a len cap) l)) :
    Calls Try.prog 7 #[.int .i64 n, .slice a len cap] w fun ex w' => ex = .returned (.bool true) ∧ Grow w w' := by
  have k1 : ¬ n < 1 := by omega
  have k2 : ¬ 24 < n := by omega
  go_enter Try.func7, Try.ntmps7
  go_wp2_with fail
  go_at_call 11
  refine (awake44_any _).mono ?_
  rintro e w1 ⟨rfl, hb1⟩
  have HG1 := Lib.hid hb1
  clear hb1
  go_wp2_with fail
  go_at_call 13
  with_reducible refine (HA.out _).mono ?_
  rintro e w2 ⟨va, rfl, hra, hb2⟩
  have HG2 := Lib.hid (HG1.out.trans hb2)
  have HRA := Lib.hid hra
  clear hb2 hra
  go_wp2_with fail
  go_at_call 16
  with_reducible refine (HB.out _).mono ?_
  rintro e w3 ⟨vb, rfl, hrb, hb3⟩
  have HG3 := Lib.hid (HG2.out.trans hb3)
  have HRA3 := Lib.hid (HRA.out.grow hb3)
  have HRB := Lib.hid hrb
  clear hb3 hrb HRA
  go_wp2_with fail
  go_at_call 20
  refine (HC.out _ _ (hv.out.grow HG3.out)).mono ?_
  rintro e w4 ⟨vc, rfl, hrc, hb4⟩
  have HG4 := Lib.hid (HG3.out.trans hb4)
  have HRA4 := Lib.hid (HRA3.out.grow hb4)
  have HRB4 := Lib.hid (HRB.out.grow hb4)
  have HRC4 := Lib.hid hrc
  clear hb4 hrc HRA3 HRB
  go_wp2_with fail
  go_at_call 19
  with_reducible refine (SA1.out _ _ HRA4.out).mono ?_
  rintro e w5 ⟨rfl, hb5⟩
  have HG5 := Lib.hid (HG4.out.trans hb5)
  have HRA5 := Lib.hid (HRA4.out.grow hb5)
  have HRB5 := Lib.hid (HRB4.out.grow hb5)
  have HRC5 := Lib.hid (HRC4.out.grow hb5)
  clear hb5 HRA4 HRB4 HRC4
  go_wp2_with fail
  go_at_call 19
  with_reducible refine (SC1.out _ _ HRC5.out).mono ?_
  rintro e w6 ⟨rfl, hb6⟩
  have HG6 := Lib.hid (HG5.out.trans hb6)
  have HRA6 := Lib.hid (HRA5.out.grow hb6)
  have HRB6 := Lib.hid (HRB5.out.grow hb6)
  have HRC6 := Lib.hid (HRC5.out.grow hb6)
  clear hb6 HRA5 HRB5 HRC5
  cases b2 with
  | true =>
    go_wp2_with fail
    go_at_call 18
    with_reducible refine (SA2.out _ _ HRA6.out).mono ?_
    rintro e w7 ⟨rfl, hb7⟩
    have HG7 := Lib.hid (HG6.out.trans hb7)
    have HRC7 := Lib.hid (HRC6.out.grow hb7)
    clear hb7
    go_wp2_with fail
    go_at_call 18
    with_reducible refine (SC2.out _ _ HRC7.out).mono ?_
    rintro e w8 ⟨rfl, hb8⟩
    have HG8 := Lib.hid (HG7.out.trans hb8)
    clear hb8
    go_wp2_with fail
    go_ret
    exact ⟨rfl, HG8.out⟩
  | false =>
    go_wp2_with fail
    go_at_call 19
    with_reducible refine (SB1.out (by first | trivial | rfl) _ _ HRB6.out).mono ?_
    rintro e w9 ⟨rfl, hb9⟩
    have HG9 := Lib.hid (HG6.out.trans hb9)
    have HRA9 := Lib.hid (HRA6.out.grow hb9)
    have HRC9 := Lib.hid (HRC6.out.grow hb9)
    clear hb9
    go_wp2_with fail
    go_at_call 18
    with_reducible refine (SA2.out _ _ HRA9.out).mono ?_
    rintro e w7 ⟨rfl, hb7⟩
    have HG7 := Lib.hid (HG9.out.trans hb7)
    have HRC7 := Lib.hid (HRC9.out.grow hb7)
    clear hb7
    go_wp2_with fail
    go_at_call 18
    with_reducible refine (SC2.out _ _ HRC7.out).mono ?_
    rintro e w8 ⟨rfl, hb8⟩
    have HG8 := Lib.hid (HG7.out.trans hb8)
    clear hb8
    go_wp2_with fail
    go_ret
    exact ⟨rfl, HG8.out⟩
theorem pr_eq2 {p : Int} (h1 : 1 ≤ p) (h2 : p ≤ 128) : crROk 200 p ((-(p - 1)).tdiv 2) = true := by
  obtain ⟨k, rfl⟩ : ∃ k : Nat, p = k := ⟨p.toNat, by omega⟩
  exact crAll_at 128 k cr_table (by omega) (by omega)
theorem walk (n : Int) (_ : -9223372036854775808 ≤ n ∧ n ≤ 9223372036854775807) (l : List Int) (v : Value) (hl : l.length ≤ 17592186044416) (w : World) (hv : RdInts w v l) : Calls Try.prog 7 #[.int .i64 n, v] w fun ex w' => ex = .returned (.bool true) ∧ Grow w w' := by
  obtain ⟨a, cap, rfl⟩ := hv.form
  by_cases h : n < 1 ∨ 24 < n
  · exact walk_out n h a _ cap w
  · have h1 : 1 ≤ n := by omega
    have h2 : n ≤ 24 := by omega
    have HA : Hid (∀ w, Calls Try.prog 13 #[.int .i64 n] w fun e w' => ∃ v, e = .returned (.tuple #[v, .int .i64 0]) ∧ RdMats w' v (merF n) ∧ Grow w w') :=
      Lib.hid (fun w => (merel_core n h1 h2 _ (Lib.hid rfl) (mer_eq h1 h2).2 w).mono fun _ _ hh => by obtain ⟨v, g1, g2, g3⟩ := hh; exact ⟨v, g1, g2.rd, g3⟩)
    have HC : Hid (∀ w v, RdInts w v l → Calls Try.prog 20 #[.int .i64 n, v] w fun e w' => ∃ v, e = .returned (.tuple #[v, .int .i64 0]) ∧ RdMats w' v (chF l n) ∧ Grow w w') :=
      Lib.hid (fun w v hr => (chains_core n l v h1 h2 _ (Lib.hid rfl) (chF_len l n) (by omega) w hr).mono fun _ _ hh => by obtain ⟨v, g1, g2, g3⟩ := hh; exact ⟨v, g1, g2.rd, g3⟩)
    have ref : ∀ M, SatP n M → Hid (∀ w v, RdMats w v M → Calls Try.prog 19 #[.int .i64 n, v] w fun e w' => e = .returned (.bool true) ∧ Grow w w') := fun M hs =>
      Lib.hid (fun w v hr => refsat_any n M v (by have := hs.1.2.2; omega) true (iff_of_true rfl hs) w hr)
    have own : ∀ M, SatP n M → Hid (∀ w v, RdMats w v M → Calls Try.prog 18 #[.int .i64 n, v] w fun e w' => e = .returned (.bool true) ∧ Grow w w') := fun M hs =>
      Lib.hid (fun w v hr => satisfies_any n M v (by have := hs.1.2.2; omega) true (iff_of_true rfl hs) w hr)
    have sa := mer_sat h1 h2
    have sc := chF_sat h1 h2 l
    by_cases h3 : prF n = false ∨ n = 2
    · exact walk_in n h1 h2 l a _ cap (merF n) [] (chF l n) 8 true rfl HA (Lib.hid (fun w => (cremona_prime n h1 (by omega) h3 w).mono fun _ w' hh => ⟨_, hh.1, .inl ⟨none, 0, rfl, rfl⟩, hh.2⟩)) HC (ref _ sa) (Lib.hid (fun h => by cases h)) (ref _ sc) (own _ sa) (own _ sc) w (Lib.hid hv)
    · have h4 : prF n = true := by
        cases hb : prF n with
        | true => rfl
        | false => exact absurd (.inl hb) h3
      have h5 : n ≠ 2 := fun e => h3 (.inr e)
      have hl2 := cr_len (n := n) h1 (by omega)
      have sb := cr_sat h1 h2 h4 h5
      exact walk_in n h1 h2 l a _ cap (merF n) (crF n) (chF l n) 0 false rfl HA (Lib.hid (fun w => (cremona_core n h1 (by omega) h5 (Lib.hid h4) (Lib.hid (pr_eq2 h1 (by omega))) _ (Lib.hid rfl) hl2 w).mono fun _ _ hh => by obtain ⟨v, g1, g2, g3⟩ := hh; exact ⟨v, g1, g2.rd, g3⟩)) HC (ref _ sa) (Lib.hid (fun _ => (ref _ sb).out)) (ref _ sc) (own _ sa) (own _ sc) w (Lib.hid hv)

set_option maxRecDepth 100000 in
theorem lifted (os : Os) (started : os.Started) (H : Type) (enc : TypeId × Value → H) :
    ReturnsInHanded {} Try.checked os 7 .any (Rows.heilbronnSatisfySpec.pre6 enc Try.prog Try.f7 Rows.heilbronnSatisfyRow.domain false) (Rows.heilbronnSatisfySpec.post enc Try.prog Try.f7 false true false false) := by
  refine returnsInHanded_of_change_sized (C := Try.checked) own started (by kernel_rfl) Try.func7
    (ChangeSpec.witness6 (enc := enc) (C := Try.checked) false ⟨#[], #[.int .i64 0, .slice none 0 0], []⟩ 8 (by kernel_rfl) (by kernel_rfl) (by kernel_rfl) (by kernel_rfl)) ?_
  intro W base args ds gs before hval0 hW hcnd hsz0 _
  have hval : ∀ (j : Nat) t v, Try.f7.params[j]? = some t → args[j]? = some v → Value.okWide Try.prog W .any base t v := hval0
  have hW' := hW
  obtain ⟨p, q, hA0, hV, rfl, -, -⟩ := hW
  have hA : DataW.TrodAll enc Try.prog W 0 (fun _ => true) true Try.f7.params.toList args.toList ds p := hA0
  have hsz : (DataW.weightsEach Try.prog (Try.f7.params.toList ++ Rows.heilbronnSatisfySpec.plain.varTypes Try.prog) (ds ++ gs)).all (· ≤ reachBytes) = true := hsz0
  rw [Try.params7] at hA hval hsz
  obtain ⟨v0, vs0, d0, ds0, p0, q0, hargs, rfl, rfl, h0, r0⟩ := trodAll_cons hA
  obtain ⟨v1, vs1, d1, ds1, p1, q1, rfl, rfl, rfl, h1, r1⟩ := trodAll_cons r0
  obtain ⟨rfl, rfl, rfl⟩ := trodAll_nil r1
  obtain rfl : args = #[v0, v1] := by cases args; simp_all
  obtain ⟨rfl, rfl⟩ := trodVars_none hV
  obtain ⟨a0, rfl, rfl, -, b0⟩ := open_int Try.underlying3 (hval 0 3 v0 rfl rfl) h0
  have c0 := bounds_i64 b0
  obtain ⟨l1, c1, b1⟩ := open_list_sized (fun el sp e => sized_slice hsz (j := 1) rfl (by rw [e]; rfl) Try.underlying32) (hval 1 32 v1 rfl rfl) h1
  clear hA0 hval0
  refine (walk a0 c0 l1 v1 b1 W c1).mono fun e W' ⟨he, hg⟩ => ?_
  subst he
  exact ⟨_, rfl, law_post 4 rfl Try.underlying4 laidOut (of_decide_eq_true (by kernel_rfl)) rfl hW' rfl hg⟩

theorem over : Rows.heilbronnSatisfyRow.holds Try.pinned (OpenSpec.ofChange Rows.heilbronnSatisfySpec) :=
  OpenClaim.holds_of_wide 7 Try.f7 rfl rfl rfl rfl rfl rfl rfl ⟨rfl, rfl, rfl, rfl, rfl⟩ rfl rfl rfl rfl rfl (by kernel_rfl) Try.func7 (by kernel_rfl)
    (of_decide_eq_true (by kernel_rfl)) (by unfold Func.isWrapper; rw [if_neg (by decide +kernel)]; exact ⟨rfl, rfl⟩)
    (fun os started H enc _ => lifted os started H enc)

theorem proved : Rows.HeilbronnSatisfySaid := over
end Go.Proofs.Ytalidpojcpmcbaa.satisfy
