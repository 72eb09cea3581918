/- A list that satisfies the condition does not without one of its matrices (determinants of at most 24). No condition. -/
import Derived.Test.YtalidpojcpmcbaaHcJ
import Derived.Test.YtalidpojcpmcbaaHcK
import Derived.Test.YtalidpojcpmcbaaHcN
import Derived.Deep.DeepCutAuto
import Derived.Deep.RegionHeld3
namespace Go.Proofs.Ytalidpojcpmcbaa.less
open Go Go.RowKit Go.ChangeShapes Go.WideShapes Go.ChangeAt

theorem walk_out (n : Int) (h : n < 1 ∨ 24 < n) (a : Option Addr) (len cap : Nat) (x : Int) (w : World) :
    Calls Try.prog 8 #[.int .i64 n, .slice a len cap, .int .u16 x] w fun ex w' => ex = .returned (.bool true) ∧ Grow w w' := by
  by_cases h1 : n < 1
  · go_enter Try.func8, Try.ntmps8
    go_wp2_with (go_at_call 11; refine (awake44_any _).mono ?_; rintro e w1 ⟨rfl, hb1⟩)
    go_ret
    exact ⟨rfl, hb1⟩
  · have h2 : 24 < n := by omega
    go_enter Try.func8, Try.ntmps8
    go_wp2_with (go_at_call 11; refine (awake44_any _).mono ?_; rintro e w1 ⟨rfl, hb1⟩)
    go_ret
    exact ⟨rfl, hb1⟩

set_option maxHeartbeats 2000000 in
theorem walk_in (n : Int) (h1 : 1 ≤ n) (h2 : n ≤ 24) (l : List Int) (a : Option Addr) (len cap : Nat) (x : Nat) (hx : x ≤ 65535) (M : List M2) (hM0 : 0 < M.length) (hM1 : M.length ≤ 2600) (hS : Hid (SatP n M))
    (X : Hid (∀ w v, RdInts w v l → Calls Try.prog 20 #[.int .i64 n, v] w fun e w' => ∃ v, e = .returned (.tuple #[v, .int .i64 0]) ∧ OwnMats w' w.heap.size v M ∧ Grow w w')) (w : World) (hv : Hid (RdInts w (.slice a len cap) l)) :
    Calls Try.prog 8 #[.int .i64 n, .slice a len cap, .int .u16 x] w fun ex w' => ex = .returned (.bool true) ∧ Grow w w' := by
  have k1 : ¬ n < 1 := by omega
  have k2 : ¬ 24 < n := by omega
  obtain ⟨i, hi⟩ : ∃ i, x % M.length = i := ⟨_, rfl⟩
  have hil : i < M.length := by rw [← hi]; exact Nat.mod_lt _ hM0
  have hm1 : ((x : Int)).tmod (M.length : Int) = i := by rw [← hi]; exact (Int.ofNat_tmod x M.length).symm
  have hm2 : ((x : Int)) % (M.length : Int) = i := by rw [← hi]; exact (Int.natCast_emod x M.length).symm
  have z1 : ¬ (M.length : Int) = 0 := by omega
  have z2 : ((M.length : Int) == 0) = false := by simpa using z1
  have z3 : (0 : Int) ≤ i := by omega
  have z4 : (i : Int) < M.length := by omega
  have z5 : (0 : Int) < M.length := by omega
  have y1 : IntKind.i64.wrap (i : Int) = i := IntWalk.i64_in _ (by omega)
  have y2 : IntKind.i64.wrap (x : Int) = x := IntWalk.i64_in _ (by omega)
  have HN := Lib.hid (less_sat hS.out hil)
  have HIL := Lib.hid hil
  have HML := Lib.hid hM0
  have HM1 := Lib.hid hM1
  have y3 : IntKind.i64.wrap ((i : Int) + 1) = (i : Int) + 1 := IntWalk.i64_in _ (by omega)
  clear hi hil hM0 hM1 hx
  obtain ⟨i0, hi0, iz0, iz1, iz2⟩ := info_parts infoM
  go_enter Try.func8, Try.ntmps8
  go_wp2_with fail
  go_at_call 11
  refine (awake44_any _).mono ?_
  rintro e w1 ⟨rfl, hb1⟩
  have HG1 := Lib.hid hb1
  clear hb1
  go_wp2_with fail
  go_at_call 20
  refine (X.out _ _ (hv.out.grow HG1.out)).mono ?_
  rintro e w2 ⟨v2, rfl, ho2, hb2⟩
  obtain ⟨g, cp, rfl, hgb, row, hcap⟩ := RowM.of_own ho2 HML.out
  have HG2 := Lib.hid (HG1.out.trans hb2)
  have HROW := Lib.hid row
  have hcap' : (M.length : Int) ≤ cp := by omega
  have HCAP := Lib.hid hcap
  have z6 : (0 : Int) ≤ (i : Int) + 1 := by omega
  have z7 : (i : Int) + 1 ≤ M.length := by omega
  have z9 : ((i : Int) + 1).toNat = i + 1 := by omega
  have z8 : (i : Int) ≤ cp := by omega
  clear ho2 hb2 hgb row hcap HG1 X
  go_upto_region 9 with fail
  go_cut [10] (fun t10 wc => Hid (RdMats wc t10 (M.take i ++ M.drop (i + 1))) ∧ Hid (Grow w wc) ∧ Hid (RowM wc g M))
  case first =>
    have hcp2 := HCAP.out
    have hil2 := HIL.out
    by_cases hcpe : cp = i + 1
    · have hce : (cp = i + 1) = True := eq_true hcpe
      have hsub : M.length - (i + 1) = 0 := by omega
      have hnil : M.drop (i + 1) = [] := List.drop_eq_nil_of_le (by omega)
      have RD : Hid (∀ u c, RdMats u (.slice (some ⟨g, 0, none⟩) 0 c) (M.drop (i + 1))) := Lib.hid (fun u c => .inl ⟨_, _, rfl, hnil⟩)
      clear hnil hcp2 hil2 hcpe
      go_region_held3 (fun _ => True) (trivial)
        (first
          | (refine step_append_mats (by rfl) _ _ _ (by rfl) i0 _ Try.underlying24 hi0 iz0 iz1 iz2 rfl w2.heap.size _ [] (by rfl) (empty_own w2.drew) _ (M.take i) (by rfl) ((HROW.out.grow ((Grow.refl w2).drew.alloc _)).take HCAP.out i (Nat.le_of_lt HIL.out)) (by simp; have := HM1.out; omega) (by simp; (try exact Nat.le_succ _)) ?_; intro vA wA hoA hgA; have GA : Hid (Grow w2 wA) := Lib.hid (own_grow ((Grow.refl w2).drew.alloc _) (empty_own w2.drew) hgA (Nat.le_refl _)); have HOA := Lib.hid hoA; clear hoA hgA)
          | (refine step_append_mats (by rfl) _ _ _ (by rfl) i0 _ Try.underlying24 hi0 iz0 iz1 iz2 rfl w2.heap.size _ _ (by rfl) HOA.out _ (M.drop (i + 1)) (by rfl) (RD.out _ _) (by simp; have := HM1.out; omega) GA.out.size ?_; intro vB wB hoB hgB; have GB : Hid (Grow w2 wB) := Lib.hid (own_grow GA.out HOA.out hgB (Nat.le_refl _)); have HOB := Lib.hid hoB; clear hoB hgB))
      all_goals (go_wp2; go_meet)
      all_goals exact ⟨HOB.out.rd, HG2.out.trans GB.out, HROW.out.grow GB.out⟩
    · have RD := Lib.hid (fun (u : World) (hr : RowM u g M) => hr.drop hcp2 (i + 1) (by omega))
      clear hcp2 hil2
      go_region_held3 (fun _ => True) (trivial)
        (first
          | (refine step_append_mats (by rfl) _ _ _ (by rfl) i0 _ Try.underlying24 hi0 iz0 iz1 iz2 rfl w2.heap.size _ [] (by rfl) (empty_own w2.drew) _ (M.take i) (by rfl) ((HROW.out.grow ((Grow.refl w2).drew.alloc _)).take HCAP.out i (Nat.le_of_lt HIL.out)) (by simp; have := HM1.out; omega) (by simp; (try exact Nat.le_succ _)) ?_; intro vA wA hoA hgA; have GA : Hid (Grow w2 wA) := Lib.hid (own_grow ((Grow.refl w2).drew.alloc _) (empty_own w2.drew) hgA (Nat.le_refl _)); have HOA := Lib.hid hoA; clear hoA hgA)
          | (refine step_append_mats (by rfl) _ _ _ (by rfl) i0 _ Try.underlying24 hi0 iz0 iz1 iz2 rfl w2.heap.size _ _ (by rfl) HOA.out _ (M.drop (i + 1)) (by rfl) (RD.out _ (HROW.out.grow GA.out)) (by simp; have := HM1.out; omega) GA.out.size ?_; intro vB wB hoB hgB; have GB : Hid (Grow w2 wB) := Lib.hid (own_grow GA.out HOA.out hgB (Nat.le_refl _)); have HOB := Lib.hid hoB; clear hoB hgB))
      all_goals (go_wp2; go_meet)
      all_goals exact ⟨HOB.out.rd, HG2.out.trans GB.out, HROW.out.grow GB.out⟩
  case rest =>
    obtain ⟨HRD, HG9, HR9⟩ := hcut
    have hlen : (M.take i ++ M.drop (i + 1)).length ≤ 1152921504606846976 := by
      have := HM1.out
      simp
      omega
    go_wp2_with fail
    go_at_call 18
    refine (satisfies_any n M _ (by have := HM1.out; omega) true (iff_of_true rfl hS.out) _ (HR9.out.rd HCAP.out)).mono ?_
    rintro e w7 ⟨rfl, hb7⟩
    have HG7 := Lib.hid (HG9.out.trans hb7)
    have HR7 := Lib.hid (HRD.out.grow hb7)
    clear hb7
    go_wp2_with fail
    go_at_call 18
    refine (satisfies_any n _ _ hlen false (iff_of_false (by decide) HN.out) _ HR7.out).mono ?_
    rintro e w8 ⟨rfl, hb8⟩
    have HG8 := Lib.hid (HG7.out.trans hb8)
    clear hb8
    go_wp2_with fail
    go_ret
    exact ⟨rfl, HG8.out⟩
theorem chF_pos {n : Int} (h1 : 1 ≤ n) (l : List Int) : 0 < (chF l n).length := by
  unfold chF
  rw [chA_step (show (1 : Int) ≤ n from h1) (by simp), cB_step (by decide)]
  simp
theorem walk (n : Int) (_ : -9223372036854775808 ≤ n ∧ n ≤ 9223372036854775807) (l : List Int) (v : Value) (hl : l.length ≤ 17592186044416) (x : Int) (hx : 0 ≤ x ∧ x ≤ 65535) (w : World) (hv : RdInts w v l) : Calls Try.prog 8 #[.int .i64 n, v, .int .u16 x] w fun ex w' => ex = .returned (.bool true) ∧ Grow w w' := by
  obtain ⟨a, cap, rfl⟩ := hv.form
  by_cases h : n < 1 ∨ 24 < n
  · exact walk_out n h a _ cap x w
  · have h1 : 1 ≤ n := by omega
    have h2 : n ≤ 24 := by omega
    obtain ⟨k, rfl⟩ : ∃ k : Nat, x = k := ⟨x.toNat, by omega⟩
    refine walk_in n h1 h2 l a _ cap k (by omega) (chF l n) (chF_pos h1 l) (chF_short h1 h2 l) (Lib.hid (chF_sat h1 h2 l)) (Lib.hid fun w v hr => ?_) w (Lib.hid hv)
    exact chains_core n l v h1 h2 _ (Lib.hid rfl) (chF_len l n) (by omega) w hr

set_option maxRecDepth 100000 in
theorem lifted (os : Os) (started : os.Started) (H : Type) (enc : TypeId × Value → H) :
    ReturnsInHanded {} Try.checked os 8 .any (Rows.heilbronnLessSpec.pre6 enc Try.prog Try.f8 Rows.heilbronnLessRow.domain false) (Rows.heilbronnLessSpec.post enc Try.prog Try.f8 false true false false) := by
  refine returnsInHanded_of_change_sized (C := Try.checked) own started (by kernel_rfl) Try.func8
    (ChangeSpec.witness6 (enc := enc) (C := Try.checked) false ⟨#[], #[.int .i64 0, .slice none 0 0, .int .u16 0], []⟩ 8 (by kernel_rfl) (by kernel_rfl) (by kernel_rfl) (by kernel_rfl)) ?_
  intro W base args ds gs before hval0 hW hcnd hsz0 _
  have hval : ∀ (j : Nat) t v, Try.f8.params[j]? = some t → args[j]? = some v → Value.okWide Try.prog W .any base t v := hval0
  have hW' := hW
  obtain ⟨p, q, hA0, hV, rfl, -, -⟩ := hW
  have hA : DataW.TrodAll enc Try.prog W 0 (fun _ => true) true Try.f8.params.toList args.toList ds p := hA0
  have hsz : (DataW.weightsEach Try.prog (Try.f8.params.toList ++ Rows.heilbronnLessSpec.plain.varTypes Try.prog) (ds ++ gs)).all (· ≤ reachBytes) = true := hsz0
  rw [Try.params8] at hA hval hsz
  obtain ⟨v0, vs0, d0, ds0, p0, q0, hargs, rfl, rfl, h0, r0⟩ := trodAll_cons hA
  obtain ⟨v1, vs1, d1, ds1, p1, q1, rfl, rfl, rfl, h1, r1⟩ := trodAll_cons r0
  obtain ⟨v2, vs2, d2, ds2, p2, q2, rfl, rfl, rfl, h2, r2⟩ := trodAll_cons r1
  obtain ⟨rfl, rfl, rfl⟩ := trodAll_nil r2
  obtain rfl : args = #[v0, v1, v2] := by cases args; simp_all
  obtain ⟨rfl, rfl⟩ := trodVars_none hV
  obtain ⟨a0, rfl, rfl, -, b0⟩ := open_int Try.underlying3 (hval 0 3 v0 rfl rfl) h0
  have c0 := bounds_i64 b0
  obtain ⟨l1, c1, b1⟩ := open_list_sized (fun el sp e => sized_slice hsz (j := 1) rfl (by rw [e]; rfl) Try.underlying32) (hval 1 32 v1 rfl rfl) h1
  obtain ⟨a2, rfl, rfl, -, b2⟩ := open_int Try.underlying36 (hval 2 36 v2 rfl rfl) h2
  have c2 := bounds_u16 b2
  clear hA0 hval0
  refine (walk a0 c0 l1 v1 b1 a2 c2 W c1).mono fun e W' ⟨he, hg⟩ => ?_
  subst he
  exact ⟨_, rfl, law_post 4 rfl Try.underlying4 laidOut (of_decide_eq_true (by kernel_rfl)) rfl hW' rfl hg⟩

theorem over : Rows.heilbronnLessRow.holds Try.pinned (OpenSpec.ofChange Rows.heilbronnLessSpec) :=
  OpenClaim.holds_of_wide 8 Try.f8 rfl rfl rfl rfl rfl rfl rfl ⟨rfl, rfl, rfl, rfl, rfl⟩ rfl rfl rfl rfl rfl (by kernel_rfl) Try.func8 (by kernel_rfl)
    (of_decide_eq_true (by kernel_rfl)) (by unfold Func.isWrapper; rw [if_neg (by decide +kernel)]; exact ⟨rfl, rfl⟩)
    (fun os started H enc _ => lifted os started H enc)

theorem proved : Rows.HeilbronnLessSaid := over
end Go.Proofs.Ytalidpojcpmcbaa.less
