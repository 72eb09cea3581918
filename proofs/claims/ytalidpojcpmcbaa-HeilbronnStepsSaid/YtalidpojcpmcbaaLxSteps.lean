/- In every chain each matrix takes infinity to where the one before takes 0, and all have the determinant n (determinants of at most 24). No condition. -/
import Derived.Test.YtalidpojcpmcbaaHcJ
import Derived.Test.YtalidpojcpmcbaaHcK
import Derived.Test.YtalidpojcpmcbaaHcM
import Derived.Test.YtalidpojcpmcbaaHcO
import Derived.Test.YtalidpojcpmcbaaHcD
import Derived.Test.YtalidpojcpmcbaaPlQ
import Derived.Deep.DeepCutAuto
import Derived.BigQuiet
namespace Go.Proofs.Ytalidpojcpmcbaa.steps
open Go Go.RowKit Go.ChangeShapes Go.WideShapes Go.ChangeAt

def mx2 (x y : Int) : Int := if y > x then y else x
def mn2 (x y : Int) : Int := if y < x then y else x
def mx4 (x y z u : Int) : Int := mx2 (mx2 (mx2 x y) z) u
def mn4 (x y z u : Int) : Int := mn2 (mn2 (mn2 x y) z) u
@[go_sem] theorem run_max_int4 {P : Program} (w : World) (ts : Array TypeId) (t : TypeId) (x y z u : Int) : (Builtin.max_ ts t #[.int .i64 x, .int .i64 y, .int .i64 z, .int .i64 u]).run P w = .ok (.int .i64 (mx4 x y z u)) w := by
  simp [Builtin.max_, Builtin.max2, mx4, mx2]
@[go_sem] theorem run_min_int4 {P : Program} (w : World) (ts : Array TypeId) (t : TypeId) (x y z u : Int) : (Builtin.min_ ts t #[.int .i64 x, .int .i64 y, .int .i64 z, .int .i64 u]).run P w = .ok (.int .i64 (mn4 x y z u)) w := by
  simp [Builtin.min_, Builtin.min2, mn4, mn2]
  rfl
theorem mx4_le {x y z u b : Int} (h1 : x ≤ b) (h2 : y ≤ b) (h3 : z ≤ b) (h4 : u ≤ b) : mx4 x y z u ≤ b := by
  have h : ∀ p q : Int, p ≤ b → q ≤ b → mx2 p q ≤ b := fun p q hp hq => by unfold mx2; split <;> assumption
  exact h _ _ (h _ _ (h _ _ h1 h2) h3) h4
theorem mn4_le {x y z u b : Int} (h1 : b ≤ x) (h2 : b ≤ y) (h3 : b ≤ z) (h4 : b ≤ u) : b ≤ mn4 x y z u := by
  have h : ∀ p q : Int, b ≤ p → b ≤ q → b ≤ mn2 p q := fun p q hp hq => by unfold mn2; split <;> assumption
  exact h _ _ (h _ _ (h _ _ h1 h2) h3) h4

set_option maxRecDepth 20000 in
theorem walk_out (n : Int) (h : n < 1 ∨ 24 < n) (a : Option Addr) (len cap : Nat) (w : World) :
    Calls Try.prog 10 #[.int .i64 n, .slice a len cap] w fun ex w' => ex = .returned (.bool true) ∧ Grow w w' := by
  by_cases h1 : n < 1
  · go_enter Try.func10, Try.ntmps10
    go_wp2_with (go_at_call 11; refine (awake44_any _).mono ?_; rintro e w1 ⟨rfl, hb1⟩)
    go_ret
    exact ⟨rfl, hb1⟩
  · have h2 : 24 < n := by omega
    go_enter Try.func10, Try.ntmps10
    go_wp2_with (go_at_call 11; refine (awake44_any _).mono ?_; rintro e w1 ⟨rfl, hb1⟩)
    go_ret
    exact ⟨rfl, hb1⟩

set_option maxRecDepth 20000 in
set_option maxHeartbeats 4000000 in
theorem walk_in (n : Int) (h1 : 1 ≤ n) (h2 : n ≤ 24) (l : List Int) (a : Option Addr) (len cap : Nat) (M : List M2) (hM0 : 0 < M.length) (hM1 : M.length ≤ 2600) (hI : Hid (∀ m ∈ M, ChInv n m))
    (hS : Hid (∀ i, i < M.length → i ≠ 0 → lnkM n (M.getD (i - 1) M2.zero) (M.getD i M2.zero))) (hT : Hid (topM (M.getD 0 M2.zero))) (hE : Hid ((M.getD (M.length - 1) M2.zero).b = 0)) (hF : Hid (M.getD 0 M2.zero = ⟨1, 0, 0, n⟩))
    (X : Hid (∀ w v, RdInts w v l → Calls Try.prog 20 #[.int .i64 n, v] w fun e w' => ∃ v, e = .returned (.tuple #[v, .int .i64 0]) ∧ OwnMats w' w.heap.size v M ∧ Grow w w')) (w : World) (hv : Hid (RdInts w (.slice a len cap) l)) :
    Calls Try.prog 10 #[.int .i64 n, .slice a len cap] w fun ex w' => ex = .returned (.bool true) ∧ Grow w w' := by
  have k1 : ¬ n < 1 := by omega
  have k2 : ¬ 24 < n := by omega
  obtain ⟨s, hs⟩ : ∃ s : Nat, M.length - 1 = s := ⟨_, rfl⟩
  have hs2 : (M.length : Int) - 1 = s := by omega
  have y5 : IntKind.i64.wrap (s : Int) = s := IntWalk.i64_in _ (by omega)
  have f3 : (0 : Int) ≤ s := by omega
  have f4 : (s : Int) < M.length := by omega
  have z1 : ¬ (M.length : Int) = 0 := by omega
  have z2 : ((M.length : Int) == 0) = false := by simpa using z1
  have HML := Lib.hid hM0
  have HM1 := Lib.hid hM1
  have HS := Lib.hid hs
  clear hM0 hM1 hs
  go_enter Try.func10, Try.ntmps10
  go_wp2_with fail
  go_at_call 11
  refine (awake44_any _).mono ?_
  rintro e w1 ⟨rfl, hb1⟩
  have HG1 := Lib.hid hb1
  clear hb1
  go_wp2_with fail
  go_at_call 20
  refine (X.out _ _ (hv.out.grow HG1.out)).mono ?_
  rintro e w2 ⟨v2, rfl, ho2, hb2⟩
  obtain ⟨g, cp, rfl, -, row, hcap⟩ := RowM.of_own ho2 HML.out
  have HG2 := Lib.hid (HG1.out.trans hb2)
  have HROW := Lib.hid row
  obtain ⟨-, c1, -, -⟩ := row.cells s (by have := HS.out; have := HML.out; omega)
  rw [← HS.out, hE.out, HS.out] at c1
  simp only at c1
  clear ho2 hb2 row hcap HG1 X
  go_wp2_with fail
  go_loopw [7] (fun t7 wr => ∃ i : Nat, i ≤ M.length ∧ t7 = .int .i64 i ∧ Hid (Grow w wr) ∧ Hid (RowM wr g M)) (fun t _ => M.length - (intOf t).toNat)
  case atStart => exact ⟨0, Nat.zero_le _, rfl, HG2.out, HROW.out⟩
  case round =>
    clear HG2 HROW c1
    obtain ⟨i, hi, rfl, hgr, hrow⟩ := hrel
    by_cases hlt : i < M.length
    · have hli : (i : Int) < M.length := by omega
      have hi0 : (0 : Int) ≤ i := by omega
      have yi : IntKind.i64.wrap ((i : Int) + 1) = (i : Int) + 1 := IntWalk.i64_in _ (by have := HM1.out; omega)
      have hinv := hI.out _ (getD_mem hlt)
      obtain ⟨c0, c1, c2, c3⟩ := hrow.out.cells i hlt
      obtain ⟨m, hm⟩ : ∃ m, M.getD i M2.zero = m := ⟨_, rfl⟩
      rw [hm] at hinv c0 c1 c2 c3
      simp only at c0 c1 c2 c3
      obtain ⟨hdet, b1, b2, b3, b4⟩ := hinv
      have hdet2 : (m.a * m.d - m.b * m.c == n) = true := by simpa using hdet
      have p1 := mul_abs (x := m.a) (y := m.d) (by omega) (by omega)
      have p2 := mul_abs (x := m.b) (y := m.c) (by omega) (by omega)
      obtain ⟨u1, hu1⟩ : ∃ u, m.a * m.d = u := ⟨_, rfl⟩
      obtain ⟨u2, hu2⟩ : ∃ u, m.b * m.c = u := ⟨_, rfl⟩
      rw [hu1] at p1 hdet
      rw [hu2] at p2 hdet
      have q1 : IntKind.i64.wrap u1 = u1 := IntWalk.i64_in _ (by omega)
      have q2 : IntKind.i64.wrap u2 = u2 := IntWalk.i64_in _ (by omega)
      have q3 : IntKind.i64.wrap (u1 - u2) = u1 - u2 := IntWalk.i64_in _ (by omega)
      have q4 : IntKind.i64.wrap n = n := IntWalk.i64_in _ (by omega)
      have HM := Lib.hid hm
      have hv5 : decide (4096 < mx4 m.a m.b m.c m.d) = false := by
        have := mx4_le (x := m.a) (y := m.b) (z := m.c) (u := m.d) (b := 4096) (by omega) (by omega) (by omega) (by omega)
        simpa using this
      have ht5 : decide (mn4 m.a m.b m.c m.d < -4096) = false := by
        have := mn4_le (x := m.a) (y := m.b) (z := m.c) (u := m.d) (b := -4096) (by omega) (by omega) (by omega) (by omega)
        simpa using this
      clear hm p1 p2 hdet2
      go_upto_region 11 with fail
      simp only [List.append]
      go_quiet (fail)
      by_cases hi00 : i = 0
      · subst hi00
        have htop := hT.out
        rw [HM.out] at htop
        clear hS
        obtain ⟨tc, ta, tb, tab⟩ := htop
        rw [tc] at c2
        have e1 : decide (m.a < 1) = false := by simpa using ta
        have e2 : decide (m.b < 0) = false := by simpa using tb
        have e3 : decide (m.a ≤ m.b) = false := by simpa using tab
        clear ta tb tab tc
        go_upto_region 14 with fail
        go_quiet (fail)
        go_wp2
        go_roundw
        case measure => simp [intOf]; omega
        case rel => exact ⟨1, by omega, by go_num, hgr.out.drewN _, hrow.out.grow ((Grow.refl wr).drewN _)⟩
      · obtain ⟨j, hj⟩ : ∃ j, i - 1 = j := ⟨_, rfl⟩
        have hlk := hS.out i hlt hi00
        rw [hj, HM.out] at hlk
        have hjl : j < M.length := by omega
        have hinvp := hI.out _ (getD_mem hjl)
        obtain ⟨d0, d1, d2, d3⟩ := hrow.out.cells j hjl
        obtain ⟨p, hp⟩ : ∃ p, M.getD j M2.zero = p := ⟨_, rfl⟩
        rw [hp] at hlk hinvp d0 d1 d2 d3
        simp only at d0 d1 d2 d3
        have x1 : (i : Int) - 1 = (j : Int) := by omega
        have x2 : IntKind.i64.wrap (j : Int) = j := IntWalk.i64_in _ (by have := HM1.out; omega)
        have x3 : (0 : Int) ≤ j := by omega
        have x4 : (j : Int) < M.length := by omega
        have x5 : ((i : Int) == 0) = false := by
          have : ¬ ((i : Int) = 0) := by omega
          simpa using this
        have x6 : (i == 0) = false := by simpa using hi00
        have HP := Lib.hid hp
        have HJ := Lib.hid hjl
        clear hp hi00 hjl hj
        by_cases hpb : p.b = 0
        · have htop := hlk.1 hpb
          rw [hpb] at d1
          clear hlk hinvp hpb hS
          obtain ⟨tc, ta, tb, tab⟩ := htop
          rw [tc] at c2
          have e1 : decide (m.a < 1) = false := by simpa using ta
          have e2 : decide (m.b < 0) = false := by simpa using tb
          have e3 : decide (m.a ≤ m.b) = false := by simpa using tab
          clear ta tb tab tc
          go_upto_region 14 with fail
          go_quiet (fail)
          go_wp2
          go_roundw
          case measure => simp [intOf]; omega
          case rel => exact ⟨i + 1, by omega, by go_num, hgr.out.drewN _, hrow.out.grow ((Grow.refl wr).drewN _)⟩
        · obtain ⟨hl1, hl2⟩ := hlk.2 hpb
          have hpe : (p.b == 0) = false := by simpa using hpb
          obtain ⟨hdetp, y1, y2, y3, y4⟩ := hinvp
          have r1 := mul_abs (x := m.a) (y := p.d) (by omega) (by omega)
          obtain ⟨w1, hw1⟩ : ∃ u, m.a * p.d = u := ⟨_, rfl⟩
          rw [hw1] at r1 hl1
          have hw2 : m.c * p.b = w1 := hl1.symm
          have r2 : IntKind.i64.wrap w1 = w1 := IntWalk.i64_in _ (by omega)
          have hokm : okM m = true := okM_iff.2 (by omega)
          have hokp : okM p = true := okM_iff.2 (by omega)
          have hdetm : m.a * m.d - m.b * m.c = n := by rw [hu1, hu2]; exact hdet
          have C1 := Lib.hid (fun w => refClass_any m n h1 (by omega) hokm hdetm w)
          have C2 := Lib.hid (fun w => refClass_any p n h1 (by omega) hokp hdetp w)
          rw [hl2] at C1
          obtain ⟨K, hK⟩ : ∃ K, clsF p n = K := ⟨_, rfl⟩
          rw [hK] at C1 C2
          have hglt := hrow.out.lt
          clear hlk hpb hS hl1 hl2 hK r1 hokm hokp hdetm hdetp
          go_upto_region 16 with fail
          have HG3 : Hid (Grow w (wr.drewN nq)) := hgr.out.drewN nq
          have hrow3 : RowM (wr.drewN nq) g M := hrow.out.grow ((Grow.refl wr).drewN nq)
          clear c0 c1 c2 c3 d0 d1 d2 d3 hglt
          generalize wr.drewN nq = wq at *
          obtain ⟨c0, c1, c2, c3⟩ := hrow3.cells i hlt
          obtain ⟨d0, d1, d2, d3⟩ := hrow3.cells j HJ.out
          rw [HM.out] at c0 c1 c2 c3
          rw [HP.out] at d0 d1 d2 d3
          simp only at c0 c1 c2 c3 d0 d1 d2 d3
          have hglt := hrow3.lt
          have HR3 := Lib.hid hrow3
          clear hrow3
          refine region_grow (by kernel_rfl) (by kernel_rfl) ?_
          intro X F hF
          have hFc := hF.cells
          haveI hFn := hF.ne
          repeat (go_big_quiet_step ((first | (go_at_call 22; with_reducible exact hF.call (C1.out _)) | (go_at_call 22; with_reducible exact hF.call (C2.out _)))))
          refine wpQuiet_nil ?_
          rintro _ ⟨x9, rfl⟩
          have hb9 := hF.grow x9
          clear hFc hFn hF
          generalize F x9 = w9 at *
          have hc9 := hb9.cells
          have hf9 := hb9.frees
          have hz9 := hb9.size
          (try simp at hz9)
          go_wp2
          go_roundw
          case measure => simp [intOf]; omega
          case rel => exact ⟨i + 1, by omega, by go_num, HG3.out.trans hb9, HR3.out.grow hb9⟩
    · have hil : i = M.length := by omega
      subst hil
      obtain ⟨c0, c1, c2, c3⟩ := hrow.out.cells 0 HML.out
      rw [hF.out] at c0 c1 c2 c3
      simp only [Nat.zero_mul, Nat.zero_add] at c0 c1 c2 c3
      have z5 : (0 : Int) < M.length := by have := HML.out; omega
      clear hlt hi
      go_wp2_with fail
      go_ret
      exact ⟨by simp, hgr.out⟩
theorem walk (n : Int) (_ : -9223372036854775808 ≤ n ∧ n ≤ 9223372036854775807) (l : List Int) (v : Value) (hl : l.length ≤ 17592186044416) (w : World) (hv : RdInts w v l) : Calls Try.prog 10 #[.int .i64 n, v] w fun ex w' => ex = .returned (.bool true) ∧ Grow w w' := by
  obtain ⟨a, cap, rfl⟩ := hv.form
  by_cases h : n < 1 ∨ 24 < n
  · exact walk_out n h a _ cap w
  · have h1 : 1 ≤ n := by omega
    have h2 : n ≤ 24 := by omega
    obtain ⟨s1, s2, s3, s4, s5⟩ := chF_steps h1 h2 l
    refine walk_in n h1 h2 l a _ cap (chF l n) s4 (chF_short h1 h2 l) (Lib.hid (chF_inv h1 h2 l)) (Lib.hid s1) (Lib.hid s2) (Lib.hid s3) (Lib.hid s5) (Lib.hid fun w v hr => ?_) w (Lib.hid hv)
    exact chains_core n l v h1 h2 _ (Lib.hid rfl) (chF_len l n) (by omega) w hr

set_option maxRecDepth 100000 in
theorem lifted (os : Os) (started : os.Started) (H : Type) (enc : TypeId × Value → H) :
    ReturnsInHanded {} Try.checked os 10 .any (Rows.heilbronnStepsSpec.pre6 enc Try.prog Try.f10 Rows.heilbronnStepsRow.domain false) (Rows.heilbronnStepsSpec.post enc Try.prog Try.f10 false true false false) := by
  refine returnsInHanded_of_change_sized (C := Try.checked) own started (by kernel_rfl) Try.func10
    (ChangeSpec.witness6 (enc := enc) (C := Try.checked) false ⟨#[], #[.int .i64 0, .slice none 0 0], []⟩ 8 (by kernel_rfl) (by kernel_rfl) (by kernel_rfl) (by kernel_rfl)) ?_
  intro W base args ds gs before hval0 hW hcnd hsz0 _
  have hval : ∀ (j : Nat) t v, Try.f10.params[j]? = some t → args[j]? = some v → Value.okWide Try.prog W .any base t v := hval0
  have hW' := hW
  obtain ⟨p, q, hA0, hV, rfl, -, -⟩ := hW
  have hA : DataW.TrodAll enc Try.prog W 0 (fun _ => true) true Try.f10.params.toList args.toList ds p := hA0
  have hsz : (DataW.weightsEach Try.prog (Try.f10.params.toList ++ Rows.heilbronnStepsSpec.plain.varTypes Try.prog) (ds ++ gs)).all (· ≤ reachBytes) = true := hsz0
  rw [Try.params10] at hA hval hsz
  obtain ⟨v0, vs0, d0, ds0, p0, q0, hargs, rfl, rfl, h0, r0⟩ := trodAll_cons hA
  obtain ⟨v1, vs1, d1, ds1, p1, q1, rfl, rfl, rfl, h1, r1⟩ := trodAll_cons r0
  obtain ⟨rfl, rfl, rfl⟩ := trodAll_nil r1
  obtain rfl : args = #[v0, v1] := by cases args; simp_all
  obtain ⟨rfl, rfl⟩ := trodVars_none hV
  obtain ⟨a0, rfl, rfl, -, b0⟩ := open_int Try.underlying3 (hval 0 3 v0 rfl rfl) h0
  have c0 := bounds_i64 b0
  obtain ⟨l1, c1, b1⟩ := open_list_sized (fun el sp e => sized_slice hsz (j := 1) rfl (by rw [e]; rfl) Try.underlying32) (hval 1 32 v1 rfl rfl) h1
  clear hA0 hval0
  refine (walk a0 c0 l1 v1 b1 W c1).mono fun e W' ⟨he, hg⟩ => ?_
  subst he
  exact ⟨_, rfl, law_post 4 rfl Try.underlying4 laidOut (of_decide_eq_true (by kernel_rfl)) rfl hW' rfl hg⟩

theorem over : Rows.heilbronnStepsRow.holds Try.pinned (OpenSpec.ofChange Rows.heilbronnStepsSpec) :=
  OpenClaim.holds_of_wide 10 Try.f10 rfl rfl rfl rfl rfl rfl rfl ⟨rfl, rfl, rfl, rfl, rfl⟩ rfl rfl rfl rfl rfl (by kernel_rfl) Try.func10 (by kernel_rfl)
    (of_decide_eq_true (by kernel_rfl)) (by unfold Func.isWrapper; rw [if_neg (by decide +kernel)]; exact ⟨rfl, rfl⟩)
    (fun os started H enc _ => lifted os started H enc)

theorem proved : Rows.HeilbronnStepsSaid := over
end Go.Proofs.Ytalidpojcpmcbaa.steps
