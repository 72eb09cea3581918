/- A matrix of SL2(Z) leaves (0 : 1) unchanged if and only if n divides its lower left entry. No condition: every input. -/
import Derived.Test.YtcgiancmponmgaaPkJ
import Derived.Test.YtcgiancmponmgaaPlZ
import Derived.Test.YtcgiancmponmgaaSlB
namespace Go.Proofs.Ytcgiancmponmgaa.stabilizes
open Go Go.RowKit Go.ChangeShapes Go.WideShapes Go.ChangeAt

set_option maxRecDepth 20000 in
set_option maxHeartbeats 4000000 in
theorem walk (n : Int) (_hn : -9223372036854775808 ≤ n ∧ n ≤ 9223372036854775807) (m : M2) (w : World) :
    Calls Try.prog 10 #[.int .i64 n, .agg #[.int .i64 m.a, .int .i64 m.b, .int .i64 m.c, .int .i64 m.d]] w fun e w' => e = .returned (.bool true) ∧ Grow w w' := by
  clear _hn
  have IX := Lib.hid (fun u => index_any n 0 1 u)
  have CK := Lib.hid (fun u => check_any m u)
  by_cases h : 1 ≤ n ∧ n ≤ 120
  · rw [ixR_01 h.1 h.2] at IX
    by_cases hm : checkF m = 0
    · rw [hm] at CK
      obtain ⟨k, hk, hki⟩ := act_stab h.1 h.2 hm
      obtain ⟨i0, hi0⟩ : ∃ i0 : Int, (ixF n (nm01 n) : Int) = i0 := ⟨_, rfl⟩
      rw [hi0] at IX hk hki
      have AC := Lib.hid (fun u => act_any n i0 m u)
      rw [hk] at AC
      have MD := Lib.hid (fun u => pmod_any m.c n (by omega) (by omega) u)
      obtain ⟨r, hr⟩ : ∃ r, m.c % n = r := ⟨_, rfl⟩
      rw [hr] at MD hki
      have hbb : (k == i0) = (r == 0) := by
        by_cases h0 : r = 0
        · have h1 := hki.2 h0; simp [h0, h1]
        · have h1 : ¬ k = i0 := fun e => h0 (hki.1 e)
          rw [beq_eq_false_iff_ne.2 h0, beq_eq_false_iff_ne.2 h1]
      obtain ⟨b, hb⟩ : ∃ b, (r == 0) = b := ⟨_, rfl⟩
      rw [hb] at hbb
      clear hm hk hki hi0 hr h
      go_enter Try.func10, Try.ntmps10
      go_wp2_with fail
      go_at_call 12
      with_reducible refine (awake21_any _).mono ?_
      rintro e w1 ⟨rfl, hb1⟩
      have hz1 := hb1.size
      (try simp at hz1)
      have hz1b : w.heap.size < w1.heap.size := by omega
      have c0 : w1.cell? ⟨w.heap.size, 0, none⟩ = some (.int .i64 m.a) := by rw [hb1.cells _ _ (by simp)]; go_simp
      have c1 : w1.cell? ⟨w.heap.size, 1, none⟩ = some (.int .i64 m.b) := by rw [hb1.cells _ _ (by simp)]; go_simp
      have c2 : w1.cell? ⟨w.heap.size, 2, none⟩ = some (.int .i64 m.c) := by rw [hb1.cells _ _ (by simp)]; go_simp
      have c3 : w1.cell? ⟨w.heap.size, 3, none⟩ = some (.int .i64 m.d) := by rw [hb1.cells _ _ (by simp)]; go_simp
      have HB1 := Lib.hid (Grow.trans (Grow.alloc (Grow.refl w) _) hb1)
      clear hb1
      go_wp2_with fail
      go_at_call 19
      with_reducible refine (IX.out _).mono ?_
      rintro e w2 ⟨rfl, hb2⟩
      have hz2 := hb2.size
      have hz2b : w.heap.size < w2.heap.size := by omega
      have d0 : w2.cell? ⟨w.heap.size, 0, none⟩ = some (.int .i64 m.a) := (hb2.cells _ _ hz1b).trans c0
      have d1 : w2.cell? ⟨w.heap.size, 1, none⟩ = some (.int .i64 m.b) := (hb2.cells _ _ hz1b).trans c1
      have d2 : w2.cell? ⟨w.heap.size, 2, none⟩ = some (.int .i64 m.c) := (hb2.cells _ _ hz1b).trans c2
      have d3 : w2.cell? ⟨w.heap.size, 3, none⟩ = some (.int .i64 m.d) := (hb2.cells _ _ hz1b).trans c3
      have HB2 := Lib.hid (HB1.out.trans hb2)
      clear hb2 c0 c1 c2 c3
      go_wp2_with fail
      go_at_call 26
      with_reducible refine (CK.out _).mono ?_
      rintro e w3 ⟨rfl, hb3⟩
      have hz3 := hb3.size
      have hz3b : w.heap.size < w3.heap.size := by omega
      have k0 : w3.cell? ⟨w.heap.size, 0, none⟩ = some (.int .i64 m.a) := (hb3.cells _ _ hz2b).trans d0
      have k1 : w3.cell? ⟨w.heap.size, 1, none⟩ = some (.int .i64 m.b) := (hb3.cells _ _ hz2b).trans d1
      have k2 : w3.cell? ⟨w.heap.size, 2, none⟩ = some (.int .i64 m.c) := (hb3.cells _ _ hz2b).trans d2
      have k3 : w3.cell? ⟨w.heap.size, 3, none⟩ = some (.int .i64 m.d) := (hb3.cells _ _ hz2b).trans d3
      have HB3 := Lib.hid (HB2.out.trans hb3)
      clear hb3 d0 d1 d2 d3
      go_wp2_with fail
      go_at_call 21
      with_reducible refine (AC.out _).mono ?_
      rintro e w4 ⟨rfl, hb4⟩
      have hz4 := hb4.size
      have hz4b : w.heap.size < w4.heap.size := by omega
      have c0 : w4.cell? ⟨w.heap.size, 0, none⟩ = some (.int .i64 m.a) := (hb4.cells _ _ hz3b).trans k0
      have c1 : w4.cell? ⟨w.heap.size, 1, none⟩ = some (.int .i64 m.b) := (hb4.cells _ _ hz3b).trans k1
      have c2 : w4.cell? ⟨w.heap.size, 2, none⟩ = some (.int .i64 m.c) := (hb4.cells _ _ hz3b).trans k2
      have c3 : w4.cell? ⟨w.heap.size, 3, none⟩ = some (.int .i64 m.d) := (hb4.cells _ _ hz3b).trans k3
      have HB4 := Lib.hid (HB3.out.trans hb4)
      clear hb4 k0 k1 k2 k3
      go_wp2_with (go_at_call 27; (with_reducible refine (MD.out _).mono ?_); (rintro e w5 ⟨rfl, rfl⟩))
      go_ret
      exact ⟨rfl, HB4.out⟩
    · obtain ⟨c, hc⟩ : ∃ c, checkF m = c := ⟨_, rfl⟩
      rw [hc] at CK hm
      have e1 : (c != 0) = true := by simpa using hm
      obtain ⟨i0, hi0⟩ : ∃ i0 : Int, (ixF n (nm01 n) : Int) = i0 := ⟨_, rfl⟩
      rw [hi0] at IX
      clear hm hc hi0 h
      go_enter Try.func10, Try.ntmps10
      go_wp2_with fail
      go_at_call 12
      with_reducible refine (awake21_any _).mono ?_
      rintro e w1 ⟨rfl, hb1⟩
      have hz1 := hb1.size
      (try simp at hz1)
      have hz1b : w.heap.size < w1.heap.size := by omega
      have c0 : w1.cell? ⟨w.heap.size, 0, none⟩ = some (.int .i64 m.a) := by rw [hb1.cells _ _ (by simp)]; go_simp
      have c1 : w1.cell? ⟨w.heap.size, 1, none⟩ = some (.int .i64 m.b) := by rw [hb1.cells _ _ (by simp)]; go_simp
      have c2 : w1.cell? ⟨w.heap.size, 2, none⟩ = some (.int .i64 m.c) := by rw [hb1.cells _ _ (by simp)]; go_simp
      have c3 : w1.cell? ⟨w.heap.size, 3, none⟩ = some (.int .i64 m.d) := by rw [hb1.cells _ _ (by simp)]; go_simp
      have HB1 := Lib.hid (Grow.trans (Grow.alloc (Grow.refl w) _) hb1)
      clear hb1
      go_wp2_with fail
      go_at_call 19
      with_reducible refine (IX.out _).mono ?_
      rintro e w2 ⟨rfl, hb2⟩
      have hz2 := hb2.size
      have hz2b : w.heap.size < w2.heap.size := by omega
      have d0 : w2.cell? ⟨w.heap.size, 0, none⟩ = some (.int .i64 m.a) := (hb2.cells _ _ hz1b).trans c0
      have d1 : w2.cell? ⟨w.heap.size, 1, none⟩ = some (.int .i64 m.b) := (hb2.cells _ _ hz1b).trans c1
      have d2 : w2.cell? ⟨w.heap.size, 2, none⟩ = some (.int .i64 m.c) := (hb2.cells _ _ hz1b).trans c2
      have d3 : w2.cell? ⟨w.heap.size, 3, none⟩ = some (.int .i64 m.d) := (hb2.cells _ _ hz1b).trans c3
      have HB2 := Lib.hid (HB1.out.trans hb2)
      clear hb2 c0 c1 c2 c3
      go_wp2_with fail
      go_at_call 26
      with_reducible refine (CK.out _).mono ?_
      rintro e w3 ⟨rfl, hb3⟩
      have hz3 := hb3.size
      have hz3b : w.heap.size < w3.heap.size := by omega
      have k0 : w3.cell? ⟨w.heap.size, 0, none⟩ = some (.int .i64 m.a) := (hb3.cells _ _ hz2b).trans d0
      have k1 : w3.cell? ⟨w.heap.size, 1, none⟩ = some (.int .i64 m.b) := (hb3.cells _ _ hz2b).trans d1
      have k2 : w3.cell? ⟨w.heap.size, 2, none⟩ = some (.int .i64 m.c) := (hb3.cells _ _ hz2b).trans d2
      have k3 : w3.cell? ⟨w.heap.size, 3, none⟩ = some (.int .i64 m.d) := (hb3.cells _ _ hz2b).trans d3
      have HB3 := Lib.hid (HB2.out.trans hb3)
      clear hb3 d0 d1 d2 d3
      go_wp2_with fail
      go_ret
      exact ⟨rfl, HB3.out⟩
  · rw [ixR_01_bad h] at IX
    clear h
    go_enter Try.func10, Try.ntmps10
    go_wp2_with fail
    go_at_call 12
    with_reducible refine (awake21_any _).mono ?_
    rintro e w1 ⟨rfl, hb1⟩
    have hz1 := hb1.size
    (try simp at hz1)
    have hz1b : w.heap.size < w1.heap.size := by omega
    have c0 : w1.cell? ⟨w.heap.size, 0, none⟩ = some (.int .i64 m.a) := by rw [hb1.cells _ _ (by simp)]; go_simp
    have c1 : w1.cell? ⟨w.heap.size, 1, none⟩ = some (.int .i64 m.b) := by rw [hb1.cells _ _ (by simp)]; go_simp
    have c2 : w1.cell? ⟨w.heap.size, 2, none⟩ = some (.int .i64 m.c) := by rw [hb1.cells _ _ (by simp)]; go_simp
    have c3 : w1.cell? ⟨w.heap.size, 3, none⟩ = some (.int .i64 m.d) := by rw [hb1.cells _ _ (by simp)]; go_simp
    have HB1 := Lib.hid (Grow.trans (Grow.alloc (Grow.refl w) _) hb1)
    clear hb1
    go_wp2_with fail
    go_at_call 19
    with_reducible refine (IX.out _).mono ?_
    rintro e w2 ⟨rfl, hb2⟩
    have hz2 := hb2.size
    have hz2b : w.heap.size < w2.heap.size := by omega
    have d0 : w2.cell? ⟨w.heap.size, 0, none⟩ = some (.int .i64 m.a) := (hb2.cells _ _ hz1b).trans c0
    have d1 : w2.cell? ⟨w.heap.size, 1, none⟩ = some (.int .i64 m.b) := (hb2.cells _ _ hz1b).trans c1
    have d2 : w2.cell? ⟨w.heap.size, 2, none⟩ = some (.int .i64 m.c) := (hb2.cells _ _ hz1b).trans c2
    have d3 : w2.cell? ⟨w.heap.size, 3, none⟩ = some (.int .i64 m.d) := (hb2.cells _ _ hz1b).trans c3
    have HB2 := Lib.hid (HB1.out.trans hb2)
    clear hb2 c0 c1 c2 c3
    go_wp2_with fail
    go_ret
    exact ⟨rfl, HB2.out⟩

set_option maxRecDepth 100000 in
theorem lifted (os : Os) (started : os.Started) (H : Type) (enc : TypeId × Value → H) :
    ReturnsInHanded {} Try.checked os 10 .any (Rows.projlineStabilizesSpec.pre6 enc Try.prog Try.f10 Rows.projlineStabilizesRow.domain false) (Rows.projlineStabilizesSpec.post enc Try.prog Try.f10 false true false false) := by
  refine returnsInHanded_of_change (C := Try.checked) own started (by kernel_rfl) Try.func10
    (ChangeSpec.witness6 (enc := enc) (C := Try.checked) false ⟨#[], #[.int .i64 0, .agg #[.int .i64 0, .int .i64 0, .int .i64 0, .int .i64 0]], []⟩ 8 (by kernel_rfl) (by kernel_rfl) (by kernel_rfl) (by kernel_rfl)) ?_
  intro W base args ds gs before hval0 hW hcnd _
  have hval : ∀ (j : Nat) t v, Try.f10.params[j]? = some t → args[j]? = some v → Value.okWide Try.prog W .any base t v := hval0
  have hW' := hW
  obtain ⟨p, q, hA0, hV, rfl, -, -⟩ := hW
  have hA : DataW.TrodAll enc Try.prog W 0 (fun _ => true) true Try.f10.params.toList args.toList ds p := hA0
  rw [Try.params10] at hA hval
  obtain ⟨v0, vs0, d0, ds0, p0, q0, hargs, rfl, rfl, h0, r0⟩ := trodAll_cons hA
  obtain ⟨v1, vs1, d1, ds1, p1, q1, rfl, rfl, rfl, h1, r1⟩ := trodAll_cons r0
  obtain ⟨rfl, rfl, rfl⟩ := trodAll_nil r1
  obtain rfl : args = #[v0, v1] := by cases args; simp_all
  obtain ⟨rfl, rfl⟩ := trodVars_none hV
  obtain ⟨a0, rfl, rfl, -, b0⟩ := open_int Try.underlying3 (hval 0 3 v0 rfl rfl) h0
  have c0 := bounds_i64 b0
  obtain ⟨a1, rfl, c1⟩ := open_mat (hval 1 47 v1 rfl rfl) h1
  clear hA0 hval0
  refine (walk a0 c0 a1 W).mono fun e W' ⟨he, hg⟩ => ?_
  subst he
  exact ⟨_, rfl, law_post 4 rfl Try.underlying4 laidOut (of_decide_eq_true (by kernel_rfl)) rfl hW' rfl hg⟩

theorem over : Rows.projlineStabilizesRow.holds Try.pinned (OpenSpec.ofChange Rows.projlineStabilizesSpec) :=
  OpenClaim.holds_of_wide 10 Try.f10 rfl rfl rfl rfl rfl rfl rfl ⟨rfl, rfl, rfl, rfl, rfl⟩ rfl rfl rfl rfl rfl (by kernel_rfl) Try.func10 (by kernel_rfl)
    (of_decide_eq_true (by kernel_rfl)) (by unfold Func.isWrapper; rw [if_neg (by decide +kernel)]; exact ⟨rfl, rfl⟩)
    (fun os started H enc _ => lifted os started H enc)

theorem proved : Rows.ProjlineStabilizesSaid := over
end Go.Proofs.Ytcgiancmponmgaa.stabilizes
