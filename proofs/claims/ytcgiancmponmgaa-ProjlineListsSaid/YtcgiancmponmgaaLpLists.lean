/- The list is that of the reference, or the error is, and every point of it has its own index. No condition: every number. -/
import Derived.Test.YtcgiancmponmgaaPkG
import Derived.Test.YtcgiancmponmgaaPlZ
import Derived.Test.YtcgiancmponmgaaPlQ
namespace Go.Proofs.Ytcgiancmponmgaa.lists
open Go Go.RowKit Go.ChangeShapes Go.WideShapes Go.ChangeAt

set_option maxRecDepth 20000 in
set_option maxHeartbeats 4000000 in
theorem walk_all (n : Int) (L : List P3) (er : Int) (hlen : L.length ≤ 20000)
    (hix : ∀ j, j < L.length → ∀ w, Calls Try.prog 19 #[.int .i64 n, .int .i64 (L.getD j P3.zero).u, .int .i64 (L.getD j P3.zero).v] w fun e w' => e = .returned (.tuple #[.int .i64 (j : Int), .int .i64 0]) ∧ Grow w w')
    (hl : ∀ w, Calls Try.prog 16 #[.int .i64 n] w fun e w' => ∃ v, e = .returned (.tuple #[v, .int .i64 er]) ∧ OwnPts w' w.heap.size v L ∧ Grow w w')
    (hr : ∀ w, Calls Try.prog 17 #[.int .i64 n] w fun e w' => ∃ v, e = .returned (.tuple #[v, .int .i64 er]) ∧ OwnPts w' w.heap.size v L ∧ Grow w w') (w : World) :
    Calls Try.prog 5 #[.int .i64 n] w fun e w' => e = .returned (.bool true) ∧ Grow w w' := by
  have LS := Lib.hid hl
  have RS := Lib.hid hr
  have IX := Lib.hid hix
  clear hl hr hix
  obtain ⟨m, hm⟩ : ∃ m, L.length = m := ⟨_, rfl⟩
  rw [hm] at hlen IX
  have HM := Lib.hid hm
  clear hm
  go_enter Try.func5, Try.ntmps5
  go_wp2_with fail
  go_at_call 12
  with_reducible refine (awake21_any _).mono ?_
  rintro e w1 ⟨rfl, hb1⟩
  go_wp2_with fail
  go_at_call 16
  with_reducible refine (LS.out _).mono ?_
  rintro e w2 ⟨v2, rfl, hown2, hb2⟩
  have HR2 := Lib.hid hown2.rd
  have HG2 := Lib.hid (hb1.trans hb2)
  clear hown2 hb1 hb2
  go_wp2_with fail
  go_at_call 17
  with_reducible refine (RS.out _).mono ?_
  rintro e w3 ⟨v3, rfl, hown3, hb3⟩
  have HR3 := Lib.hid hown3.rd
  have HR4 := Lib.hid (HR2.out.grow hb3)
  have HG3 := Lib.hid (HG2.out.trans hb3)
  clear hown3 hb3 HR2
  go_wp2_with fail
  go_at_call 18
  refine (sameP_same L _ _ (by rw [HM.out]; omega) _ HR4.out HR3.out).mono ?_
  rintro e w4 ⟨rfl, hb4⟩
  have HR5 := Lib.hid (HR4.out.grow hb4)
  have HG4 := Lib.hid (HG3.out.trans hb4)
  clear hb4 HR3 HR4
  have H : ∃ a c, v2 = .slice a m c ∧ (0 < m → ∃ b o, a = some ⟨b, o, none⟩ ∧ b < w4.heap.size ∧ (∀ j, j < m → at3 (fun i => w4.cell? ⟨b, i, none⟩) (o + j * 3) (L.getD j P3.zero))) := by
    rcases HR5.out with ⟨a1, c1, e1, el⟩ | ⟨b1, o1, c1, e1, hb, -, hc1⟩
    · have hn0 : m = 0 := by rw [← HM.out, el]; rfl
      exact ⟨a1, c1, by rw [e1, hn0], fun h => by omega⟩
    · exact ⟨_, c1, by rw [e1, HM.out], fun _ => ⟨b1, o1, rfl, hb, by rw [← HM.out]; exact hc1⟩⟩
  obtain ⟨a, cp, rfl, hcs⟩ := H
  have HCS := Lib.hid hcs
  clear hcs HR5
  go_wp2_with fail
  go_loopg [7] m (fun k t7 wr => ∃ i : Nat, t7 = .int .i64 (i : Int) ∧ i + k = m ∧ Hid (Grow w4 wr))
  case atStart => exact ⟨0, rfl, by omega, Lib.hid (Grow.refl _)⟩
  case round =>
    obtain ⟨i, rfl, hik, hg⟩ := hrel
    by_cases hlt : i < m
    · obtain ⟨g1, hgk⟩ : ∃ g1, gk = g1 + 1 := ⟨gk - 1, by omega⟩
      obtain ⟨b, o, rfl, hb, hq⟩ := HCS.out (by omega)
      obtain ⟨q1, q2, q3⟩ := hq i hlt
      have d1 := (hg.out.cells _ _ hb).trans q1
      have d2 := (hg.out.cells _ _ hb).trans q2
      have d3 := (hg.out.cells _ _ hb).trans q3
      (try simp only at d1 d2 d3)
      have hbz : b < wr.heap.size := Nat.lt_of_lt_of_le hb hg.out.size
      have IX2 := Lib.hid (IX.out i hlt)
      have hin : (i : Int) < (m : Int) := by omega
      have hi0 : (0 : Int) ≤ (i : Int) := by omega
      have yi : IntKind.i64.wrap ((i : Int) + 1) = (i : Int) + 1 := IntWalk.i64_in _ (by omega)
      generalize L.getD i P3.zero = x at *
      clear q1 q2 q3 hq HCS
      go_wp2_with fail
      refine region_grow (by kernel_rfl) (by kernel_rfl) ?_
      intro X F hF
      have hFc := hF.cells
      haveI hFn := hF.ne
      repeat (go_big_quiet_step ((first | (go_at_call 19; with_reducible exact hF.call (IX2.out _)))))
      refine wpQuiet_nil ?_
      rintro _ ⟨x9, rfl⟩
      have hb5 := hF.grow x9
      clear hFc hFn hF
      generalize F x9 = w5 at *
      have hc5 := hb5.cells
      have hf5 := hb5.frees
      have hz5 := hb5.size
      (try simp at hz5)
      go_wp2_with fail
      go_roundg g1
      case measure => omega
      case rel => exact ⟨i + 1, by go_num, by omega, Lib.hid (hg.out.trans hb5)⟩
    · have hin : ¬ (i : Int) < (m : Int) := by omega
      go_wp2_with fail
      go_ret
      exact ⟨rfl, HG4.out.trans hg.out⟩
theorem walk (n : Int) (_hn : -9223372036854775808 ≤ n ∧ n ≤ 9223372036854775807) (w : World) :
    Calls Try.prog 5 #[.int .i64 n] w fun e w' => e = .returned (.bool true) ∧ Grow w w' := by
  by_cases h : 1 ≤ n ∧ n ≤ 120
  · refine walk_all n (lsF n) 0 (by have := lsF_len h.1 h.2; omega) (fun j hj u => ?_) (fun u => list_core n h.1 h.2 u) (fun u => refList_core n h.1 h.2 u) w
    have hh := index_any n ((lsF n).getD j P3.zero).u ((lsF n).getD j P3.zero).v u
    rw [ixR_self h.1 h.2 hj rfl] at hh
    exact hh
  · refine walk_all n [] 2 (by simp) (fun j hj => by simp at hj) ?_ ?_ w
    · intro u
      exact (list_bad n h u).mono fun e w' ⟨he, hg⟩ => ⟨_, he, World.ownsRow_nil _ _ _ _, hg⟩
    · intro u
      exact (refList_bad n h u).mono fun e w' ⟨he, hg⟩ => ⟨_, he, World.ownsRow_nil _ _ _ _, hg⟩

set_option maxRecDepth 100000 in
theorem lifted (os : Os) (started : os.Started) (H : Type) (enc : TypeId × Value → H) :
    ReturnsInHanded {} Try.checked os 5 .any (Rows.projlineListsSpec.pre6 enc Try.prog Try.f5 Rows.projlineListsRow.domain false) (Rows.projlineListsSpec.post enc Try.prog Try.f5 false true false false) := by
  refine returnsInHanded_of_change (C := Try.checked) own started (by kernel_rfl) Try.func5
    (ChangeSpec.witness6 (enc := enc) (C := Try.checked) false ⟨#[], #[.int .i64 0], []⟩ 8 (by kernel_rfl) (by kernel_rfl) (by kernel_rfl) (by kernel_rfl)) ?_
  intro W base args ds gs before hval0 hW hcnd _
  have hval : ∀ (j : Nat) t v, Try.f5.params[j]? = some t → args[j]? = some v → Value.okWide Try.prog W .any base t v := hval0
  have hW' := hW
  obtain ⟨p, q, hA0, hV, rfl, -, -⟩ := hW
  have hA : DataW.TrodAll enc Try.prog W 0 (fun _ => true) true Try.f5.params.toList args.toList ds p := hA0
  rw [Try.params5] at hA hval
  obtain ⟨v0, vs0, d0, ds0, p0, q0, hargs, rfl, rfl, h0, r0⟩ := trodAll_cons hA
  obtain ⟨rfl, rfl, rfl⟩ := trodAll_nil r0
  obtain rfl : args = #[v0] := by cases args; simp_all
  obtain ⟨rfl, rfl⟩ := trodVars_none hV
  obtain ⟨a0, rfl, rfl, -, b0⟩ := open_int Try.underlying3 (hval 0 3 v0 rfl rfl) h0
  have c0 := bounds_i64 b0
  clear hA0 hval0
  refine (walk a0 c0 W).mono fun e W' ⟨he, hg⟩ => ?_
  subst he
  exact ⟨_, rfl, law_post 4 rfl Try.underlying4 laidOut (of_decide_eq_true (by kernel_rfl)) rfl hW' rfl hg⟩

theorem over : Rows.projlineListsRow.holds Try.pinned (OpenSpec.ofChange Rows.projlineListsSpec) :=
  OpenClaim.holds_of_wide 5 Try.f5 rfl rfl rfl rfl rfl rfl rfl ⟨rfl, rfl, rfl, rfl, rfl⟩ rfl rfl rfl rfl rfl (by kernel_rfl) Try.func5 (by kernel_rfl)
    (of_decide_eq_true (by kernel_rfl)) (by unfold Func.isWrapper; rw [if_neg (by decide +kernel)]; exact ⟨rfl, rfl⟩)
    (fun os started H enc _ => lifted os started H enc)

theorem proved : Rows.ProjlineListsSaid := over
end Go.Proofs.Ytcgiancmponmgaa.lists
