/- The value of a word is that of the reference, or the error is. No condition: every input. -/
import Derived.Test.YtkjcdiolimajdaaPlZ
import Derived.Test.YtkjcdiolimajdaaSlK
import Derived.Test.YtkjcdiolimajdaaSlU
import Derived.Test.YtkjcdiolimajdaaPlX
import Derived.Deep.RegionHeld3
import Derived.Deep.DrawnRows
import Derived.ChangeSlices
namespace Go.Proofs.Ytkjcdiolimajdaa.values
open Go Go.RowKit Go.ChangeShapes Go.WideShapes Go.ChangeAt

theorem info_int : (Try.prog.info? 3).map (fun i => (i.zero, i.size, i.bytes)) = some (some (.int .i64 0), 1, 8) := by kernel_rfl
attribute [local go_sem ↓] Go.wp_at_zero Go.wp_at_succ
theorem walk_long (ng : Bool) (ao : Option Addr) (n cap : Nat) (h : 300 < n) (w : World) :
    Calls Try.prog 10 #[.agg #[.bool ng, .slice ao n cap]] w fun ex w' => ex = .returned (.bool true) ∧ Grow w w' := by
  have h1 : (300 : Int) < n := by omega
  go_enter Try.func10, Try.ntmps10
  go_wp2_with fail
  (go_at_call 12; refine (awake18_any _).mono ?_; rintro e w1 ⟨rfl, hb1⟩; have hc1 := hb1.cells; have hf1 := hb1.frees; have hz1 := hb1.size; (try simp at hz1))
  have zw1_0 : w.heap.size < w1.heap.size := (by omega)
  go_wp2_with fail
  go_ret
  exact ⟨rfl, by (repeat (first | with_reducible exact Grow.refl _ | with_reducible refine Grow.alloc ?_ _ | with_reducible refine Grow.drew ?_ | with_reducible refine Grow.drewN ?_ _ | (with_reducible refine Grow.setCell ?_ ?hp _; (case hp => (simp; try omega))) | with_reducible refine Grow.trans ?_ (by assumption)))⟩

set_option maxRecDepth 100000 in
set_option maxHeartbeats 1000000 in
theorem walk_short (ng : Bool) (ao : Option Addr) (l : List Int) (n cap : Nat) (hn : n ≤ 300) (hl : Hid (l.length ≤ 1000000)) (r : M2) (er : Int) (w : World) (hv : Hid (RdInts w (.slice ao n cap) l))
    (V : Hid (∀ w v, RdInts w v l → Calls Try.prog 32 #[.agg #[.bool ng, v]] w fun ex w' => ex = .returned (.tuple #[.agg #[.int .i64 r.a, .int .i64 r.b, .int .i64 r.c, .int .i64 r.d], .int .i64 er]) ∧ Grow w w')) (VR : Hid (∀ w v, RdInts w v l → Calls Try.prog 33 #[.agg #[.bool ng, v]] w fun ex w' => ex = .returned (.tuple #[.agg #[.int .i64 r.a, .int .i64 r.b, .int .i64 r.c, .int .i64 r.d], .int .i64 er]) ∧ Grow w w')) :
    Calls Try.prog 10 #[.agg #[.bool ng, .slice ao n cap]] w fun ex w' => ex = .returned (.bool true) ∧ Grow w w' := by
  have h1 : ¬ (300 : Int) < n := by omega
  obtain ⟨i0, hi0, hz0, hz1, hz2⟩ := info_parts info_int
  go_enter Try.func10, Try.ntmps10
  go_wp2_with fail
  (go_at_call 12; refine (awake18_any _).mono ?_; rintro e w1 ⟨rfl, hb1⟩; have hc1 := hb1.cells; have hf1 := hb1.frees; have hz1 := hb1.size; (try simp at hz1))
  have zw1_0 : w.heap.size < w1.heap.size := (by omega)
  have hb1' : Grow w w1 := by (repeat (first | with_reducible exact Grow.refl _ | with_reducible refine Grow.alloc ?_ _ | with_reducible refine Grow.drew ?_ | with_reducible refine Grow.drewN ?_ _ | (with_reducible refine Grow.setCell ?_ ?hp _; (case hp => (simp; try omega))) | with_reducible refine Grow.trans ?_ (by assumption)))
  have c0 : w1.cell? ⟨w.heap.size, 0, none⟩ = some (.bool ng) := by rw [hc1 _ _ (by simp)]; go_simp
  have c1 : w1.cell? ⟨w.heap.size, 1, none⟩ = some (.slice ao n cap) := by rw [hc1 _ _ (by simp)]; go_simp
  clear hc1 hf1 hz1 hb1
  go_upto_region 5 with fail
  go_cut [3, 4] (fun t3 t4 wc => ∃ x : Nat, t3 = .pointer (some ⟨x, 0, none⟩) ∧ t4 = .int .i64 er ∧ w.heap.size < x ∧ x < wc.heap.size ∧ wc.cell? ⟨x, 0, none⟩ = some (.int .i64 r.a) ∧ wc.cell? ⟨x, 1, none⟩ = some (.int .i64 r.b) ∧ wc.cell? ⟨x, 2, none⟩ = some (.int .i64 r.c) ∧ wc.cell? ⟨x, 3, none⟩ = some (.int .i64 r.d) ∧ wc.cell? ⟨w.heap.size, 0, none⟩ = some (.bool ng) ∧ wc.cell? ⟨w.heap.size, 1, none⟩ = some (.slice ao n cap) ∧ Grow w wc)
  case first =>
    go_region_held3 (fun w' => w'.cell? ⟨w.heap.size, 0, none⟩ = some (.bool ng) ∧ w'.cell? ⟨w.heap.size, 1, none⟩ = some (.slice ao n cap))
      (refine ⟨(Grow.cells (W := w1) (by (repeat (first | with_reducible exact Grow.refl _ | with_reducible refine Grow.alloc ?_ _ | with_reducible refine Grow.drew ?_ | with_reducible refine Grow.drewN ?_ _ | (with_reducible refine Grow.setCell ?_ ?hp _; (case hp => (simp; try omega))) | with_reducible refine Grow.trans ?_ (by assumption)))) _ _ zw1_0).trans c0, (Grow.cells (W := w1) (by (repeat (first | with_reducible exact Grow.refl _ | with_reducible refine Grow.alloc ?_ _ | with_reducible refine Grow.drew ?_ | with_reducible refine Grow.drewN ?_ _ | (with_reducible refine Grow.setCell ?_ ?hp _; (case hp => (simp; try omega))) | with_reducible refine Grow.trans ?_ (by assumption)))) _ _ zw1_0).trans c1⟩)
      (first
        | ((refine step_append_copy (by rfl) _ _ _ (by rfl) i0 _ Try.underlying53 hi0 hz0 hz1 hz2 rfl _ _ l (by rfl) (by rfl) (hv.out.grow (by (repeat (first | with_reducible exact Grow.refl _ | with_reducible refine Grow.alloc ?_ _ | with_reducible refine Grow.drew ?_ | with_reducible refine Grow.drewN ?_ _ | (with_reducible refine Grow.setCell ?_ ?hp _; (case hp => (simp; try omega))) | with_reducible refine Grow.trans ?_ (by assumption))))) hl.out ?_; intro ba na ca wa hra hga; have hza := hga.size; (try simp at hza); have zza : w.heap.size < wa.heap.size := (by omega); have hca := hga.cells; have hfa := hga.frees; (try have ya : w1.heap.size < wa.heap.size := (by omega)); (try have yb : w1.heap.size + 1 < wa.heap.size := (by omega))))
        | (go_at_call 32; refine (V.out _ _ (RdInts.grow hra (by (repeat (first | with_reducible exact Grow.refl _ | with_reducible refine Grow.alloc ?_ _ | with_reducible refine Grow.drew ?_ | with_reducible refine Grow.drewN ?_ _ | (with_reducible refine Grow.setCell ?_ ?hp _; (case hp => (simp; try omega))) | with_reducible refine Grow.trans ?_ (by assumption)))))).mono ?_; rintro e w5 ⟨rfl, hb5⟩; have hz5 := hb5.size; (try simp at hz5); have zz5 : w.heap.size < w5.heap.size := (by omega); have hc5 := hb5.cells; have hf5 := hb5.frees; (try have xa : w1.heap.size < w5.heap.size := (by omega)); (try have xb : w1.heap.size + 1 < w5.heap.size := (by omega)); (try have xc : wa.heap.size < w5.heap.size := (by omega))))
    all_goals (go_wp2; go_meet)
    all_goals refine ⟨_, rfl, rfl, ?_, ?_, ?_, ?_, ?_, ?_, (Grow.cells (W := w1) (by (repeat (first | with_reducible exact Grow.refl _ | with_reducible refine Grow.alloc ?_ _ | with_reducible refine Grow.drew ?_ | with_reducible refine Grow.drewN ?_ _ | (with_reducible refine Grow.setCell ?_ ?hp _; (case hp => (simp; try omega))) | with_reducible refine Grow.trans ?_ (by assumption)))) _ _ zw1_0).trans c0, (Grow.cells (W := w1) (by (repeat (first | with_reducible exact Grow.refl _ | with_reducible refine Grow.alloc ?_ _ | with_reducible refine Grow.drew ?_ | with_reducible refine Grow.drewN ?_ _ | (with_reducible refine Grow.setCell ?_ ?hp _; (case hp => (simp; try omega))) | with_reducible refine Grow.trans ?_ (by assumption)))) _ _ zw1_0).trans c1, (Grow.trans hb1' (by (repeat (first | with_reducible exact Grow.refl _ | with_reducible refine Grow.alloc ?_ _ | with_reducible refine Grow.drew ?_ | with_reducible refine Grow.drewN ?_ _ | (with_reducible refine Grow.setCell ?_ ?hp _; (case hp => (simp; try omega))) | with_reducible refine Grow.trans ?_ (by assumption)))))⟩
    all_goals clear V VR hv
    all_goals have hh2 : w1.heap.size < w1.heap.size + 2 := (by omega)
    all_goals have hh3 : w1.heap.size < w1.heap.size + 1 + 1 := (by omega)
    all_goals try (first | (go_simp; done) | omega | ((simp); omega))
  case rest =>
    clear c0 c1 zw1_0
    obtain ⟨x, rfl, rfl, hx1, hx2, x0, x1, x2, x3, c0, c1, hg⟩ := hcut
    have hrd := hv.out.grow hg
    have zc : w.heap.size < wc.heap.size := by omega
    have HG := Lib.hid hg
    clear hg
    go_wp2_with fail
    go_at_call 33
    refine (VR.out _ _ hrd).mono ?_
    rintro e w6 ⟨rfl, hb6⟩
    have hc6 := hb6.cells
    have hf6 := hb6.frees
    have hz6 := hb6.size
    have hx3 : x < w6.heap.size := by omega
    have zc6 : w.heap.size < w6.heap.size := by omega
    go_wp2_with fail
    have hg := HG.out
    go_ret
    exact ⟨rfl, by (repeat (first | with_reducible exact Grow.refl _ | with_reducible refine Grow.alloc ?_ _ | with_reducible refine Grow.drew ?_ | with_reducible refine Grow.drewN ?_ _ | (with_reducible refine Grow.setCell ?_ ?hp _; (case hp => (simp; try omega))) | with_reducible refine Grow.trans ?_ (by assumption)))⟩

theorem walk (ng : Bool) (l : List Int) (v : Value) (w : World) (hv : RdInts w v l) :
    Calls Try.prog 10 #[.agg #[.bool ng, v]] w fun ex w' => ex = .returned (.bool true) ∧ Grow w w' := by
  obtain ⟨ao, cap, rfl⟩ := hv.form
  by_cases h : 300 < l.length
  · exact walk_long ng ao _ cap h w
  · exact walk_short ng ao l _ cap (by omega) (by show l.length ≤ 1000000; omega) _ _ w hv (fun w v h => value_any ng l v (by omega) w h) (fun w v h => refValue_any ng l v (by omega) w h)

theorem cells_word : Try.prog.cellsOf 55 = 2 := by kernel_rfl
theorem open_word {H : Type} {enc : TypeId × Value → H} {w : World} {r : Reach} {b0 : Nat} {v : Value} {d : DataW H} {p : List MemPlace} {base : Nat} {spare : Nat → Bool} {held : Bool}
    (hv : Value.okWide Try.prog w r b0 55 v) (h : DataW.Trod enc Try.prog w base spare held 55 v d p) : ∃ (ng : Bool) (sv : Value) (l : List Int), v = .agg #[.bool ng, sv] ∧ RdInts w sv l := by
  obtain ⟨c0, c1, y0, y1, n, rfl, -, -, h0, h1⟩ := Joins.open_agg2 Try.underlying55 (by kernel_rfl) cells_word hv h
  obtain ⟨b, e0, -⟩ := DataW.trod_bool Try.underlying4 h0
  simp at e0
  subst e0
  rcases open_ints Try.underlying53 Try.underlying3 (by kernel_rfl) h1 with ⟨e1, -⟩ | ⟨a, len, cap, zs, e1, -, hle, -, hz, -, hc, -⟩
  · simp at e1
    subst e1
    exact ⟨b, _, [], rfl, .inl ⟨none, 0, rfl, rfl⟩⟩
  · simp at e1
    subst e1
    have hzl : len ≤ zs.length := by rw [hz]; split <;> omega
    have hl : (zs.take len).length = len := by simp; omega
    refine ⟨b, _, zs.take len, rfl, ?_⟩
    by_cases h0 : len = 0
    · subst h0
      exact .inl ⟨some a, cap, rfl, by simp⟩
    · have hs : a.spot = none := by
        have hc0 := hc 0 (by omega)
        simp only [Addr.add, if_true] at hc0
        unfold World.cell? at hc0
        split at hc0
        · split at hc0
          · cases hc0
          · rename_i hsp
            simpa using hsp
        · cases hc0
      obtain ⟨ab, ao, asp⟩ := a
      simp only at hs
      subst hs
      refine .inr ⟨ab, ao, cap, by rw [hl], World.block_lt_of_cell? _ _ (by have := hc 0 (by omega); simpa only [Addr.add, if_true] using this), fun j hj => ?_⟩
      rw [hl] at hj
      have hcj := hc j (by omega)
      rw [Addr.add_lit] at hcj
      rw [hcj]
      have h1 : j < zs.length := by omega
      simp [hj, h1]

set_option maxRecDepth 100000 in
theorem lifted (os : Os) (started : os.Started) (H : Type) (enc : TypeId × Value → H) :
    ReturnsInHanded {} Try.checked os 10 .any (Rows.sl2ValuesSpec.pre6 enc Try.prog Try.f10 Rows.sl2ValuesRow.domain false) (Rows.sl2ValuesSpec.post enc Try.prog Try.f10 false true false false) := by
  refine returnsInHanded_of_change (C := Try.checked) own started (by kernel_rfl) Try.func10
    (ChangeSpec.witness6 (enc := enc) (C := Try.checked) false ⟨#[], #[.agg #[.bool false, .slice none 0 0]], []⟩ 8 (by kernel_rfl) (by kernel_rfl) (by kernel_rfl) (by kernel_rfl)) ?_
  intro W base args ds gs before hval0 hW hcnd _
  have hval : ∀ (j : Nat) t v, Try.f10.params[j]? = some t → args[j]? = some v → Value.okWide Try.prog W .any base t v := hval0
  have hW' := hW
  obtain ⟨p, q, hA0, hV, rfl, -, -⟩ := hW
  have hA : DataW.TrodAll enc Try.prog W 0 (fun _ => true) true Try.f10.params.toList args.toList ds p := hA0
  rw [Try.params10] at hA hval
  obtain ⟨v0, vs0, d0, ds0, p0, q0, hargs, rfl, rfl, h0, r0⟩ := trodAll_cons hA
  obtain ⟨rfl, rfl, rfl⟩ := trodAll_nil r0
  obtain rfl : args = #[v0] := by cases args; simp_all
  obtain ⟨rfl, rfl⟩ := trodVars_none hV
  obtain ⟨a0, s0, l0, rfl, c0⟩ := open_word (hval 0 55 v0 rfl rfl) h0
  clear hA0 hval0
  refine (walk a0 l0 s0 W c0).mono fun e W' ⟨he, hg⟩ => ?_
  subst he
  exact ⟨_, rfl, law_post 4 rfl Try.underlying4 laidOut (of_decide_eq_true (by kernel_rfl)) rfl hW' rfl hg⟩

theorem over : Rows.sl2ValuesRow.holds Try.pinned (OpenSpec.ofChange Rows.sl2ValuesSpec) :=
  OpenClaim.holds_of_wide 10 Try.f10 rfl rfl rfl rfl rfl rfl rfl ⟨rfl, rfl, rfl, rfl, rfl⟩ rfl rfl rfl rfl rfl (by kernel_rfl) Try.func10 (by kernel_rfl)
    (of_decide_eq_true (by kernel_rfl)) (by unfold Func.isWrapper; rw [if_neg (by decide +kernel)]; exact ⟨rfl, rfl⟩)
    (fun os started H enc _ => lifted os started H enc)

theorem proved : Rows.Sl2ValuesSaid := over
end Go.Proofs.Ytkjcdiolimajdaa.values
