/- For every eta quotient, TopValence returns true, and its argument reads as before. No condition. -/
import Derived.ChangeSlices
import Derived.Test.YtbpkfcohbefphaaGreatTopValG17
import Derived.Test.YtbpkfcohbefphaaGreatTopValG18
namespace Go.Proofs.YtbpkfcohbefphaaGreat.valence
open Go Go.RowKit Go.ChangeShapes Go.WideShapes Go.ChangeAt

theorem cells_eta : Tryz.prog.cellsOf 45 = 2 := by kernel_rfl
set_option maxRecDepth 100000 in
theorem open_eta {H : Type} {enc : TypeId × Value → H} {w : World} {r : Reach} {b0 : Nat} {v : Value} {d : DataW H} {p : List MemPlace} {base : Nat} {spare : Nat → Bool} {held : Bool}
    (hv : Value.okWide Tryz.prog w r b0 45 v) (h : DataW.Trod enc Tryz.prog w base spare held 45 v d p) : ∃ (nn : Int) (sv : Value) (l : List Int), v = .agg #[.int .i64 nn, sv] ∧ RdInts w sv l := by
  obtain ⟨c0, c1, y0, y1, n, rfl, -, -, h0, h1⟩ := Joins.open_agg2 Tryz.underlying45 (by kernel_rfl) cells_eta hv h
  obtain ⟨b, e0, -, -⟩ := DataW.trod_int Tryz.underlying3 h0
  simp at e0
  subst e0
  rcases open_ints Tryz.underlying29 Tryz.underlying3 (by kernel_rfl) h1 with ⟨e1, -⟩ | ⟨a, len, cap, zs, e1, -, hle, -, hz, -, hc, -⟩
  · simp at e1
    subst e1
    exact ⟨b, _, [], rfl, .inl ⟨none, 0, rfl, rfl⟩⟩
  · simp at e1
    subst e1
    have hzl : len ≤ zs.length := by rw [hz]; split <;> omega
    have hl : (zs.take len).length = len := by simp; omega
    refine ⟨b, _, zs.take len, rfl, ?_⟩
    by_cases h0 : len = 0
    · subst h0
      exact .inl ⟨some a, cap, rfl, by simp⟩
    · have hs : a.spot = none := by
        have hc0 := hc 0 (by omega)
        simp only [Addr.add, if_true] at hc0
        unfold World.cell? at hc0
        split at hc0
        · split at hc0
          · cases hc0
          · rename_i hsp
            simpa using hsp
        · cases hc0
      obtain ⟨ab, ao, asp⟩ := a
      simp only at hs
      subst hs
      refine .inr ⟨ab, ao, cap, by rw [hl], World.block_lt_of_cell? _ _ (by have := hc 0 (by omega); simpa only [Addr.add, if_true] using this), fun j hj => ?_⟩
      rw [hl] at hj
      have hcj := hc j (by omega)
      rw [Addr.add_lit] at hcj
      rw [hcj]
      have h1 : j < zs.length := by omega
      simp [hj, h1]
theorem walk (n : Int) (l : List Int) (v : Value) (w : World) (hv : RdInts w v l) : Calls Tryz.prog 4 #[.agg #[.int .i64 n, v]] w fun e w' => e = .returned (.bool true) ∧ Grow w w' := topValQ n l v w hv

set_option maxRecDepth 100000 in
theorem lifted (os : Os) (started : os.Started) (H : Type) (enc : TypeId × Value → H) :
    ReturnsInHanded {} Tryz.checked os 4 .any (Rows.topValenceSpec.pre6 enc Tryz.prog Tryz.f4 Rows.topValenceRow.domain false) (Rows.topValenceSpec.post enc Tryz.prog Tryz.f4 false true false false) := by
  refine returnsInHanded_of_change (C := Tryz.checked) own started (by kernel_rfl) Tryz.func4
    (ChangeSpec.witness6 (enc := enc) (C := Tryz.checked) false ⟨#[], #[.agg #[.int .i64 0, .slice none 0 0]], []⟩ 8 (by kernel_rfl) (by kernel_rfl) (by kernel_rfl) (by kernel_rfl)) ?_
  intro W base args ds gs before hval0 hW hcnd _
  have hval : ∀ (j : Nat) t v, Tryz.f4.params[j]? = some t → args[j]? = some v → Value.okWide Tryz.prog W .any base t v := hval0
  have hW' := hW
  obtain ⟨p, q, hA0, hV, rfl, -, -⟩ := hW
  have hA : DataW.TrodAll enc Tryz.prog W 0 (fun _ => true) true Tryz.f4.params.toList args.toList ds p := hA0
  rw [Tryz.params4] at hA hval
  obtain ⟨v0, vs0, d0, ds0, p0, q0, hargs, rfl, rfl, h0, r0⟩ := trodAll_cons hA
  obtain ⟨rfl, rfl, rfl⟩ := trodAll_nil r0
  obtain rfl : args = #[v0] := by cases args; simp_all
  obtain ⟨rfl, rfl⟩ := trodVars_none hV
  obtain ⟨a0, s0, l0, rfl, c0⟩ := open_eta (hval 0 45 v0 rfl rfl) h0
  clear hA0 hval0
  refine (walk a0 l0 s0 W c0).mono fun e W' ⟨he, hg⟩ => ?_
  subst he
  exact ⟨_, rfl, law_post 4 rfl Tryz.underlying4 laidOut (of_decide_eq_true (by kernel_rfl)) rfl hW' rfl hg⟩

theorem over : Rows.topValenceRow.holds Tryz.pinned (OpenSpec.ofChange Rows.topValenceSpec) :=
  OpenClaim.holds_of_wide 4 Tryz.f4 rfl rfl rfl rfl rfl rfl rfl ⟨rfl, rfl, rfl, rfl, rfl⟩ rfl rfl rfl rfl rfl (by kernel_rfl) Tryz.func4 (by kernel_rfl)
    (of_decide_eq_true (by kernel_rfl)) (by unfold Func.isWrapper; rw [if_neg (by decide +kernel)]; exact ⟨rfl, rfl⟩)
    (fun os started H enc _ => lifted os started H enc)

theorem proved : Rows.TopValenceSaid := over
end Go.Proofs.YtbpkfcohbefphaaGreat.valence
