/- For every n, TopKroneckerHurwitz returns true, and its argument reads as before. No condition but the table that the row lists; the card ties it to the program's text. -/
import Derived.Test.YtbpkfcohbefphaaGreatDoorCards
import Derived.Test.YtbpkfcohbefphaaGreatDoorTie
import Derived.Lib.LaidTab
import Derived.LaidMore
import Derived.Stop.Joined
import Derived.Test.YtbpkfcohbefphaaGreatDoorTopKhG37
import Derived.Test.YtbpkfcohbefphaaGreatDoorTopKhG38
namespace Go.Proofs.YtbpkfcohbefphaaGreatDoor.kronecker
open Go Go.RowKit Go.ChangeShapes Go.WideShapes Go.ChangeAt

abbrev laidL : List (String × DataW Unit) := [("math/bits.deBruijn64tab", Rows.laid_math_bits_deBruijn64tab)]
theorem walk (d : Int) (_ : -9223372036854775808 ≤ d ∧ d ≤ 9223372036854775807) (w : World) (hT : TabB w) : Calls Tryz.prog 3 #[.int .i64 d] w fun e w' => e = .returned (.bool true) ∧ Grow w w' := topkhQ d w hT
theorem gTab : Tryz.prog.globalNamed "math/bits.deBruijn64tab" = some 0 := by kernel_rfl
theorem tTab : (Tryz.prog.globals[0]?).map (·.type) = some 129 := by kernel_rfl
theorem uTab : Tryz.prog.underlying 129 = some (.array 64 5) := by kernel_rfl
theorem uEl : Tryz.prog.underlying 5 = some (.int .u8) := by kernel_rfl
theorem cEl : Tryz.prog.cellsOf 5 = 1 := by kernel_rfl
theorem cTab : Tryz.prog.cellsOf 129 = 64 := by kernel_rfl
theorem laid_eq : (Rows.laid_math_bits_deBruijn64tab : DataW Unit) = Lib.tabData .u8 (Lib.deBruijn64tab.map (fun n : Nat => (n : Int))) := by rfl
/-- What the row's condition gives the walk. -/
theorem of_laid {W : World} (h : laidMetH Tryz.prog laidL W) : TabB W := by
  rw [MakeChecks.laidMetH_plain _ _ _ (by kernel_rfl)] at h
  have h2 : laidMet Tryz.prog (("math/bits.deBruijn64tab", Lib.tabData .u8 (Lib.deBruijn64tab.map (fun n : Nat => (n : Int)))) :: []) W := by
    rw [← laid_eq]; exact h
  have h3 := Lib.tabIs_of_head gTab tTab uTab uEl cEl cTab h2
  have hc : ∀ j, j < 64 → W.cell? ⟨0, j, none⟩ = some (.int .u8 ((Lib.deBruijn64tab.getD j 0 : Nat) : Int)) := fun j hj => by
    have h4 := Lib.TabIs.cell h3 gTab j (by rw [List.length_map]; exact hj)
    rw [h4]
    have hl : j < Lib.deBruijn64tab.length := hj
    simp [List.getD_eq_getElem?_getD, hl]
  exact ⟨World.block_lt_of_cell? _ _ (hc 0 (by omega)), hc⟩
theorem door_met (os : Os) (args : Array Value) : laidMetH Tryz.prog laidL ((World.doorLaid Tryz.prog 400 os).forCall (fun _ _ => 0) ⟨#[], args, []⟩).memory :=
  laidMetH_of_parts3 (fuel := 8) (laidMet_of_run' 8 (by kernel_rfl) (by kernel_rfl)) (by kernel_rfl) (by kernel_rfl)

set_option maxRecDepth 100000 in
theorem lifted (os : Os) (started : os.Started) (H : Type) (enc : TypeId × Value → H) :
    ReturnsInHanded {} Tryz.checked os 3 .any (fun w args => (Rows.topKroneckerHurwitzSpec.pre enc Tryz.prog Tryz.f3 [] false w args ∧ laidMetH Tryz.prog laidL w) ∧ sizedMet enc Tryz.prog Tryz.f3 (OpenSpec.ofChange Rows.topKroneckerHurwitzSpec) false w args)
      (Rows.topKroneckerHurwitzSpec.post enc Tryz.prog Tryz.f3 false true false false) := by
  refine returnsInHanded_of_change_and (C := Tryz.checked) (X := fun w _ => laidMetH Tryz.prog laidL w) (fun _ _ _ hh h => h.of_heap hh) own started (by kernel_rfl) Tryz.func3
    (ChangeSpec.witness_shaped (enc := enc) (C := Tryz.checked) (os := os) (X := fun w _ => laidMetH Tryz.prog laidL w) false (World.doorLaid Tryz.prog 400 os) #[.int .i64 0] 8 rfl (World.shaped_of_RefB (by kernel_rfl) (by kernel_rfl)) (by kernel_rfl) (by kernel_rfl) (by kernel_rfl) (door_met os _)) ?_
  intro W base args ds gs before hval0 hW _ _ hL _
  have hval : ∀ (j : Nat) t v, Tryz.f3.params[j]? = some t → args[j]? = some v → Value.okWide Tryz.prog W .any base t v := hval0
  have hW' := hW
  obtain ⟨p, q, hA0, hV, rfl, -, -⟩ := hW
  have hA : DataW.TrodAll enc Tryz.prog W 0 (fun _ => true) true Tryz.f3.params.toList args.toList ds p := hA0
  rw [Tryz.params3] at hA hval
  obtain ⟨v0, vs0, d0, ds0, p0, q0, hargs, rfl, rfl, h0, r0⟩ := trodAll_cons hA
  obtain ⟨rfl, rfl, rfl⟩ := trodAll_nil r0
  obtain rfl : args = #[v0] := by cases args; simp_all
  obtain ⟨rfl, rfl⟩ := trodVars_none hV
  obtain ⟨a0, rfl, rfl, -, b0⟩ := open_int Tryz.underlying3 (hval 0 3 v0 rfl rfl) h0
  have c0 := bounds_i64 b0
  clear hA0 hval0
  refine (walk a0 c0 W (of_laid hL)).mono fun e W' ⟨he, hg⟩ => ?_
  subst he
  exact ⟨_, rfl, law_post 4 rfl Tryz.underlying4 laidOut (of_decide_eq_true (by kernel_rfl)) rfl hW' rfl hg⟩
theorem over : Rows.TopKroneckerHurwitzSaid :=
  OpenClaim.holds_of_wide 3 Tryz.f3 rfl rfl rfl rfl rfl rfl rfl ⟨rfl, rfl, rfl, rfl, rfl⟩ rfl rfl rfl rfl rfl (by kernel_rfl) Tryz.func3 (by kernel_rfl)
    (of_decide_eq_true (by kernel_rfl)) (by unfold Func.isWrapper; rw [if_neg (by decide +kernel)]; exact ⟨rfl, rfl⟩)
    (fun os started H enc _ => lifted os started H enc)
theorem proved : Rows.TopKroneckerHurwitzCardSaid :=
  Claim7.holds_tied_plain_at .later [] [.data] true (true, "d9b055dbadbf6e4ba88c46707921a092ea349f814e7a726280af0a82d77315cf") false
    over (fun _ h => by cases h) (by kernel_rfl) (fun _ h => by cases h) topKroneckerHurwitz_row_tie rfl ⟨rfl, rfl⟩ (by kernel_rfl) rfl
    (fun f fn hf hfn => by
      obtain rfl : f = 3 := Option.some.inj ((show Tryz.prog.funcNamed "halfplane/halfplanetop.TopKroneckerHurwitz" = some 3 by kernel_rfl).symm.trans hf) |>.symm
      obtain rfl : fn = Tryz.f3 := (Option.some.inj (Tryz.func3.symm.trans hfn)).symm
      exact ⟨by kernel_rfl, fun j t ht => by
        rw [Tryz.params3] at ht
        have hm : t ∈ [3] := by simpa using Array.mem_of_getElem? ht
        have hall : ([3].all fun u => !Tryz.prog.wantsStandIn u) = true := by kernel_rfl
        exact (show Tryz.prog.wantsStandIn t = false by simpa using List.all_eq_true.1 hall t hm)⟩)
    (by kernel_rfl)
end Go.Proofs.YtbpkfcohbefphaaGreatDoor.kronecker
