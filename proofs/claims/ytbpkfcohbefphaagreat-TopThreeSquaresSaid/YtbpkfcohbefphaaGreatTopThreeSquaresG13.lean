/- Lemmas, plain laws and walks that the statement LwThreeSquares leans on (texts RwP, RwQ, SeA), conditions as each theorem says. -/
import Derived.Test.YtbpkfcohbefphaaGreatTopThreeSquaresG12

/- Walks: symmetric, turn. -/
namespace Go.Proofs.YtbpkfcohbefphaaGreat
open Go Go.RowKit
set_option maxRecDepth 20000 in
set_option maxHeartbeats 8000000 in
theorem symmetricQ (n G ca : Nat) (R O C : Nat → Nat) (M : Nat → Nat → Rat) (hn : n ≤ 1000) (hS : ∀ i j, j < i → i < n → M i j = M j i ∧ AddB (M i j) (-(M j i))) (w : World) (hG : GridQ w G n R O C n M) :
    Calls Tryz.prog 94 #[.slice (some ⟨G, 0, none⟩) n ca] w fun e w' => e = .returned (.bool true) ∧ Grow w w' := by
  have HG := Lib.hid hG
  have HS := Lib.hid hS
  clear hG hS
  go_enter Tryz.func94, Tryz.ntmps94
  go_wp2_with fail
  go_loopg [7] n (fun gk t7 wr => ∃ i : Nat, t7 = .int .i64 (i : Int) ∧ i ≤ n ∧ Hid (gk = n - i) ∧ Hid (Grow w wr))
  case atStart => exact ⟨0, rfl, Nat.zero_le _, Lib.hid rfl, Lib.hid (Grow.refl _)⟩
  case round =>
    obtain ⟨i, rfl, hi2, HGK, HGR⟩ := hrel
    by_cases hin : i = n
    · have y1 : decide ((i : Int) < (n : Int)) = false := by simp; omega
      go_wp2_with fail
      go_ret
      exact ⟨rfl, HGR.out⟩
    · have hi : i < n := by omega
      have y0 : (0 : Int) ≤ (i : Int) := by omega
      have y2 : (i : Int) < (n : Int) := by omega
      go_wp2_with fail
      go_loopg [11] i (fun gk2 t11 wx => ∃ j : Nat, t11 = .int .i64 (j : Int) ∧ j ≤ i ∧ Hid (gk2 = i - j) ∧ Hid (Grow w wx))
      case atStart => exact ⟨0, rfl, Nat.zero_le _, Lib.hid rfl, HGR⟩
      case round =>
        obtain ⟨j, rfl, hj2, HGK2, HGR2⟩ := hrel
        clear HGR
        by_cases hji : j = i
        · have z1 : decide ((j : Int) < (i : Int)) = false := by simp; omega
          have y4 : IntKind.i64.wrap ((i : Int) + 1) = ((i + 1 : Nat) : Int) := (IntWalk.i64_in ((i : Int) + 1) (by omega)).trans (by omega)
          have y3 : wrap64 ((i : Int) + 1) = ((i + 1 : Nat) : Int) := by clear y4; unfold wrap64; omega
          go_wp2_with fail
          clear y3 y4
          go_roundg (n - (i + 1))
          case measure => have := HGK.out; omega
          case rel => exact ⟨i + 1, rfl, by omega, Lib.hid rfl, HGR2⟩
        · have hj : j < i := by omega
          have hjn : j < n := by omega
          have x0 : (0 : Int) ≤ (j : Int) := by omega
          have x1 : (j : Int) < (i : Int) := by omega
          have x2 : (j : Int) < (n : Int) := by omega
          obtain ⟨s2, a2, l2, c2, t2, b2, k2, e2, hcP, hvP⟩ := row_cells (HG.out.row i hi) hjn
          obtain ⟨s3, a3, l3, c3, t3, b3, k3, e3, hcQ, hvQ⟩ := row_cells (HG.out.row j hjn) hi
          have PC := Lib.hid (fun u (hu : Grow wr u) => hcP u (HGR2.out.trans hu))
          have QC := Lib.hid (fun u (hu : Grow wr u) => hcQ u (HGR2.out.trans hu))
          have GI := Lib.hid (fun u (hu : Grow wr u) => HG.out.cells hi u (HGR2.out.trans hu))
          have GJ := Lib.hid (fun u (hu : Grow wr u) => HG.out.cells hjn u (HGR2.out.trans hu))
          obtain ⟨hse, hsb⟩ := HS.out i j hj hi
          have hsg : sgI (M i j - M j i).num = 0 := by rw [hse, Rat.sub_self]; rfl
          have CM := Lib.hid (fun u (hu : Grow wr u) => cmpQ (M i j) (M j i) _ _ hsb u (hvP.grow (HGR2.out.trans hu)) (hvQ.grow (HGR2.out.trans hu)))
          rw [hsg] at CM
          clear hcP hcQ hvP hvQ hse hsb hsg
          go_upto_region 7 with fail
          refine region_held (id := 7) (fun u => Grow wr u) [0, 1, 2, 3, 4, 5, 6, 7, 8, 9, 10, 11, 12, 13, 14, 15] (kdL [0, 0, 0, 1, 0, 0, 1, 0, 0, 0, 1, 0, 0, 1, 2, 0]) (by kernel_rfl) (by kernel_rfl) (fun t ht => kdL_lt _ t ht) ?hS0p ?_
          case hS0p => ((try dsimp only); (repeat (first | with_reducible exact Grow.refl _ | with_reducible refine Grow.alloc ?_ _ | with_reducible refine Grow.drew ?_ | with_reducible refine Grow.drewN ?_ _ | (with_reducible refine Grow.setCell ?_ ?hp _; (case hp => (simp; try omega))) | with_reducible refine Grow.trans ?_ (by assumption))))
          refine held_quiet (v := ?vp0) rfl rfl (Or.inl ⟨by rfl, ?hyp0⟩) ?_
          case hyp0 => (intro u hu; go_simp; (try with_reducible rfl))
          (try simp only [Act.put, List.setIfInBounds_toArray])
          refine held_quiet (v := ?vp1) rfl rfl (Or.inl ⟨by rfl, ?hyp1⟩) ?_
          case hyp1 => (intro u hu; go_simp; (try with_reducible rfl))
          (try simp only [Act.put])
          refine held_quiet (v := ?vp2) rfl rfl (Or.inl ⟨by rfl, ?hyp2⟩) ?_
          case hyp2 => (intro u hu; go_simp; (try with_reducible rfl))
          (try simp only [Act.put])
          refine held_read (v := ?vp3) rfl rfl (Or.inl ⟨by rfl, ?hyp3⟩) ?_
          case hyp3 => (intro u hu; obtain ⟨f0, f1, f2, f3, f4, f5⟩ := PC.out u (by (repeat (first | with_reducible exact Grow.refl _ | with_reducible refine Grow.alloc ?_ _ | with_reducible refine Grow.drew ?_ | with_reducible refine Grow.drewN ?_ _ | (with_reducible refine Grow.setCell ?_ ?hp _; (case hp => (simp; try omega))) | with_reducible refine Grow.trans ?_ (by assumption)))); obtain ⟨g0, g1, g2, g3, g4, g5⟩ := QC.out u (by (repeat (first | with_reducible exact Grow.refl _ | with_reducible refine Grow.alloc ?_ _ | with_reducible refine Grow.drew ?_ | with_reducible refine Grow.drewN ?_ _ | (with_reducible refine Grow.setCell ?_ ?hp _; (case hp => (simp; try omega))) | with_reducible refine Grow.trans ?_ (by assumption)))); have hg := GI.out u (by (repeat (first | with_reducible exact Grow.refl _ | with_reducible refine Grow.alloc ?_ _ | with_reducible refine Grow.drew ?_ | with_reducible refine Grow.drewN ?_ _ | (with_reducible refine Grow.setCell ?_ ?hp _; (case hp => (simp; try omega))) | with_reducible refine Grow.trans ?_ (by assumption)))); have hg2 := GJ.out u (by (repeat (first | with_reducible exact Grow.refl _ | with_reducible refine Grow.alloc ?_ _ | with_reducible refine Grow.drew ?_ | with_reducible refine Grow.drewN ?_ _ | (with_reducible refine Grow.setCell ?_ ?hp _; (case hp => (simp; try omega))) | with_reducible refine Grow.trans ?_ (by assumption)))); go_simp; (try with_reducible rfl))
          (try simp only [Act.put])
          refine held_quiet (v := ?vp4) rfl rfl (Or.inl ⟨by rfl, ?hyp4⟩) ?_
          case hyp4 => (intro u hu; go_simp; (try with_reducible rfl))
          (try simp only [Act.put])
          refine held_quiet (v := ?vp5) rfl rfl (Or.inl ⟨by rfl, ?hyp5⟩) ?_
          case hyp5 => (intro u hu; go_simp; (try with_reducible rfl))
          (try simp only [Act.put])
          refine held_read (v := ?vp6) rfl rfl (Or.inl ⟨by rfl, ?hyp6⟩) ?_
          case hyp6 => (intro u hu; obtain ⟨f0, f1, f2, f3, f4, f5⟩ := PC.out u (by (repeat (first | with_reducible exact Grow.refl _ | with_reducible refine Grow.alloc ?_ _ | with_reducible refine Grow.drew ?_ | with_reducible refine Grow.drewN ?_ _ | (with_reducible refine Grow.setCell ?_ ?hp _; (case hp => (simp; try omega))) | with_reducible refine Grow.trans ?_ (by assumption)))); obtain ⟨g0, g1, g2, g3, g4, g5⟩ := QC.out u (by (repeat (first | with_reducible exact Grow.refl _ | with_reducible refine Grow.alloc ?_ _ | with_reducible refine Grow.drew ?_ | with_reducible refine Grow.drewN ?_ _ | (with_reducible refine Grow.setCell ?_ ?hp _; (case hp => (simp; try omega))) | with_reducible refine Grow.trans ?_ (by assumption)))); have hg := GI.out u (by (repeat (first | with_reducible exact Grow.refl _ | with_reducible refine Grow.alloc ?_ _ | with_reducible refine Grow.drew ?_ | with_reducible refine Grow.drewN ?_ _ | (with_reducible refine Grow.setCell ?_ ?hp _; (case hp => (simp; try omega))) | with_reducible refine Grow.trans ?_ (by assumption)))); have hg2 := GJ.out u (by (repeat (first | with_reducible exact Grow.refl _ | with_reducible refine Grow.alloc ?_ _ | with_reducible refine Grow.drew ?_ | with_reducible refine Grow.drewN ?_ _ | (with_reducible refine Grow.setCell ?_ ?hp _; (case hp => (simp; try omega))) | with_reducible refine Grow.trans ?_ (by assumption)))); go_simp; (try with_reducible rfl))
          (try simp only [Act.put])
          refine held_quiet (v := ?vp7) rfl rfl (Or.inl ⟨by rfl, ?hyp7⟩) ?_
          case hyp7 => (intro u hu; go_simp; (try with_reducible rfl))
          (try simp only [Act.put])
          refine held_quiet (v := ?vp8) rfl rfl (Or.inl ⟨by rfl, ?hyp8⟩) ?_
          case hyp8 => (intro u hu; go_simp; (try with_reducible rfl))
          (try simp only [Act.put])
          refine held_quiet (v := ?vp9) rfl rfl (Or.inl ⟨by rfl, ?hyp9⟩) ?_
          case hyp9 => (intro u hu; go_simp; (try with_reducible rfl))
          (try simp only [Act.put])
          refine held_read (v := ?vp10) rfl rfl (Or.inl ⟨by rfl, ?hyp10⟩) ?_
          case hyp10 => (intro u hu; obtain ⟨f0, f1, f2, f3, f4, f5⟩ := PC.out u (by (repeat (first | with_reducible exact Grow.refl _ | with_reducible refine Grow.alloc ?_ _ | with_reducible refine Grow.drew ?_ | with_reducible refine Grow.drewN ?_ _ | (with_reducible refine Grow.setCell ?_ ?hp _; (case hp => (simp; try omega))) | with_reducible refine Grow.trans ?_ (by assumption)))); obtain ⟨g0, g1, g2, g3, g4, g5⟩ := QC.out u (by (repeat (first | with_reducible exact Grow.refl _ | with_reducible refine Grow.alloc ?_ _ | with_reducible refine Grow.drew ?_ | with_reducible refine Grow.drewN ?_ _ | (with_reducible refine Grow.setCell ?_ ?hp _; (case hp => (simp; try omega))) | with_reducible refine Grow.trans ?_ (by assumption)))); have hg := GI.out u (by (repeat (first | with_reducible exact Grow.refl _ | with_reducible refine Grow.alloc ?_ _ | with_reducible refine Grow.drew ?_ | with_reducible refine Grow.drewN ?_ _ | (with_reducible refine Grow.setCell ?_ ?hp _; (case hp => (simp; try omega))) | with_reducible refine Grow.trans ?_ (by assumption)))); have hg2 := GJ.out u (by (repeat (first | with_reducible exact Grow.refl _ | with_reducible refine Grow.alloc ?_ _ | with_reducible refine Grow.drew ?_ | with_reducible refine Grow.drewN ?_ _ | (with_reducible refine Grow.setCell ?_ ?hp _; (case hp => (simp; try omega))) | with_reducible refine Grow.trans ?_ (by assumption)))); go_simp; (try with_reducible rfl))
          (try simp only [Act.put])
          refine held_quiet (v := ?vp11) rfl rfl (Or.inl ⟨by rfl, ?hyp11⟩) ?_
          case hyp11 => (intro u hu; go_simp; (try with_reducible rfl))
          (try simp only [Act.put])
          refine held_quiet (v := ?vp12) rfl rfl (Or.inl ⟨by rfl, ?hyp12⟩) ?_
          case hyp12 => (intro u hu; go_simp; (try with_reducible rfl))
          (try simp only [Act.put])
          refine held_read (v := ?vp13) rfl rfl (Or.inl ⟨by rfl, ?hyp13⟩) ?_
          case hyp13 => (intro u hu; obtain ⟨f0, f1, f2, f3, f4, f5⟩ := PC.out u (by (repeat (first | with_reducible exact Grow.refl _ | with_reducible refine Grow.alloc ?_ _ | with_reducible refine Grow.drew ?_ | with_reducible refine Grow.drewN ?_ _ | (with_reducible refine Grow.setCell ?_ ?hp _; (case hp => (simp; try omega))) | with_reducible refine Grow.trans ?_ (by assumption)))); obtain ⟨g0, g1, g2, g3, g4, g5⟩ := QC.out u (by (repeat (first | with_reducible exact Grow.refl _ | with_reducible refine Grow.alloc ?_ _ | with_reducible refine Grow.drew ?_ | with_reducible refine Grow.drewN ?_ _ | (with_reducible refine Grow.setCell ?_ ?hp _; (case hp => (simp; try omega))) | with_reducible refine Grow.trans ?_ (by assumption)))); have hg := GI.out u (by (repeat (first | with_reducible exact Grow.refl _ | with_reducible refine Grow.alloc ?_ _ | with_reducible refine Grow.drew ?_ | with_reducible refine Grow.drewN ?_ _ | (with_reducible refine Grow.setCell ?_ ?hp _; (case hp => (simp; try omega))) | with_reducible refine Grow.trans ?_ (by assumption)))); have hg2 := GJ.out u (by (repeat (first | with_reducible exact Grow.refl _ | with_reducible refine Grow.alloc ?_ _ | with_reducible refine Grow.drew ?_ | with_reducible refine Grow.drewN ?_ _ | (with_reducible refine Grow.setCell ?_ ?hp _; (case hp => (simp; try omega))) | with_reducible refine Grow.trans ?_ (by assumption)))); go_simp; (try with_reducible rfl))
          (try simp only [Act.put])
          refine held_op rfl rfl (fun K hK => ?_)
          go_simp
          (go_at_call 23; (with_reducible refine (CM.out _ (by (repeat (first | with_reducible exact Grow.refl _ | with_reducible refine Grow.alloc ?_ _ | with_reducible refine Grow.drew ?_ | with_reducible refine Grow.drewN ?_ _ | (with_reducible refine Grow.setCell ?_ ?hp _; (case hp => (simp; try omega))) | with_reducible refine Grow.trans ?_ (by assumption))))).mono ?_); (rintro e u4 ⟨rfl, hb4⟩))
          (try go_wp2_with fail)
          refine hK.out _ _ ?hSp14 ?_
          case hSp14 => ((try dsimp only); (repeat (first | with_reducible exact Grow.refl _ | with_reducible refine Grow.alloc ?_ _ | with_reducible refine Grow.drew ?_ | with_reducible refine Grow.drewN ?_ _ | (with_reducible refine Grow.setCell ?_ ?hp _; (case hp => (simp; try omega))) | with_reducible refine Grow.trans ?_ (by assumption))))
          clear hK K
          (try simp only [Act.put])
          refine held_quiet (v := ?vp15) rfl rfl (Or.inl ⟨by rfl, ?hyp15⟩) ?_
          case hyp15 => (intro u hu; go_simp; (try with_reducible rfl))
          (try simp only [Act.put])
          refine held_done ?_
          have y4 : IntKind.i64.wrap ((j : Int) + 1) = ((j + 1 : Nat) : Int) := (IntWalk.i64_in ((j : Int) + 1) (by omega)).trans (by omega)
          have y3 : wrap64 ((j : Int) + 1) = ((j + 1 : Nat) : Int) := by clear y4; unfold wrap64; omega
          go_wp2_with fail
          clear y3 y4
          go_roundg (i - (j + 1))
          case measure => have := HGK2.out; omega
          case rel => exact ⟨j + 1, rfl, by omega, Lib.hid rfl, Lib.hid (HGR2.out.trans (by (repeat (first | with_reducible exact Grow.refl _ | with_reducible refine Grow.alloc ?_ _ | with_reducible refine Grow.drew ?_ | with_reducible refine Grow.drewN ?_ _ | (with_reducible refine Grow.setCell ?_ ?hp _; (case hp => (simp; try omega))) | with_reducible refine Grow.trans ?_ (by assumption)))))⟩
/-- The marks of a list of bools. -/
structure MarkB (w : World) (B n : Nat) (f : Nat → Bool) : Prop where
  lt : B < w.heap.size
  free : ∀ o, w.frozen? ⟨B, o, none⟩ = false
  cell : ∀ i, i < n → w.cell? ⟨B, i, none⟩ = some (.bool (f i))
theorem MarkB.but {X : Nat → Prop} {w w' : World} {B n : Nat} {f : Nat → Bool} (h : MarkB w B n f) (hX : ¬ X B) (hg : But X w w') : MarkB w' B n f :=
  ⟨Nat.lt_of_lt_of_le h.lt hg.size, fun o => (hg.frees _ _ h.lt).trans (h.free o), fun i hi => (hg.cells _ _ h.lt hX).trans (h.cell i hi)⟩
theorem MarkB.grow {w w' : World} {B n : Nat} {f : Nat → Bool} (h : MarkB w B n f) (hg : Grow w w') : MarkB w' B n f := h.but (X := fun _ => False) (fun h => h) (hg.but _)
theorem MarkB.cong {w : World} {B n : Nat} {f f' : Nat → Bool} (h : MarkB w B n f) (hf : ∀ i, i < n → f' i = f i) : MarkB w B n f' :=
  ⟨h.lt, h.free, fun i hi => by rw [hf i hi]; exact h.cell i hi⟩
theorem MarkB.set {w : World} {B n : Nat} {f : Nat → Bool} (h : MarkB w B n f) {k : Nat} (hk : k < n) (b : Bool) : MarkB (w.setCell ⟨B, k, none⟩ (.bool b)) B n (upd f k b) := by
  refine ⟨by simpa [World.setCell] using h.lt, fun o => by simpa using h.free o, fun i hi => ?_⟩
  by_cases hik : i = k
  · subst hik
    rw [upd_same]
    exact World.cell?_setCell_same _ _ _ (h.cell i hi)
  · rw [World.cell?_setCell_other _ _ _ _ (by simp; try omega), upd_other _ _ hik]
    exact h.cell i hi
theorem MarkB.but_set {X : Nat → Prop} {w u : World} {B n : Nat} {f : Nat → Bool} (h : MarkB u B n f) {k : Nat} (hk : k < n) (hX : w.heap.size ≤ B ∨ X B) (hb : But X w u) (v : Value) : But X w (u.setCell ⟨B, k, none⟩ v) :=
  hb.set _ hX (fun x => by rw [h.cell k hk]; simp)
set_option maxRecDepth 20000 in
set_option maxHeartbeats 8000000 in
theorem turnQ (n G ca D cd k : Nat) (R O C : Nat → Nat) (M : Nat → Nat → Rat) (hn : n ≤ 1000) (hk : k ≤ n) (hM : k < n → M k k ≠ 0) (w : World) (hG : GridQ w G n R O C n M) (hD : MarkB w D n (fun i => decide (i < k))) :
    Calls Tryz.prog 95 #[.slice (some ⟨G, 0, none⟩) n ca, .slice (some ⟨D, 0, none⟩) n cd] w fun e w' => e = .returned (.int .i64 (if k < n then (k : Int) else -1)) ∧ Grow w w' := by
  have HG := Lib.hid hG
  have HD := Lib.hid hD
  have HM := Lib.hid hM
  clear hG hD hM
  go_enter Tryz.func95, Tryz.ntmps95
  go_wp2_with fail
  go_loopg [10] n (fun gk t10 wr => ∃ i : Nat, t10 = .int .i64 (i : Int) ∧ i ≤ k ∧ Hid (gk = n - i) ∧ Hid (Grow w wr))
  case atStart => exact ⟨0, rfl, Nat.zero_le _, Lib.hid rfl, Lib.hid (Grow.refl _)⟩
  case round =>
    obtain ⟨i, rfl, hi2, HGK, HGR⟩ := hrel
    by_cases hin : i = n
    · have y1 : decide ((i : Int) < (n : Int)) = false := by simp; omega
      have hkn : k = n := by omega
      have hres : (if k < n then (k : Int) else -1) = -1 := by rw [if_neg (by omega)]
      have HD2 : Hid (MarkB w D n (fun _ => true)) := Lib.hid (HD.out.cong (fun i hi => by simp; omega))
      have HRES := Lib.hid hres
      clear hkn hres HM HD
      go_wp2_with fail
      go_loopg [32] n (fun gk2 t32 wx => ∃ i : Nat, t32 = .int .i64 (i : Int) ∧ i ≤ n ∧ Hid (gk2 = n - i) ∧ Hid (Grow w wx))
      case atStart => exact ⟨0, rfl, Nat.zero_le _, Lib.hid rfl, HGR⟩
      case round =>
        obtain ⟨a, rfl, ha2, HGK2, HGR2⟩ := hrel
        clear HGR
        by_cases han : a = n
        · have z1 : decide ((a : Int) < (n : Int)) = false := by simp; omega
          go_wp2_with fail
          go_ret
          exact ⟨by first | rfl | rw [HRES.out], HGR2.out⟩
        · have ha : a < n := by omega
          have z0 : (0 : Int) ≤ (a : Int) := by omega
          have z2 : (a : Int) < (n : Int) := by omega
          go_wp2_with fail
          go_loopg [36] a (fun gk3 t36 wy => ∃ j : Nat, t36 = .int .i64 (j : Int) ∧ j ≤ a ∧ Hid (gk3 = a - j) ∧ Hid (Grow w wy))
          case atStart => exact ⟨0, rfl, Nat.zero_le _, Lib.hid rfl, HGR2⟩
          case round =>
            obtain ⟨j, rfl, hj2, HGK3, HGR3⟩ := hrel
            clear HGR2
            by_cases hja : j = a
            · have x1 : decide ((j : Int) < (a : Int)) = false := by simp; omega
              have y4 : IntKind.i64.wrap ((a : Int) + 1) = ((a + 1 : Nat) : Int) := (IntWalk.i64_in ((a : Int) + 1) (by omega)).trans (by omega)
              have y3 : wrap64 ((a : Int) + 1) = ((a + 1 : Nat) : Int) := by clear y4; unfold wrap64; omega
              go_wp2_with fail
              clear y3 y4
              go_roundg (n - (a + 1))
              case measure => have := HGK2.out; omega
              case rel => exact ⟨a + 1, rfl, by omega, Lib.hid rfl, HGR3⟩
            · have x0 : (0 : Int) ≤ (j : Int) := by omega
              have x2 : (j : Int) < (a : Int) := by omega
              have hd := (HD2.out.grow HGR3.out).cell a ha
              have y4 : IntKind.i64.wrap ((j : Int) + 1) = ((j + 1 : Nat) : Int) := (IntWalk.i64_in ((j : Int) + 1) (by omega)).trans (by omega)
              have y3 : wrap64 ((j : Int) + 1) = ((j + 1 : Nat) : Int) := by clear y4; unfold wrap64; omega
              go_wp2_with fail
              clear y3 y4
              go_roundg (a - (j + 1))
              case measure => have := HGK3.out; omega
              case rel => exact ⟨j + 1, rfl, by omega, Lib.hid rfl, HGR3⟩
    · have hi : i < n := by omega
      have y0 : (0 : Int) ≤ (i : Int) := by omega
      have y2 : (i : Int) < (n : Int) := by omega
      have hd := (HD.out.grow HGR.out).cell i hi
      by_cases hik : i = k
      · subst hik
        rw [decide_eq_false (by omega : ¬ i < i)] at hd
        obtain ⟨s2, a2, l2, c2, t2, b2, k2, e2, hcP, hvP⟩ := row_cells (HG.out.row i hi) hi
        obtain ⟨f0, f1, f2, f3, f4, f5⟩ := hcP wr HGR.out
        have f6 := HG.out.cells hi wr HGR.out
        have NZ := Lib.hid (fun u hu => nonzeroQ (M i i) _ u (hvP.grow hu))
        rw [decide_eq_true (HM.out hi)] at NZ
        have hres : (if i < n then (i : Int) else -1) = i := by rw [if_pos hi]
        have HRES := Lib.hid hres
        clear hcP hvP hres
        have hgr := HGR.out
        go_wp2_with (go_at_call 96; (with_reducible refine (NZ.out _ (by (repeat (first | with_reducible exact Grow.refl _ | with_reducible refine Grow.alloc ?_ _ | with_reducible refine Grow.drew ?_ | with_reducible refine Grow.drewN ?_ _ | (with_reducible refine Grow.setCell ?_ ?hp _; (case hp => (simp; try omega))) | with_reducible refine Grow.trans ?_ (by assumption))))).mono ?_); (rintro e u4 ⟨rfl, hb4⟩))
        go_ret
        exact ⟨by first | rfl | rw [HRES.out], by (repeat (first | with_reducible exact Grow.refl _ | with_reducible refine Grow.alloc ?_ _ | with_reducible refine Grow.drew ?_ | with_reducible refine Grow.drewN ?_ _ | (with_reducible refine Grow.setCell ?_ ?hp _; (case hp => (simp; try omega))) | with_reducible refine Grow.trans ?_ (by assumption)))⟩
      · rw [decide_eq_true (by omega : i < k)] at hd
        have y4 : IntKind.i64.wrap ((i : Int) + 1) = ((i + 1 : Nat) : Int) := (IntWalk.i64_in ((i : Int) + 1) (by omega)).trans (by omega)
        have y3 : wrap64 ((i : Int) + 1) = ((i + 1 : Nat) : Int) := by clear y4; unfold wrap64; omega
        go_wp2_with fail
        clear y3 y4
        go_roundg (n - (i + 1))
        case measure => have := HGK.out; omega
        case rel => exact ⟨i + 1, rfl, by omega, Lib.hid rfl, HGR⟩
end Go.Proofs.YtbpkfcohbefphaaGreat
/- Walks: fits, Valid, square. -/
namespace Go.Proofs.YtbpkfcohbefphaaGreat
open Go Go.RowKit
set_option maxRecDepth 20000 in
set_option maxHeartbeats 8000000 in
theorem fitsQ (n : Nat) (hn : n ≤ 1000) (w : World) : Calls Tryz.prog 132 #[.int .i64 (n : Int)] w fun e w' => e = .returned (.bool true) ∧ Grow w w' := by
  have y0 : (0 : Int) ≤ (n : Int) := by omega
  have y1 : (n : Int) ≤ 1024 := by omega
  have y2 : decide ((n : Int) ≤ 1024) = true := by simp; omega
  go_enter Tryz.func132, Tryz.ntmps132
  go_wp2_with fail
  go_ret
  exact ⟨rfl, by (repeat (first | with_reducible exact Grow.refl _ | with_reducible refine Grow.alloc ?_ _ | with_reducible refine Grow.drew ?_ | with_reducible refine Grow.drewN ?_ _ | (with_reducible refine Grow.setCell ?_ ?hp _; (case hp => (simp; try omega))) | with_reducible refine Grow.trans ?_ (by assumption)))⟩
theorem sq_le {n m : Nat} (hn : n ≤ 1000) (hm : m ≤ 1000) : n * m ≤ 1000000 := Nat.le_trans (Nat.mul_le_mul hn hm) (by omega)
set_option maxRecDepth 20000 in
set_option maxHeartbeats 8000000 in
theorem validQ (n m N : Nat) (hN : N = n * m) (hn : n ≤ 1000) (hm : m ≤ 1000) (a : Option Addr) (ca : Nat) (w : World) :
    Calls Tryz.prog 111 #[.agg #[.int .i64 (n : Int), .int .i64 (m : Int), .slice a N ca]] w fun e w' => e = .returned (.bool true) ∧ Grow w w' := by
  have FN := Lib.hid (fun u => fitsQ n hn u)
  have FM := Lib.hid (fun u => fitsQ m hm u)
  have hNb : N ≤ 1000000 := by rw [hN]; exact sq_le hn hm
  have e1 : ((n : Int) * (m : Int)) = (N : Int) := by rw [hN]; simp
  have y4 : IntKind.i64.wrap ((n : Int) * (m : Int)) = (N : Int) := by rw [e1]; exact IntWalk.i64_in _ (by omega)
  have y3 : wrap64 ((n : Int) * (m : Int)) = (N : Int) := by clear y4; rw [e1]; unfold wrap64; omega
  clear hN e1
  obtain ⟨W1, hW1⟩ : ∃ W1 : World, W1 = w.alloc (.cells #[.int .i64 (n : Int), .int .i64 (m : Int), .slice a N ca] 95) := ⟨_, rfl⟩
  have g1 : Grow w W1 := by rw [hW1]; (repeat (first | with_reducible exact Grow.refl _ | with_reducible refine Grow.alloc ?_ _ | with_reducible refine Grow.drew ?_ | with_reducible refine Grow.drewN ?_ _ | (with_reducible refine Grow.setCell ?_ ?hp _; (case hp => (simp; try omega))) | with_reducible refine Grow.trans ?_ (by assumption)))
  have c0 : ∀ u : World, Grow W1 u → u.cell? ⟨w.heap.size, 0, none⟩ = some (.int .i64 (n : Int)) ∧ u.cell? ⟨w.heap.size, 1, none⟩ = some (.int .i64 (m : Int)) ∧ u.cell? ⟨w.heap.size, 2, none⟩ = some (.slice a N ca) := by
    intro u hg
    refine ⟨?_, ?_, ?_⟩ <;> (refine (hg.cells _ _ (by rw [hW1]; simp)).trans ?_; rw [hW1]; go_simp)
  have C0 := Lib.hid c0
  have HW1 := Lib.hid hW1
  have G1 := Lib.hid g1
  clear c0 hW1 g1
  go_enter Tryz.func111, Tryz.ntmps111
  go_upto_region 1 with fail
  rw [← HW1.out]
  obtain ⟨b0, b1, b2⟩ := C0.out W1 (Grow.refl _)
  go_wp2_with (first | (go_at_call 132; (with_reducible refine (FN.out _).mono ?_); (rintro e u1 ⟨rfl, hb1⟩; obtain ⟨d0, d1, d2⟩ := C0.out u1 (by (repeat (first | with_reducible exact Grow.refl _ | with_reducible refine Grow.alloc ?_ _ | with_reducible refine Grow.drew ?_ | with_reducible refine Grow.drewN ?_ _ | (with_reducible refine Grow.setCell ?_ ?hp _; (case hp => (simp; try omega))) | with_reducible refine Grow.trans ?_ (by assumption)))))) | (go_at_call 132; (with_reducible refine (FM.out _).mono ?_); (rintro e u2 ⟨rfl, hb2⟩; obtain ⟨g0, g1, g2⟩ := C0.out u2 (by (repeat (first | with_reducible exact Grow.refl _ | with_reducible refine Grow.alloc ?_ _ | with_reducible refine Grow.drew ?_ | with_reducible refine Grow.drewN ?_ _ | (with_reducible refine Grow.setCell ?_ ?hp _; (case hp => (simp; try omega))) | with_reducible refine Grow.trans ?_ (by assumption)))))))
  have hg := G1.out
  go_ret
  exact ⟨rfl, by (repeat (first | with_reducible exact Grow.refl _ | with_reducible refine Grow.alloc ?_ _ | with_reducible refine Grow.drew ?_ | with_reducible refine Grow.drewN ?_ _ | (with_reducible refine Grow.setCell ?_ ?hp _; (case hp => (simp; try omega))) | with_reducible refine Grow.trans ?_ (by assumption)))⟩
set_option maxRecDepth 20000 in
set_option maxHeartbeats 8000000 in
theorem squareQ (n N : Nat) (hN : N = n * n) (hn : n ≤ 1000) (a : Option Addr) (ca : Nat) (w : World) :
    Calls Tryz.prog 92 #[.agg #[.int .i64 (n : Int), .int .i64 (n : Int), .slice a N ca]] w fun e w' => e = .returned (.bool true) ∧ Grow w w' := by
  have VA := Lib.hid (fun u => validQ n n N hN hn hn a ca u)
  clear hN
  obtain ⟨W1, hW1⟩ : ∃ W1 : World, W1 = w.alloc (.cells #[.int .i64 (n : Int), .int .i64 (n : Int), .slice a N ca] 95) := ⟨_, rfl⟩
  have g1 : Grow w W1 := by rw [hW1]; (repeat (first | with_reducible exact Grow.refl _ | with_reducible refine Grow.alloc ?_ _ | with_reducible refine Grow.drew ?_ | with_reducible refine Grow.drewN ?_ _ | (with_reducible refine Grow.setCell ?_ ?hp _; (case hp => (simp; try omega))) | with_reducible refine Grow.trans ?_ (by assumption)))
  have c0 : ∀ u : World, Grow W1 u → u.cell? ⟨w.heap.size, 0, none⟩ = some (.int .i64 (n : Int)) ∧ u.cell? ⟨w.heap.size, 1, none⟩ = some (.int .i64 (n : Int)) ∧ u.cell? ⟨w.heap.size, 2, none⟩ = some (.slice a N ca) := by
    intro u hg
    refine ⟨?_, ?_, ?_⟩ <;> (refine (hg.cells _ _ (by rw [hW1]; simp)).trans ?_; rw [hW1]; go_simp)
  have C0 := Lib.hid c0
  have HW1 := Lib.hid hW1
  have G1 := Lib.hid g1
  clear c0 hW1 g1
  go_enter Tryz.func92, Tryz.ntmps92
  go_upto_region 1 with fail
  rw [← HW1.out]
  obtain ⟨b0, b1, b2⟩ := C0.out W1 (Grow.refl _)
  go_wp2_with (go_at_call 111; (with_reducible refine (VA.out _).mono ?_); (rintro e u1 ⟨rfl, hb1⟩; obtain ⟨d0, d1, d2⟩ := C0.out u1 (by (repeat (first | with_reducible exact Grow.refl _ | with_reducible refine Grow.alloc ?_ _ | with_reducible refine Grow.drew ?_ | with_reducible refine Grow.drewN ?_ _ | (with_reducible refine Grow.setCell ?_ ?hp _; (case hp => (simp; try omega))) | with_reducible refine Grow.trans ?_ (by assumption))))))
  have hg := G1.out
  go_ret
  exact ⟨rfl, by (repeat (first | with_reducible exact Grow.refl _ | with_reducible refine Grow.alloc ?_ _ | with_reducible refine Grow.drew ?_ | with_reducible refine Grow.drewN ?_ _ | (with_reducible refine Grow.setCell ?_ ?hp _; (case hp => (simp; try omega))) | with_reducible refine Grow.trans ?_ (by assumption)))⟩
end Go.Proofs.YtbpkfcohbefphaaGreat
/- Walks over series: valid, prec, at, At. -/
namespace Go.Proofs.YtbpkfcohbefphaaGreat
open Go Go.RowKit

/-- Cells of a new block, in every grown world. -/
theorem ak1 {w W : World} {v0 : Value} {t : TypeId} (hW : W = w.alloc (.cells #[v0] t)) : ∀ u : World, Grow W u → u.cell? ⟨w.heap.size, 0, none⟩ = some v0 ∧ (∀ o, u.frozen? ⟨w.heap.size, o, none⟩ = false) ∧ w.heap.size < u.heap.size := by
  intro u hg
  have hz := hg.size
  have hlt : w.heap.size < W.heap.size := by rw [hW]; simp
  refine ⟨(hg.cells _ _ hlt).trans ?_, fun o => (hg.frees _ _ hlt).trans ?_, by omega⟩ <;> (rw [hW]; go_simp)
theorem ak2 {w W : World} {v0 v1 : Value} {t : TypeId} (hW : W = w.alloc (.cells #[v0, v1] t)) : ∀ u : World, Grow W u → u.cell? ⟨w.heap.size, 0, none⟩ = some v0 ∧ u.cell? ⟨w.heap.size, 1, none⟩ = some v1 ∧ (∀ o, u.frozen? ⟨w.heap.size, o, none⟩ = false) ∧ w.heap.size < u.heap.size := by
  intro u hg
  have hz := hg.size
  have hlt : w.heap.size < W.heap.size := by rw [hW]; simp
  refine ⟨(hg.cells _ _ hlt).trans ?_, (hg.cells _ _ hlt).trans ?_, fun o => (hg.frees _ _ hlt).trans ?_, by omega⟩ <;> (rw [hW]; go_simp)
theorem ak3 {w W : World} {v0 v1 v2 : Value} {t : TypeId} (hW : W = w.alloc (.cells #[v0, v1, v2] t)) : ∀ u : World, Grow W u → u.cell? ⟨w.heap.size, 0, none⟩ = some v0 ∧ u.cell? ⟨w.heap.size, 1, none⟩ = some v1 ∧ u.cell? ⟨w.heap.size, 2, none⟩ = some v2 ∧ (∀ o, u.frozen? ⟨w.heap.size, o, none⟩ = false) ∧ w.heap.size < u.heap.size := by
  intro u hg
  have hz := hg.size
  have hlt : w.heap.size < W.heap.size := by rw [hW]; simp
  refine ⟨(hg.cells _ _ hlt).trans ?_, (hg.cells _ _ hlt).trans ?_, (hg.cells _ _ hlt).trans ?_, fun o => (hg.frees _ _ hlt).trans ?_, by omega⟩ <;> (rw [hW]; go_simp)
theorem ak4 {w W : World} {v0 v1 v2 v3 : Value} {t : TypeId} (hW : W = w.alloc (.cells #[v0, v1, v2, v3] t)) : ∀ u : World, Grow W u → u.cell? ⟨w.heap.size, 0, none⟩ = some v0 ∧ u.cell? ⟨w.heap.size, 1, none⟩ = some v1 ∧ u.cell? ⟨w.heap.size, 2, none⟩ = some v2 ∧ u.cell? ⟨w.heap.size, 3, none⟩ = some v3 ∧ (∀ o, u.frozen? ⟨w.heap.size, o, none⟩ = false) ∧ w.heap.size < u.heap.size := by
  intro u hg
  have hz := hg.size
  have hlt : w.heap.size < W.heap.size := by rw [hW]; simp
  refine ⟨(hg.cells _ _ hlt).trans ?_, (hg.cells _ _ hlt).trans ?_, (hg.cells _ _ hlt).trans ?_, (hg.cells _ _ hlt).trans ?_, fun o => (hg.frees _ _ hlt).trans ?_, by omega⟩ <;> (rw [hW]; go_simp)
theorem ag {w W : World} {vs : Array Value} {t : TypeId} (hW : W = w.alloc (.cells vs t)) : Grow w W := by rw [hW]; exact (Grow.refl w).alloc _
/-- A fraction in the cell of a result, stored. -/
theorem rescell {w u : World} {B : Nat} {x : Rat} {s t : Bool} {a b : Option Addr} {l c k e : Nat} (h : RowP u B 0 1 (fun _ => none)) (hB : w.heap.size ≤ B) (hg : Grow w u) (hx : RatR u (.agg #[.bool s, .slice a l c, .bool t, .slice b k e]) x) :
    RatR (st4 u B 0 (.bool s) (.slice a l c) (.bool t) (.slice b k e)) (.agg #[.bool s, .slice a l c, .bool t, .slice b k e]) x ∧ Grow w (st4 u B 0 (.bool s) (.slice a l c) (.bool t) (.slice b k e)) := by
  have hb : But (fun b => b = B) u (st4 u B 0 (.bool s) (.slice a l c) (.bool t) (.slice b k e)) := But.st4 (X := fun b => b = B) (But.refl _ u) (.inr rfl) (by have := h.q4 (show 0 < 1 by omega); simpa using this) _ _ _ _ _ _ _ _
  exact ⟨hx.but hb, ((hg.but _).trans hb).asGrow (fun b e => by omega)⟩
set_option maxRecDepth 20000 in
set_option maxHeartbeats 8000000 in
theorem svalidQ (fr : Int) (n : Nat) (a : Option Addr) (ca : Nat) (h1 : -100 ≤ fr) (h2 : fr ≤ 1000) (h3 : (n : Int) ≤ 1000 - fr) (w : World) :
    Calls Tryz.prog 29 #[.agg #[.int .i64 fr, .slice a n ca]] w fun e w' => e = .returned (.bool true) ∧ Grow w w' := by
  have y1 : decide (fr ≥ -100) = true := by simp; omega
  have y2 : decide (fr ≤ 1000) = true := by simp; omega
  have y3 : IntKind.i64.wrap (1000 - fr) = 1000 - fr := IntWalk.i64_in _ (by omega)
  have y4 : wrap64 (1000 - fr) = 1000 - fr := by clear y3; unfold wrap64; omega
  have y5 : decide ((n : Int) ≤ 1000 - fr) = true := by simp; omega
  go_enter Tryz.func29, Tryz.ntmps29
  go_wp2_with fail
  go_ret
  exact ⟨rfl, by (repeat (first | with_reducible exact Grow.refl _ | with_reducible refine Grow.alloc ?_ _ | with_reducible refine Grow.drew ?_ | with_reducible refine Grow.drewN ?_ _ | (with_reducible refine Grow.setCell ?_ ?hp _; (case hp => (simp; try omega))) | with_reducible refine Grow.trans ?_ (by assumption)))⟩
set_option maxRecDepth 20000 in
set_option maxHeartbeats 8000000 in
theorem sprecQ (fr : Int) (n : Nat) (a : Option Addr) (ca : Nat) (h1 : -100 ≤ fr) (h2 : fr ≤ 1000) (h3 : (n : Int) ≤ 1000 - fr) (w : World) :
    Calls Tryz.prog 30 #[.agg #[.int .i64 fr, .slice a n ca]] w fun e w' => e = .returned (.int .i64 (fr + n)) ∧ Grow w w' := by
  have y3 : IntKind.i64.wrap (fr + (n : Int)) = fr + n := IntWalk.i64_in _ (by omega)
  have y4 : wrap64 (fr + (n : Int)) = fr + n := by clear y3; unfold wrap64; omega
  go_enter Tryz.func30, Tryz.ntmps30
  go_wp2_with fail
  go_ret
  exact ⟨rfl, by (repeat (first | with_reducible exact Grow.refl _ | with_reducible refine Grow.alloc ?_ _ | with_reducible refine Grow.drew ?_ | with_reducible refine Grow.drewN ?_ _ | (with_reducible refine Grow.setCell ?_ ?hp _; (case hp => (simp; try omega))) | with_reducible refine Grow.trans ?_ (by assumption)))⟩
set_option maxRecDepth 20000 in
set_option maxHeartbeats 8000000 in
theorem satQ (fr m : Int) (n B off ca : Nat) (r : Nat → Rat) (h1 : -100 ≤ fr) (h2 : fr ≤ 1000) (h3 : (n : Int) ≤ 1000 - fr) (hm : m < fr + n) (w : World) (hA : RowQ w B off n r) :
    Calls Tryz.prog 32 #[.agg #[.int .i64 fr, .slice (some ⟨B, off, none⟩) n ca], .int .i64 m] w fun e w' => ∃ v, e = .returned v ∧ RatR w' v (if m < fr then 0 else r (m - fr).toNat) ∧ Grow w w' := by
  have OF := Lib.hid (fun u => ofQ 0 (by decide) u)
  obtain ⟨x, hx⟩ : ∃ x, (if m < fr then 0 else r (m - fr).toNat) = x := ⟨_, rfl⟩
  rw [hx]
  have HX := Lib.hid hx
  clear hx
  obtain ⟨W1, hW1⟩ : ∃ W1 : World, W1 = w.alloc (.cells #[.int .i64 fr, .slice (some ⟨B, off, none⟩) n ca] 25) := ⟨_, rfl⟩
  obtain ⟨W2, hW2⟩ : ∃ W2 : World, W2 = W1.alloc (.cells #[.bool false, .slice none 0 0, .bool false, .slice none 0 0] 36) := ⟨_, rfl⟩
  have hg2 : Grow w W2 := (ag hW1).trans (ag hW2)
  have K1 := Lib.hid (fun u (hu : Grow W2 u) => ak2 hW1 u ((ag hW2).trans hu))
  have K2 := Lib.hid (ak4 hW2)
  have RC : Hid (RowP W2 W1.heap.size 0 1 (fun _ => none)) := Lib.hid (by rw [hW2]; exact rowp_alloc W1 _)
  have hz1 : W1.heap.size = w.heap.size + 1 := by rw [hW1]; simp
  rw [hz1] at K2 RC
  have HA := Lib.hid hA
  have HW1 := Lib.hid hW1
  have HW2 := Lib.hid hW2
  have G2 := Lib.hid hg2
  clear hA hW1 hW2 hg2 hz1
  go_enter Tryz.func32, Tryz.ntmps32
  go_upto_region 1 with fail
  rw [← HW1.out, ← HW2.out]
  obtain ⟨b0, b1, b2, b3⟩ := K1.out W2 (Grow.refl _)
  by_cases hlt : m < fr
  · have hx := HX.out
    rw [if_pos hlt] at hx
    subst hx
    have y1 : decide (m < fr) = true := by simp; omega
    go_wp2_with (go_at_call 18; (with_reducible refine (OF.out _).mono ?_); (rintro e u7 ⟨v7, rfl, hv7, hb7⟩; obtain ⟨s7, a7, l7, c7, t7, b7, k7, e7, rfl⟩ := hv7.form; have HV7 := Lib.hid hv7; clear hv7; obtain ⟨q0, q1, q2, q3, qf, qz⟩ := K2.out u7 (by (repeat (first | with_reducible exact Grow.refl _ | with_reducible refine Grow.alloc ?_ _ | with_reducible refine Grow.drew ?_ | with_reducible refine Grow.drewN ?_ _ | (with_reducible refine Grow.setCell ?_ ?hp _; (case hp => (simp; try omega))) | with_reducible refine Grow.trans ?_ (by assumption))))))
    obtain ⟨h1, h2⟩ := rescell (w := w) (RC.out.grow (show Grow W2 u7 by (repeat (first | with_reducible exact Grow.refl _ | with_reducible refine Grow.alloc ?_ _ | with_reducible refine Grow.drew ?_ | with_reducible refine Grow.drewN ?_ _ | (with_reducible refine Grow.setCell ?_ ?hp _; (case hp => (simp; try omega))) | with_reducible refine Grow.trans ?_ (by assumption))))) (by omega) (G2.out.trans (by (repeat (first | with_reducible exact Grow.refl _ | with_reducible refine Grow.alloc ?_ _ | with_reducible refine Grow.drew ?_ | with_reducible refine Grow.drewN ?_ _ | (with_reducible refine Grow.setCell ?_ ?hp _; (case hp => (simp; try omega))) | with_reducible refine Grow.trans ?_ (by assumption))))) HV7.out
    exact bodyPost_ret (v := .agg #[.bool s7, .slice a7 l7 c7, .bool t7, .slice b7 k7 e7]) (by rw [results_one rfl]; go_simp) rfl ⟨_, rfl, h1, h2⟩
  · have hx := HX.out
    rw [if_neg hlt] at hx
    obtain ⟨j, hj⟩ : ∃ j : Nat, (j : Int) = m - fr := ⟨(m - fr).toNat, by omega⟩
    have e1 : (m - fr).toNat = j := by omega
    rw [e1] at hx
    subst hx
    have hjn : j < n := by omega
    have y1 : decide (m < fr) = false := by simp; omega
    have y3 : IntKind.i64.wrap (m - fr) = (j : Int) := by rw [← hj]; exact IntWalk.i64_in _ (by omega)
    have y4 : wrap64 (m - fr) = (j : Int) := by clear y3; rw [← hj]; unfold wrap64; omega
    have y5 : (0 : Int) ≤ (j : Int) := by omega
    have y6 : (j : Int) < (n : Int) := by omega
    obtain ⟨s2, a2, l2, c2, t2, b2', k2, e2, hcP, hvP⟩ := row_cells HA.out hjn
    obtain ⟨f0, f1, f2, f3, f4, f5⟩ := hcP W2 G2.out
    have HVP := Lib.hid (hvP.grow G2.out)
    obtain ⟨q0, q1, q2, q3, qf, qz⟩ := K2.out W2 (Grow.refl _)
    clear hcP hvP hlt hj e1
    go_wp2_with fail
    obtain ⟨h1, h2⟩ := rescell (w := w) RC.out (by omega) G2.out HVP.out
    exact bodyPost_ret (v := .agg #[.bool s2, .slice a2 l2 c2, .bool t2, .slice b2' k2 e2]) (by rw [results_one rfl]; go_simp) rfl ⟨_, rfl, h1, h2⟩
set_option maxRecDepth 20000 in
set_option maxHeartbeats 8000000 in
theorem sAtQ (fr m : Int) (n B off ca : Nat) (r : Nat → Rat) (h1 : -100 ≤ fr) (h2 : fr ≤ 1000) (h3 : (n : Int) ≤ 1000 - fr) (hm : m < fr + n) (w : World) (hA : RowQ w B off n r) :
    Calls Tryz.prog 7 #[.agg #[.int .i64 fr, .slice (some ⟨B, off, none⟩) n ca], .int .i64 m] w fun e w' => ∃ v, e = .returned (.tuple #[v, .int .i64 0]) ∧ RatR w' v (if m < fr then 0 else r (m - fr).toNat) ∧ Grow w w' := by
  have VA := Lib.hid (fun u => svalidQ fr n (some ⟨B, off, none⟩) ca h1 h2 h3 u)
  have PR := Lib.hid (fun u => sprecQ fr n (some ⟨B, off, none⟩) ca h1 h2 h3 u)
  have AT := Lib.hid (fun u (hu : Grow w u) => satQ fr m n B off ca r h1 h2 h3 hm u (RowP.grow hA hu))
  have y1 : decide (m ≥ fr + (n : Int)) = false := by simp; omega
  obtain ⟨x, hx⟩ : ∃ x, (if m < fr then 0 else r (m - fr).toNat) = x := ⟨_, rfl⟩
  rw [hx] at AT ⊢
  have NM := Lib.hid (fun u v (hv : RatR u v x) => normalQ x v u hv)
  clear hx
  obtain ⟨W1, hW1⟩ : ∃ W1 : World, W1 = w.alloc (.cells #[.int .i64 fr, .slice (some ⟨B, off, none⟩) n ca] 25) := ⟨_, rfl⟩
  obtain ⟨W2, hW2⟩ : ∃ W2 : World, W2 = W1.alloc (.cells #[.bool false, .slice none 0 0, .bool false, .slice none 0 0] 36) := ⟨_, rfl⟩
  have hg2 : Grow w W2 := (ag hW1).trans (ag hW2)
  have K1 := Lib.hid (fun u (hu : Grow W2 u) => ak2 hW1 u ((ag hW2).trans hu))
  have K2 := Lib.hid (ak4 hW2)
  have RC : Hid (RowP W2 W1.heap.size 0 1 (fun _ => none)) := Lib.hid (by rw [hW2]; exact rowp_alloc W1 _)
  have hz1 : W1.heap.size = w.heap.size + 1 := by rw [hW1]; simp
  rw [hz1] at K2 RC
  have HW1 := Lib.hid hW1
  have HW2 := Lib.hid hW2
  clear hA hW1 hW2 hz1
  go_enter Tryz.func7, Tryz.ntmps7
  go_upto_region 1 with fail
  rw [← HW1.out, ← HW2.out]
  obtain ⟨b0, b1, b2, b3⟩ := K1.out W2 (Grow.refl _)
  go_wp2_with (first
    | (go_at_call 29; (with_reducible refine (VA.out _).mono ?_); (rintro e u1 ⟨rfl, hb1⟩; obtain ⟨d0, d1, d2, d3⟩ := K1.out u1 (by (repeat (first | with_reducible exact Grow.refl _ | with_reducible refine Grow.alloc ?_ _ | with_reducible refine Grow.drew ?_ | with_reducible refine Grow.drewN ?_ _ | (with_reducible refine Grow.setCell ?_ ?hp _; (case hp => (simp; try omega))) | with_reducible refine Grow.trans ?_ (by assumption)))))) | (go_at_call 30; (with_reducible refine (PR.out _).mono ?_); (rintro e u2 ⟨rfl, hb2⟩; obtain ⟨g0, g1, g2, g3⟩ := K1.out u2 (by (repeat (first | with_reducible exact Grow.refl _ | with_reducible refine Grow.alloc ?_ _ | with_reducible refine Grow.drew ?_ | with_reducible refine Grow.drewN ?_ _ | (with_reducible refine Grow.setCell ?_ ?hp _; (case hp => (simp; try omega))) | with_reducible refine Grow.trans ?_ (by assumption))))))
    | (go_at_call 32; (with_reducible refine (AT.out _ (by (repeat (first | with_reducible exact Grow.refl _ | with_reducible refine Grow.alloc ?_ _ | with_reducible refine Grow.drew ?_ | with_reducible refine Grow.drewN ?_ _ | (with_reducible refine Grow.setCell ?_ ?hp _; (case hp => (simp; try omega))) | with_reducible refine Grow.trans ?_ (by assumption))))).mono ?_); (rintro e u3 ⟨v3, rfl, hv3, hb3⟩; have HV3 := Lib.hid hv3; clear hv3))
    | (go_at_call 31; (with_reducible refine (NM.out _ _ HV3.out).mono ?_); (rintro e u7 ⟨v7, rfl, hv7, hb7⟩; obtain ⟨s7, a7, l7, c7, t7, b7, k7, e7, rfl⟩ := hv7.form; have HV7 := Lib.hid hv7; clear hv7; obtain ⟨q0, q1, q2, q3, qf, qz⟩ := K2.out u7 (by (repeat (first | with_reducible exact Grow.refl _ | with_reducible refine Grow.alloc ?_ _ | with_reducible refine Grow.drew ?_ | with_reducible refine Grow.drewN ?_ _ | (with_reducible refine Grow.setCell ?_ ?hp _; (case hp => (simp; try omega))) | with_reducible refine Grow.trans ?_ (by assumption)))))))
  obtain ⟨h1, h2⟩ := rescell (w := w) (RC.out.grow (show Grow W2 u7 by (repeat (first | with_reducible exact Grow.refl _ | with_reducible refine Grow.alloc ?_ _ | with_reducible refine Grow.drew ?_ | with_reducible refine Grow.drewN ?_ _ | (with_reducible refine Grow.setCell ?_ ?hp _; (case hp => (simp; try omega))) | with_reducible refine Grow.trans ?_ (by assumption))))) (by omega) (hg2.trans (by (repeat (first | with_reducible exact Grow.refl _ | with_reducible refine Grow.alloc ?_ _ | with_reducible refine Grow.drew ?_ | with_reducible refine Grow.drewN ?_ _ | (with_reducible refine Grow.setCell ?_ ?hp _; (case hp => (simp; try omega))) | with_reducible refine Grow.trans ?_ (by assumption))))) HV7.out
  exact bodyPost_ret (v := .tuple #[.agg #[.bool s7, .slice a7 l7 c7, .bool t7, .slice b7 k7 e7], .int .i64 0]) (by rw [results_cell_tmp rfl]; go_simp) rfl ⟨_, rfl, h1, h2⟩
end Go.Proofs.YtbpkfcohbefphaaGreat
