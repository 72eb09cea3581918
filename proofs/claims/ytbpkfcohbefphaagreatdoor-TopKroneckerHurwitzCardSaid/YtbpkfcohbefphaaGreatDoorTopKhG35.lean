/- Lemmas, plain laws and walks that the statement LwKronecker leans on (texts GaA, TbA, TbB), conditions as each theorem says. -/
import Derived.Test.YtbpkfcohbefphaaGreatDoorTopKhG18
import Derived.Test.YtbpkfcohbefphaaGreatDoorTopKhG20
import Derived.Test.YtbpkfcohbefphaaGreatDoorTopKhG21
import Derived.Test.YtbpkfcohbefphaaGreatDoorTopKhG22
import Derived.Test.YtbpkfcohbefphaaGreatDoorTopKhG34

namespace Go.Proofs.YtbpkfcohbefphaaGreatDoor
open Go Go.RowKit
theorem swithinQ (w : World) : Calls Tryz.prog 65 #[.int .i64 11] w fun e w' => e = .returned (.bool true) ∧ w = w' := by
  go_enter Tryz.func65, Tryz.ntmps65
  go_wp2_with fail
  go_ret
  exact ⟨rfl, rfl⟩
theorem level4Q (w : World) : Calls Tryz.prog 41 #[.int .i64 4] w fun e w' => e = .returned (.int .i64 0) ∧ w = w' := by
  go_enter Tryz.func41, Tryz.ntmps41
  go_wp2_with fail
  go_ret
  exact ⟨rfl, rfl⟩
set_option maxHeartbeats 4000000 in
theorem count4Q (w : World) : Calls Tryz.prog 15 #[.int .i64 4] w fun e w' => e = .returned (.tuple #[.int .i64 6, .int .i64 0]) ∧ Grow w w' := by
  have PS : Hid (∀ u, Calls Tryz.prog 42 #[.int .i64 4] u fun x w' => x = .returned (.tuple #[.int .i64 6, .int .i64 0]) ∧ Grow u w') := Lib.hid (fun u => by
    have h := psiQ 4 (by omega) (by omega) u
    rw [show psiN 4 = 6 by decide +kernel] at h
    exact h)
  go_enter Tryz.func15, Tryz.ntmps15
  go_wp2_with (first
    | (go_at_call 41; (with_reducible refine (level4Q _).mono ?_); (rintro e u2 ⟨rfl, rfl⟩))
    | (go_at_call 42; (with_reducible refine (PS.out _).mono ?_); (rintro e u3 ⟨rfl, hb3⟩)))
  refine bodyPost_ret (v := .tuple #[.int .i64 6, .int .i64 0]) (by rw [results_pair rfl]; first | rfl | go_simp) rfl ?_
  exact ⟨rfl, hb3⟩
/-- A signature in memory. -/
structure O7 (u : World) (B : Nat) (x0 x1 x2 x3 x4 x5 : Int) (b : Bool) : Prop where
  c0 : u.cell? ⟨B, 0, none⟩ = some (.int .i64 x0)
  c1 : u.cell? ⟨B, 1, none⟩ = some (.int .i64 x1)
  c2 : u.cell? ⟨B, 2, none⟩ = some (.int .i64 x2)
  c3 : u.cell? ⟨B, 3, none⟩ = some (.int .i64 x3)
  c4 : u.cell? ⟨B, 4, none⟩ = some (.int .i64 x4)
  c5 : u.cell? ⟨B, 5, none⟩ = some (.int .i64 x5)
  c6 : u.cell? ⟨B, 6, none⟩ = some (.bool b)
  fr : ∀ o, u.frozen? ⟨B, o, none⟩ = false
  lt : B < u.heap.size
section
variable {u u' : World} {B : Nat} {x0 x1 x2 x3 x4 x5 : Int} {b : Bool}
theorem O7.but {X : Nat → Prop} (h : O7 u B x0 x1 x2 x3 x4 x5 b) (hg : But X u u') (hX : ¬ X B) : O7 u' B x0 x1 x2 x3 x4 x5 b :=
  ⟨(hg.cells _ _ h.lt hX).trans h.c0, (hg.cells _ _ h.lt hX).trans h.c1, (hg.cells _ _ h.lt hX).trans h.c2, (hg.cells _ _ h.lt hX).trans h.c3, (hg.cells _ _ h.lt hX).trans h.c4, (hg.cells _ _ h.lt hX).trans h.c5, (hg.cells _ _ h.lt hX).trans h.c6, fun o => (hg.frees _ _ h.lt).trans (h.fr o), Nat.lt_of_lt_of_le h.lt hg.size⟩
theorem O7.grow (h : O7 u B x0 x1 x2 x3 x4 x5 b) (hg : Grow u u') : O7 u' B x0 x1 x2 x3 x4 x5 b := h.but (X := fun _ => False) (hg.but _) (fun h => h)
theorem O7.all (h : O7 u B x0 x1 x2 x3 x4 x5 b) : ∀ w, Grow u w → w.cell? ⟨B, 0, none⟩ = some (.int .i64 x0) ∧ w.cell? ⟨B, 1, none⟩ = some (.int .i64 x1) ∧ w.cell? ⟨B, 2, none⟩ = some (.int .i64 x2) ∧ w.cell? ⟨B, 3, none⟩ = some (.int .i64 x3) ∧ w.cell? ⟨B, 4, none⟩ = some (.int .i64 x4) ∧ w.cell? ⟨B, 5, none⟩ = some (.int .i64 x5) ∧ w.cell? ⟨B, 6, none⟩ = some (.bool b) ∧ (∀ o, w.frozen? ⟨B, o, none⟩ = false) ∧ B < w.heap.size := fun w hg => by
  obtain ⟨a, b, c, d, e, f, g, h, i⟩ := h.grow hg
  exact ⟨a, b, c, d, e, f, g, h, i⟩
theorem O7.set0 (h : O7 u B x0 x1 x2 x3 x4 x5 b) (y : Int) : O7 (u.setCell ⟨B, 0, none⟩ (.int .i64 y)) B y x1 x2 x3 x4 x5 b ∧ But (fun z => z = B) u (u.setCell ⟨B, 0, none⟩ (.int .i64 y)) := by
  have f : ∀ i, i ≠ 0 → (u.setCell ⟨B, 0, none⟩ (.int .i64 y)).cell? ⟨B, i, none⟩ = u.cell? ⟨B, i, none⟩ := fun i hi => World.cell?_setCell_other _ _ _ _ (by simp; try omega)
  exact ⟨⟨World.cell?_setCell_same _ _ _ h.c0, (f 1 (by omega)).trans h.c1, (f 2 (by omega)).trans h.c2, (f 3 (by omega)).trans h.c3, (f 4 (by omega)).trans h.c4, (f 5 (by omega)).trans h.c5, (f 6 (by omega)).trans h.c6, fun i => by simpa using h.fr i, by simpa [World.setCell] using h.lt⟩, (But.refl _ u).set _ (.inr rfl) (fun x => by rw [h.c0]; simp)⟩
theorem O7.set2 (h : O7 u B x0 x1 x2 x3 x4 x5 b) (y : Int) : O7 (u.setCell ⟨B, 2, none⟩ (.int .i64 y)) B x0 x1 y x3 x4 x5 b ∧ But (fun z => z = B) u (u.setCell ⟨B, 2, none⟩ (.int .i64 y)) := by
  have f : ∀ i, i ≠ 2 → (u.setCell ⟨B, 2, none⟩ (.int .i64 y)).cell? ⟨B, i, none⟩ = u.cell? ⟨B, i, none⟩ := fun i hi => World.cell?_setCell_other _ _ _ _ (by simp; try omega)
  exact ⟨⟨(f 0 (by omega)).trans h.c0, (f 1 (by omega)).trans h.c1, World.cell?_setCell_same _ _ _ h.c2, (f 3 (by omega)).trans h.c3, (f 4 (by omega)).trans h.c4, (f 5 (by omega)).trans h.c5, (f 6 (by omega)).trans h.c6, fun i => by simpa using h.fr i, by simpa [World.setCell] using h.lt⟩, (But.refl _ u).set _ (.inr rfl) (fun x => by rw [h.c2]; simp)⟩
theorem O7.set3 (h : O7 u B x0 x1 x2 x3 x4 x5 b) (y : Int) : O7 (u.setCell ⟨B, 3, none⟩ (.int .i64 y)) B x0 x1 x2 y x4 x5 b ∧ But (fun z => z = B) u (u.setCell ⟨B, 3, none⟩ (.int .i64 y)) := by
  have f : ∀ i, i ≠ 3 → (u.setCell ⟨B, 3, none⟩ (.int .i64 y)).cell? ⟨B, i, none⟩ = u.cell? ⟨B, i, none⟩ := fun i hi => World.cell?_setCell_other _ _ _ _ (by simp; try omega)
  exact ⟨⟨(f 0 (by omega)).trans h.c0, (f 1 (by omega)).trans h.c1, (f 2 (by omega)).trans h.c2, World.cell?_setCell_same _ _ _ h.c3, (f 4 (by omega)).trans h.c4, (f 5 (by omega)).trans h.c5, (f 6 (by omega)).trans h.c6, fun i => by simpa using h.fr i, by simpa [World.setCell] using h.lt⟩, (But.refl _ u).set _ (.inr rfl) (fun x => by rw [h.c3]; simp)⟩
theorem O7.set4 (h : O7 u B x0 x1 x2 x3 x4 x5 b) (y : Int) : O7 (u.setCell ⟨B, 4, none⟩ (.int .i64 y)) B x0 x1 x2 x3 y x5 b ∧ But (fun z => z = B) u (u.setCell ⟨B, 4, none⟩ (.int .i64 y)) := by
  have f : ∀ i, i ≠ 4 → (u.setCell ⟨B, 4, none⟩ (.int .i64 y)).cell? ⟨B, i, none⟩ = u.cell? ⟨B, i, none⟩ := fun i hi => World.cell?_setCell_other _ _ _ _ (by simp; try omega)
  exact ⟨⟨(f 0 (by omega)).trans h.c0, (f 1 (by omega)).trans h.c1, (f 2 (by omega)).trans h.c2, (f 3 (by omega)).trans h.c3, World.cell?_setCell_same _ _ _ h.c4, (f 5 (by omega)).trans h.c5, (f 6 (by omega)).trans h.c6, fun i => by simpa using h.fr i, by simpa [World.setCell] using h.lt⟩, (But.refl _ u).set _ (.inr rfl) (fun x => by rw [h.c4]; simp)⟩
end
theorem O7.lay {w W : World} {x0 x1 x2 x3 x4 x5 : Int} {b : Bool} {t : TypeId} (hW : W = w.alloc (.cells #[.int .i64 x0, .int .i64 x1, .int .i64 x2, .int .i64 x3, .int .i64 x4, .int .i64 x5, .bool b] t)) : O7 W w.heap.size x0 x1 x2 x3 x4 x5 b := by
  subst hW
  exact ⟨by go_simp, by go_simp, by go_simp, by go_simp, by go_simp, by go_simp, by go_simp, fun o => by go_simp, by simp⟩
set_option maxRecDepth 20000 in
set_option maxHeartbeats 8000000 in
theorem sgenusQ (w : World) : Calls Tryz.prog 69 #[.agg #[.int .i64 12, .int .i64 0, .int .i64 0, .int .i64 0, .int .i64 2, .int .i64 0, .bool true]] w fun e w' => e = .returned (.agg #[.int .i64 12, .int .i64 1, .int .i64 0, .int .i64 0, .int .i64 2, .int .i64 0, .bool true]) ∧ Grow w w' := by
  have m0 : IntKind.i64.wrap 0 = 0 := by decide
  go_enter Tryz.func69, Tryz.ntmps69
  go_wp2_with fail
  refine bodyPost_ret (v := .agg #[.int .i64 12, .int .i64 1, .int .i64 0, .int .i64 0, .int .i64 2, .int .i64 0, .bool true]) (by rw [results_one rfl]; go_simp) rfl ⟨rfl, ?_⟩
  (repeat (first | with_reducible exact Grow.refl _ | with_reducible refine Grow.alloc ?_ _ | with_reducible refine Grow.drew ?_ | with_reducible refine Grow.drewN ?_ _ | (with_reducible refine Grow.setCell ?_ ?hp _; (case hp => (simp; try omega))) | with_reducible refine Grow.trans ?_ (by assumption)))
set_option maxRecDepth 20000 in
set_option maxHeartbeats 8000000 in
theorem formulaQ (w : World) (hT : TabB w) : Calls Tryz.prog 40 #[.int .i64 11] w fun e w' => e = .returned (.tuple #[.agg #[.int .i64 12, .int .i64 1, .int .i64 0, .int .i64 0, .int .i64 2, .int .i64 0, .bool true], .int .i64 0]) ∧ Grow w w' := by
  have PS : Hid (∀ u, Calls Tryz.prog 42 #[.int .i64 11] u fun x w' => x = .returned (.tuple #[.int .i64 12, .int .i64 0]) ∧ Grow u w') := Lib.hid (fun u => by
    have h := psiQ 11 (by omega) (by omega) u
    rw [show psiN 11 = 12 by decide +kernel] at h
    exact h)
  have FC : Hid (∀ u, Calls Tryz.prog 66 #[.int .i64 11] u fun x w' => ∃ v, x = .returned (.tuple #[v, .int .i64 0]) ∧ w'.ownsRow u.heap.size 101 2 v 1 [.int .i64 11, .int .i64 1] ∧ Grow u w') := Lib.hid (fun u => by
    have h := factorQ 11 (by omega) (by omega) u
    rw [show faL 33 11 2 = [(11, 1)] by decide +kernel] at h
    exact h)
  have DV : Hid (∀ u, Calls Tryz.prog 9 #[.int .i64 11] u fun x w' => ∃ g cap, x = .returned (.tuple #[.slice (some ⟨g, 0, none⟩) 2 cap, .int .i64 0]) ∧ IntQ w' g 0 2 (fun i => if i = 0 then 1 else 11) ∧ Grow u w' ∧ u.heap.size ≤ g) := Lib.hid (fun u => by
    have h := divisorsQ 11 (by omega) (by omega) u
    rw [show divs 11 = [1, 11] by decide +kernel] at h
    refine h.mono ?_
    rintro e w' ⟨g, cap, rfl, hi, hg, hb⟩
    refine ⟨g, cap, rfl, ⟨hi.lt, fun i hi2 => ?_⟩, hg, hb⟩
    rw [hi.cell i hi2]
    rcases (show i = 0 ∨ i = 1 by omega) with rfl | rfl <;> rfl)
  have PH : Hid (∀ u, Calls Tryz.prog 67 #[.int .i64 1] u fun x w' => x = .returned (.tuple #[.int .i64 1, .int .i64 0]) ∧ Grow u w') := Lib.hid (fun u => by
    have h := phiQ 1 (by omega) (by omega) u
    rw [show phiN 1 = 1 by decide +kernel] at h
    exact h)
  have GE := Lib.hid (fun u => sgenusQ u)
  obtain ⟨W1, hW1⟩ : ∃ W1 : World, W1 = w.alloc (.cells #[.int .i64 0, .int .i64 0, .int .i64 0, .int .i64 0, .int .i64 0, .int .i64 0, .bool false] 66) := ⟨_, rfl⟩
  obtain ⟨W2, hW2⟩ : ∃ W2 : World, W2 = W1.alloc (.cells #[.int .i64 0, .int .i64 0, .int .i64 1, .int .i64 1, .int .i64 0, .int .i64 0, .bool true] 66) := ⟨_, rfl⟩
  have hz1 : W1.heap.size = w.heap.size + 1 := by rw [hW1]; simp
  have HW1 := Lib.hid hW1
  have HW2 := Lib.hid hW2
  have HR : Hid (O7 W2 w.heap.size 0 0 0 0 0 0 false) := Lib.hid ((O7.lay hW1).grow (ag hW2))
  have HS : Hid (O7 W2 (w.heap.size + 1) 0 0 1 1 0 0 true) := Lib.hid (by rw [← hz1]; exact O7.lay hW2)
  have HG2 : Hid (Grow w W2) := Lib.hid ((ag hW1).trans (ag hW2))
  have HZ1 := Lib.hid hz1
  clear hW1 hW2 hz1
  go_enter Tryz.func40, Tryz.ntmps40
  go_upto_region 4 with (go_at_call 65; (with_reducible refine (swithinQ _).mono ?_); (rintro e u2 ⟨rfl, rfl⟩))
  rw [← HW1.out, ← HW2.out]
  try rw [HZ1.out]
  obtain ⟨B, hB⟩ : ∃ B, w.heap.size + 1 = B := ⟨_, rfl⟩
  rw [hB] at HS
  rw [hB]
  have hBw : w.heap.size < B := by omega
  clear hB HW1 HW2
  go_upto_region 5 with (go_at_call 42; (with_reducible refine (PS.out _).mono ?_); (rintro e u3 ⟨rfl, hb3⟩; have HG3 := Lib.hid hb3; clear hb3; obtain ⟨d0, d1, d2, d3, d4, d5, d6, d7, d8⟩ := HS.out.all u3 HG3.out))
  clear d0 d1 d2 d3 d4 d5 d6 d7 d8 PS
  obtain ⟨hs4, hb4⟩ := (HS.out.grow HG3.out).set0 12
  obtain ⟨W4, hW4⟩ : ∃ W4, u3.setCell ⟨B, 0, none⟩ (.int .i64 12) = W4 := ⟨_, rfl⟩
  rw [hW4] at hs4 hb4
  rw [hW4]
  have HS4 := Lib.hid hs4
  have HB4 : Hid (But (fun z => z = B) W2 W4) := Lib.hid ((HG3.out.but _).trans hb4)
  clear hs4 hb4 hW4 HS HG3
  go_upto_region 6 with (go_at_call 66; (with_reducible refine (FC.out _).mono ?_); (rintro e u5 ⟨v5, rfl, ho5, hb5⟩; have HO5 := Lib.hid ho5; have HG5 := Lib.hid hb5; clear ho5 hb5))
  obtain ⟨g5, cap5, hv5, hgb5, hgl5⟩ := own_slice HO5.out (by omega)
  subst hv5
  obtain ⟨-, -, -, -, hcl⟩ := own_cells HO5.out
  have q0 := hcl 0 _ rfl
  have q1 := hcl 1 _ rfl
  have Q5 := Lib.hid (⟨q0, q1⟩ : _ ∧ _)
  have hgB : ¬ g5 = B := by have := HB4.out.size; have := HG5.out.size; have := (HR.out).lt; have := HS4.out.lt; omega
  have hbw0 : But (fun z => z = B) W2 u5 := HB4.out.grow HG5.out
  have HS5 := Lib.hid (HS4.out.grow HG5.out)
  have HBW := Lib.hid hbw0
  clear hcl q0 q1 hbw0 HO5 FC HS4 HB4 HG5 hgb5
  go_wp2_with fail
  go_loopg [33] 1 (fun gk t33 wr => (t33 = .int .i64 0 ∧ Hid (gk = 1) ∧ Hid (O7 wr B 12 0 1 1 0 0 true) ∧ Hid (But (fun z => z = B) u5 wr)) ∨ (t33 = .int .i64 1 ∧ Hid (gk = 0) ∧ Hid (O7 wr B 12 0 0 0 0 0 true) ∧ Hid (But (fun z => z = B) u5 wr)))
  case atStart => exact .inl ⟨rfl, Lib.hid rfl, HS5, Lib.hid (But.refl _ _)⟩
  case round =>
    clear HS5
    obtain ⟨rfl, HGK, HS, HB⟩ | ⟨rfl, HGK, HS, HB⟩ := hrel
    case inl =>
      have hgr : Grow w wr := ((HG2.out.but _).trans (HBW.out.trans HB.out)).asGrow (fun z hz => by omega)
      have q0 := (HB.out.cells _ 0 hgl5 hgB).trans Q5.out.1
      have q1 := (HB.out.cells _ 1 hgl5 hgB).trans Q5.out.2
      have KA : Hid (∀ u, Grow wr u → Calls Tryz.prog 35 #[.int .i64 (-4), .int .i64 11] u fun e w' => e = .returned (.int .i64 (-1)) ∧ u = w') := Lib.hid (fun u hu => by
        have h := kroneckerQ (-4) 11 (by decide) (by omega) (by omega) u (hT.grow (hgr.trans hu))
        rw [show krN (-4) 11 = -1 by decide +kernel] at h
        exact h)
      have KB : Hid (∀ u, Grow wr u → Calls Tryz.prog 35 #[.int .i64 (-3), .int .i64 11] u fun e w' => e = .returned (.int .i64 (-1)) ∧ u = w') := Lib.hid (fun u hu => by
        have h := kroneckerQ (-3) 11 (by decide) (by omega) (by omega) u (hT.grow (hgr.trans hu))
        rw [show krN (-3) 11 = -1 by decide +kernel] at h
        exact h)
      have m0 : IntKind.i64.wrap 0 = 0 := by decide
      go_upto_region 9 with fail
      obtain ⟨W8, hW8⟩ : ∃ W8 : World, W8 = wr.alloc (.cells #[.int .i64 11, .int .i64 1] 101) := ⟨_, rfl⟩
      rw [← hW8]
      have D0 := Lib.hid (HS.out.grow (ag hW8)).all
      have D1 := Lib.hid (ak2 hW8)
      have HS8 := Lib.hid (HS.out.grow (ag hW8))
      have HB8 := Lib.hid (HB.out.grow (ag hW8))
      have KA2 := Lib.hid (fun u (hu : Grow W8 u) => KA.out u ((ag hW8).trans hu))
      have KB2 := Lib.hid (fun u (hu : Grow wr u) => KB.out u hu)
      have hg8 := ag hW8
      have P8 := Lib.hid (ak2 hW8 W8 (Grow.refl _))
      have hwx : ¬ wr.heap.size = B := by have := HS.out.lt; omega
      clear KA KB q0 q1 hgr hW8
      have KA := KA2
      have KB := KB2
      clear KA2 KB2
      refine region_held (id := 9) (fun u => Grow W8 u) [0, 1, 2, 3, 4, 5, 6, 7, 8] (kdL [0, 1, 0, 1, 2, 0, 0, 0, 3]) (by kernel_rfl) (by kernel_rfl) (fun t ht => kdL_lt _ t ht) ?hS0q ?_
      case hS0q => ((try dsimp only); (repeat (first | with_reducible exact Grow.refl _ | with_reducible refine Grow.alloc ?_ _ | with_reducible refine Grow.drew ?_ | with_reducible refine Grow.drewN ?_ _ | (with_reducible refine Grow.setCell ?_ ?hp _; (case hp => (simp; try omega))) | with_reducible refine Grow.trans ?_ (by assumption))))
      refine held_quiet (v := ?vq0) rfl rfl (Or.inl ⟨by rfl, ?hyq0⟩) ?_
      case hyq0 => (intro u hu; go_simp; (try with_reducible rfl))
      (try simp only [Act.put, List.setIfInBounds_toArray, List.set_cons_zero, List.set_cons_succ])
      refine held_read (v := ?vq1) rfl rfl (Or.inl ⟨by rfl, ?hyq1⟩) ?_
      case hyq1 => (intro u hu; obtain ⟨d0, d1, d2, d3, d4, d5, d6, d7, d8⟩ := D0.out u hu; obtain ⟨f0, f1, f2, f3⟩ := D1.out u hu; go_simp; (try with_reducible rfl))
      (try simp only [Act.put, List.setIfInBounds_toArray, List.set_cons_zero, List.set_cons_succ])
      refine held_quiet (v := ?vq2) rfl rfl (Or.inl ⟨by rfl, ?hyq2⟩) ?_
      case hyq2 => (intro u hu; go_simp; (try with_reducible rfl))
      (try simp only [Act.put, List.setIfInBounds_toArray, List.set_cons_zero, List.set_cons_succ])
      refine held_read (v := ?vq3) rfl rfl (Or.inl ⟨by rfl, ?hyq3⟩) ?_
      case hyq3 => (intro u hu; obtain ⟨d0, d1, d2, d3, d4, d5, d6, d7, d8⟩ := D0.out u hu; obtain ⟨f0, f1, f2, f3⟩ := D1.out u hu; go_simp; (try with_reducible rfl))
      (try simp only [Act.put, List.setIfInBounds_toArray, List.set_cons_zero, List.set_cons_succ])
      refine held_op rfl rfl (fun K hK => ?_)
      go_simp
      (go_at_call 35; (with_reducible refine (KA.out _ (by (repeat (first | with_reducible exact Grow.refl _ | with_reducible refine Grow.alloc ?_ _ | with_reducible refine Grow.drew ?_ | with_reducible refine Grow.drewN ?_ _ | (with_reducible refine Grow.setCell ?_ ?hp _; (case hp => (simp; try omega))) | with_reducible refine Grow.trans ?_ (by assumption))))).mono ?_); (rintro x u24 ⟨rfl, rfl⟩); obtain ⟨d0, d1, d2, d3, d4, d5, d6, d7, d8⟩ := D0.out _ (by (repeat (first | with_reducible exact Grow.refl _ | with_reducible refine Grow.alloc ?_ _ | with_reducible refine Grow.drew ?_ | with_reducible refine Grow.drewN ?_ _ | (with_reducible refine Grow.setCell ?_ ?hp _; (case hp => (simp; try omega))) | with_reducible refine Grow.trans ?_ (by assumption)))))
      (try go_wp2_with fail)
      refine hK.out _ _ ?hSq4 ?_
      case hSq4 => ((try dsimp only); (repeat (first | with_reducible exact Grow.refl _ | with_reducible refine Grow.alloc ?_ _ | with_reducible refine Grow.drew ?_ | with_reducible refine Grow.drewN ?_ _ | (with_reducible refine Grow.setCell ?_ ?hp _; (case hp => (simp; try omega))) | with_reducible refine Grow.trans ?_ (by assumption))))
      clear hK K
      (try simp only [Act.put, List.setIfInBounds_toArray, List.set_cons_zero, List.set_cons_succ])
      refine held_quiet (v := ?vq5) rfl rfl (Or.inl ⟨by rfl, ?hyq5⟩) ?_
      case hyq5 => (intro u hu; go_simp; (try with_reducible rfl))
      (try simp only [Act.put, List.setIfInBounds_toArray, List.set_cons_zero, List.set_cons_succ])
      refine held_quiet (v := ?vq6) rfl rfl (Or.inl ⟨by rfl, ?hyq6⟩) ?_
      case hyq6 => (intro u hu; go_simp; (try with_reducible rfl))
      (try simp only [Act.put, List.setIfInBounds_toArray, List.set_cons_zero, List.set_cons_succ])
      refine held_quiet (v := ?vq7) rfl rfl (Or.inl ⟨by rfl, ?hyq7⟩) ?_
      case hyq7 => (intro u hu; go_simp; (try with_reducible rfl))
      (try simp only [Act.put, List.setIfInBounds_toArray, List.set_cons_zero, List.set_cons_succ])
      refine held_last rfl rfl (fun K hK => ?_)
      go_simp
      refine hK.out _ _ ?_
      clear hK K
      (try simp only [Act.put, List.setIfInBounds_toArray, List.set_cons_zero, List.set_cons_succ])
      refine held_done ?_
      go_simp
      obtain ⟨hs9, hb9⟩ := HS8.out.set2 0
      have hs9 := hs9.grow ((Grow.refl _).drew)
      have hb9 := hb9.drew
      obtain ⟨W9, hW9⟩ : ∃ W9, (W8.setCell ⟨B, 2, none⟩ (.int .i64 0)).drew = W9 := ⟨_, rfl⟩
      rw [hW9] at hs9 hb9
      rw [hW9]
      have hg9 : Grow w W9 := ((HG2.out.but _).trans ((HBW.out.trans HB8.out).trans hb9)).asGrow (fun z hz => by omega)
      have KB : Hid (∀ u, Grow W9 u → Calls Tryz.prog 35 #[.int .i64 (-3), .int .i64 11] u fun e w' => e = .returned (.int .i64 (-1)) ∧ u = w') := Lib.hid (fun u hu => by
        have h := kroneckerQ (-3) 11 (by decide) (by omega) (by omega) u (hT.grow (hg9.trans hu))
        rw [show krN (-3) 11 = -1 by decide +kernel] at h
        exact h)
      have k0 := (hb9.cells _ 0 P8.out.2.2.2 hwx).trans P8.out.1
      have k1 := (hb9.cells _ 1 P8.out.2.2.2 hwx).trans P8.out.2.1
      have kl : wr.heap.size < W9.heap.size := Nat.lt_of_lt_of_le P8.out.2.2.2 hb9.size
      have D0 := Lib.hid hs9.all
      have D1 := Lib.hid (fun (u : World) (hu : Grow W9 u) => (⟨(hu.cells _ _ kl).trans k0, (hu.cells _ _ kl).trans k1, trivial, trivial⟩ : _ ∧ _ ∧ True ∧ True))
      have HS9 := Lib.hid hs9
      have HB9 := Lib.hid (HB8.out.trans hb9)
      clear hs9 hb9 hW9 hg9 k0 k1 kl d0 d1 d2 d3 d4 d5 d6 d7 d8
      go_upto_region 10 with fail
      refine region_held (id := 10) (fun u => Grow W9 u) [0, 1, 2, 3, 4, 5, 6, 7, 8] (kdL [0, 1, 0, 1, 2, 0, 0, 0, 3]) (by kernel_rfl) (by kernel_rfl) (fun t ht => kdL_lt _ t ht) ?hS0r ?_
      case hS0r => ((try dsimp only); (repeat (first | with_reducible exact Grow.refl _ | with_reducible refine Grow.alloc ?_ _ | with_reducible refine Grow.drew ?_ | with_reducible refine Grow.drewN ?_ _ | (with_reducible refine Grow.setCell ?_ ?hp _; (case hp => (simp; try omega))) | with_reducible refine Grow.trans ?_ (by assumption))))
      refine held_quiet (v := ?vr0) rfl rfl (Or.inl ⟨by rfl, ?hyr0⟩) ?_
      case hyr0 => (intro u hu; go_simp; (try with_reducible rfl))
      (try simp only [Act.put, List.setIfInBounds_toArray, List.set_cons_zero, List.set_cons_succ])
      refine held_read (v := ?vr1) rfl rfl (Or.inl ⟨by rfl, ?hyr1⟩) ?_
      case hyr1 => (intro u hu; obtain ⟨d0, d1, d2, d3, d4, d5, d6, d7, d8⟩ := D0.out u hu; obtain ⟨f0, f1, -, -⟩ := D1.out u hu; go_simp; (try with_reducible rfl))
      (try simp only [Act.put, List.setIfInBounds_toArray, List.set_cons_zero, List.set_cons_succ])
      refine held_quiet (v := ?vr2) rfl rfl (Or.inl ⟨by rfl, ?hyr2⟩) ?_
      case hyr2 => (intro u hu; go_simp; (try with_reducible rfl))
      (try simp only [Act.put, List.setIfInBounds_toArray, List.set_cons_zero, List.set_cons_succ])
      refine held_read (v := ?vr3) rfl rfl (Or.inl ⟨by rfl, ?hyr3⟩) ?_
      case hyr3 => (intro u hu; obtain ⟨d0, d1, d2, d3, d4, d5, d6, d7, d8⟩ := D0.out u hu; obtain ⟨f0, f1, -, -⟩ := D1.out u hu; go_simp; (try with_reducible rfl))
      (try simp only [Act.put, List.setIfInBounds_toArray, List.set_cons_zero, List.set_cons_succ])
      refine held_op rfl rfl (fun K hK => ?_)
      go_simp
      (go_at_call 35; (with_reducible refine (KB.out _ (by (repeat (first | with_reducible exact Grow.refl _ | with_reducible refine Grow.alloc ?_ _ | with_reducible refine Grow.drew ?_ | with_reducible refine Grow.drewN ?_ _ | (with_reducible refine Grow.setCell ?_ ?hp _; (case hp => (simp; try omega))) | with_reducible refine Grow.trans ?_ (by assumption))))).mono ?_); (rintro x u24 ⟨rfl, rfl⟩); obtain ⟨d0, d1, d2, d3, d4, d5, d6, d7, d8⟩ := D0.out _ (by (repeat (first | with_reducible exact Grow.refl _ | with_reducible refine Grow.alloc ?_ _ | with_reducible refine Grow.drew ?_ | with_reducible refine Grow.drewN ?_ _ | (with_reducible refine Grow.setCell ?_ ?hp _; (case hp => (simp; try omega))) | with_reducible refine Grow.trans ?_ (by assumption)))))
      (try go_wp2_with fail)
      refine hK.out _ _ ?hSr4 ?_
      case hSr4 => ((try dsimp only); (repeat (first | with_reducible exact Grow.refl _ | with_reducible refine Grow.alloc ?_ _ | with_reducible refine Grow.drew ?_ | with_reducible refine Grow.drewN ?_ _ | (with_reducible refine Grow.setCell ?_ ?hp _; (case hp => (simp; try omega))) | with_reducible refine Grow.trans ?_ (by assumption))))
      clear hK K
      (try simp only [Act.put, List.setIfInBounds_toArray, List.set_cons_zero, List.set_cons_succ])
      refine held_quiet (v := ?vr5) rfl rfl (Or.inl ⟨by rfl, ?hyr5⟩) ?_
      case hyr5 => (intro u hu; go_simp; (try with_reducible rfl))
      (try simp only [Act.put, List.setIfInBounds_toArray, List.set_cons_zero, List.set_cons_succ])
      refine held_quiet (v := ?vr6) rfl rfl (Or.inl ⟨by rfl, ?hyr6⟩) ?_
      case hyr6 => (intro u hu; go_simp; (try with_reducible rfl))
      (try simp only [Act.put, List.setIfInBounds_toArray, List.set_cons_zero, List.set_cons_succ])
      refine held_quiet (v := ?vr7) rfl rfl (Or.inl ⟨by rfl, ?hyr7⟩) ?_
      case hyr7 => (intro u hu; go_simp; (try with_reducible rfl))
      (try simp only [Act.put, List.setIfInBounds_toArray, List.set_cons_zero, List.set_cons_succ])
      refine held_last rfl rfl (fun K hK => ?_)
      go_simp
      refine hK.out _ _ ?_
      clear hK K
      (try simp only [Act.put, List.setIfInBounds_toArray, List.set_cons_zero, List.set_cons_succ])
      refine held_done ?_
      go_simp
      obtain ⟨hs10, hb10⟩ := HS9.out.set3 0
      have hs10 := Lib.hid (hs10.grow ((Grow.refl _).drew))
      have hb10 := Lib.hid (HB9.out.trans hb10.drew)
      clear d0 d1 d2 d3 d4 d5 d6 d7 d8
      go_wp2_with fail
      go_roundg 0
      case measure => have := HGK.out; omega
      case rel => exact .inr ⟨rfl, Lib.hid rfl, hs10, hb10⟩
    case inr =>
      have hgr : Grow w wr := ((HG2.out.but _).trans (HBW.out.trans HB.out)).asGrow (fun z hz => by omega)
      have HBX := Lib.hid (HBW.out.trans HB.out)
      clear HB hT
      go_upto_region 17 with (go_at_call 9; (with_reducible refine (DV.out _).mono ?_); (rintro e u6 ⟨g6, cap6, rfl, hi6, hb6, hgg6⟩; have HI6 := Lib.hid hi6; have HG6 := Lib.hid hb6; clear hi6 hb6))
      have HS6 := Lib.hid (HS.out.grow HG6.out)
      have HB6 := Lib.hid (HBX.out.grow HG6.out)
      have hg6B : ¬ g6 = B := by have := HS.out.lt; omega
      clear HS HBX DV hgg6 hgr Q5
      go_wp2_with fail
      go_loopg [69] 2 (fun gk t69 wr => ∃ k : Nat, t69 = .int .i64 (k : Int) ∧ k ≤ 2 ∧ Hid (gk = 2 - k) ∧ Hid (O7 wr B 12 0 0 0 (k : Int) 0 true) ∧ Hid (But (fun z => z = B) u6 wr))
      case atStart => exact ⟨0, rfl, by omega, Lib.hid rfl, HS6, Lib.hid (But.refl _ _)⟩
      case round =>
        clear HS6
        obtain ⟨k, rfl, hk2, HGJ, HS, HB⟩ := hrel
        have hbw := HB6.out.trans HB.out
        obtain ⟨d0, d1, d2, d3, d4, d5, d6, d7, d8⟩ := HS.out.all wr (Grow.refl _)
        by_cases hk : k = 2
        · subst hk
          have hgw : Grow w wr := ((HG2.out.but _).trans hbw).asGrow (fun z hz => by omega)
          have HR9 := Lib.hid (HR.out.but hbw (by omega))
          have HGW := Lib.hid hgw
          clear hbw hgw
          go_wp2_with (go_at_call 69; (with_reducible refine (GE.out _).mono ?_); (rintro e u9 ⟨rfl, hb9⟩; have HG9 := Lib.hid hb9; clear hb9; obtain ⟨r0, r1, r2, r3, r4, r5, r6, r7, r8⟩ := HR9.out.all u9 HG9.out))
          refine bodyPost_ret (v := .tuple #[.agg #[.int .i64 12, .int .i64 1, .int .i64 0, .int .i64 0, .int .i64 2, .int .i64 0, .bool true], .int .i64 0]) (by rw [results_cell_tmp rfl]; go_simp) rfl ⟨rfl, ?_⟩
          exact (((((((HGW.out.trans HG9.out).setCell (Nat.le_refl _) _).setCell (Nat.le_refl _) _).setCell (Nat.le_refl _) _).setCell (Nat.le_refl _) _).setCell (Nat.le_refl _) _).setCell (Nat.le_refl _) _).setCell (Nat.le_refl _) _
        · have y0 : (0 : Int) ≤ (k : Int) := by omega
          have y1 : decide ((k : Int) < 2) = true := by simp; omega
          have y1n : decide (k < 2) = true := by simp; omega
          have y2 : (k : Int) < 2 := by omega
          obtain ⟨D, hD⟩ : ∃ D : Int, (if k = 0 then 1 else 11) = D := ⟨_, rfl⟩
          obtain ⟨E, hE⟩ : ∃ E : Int, (if k = 0 then 11 else 1) = E := ⟨_, rfl⟩
          have hc := HI6.out.cell k (by omega)
          rw [Nat.zero_add] at hc
          rw [hD] at hc
          have hc := (HB.out.cells _ k HI6.out.lt hg6B).trans hc
          have hq : Hid (Int.tdiv 11 D = E ∧ IntKind.i64.wrap E = E ∧ wrap64 E = E ∧ ¬ D = 0 ∧ D.natAbs ≤ 11 ∧ E.natAbs ≤ 11 ∧ Int.gcd D E = 1) := Lib.hid (by
            rcases (show k = 0 ∨ k = 1 by omega) with rfl | rfl
            · subst hD hE; decide +kernel
            · subst hD hE; decide +kernel)
          obtain ⟨q1, q2, q3, q4, q5, q6, q7⟩ := hq.out
          have GC : Hid (∀ u, Calls Tryz.prog 68 #[.int .i64 D, .int .i64 E] u fun e w' => e = .returned (.int .i64 1) ∧ Grow u w') := Lib.hid (fun u => by
            have h := gcW_any D E (by omega) (by omega) (by omega) (by omega) u
            rw [hq.out.2.2.2.2.2.2] at h
            exact h)
          have E3 := Lib.hid (inc_wrap (i := k) (n := 2) (by omega) (by omega))
          clear hD hE q5 q6 q7 hbw
          go_upto_region 21 with (first
            | (go_at_call 68; (with_reducible refine (GC.out _).mono ?_); (rintro e u7 ⟨rfl, hb7⟩; have HG7 := Lib.hid hb7; clear hb7))
            | (go_at_call 67; (with_reducible refine (PH.out _).mono ?_); (rintro e u8 ⟨rfl, hb8⟩; have HG8 := Lib.hid (HG7.out.trans hb8); clear hb8)))
          clear d0 d1 d2 d3 d4 d5 d6 d7 d8 q1 q2 q3 q4
          have HS8 := Lib.hid (HS.out.grow HG8.out)
          obtain ⟨d0, d1, d2, d3, d4, d5, d6, d7, d8⟩ := HS8.out.all u8 (Grow.refl _)
          have m1 : IntKind.i64.wrap 1 = 1 := by decide
          obtain ⟨e3, e3'⟩ := E3.out
          obtain ⟨hs9, hb9⟩ := HS8.out.set4 ((k + 1 : Nat) : Int)
          have HS9 := Lib.hid hs9
          have HB9 := Lib.hid ((HB.out.grow HG8.out).trans hb9)
          clear hs9 hb9
          go_wp2_with fail
          clear e3 e3' d0 d1 d2 d3 d4 d5 d6 d7 d8
          go_roundg (2 - (k + 1))
          case measure => have := HGJ.out; omega
          case rel => exact ⟨k + 1, by first | rfl | simp, by omega, Lib.hid rfl, HS9, HB9⟩
end Go.Proofs.YtbpkfcohbefphaaGreatDoor
namespace Go.Proofs.YtbpkfcohbefphaaGreatDoor
open Go Go.RowKit
theorem mag_own {w : World} {base : Nat} {t : TypeId} {v : Value} {n : Nat} (hn : n < 4294967296) (h0 : 0 < n) (h : w.ownsRow base t 1 v 1 [.int .u32 (n : Int)]) : MagR w v n :=
  MagR.of_row hn (by rw [if_neg (by omega), if_neg (by omega)]; exact own_rdrow h (by intro u hu; simp at hu; subst hu; rfl))
theorem ser_cell {w u : World} {B : Nat} (hB : w.heap.size ≤ B) (_ : B < u.heap.size) {v0 v1 : Value} (h0 : u.cell? ⟨B, 0, none⟩ = some v0) (h1 : u.cell? ⟨B, 1, none⟩ = some v1) (n0 : ∀ x, v0 ≠ .int .u32 x) (n1 : ∀ x, v1 ≠ .int .u32 x) (hg : Grow w u) (x0 x1 : Value) (_ : ∀ x, x0 ≠ .int .u32 x) :
    But (fun b => b = B) u ((u.setCell ⟨B, 0, none⟩ x0).setCell ⟨B, 1, none⟩ x1) ∧ Grow w ((u.setCell ⟨B, 0, none⟩ x0).setCell ⟨B, 1, none⟩ x1) := by
  have hb : But (fun b => b = B) u ((u.setCell ⟨B, 0, none⟩ x0).setCell ⟨B, 1, none⟩ x1) := ((But.refl (fun b => b = B) u).set x0 (.inr rfl) (fun x => by rw [h0]; intro e; injection e with e; exact n0 x e)).set x1 (.inr rfl) (fun x => by
    rw [World.cell?_setCell_other _ _ _ _ (by simp : (⟨B, 0, none⟩ : Addr) ≠ ⟨B, 1, none⟩), h1]; intro e; injection e with e; exact n1 x e)
  exact ⟨hb, ((hg.but _).trans hb).asGrow (fun b e => by omega)⟩
structure ZS (w wr : World) (B2 : Nat) (sg : Bool) (a : Option Addr) (l c : Nat) : Prop where
  g : Grow w wr
  c0 : wr.cell? ⟨B2, 0, none⟩ = some (.bool sg)
  c1 : wr.cell? ⟨B2, 1, none⟩ = some (.slice a l c)
  cf : ∀ o, wr.frozen? ⟨B2, o, none⟩ = false
  cl : B2 < wr.heap.size
  r0 : wr.cell? ⟨w.heap.size, 0, none⟩ = some (.bool false)
  r1 : wr.cell? ⟨w.heap.size, 1, none⟩ = some (.slice none 0 0)
  rf : ∀ o, wr.frozen? ⟨w.heap.size, o, none⟩ = false
  ne : w.heap.size < B2
theorem ZS.grow {w u u' : World} {B2 : Nat} {sg : Bool} {a : Option Addr} {l c : Nat} (h : ZS w u B2 sg a l c) (hg : Grow u u') : ZS w u' B2 sg a l c :=
  ⟨h.g.trans hg, (hg.cells _ _ h.cl).trans h.c0, (hg.cells _ _ h.cl).trans h.c1, fun o => (hg.frees _ _ h.cl).trans (h.cf o), Nat.lt_of_lt_of_le h.cl hg.size, (hg.cells _ _ (Nat.lt_trans h.ne h.cl)).trans h.r0, (hg.cells _ _ (Nat.lt_trans h.ne h.cl)).trans h.r1, fun o => (hg.frees _ _ (Nat.lt_trans h.ne h.cl)).trans (h.rf o), h.ne⟩
theorem ZS.put {w u : World} {B2 : Nat} {sg : Bool} {a : Option Addr} {l c : Nat} (h : ZS w u B2 sg a l c) (a' : Option Addr) (l' c' : Nat) :
    But (fun b => b = B2) u (u.setCell ⟨B2, 1, none⟩ (.slice a' l' c')) ∧ ZS w (u.setCell ⟨B2, 1, none⟩ (.slice a' l' c')) B2 sg a' l' c' := by
  have hb : But (fun b => b = B2) u (u.setCell ⟨B2, 1, none⟩ (.slice a' l' c')) := (But.refl (fun b => b = B2) u).set _ (.inr rfl) (fun x => by rw [h.c1]; simp)
  have hl := Nat.lt_trans h.ne h.cl
  have hne : ¬ (w.heap.size = B2) := by have := h.ne; omega
  exact ⟨hb, h.g.setCell (Nat.le_of_lt h.ne) _, (World.cell?_setCell_other _ _ _ _ (by simp)).trans h.c0, World.cell?_setCell_same _ _ _ h.c1, fun o => (hb.frees _ _ h.cl).trans (h.cf o), Nat.lt_of_lt_of_le h.cl hb.size, (hb.cells _ _ hl hne).trans h.r0, (hb.cells _ _ hl hne).trans h.r1, fun o => (hb.frees _ _ hl).trans (h.rf o), h.ne⟩
set_option maxRecDepth 20000 in
set_option maxHeartbeats 8000000 in
theorem zbCore (z u0 : Int) (n : Nat) (sg : Bool) (hn : n < 4294967296) (hz : z.natAbs = n) (hsg : sgB z = sg) (hu : IntKind.u64.wrap z = u0) (hu2 : sg = true → IntKind.u64.wrap (-u0) = (n : Int)) (hu3 : sg = false → u0 = (n : Int)) (w : World) :
    Calls Tryz.prog 17 #[.int .i64 z] w fun e w' => ∃ v, e = .returned v ∧ IntR w' v z ∧ Grow w w' := by
  obtain ⟨iu, hiu, iuz0, iuz1, iuz2⟩ := info_parts infoU
  have hdz : decide (z < 0) = sg := hsg
  have HZ := Lib.hid hz
  have HSG := Lib.hid hsg
  clear hz hsg
  obtain ⟨W1, hW1⟩ : ∃ W1 : World, W1 = w.alloc (.cells #[.bool false, .slice none 0 0] 25) := ⟨_, rfl⟩
  have HG1 := Lib.hid (ag hW1)
  have K1 := Lib.hid (ak2 hW1)
  have HZ1 : Hid (W1.heap.size = w.heap.size + 1) := Lib.hid (by rw [hW1]; simp)
  have HW1 := Lib.hid hW1
  clear hW1
  have hu4 : (sg = false ∧ u0 = (n : Int)) ∨ (sg = true ∧ IntKind.u64.wrap (-u0) = (n : Int)) := by
    cases sg
    · exact .inl ⟨rfl, hu3 rfl⟩
    · exact .inr ⟨rfl, hu2 rfl⟩
  clear hu2 hu3
  rcases hu4 with ⟨rfl, rfl⟩ | ⟨rfl, hu4⟩
  all_goals
    go_enter Tryz.func17, Tryz.ntmps17
    go_upto_region 1 with fail
    rw [← HW1.out]
    go_upto_block 0 with fail
    obtain ⟨W2, hW2⟩ : ∃ W2 : World, W2 = W1.alloc (.cells #[.bool (sgB z), .slice none 0 0] 25) := ⟨_, rfl⟩
    rw [HSG.out] at hW2
    rw [← hW2]
    have HS : Hid (ZS w W2 W1.heap.size (sgB z) none 0 0) := Lib.hid (by
      rw [HSG.out]
      obtain ⟨c0, c1, c2, c3⟩ := K1.out W2 (ag hW2)
      obtain ⟨d0, d1, d2, d3⟩ := ak2 hW2 W2 (Grow.refl _)
      exact ⟨HG1.out.trans (ag hW2), d0, d1, d2, d3, c0, c1, c2, by rw [HZ1.out]; omega⟩)
    clear hW2
    go_wp2_with fail
    go_loopg [3] 1 (fun gk t3 wr => ∃ (k l c : Nat) (a : Option Addr), t3 = .int .u64 (k : Int) ∧ Hid (k ≠ 0 → 1 ≤ gk) ∧ Hid (ZS w wr W1.heap.size (sgB z) a l c) ∧ Hid ((k = n ∧ a = none ∧ l = 0 ∧ c = 0) ∨ (k = 0 ∧ MagR wr (.slice a l c) n)))
    case atStart => exact ⟨n, 0, 0, none, rfl, Lib.hid (fun _ => Nat.le_refl _), HS, Lib.hid (.inl ⟨rfl, rfl, rfl, rfl⟩)⟩
    case round =>
      clear HS
      obtain ⟨k, l, c, a, rfl, HGK, HS, HC⟩ := hrel
      obtain ⟨s1, s2, s3, s4, s5, s6, s7, s8, s9⟩ := HS.out
      have HNE := Lib.hid s9
      clear s9
      rcases HC.out with ⟨rfl, rfl, rfl, rfl⟩ | ⟨rfl, hm⟩
      · by_cases hk0 : k = 0
        · subst hk0
          obtain ⟨hb, hg⟩ := ser_cell (Nat.le_refl _) (Nat.lt_trans HNE.out s5) s6 s7 (fun x => by simp) (fun x => by simp) HS.out.g (.bool (sgB z)) (.slice none 0 0) (fun x => by simp)
          have HB := Lib.hid hb
          have HG := Lib.hid hg
          clear hb hg
          go_wp2_with fail
          refine bodyPost_ret (v := .agg #[.bool (sgB z), .slice none 0 0]) (by rw [results_one rfl]; go_simp) rfl ⟨_, rfl, ?_, HG.out⟩
          exact ⟨_, rfl, .inl ⟨HZ.out, _, _, rfl⟩⟩
        · have z1 : decide ((k : Int) > 0) = true := by simp; omega
          have z2 : (0 : Int) < (k : Int) := by omega
          have y1 : IntKind.u32.wrap (k : Int) = (k : Int) := IntWalk.u32_in _ (by omega)
          have z3 : (k : Int) / 4294967296 = 0 := by omega
          have Z3 := Lib.hid z3
          clear z3
          go_wp2_with (at_builtin; go_loud (refine wpList_append_own _ rfl _ _ 23 rfl (wr.heap.size) 70 iu (.int .u32 0) 1 4 Tryz.underlying23 hiu iuz0 iuz1 iuz2 rfl (by decide) _ _ _ rfl (World.ownsRow_nil _ _ _ _) ⟨wr.heap.size, 0, none⟩ 1 1 [.int .u32 (k : Int)] rfl rfl (one_cells _ _ _ _ rfl) (one_oneCell _ _) (by unfold maxLen; omega) (by omega) (by simp) ?_))
          intro v7 w7 hown7 hgrow7 _
          have hg7 : Grow wr w7 := ((Grow.refl wr).alloc _).grown hgrow7 (fun k hk => by cases hk)
          obtain ⟨a7, c7, rfl⟩ := own_form hown7
          have hm7 : MagR w7 (.slice a7 (0 + 1) c7) k := mag_own hn (by omega) hown7
          have hs7 := HS.out.grow hg7
          obtain ⟨hb8, hs8⟩ := hs7.put a7 (0 + 1) c7
          have HM8 := Lib.hid (hm7.but hb8)
          have HS8 := Lib.hid hs8
          obtain ⟨s1, s2, s3, s4, s5, s6, s7, s8, s9⟩ := hs7
          clear hown7 hgrow7 hm7 hb8 hs8 hg7 s9
          have z4 := Z3.out
          go_wp2_with fail
          clear z4
          go_roundg 0
          case measure => have := HGK.out (by omega); omega
          case rel => exact ⟨0, 0 + 1, c7, a7, rfl, Lib.hid (fun h => absurd rfl h), HS8, Lib.hid (.inr ⟨rfl, HM8.out⟩)⟩
      · obtain ⟨hb, hg⟩ := ser_cell (Nat.le_refl _) (Nat.lt_trans HNE.out s5) s6 s7 (fun x => by simp) (fun x => by simp) HS.out.g (.bool (sgB z)) (.slice a l c) (fun x => by simp)
        have HB := Lib.hid hb
        have HG := Lib.hid hg
        have HM := Lib.hid hm
        clear hb hg hm
        go_wp2_with fail
        refine bodyPost_ret (v := .agg #[.bool (sgB z), .slice a l c]) (by rw [results_one rfl]; go_simp) rfl ⟨_, rfl, ?_, HG.out⟩
        exact ⟨_, rfl, by rw [HZ.out]; exact HM.out.but HB.out⟩
theorem zbV (z : Int) (hz : z.natAbs < 4294967296) (w : World) : Calls Tryz.prog 17 #[.int .i64 z] w fun e w' => ∃ v, e = .returned v ∧ IntR w' v z ∧ Grow w w' := by
  by_cases h0 : z < 0
  · exact zbCore z (18446744073709551616 - (z.natAbs : Int)) z.natAbs true hz rfl (by simp [sgB, h0]) (by simp [IntKind.wrap, IntKind.bits, IntKind.signed]; omega) (fun _ => by simp [IntKind.wrap, IntKind.bits, IntKind.signed]; omega) (fun h => by cases h) w
  · exact zbCore z (z.natAbs : Int) z.natAbs false hz rfl (by simp [sgB, h0]) (by rw [show z = (z.natAbs : Int) by omega]; exact IntWalk.u64_in _ (by omega)) (fun h => by cases h) (fun _ => rfl) w
set_option maxRecDepth 20000 in
set_option maxHeartbeats 8000000 in
theorem qbQ (z : Int) (hz : z.natAbs < 4294967296) (w : World) : Calls Tryz.prog 6 #[.int .i64 z] w fun e w' => ∃ v, e = .returned v ∧ RatR w' v (z : Rat) ∧ Grow w w' := by
  have O1 := Lib.hid (fun u => zbV z hz u)
  have O2 := Lib.hid (fun u => zbV 1 (by decide) u)
  clear hz
  obtain ⟨W1, hW1⟩ : ∃ W1 : World, W1 = w.alloc (.cells #[.bool false, .slice none 0 0, .bool false, .slice none 0 0] 27) := ⟨_, rfl⟩
  have hg1 := ag hW1
  have K1 := Lib.hid (ak4 hW1)
  have RC : Hid (RowP W1 w.heap.size 0 1 (fun _ => none)) := Lib.hid (by rw [hW1]; exact rowp_alloc w _)
  have HW1 := Lib.hid hW1
  clear hW1
  go_enter Tryz.func6, Tryz.ntmps6
  go_upto_region 1 with fail
  rw [← HW1.out]
  go_wp2_with (go_at_call 17; (with_reducible refine (O1.out _).mono ?_); (rintro e u5 ⟨v5, rfl, hv5, hb5⟩; obtain ⟨s5, a5, l5, c5, rfl⟩ := hv5.form; have HV5 := Lib.hid hv5; clear hv5 O1))
  go_wp2_with (go_at_call 17; (with_reducible refine (O2.out _).mono ?_); (rintro e u6 ⟨v6, rfl, hv6, hb6⟩; obtain ⟨s6, a6, l6, c6, rfl⟩ := hv6.form; have HV6 := Lib.hid hv6; clear hv6 O2; obtain ⟨q0, q1, q2, q3, qf, qz⟩ := K1.out u6 (by (repeat (first | with_reducible exact Grow.refl _ | with_reducible refine Grow.alloc ?_ _ | with_reducible refine Grow.drew ?_ | with_reducible refine Grow.drewN ?_ _ | (with_reducible refine Grow.setCell ?_ ?hp _; (case hp => (simp; try omega))) | with_reducible refine Grow.trans ?_ (by assumption))))))
  obtain ⟨h1, h2⟩ := rescell (w := w) (RC.out.grow (show Grow W1 u6 by (repeat (first | with_reducible exact Grow.refl _ | with_reducible refine Grow.alloc ?_ _ | with_reducible refine Grow.drew ?_ | with_reducible refine Grow.drewN ?_ _ | (with_reducible refine Grow.setCell ?_ ?hp _; (case hp => (simp; try omega))) | with_reducible refine Grow.trans ?_ (by assumption))))) (by omega) (hg1.trans (by (repeat (first | with_reducible exact Grow.refl _ | with_reducible refine Grow.alloc ?_ _ | with_reducible refine Grow.drew ?_ | with_reducible refine Grow.drewN ?_ _ | (with_reducible refine Grow.setCell ?_ ?hp _; (case hp => (simp; try omega))) | with_reducible refine Grow.trans ?_ (by assumption))))) (RatR.whole (HV5.out.grow (by (repeat (first | with_reducible exact Grow.refl _ | with_reducible refine Grow.alloc ?_ _ | with_reducible refine Grow.drew ?_ | with_reducible refine Grow.drewN ?_ _ | (with_reducible refine Grow.setCell ?_ ?hp _; (case hp => (simp; try omega))) | with_reducible refine Grow.trans ?_ (by assumption))))) HV6.out)
  exact bodyPost_ret (v := .agg #[.bool s5, .slice a5 l5 c5, .bool s6, .slice a6 l6 c6]) (by rw [results_one rfl]; go_simp) rfl ⟨_, rfl, h1, h2⟩
end Go.Proofs.YtbpkfcohbefphaaGreatDoor
namespace Go.Proofs.YtbpkfcohbefphaaGreatDoor
open Go Go.RowKit
set_option maxRecDepth 20000 in
set_option maxHeartbeats 8000000 in
theorem sameIntV (z : Int) (v1 v2 : Value) (w : World) (h1 : IntR w v1 z) (h2 : IntR w v2 z) :
    Calls Tryz.prog 31 #[v1, v2] w fun e w' => e = .returned (.bool true) ∧ Grow w w' := by
  obtain ⟨m1, rfl, h1⟩ := h1
  obtain ⟨m2, rfl, h2⟩ := h2
  generalize sgB z = s
  generalize z.natAbs = n at h1 h2
  rcases h1 with ⟨p0, a1, c1, rfl⟩ | ⟨p0, p1, b1, o1, c1, rfl, k1, q1, d1⟩
  · rcases h2 with ⟨-, a2, c2, rfl⟩ | ⟨p2, -⟩
    · go_enter Tryz.func31, Tryz.ntmps31
      go_wp2_with fail
      go_loopg [5] 0 (fun gk t5 wr => t5 = .int .i64 0 ∧ Hid (Grow w wr) ∧ wr.cell? ⟨w.heap.size, 0, none⟩ = some (.bool s) ∧ wr.cell? ⟨w.heap.size, 1, none⟩ = some (.slice a1 0 c1))
      case atStart =>
        refine ⟨rfl, Lib.hid (by (repeat (first | with_reducible exact Grow.refl _ | with_reducible refine Grow.alloc ?_ _ | with_reducible refine Grow.drew ?_ | with_reducible refine Grow.drewN ?_ _ | (with_reducible refine Grow.setCell ?_ ?hp _; (case hp => (simp; try omega))) | with_reducible refine Grow.trans ?_ (by assumption)))), by go_simp, by go_simp⟩
      case round =>
        obtain ⟨rfl, HG, x0, x1⟩ := hrel
        go_wp2_with fail
        go_ret
        exact ⟨rfl, HG.out⟩
    · omega
  · rcases h2 with ⟨p2, -⟩ | ⟨-, -, b2, o2, c2, rfl, k2, q2, d2⟩
    · omega
    · obtain ⟨W1, hW1⟩ : ∃ W1 : World, W1 = w.alloc (.cells #[.bool s, .slice (some ⟨b1, o1, none⟩) 1 c1] 25) := ⟨_, rfl⟩
      obtain ⟨W2, hW2⟩ : ∃ W2 : World, W2 = W1.alloc (.cells #[.bool s, .slice (some ⟨b2, o2, none⟩) 1 c2] 25) := ⟨_, rfl⟩
      have hg2 : Grow w W2 := (ag hW1).trans (ag hW2)
      have K1 := Lib.hid (fun u (hu : Grow W2 u) => ak2 hW1 u ((ag hW2).trans hu))
      have hz1 : W1.heap.size = w.heap.size + 1 := by rw [hW1]; simp
      have K2 := Lib.hid (ak2 hW2)
      rw [hz1] at K2
      have D1 := Lib.hid (fun u (hu : Grow W2 u) => ((hg2.trans hu).cells _ _ q1).trans d1)
      have D2 := Lib.hid (fun u (hu : Grow W2 u) => ((hg2.trans hu).cells _ _ q2).trans d2)
      have HW1 := Lib.hid hW1
      have HW2 := Lib.hid hW2
      have HG2 := Lib.hid hg2
      clear hW1 hW2 hg2 d1 d2 hz1
      go_enter Tryz.func31, Tryz.ntmps31
      go_upto_region 1 with fail
      rw [← HW1.out, ← HW2.out]
      obtain ⟨e0, e1, e2, e3⟩ := K1.out W2 (Grow.refl _)
      obtain ⟨f0, f1, f2, f3⟩ := K2.out W2 (Grow.refl _)
      go_wp2_with fail
      clear e0 e1 e2 e3 f0 f1 f2 f3
      go_loopg [5] 1 (fun gk t5 wr => ∃ j : Nat, t5 = .int .i64 (j : Int) ∧ j ≤ 1 ∧ Hid (gk = 1 - j) ∧ Hid (Grow W2 wr))
      case atStart => exact ⟨0, rfl, by omega, Lib.hid rfl, Lib.hid (by (repeat (first | with_reducible exact Grow.refl _ | with_reducible refine Grow.alloc ?_ _ | with_reducible refine Grow.drew ?_ | with_reducible refine Grow.drewN ?_ _ | (with_reducible refine Grow.setCell ?_ ?hp _; (case hp => (simp; try omega))) | with_reducible refine Grow.trans ?_ (by assumption))))⟩
      case round =>
        obtain ⟨j, rfl, hj, HGK, HG⟩ := hrel
        obtain ⟨e0, e1, e2, e3⟩ := K1.out wr HG.out
        obtain ⟨f0, f1, f2, f3⟩ := K2.out wr HG.out
        have d1 := D1.out wr HG.out
        have d2 := D2.out wr HG.out
        rcases (by omega : j = 0 ∨ j = 1) with rfl | rfl
        · go_upto_region 6 with fail
          go_quiet (fail)
          go_wp2_with fail
          go_roundg 0
          case measure => have := HGK.out; omega
          case rel => exact ⟨1, rfl, by omega, Lib.hid rfl, Lib.hid (HG.out.trans (by (repeat (first | with_reducible exact Grow.refl _ | with_reducible refine Grow.alloc ?_ _ | with_reducible refine Grow.drew ?_ | with_reducible refine Grow.drewN ?_ _ | (with_reducible refine Grow.setCell ?_ ?hp _; (case hp => (simp; try omega))) | with_reducible refine Grow.trans ?_ (by assumption)))))⟩
        · go_wp2_with fail
          go_ret
          exact ⟨rfl, HG2.out.trans (HG.out.trans (by (repeat (first | with_reducible exact Grow.refl _ | with_reducible refine Grow.alloc ?_ _ | with_reducible refine Grow.drew ?_ | with_reducible refine Grow.drewN ?_ _ | (with_reducible refine Grow.setCell ?_ ?hp _; (case hp => (simp; try omega))) | with_reducible refine Grow.trans ?_ (by assumption)))))⟩
set_option maxRecDepth 20000 in
set_option maxHeartbeats 8000000 in
theorem sameRatQ (x : Rat) (v1 v2 : Value) (w : World) (h1 : RatR w v1 x) (h2 : RatR w v2 x) :
    Calls Tryz.prog 10 #[v1, v2] w fun e w' => e = .returned (.bool true) ∧ Grow w w' := by
  obtain ⟨s1, a1, l1, c1, t1, b1, k1, e1, rfl⟩ := h1.form
  obtain ⟨s2, a2, l2, c2, t2, b2, k2, e2, rfl⟩ := h2.form
  have SN := Lib.hid (fun u (hu : Grow w u) => sameIntV _ _ _ u (h1.num.grow hu) (h2.num.grow hu))
  have SD := Lib.hid (fun u (hu : Grow w u) => sameIntV _ _ _ u (h1.den.grow hu) (h2.den.grow hu))
  clear h1 h2
  obtain ⟨W1, hW1⟩ : ∃ W1 : World, W1 = w.alloc (.cells #[.bool s1, .slice a1 l1 c1, .bool t1, .slice b1 k1 e1] 27) := ⟨_, rfl⟩
  obtain ⟨W2, hW2⟩ : ∃ W2 : World, W2 = W1.alloc (.cells #[.bool s2, .slice a2 l2 c2, .bool t2, .slice b2 k2 e2] 27) := ⟨_, rfl⟩
  have hg2 : Grow w W2 := (ag hW1).trans (ag hW2)
  have K1 := Lib.hid (fun u (hu : Grow W2 u) => ak4 hW1 u ((ag hW2).trans hu))
  have hz1 : W1.heap.size = w.heap.size + 1 := by rw [hW1]; simp
  have K2 := Lib.hid (ak4 hW2)
  rw [hz1] at K2
  have HW1 := Lib.hid hW1
  have HW2 := Lib.hid hW2
  clear hW1 hW2 hz1
  go_enter Tryz.func10, Tryz.ntmps10
  go_upto_region 1 with fail
  rw [← HW1.out, ← HW2.out]
  obtain ⟨x0, x1, x2, x3, x4, x5⟩ := K1.out W2 (Grow.refl _)
  obtain ⟨y0, y1, y2, y3, y4, y5⟩ := K2.out W2 (Grow.refl _)
  go_wp2_with (first
    | (go_at_call 31; (with_reducible refine (SN.out _ (by (repeat (first | with_reducible exact Grow.refl _ | with_reducible refine Grow.alloc ?_ _ | with_reducible refine Grow.drew ?_ | with_reducible refine Grow.drewN ?_ _ | (with_reducible refine Grow.setCell ?_ ?hp _; (case hp => (simp; try omega))) | with_reducible refine Grow.trans ?_ (by assumption))))).mono ?_); (rintro e u1 ⟨rfl, hb1⟩; obtain ⟨x0, x1, x2, x3, x4, x5⟩ := K1.out u1 (by (repeat (first | with_reducible exact Grow.refl _ | with_reducible refine Grow.alloc ?_ _ | with_reducible refine Grow.drew ?_ | with_reducible refine Grow.drewN ?_ _ | (with_reducible refine Grow.setCell ?_ ?hp _; (case hp => (simp; try omega))) | with_reducible refine Grow.trans ?_ (by assumption)))); obtain ⟨y0, y1, y2, y3, y4, y5⟩ := K2.out u1 (by (repeat (first | with_reducible exact Grow.refl _ | with_reducible refine Grow.alloc ?_ _ | with_reducible refine Grow.drew ?_ | with_reducible refine Grow.drewN ?_ _ | (with_reducible refine Grow.setCell ?_ ?hp _; (case hp => (simp; try omega))) | with_reducible refine Grow.trans ?_ (by assumption))))))
    | (go_at_call 31; (with_reducible refine (SD.out _ (by (repeat (first | with_reducible exact Grow.refl _ | with_reducible refine Grow.alloc ?_ _ | with_reducible refine Grow.drew ?_ | with_reducible refine Grow.drewN ?_ _ | (with_reducible refine Grow.setCell ?_ ?hp _; (case hp => (simp; try omega))) | with_reducible refine Grow.trans ?_ (by assumption))))).mono ?_); (rintro e u3 ⟨rfl, hb3⟩)))
  go_ret
  exact ⟨rfl, by (repeat (first | with_reducible exact Grow.refl _ | with_reducible refine Grow.alloc ?_ _ | with_reducible refine Grow.drew ?_ | with_reducible refine Grow.drewN ?_ _ | (with_reducible refine Grow.setCell ?_ ?hp _; (case hp => (simp; try omega))) | with_reducible refine Grow.trans ?_ (by assumption)))⟩
end Go.Proofs.YtbpkfcohbefphaaGreatDoor
