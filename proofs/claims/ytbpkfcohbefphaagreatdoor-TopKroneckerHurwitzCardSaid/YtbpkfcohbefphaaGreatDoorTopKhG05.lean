/- Lemmas, plain laws and walks that the statement LwKronecker leans on (texts BiN, BiO, BiP), conditions as each theorem says. -/
import Derived.Test.YtbpkfcohbefphaaGreatDoorTopKhG04

namespace Go.Proofs.YtbpkfcohbefphaaGreatDoor
open Go Go.RowKit
/-- The value v is the integer z. -/
def IntR (w : World) (v : Value) (z : Int) : Prop := ∃ m, v = .agg #[.bool (sgB z), m] ∧ MagR w m z.natAbs
theorem IntR.grow {w w' : World} {v : Value} {z : Int} (h : IntR w v z) (hg : Grow w w') : IntR w' v z := by
  obtain ⟨m, hv, h⟩ := h
  exact ⟨m, hv, h.grow hg⟩
theorem IntR.form {w : World} {v : Value} {z : Int} (h : IntR w v z) : ∃ s a l c, v = .agg #[.bool s, .slice a l c] := by
  obtain ⟨m, hv, h⟩ := h
  obtain ⟨a, c, rfl⟩ := h.form
  exact ⟨_, a, _, c, hv⟩
theorem IntR.lt {w : World} {v : Value} {z : Int} (h : IntR w v z) : z.natAbs < 4294967296 := by
  obtain ⟨m, hv, h⟩ := h
  exact h.lt
theorem IntR.set2 {w : World} {v : Value} {z : Int} {B : Nat} (h : IntR w v z) (hB : NoU w B) (o1 o2 : Nat) (v1 v2 : Value) : IntR ((w.setCell ⟨B, o1, none⟩ v1).setCell ⟨B, o2, none⟩ v2) v z := by
  obtain ⟨m, hv, h⟩ := h
  exact ⟨m, hv, h.set2 hB _ _ _ _⟩
theorem IntR.set4 {w : World} {v : Value} {z : Int} {B : Nat} (h : IntR w v z) (hB : NoU w B) (o1 o2 o3 o4 : Nat) (v1 v2 v3 v4 : Value) : IntR ((((w.setCell ⟨B, o1, none⟩ v1).setCell ⟨B, o2, none⟩ v2).setCell ⟨B, o3, none⟩ v3).setCell ⟨B, o4, none⟩ v4) v z := by
  obtain ⟨m, hv, h⟩ := h
  exact ⟨m, hv, h.set4 hB _ _ _ _ _ _ _ _⟩
theorem RatR.form {w : World} {v : Value} {x : Rat} (h : RatR w v x) : ∃ s a l c t b k e, v = .agg #[.bool s, .slice a l c, .bool t, .slice b k e] := by
  obtain ⟨m1, m2, hv, h1, h2⟩ := h
  obtain ⟨a, c, rfl⟩ := h1.form
  obtain ⟨b, e, rfl⟩ := h2.form
  exact ⟨_, a, _, c, _, b, _, e, hv⟩
theorem RatR.set4 {w : World} {v : Value} {x : Rat} {B : Nat} (h : RatR w v x) (hB : NoU w B) (o1 o2 o3 o4 : Nat) (v1 v2 v3 v4 : Value) : RatR ((((w.setCell ⟨B, o1, none⟩ v1).setCell ⟨B, o2, none⟩ v2).setCell ⟨B, o3, none⟩ v3).setCell ⟨B, o4, none⟩ v4) v x := by
  obtain ⟨m1, m2, hv, h1, h2⟩ := h
  exact ⟨m1, m2, hv, h1.set4 hB _ _ _ _ _ _ _ _, h2.set4 hB _ _ _ _ _ _ _ _⟩
theorem RatR.set2 {w : World} {v : Value} {x : Rat} {B : Nat} (h : RatR w v x) (hB : NoU w B) (o1 o2 : Nat) (v1 v2 : Value) : RatR ((w.setCell ⟨B, o1, none⟩ v1).setCell ⟨B, o2, none⟩ v2) v x := by
  obtain ⟨m1, m2, hv, h1, h2⟩ := h
  exact ⟨m1, m2, hv, h1.set2 hB _ _ _ _, h2.set2 hB _ _ _ _⟩
theorem RatR.num {w : World} {x : Rat} {s t : Bool} {m1 m2 : Value} (h : RatR w (.agg #[.bool s, m1, .bool t, m2]) x) : IntR w (.agg #[.bool s, m1]) x.num := by
  obtain ⟨p, q, hv, h1, h2⟩ := h
  simp only [Value.agg.injEq, Array.mk.injEq, List.cons.injEq, Value.bool.injEq, and_true] at hv
  obtain ⟨e1, rfl, e3, rfl⟩ := hv
  exact ⟨_, by rw [e1], h1⟩
theorem RatR.den {w : World} {x : Rat} {s t : Bool} {m1 m2 : Value} (h : RatR w (.agg #[.bool s, m1, .bool t, m2]) x) : IntR w (.agg #[.bool t, m2]) (x.den : Int) := by
  obtain ⟨p, q, hv, h1, h2⟩ := h
  simp only [Value.agg.injEq, Array.mk.injEq, List.cons.injEq, Value.bool.injEq, and_true] at hv
  obtain ⟨e1, rfl, e3, rfl⟩ := hv
  exact ⟨_, by rw [e3, sgB_nat], by simpa using h2⟩
theorem RatR.whole {w : World} {z : Int} {s t : Bool} {m1 m2 : Value} (h1 : IntR w (.agg #[.bool s, m1]) z) (h2 : IntR w (.agg #[.bool t, m2]) 1) : RatR w (.agg #[.bool s, m1, .bool t, m2]) (z : Rat) := by
  obtain ⟨p, hv, h1⟩ := h1
  obtain ⟨q, hv', h2⟩ := h2
  simp only [Value.agg.injEq, Array.mk.injEq, List.cons.injEq, Value.bool.injEq, and_true] at hv hv'
  obtain ⟨e1, rfl⟩ := hv
  obtain ⟨e3, rfl⟩ := hv'
  exact ⟨_, _, by rw [e1, e3]; rfl, h1, h2⟩
theorem ofV (z : Int) (h : z.natAbs < 4294967296) (w : World) : Calls Tryz.prog 19 #[.int .i64 z] w fun e w' => ∃ v, e = .returned v ∧ IntR w' v z ∧ Grow w w' :=
  (of_any z h w).mono fun _ _ ⟨m, he, hm, hg⟩ => ⟨_, he, ⟨m, rfl, hm⟩, hg⟩
theorem normalV (z : Int) (v : Value) (w : World) (h : IntR w v z) : Calls Tryz.prog 48 #[v] w fun e w' => ∃ v', e = .returned v' ∧ IntR w' v' z ∧ Grow w w' := by
  obtain ⟨m, rfl, h⟩ := h
  exact (normal_any z m w h).mono fun _ _ ⟨m, he, hm, hg⟩ => ⟨_, he, ⟨m, rfl, hm⟩, hg⟩
theorem signV (z : Int) (v : Value) (w : World) (h : IntR w v z) : Calls Tryz.prog 21 #[v] w fun e w' => e = .returned (.int .i64 (sgI z)) ∧ Grow w w' := by
  obtain ⟨m, rfl, h⟩ := h
  exact signI_any z m w h
theorem oneV (z : Int) (v : Value) (w : World) (h : IntR w v z) : Calls Tryz.prog 23 #[v] w fun e w' => e = .returned (.bool (decide (z = 1))) ∧ Grow w w' := by
  obtain ⟨m, rfl, h⟩ := h
  exact one_any z m w h
theorem addV (y z : Int) (u v : Value) (hb : (y + z).natAbs < 4294967296) (w : World) (h1 : IntR w u y) (h2 : IntR w v z) : Calls Tryz.prog 24 #[u, v] w fun e w' => ∃ v', e = .returned v' ∧ IntR w' v' (y + z) ∧ Grow w w' := by
  obtain ⟨m1, rfl, h1⟩ := h1
  obtain ⟨m2, rfl, h2⟩ := h2
  exact (addI_any y z m1 m2 hb w h1 h2).mono fun _ _ ⟨m, he, hm, hg⟩ => ⟨_, he, ⟨m, rfl, hm⟩, hg⟩
theorem mulV (y z : Int) (u v : Value) (hb : (y * z).natAbs < 4294967296) (w : World) (h1 : IntR w u y) (h2 : IntR w v z) : Calls Tryz.prog 25 #[u, v] w fun e w' => ∃ v', e = .returned v' ∧ IntR w' v' (y * z) ∧ Grow w w' := by
  obtain ⟨m1, rfl, h1⟩ := h1
  obtain ⟨m2, rfl, h2⟩ := h2
  exact (mul_any y z m1 m2 hb w h1 h2).mono fun _ _ ⟨m, he, hm, hg⟩ => ⟨_, he, ⟨m, rfl, hm⟩, hg⟩
theorem overV (y z : Int) (u v : Value) (w : World) (h1 : IntR w u y) (h2 : IntR w v z) : Calls Tryz.prog 26 #[u, v] w fun e w' => ∃ v', e = .returned v' ∧ RatR w' v' (Rat.divInt y z) ∧ Grow w w' := by
  obtain ⟨m1, rfl, h1⟩ := h1
  obtain ⟨m2, rfl, h2⟩ := h2
  exact over_any y z m1 m2 w h1 h2
/-- Fraction identities with the fields spelled out. -/
theorem divInt_num_den (x : Rat) : Rat.divInt x.num (x.den : Int) = x := Rat.num_divInt_den x
theorem divInt_mulQ (x y : Rat) : Rat.divInt (x.num * y.num) ((x.den : Int) * (y.den : Int)) = x * y := by
  rw [← Rat.divInt_mul_divInt, Rat.num_divInt_den, Rat.num_divInt_den]
theorem divInt_addQ (x y : Rat) : Rat.divInt (x.num * (y.den : Int) + y.num * (x.den : Int)) ((x.den : Int) * (y.den : Int)) = x + y := by
  have h1 : (x.den : Int) ≠ 0 := by have := x.den_nz; omega
  have h2 : (y.den : Int) ≠ 0 := by have := y.den_nz; omega
  rw [← Rat.divInt_add_divInt _ _ h1 h2, Rat.num_divInt_den, Rat.num_divInt_den]
theorem divInt_quoQ (x y : Rat) : Rat.divInt (x.num * (y.den : Int)) ((x.den : Int) * y.num) = x / y := by
  rw [← Rat.divInt_mul_divInt, Rat.num_divInt_den, ← Rat.inv_def]; rfl
end Go.Proofs.YtbpkfcohbefphaaGreatDoor
namespace Go.Proofs.YtbpkfcohbefphaaGreatDoor
open Go Go.RowKit
set_option maxRecDepth 20000 in
set_option maxHeartbeats 8000000 in
theorem normalQ (x : Rat) (v1 : Value) (w : World) (h1 : RatR w v1 x) :
    Calls Tryz.prog 22 #[v1] w fun e w' => ∃ v, e = .returned v ∧ RatR w' v (x) ∧ Grow w w' := by
  obtain ⟨s1, a1, l1, c1, t1, b1, k1, e1, rfl⟩ := h1.form
  have HX1 := Lib.hid h1
  have OV := Lib.hid (fun u hu => overV _ _ _ _ u (h1.num.grow hu) (h1.den.grow hu))
  rw [divInt_num_den] at OV
  clear h1
  go_enter Tryz.func22, Tryz.ntmps22
  go_wp2_with fail
  have c0 : ∀ u : World, Grow ((w.alloc (.cells #[.bool s1, .slice a1 l1 c1, .bool t1, .slice b1 k1 e1] 27)).alloc (.cells #[.bool false, .slice none 0 0, .bool false, .slice none 0 0] 27)) u → u.cell? ⟨w.heap.size, 0, none⟩ = some (.bool s1) ∧ u.cell? ⟨w.heap.size, 1, none⟩ = some (.slice a1 l1 c1) ∧ u.cell? ⟨w.heap.size, 2, none⟩ = some (.bool t1) ∧ u.cell? ⟨w.heap.size, 3, none⟩ = some (.slice b1 k1 e1) := by
    intro u hg
    refine ⟨(hg.cells _ _ (by (try simp); try omega)).trans ?_, (hg.cells _ _ (by (try simp); try omega)).trans ?_, (hg.cells _ _ (by (try simp); try omega)).trans ?_, (hg.cells _ _ (by (try simp); try omega)).trans ?_⟩ <;> go_simp
  have C0 := Lib.hid c0
  clear c0
  have r0 : ∀ u : World, Grow ((w.alloc (.cells #[.bool s1, .slice a1 l1 c1, .bool t1, .slice b1 k1 e1] 27)).alloc (.cells #[.bool false, .slice none 0 0, .bool false, .slice none 0 0] 27)) u → u.cell? ⟨w.heap.size + 1, 0, none⟩ = some (.bool false) ∧ u.cell? ⟨w.heap.size + 1, 1, none⟩ = some (.slice none 0 0) ∧ u.cell? ⟨w.heap.size + 1, 2, none⟩ = some (.bool false) ∧ u.cell? ⟨w.heap.size + 1, 3, none⟩ = some (.slice none 0 0) ∧ (∀ o, u.frozen? ⟨w.heap.size + 1, o, none⟩ = false) ∧ NoU u (w.heap.size + 1) ∧ w.heap.size + 1 < u.heap.size ∧ Grow w u := by
    intro u hg
    have hz := hg.size
    simp at hz
    refine ⟨(hg.cells _ _ (by simp)).trans ?_, (hg.cells _ _ (by simp)).trans ?_, (hg.cells _ _ (by simp)).trans ?_, (hg.cells _ _ (by simp)).trans ?_, fun o => (hg.frees _ _ (by simp)).trans ?_, ?_, by omega, Grow.trans (by (repeat (first | with_reducible exact Grow.refl _ | with_reducible refine Grow.alloc ?_ _ | with_reducible refine Grow.drew ?_ | with_reducible refine Grow.drewN ?_ _ | (with_reducible refine Grow.setCell ?_ ?hp _; (case hp => (simp; try omega))) | with_reducible refine Grow.trans ?_ (by assumption)))) hg⟩
    · go_simp
    · go_simp
    · go_simp
    · go_simp
    · go_simp
    · have h := NoU.alloc (w.alloc (.cells #[.bool s1, .slice a1 l1 c1, .bool t1, .slice b1 k1 e1] 27)) _ 27 (noU4 false false none none 0 0 0 0)
      (try simp at h)
      exact h.grow (by simp) hg
  have R0 := Lib.hid r0
  clear r0
  go_wp2_with (go_at_call 26; (with_reducible refine (OV.out _ (by (repeat (first | with_reducible exact Grow.refl _ | with_reducible refine Grow.alloc ?_ _ | with_reducible refine Grow.drew ?_ | with_reducible refine Grow.drewN ?_ _ | (with_reducible refine Grow.setCell ?_ ?hp _; (case hp => (simp; try omega))) | with_reducible refine Grow.trans ?_ (by assumption))))).mono ?_); (rintro e u7 ⟨v7, rfl, hv7, hb7⟩; obtain ⟨s7, a7, l7, c7, t7, b7, k7, e7, rfl⟩ := hv7.form; have HV7 := Lib.hid hv7; clear hv7; obtain ⟨f0_7, f1_7, f2_7, f3_7⟩ := C0.out u7 (by (repeat (first | with_reducible exact Grow.refl _ | with_reducible refine Grow.alloc ?_ _ | with_reducible refine Grow.drew ?_ | with_reducible refine Grow.drewN ?_ _ | (with_reducible refine Grow.setCell ?_ ?hp _; (case hp => (simp; try omega))) | with_reducible refine Grow.trans ?_ (by assumption)))); obtain ⟨q0_7, q1_7, q2_7, q3_7, qf7, NU7, hz7, HB7⟩ := R0.out u7 (by (repeat (first | with_reducible exact Grow.refl _ | with_reducible refine Grow.alloc ?_ _ | with_reducible refine Grow.drew ?_ | with_reducible refine Grow.drewN ?_ _ | (with_reducible refine Grow.setCell ?_ ?hp _; (case hp => (simp; try omega))) | with_reducible refine Grow.trans ?_ (by assumption)))); have NUH7 := Lib.hid NU7; have HBH7 := Lib.hid HB7; clear NU7 HB7))
  all_goals refine bodyPost_ret (v := .agg #[.bool s7, .slice a7 l7 c7, .bool t7, .slice b7 k7 e7]) (by rw [results_one rfl]; go_simp) rfl ⟨_, rfl, HV7.out.set4 NUH7.out _ _ _ _ _ _ _ _, by have h9 := HBH7.out; (repeat (first | with_reducible exact Grow.refl _ | with_reducible refine Grow.alloc ?_ _ | with_reducible refine Grow.drew ?_ | with_reducible refine Grow.drewN ?_ _ | (with_reducible refine Grow.setCell ?_ ?hp _; (case hp => (simp; try omega))) | with_reducible refine Grow.trans ?_ (by assumption)))⟩
set_option maxRecDepth 20000 in
set_option maxHeartbeats 8000000 in
theorem mulQ (x : Rat) (y : Rat) (v1 v2 : Value) (hn : (x.num * y.num).natAbs < 4294967296) (hd : ((x.den : Int) * (y.den : Int)).natAbs < 4294967296) (w : World) (h1 : RatR w v1 x) (h2 : RatR w v2 y) :
    Calls Tryz.prog 34 #[v1, v2] w fun e w' => ∃ v, e = .returned v ∧ RatR w' v (x * y) ∧ Grow w w' := by
  obtain ⟨s1, a1, l1, c1, t1, b1, k1, e1, rfl⟩ := h1.form
  have HX1 := Lib.hid h1
  obtain ⟨s2, a2, l2, c2, t2, b2, k2, e2, rfl⟩ := h2.form
  have HX2 := Lib.hid h2
  have M1 := Lib.hid (fun u hu => mulV _ _ _ _ hn u (h1.num.grow hu) (h2.num.grow hu))
  have M2 := Lib.hid (fun u hu => mulV (x.den : Int) (y.den : Int) _ _ (by omega) u (h1.den.grow hu) (h2.den.grow hu))
  have OV := Lib.hid (fun u v v' hv hv' => overV (x.num * y.num) ((x.den : Int) * (y.den : Int)) v v' u hv hv')
  rw [divInt_mulQ] at OV
  clear h1 h2 hn hd
  go_enter Tryz.func34, Tryz.ntmps34
  go_wp2_with fail
  have c0 : ∀ u : World, Grow (((w.alloc (.cells #[.bool s1, .slice a1 l1 c1, .bool t1, .slice b1 k1 e1] 27)).alloc (.cells #[.bool s2, .slice a2 l2 c2, .bool t2, .slice b2 k2 e2] 27)).alloc (.cells #[.bool false, .slice none 0 0, .bool false, .slice none 0 0] 27)) u → u.cell? ⟨w.heap.size, 0, none⟩ = some (.bool s1) ∧ u.cell? ⟨w.heap.size, 1, none⟩ = some (.slice a1 l1 c1) ∧ u.cell? ⟨w.heap.size, 2, none⟩ = some (.bool t1) ∧ u.cell? ⟨w.heap.size, 3, none⟩ = some (.slice b1 k1 e1) ∧ u.cell? ⟨w.heap.size + 1, 0, none⟩ = some (.bool s2) ∧ u.cell? ⟨w.heap.size + 1, 1, none⟩ = some (.slice a2 l2 c2) ∧ u.cell? ⟨w.heap.size + 1, 2, none⟩ = some (.bool t2) ∧ u.cell? ⟨w.heap.size + 1, 3, none⟩ = some (.slice b2 k2 e2) := by
    intro u hg
    refine ⟨(hg.cells _ _ (by (try simp); try omega)).trans ?_, (hg.cells _ _ (by (try simp); try omega)).trans ?_, (hg.cells _ _ (by (try simp); try omega)).trans ?_, (hg.cells _ _ (by (try simp); try omega)).trans ?_, (hg.cells _ _ (by (try simp); try omega)).trans ?_, (hg.cells _ _ (by (try simp); try omega)).trans ?_, (hg.cells _ _ (by (try simp); try omega)).trans ?_, (hg.cells _ _ (by (try simp); try omega)).trans ?_⟩ <;> go_simp
  have C0 := Lib.hid c0
  clear c0
  have r0 : ∀ u : World, Grow (((w.alloc (.cells #[.bool s1, .slice a1 l1 c1, .bool t1, .slice b1 k1 e1] 27)).alloc (.cells #[.bool s2, .slice a2 l2 c2, .bool t2, .slice b2 k2 e2] 27)).alloc (.cells #[.bool false, .slice none 0 0, .bool false, .slice none 0 0] 27)) u → u.cell? ⟨w.heap.size + 1 + 1, 0, none⟩ = some (.bool false) ∧ u.cell? ⟨w.heap.size + 1 + 1, 1, none⟩ = some (.slice none 0 0) ∧ u.cell? ⟨w.heap.size + 1 + 1, 2, none⟩ = some (.bool false) ∧ u.cell? ⟨w.heap.size + 1 + 1, 3, none⟩ = some (.slice none 0 0) ∧ (∀ o, u.frozen? ⟨w.heap.size + 1 + 1, o, none⟩ = false) ∧ NoU u (w.heap.size + 1 + 1) ∧ w.heap.size + 1 + 1 < u.heap.size ∧ Grow w u := by
    intro u hg
    have hz := hg.size
    simp at hz
    refine ⟨(hg.cells _ _ (by simp)).trans ?_, (hg.cells _ _ (by simp)).trans ?_, (hg.cells _ _ (by simp)).trans ?_, (hg.cells _ _ (by simp)).trans ?_, fun o => (hg.frees _ _ (by simp)).trans ?_, ?_, by omega, Grow.trans (by (repeat (first | with_reducible exact Grow.refl _ | with_reducible refine Grow.alloc ?_ _ | with_reducible refine Grow.drew ?_ | with_reducible refine Grow.drewN ?_ _ | (with_reducible refine Grow.setCell ?_ ?hp _; (case hp => (simp; try omega))) | with_reducible refine Grow.trans ?_ (by assumption)))) hg⟩
    · go_simp
    · go_simp
    · go_simp
    · go_simp
    · go_simp
    · have h := NoU.alloc ((w.alloc (.cells #[.bool s1, .slice a1 l1 c1, .bool t1, .slice b1 k1 e1] 27)).alloc (.cells #[.bool s2, .slice a2 l2 c2, .bool t2, .slice b2 k2 e2] 27)) _ 27 (noU4 false false none none 0 0 0 0)
      (try simp at h)
      exact h.grow (by simp) hg
  have R0 := Lib.hid r0
  clear r0
  go_region_held3 (fun u => u.cell? ⟨w.heap.size, 0, none⟩ = some (.bool s1) ∧ u.cell? ⟨w.heap.size, 1, none⟩ = some (.slice a1 l1 c1) ∧ u.cell? ⟨w.heap.size, 2, none⟩ = some (.bool t1) ∧ u.cell? ⟨w.heap.size, 3, none⟩ = some (.slice b1 k1 e1) ∧ u.cell? ⟨w.heap.size + 1, 0, none⟩ = some (.bool s2) ∧ u.cell? ⟨w.heap.size + 1, 1, none⟩ = some (.slice a2 l2 c2) ∧ u.cell? ⟨w.heap.size + 1, 2, none⟩ = some (.bool t2) ∧ u.cell? ⟨w.heap.size + 1, 3, none⟩ = some (.slice b2 k2 e2))
    (first | (refine ⟨?_, ?_, ?_, ?_, ?_, ?_, ?_, ?_⟩ <;> (go_simp; done)) | exact C0.out _ (by (repeat (first | with_reducible exact Grow.refl _ | with_reducible refine Grow.alloc ?_ _ | with_reducible refine Grow.drew ?_ | with_reducible refine Grow.drewN ?_ _ | (with_reducible refine Grow.setCell ?_ ?hp _; (case hp => (simp; try omega))) | with_reducible refine Grow.trans ?_ (by assumption)))))
    (first
      | (go_at_call 25; (with_reducible refine (M1.out _ (by (repeat (first | with_reducible exact Grow.refl _ | with_reducible refine Grow.alloc ?_ _ | with_reducible refine Grow.drew ?_ | with_reducible refine Grow.drewN ?_ _ | (with_reducible refine Grow.setCell ?_ ?hp _; (case hp => (simp; try omega))) | with_reducible refine Grow.trans ?_ (by assumption))))).mono ?_); (rintro e u5 ⟨v5, rfl, hv5, hb5⟩; obtain ⟨s5, a5, l5, c5, rfl⟩ := hv5.form; have HV5 := Lib.hid hv5; clear hv5; obtain ⟨f0_5, f1_5, f2_5, f3_5, f4_5, f5_5, f6_5, f7_5⟩ := C0.out u5 (by (repeat (first | with_reducible exact Grow.refl _ | with_reducible refine Grow.alloc ?_ _ | with_reducible refine Grow.drew ?_ | with_reducible refine Grow.drewN ?_ _ | (with_reducible refine Grow.setCell ?_ ?hp _; (case hp => (simp; try omega))) | with_reducible refine Grow.trans ?_ (by assumption)))); obtain ⟨q0_5, q1_5, q2_5, q3_5, qf5, NU5, hz5, HB5⟩ := R0.out u5 (by (repeat (first | with_reducible exact Grow.refl _ | with_reducible refine Grow.alloc ?_ _ | with_reducible refine Grow.drew ?_ | with_reducible refine Grow.drewN ?_ _ | (with_reducible refine Grow.setCell ?_ ?hp _; (case hp => (simp; try omega))) | with_reducible refine Grow.trans ?_ (by assumption)))); have NUH5 := Lib.hid NU5; have HBH5 := Lib.hid HB5; clear NU5 HB5))
      | (go_at_call 25; (with_reducible refine (M2.out _ (by (repeat (first | with_reducible exact Grow.refl _ | with_reducible refine Grow.alloc ?_ _ | with_reducible refine Grow.drew ?_ | with_reducible refine Grow.drewN ?_ _ | (with_reducible refine Grow.setCell ?_ ?hp _; (case hp => (simp; try omega))) | with_reducible refine Grow.trans ?_ (by assumption))))).mono ?_); (rintro e u6 ⟨v6, rfl, hv6, hb6⟩; obtain ⟨s6, a6, l6, c6, rfl⟩ := hv6.form; have HV6 := Lib.hid hv6; clear hv6; obtain ⟨f0_6, f1_6, f2_6, f3_6, f4_6, f5_6, f6_6, f7_6⟩ := C0.out u6 (by (repeat (first | with_reducible exact Grow.refl _ | with_reducible refine Grow.alloc ?_ _ | with_reducible refine Grow.drew ?_ | with_reducible refine Grow.drewN ?_ _ | (with_reducible refine Grow.setCell ?_ ?hp _; (case hp => (simp; try omega))) | with_reducible refine Grow.trans ?_ (by assumption)))); obtain ⟨q0_6, q1_6, q2_6, q3_6, qf6, NU6, hz6, HB6⟩ := R0.out u6 (by (repeat (first | with_reducible exact Grow.refl _ | with_reducible refine Grow.alloc ?_ _ | with_reducible refine Grow.drew ?_ | with_reducible refine Grow.drewN ?_ _ | (with_reducible refine Grow.setCell ?_ ?hp _; (case hp => (simp; try omega))) | with_reducible refine Grow.trans ?_ (by assumption)))); have NUH6 := Lib.hid NU6; have HBH6 := Lib.hid HB6; clear NU6 HB6))
      | (go_at_call 26; (with_reducible refine (OV.out _ _ _ (HV5.out.grow (by (repeat (first | with_reducible exact Grow.refl _ | with_reducible refine Grow.alloc ?_ _ | with_reducible refine Grow.drew ?_ | with_reducible refine Grow.drewN ?_ _ | (with_reducible refine Grow.setCell ?_ ?hp _; (case hp => (simp; try omega))) | with_reducible refine Grow.trans ?_ (by assumption))))) (HV6.out.grow (by (repeat (first | with_reducible exact Grow.refl _ | with_reducible refine Grow.alloc ?_ _ | with_reducible refine Grow.drew ?_ | with_reducible refine Grow.drewN ?_ _ | (with_reducible refine Grow.setCell ?_ ?hp _; (case hp => (simp; try omega))) | with_reducible refine Grow.trans ?_ (by assumption)))))).mono ?_); (rintro e u7 ⟨v7, rfl, hv7, hb7⟩; obtain ⟨s7, a7, l7, c7, t7, b7, k7, e7, rfl⟩ := hv7.form; have HV7 := Lib.hid hv7; clear hv7; obtain ⟨f0_7, f1_7, f2_7, f3_7, f4_7, f5_7, f6_7, f7_7⟩ := C0.out u7 (by (repeat (first | with_reducible exact Grow.refl _ | with_reducible refine Grow.alloc ?_ _ | with_reducible refine Grow.drew ?_ | with_reducible refine Grow.drewN ?_ _ | (with_reducible refine Grow.setCell ?_ ?hp _; (case hp => (simp; try omega))) | with_reducible refine Grow.trans ?_ (by assumption)))); obtain ⟨q0_7, q1_7, q2_7, q3_7, qf7, NU7, hz7, HB7⟩ := R0.out u7 (by (repeat (first | with_reducible exact Grow.refl _ | with_reducible refine Grow.alloc ?_ _ | with_reducible refine Grow.drew ?_ | with_reducible refine Grow.drewN ?_ _ | (with_reducible refine Grow.setCell ?_ ?hp _; (case hp => (simp; try omega))) | with_reducible refine Grow.trans ?_ (by assumption)))); have NUH7 := Lib.hid NU7; have HBH7 := Lib.hid HB7; clear NU7 HB7)))
  all_goals (try simp only [Exit.then])
  all_goals go_wp2_with fail
  all_goals refine bodyPost_ret (v := .agg #[.bool s7, .slice a7 l7 c7, .bool t7, .slice b7 k7 e7]) (by rw [results_one rfl]; go_simp) rfl ⟨_, rfl, HV7.out.set4 NUH7.out _ _ _ _ _ _ _ _, by have h9 := HBH7.out; (repeat (first | with_reducible exact Grow.refl _ | with_reducible refine Grow.alloc ?_ _ | with_reducible refine Grow.drew ?_ | with_reducible refine Grow.drewN ?_ _ | (with_reducible refine Grow.setCell ?_ ?hp _; (case hp => (simp; try omega))) | with_reducible refine Grow.trans ?_ (by assumption)))⟩
set_option maxRecDepth 20000 in
set_option maxHeartbeats 8000000 in
theorem signQ (x : Rat) (v1 : Value) (w : World) (h1 : RatR w v1 x) :
    Calls Tryz.prog 127 #[v1] w fun e w' => e = .returned (.int .i64 (sgI x.num)) ∧ Grow w w' := by
  obtain ⟨s1, a1, l1, c1, t1, b1, k1, e1, rfl⟩ := h1.form
  have HX1 := Lib.hid h1
  have S1 := Lib.hid (fun u hu => signV _ _ u (h1.num.grow hu))
  have S2 := Lib.hid (fun u hu => signV _ _ u (h1.den.grow hu))
  have hden : sgI (x.den : Int) = 1 := by have := x.den_pos; unfold sgI; rw [if_neg (by omega), if_pos (by omega)]
  rw [hden] at S2
  obtain ⟨Z, hZ⟩ : ∃ Z, sgI x.num = Z := ⟨_, rfl⟩
  have hZ1 : Z = -1 ∨ Z = 0 ∨ Z = 1 := by rw [← hZ]; unfold sgI; split; exact .inl rfl; split; exact .inr (.inr rfl); exact .inr (.inl rfl)
  have hw : IntKind.i64.wrap (Z * 1) = Z := by rcases hZ1 with h | h | h <;> subst h <;> rfl
  have hw2 : IntKind.i64.wrap Z = Z := by rcases hZ1 with h | h | h <;> subst h <;> rfl
  have hw3 : wrap64 Z = Z := by unfold wrap64; omega
  rw [hZ] at S1 ⊢
  clear h1 hden hZ hZ1
  go_enter Tryz.func127, Tryz.ntmps127
  go_wp2_with fail
  have c0 : ∀ u : World, Grow (w.alloc (.cells #[.bool s1, .slice a1 l1 c1, .bool t1, .slice b1 k1 e1] 27)) u → u.cell? ⟨w.heap.size, 0, none⟩ = some (.bool s1) ∧ u.cell? ⟨w.heap.size, 1, none⟩ = some (.slice a1 l1 c1) ∧ u.cell? ⟨w.heap.size, 2, none⟩ = some (.bool t1) ∧ u.cell? ⟨w.heap.size, 3, none⟩ = some (.slice b1 k1 e1) := by
    intro u hg
    refine ⟨(hg.cells _ _ (by (try simp); try omega)).trans ?_, (hg.cells _ _ (by (try simp); try omega)).trans ?_, (hg.cells _ _ (by (try simp); try omega)).trans ?_, (hg.cells _ _ (by (try simp); try omega)).trans ?_⟩ <;> go_simp
  have C0 := Lib.hid c0
  clear c0
  go_region_held3 (fun u => u.cell? ⟨w.heap.size, 0, none⟩ = some (.bool s1) ∧ u.cell? ⟨w.heap.size, 1, none⟩ = some (.slice a1 l1 c1) ∧ u.cell? ⟨w.heap.size, 2, none⟩ = some (.bool t1) ∧ u.cell? ⟨w.heap.size, 3, none⟩ = some (.slice b1 k1 e1))
    (first | (refine ⟨?_, ?_, ?_, ?_⟩ <;> (go_simp; done)) | exact C0.out _ (by (repeat (first | with_reducible exact Grow.refl _ | with_reducible refine Grow.alloc ?_ _ | with_reducible refine Grow.drew ?_ | with_reducible refine Grow.drewN ?_ _ | (with_reducible refine Grow.setCell ?_ ?hp _; (case hp => (simp; try omega))) | with_reducible refine Grow.trans ?_ (by assumption)))))
    (first
      | (go_at_call 21; (with_reducible refine (S1.out _ (by (repeat (first | with_reducible exact Grow.refl _ | with_reducible refine Grow.alloc ?_ _ | with_reducible refine Grow.drew ?_ | with_reducible refine Grow.drewN ?_ _ | (with_reducible refine Grow.setCell ?_ ?hp _; (case hp => (simp; try omega))) | with_reducible refine Grow.trans ?_ (by assumption))))).mono ?_); (rintro e u6 ⟨rfl, hb6⟩; obtain ⟨f0_6, f1_6, f2_6, f3_6⟩ := C0.out u6 (by (repeat (first | with_reducible exact Grow.refl _ | with_reducible refine Grow.alloc ?_ _ | with_reducible refine Grow.drew ?_ | with_reducible refine Grow.drewN ?_ _ | (with_reducible refine Grow.setCell ?_ ?hp _; (case hp => (simp; try omega))) | with_reducible refine Grow.trans ?_ (by assumption))))))
      | (go_at_call 21; (with_reducible refine (S2.out _ (by (repeat (first | with_reducible exact Grow.refl _ | with_reducible refine Grow.alloc ?_ _ | with_reducible refine Grow.drew ?_ | with_reducible refine Grow.drewN ?_ _ | (with_reducible refine Grow.setCell ?_ ?hp _; (case hp => (simp; try omega))) | with_reducible refine Grow.trans ?_ (by assumption))))).mono ?_); (rintro e u7 ⟨rfl, hb7⟩; obtain ⟨f0_7, f1_7, f2_7, f3_7⟩ := C0.out u7 (by (repeat (first | with_reducible exact Grow.refl _ | with_reducible refine Grow.alloc ?_ _ | with_reducible refine Grow.drew ?_ | with_reducible refine Grow.drewN ?_ _ | (with_reducible refine Grow.setCell ?_ ?hp _; (case hp => (simp; try omega))) | with_reducible refine Grow.trans ?_ (by assumption)))))))
  all_goals (try simp only [Exit.then])
  all_goals go_wp2_with fail
  all_goals go_ret
  all_goals exact ⟨rfl, by (repeat (first | with_reducible exact Grow.refl _ | with_reducible refine Grow.alloc ?_ _ | with_reducible refine Grow.drew ?_ | with_reducible refine Grow.drewN ?_ _ | (with_reducible refine Grow.setCell ?_ ?hp _; (case hp => (simp; try omega))) | with_reducible refine Grow.trans ?_ (by assumption)))⟩
end Go.Proofs.YtbpkfcohbefphaaGreatDoor
namespace Go.Proofs.YtbpkfcohbefphaaGreatDoor
open Go Go.RowKit
set_option maxRecDepth 20000 in
set_option maxHeartbeats 8000000 in
theorem ofQ (z : Int) (hz : z.natAbs < 4294967296) (w : World) : Calls Tryz.prog 20 #[.int .i64 z] w fun e w' => ∃ v, e = .returned v ∧ RatR w' v (z : Rat) ∧ Grow w w' := by
  have O1 := Lib.hid (fun u => ofV z hz u)
  have O2 := Lib.hid (fun u => ofV 1 (by decide) u)
  clear hz
  by_cases hz1 : z = 1
  · subst hz1
    go_enter Tryz.func20, Tryz.ntmps20
    go_wp2_with fail
    have r0 : ∀ u : World, Grow (w.alloc (.cells #[.bool false, .slice none 0 0, .bool false, .slice none 0 0] 27)) u → u.cell? ⟨w.heap.size, 0, none⟩ = some (.bool false) ∧ u.cell? ⟨w.heap.size, 1, none⟩ = some (.slice none 0 0) ∧ u.cell? ⟨w.heap.size, 2, none⟩ = some (.bool false) ∧ u.cell? ⟨w.heap.size, 3, none⟩ = some (.slice none 0 0) ∧ (∀ o, u.frozen? ⟨w.heap.size, o, none⟩ = false) ∧ NoU u (w.heap.size) ∧ w.heap.size < u.heap.size ∧ Grow w u := by
      intro u hg
      have hz := hg.size
      simp at hz
      refine ⟨(hg.cells _ _ (by simp)).trans ?_, (hg.cells _ _ (by simp)).trans ?_, (hg.cells _ _ (by simp)).trans ?_, (hg.cells _ _ (by simp)).trans ?_, fun o => (hg.frees _ _ (by simp)).trans ?_, ?_, by omega, Grow.trans (by (repeat (first | with_reducible exact Grow.refl _ | with_reducible refine Grow.alloc ?_ _ | with_reducible refine Grow.drew ?_ | with_reducible refine Grow.drewN ?_ _ | (with_reducible refine Grow.setCell ?_ ?hp _; (case hp => (simp; try omega))) | with_reducible refine Grow.trans ?_ (by assumption)))) hg⟩
      · go_simp
      · go_simp
      · go_simp
      · go_simp
      · go_simp
      · have h := NoU.alloc w _ 27 (noU4 false false none none 0 0 0 0)
        (try simp at h)
        exact h.grow (by simp) hg
    have R0 := Lib.hid r0
    clear r0
    go_wp2_with (first | (go_at_call 19; (with_reducible refine (O1.out _).mono ?_); (rintro e u5 ⟨v5, rfl, hv5, hb5⟩; obtain ⟨s5, a5, l5, c5, rfl⟩ := hv5.form; have HV5 := Lib.hid hv5; clear hv5; skip; obtain ⟨q0_5, q1_5, q2_5, q3_5, qf5, NU5, hz5, HB5⟩ := R0.out u5 (by (repeat (first | with_reducible exact Grow.refl _ | with_reducible refine Grow.alloc ?_ _ | with_reducible refine Grow.drew ?_ | with_reducible refine Grow.drewN ?_ _ | (with_reducible refine Grow.setCell ?_ ?hp _; (case hp => (simp; try omega))) | with_reducible refine Grow.trans ?_ (by assumption)))); have NUH5 := Lib.hid NU5; have HBH5 := Lib.hid HB5; clear NU5 HB5; have O2X := O2; clear O1)) | (go_at_call 19; (with_reducible refine (O2.out _).mono ?_); (rintro e u6 ⟨v6, rfl, hv6, hb6⟩; obtain ⟨s6, a6, l6, c6, rfl⟩ := hv6.form; have HV6 := Lib.hid hv6; clear hv6; skip; obtain ⟨q0_6, q1_6, q2_6, q3_6, qf6, NU6, hz6, HB6⟩ := R0.out u6 (by (repeat (first | with_reducible exact Grow.refl _ | with_reducible refine Grow.alloc ?_ _ | with_reducible refine Grow.drew ?_ | with_reducible refine Grow.drewN ?_ _ | (with_reducible refine Grow.setCell ?_ ?hp _; (case hp => (simp; try omega))) | with_reducible refine Grow.trans ?_ (by assumption)))); have NUH6 := Lib.hid NU6; have HBH6 := Lib.hid HB6; clear NU6 HB6)))
    all_goals refine bodyPost_ret (v := .agg #[.bool s5, .slice a5 l5 c5, .bool s6, .slice a6 l6 c6]) (by rw [results_one rfl]; go_simp) rfl ⟨_, rfl, (RatR.whole (HV5.out.grow (by (repeat (first | with_reducible exact Grow.refl _ | with_reducible refine Grow.alloc ?_ _ | with_reducible refine Grow.drew ?_ | with_reducible refine Grow.drewN ?_ _ | (with_reducible refine Grow.setCell ?_ ?hp _; (case hp => (simp; try omega))) | with_reducible refine Grow.trans ?_ (by assumption))))) HV6.out).set4 NUH6.out _ _ _ _ _ _ _ _, by have h9 := HBH6.out; (repeat (first | with_reducible exact Grow.refl _ | with_reducible refine Grow.alloc ?_ _ | with_reducible refine Grow.drew ?_ | with_reducible refine Grow.drewN ?_ _ | (with_reducible refine Grow.setCell ?_ ?hp _; (case hp => (simp; try omega))) | with_reducible refine Grow.trans ?_ (by assumption)))⟩
  · have HZ1 := Lib.hid hz1
    clear hz1
    go_enter Tryz.func20, Tryz.ntmps20
    go_wp2_with fail
    have r0 : ∀ u : World, Grow (w.alloc (.cells #[.bool false, .slice none 0 0, .bool false, .slice none 0 0] 27)) u → u.cell? ⟨w.heap.size, 0, none⟩ = some (.bool false) ∧ u.cell? ⟨w.heap.size, 1, none⟩ = some (.slice none 0 0) ∧ u.cell? ⟨w.heap.size, 2, none⟩ = some (.bool false) ∧ u.cell? ⟨w.heap.size, 3, none⟩ = some (.slice none 0 0) ∧ (∀ o, u.frozen? ⟨w.heap.size, o, none⟩ = false) ∧ NoU u (w.heap.size) ∧ w.heap.size < u.heap.size ∧ Grow w u := by
      intro u hg
      have hz := hg.size
      simp at hz
      refine ⟨(hg.cells _ _ (by simp)).trans ?_, (hg.cells _ _ (by simp)).trans ?_, (hg.cells _ _ (by simp)).trans ?_, (hg.cells _ _ (by simp)).trans ?_, fun o => (hg.frees _ _ (by simp)).trans ?_, ?_, by omega, Grow.trans (by (repeat (first | with_reducible exact Grow.refl _ | with_reducible refine Grow.alloc ?_ _ | with_reducible refine Grow.drew ?_ | with_reducible refine Grow.drewN ?_ _ | (with_reducible refine Grow.setCell ?_ ?hp _; (case hp => (simp; try omega))) | with_reducible refine Grow.trans ?_ (by assumption)))) hg⟩
      · go_simp
      · go_simp
      · go_simp
      · go_simp
      · go_simp
      · have h := NoU.alloc w _ 27 (noU4 false false none none 0 0 0 0)
        (try simp at h)
        exact h.grow (by simp) hg
    have R0 := Lib.hid r0
    clear r0
    go_wp2_with (first | (go_at_call 19; (with_reducible refine (O1.out _).mono ?_); (rintro e u5 ⟨v5, rfl, hv5, hb5⟩; obtain ⟨s5, a5, l5, c5, rfl⟩ := hv5.form; have HV5 := Lib.hid hv5; clear hv5; skip; obtain ⟨q0_5, q1_5, q2_5, q3_5, qf5, NU5, hz5, HB5⟩ := R0.out u5 (by (repeat (first | with_reducible exact Grow.refl _ | with_reducible refine Grow.alloc ?_ _ | with_reducible refine Grow.drew ?_ | with_reducible refine Grow.drewN ?_ _ | (with_reducible refine Grow.setCell ?_ ?hp _; (case hp => (simp; try omega))) | with_reducible refine Grow.trans ?_ (by assumption)))); have NUH5 := Lib.hid NU5; have HBH5 := Lib.hid HB5; clear NU5 HB5)) | (go_at_call 19; (with_reducible refine (O2.out _).mono ?_); (rintro e u6 ⟨v6, rfl, hv6, hb6⟩; obtain ⟨s6, a6, l6, c6, rfl⟩ := hv6.form; have HV6 := Lib.hid hv6; clear hv6; skip; obtain ⟨q0_6, q1_6, q2_6, q3_6, qf6, NU6, hz6, HB6⟩ := R0.out u6 (by (repeat (first | with_reducible exact Grow.refl _ | with_reducible refine Grow.alloc ?_ _ | with_reducible refine Grow.drew ?_ | with_reducible refine Grow.drewN ?_ _ | (with_reducible refine Grow.setCell ?_ ?hp _; (case hp => (simp; try omega))) | with_reducible refine Grow.trans ?_ (by assumption)))); have NUH6 := Lib.hid NU6; have HBH6 := Lib.hid HB6; clear NU6 HB6)))
    all_goals refine bodyPost_ret (v := .agg #[.bool s5, .slice a5 l5 c5, .bool s6, .slice a6 l6 c6]) (by rw [results_one rfl]; go_simp) rfl ⟨_, rfl, (RatR.whole (HV5.out.grow (by (repeat (first | with_reducible exact Grow.refl _ | with_reducible refine Grow.alloc ?_ _ | with_reducible refine Grow.drew ?_ | with_reducible refine Grow.drewN ?_ _ | (with_reducible refine Grow.setCell ?_ ?hp _; (case hp => (simp; try omega))) | with_reducible refine Grow.trans ?_ (by assumption))))) HV6.out).set4 NUH6.out _ _ _ _ _ _ _ _, by have h9 := HBH6.out; (repeat (first | with_reducible exact Grow.refl _ | with_reducible refine Grow.alloc ?_ _ | with_reducible refine Grow.drew ?_ | with_reducible refine Grow.drewN ?_ _ | (with_reducible refine Grow.setCell ?_ ?hp _; (case hp => (simp; try omega))) | with_reducible refine Grow.trans ?_ (by assumption)))⟩
set_option maxRecDepth 20000 in
set_option maxHeartbeats 8000000 in
theorem wholeQ (z : Int) (v1 : Value) (w : World) (h1 : IntR w v1 z) :
    Calls Tryz.prog 93 #[v1] w fun e w' => ∃ v, e = .returned v ∧ RatR w' v (z : Rat) ∧ Grow w w' := by
  obtain ⟨s1, a1, l1, c1, rfl⟩ := h1.form
  have HX1 := Lib.hid h1
  have N1 := Lib.hid (fun u hu => normalV _ _ u (h1.grow hu))
  have O2 := Lib.hid (fun u => ofV 1 (by decide) u)
  clear h1
  go_enter Tryz.func93, Tryz.ntmps93
  go_wp2_with fail
  have c0 : ∀ u : World, Grow ((w.alloc (.cells #[.bool s1, .slice a1 l1 c1] 25)).alloc (.cells #[.bool false, .slice none 0 0, .bool false, .slice none 0 0] 27)) u → u.cell? ⟨w.heap.size, 0, none⟩ = some (.bool s1) ∧ u.cell? ⟨w.heap.size, 1, none⟩ = some (.slice a1 l1 c1) := by
    intro u hg
    refine ⟨(hg.cells _ _ (by (try simp); try omega)).trans ?_, (hg.cells _ _ (by (try simp); try omega)).trans ?_⟩ <;> go_simp
  have C0 := Lib.hid c0
  clear c0
  have r0 : ∀ u : World, Grow ((w.alloc (.cells #[.bool s1, .slice a1 l1 c1] 25)).alloc (.cells #[.bool false, .slice none 0 0, .bool false, .slice none 0 0] 27)) u → u.cell? ⟨w.heap.size + 1, 0, none⟩ = some (.bool false) ∧ u.cell? ⟨w.heap.size + 1, 1, none⟩ = some (.slice none 0 0) ∧ u.cell? ⟨w.heap.size + 1, 2, none⟩ = some (.bool false) ∧ u.cell? ⟨w.heap.size + 1, 3, none⟩ = some (.slice none 0 0) ∧ (∀ o, u.frozen? ⟨w.heap.size + 1, o, none⟩ = false) ∧ NoU u (w.heap.size + 1) ∧ w.heap.size + 1 < u.heap.size ∧ Grow w u := by
    intro u hg
    have hz := hg.size
    simp at hz
    refine ⟨(hg.cells _ _ (by simp)).trans ?_, (hg.cells _ _ (by simp)).trans ?_, (hg.cells _ _ (by simp)).trans ?_, (hg.cells _ _ (by simp)).trans ?_, fun o => (hg.frees _ _ (by simp)).trans ?_, ?_, by omega, Grow.trans (by (repeat (first | with_reducible exact Grow.refl _ | with_reducible refine Grow.alloc ?_ _ | with_reducible refine Grow.drew ?_ | with_reducible refine Grow.drewN ?_ _ | (with_reducible refine Grow.setCell ?_ ?hp _; (case hp => (simp; try omega))) | with_reducible refine Grow.trans ?_ (by assumption)))) hg⟩
    · go_simp
    · go_simp
    · go_simp
    · go_simp
    · go_simp
    · have h := NoU.alloc (w.alloc (.cells #[.bool s1, .slice a1 l1 c1] 25)) _ 27 (noU4 false false none none 0 0 0 0)
      (try simp at h)
      exact h.grow (by simp) hg
  have R0 := Lib.hid r0
  clear r0
  go_wp2_with (first | (go_at_call 48; (with_reducible refine (N1.out _ (by (repeat (first | with_reducible exact Grow.refl _ | with_reducible refine Grow.alloc ?_ _ | with_reducible refine Grow.drew ?_ | with_reducible refine Grow.drewN ?_ _ | (with_reducible refine Grow.setCell ?_ ?hp _; (case hp => (simp; try omega))) | with_reducible refine Grow.trans ?_ (by assumption))))).mono ?_); (rintro e u5 ⟨v5, rfl, hv5, hb5⟩; obtain ⟨s5, a5, l5, c5, rfl⟩ := hv5.form; have HV5 := Lib.hid hv5; clear hv5; obtain ⟨f0_5, f1_5⟩ := C0.out u5 (by (repeat (first | with_reducible exact Grow.refl _ | with_reducible refine Grow.alloc ?_ _ | with_reducible refine Grow.drew ?_ | with_reducible refine Grow.drewN ?_ _ | (with_reducible refine Grow.setCell ?_ ?hp _; (case hp => (simp; try omega))) | with_reducible refine Grow.trans ?_ (by assumption)))); obtain ⟨q0_5, q1_5, q2_5, q3_5, qf5, NU5, hz5, HB5⟩ := R0.out u5 (by (repeat (first | with_reducible exact Grow.refl _ | with_reducible refine Grow.alloc ?_ _ | with_reducible refine Grow.drew ?_ | with_reducible refine Grow.drewN ?_ _ | (with_reducible refine Grow.setCell ?_ ?hp _; (case hp => (simp; try omega))) | with_reducible refine Grow.trans ?_ (by assumption)))); have NUH5 := Lib.hid NU5; have HBH5 := Lib.hid HB5; clear NU5 HB5)) | (go_at_call 19; (with_reducible refine (O2.out _).mono ?_); (rintro e u6 ⟨v6, rfl, hv6, hb6⟩; obtain ⟨s6, a6, l6, c6, rfl⟩ := hv6.form; have HV6 := Lib.hid hv6; clear hv6; obtain ⟨f0_6, f1_6⟩ := C0.out u6 (by (repeat (first | with_reducible exact Grow.refl _ | with_reducible refine Grow.alloc ?_ _ | with_reducible refine Grow.drew ?_ | with_reducible refine Grow.drewN ?_ _ | (with_reducible refine Grow.setCell ?_ ?hp _; (case hp => (simp; try omega))) | with_reducible refine Grow.trans ?_ (by assumption)))); obtain ⟨q0_6, q1_6, q2_6, q3_6, qf6, NU6, hz6, HB6⟩ := R0.out u6 (by (repeat (first | with_reducible exact Grow.refl _ | with_reducible refine Grow.alloc ?_ _ | with_reducible refine Grow.drew ?_ | with_reducible refine Grow.drewN ?_ _ | (with_reducible refine Grow.setCell ?_ ?hp _; (case hp => (simp; try omega))) | with_reducible refine Grow.trans ?_ (by assumption)))); have NUH6 := Lib.hid NU6; have HBH6 := Lib.hid HB6; clear NU6 HB6)))
  all_goals refine bodyPost_ret (v := .agg #[.bool s5, .slice a5 l5 c5, .bool s6, .slice a6 l6 c6]) (by rw [results_one rfl]; go_simp) rfl ⟨_, rfl, (RatR.whole (HV5.out.grow (by (repeat (first | with_reducible exact Grow.refl _ | with_reducible refine Grow.alloc ?_ _ | with_reducible refine Grow.drew ?_ | with_reducible refine Grow.drewN ?_ _ | (with_reducible refine Grow.setCell ?_ ?hp _; (case hp => (simp; try omega))) | with_reducible refine Grow.trans ?_ (by assumption))))) HV6.out).set4 NUH6.out _ _ _ _ _ _ _ _, by have h9 := HBH6.out; (repeat (first | with_reducible exact Grow.refl _ | with_reducible refine Grow.alloc ?_ _ | with_reducible refine Grow.drew ?_ | with_reducible refine Grow.drewN ?_ _ | (with_reducible refine Grow.setCell ?_ ?hp _; (case hp => (simp; try omega))) | with_reducible refine Grow.trans ?_ (by assumption)))⟩
set_option maxRecDepth 20000 in
set_option maxHeartbeats 8000000 in
theorem quoQ (x : Rat) (y : Rat) (v1 v2 : Value) (hy : y ≠ 0) (hn : (x.num * (y.den : Int)).natAbs < 4294967296) (hd : ((x.den : Int) * y.num).natAbs < 4294967296) (w : World) (h1 : RatR w v1 x) (h2 : RatR w v2 y) :
    Calls Tryz.prog 115 #[v1, v2] w fun e w' => ∃ v, e = .returned (.tuple #[v, .int .i64 0]) ∧ RatR w' v (x / y) ∧ Grow w w' := by
  obtain ⟨s1, a1, l1, c1, t1, b1, k1, e1, rfl⟩ := h1.form
  have HX1 := Lib.hid h1
  obtain ⟨s2, a2, l2, c2, t2, b2, k2, e2, rfl⟩ := h2.form
  have HX2 := Lib.hid h2
  have SG := Lib.hid (fun u hu => signQ _ _ u (h2.grow hu))
  have M1 := Lib.hid (fun u hu => mulV x.num (y.den : Int) _ _ hn u (h1.num.grow hu) (h2.den.grow hu))
  have M2 := Lib.hid (fun u hu => mulV (x.den : Int) y.num _ _ hd u (h1.den.grow hu) (h2.num.grow hu))
  have OV := Lib.hid (fun u v v' hv hv' => overV (x.num * (y.den : Int)) ((x.den : Int) * y.num) v v' u hv hv')
  rw [divInt_quoQ] at OV
  have hyn : y.num ≠ 0 := fun h => hy (Rat.num_eq_zero.1 h)
  obtain ⟨Z, hZ⟩ : ∃ Z, sgI y.num = Z := ⟨_, rfl⟩
  have hZ0 : (Z == 0) = false := by rw [← hZ]; unfold sgI; split; rfl; split; rfl; omega
  rw [hZ] at SG
  clear h1 h2 hn hd hy hyn hZ
  go_enter Tryz.func115, Tryz.ntmps115
  go_wp2_with fail
  have c0 : ∀ u : World, Grow (((w.alloc (.cells #[.bool s1, .slice a1 l1 c1, .bool t1, .slice b1 k1 e1] 27)).alloc (.cells #[.bool s2, .slice a2 l2 c2, .bool t2, .slice b2 k2 e2] 27)).alloc (.cells #[.bool false, .slice none 0 0, .bool false, .slice none 0 0] 27)) u → u.cell? ⟨w.heap.size, 0, none⟩ = some (.bool s1) ∧ u.cell? ⟨w.heap.size, 1, none⟩ = some (.slice a1 l1 c1) ∧ u.cell? ⟨w.heap.size, 2, none⟩ = some (.bool t1) ∧ u.cell? ⟨w.heap.size, 3, none⟩ = some (.slice b1 k1 e1) ∧ u.cell? ⟨w.heap.size + 1, 0, none⟩ = some (.bool s2) ∧ u.cell? ⟨w.heap.size + 1, 1, none⟩ = some (.slice a2 l2 c2) ∧ u.cell? ⟨w.heap.size + 1, 2, none⟩ = some (.bool t2) ∧ u.cell? ⟨w.heap.size + 1, 3, none⟩ = some (.slice b2 k2 e2) := by
    intro u hg
    refine ⟨(hg.cells _ _ (by (try simp); try omega)).trans ?_, (hg.cells _ _ (by (try simp); try omega)).trans ?_, (hg.cells _ _ (by (try simp); try omega)).trans ?_, (hg.cells _ _ (by (try simp); try omega)).trans ?_, (hg.cells _ _ (by (try simp); try omega)).trans ?_, (hg.cells _ _ (by (try simp); try omega)).trans ?_, (hg.cells _ _ (by (try simp); try omega)).trans ?_, (hg.cells _ _ (by (try simp); try omega)).trans ?_⟩ <;> go_simp
  have C0 := Lib.hid c0
  clear c0
  have r0 : ∀ u : World, Grow (((w.alloc (.cells #[.bool s1, .slice a1 l1 c1, .bool t1, .slice b1 k1 e1] 27)).alloc (.cells #[.bool s2, .slice a2 l2 c2, .bool t2, .slice b2 k2 e2] 27)).alloc (.cells #[.bool false, .slice none 0 0, .bool false, .slice none 0 0] 27)) u → u.cell? ⟨w.heap.size + 1 + 1, 0, none⟩ = some (.bool false) ∧ u.cell? ⟨w.heap.size + 1 + 1, 1, none⟩ = some (.slice none 0 0) ∧ u.cell? ⟨w.heap.size + 1 + 1, 2, none⟩ = some (.bool false) ∧ u.cell? ⟨w.heap.size + 1 + 1, 3, none⟩ = some (.slice none 0 0) ∧ (∀ o, u.frozen? ⟨w.heap.size + 1 + 1, o, none⟩ = false) ∧ NoU u (w.heap.size + 1 + 1) ∧ w.heap.size + 1 + 1 < u.heap.size ∧ Grow w u := by
    intro u hg
    have hz := hg.size
    simp at hz
    refine ⟨(hg.cells _ _ (by simp)).trans ?_, (hg.cells _ _ (by simp)).trans ?_, (hg.cells _ _ (by simp)).trans ?_, (hg.cells _ _ (by simp)).trans ?_, fun o => (hg.frees _ _ (by simp)).trans ?_, ?_, by omega, Grow.trans (by (repeat (first | with_reducible exact Grow.refl _ | with_reducible refine Grow.alloc ?_ _ | with_reducible refine Grow.drew ?_ | with_reducible refine Grow.drewN ?_ _ | (with_reducible refine Grow.setCell ?_ ?hp _; (case hp => (simp; try omega))) | with_reducible refine Grow.trans ?_ (by assumption)))) hg⟩
    · go_simp
    · go_simp
    · go_simp
    · go_simp
    · go_simp
    · have h := NoU.alloc ((w.alloc (.cells #[.bool s1, .slice a1 l1 c1, .bool t1, .slice b1 k1 e1] 27)).alloc (.cells #[.bool s2, .slice a2 l2 c2, .bool t2, .slice b2 k2 e2] 27)) _ 27 (noU4 false false none none 0 0 0 0)
      (try simp at h)
      exact h.grow (by simp) hg
  have R0 := Lib.hid r0
  clear r0
  go_wp2_with (go_at_call 127; (with_reducible refine (SG.out _ (by (repeat (first | with_reducible exact Grow.refl _ | with_reducible refine Grow.alloc ?_ _ | with_reducible refine Grow.drew ?_ | with_reducible refine Grow.drewN ?_ _ | (with_reducible refine Grow.setCell ?_ ?hp _; (case hp => (simp; try omega))) | with_reducible refine Grow.trans ?_ (by assumption))))).mono ?_); (rintro e u4 ⟨rfl, hb4⟩; obtain ⟨f0_4, f1_4, f2_4, f3_4, f4_4, f5_4, f6_4, f7_4⟩ := C0.out u4 (by (repeat (first | with_reducible exact Grow.refl _ | with_reducible refine Grow.alloc ?_ _ | with_reducible refine Grow.drew ?_ | with_reducible refine Grow.drewN ?_ _ | (with_reducible refine Grow.setCell ?_ ?hp _; (case hp => (simp; try omega))) | with_reducible refine Grow.trans ?_ (by assumption)))); obtain ⟨q0_4, q1_4, q2_4, q3_4, qf4, NU4, hz4, HB4⟩ := R0.out u4 (by (repeat (first | with_reducible exact Grow.refl _ | with_reducible refine Grow.alloc ?_ _ | with_reducible refine Grow.drew ?_ | with_reducible refine Grow.drewN ?_ _ | (with_reducible refine Grow.setCell ?_ ?hp _; (case hp => (simp; try omega))) | with_reducible refine Grow.trans ?_ (by assumption)))); have NUH4 := Lib.hid NU4; have HBH4 := Lib.hid HB4; clear NU4 HB4))
  go_region_held3 (fun u => u.cell? ⟨w.heap.size, 0, none⟩ = some (.bool s1) ∧ u.cell? ⟨w.heap.size, 1, none⟩ = some (.slice a1 l1 c1) ∧ u.cell? ⟨w.heap.size, 2, none⟩ = some (.bool t1) ∧ u.cell? ⟨w.heap.size, 3, none⟩ = some (.slice b1 k1 e1) ∧ u.cell? ⟨w.heap.size + 1, 0, none⟩ = some (.bool s2) ∧ u.cell? ⟨w.heap.size + 1, 1, none⟩ = some (.slice a2 l2 c2) ∧ u.cell? ⟨w.heap.size + 1, 2, none⟩ = some (.bool t2) ∧ u.cell? ⟨w.heap.size + 1, 3, none⟩ = some (.slice b2 k2 e2))
    (first | (refine ⟨?_, ?_, ?_, ?_, ?_, ?_, ?_, ?_⟩ <;> (go_simp; done)) | exact C0.out _ (by (repeat (first | with_reducible exact Grow.refl _ | with_reducible refine Grow.alloc ?_ _ | with_reducible refine Grow.drew ?_ | with_reducible refine Grow.drewN ?_ _ | (with_reducible refine Grow.setCell ?_ ?hp _; (case hp => (simp; try omega))) | with_reducible refine Grow.trans ?_ (by assumption)))))
    (first
      | (go_at_call 25; (with_reducible refine (M1.out _ (by (repeat (first | with_reducible exact Grow.refl _ | with_reducible refine Grow.alloc ?_ _ | with_reducible refine Grow.drew ?_ | with_reducible refine Grow.drewN ?_ _ | (with_reducible refine Grow.setCell ?_ ?hp _; (case hp => (simp; try omega))) | with_reducible refine Grow.trans ?_ (by assumption))))).mono ?_); (rintro e u5 ⟨v5, rfl, hv5, hb5⟩; obtain ⟨s5, a5, l5, c5, rfl⟩ := hv5.form; have HV5 := Lib.hid hv5; clear hv5; obtain ⟨f0_5, f1_5, f2_5, f3_5, f4_5, f5_5, f6_5, f7_5⟩ := C0.out u5 (by (repeat (first | with_reducible exact Grow.refl _ | with_reducible refine Grow.alloc ?_ _ | with_reducible refine Grow.drew ?_ | with_reducible refine Grow.drewN ?_ _ | (with_reducible refine Grow.setCell ?_ ?hp _; (case hp => (simp; try omega))) | with_reducible refine Grow.trans ?_ (by assumption)))); obtain ⟨q0_5, q1_5, q2_5, q3_5, qf5, NU5, hz5, HB5⟩ := R0.out u5 (by (repeat (first | with_reducible exact Grow.refl _ | with_reducible refine Grow.alloc ?_ _ | with_reducible refine Grow.drew ?_ | with_reducible refine Grow.drewN ?_ _ | (with_reducible refine Grow.setCell ?_ ?hp _; (case hp => (simp; try omega))) | with_reducible refine Grow.trans ?_ (by assumption)))); have NUH5 := Lib.hid NU5; have HBH5 := Lib.hid HB5; clear NU5 HB5))
      | (go_at_call 25; (with_reducible refine (M2.out _ (by (repeat (first | with_reducible exact Grow.refl _ | with_reducible refine Grow.alloc ?_ _ | with_reducible refine Grow.drew ?_ | with_reducible refine Grow.drewN ?_ _ | (with_reducible refine Grow.setCell ?_ ?hp _; (case hp => (simp; try omega))) | with_reducible refine Grow.trans ?_ (by assumption))))).mono ?_); (rintro e u6 ⟨v6, rfl, hv6, hb6⟩; obtain ⟨s6, a6, l6, c6, rfl⟩ := hv6.form; have HV6 := Lib.hid hv6; clear hv6; obtain ⟨f0_6, f1_6, f2_6, f3_6, f4_6, f5_6, f6_6, f7_6⟩ := C0.out u6 (by (repeat (first | with_reducible exact Grow.refl _ | with_reducible refine Grow.alloc ?_ _ | with_reducible refine Grow.drew ?_ | with_reducible refine Grow.drewN ?_ _ | (with_reducible refine Grow.setCell ?_ ?hp _; (case hp => (simp; try omega))) | with_reducible refine Grow.trans ?_ (by assumption)))); obtain ⟨q0_6, q1_6, q2_6, q3_6, qf6, NU6, hz6, HB6⟩ := R0.out u6 (by (repeat (first | with_reducible exact Grow.refl _ | with_reducible refine Grow.alloc ?_ _ | with_reducible refine Grow.drew ?_ | with_reducible refine Grow.drewN ?_ _ | (with_reducible refine Grow.setCell ?_ ?hp _; (case hp => (simp; try omega))) | with_reducible refine Grow.trans ?_ (by assumption)))); have NUH6 := Lib.hid NU6; have HBH6 := Lib.hid HB6; clear NU6 HB6))
      | (go_at_call 26; (with_reducible refine (OV.out _ _ _ (HV5.out.grow (by (repeat (first | with_reducible exact Grow.refl _ | with_reducible refine Grow.alloc ?_ _ | with_reducible refine Grow.drew ?_ | with_reducible refine Grow.drewN ?_ _ | (with_reducible refine Grow.setCell ?_ ?hp _; (case hp => (simp; try omega))) | with_reducible refine Grow.trans ?_ (by assumption))))) (HV6.out.grow (by (repeat (first | with_reducible exact Grow.refl _ | with_reducible refine Grow.alloc ?_ _ | with_reducible refine Grow.drew ?_ | with_reducible refine Grow.drewN ?_ _ | (with_reducible refine Grow.setCell ?_ ?hp _; (case hp => (simp; try omega))) | with_reducible refine Grow.trans ?_ (by assumption)))))).mono ?_); (rintro e u7 ⟨v7, rfl, hv7, hb7⟩; obtain ⟨s7, a7, l7, c7, t7, b7, k7, e7, rfl⟩ := hv7.form; have HV7 := Lib.hid hv7; clear hv7; obtain ⟨f0_7, f1_7, f2_7, f3_7, f4_7, f5_7, f6_7, f7_7⟩ := C0.out u7 (by (repeat (first | with_reducible exact Grow.refl _ | with_reducible refine Grow.alloc ?_ _ | with_reducible refine Grow.drew ?_ | with_reducible refine Grow.drewN ?_ _ | (with_reducible refine Grow.setCell ?_ ?hp _; (case hp => (simp; try omega))) | with_reducible refine Grow.trans ?_ (by assumption)))); obtain ⟨q0_7, q1_7, q2_7, q3_7, qf7, NU7, hz7, HB7⟩ := R0.out u7 (by (repeat (first | with_reducible exact Grow.refl _ | with_reducible refine Grow.alloc ?_ _ | with_reducible refine Grow.drew ?_ | with_reducible refine Grow.drewN ?_ _ | (with_reducible refine Grow.setCell ?_ ?hp _; (case hp => (simp; try omega))) | with_reducible refine Grow.trans ?_ (by assumption)))); have NUH7 := Lib.hid NU7; have HBH7 := Lib.hid HB7; clear NU7 HB7)))
  all_goals (try simp only [Exit.then])
  all_goals go_wp2_with fail
  all_goals refine bodyPost_ret (v := .tuple #[.agg #[.bool s7, .slice a7 l7 c7, .bool t7, .slice b7 k7 e7], .int .i64 0]) (by rw [results_cell_tmp rfl]; go_simp) rfl ⟨_, rfl, HV7.out.set4 NUH7.out _ _ _ _ _ _ _ _, by have h9 := HBH7.out; (repeat (first | with_reducible exact Grow.refl _ | with_reducible refine Grow.alloc ?_ _ | with_reducible refine Grow.drew ?_ | with_reducible refine Grow.drewN ?_ _ | (with_reducible refine Grow.setCell ?_ ?hp _; (case hp => (simp; try omega))) | with_reducible refine Grow.trans ?_ (by assumption)))⟩
end Go.Proofs.YtbpkfcohbefphaaGreatDoor
