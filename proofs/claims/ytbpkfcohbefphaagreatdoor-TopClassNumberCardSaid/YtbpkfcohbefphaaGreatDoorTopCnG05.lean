/- Lemmas, plain laws and walks that the statement LwClassNumber leans on (texts BiN), conditions as each theorem says. -/
import Derived.Test.YtbpkfcohbefphaaGreatDoorTopCnG04

namespace Go.Proofs.YtbpkfcohbefphaaGreatDoor
open Go Go.RowKit
/-- The value v is the integer z. -/
def IntR (w : World) (v : Value) (z : Int) : Prop := ∃ m, v = .agg #[.bool (sgB z), m] ∧ MagR w m z.natAbs
theorem IntR.grow {w w' : World} {v : Value} {z : Int} (h : IntR w v z) (hg : Grow w w') : IntR w' v z := by
  obtain ⟨m, hv, h⟩ := h
  exact ⟨m, hv, h.grow hg⟩
theorem IntR.form {w : World} {v : Value} {z : Int} (h : IntR w v z) : ∃ s a l c, v = .agg #[.bool s, .slice a l c] := by
  obtain ⟨m, hv, h⟩ := h
  obtain ⟨a, c, rfl⟩ := h.form
  exact ⟨_, a, _, c, hv⟩
theorem IntR.lt {w : World} {v : Value} {z : Int} (h : IntR w v z) : z.natAbs < 4294967296 := by
  obtain ⟨m, hv, h⟩ := h
  exact h.lt
theorem IntR.set2 {w : World} {v : Value} {z : Int} {B : Nat} (h : IntR w v z) (hB : NoU w B) (o1 o2 : Nat) (v1 v2 : Value) : IntR ((w.setCell ⟨B, o1, none⟩ v1).setCell ⟨B, o2, none⟩ v2) v z := by
  obtain ⟨m, hv, h⟩ := h
  exact ⟨m, hv, h.set2 hB _ _ _ _⟩
theorem IntR.set4 {w : World} {v : Value} {z : Int} {B : Nat} (h : IntR w v z) (hB : NoU w B) (o1 o2 o3 o4 : Nat) (v1 v2 v3 v4 : Value) : IntR ((((w.setCell ⟨B, o1, none⟩ v1).setCell ⟨B, o2, none⟩ v2).setCell ⟨B, o3, none⟩ v3).setCell ⟨B, o4, none⟩ v4) v z := by
  obtain ⟨m, hv, h⟩ := h
  exact ⟨m, hv, h.set4 hB _ _ _ _ _ _ _ _⟩
theorem RatR.form {w : World} {v : Value} {x : Rat} (h : RatR w v x) : ∃ s a l c t b k e, v = .agg #[.bool s, .slice a l c, .bool t, .slice b k e] := by
  obtain ⟨m1, m2, hv, h1, h2⟩ := h
  obtain ⟨a, c, rfl⟩ := h1.form
  obtain ⟨b, e, rfl⟩ := h2.form
  exact ⟨_, a, _, c, _, b, _, e, hv⟩
theorem RatR.set4 {w : World} {v : Value} {x : Rat} {B : Nat} (h : RatR w v x) (hB : NoU w B) (o1 o2 o3 o4 : Nat) (v1 v2 v3 v4 : Value) : RatR ((((w.setCell ⟨B, o1, none⟩ v1).setCell ⟨B, o2, none⟩ v2).setCell ⟨B, o3, none⟩ v3).setCell ⟨B, o4, none⟩ v4) v x := by
  obtain ⟨m1, m2, hv, h1, h2⟩ := h
  exact ⟨m1, m2, hv, h1.set4 hB _ _ _ _ _ _ _ _, h2.set4 hB _ _ _ _ _ _ _ _⟩
theorem RatR.set2 {w : World} {v : Value} {x : Rat} {B : Nat} (h : RatR w v x) (hB : NoU w B) (o1 o2 : Nat) (v1 v2 : Value) : RatR ((w.setCell ⟨B, o1, none⟩ v1).setCell ⟨B, o2, none⟩ v2) v x := by
  obtain ⟨m1, m2, hv, h1, h2⟩ := h
  exact ⟨m1, m2, hv, h1.set2 hB _ _ _ _, h2.set2 hB _ _ _ _⟩
theorem RatR.num {w : World} {x : Rat} {s t : Bool} {m1 m2 : Value} (h : RatR w (.agg #[.bool s, m1, .bool t, m2]) x) : IntR w (.agg #[.bool s, m1]) x.num := by
  obtain ⟨p, q, hv, h1, h2⟩ := h
  simp only [Value.agg.injEq, Array.mk.injEq, List.cons.injEq, Value.bool.injEq, and_true] at hv
  obtain ⟨e1, rfl, e3, rfl⟩ := hv
  exact ⟨_, by rw [e1], h1⟩
theorem RatR.den {w : World} {x : Rat} {s t : Bool} {m1 m2 : Value} (h : RatR w (.agg #[.bool s, m1, .bool t, m2]) x) : IntR w (.agg #[.bool t, m2]) (x.den : Int) := by
  obtain ⟨p, q, hv, h1, h2⟩ := h
  simp only [Value.agg.injEq, Array.mk.injEq, List.cons.injEq, Value.bool.injEq, and_true] at hv
  obtain ⟨e1, rfl, e3, rfl⟩ := hv
  exact ⟨_, by rw [e3, sgB_nat], by simpa using h2⟩
theorem RatR.whole {w : World} {z : Int} {s t : Bool} {m1 m2 : Value} (h1 : IntR w (.agg #[.bool s, m1]) z) (h2 : IntR w (.agg #[.bool t, m2]) 1) : RatR w (.agg #[.bool s, m1, .bool t, m2]) (z : Rat) := by
  obtain ⟨p, hv, h1⟩ := h1
  obtain ⟨q, hv', h2⟩ := h2
  simp only [Value.agg.injEq, Array.mk.injEq, List.cons.injEq, Value.bool.injEq, and_true] at hv hv'
  obtain ⟨e1, rfl⟩ := hv
  obtain ⟨e3, rfl⟩ := hv'
  exact ⟨_, _, by rw [e1, e3]; rfl, h1, h2⟩
theorem ofV (z : Int) (h : z.natAbs < 4294967296) (w : World) : Calls Tryz.prog 19 #[.int .i64 z] w fun e w' => ∃ v, e = .returned v ∧ IntR w' v z ∧ Grow w w' :=
  (of_any z h w).mono fun _ _ ⟨m, he, hm, hg⟩ => ⟨_, he, ⟨m, rfl, hm⟩, hg⟩
theorem normalV (z : Int) (v : Value) (w : World) (h : IntR w v z) : Calls Tryz.prog 48 #[v] w fun e w' => ∃ v', e = .returned v' ∧ IntR w' v' z ∧ Grow w w' := by
  obtain ⟨m, rfl, h⟩ := h
  exact (normal_any z m w h).mono fun _ _ ⟨m, he, hm, hg⟩ => ⟨_, he, ⟨m, rfl, hm⟩, hg⟩
theorem negV (z : Int) (v : Value) (w : World) (h : IntR w v z) : Calls Tryz.prog 39 #[v] w fun e w' => ∃ v', e = .returned v' ∧ IntR w' v' (-z) ∧ Grow w w' := by
  obtain ⟨m, rfl, h⟩ := h
  exact (neg_any z m w h).mono fun _ _ ⟨m, he, hm, hg⟩ => ⟨_, he, ⟨m, rfl, hm⟩, hg⟩
theorem signV (z : Int) (v : Value) (w : World) (h : IntR w v z) : Calls Tryz.prog 21 #[v] w fun e w' => e = .returned (.int .i64 (sgI z)) ∧ Grow w w' := by
  obtain ⟨m, rfl, h⟩ := h
  exact signI_any z m w h
theorem oneV (z : Int) (v : Value) (w : World) (h : IntR w v z) : Calls Tryz.prog 23 #[v] w fun e w' => e = .returned (.bool (decide (z = 1))) ∧ Grow w w' := by
  obtain ⟨m, rfl, h⟩ := h
  exact one_any z m w h
theorem addV (y z : Int) (u v : Value) (hb : (y + z).natAbs < 4294967296) (w : World) (h1 : IntR w u y) (h2 : IntR w v z) : Calls Tryz.prog 24 #[u, v] w fun e w' => ∃ v', e = .returned v' ∧ IntR w' v' (y + z) ∧ Grow w w' := by
  obtain ⟨m1, rfl, h1⟩ := h1
  obtain ⟨m2, rfl, h2⟩ := h2
  exact (addI_any y z m1 m2 hb w h1 h2).mono fun _ _ ⟨m, he, hm, hg⟩ => ⟨_, he, ⟨m, rfl, hm⟩, hg⟩
theorem mulV (y z : Int) (u v : Value) (hb : (y * z).natAbs < 4294967296) (w : World) (h1 : IntR w u y) (h2 : IntR w v z) : Calls Tryz.prog 25 #[u, v] w fun e w' => ∃ v', e = .returned v' ∧ IntR w' v' (y * z) ∧ Grow w w' := by
  obtain ⟨m1, rfl, h1⟩ := h1
  obtain ⟨m2, rfl, h2⟩ := h2
  exact (mul_any y z m1 m2 hb w h1 h2).mono fun _ _ ⟨m, he, hm, hg⟩ => ⟨_, he, ⟨m, rfl, hm⟩, hg⟩
theorem overV (y z : Int) (u v : Value) (w : World) (h1 : IntR w u y) (h2 : IntR w v z) : Calls Tryz.prog 26 #[u, v] w fun e w' => ∃ v', e = .returned v' ∧ RatR w' v' (Rat.divInt y z) ∧ Grow w w' := by
  obtain ⟨m1, rfl, h1⟩ := h1
  obtain ⟨m2, rfl, h2⟩ := h2
  exact over_any y z m1 m2 w h1 h2
/-- Fraction identities with the fields spelled out. -/
theorem divInt_num_den (x : Rat) : Rat.divInt x.num (x.den : Int) = x := Rat.num_divInt_den x
theorem divInt_mulQ (x y : Rat) : Rat.divInt (x.num * y.num) ((x.den : Int) * (y.den : Int)) = x * y := by
  rw [← Rat.divInt_mul_divInt, Rat.num_divInt_den, Rat.num_divInt_den]
theorem divInt_addQ (x y : Rat) : Rat.divInt (x.num * (y.den : Int) + y.num * (x.den : Int)) ((x.den : Int) * (y.den : Int)) = x + y := by
  have h1 : (x.den : Int) ≠ 0 := by have := x.den_nz; omega
  have h2 : (y.den : Int) ≠ 0 := by have := y.den_nz; omega
  rw [← Rat.divInt_add_divInt _ _ h1 h2, Rat.num_divInt_den, Rat.num_divInt_den]
theorem divInt_negQ (x : Rat) : Rat.divInt (-x.num) (x.den : Int) = -x := by
  rw [← Rat.neg_divInt, Rat.num_divInt_den]
theorem divInt_quoQ (x y : Rat) : Rat.divInt (x.num * (y.den : Int)) ((x.den : Int) * y.num) = x / y := by
  rw [← Rat.divInt_mul_divInt, Rat.num_divInt_den, ← Rat.inv_def]; rfl
end Go.Proofs.YtbpkfcohbefphaaGreatDoor
