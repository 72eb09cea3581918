/- Lemmas, plain laws and walks that the statement LwBinaryTheta leans on (texts QfB), conditions as each theorem says. -/
import Derived.Test.YtbpkfcohbefphaaTopBinaryThetaG08
import Derived.Test.YtbpkfcohbefphaaTopBinaryThetaG15

/- Walk over quadratic forms: reduce. -/
namespace Go.Proofs.Ytbpkfcohbefphaa
open Go Go.RowKit

/-- A block of three cells. -/
structure O3 (u : World) (B : Nat) (v0 v1 v2 : Value) : Prop where
  c0 : u.cell? ⟨B, 0, none⟩ = some v0
  c1 : u.cell? ⟨B, 1, none⟩ = some v1
  c2 : u.cell? ⟨B, 2, none⟩ = some v2
  fr : ∀ o, u.frozen? ⟨B, o, none⟩ = false
  lt : B < u.heap.size
/-- A block of four cells. -/
structure O4 (u : World) (B : Nat) (v0 v1 v2 v3 : Value) : Prop where
  c0 : u.cell? ⟨B, 0, none⟩ = some v0
  c1 : u.cell? ⟨B, 1, none⟩ = some v1
  c2 : u.cell? ⟨B, 2, none⟩ = some v2
  c3 : u.cell? ⟨B, 3, none⟩ = some v3
  fr : ∀ o, u.frozen? ⟨B, o, none⟩ = false
  lt : B < u.heap.size
section
variable {u u' : World} {B : Nat} {v0 v1 v2 v3 : Value}
theorem O3.grow (h : O3 u B v0 v1 v2) (hg : Grow u u') : O3 u' B v0 v1 v2 :=
  ⟨(hg.cells _ _ h.lt).trans h.c0, (hg.cells _ _ h.lt).trans h.c1, (hg.cells _ _ h.lt).trans h.c2, fun o => (hg.frees _ _ h.lt).trans (h.fr o), Nat.lt_of_lt_of_le h.lt hg.size⟩
theorem O4.grow (h : O4 u B v0 v1 v2 v3) (hg : Grow u u') : O4 u' B v0 v1 v2 v3 :=
  ⟨(hg.cells _ _ h.lt).trans h.c0, (hg.cells _ _ h.lt).trans h.c1, (hg.cells _ _ h.lt).trans h.c2, (hg.cells _ _ h.lt).trans h.c3, fun o => (hg.frees _ _ h.lt).trans (h.fr o), Nat.lt_of_lt_of_le h.lt hg.size⟩
theorem O3.off (h : O3 u B v0 v1 v2) {b : Nat} (hb : b ≠ B) (o : Nat) (v : Value) : O3 (u.setCell ⟨b, o, none⟩ v) B v0 v1 v2 := by
  have hf : ∀ i, (u.setCell ⟨b, o, none⟩ v).cell? ⟨B, i, none⟩ = u.cell? ⟨B, i, none⟩ := fun i => World.cell?_setCell_other _ _ _ _ (by simp; try omega)
  exact ⟨(hf 0).trans h.c0, (hf 1).trans h.c1, (hf 2).trans h.c2, fun i => by simpa using h.fr i, by simpa [World.setCell] using h.lt⟩
theorem O4.off (h : O4 u B v0 v1 v2 v3) {b : Nat} (hb : b ≠ B) (o : Nat) (v : Value) : O4 (u.setCell ⟨b, o, none⟩ v) B v0 v1 v2 v3 := by
  have hf : ∀ i, (u.setCell ⟨b, o, none⟩ v).cell? ⟨B, i, none⟩ = u.cell? ⟨B, i, none⟩ := fun i => World.cell?_setCell_other _ _ _ _ (by simp; try omega)
  exact ⟨(hf 0).trans h.c0, (hf 1).trans h.c1, (hf 2).trans h.c2, (hf 3).trans h.c3, fun i => by simpa using h.fr i, by simpa [World.setCell] using h.lt⟩
theorem O3.set0 (h : O3 u B v0 v1 v2) (v : Value) : O3 (u.setCell ⟨B, 0, none⟩ v) B v v1 v2 :=
  ⟨World.cell?_setCell_same _ _ _ h.c0, (World.cell?_setCell_other _ _ _ _ (by simp)).trans h.c1, (World.cell?_setCell_other _ _ _ _ (by simp)).trans h.c2, fun i => by simpa using h.fr i, by simpa [World.setCell] using h.lt⟩
theorem O3.set1 (h : O3 u B v0 v1 v2) (v : Value) : O3 (u.setCell ⟨B, 1, none⟩ v) B v0 v v2 :=
  ⟨(World.cell?_setCell_other _ _ _ _ (by simp)).trans h.c0, World.cell?_setCell_same _ _ _ h.c1, (World.cell?_setCell_other _ _ _ _ (by simp)).trans h.c2, fun i => by simpa using h.fr i, by simpa [World.setCell] using h.lt⟩
theorem O3.set2 (h : O3 u B v0 v1 v2) (v : Value) : O3 (u.setCell ⟨B, 2, none⟩ v) B v0 v1 v :=
  ⟨(World.cell?_setCell_other _ _ _ _ (by simp)).trans h.c0, (World.cell?_setCell_other _ _ _ _ (by simp)).trans h.c1, World.cell?_setCell_same _ _ _ h.c2, fun i => by simpa using h.fr i, by simpa [World.setCell] using h.lt⟩
theorem O4.set0 (h : O4 u B v0 v1 v2 v3) (v : Value) : O4 (u.setCell ⟨B, 0, none⟩ v) B v v1 v2 v3 :=
  ⟨World.cell?_setCell_same _ _ _ h.c0, (World.cell?_setCell_other _ _ _ _ (by simp)).trans h.c1, (World.cell?_setCell_other _ _ _ _ (by simp)).trans h.c2, (World.cell?_setCell_other _ _ _ _ (by simp)).trans h.c3, fun i => by simpa using h.fr i, by simpa [World.setCell] using h.lt⟩
theorem O4.set1 (h : O4 u B v0 v1 v2 v3) (v : Value) : O4 (u.setCell ⟨B, 1, none⟩ v) B v0 v v2 v3 :=
  ⟨(World.cell?_setCell_other _ _ _ _ (by simp)).trans h.c0, World.cell?_setCell_same _ _ _ h.c1, (World.cell?_setCell_other _ _ _ _ (by simp)).trans h.c2, (World.cell?_setCell_other _ _ _ _ (by simp)).trans h.c3, fun i => by simpa using h.fr i, by simpa [World.setCell] using h.lt⟩
theorem O4.set2 (h : O4 u B v0 v1 v2 v3) (v : Value) : O4 (u.setCell ⟨B, 2, none⟩ v) B v0 v1 v v3 :=
  ⟨(World.cell?_setCell_other _ _ _ _ (by simp)).trans h.c0, (World.cell?_setCell_other _ _ _ _ (by simp)).trans h.c1, World.cell?_setCell_same _ _ _ h.c2, (World.cell?_setCell_other _ _ _ _ (by simp)).trans h.c3, fun i => by simpa using h.fr i, by simpa [World.setCell] using h.lt⟩
theorem O4.set3 (h : O4 u B v0 v1 v2 v3) (v : Value) : O4 (u.setCell ⟨B, 3, none⟩ v) B v0 v1 v2 v :=
  ⟨(World.cell?_setCell_other _ _ _ _ (by simp)).trans h.c0, (World.cell?_setCell_other _ _ _ _ (by simp)).trans h.c1, (World.cell?_setCell_other _ _ _ _ (by simp)).trans h.c2, World.cell?_setCell_same _ _ _ h.c3, fun i => by simpa using h.fr i, by simpa [World.setCell] using h.lt⟩
theorem O3.lay {w W : World} {t : TypeId} (hW : W = w.alloc (.cells #[v0, v1, v2] t)) : O3 W w.heap.size v0 v1 v2 := by
  obtain ⟨h0, h1, h2, h3, h4⟩ := ak3 hW W (Grow.refl _)
  exact ⟨h0, h1, h2, h3, h4⟩
theorem O4.lay {w W : World} {t : TypeId} (hW : W = w.alloc (.cells #[v0, v1, v2, v3] t)) : O4 W w.heap.size v0 v1 v2 v3 := by
  obtain ⟨h0, h1, h2, h3, h4, h5⟩ := ak4 hW W (Grow.refl _)
  exact ⟨h0, h1, h2, h3, h4, h5⟩
end
/-- The blocks of reduce. -/
structure RdS (w u : World) (A B C a b c d : Int) : Prop where
  f : O3 u w.heap.size (.int .i64 A) (.int .i64 B) (.int .i64 C)
  r1 : O3 u (w.heap.size + 1) (.int .i64 0) (.int .i64 0) (.int .i64 0)
  r2 : O4 u (w.heap.size + 1 + 1) (.int .i64 0) (.int .i64 0) (.int .i64 0) (.int .i64 0)
  m : O4 u (w.heap.size + 1 + 1 + 1) (.int .i64 a) (.int .i64 b) (.int .i64 c) (.int .i64 d)
  grow : Grow w u
theorem Cnt.unshift {A B C n : Int} {k : Nat} (t : Int) (h : Cnt A (B + 2 * A * t) (C + t * (A * t + B)) n k) : Cnt A B C n k := by
  have h1 := h.shift (-t)
  rwa [show B + 2 * A * t + 2 * A * -t = B by grind, show C + t * (A * t + B) + -t * (A * -t + (B + 2 * A * t)) = C by grind] at h1
theorem Cnt.unswap {A B C n : Int} {k : Nat} (h : Cnt C (-B) A n k) : Cnt A B C n k := by
  have h1 := h.swap
  rwa [Int.neg_neg] at h1
/-- The bounds while reduce walks. -/
structure QI (A B C D : Int) : Prop where
  a0 : 0 < A
  a1 : A ≤ 60
  b1 : B.natAbs ≤ 120
  c0 : 0 < C
  c1 : C ≤ 60
  d : 4 * A * C - B * B = D
  d0 : 0 < D
theorem QI.dle {A B C D : Int} (h : QI A B C D) : D ≤ 14400 := by
  obtain ⟨a0, a1, b1, c0, c1, hd, d0⟩ := h
  have h1 := sq_nonneg B
  have h2 : A * C ≤ 60 * 60 := Int.le_trans (Int.mul_le_mul_of_nonneg_left c1 (by omega)) (Int.mul_le_mul_of_nonneg_right a1 (by omega))
  have h3 : 4 * A * C = 4 * (A * C) := by grind
  omega
/-- What the shift makes. -/
structure QJ (A B C D : Int) : Prop where
  a0 : 0 < A
  a1 : A ≤ 60
  b0 : -A < B
  b1 : B ≤ A
  c0 : 0 < C
  c1 : C ≤ 4500
  d : 4 * A * C - B * B = D
theorem QI.step {A B C D : Int} (h : QI A B C D) : QJ A (B + 2 * A * ((A - B) / (2 * A))) (C + (A - B) / (2 * A) * (A * ((A - B) / (2 * A)) + B)) D := by
  have hdl := h.dle
  obtain ⟨a0, a1, b1, c0, c1, hd, d0⟩ := h
  obtain ⟨k, hk⟩ : ∃ k, (A - B) / (2 * A) = k := ⟨_, rfl⟩
  have h1 := Int.mul_ediv_add_emod (A - B) (2 * A)
  have h2 := Int.emod_nonneg (A - B) (show 2 * A ≠ 0 by omega)
  have h3 := Int.emod_lt_of_pos (A - B) (show 0 < 2 * A by omega)
  rw [hk] at h1 ⊢
  obtain ⟨p, hp⟩ : ∃ p, 2 * A * k = p := ⟨_, rfl⟩
  rw [hp] at h1
  have hb0 : -A < B + p := by omega
  have hb1 : B + p ≤ A := by omega
  have hD : 4 * A * (C + k * (A * k + B)) - (B + 2 * A * k) * (B + 2 * A * k) = D := by rw [← hd]; grind
  rw [hp] at hD ⊢
  obtain ⟨C1, hC1⟩ : ∃ C1, C + k * (A * k + B) = C1 := ⟨_, rfl⟩
  rw [hC1] at hD ⊢
  obtain ⟨B1, hB1⟩ : ∃ B1, B + p = B1 := ⟨_, rfl⟩
  rw [hB1] at hD hb0 hb1 ⊢
  have hs0 := sq_nonneg B1
  have hs1 : B1 * B1 ≤ 3600 := by
    have : (B1 * B1).natAbs ≤ 3600 := abs_mul_le (a := 60) (b := 60) (by omega) (by omega) (by decide)
    omega
  have hc0 : 0 < C1 := by
    rcases Int.lt_or_le 0 C1 with h | h
    · exact h
    · have := Int.mul_nonpos_of_nonneg_of_nonpos (show 0 ≤ 4 * A by omega) h
      omega
  have hc1 : C1 ≤ 4500 := by
    have : 4 * C1 ≤ 4 * A * C1 := Int.mul_le_mul_of_nonneg_right (by omega) (by omega)
    omega
  exact ⟨a0, a1, hb0, hb1, hc0, hc1, hD⟩
section
variable {w u : World} {A B C a b c d : Int}
theorem RdS.go {u' : World} (h : RdS w u A B C a b c d) (hg : Grow u u') : RdS w u' A B C a b c d := ⟨h.f.grow hg, h.r1.grow hg, h.r2.grow hg, h.m.grow hg, h.grow.trans hg⟩
theorem RdS.f0 (h : RdS w u A B C a b c d) (x : Int) : RdS w (u.setCell ⟨w.heap.size, 0, none⟩ (.int .i64 x)) x B C a b c d := ⟨h.f.set0 _, h.r1.off (by omega) _ _, h.r2.off (by omega) _ _, h.m.off (by omega) _ _, h.grow.setCell (Nat.le_refl _) _⟩
theorem RdS.f1 (h : RdS w u A B C a b c d) (x : Int) : RdS w (u.setCell ⟨w.heap.size, 1, none⟩ (.int .i64 x)) A x C a b c d := ⟨h.f.set1 _, h.r1.off (by omega) _ _, h.r2.off (by omega) _ _, h.m.off (by omega) _ _, h.grow.setCell (Nat.le_refl _) _⟩
theorem RdS.f2 (h : RdS w u A B C a b c d) (x : Int) : RdS w (u.setCell ⟨w.heap.size, 2, none⟩ (.int .i64 x)) A B x a b c d := ⟨h.f.set2 _, h.r1.off (by omega) _ _, h.r2.off (by omega) _ _, h.m.off (by omega) _ _, h.grow.setCell (Nat.le_refl _) _⟩
theorem RdS.m0 (h : RdS w u A B C a b c d) (x : Int) : RdS w (u.setCell ⟨w.heap.size + 1 + 1 + 1, 0, none⟩ (.int .i64 x)) A B C x b c d := ⟨h.f.off (by omega) _ _, h.r1.off (by omega) _ _, h.r2.off (by omega) _ _, h.m.set0 _, h.grow.setCell (by show w.heap.size ≤ w.heap.size + 1 + 1 + 1; omega) _⟩
theorem RdS.m1 (h : RdS w u A B C a b c d) (x : Int) : RdS w (u.setCell ⟨w.heap.size + 1 + 1 + 1, 1, none⟩ (.int .i64 x)) A B C a x c d := ⟨h.f.off (by omega) _ _, h.r1.off (by omega) _ _, h.r2.off (by omega) _ _, h.m.set1 _, h.grow.setCell (by show w.heap.size ≤ w.heap.size + 1 + 1 + 1; omega) _⟩
theorem RdS.m2 (h : RdS w u A B C a b c d) (x : Int) : RdS w (u.setCell ⟨w.heap.size + 1 + 1 + 1, 2, none⟩ (.int .i64 x)) A B C a b x d := ⟨h.f.off (by omega) _ _, h.r1.off (by omega) _ _, h.r2.off (by omega) _ _, h.m.set2 _, h.grow.setCell (by show w.heap.size ≤ w.heap.size + 1 + 1 + 1; omega) _⟩
theorem RdS.m3 (h : RdS w u A B C a b c d) (x : Int) : RdS w (u.setCell ⟨w.heap.size + 1 + 1 + 1, 3, none⟩ (.int .i64 x)) A B C a b c x := ⟨h.f.off (by omega) _ _, h.r1.off (by omega) _ _, h.r2.off (by omega) _ _, h.m.set3 _, h.grow.setCell (by show w.heap.size ≤ w.heap.size + 1 + 1 + 1; omega) _⟩
end
theorem results_cc {fn : Func} {p q : Tmp} {ty ty' : TypeId} (h : fn.results = #[.cell p ty, .cell q ty']) (tmps : Array Value) (P : Program) (w : World) :
    (results fn tmps).run P w = ((asAddr (tmps.getD p undef)).run P w).andThen fun a w₁ => ((loadVar ty a).run P w₁).andThen fun x w₂ => ((asAddr (tmps.getD q undef)).run P w₂).andThen fun b w₃ => ((loadVar ty' b).run P w₃).andThen fun y w₄ => .ok (.tuple #[x, y]) w₄ := by
  simp [results, h, Sem.run_bind, Result.andThen]
set_option maxRecDepth 20000 in
set_option maxHeartbeats 8000000 in
theorem qreduceQ (A0 B0 C0 D : Int) (h0 : QI A0 B0 C0 D) (w : World) :
    Calls Try.prog 20 #[.agg #[.int .i64 A0, .int .i64 B0, .int .i64 C0]] w fun e w' =>
    ∃ A B C a b c d : Int, e = .returned (.tuple #[.agg #[.int .i64 A, .int .i64 B, .int .i64 C], .agg #[.int .i64 a, .int .i64 b, .int .i64 c, .int .i64 d]]) ∧ QJ A B C D ∧ (∀ n k, Cnt A B C n k → Cnt A0 B0 C0 n k) ∧ Grow w w' := by
  obtain ⟨W1, hW1⟩ : ∃ W1 : World, W1 = w.alloc (.cells #[.int .i64 A0, .int .i64 B0, .int .i64 C0] 23) := ⟨_, rfl⟩
  obtain ⟨W2, hW2⟩ : ∃ W2 : World, W2 = W1.alloc (.cells #[.int .i64 0, .int .i64 0, .int .i64 0] 23) := ⟨_, rfl⟩
  obtain ⟨W3, hW3⟩ : ∃ W3 : World, W3 = W2.alloc (.cells #[.int .i64 0, .int .i64 0, .int .i64 0, .int .i64 0] 58) := ⟨_, rfl⟩
  obtain ⟨W4, hW4⟩ : ∃ W4 : World, W4 = W3.alloc (.cells #[.int .i64 1, .int .i64 0, .int .i64 0, .int .i64 1] 58) := ⟨_, rfl⟩
  have hz1 : W1.heap.size = w.heap.size + 1 := by rw [hW1]; simp
  have hz2 : W2.heap.size = w.heap.size + 1 + 1 := by rw [hW2]; simp [hz1]
  have hz3 : W3.heap.size = w.heap.size + 1 + 1 + 1 := by rw [hW3]; simp [hz2]
  have HS : Hid (RdS w W4 A0 B0 C0 1 0 0 1) := Lib.hid ⟨((O3.lay hW1).grow (ag hW2)).grow ((ag hW3).trans (ag hW4)), by have := ((O3.lay hW2).grow (ag hW3)).grow (ag hW4); rwa [hz1] at this, by have := (O4.lay hW3).grow (ag hW4); rwa [hz2] at this, by have := O4.lay hW4; rwa [hz3] at this, ((ag hW1).trans (ag hW2)).trans ((ag hW3).trans (ag hW4))⟩
  have HW1 := Lib.hid hW1
  have HW2 := Lib.hid hW2
  have HW3 := Lib.hid hW3
  have HW4 := Lib.hid hW4
  have HQ := Lib.hid h0
  clear hW1 hW2 hW3 hW4 hz1 hz2 hz3 h0
  go_enter Try.func20, Try.ntmps20
  go_upto_region 2 with fail
  rw [← HW1.out, ← HW2.out, ← HW3.out, ← HW4.out]
  go_wp2_with fail
  go_loopg [] (2 * A0.toNat + (if 0 ≤ B0 ∧ B0 ≤ A0 then 0 else 1)) (fun gk wr => ∃ A B C a b c d : Int, Hid (RdS w wr A B C a b c d) ∧ Hid (QI A B C D) ∧ Hid (∀ n k, Cnt A B C n k → Cnt A0 B0 C0 n k) ∧ Hid (gk = 2 * A.toNat + (if 0 ≤ B ∧ B ≤ A then 0 else 1)))
  case atStart => exact ⟨A0, B0, C0, 1, 0, 0, 1, HS, HQ, Lib.hid (fun _ _ h => h), Lib.hid rfl⟩
  case round =>
    clear HS HQ
    obtain ⟨A, B, C, a, b, c, d, HS, HQ, HC, HGK⟩ := hrel
    have HSJ := Lib.hid HQ.out.step
    obtain ⟨a0, a1, b1, c0, c1, -, -⟩ := HQ.out
    have hpa : 0 < 2 * A := by omega
    have hab : (A - B).natAbs ≤ 180 := by omega
    have h2a : (2 * A).natAbs ≤ 120 := by omega
    have FL := Lib.hid (fun u => qfloorQ (A - B) (2 * A) (by omega) hpa (by omega) u)
    have HCK := Lib.hid (fun (n : Int) (k : Nat) (h : Cnt A (B + 2 * A * ((A - B) / (2 * A))) (C + (A - B) / (2 * A) * (A * ((A - B) / (2 * A)) + B)) n k) => HC.out n k (Cnt.unshift _ h))
    have hk0 : 0 ≤ B → B ≤ A → (A - B) / (2 * A) = 0 := fun h1 h2 => Int.ediv_eq_zero_of_lt (by omega) (by omega)
    have hkb : ((A - B) / (2 * A)).natAbs ≤ 180 := Nat.le_trans (Int.natAbs_ediv_le_natAbs _ _) hab
    obtain ⟨k, hk⟩ : ∃ k, (A - B) / (2 * A) = k := ⟨_, rfl⟩
    rw [hk] at HSJ FL HCK hk0 hkb
    have e1 : (A * k).natAbs ≤ 10800 := abs_mul_le (a := 60) (b := 180) (by omega) hkb (by decide)
    have e2 : (A * k + B).natAbs ≤ 10920 := by omega
    have e3 : (k * (A * k + B)).natAbs ≤ 1965600 := abs_mul_le hkb e2 (by decide)
    have e4 : (C + k * (A * k + B)).natAbs ≤ 2000000 := by omega
    have e5 : (2 * A * k).natAbs ≤ 21600 := abs_mul_le h2a hkb (by decide)
    have e6 : (B + 2 * A * k).natAbs ≤ 30000 := by omega
    have y1 := w64 hab (by decide)
    have z1 := w64' hab (by decide)
    have y2 := w64 h2a (by decide)
    have z2 := w64' h2a (by decide)
    have y3 := w64 e1 (by decide)
    have z3 := w64' e1 (by decide)
    have y4 := w64 e2 (by decide)
    have z4 := w64' e2 (by decide)
    have y5 := w64 e3 (by decide)
    have z5 := w64' e3 (by decide)
    have y6 := w64 e4 (by decide)
    have z6 := w64' e4 (by decide)
    have y7 := w64 e5 (by decide)
    have z7 := w64' e5 (by decide)
    have y8 := w64 e6 (by decide)
    have z8 := w64' e6 (by decide)
    have HK0 := Lib.hid hk0
    clear hk hk0 hkb e1 e2 e3 e4 e5 e6 hab h2a hpa a0 a1 b1 c0 c1 HC
    obtain ⟨⟨f0, f1, f2, f3, f4⟩, -, -, ⟨m0, m1, m2, m3, m4, m5⟩, -⟩ := HS.out
    go_upto_region 3 with (go_at_call 39; (with_reducible refine (FL.out _).mono ?_); (rintro e u5 ⟨rfl, rfl⟩))
    go_cut [] (fun wx => Hid (RdS w wx A B (C + k * (A * k + B)) a b c d))
    case first =>
      go_wp2_with fail
      go_meet
      exact Lib.hid (HS.out.f2 _)
    case rest =>
      obtain ⟨w3, rfl⟩ : ∃ w3, w3 = wc := ⟨_, rfl⟩
      have HS3 := Lib.hid hcut.out
      clear hcut HS f0 f1 f2 f3 f4 m0 m1 m2 m3 m4 m5
      obtain ⟨C1, hC1⟩ : ∃ C1, C + k * (A * k + B) = C1 := ⟨_, rfl⟩
      rw [hC1] at HS3 HSJ HCK
      clear hC1 y6 z6 y3 z3 y4 z4 y5 z5 y1 z1
      obtain ⟨⟨f0, f1, f2, f3, f4⟩, -, -, ⟨m0, m1, m2, m3, m4, m5⟩, -⟩ := HS3.out
      go_upto_region 4 with fail
      go_cut [] (fun wx => Hid (RdS w wx A (B + 2 * A * k) C1 a b c d))
      case first =>
        go_wp2_with fail
        go_meet
        exact Lib.hid (HS3.out.f1 _)
      case rest =>
        obtain ⟨w4, rfl⟩ : ∃ w4, w4 = wc := ⟨_, rfl⟩
        have HS4 := Lib.hid hcut.out
        clear hcut HS3 f0 f1 f2 f3 f4 m0 m1 m2 m3 m4 m5
        obtain ⟨B1, hB1⟩ : ∃ B1, B + 2 * A * k = B1 := ⟨_, rfl⟩
        have hb0 : k = 0 → B1 = B := fun h => by rw [← hB1, h]; omega
        have HB0 := Lib.hid hb0
        rw [hB1] at HS4 HSJ HCK
        clear hB1 hb0 y8 z8 y7 z7 y2 z2
        obtain ⟨⟨f0, f1, f2, f3, f4⟩, -, -, ⟨m0, m1, m2, m3, m4, m5⟩, -⟩ := HS4.out
        go_upto_region 5 with fail
        go_cut [] (fun wx => ∃ b d : Int, Hid (RdS w wx A B1 C1 a b c d))
        case first =>
          go_wp2_with fail
          go_meet
          exact ⟨_, _, Lib.hid ((HS4.out.m1 _).m3 _)⟩
        case rest =>
          obtain ⟨w5, rfl⟩ : ∃ w5, w5 = wc := ⟨_, rfl⟩
          obtain ⟨b, d, HS5⟩ := hcut
          clear HS4 f0 f1 f2 f3 f4 m0 m1 m2 m3 m4 m5
          obtain ⟨a0, a1, b0, b1, c0, c1, hd⟩ := HSJ.out
          obtain ⟨⟨f0, f1, f2, f3, f4⟩, -, -, ⟨m0, m1, m2, m3, m4, m5⟩, -⟩ := HS5.out
          by_cases hst : A < C1 ∨ (A = C1 ∧ 0 ≤ B1)
          · have hpick : A < C1 ∨ ¬ A < C1 := by omega
            go_upto_region 6 with fail
            go_cut [70] (fun t70 wx => t70 = .bool true ∧ wx = w5)
            case first =>
              rcases hst with h | ⟨h, h'⟩
              · have x1 : decide (A < C1) = true := by simp; omega
                go_wp2_with fail
                go_meet
                exact ⟨rfl, rfl⟩
              · subst h
                have x1 : decide (A < A) = false := by simp
                have x2 : decide (B1 ≥ 0) = true := by simp; omega
                go_wp2_with fail
                go_meet
                exact ⟨rfl, rfl⟩
            case rest =>
              obtain ⟨rfl, rfl⟩ := hcut
              clear hpick hst
              clear f0 f1 f2 f3 f4 m0 m1 m2 m3 m4 m5
              obtain ⟨p0, p1, p2, p3, p4⟩ := HS5.out.r1
              obtain ⟨q0, q1, q2, q3, q4, q5⟩ := HS5.out.r2
              have nb1 : w.heap.size + 1 ≠ w.heap.size := by omega
              have nb2 : w.heap.size + 1 ≠ w.heap.size + 1 + 1 + 1 := by omega
              go_upto_region 7 with fail
              refine region_held (id := 7) (fun u => O3 u w.heap.size (.int .i64 A) (.int .i64 B1) (.int .i64 C1) ∧ O4 u (w.heap.size + 1 + 1 + 1) (.int .i64 a) (.int .i64 b) (.int .i64 c) (.int .i64 d)) [0, 1, 2, 3] (kdL [1, 1, 2, 3]) (by kernel_rfl) (by kernel_rfl) (fun t ht => kdL_lt _ t ht) ?hS0p ?_
              case hS0p => (first | exact ⟨HS5.out.f.grow ((Grow.refl _).drew), HS5.out.m.grow ((Grow.refl _).drew)⟩ | exact ⟨(((HS5.out.f.off nb1 _ _).off nb1 _ _).off nb1 _ _).grow ((Grow.refl _).drew), (((HS5.out.m.off nb2 _ _).off nb2 _ _).off nb2 _ _).grow ((Grow.refl _).drew)⟩)
              refine held_read (v := ?vp0) rfl rfl (Or.inl ⟨by rfl, ?hyp0⟩) ?_
              case hyp0 => (intro u hu; obtain ⟨⟨f0, f1, f2, f3, f4⟩, ⟨m0, m1, m2, m3, m4, m5⟩⟩ := hu; go_simp; (try with_reducible rfl))
              (try simp only [Act.put, List.setIfInBounds_toArray])
              refine held_read (v := ?vp1) rfl rfl (Or.inl ⟨by rfl, ?hyp1⟩) ?_
              case hyp1 => (intro u hu; obtain ⟨⟨f0, f1, f2, f3, f4⟩, ⟨m0, m1, m2, m3, m4, m5⟩⟩ := hu; go_simp; (try with_reducible rfl))
              (try simp only [Act.put])
              refine held_op rfl rfl (fun K hK => ?_)
              go_simp
              refine hK.out _ _ ?hSp2 ?_
              case hSp2 => (first | exact ⟨HS5.out.f.grow ((Grow.refl _).drew), HS5.out.m.grow ((Grow.refl _).drew)⟩ | exact ⟨(((HS5.out.f.off nb1 _ _).off nb1 _ _).off nb1 _ _).grow ((Grow.refl _).drew), (((HS5.out.m.off nb2 _ _).off nb2 _ _).off nb2 _ _).grow ((Grow.refl _).drew)⟩)
              clear hK K
              (try simp only [Act.put])
              refine held_last rfl rfl (fun K hK => ?_)
              go_simp
              refine hK.out _ _ ?_
              clear hK K
              (try simp only [Act.put])
              refine held_done ?_
              clear nb1 nb2
              clear p0 p1 p2 p3 p4 q0 q1 q2 q3 q4 q5
              have hS6 := HS5.out
              have g1 := (((((((hS6.r1.set0 (.int .i64 A)).set1 (.int .i64 B1)).set2 (.int .i64 C1)).off (b := w.heap.size + 1 + 1) (by omega) 0 (.int .i64 a)).off (b := w.heap.size + 1 + 1) (by omega) 1 (.int .i64 b)).off (b := w.heap.size + 1 + 1) (by omega) 2 (.int .i64 c)).off (b := w.heap.size + 1 + 1) (by omega) 3 (.int .i64 d))
              have g2 := (((((((hS6.r2.off (b := w.heap.size + 1) (by omega) 0 (.int .i64 A)).off (b := w.heap.size + 1) (by omega) 1 (.int .i64 B1)).off (b := w.heap.size + 1) (by omega) 2 (.int .i64 C1)).set0 (.int .i64 a)).set1 (.int .i64 b)).set2 (.int .i64 c)).set3 (.int .i64 d))
              have g3 : Grow w ((((((((wc.setCell ⟨w.heap.size + 1, 0, none⟩ (.int .i64 A)).setCell ⟨w.heap.size + 1, 1, none⟩ (.int .i64 B1)).setCell ⟨w.heap.size + 1, 2, none⟩ (.int .i64 C1)).setCell ⟨w.heap.size + 1 + 1, 0, none⟩ (.int .i64 a)).setCell ⟨w.heap.size + 1 + 1, 1, none⟩ (.int .i64 b)).setCell ⟨w.heap.size + 1 + 1, 2, none⟩ (.int .i64 c)).setCell ⟨w.heap.size + 1 + 1, 3, none⟩ (.int .i64 d))) := by
                have h9 := hS6.grow
                exact ((((((h9.setCell (by show w.heap.size ≤ w.heap.size + 1; omega) _).setCell (by show w.heap.size ≤ w.heap.size + 1; omega) _).setCell (by show w.heap.size ≤ w.heap.size + 1; omega) _).setCell (by show w.heap.size ≤ w.heap.size + 1 + 1; omega) _).setCell (by show w.heap.size ≤ w.heap.size + 1 + 1; omega) _).setCell (by show w.heap.size ≤ w.heap.size + 1 + 1; omega) _).setCell (by show w.heap.size ≤ w.heap.size + 1 + 1; omega) _
              obtain ⟨w9, hw9⟩ : ∃ w9, ((((((((wc.setCell ⟨w.heap.size + 1, 0, none⟩ (.int .i64 A)).setCell ⟨w.heap.size + 1, 1, none⟩ (.int .i64 B1)).setCell ⟨w.heap.size + 1, 2, none⟩ (.int .i64 C1)).setCell ⟨w.heap.size + 1 + 1, 0, none⟩ (.int .i64 a)).setCell ⟨w.heap.size + 1 + 1, 1, none⟩ (.int .i64 b)).setCell ⟨w.heap.size + 1 + 1, 2, none⟩ (.int .i64 c)).setCell ⟨w.heap.size + 1 + 1, 3, none⟩ (.int .i64 d))) = w9 := ⟨_, rfl⟩
              rw [hw9] at g1 g2 g3
              rw [hw9]
              clear hS6 hw9
              obtain ⟨p0, p1, p2, p3, p4⟩ := g1
              obtain ⟨q0, q1, q2, q3, q4, q5⟩ := g2
              have hg9 : Grow w w9.drew := g3.drew
              go_wp2_with fail
              exact bodyPost_ret (v := .tuple #[.agg #[.int .i64 A, .int .i64 B1, .int .i64 C1], .agg #[.int .i64 a, .int .i64 b, .int .i64 c, .int .i64 d]]) (by rw [results_cc rfl]; go_simp) rfl ⟨A, B1, C1, a, b, c, d, rfl, HSJ.out, HCK.out, hg9⟩
          · have x1 : decide (A < C1) = false := by simp; omega
            have hCA : C1 ≤ A := by omega
            have hneg : A = C1 → B1 < 0 := by omega
            have y1 := w64 (c := 60) (show (-B1).natAbs ≤ 60 by omega) (by decide)
            have z1 := w64' (c := 60) (show (-B1).natAbs ≤ 60 by omega) (by decide)
            have HQ2 : Hid (QI C1 (-B1) A D) := Lib.hid ⟨c0, by omega, by omega, a0, a1, by rw [← hd]; grind, HQ.out.d0⟩
            have HCS := Lib.hid (fun (n : Int) (j : Nat) (h : Cnt C1 (-B1) A n j) => HCK.out n j h.unswap)
            have hms : 2 * C1.toNat + (if 0 ≤ -B1 ∧ -B1 ≤ C1 then 0 else 1) < gk := by
              rw [HGK.out]
              by_cases h : C1 = A
              · have h1 : B1 < 0 := hneg h.symm
                have h2 : ¬ (0 ≤ B ∧ B ≤ A) := fun hb => by
                  have := HB0.out (HK0.out hb.1 hb.2)
                  omega
                rw [if_neg h2, if_pos (by omega)]
                omega
              · have : (if 0 ≤ -B1 ∧ -B1 ≤ C1 then 0 else 1) ≤ 1 := by split <;> omega
                omega
            have HMS := Lib.hid hms
            clear hms HGK
            go_upto_region 6 with fail
            go_cut [70] (fun t70 wx => t70 = .bool false ∧ wx = w5)
            case first =>
              by_cases h : A = C1
              · subst h
                have x2 : decide (B1 ≥ 0) = false := by simp; have := hneg rfl; omega
                have x3 : ¬ B1 ≥ 0 := by have := hneg rfl; omega
                go_wp2_with fail
                go_meet
                exact ⟨rfl, rfl⟩
              · have x2 : (A == C1) = false := by simp; omega
                go_wp2_with fail
                go_meet
                exact ⟨rfl, rfl⟩
            case rest =>
              obtain ⟨rfl, rfl⟩ := hcut
              clear hst hneg
              go_upto_region 8 with fail
              go_cut [] (fun wx => Hid (RdS w wx C1 (-B1) A a b c d))
              case first =>
                go_wp2_with fail
                go_meet
                exact Lib.hid (((HS5.out.f0 _).f1 _).f2 _)
              case rest =>
                obtain ⟨w6, rfl⟩ : ∃ w6, w6 = wc := ⟨_, rfl⟩
                have HS6 := Lib.hid hcut.out
                clear hcut HS5 f0 f1 f2 f3 f4 m0 m1 m2 m3 m4 m5 y1 z1
                obtain ⟨⟨f0, f1, f2, f3, f4⟩, -, -, ⟨m0, m1, m2, m3, m4, m5⟩, -⟩ := HS6.out
                go_upto_region 9 with fail
                go_wp2_with fail
                go_roundg (2 * C1.toNat + (if 0 ≤ -B1 ∧ -B1 ≤ C1 then 0 else 1))
                case measure => exact HMS.out
                case rel => exact ⟨C1, -B1, A, _, _, _, _, Lib.hid ((((HS6.out.m0 _).m1 _).m2 _).m3 _), HQ2, HCS, Lib.hid rfl⟩
end Go.Proofs.Ytbpkfcohbefphaa
