/- Lemmas, plain laws and walks that the statement LwKronecker leans on (texts FuA, PtA), conditions as each theorem says. -/
import Derived.Test.YtbpkfcohbefphaaGreatDoorTopKhG07
import Derived.Test.YtbpkfcohbefphaaGreatDoorTopKhG29
import Derived.Test.YtbpkfcohbefphaaGreatDoorTopKhG31

namespace Go.Proofs.YtbpkfcohbefphaaGreatDoor
open Go Go.RowKit
def fuS (s : Nat × Nat) (p e : Nat) : Nat × Nat := (s.1 * p ^ (e % 2), s.2 * p ^ (e / 2))
/-- Two cells with a number each. -/
structure FzSt (w0 : World) (b6 b3 : Nat) (x y : Int) (u : World) : Prop where
  grow : Grow w0 u
  le6 : w0.heap.size ≤ b6
  le3 : w0.heap.size ≤ b3
  lt6 : b6 < u.heap.size
  lt3 : b3 < u.heap.size
  fr6 : ∀ o, u.frozen? ⟨b6, o, none⟩ = false
  fr3 : ∀ o, u.frozen? ⟨b3, o, none⟩ = false
  c6 : u.cell? ⟨b6, 0, none⟩ = some (.int .i64 x)
  c3 : u.cell? ⟨b3, 0, none⟩ = some (.int .i64 y)
theorem FzSt.go {w0 u u' : World} {b6 b3 : Nat} {x y : Int} (h : FzSt w0 b6 b3 x y u) (hg : Grow u u') : FzSt w0 b6 b3 x y u' :=
  ⟨h.grow.trans hg, h.le6, h.le3, Nat.lt_of_lt_of_le h.lt6 hg.size, Nat.lt_of_lt_of_le h.lt3 hg.size, fun o => (hg.frees _ _ h.lt6).trans (h.fr6 o), fun o => (hg.frees _ _ h.lt3).trans (h.fr3 o), (hg.cells _ _ h.lt6).trans h.c6, (hg.cells _ _ h.lt3).trans h.c3⟩
theorem FzSt.put6 {w0 u : World} {b6 b3 : Nat} {x y : Int} (h : FzSt w0 b6 b3 x y u) (hne : b6 ≠ b3) (z : Int) : FzSt w0 b6 b3 z y (u.setCell ⟨b6, 0, none⟩ (.int .i64 z)) := by
  have hb : But (fun b => b = b6) u (u.setCell ⟨b6, 0, none⟩ (.int .i64 z)) := (But.refl (fun b => b = b6) u).set _ (.inr rfl) (fun x => by rw [h.c6]; simp)
  exact ⟨((h.grow.but _).trans hb).asGrow (fun b e => by rw [e]; exact h.le6), h.le6, h.le3, Nat.lt_of_lt_of_le h.lt6 hb.size, Nat.lt_of_lt_of_le h.lt3 hb.size, fun o => (hb.frees _ _ h.lt6).trans (h.fr6 o), fun o => (hb.frees _ _ h.lt3).trans (h.fr3 o), World.cell?_setCell_same _ _ _ h.c6, (hb.cells _ _ h.lt3 (fun e => hne e.symm)).trans h.c3⟩
theorem FzSt.put3 {w0 u : World} {b6 b3 : Nat} {x y : Int} (h : FzSt w0 b6 b3 x y u) (hne : b6 ≠ b3) (z : Int) : FzSt w0 b6 b3 x z (u.setCell ⟨b3, 0, none⟩ (.int .i64 z)) := by
  have hb : But (fun b => b = b3) u (u.setCell ⟨b3, 0, none⟩ (.int .i64 z)) := (But.refl (fun b => b = b3) u).set _ (.inr rfl) (fun x => by rw [h.c3]; simp)
  exact ⟨((h.grow.but _).trans hb).asGrow (fun b e => by rw [e]; exact h.le3), h.le6, h.le3, Nat.lt_of_lt_of_le h.lt6 hb.size, Nat.lt_of_lt_of_le h.lt3 hb.size, fun o => (hb.frees _ _ h.lt6).trans (h.fr6 o), fun o => (hb.frees _ _ h.lt3).trans (h.fr3 o), (hb.cells _ _ h.lt6 hne).trans h.c6, World.cell?_setCell_same _ _ _ h.c3⟩
def okFu (s : Nat × Nat) (p e : Nat) : Bool := decide (p ≤ 100) && decide (p ^ (e / 2) ≤ 100) && decide (s.1 ≤ 1000) && decide (s.2 ≤ 1000)
set_option maxRecDepth 20000 in
set_option maxHeartbeats 8000000 in
theorem fund1Q (w0 : World) (b6 b3 : Nat) (hne : b6 ≠ b3) (s : Nat × Nat) (p e : Nat) (hp0 : 2 ≤ p) (he1 : e ≤ 10) (hok : okFu s p e = true) (u : World) (hS : FzSt w0 b6 b3 (s.1 : Int) (s.2 : Int) u) :
    Calls Tryz.prog 89 #[.int .i64 (p : Int), .int .i64 (e : Int), .pointer (some ⟨b6, 0, none⟩), .pointer (some ⟨b3, 0, none⟩)] u fun x w' => x = .returned (.tuple #[]) ∧ FzSt w0 b6 b3 ((fuS s p e).1 : Int) ((fuS s p e).2 : Int) w' := by
  unfold okFu at hok
  simp only [Bool.and_eq_true, decide_eq_true_eq] at hok
  obtain ⟨⟨⟨hk1, hk2⟩, hk3⟩, hk4⟩ := hok
  have hr2 : e % 2 < 2 := Nat.mod_lt _ (by omega)
  have hk5 : p ^ (e % 2) ≤ 100 := by
    rcases (by omega : e % 2 = 0 ∨ e % 2 = 1) with h | h <;> rw [h] <;> simp <;> omega
  obtain ⟨r, hr⟩ : ∃ r, e % 2 = r := ⟨_, rfl⟩
  obtain ⟨h, hh⟩ : ∃ h, e / 2 = h := ⟨_, rfl⟩
  obtain ⟨pr, hpr⟩ : ∃ pr, p ^ r = pr := ⟨_, rfl⟩
  obtain ⟨ph, hph⟩ : ∃ ph, p ^ h = ph := ⟨_, rfl⟩
  obtain ⟨z1, hz1⟩ : ∃ z, s.1 * pr = z := ⟨_, rfl⟩
  obtain ⟨z2, hz2⟩ : ∃ z, s.2 * ph = z := ⟨_, rfl⟩
  rw [hr, hpr] at hk5
  rw [hh, hph] at hk2
  rw [hr] at hr2
  have hfs : fuS s p e = (z1, z2) := by unfold fuS; rw [hr, hh, hpr, hph, hz1, hz2]
  rw [hfs]
  have P1 := Lib.hid (fun v => powQ p r (by omega) (by omega) (by rw [hpr]; omega) v)
  have P2 := Lib.hid (fun v => powQ p h (by omega) (by omega) (by rw [hph]; omega) v)
  rw [hpr] at P1
  rw [hph] at P2
  have hb1 : z1 ≤ 1000 * 100 := by rw [← hz1]; exact Nat.mul_le_mul hk3 hk5
  have hb2 : z2 ≤ 1000 * 100 := by rw [← hz2]; exact Nat.mul_le_mul hk4 hk2
  have E1 : Hid (IntKind.i64.wrap ((s.1 : Int) * (pr : Int)) = (z1 : Int) ∧ wrap64 ((s.1 : Int) * (pr : Int)) = (z1 : Int)) := Lib.hid (by rw [show (s.1 : Int) * (pr : Int) = (z1 : Int) by rw [← hz1]; simp]; exact w64n (by omega))
  have E2 : Hid (IntKind.i64.wrap ((s.2 : Int) * (ph : Int)) = (z2 : Int) ∧ wrap64 ((s.2 : Int) * (ph : Int)) = (z2 : Int)) := Lib.hid (by rw [show (s.2 : Int) * (ph : Int) = (z2 : Int) by rw [← hz2]; simp]; exact w64n (by omega))
  have T1 : Hid (Int.tmod (e : Int) 2 = (r : Int)) := Lib.hid (by rw [Int.tmod_eq_emod_of_nonneg (by omega)]; omega)
  have T2 : Hid (Int.tdiv (e : Int) 2 = (h : Int)) := Lib.hid (by rw [Int.tdiv_eq_ediv_of_nonneg (by omega)]; omega)
  have V1 := Lib.hid (w64n (n := (r : Int)) (by omega))
  have V2 := Lib.hid (w64n (n := (h : Int)) (by omega))
  obtain ⟨s1, s2⟩ := s
  simp only at E1 E2
  have D0 := Lib.hid (fun (v : World) (hv : Grow u v) => (⟨(hS.go hv).c6, (hS.go hv).fr6, (hS.go hv).lt6⟩ : v.cell? ⟨b6, 0, none⟩ = some (.int .i64 (s1 : Int)) ∧ (∀ o, v.frozen? ⟨b6, o, none⟩ = false) ∧ b6 < v.heap.size))
  have HS := Lib.hid hS
  have HNE := Lib.hid hne
  clear hS hne hfs hk1 hk2 hk3 hk4 hk5 hr2 hr hh hpr hph hz1 hz2 hb1 hb2 hp0 he1
  obtain ⟨e1, e1'⟩ := E1.out
  have t1 := T1.out
  obtain ⟨v1, v1'⟩ := V1.out
  go_enter Tryz.func89, Tryz.ntmps89
  go_upto_region 0 with fail
  refine region_held (id := 0) (fun v => Grow u v) [0, 1, 2, 3, 4, 5, 6] (kdL [1, 0, 0, 0, 2, 0, 3]) (by kernel_rfl) (by kernel_rfl) (fun t ht => kdL_lt _ t ht) ?hS0p ?_
  case hS0p => ((try dsimp only); (repeat (first | with_reducible exact Grow.refl _ | with_reducible refine Grow.alloc ?_ _ | with_reducible refine Grow.drew ?_ | with_reducible refine Grow.drewN ?_ _ | (with_reducible refine Grow.setCell ?_ ?hp _; (case hp => (simp; try omega))) | with_reducible refine Grow.trans ?_ (by assumption))))
  refine held_read (v := ?vp0) rfl rfl (Or.inl ⟨by rfl, ?hyp0⟩) ?_
  case hyp0 => (intro u hu; obtain ⟨f0, f1, f2⟩ := D0.out u hu; go_simp; (try with_reducible rfl))
  (try simp only [Act.put, List.setIfInBounds_toArray, List.set_cons_zero, List.set_cons_succ])
  refine held_quiet (v := ?vp1) rfl rfl (Or.inl ⟨by rfl, ?hyp1⟩) ?_
  case hyp1 => (intro u hu; go_simp; (try with_reducible rfl))
  (try simp only [Act.put, List.setIfInBounds_toArray, List.set_cons_zero, List.set_cons_succ])
  refine held_quiet (v := ?vp2) rfl rfl (Or.inl ⟨by rfl, ?hyp2⟩) ?_
  case hyp2 => (intro u hu; go_simp; (try with_reducible rfl))
  (try simp only [Act.put, List.setIfInBounds_toArray, List.set_cons_zero, List.set_cons_succ])
  refine held_quiet (v := ?vp3) rfl rfl (Or.inl ⟨by rfl, ?hyp3⟩) ?_
  case hyp3 => (intro u hu; go_simp; (try with_reducible rfl))
  (try simp only [Act.put, List.setIfInBounds_toArray, List.set_cons_zero, List.set_cons_succ])
  refine held_op rfl rfl (fun K hK => ?_)
  go_simp
  (go_at_call 72; (with_reducible refine (P1.out _).mono ?_); (rintro x u4 ⟨rfl, rfl⟩); obtain ⟨f0, f1, f2⟩ := D0.out u.drew (by (repeat (first | with_reducible exact Grow.refl _ | with_reducible refine Grow.alloc ?_ _ | with_reducible refine Grow.drew ?_ | with_reducible refine Grow.drewN ?_ _ | (with_reducible refine Grow.setCell ?_ ?hp _; (case hp => (simp; try omega))) | with_reducible refine Grow.trans ?_ (by assumption)))))
  (try go_wp2_with fail)
  refine hK.out _ _ ?hSp4 ?_
  case hSp4 => ((try dsimp only); (repeat (first | with_reducible exact Grow.refl _ | with_reducible refine Grow.alloc ?_ _ | with_reducible refine Grow.drew ?_ | with_reducible refine Grow.drewN ?_ _ | (with_reducible refine Grow.setCell ?_ ?hp _; (case hp => (simp; try omega))) | with_reducible refine Grow.trans ?_ (by assumption))))
  clear hK K
  (try simp only [Act.put, List.setIfInBounds_toArray, List.set_cons_zero, List.set_cons_succ])
  refine held_quiet (v := ?vp5) rfl rfl (Or.inl ⟨by rfl, ?hyp5⟩) ?_
  case hyp5 => (intro u hu; go_simp; (try with_reducible rfl))
  (try simp only [Act.put, List.setIfInBounds_toArray, List.set_cons_zero, List.set_cons_succ])
  refine held_last rfl rfl (fun K hK => ?_)
  go_simp
  refine hK.out _ _ ?_
  clear hK K
  (try simp only [Act.put, List.setIfInBounds_toArray, List.set_cons_zero, List.set_cons_succ])
  refine held_done ?_
  clear e1 e1' t1 v1 v1'
  have h1 := (HS.out.put6 HNE.out z1).go ((Grow.refl _).drew)
  obtain ⟨w1, hw1⟩ : ∃ w1, (u.setCell ⟨b6, 0, none⟩ (.int .i64 (z1 : Int))).drew = w1 := ⟨_, rfl⟩
  rw [hw1] at h1
  rw [hw1]
  have D1 := Lib.hid (fun (v : World) (hv : Grow w1 v) => (⟨(h1.go hv).c3, (h1.go hv).fr3, (h1.go hv).lt3⟩ : v.cell? ⟨b3, 0, none⟩ = some (.int .i64 (s2 : Int)) ∧ (∀ o, v.frozen? ⟨b3, o, none⟩ = false) ∧ b3 < v.heap.size))
  have H1 := Lib.hid h1
  clear hw1 h1
  obtain ⟨e2, e2'⟩ := E2.out
  have t2 := T2.out
  obtain ⟨v2, v2'⟩ := V2.out
  go_simp
  go_upto_region 1 with fail
  refine region_held (id := 1) (fun v => Grow w1 v) [0, 1, 2, 3, 4, 5, 6] (kdL [1, 0, 0, 0, 2, 0, 3]) (by kernel_rfl) (by kernel_rfl) (fun t ht => kdL_lt _ t ht) ?hS0q ?_
  case hS0q => ((try dsimp only); (repeat (first | with_reducible exact Grow.refl _ | with_reducible refine Grow.alloc ?_ _ | with_reducible refine Grow.drew ?_ | with_reducible refine Grow.drewN ?_ _ | (with_reducible refine Grow.setCell ?_ ?hp _; (case hp => (simp; try omega))) | with_reducible refine Grow.trans ?_ (by assumption))))
  refine held_read (v := ?vq0) rfl rfl (Or.inl ⟨by rfl, ?hyq0⟩) ?_
  case hyq0 => (intro u hu; obtain ⟨f0, f1, f2⟩ := D1.out u hu; go_simp; (try with_reducible rfl))
  (try simp only [Act.put, List.setIfInBounds_toArray, List.set_cons_zero, List.set_cons_succ])
  refine held_quiet (v := ?vq1) rfl rfl (Or.inl ⟨by rfl, ?hyq1⟩) ?_
  case hyq1 => (intro u hu; go_simp; (try with_reducible rfl))
  (try simp only [Act.put, List.setIfInBounds_toArray, List.set_cons_zero, List.set_cons_succ])
  refine held_quiet (v := ?vq2) rfl rfl (Or.inl ⟨by rfl, ?hyq2⟩) ?_
  case hyq2 => (intro u hu; go_simp; (try with_reducible rfl))
  (try simp only [Act.put, List.setIfInBounds_toArray, List.set_cons_zero, List.set_cons_succ])
  refine held_quiet (v := ?vq3) rfl rfl (Or.inl ⟨by rfl, ?hyq3⟩) ?_
  case hyq3 => (intro u hu; go_simp; (try with_reducible rfl))
  (try simp only [Act.put, List.setIfInBounds_toArray, List.set_cons_zero, List.set_cons_succ])
  refine held_op rfl rfl (fun K hK => ?_)
  go_simp
  (go_at_call 72; (with_reducible refine (P2.out _).mono ?_); (rintro x u4 ⟨rfl, rfl⟩); obtain ⟨f0, f1, f2⟩ := D1.out w1.drew (by (repeat (first | with_reducible exact Grow.refl _ | with_reducible refine Grow.alloc ?_ _ | with_reducible refine Grow.drew ?_ | with_reducible refine Grow.drewN ?_ _ | (with_reducible refine Grow.setCell ?_ ?hp _; (case hp => (simp; try omega))) | with_reducible refine Grow.trans ?_ (by assumption)))))
  (try go_wp2_with fail)
  refine hK.out _ _ ?hSq4 ?_
  case hSq4 => ((try dsimp only); (repeat (first | with_reducible exact Grow.refl _ | with_reducible refine Grow.alloc ?_ _ | with_reducible refine Grow.drew ?_ | with_reducible refine Grow.drewN ?_ _ | (with_reducible refine Grow.setCell ?_ ?hp _; (case hp => (simp; try omega))) | with_reducible refine Grow.trans ?_ (by assumption))))
  clear hK K
  (try simp only [Act.put, List.setIfInBounds_toArray, List.set_cons_zero, List.set_cons_succ])
  refine held_quiet (v := ?vq5) rfl rfl (Or.inl ⟨by rfl, ?hyq5⟩) ?_
  case hyq5 => (intro u hu; go_simp; (try with_reducible rfl))
  (try simp only [Act.put, List.setIfInBounds_toArray, List.set_cons_zero, List.set_cons_succ])
  refine held_last rfl rfl (fun K hK => ?_)
  go_simp
  refine hK.out _ _ ?_
  clear hK K
  (try simp only [Act.put, List.setIfInBounds_toArray, List.set_cons_zero, List.set_cons_succ])
  refine held_done ?_
  clear e2 e2' t2 v2 v2'
  go_simp
  go_wp2_with fail
  refine bodyPost_end (results_none rfl _ _ _) rfl ?_
  exact ⟨rfl, (H1.out.put3 HNE.out z2).go ((Grow.refl _).drew)⟩
theorem results_tct {fn : Func} {p q r : Tmp} {ty : TypeId} (h : fn.results = #[.tmp p, .cell q ty, .tmp r]) (tmps : Array Value) (P : Program) (w : World) :
    (results fn tmps).run P w = ((asAddr (tmps.getD q undef)).run P w).andThen fun a w₁ => ((loadVar ty a).run P w₁).andThen fun x w₂ => .ok (.tuple #[tmps.getD p undef, x, tmps.getD r undef]) w₂ := by
  simp [results, h, Sem.run_bind, Result.andThen]
/-- The square-free part and the square's root, of the program's own reckoning. -/
def fuN (n : Nat) : Nat × Nat := foldS fuS (faL 33 n 2) (1, 1)
theorem okFu_tab : ∀ n, n < 61 → n = 0 ∨ (okSB okFu fuS (faL 33 n 2) (1, 1) && decide ((fuN n).1 ≤ 60) && decide ((fuN n).2 ≤ 60)) = true := by decide +kernel
/-- Whether d, not 0, is a fundamental discriminant, as the program reckons. -/
def fdB (d : Int) : Bool :=
  decide (d % 4 ≤ 1) && (if (if d < 0 then -((fuN d.natAbs).1 : Int) else ((fuN d.natAbs).1 : Int)) % 4 = 1 then decide ((fuN d.natAbs).2 = 1) else decide ((fuN d.natAbs).2 / 2 = 1))
set_option maxRecDepth 20000 in
set_option maxHeartbeats 8000000 in
theorem fundQ (d : Int) (h0 : d ≠ 0) (h2 : d.natAbs ≤ 60) (w : World) :
    Calls Tryz.prog 53 #[.int .i64 d] w fun x w' => (∃ q f e : Int, x = .returned (.tuple #[.int .i64 q, .int .i64 f, .int .i64 e]) ∧ ((e = 0 ∧ f = 1) ↔ fdB d = true) ∧ f.natAbs ≤ 100) ∧ Grow w w' := by
  obtain ⟨n, hn⟩ : ∃ n, d.natAbs = n := ⟨_, rfl⟩
  have hn1 : 1 ≤ n := by omega
  have hn2 : n ≤ 60 := by omega
  obtain ⟨hfu, hb1, hb2⟩ : okSB okFu fuS (faL 33 n 2) (1, 1) = true ∧ (fuN n).1 ≤ 60 ∧ (fuN n).2 ≤ 60 := by
    rcases okFu_tab n (by omega) with h | h
    · omega
    · simp only [Bool.and_eq_true, decide_eq_true_eq] at h; exact ⟨h.1.1, h.1.2, h.2⟩
  have R4 : Hid (∀ (z : Int) (u : World), Calls Tryz.prog 60 #[.int .i64 z, .int .i64 4] u fun e w' => e = .returned (.int .i64 (z % 4)) ∧ u = w') := Lib.hid (fun z u => residueQ z 4 (by omega) (by omega) u)
  have FC := Lib.hid (fun u (hu : FzSt w (w.heap.size + 1) w.heap.size 1 1 u) => factorsU (fun (s : Nat × Nat) u => FzSt w (w.heap.size + 1) w.heap.size (s.1 : Int) (s.2 : Int) u) (fun s p e => okFu s p e = true) fuS (.pointer (some ⟨w.heap.size + 1, 0, none⟩)) (.pointer (some ⟨w.heap.size, 0, none⟩)) (fun s p e u a b c d ok hs => fund1Q w (w.heap.size + 1) w.heap.size (by omega) s p e a d ok u hs) n hn1 (by omega) (1, 1) (okS_of hfu) u hu)
  have hff : foldS fuS (faL 33 n 2) (1, 1) = fuN n := rfl
  rw [hff] at FC
  have hfd : fdB d = (decide (d % 4 ≤ 1) && (if (if d < 0 then -((fuN n).1 : Int) else ((fuN n).1 : Int)) % 4 = 1 then decide ((fuN n).2 = 1) else decide ((fuN n).2 / 2 = 1))) := by unfold fdB; rw [hn]
  rw [hfd]
  obtain ⟨⟨fr, ff⟩, hfr⟩ : ∃ s, fuN n = s := ⟨_, rfl⟩
  rw [hfr] at FC hb1 hb2 ⊢
  simp only at FC hb1 hb2 ⊢
  clear hff hfd hfr hfu
  have hmf : ∀ (fn : Fn) (first cap : Array Value) (w : World), (Instr.makeFunc fn first cap).run Tryz.prog w = .ok (.func fn first cap) w := fun _ _ _ _ => rfl
  obtain ⟨W1, hW1⟩ : ∃ W1 : World, W1 = w.alloc (.cells #[.int .i64 0] 3) := ⟨_, rfl⟩
  have hz1 : W1.heap.size = w.heap.size + 1 := by rw [hW1]; simp
  have K1 := Lib.hid (ak1 hW1)
  have HG1 := Lib.hid (ag hW1)
  have HW1 := Lib.hid hW1
  have y1 : (d == 0) = false := by simp; omega
  have y2 : decide (d < -2147483647) = false := by simp; omega
  have y3 : decide (d > 2147483647) = false := by simp; omega
  obtain ⟨r, hr⟩ : ∃ r, d % 4 = r := ⟨_, rfl⟩
  have hrb : 0 ≤ r ∧ r < 4 := by omega
  have R4d := Lib.hid (R4.out d)
  rw [hr] at R4d ⊢
  by_cases hr1 : r > 1
  · have y4 : decide (r > 1) = true := by simp; omega
    have y5 : decide (r ≤ 1) = false := by simp; omega
    rw [y5, Bool.false_and]
    obtain ⟨f0, f1, f2⟩ := K1.out W1 (Grow.refl _)
    clear hr hrb hr1 hn hW1
    go_enter Tryz.func53, Tryz.ntmps53
    go_upto_region 1 with fail
    rw [← HW1.out]
    go_wp2_with (go_at_call 60; (with_reducible refine (R4d.out _).mono ?_); (rintro x u2 ⟨rfl, rfl⟩))
    refine bodyPost_ret (v := .tuple #[.int .i64 0, .int .i64 0, .int .i64 15]) (by rw [results_tct rfl]; go_simp) rfl ?_
    exact ⟨⟨0, 0, 15, rfl, by simp, by simp⟩, HG1.out.setCell (Nat.le_refl _) _⟩
  · have y4 : decide (r > 1) = false := by simp; omega
    have y5 : decide (r ≤ 1) = true := by simp; omega
    rw [y5, Bool.true_and]
    obtain ⟨sg, hsg⟩ : ∃ sg : Int, (if d < 0 then -(fr : Int) else (fr : Int)) = sg := ⟨_, rfl⟩
    rw [hsg]
    have hsb : sg.natAbs ≤ 60 := by rw [← hsg]; split <;> omega
    have R4s := Lib.hid (R4.out sg)
    obtain ⟨s4, hs4⟩ : ∃ s4, sg % 4 = s4 := ⟨_, rfl⟩
    rw [hs4] at R4s ⊢
    obtain ⟨g2, hg2⟩ : ∃ g2, ff / 2 = g2 := ⟨_, rfl⟩
    rw [hg2]
    have T2 : Hid (Int.tdiv (ff : Int) 2 = (g2 : Int)) := Lib.hid (by rw [Int.tdiv_eq_ediv_of_nonneg (by omega)]; omega)
    have V2 := Lib.hid (w64n (n := (g2 : Int)) (by omega))
    have V4 := Lib.hid (w64n (n := 4 * sg) (by omega))
    have hgb : g2 ≤ 60 := by omega
    have HSG := Lib.hid hsg
    clear hs4 hg2 hsg
    have hm1 : max d (-d) = (n : Int) := by omega
    have hm2 : (if -d > d then -d else d) = (n : Int) := by split <;> omega
    have M1 := Lib.hid hm1
    have M2 := Lib.hid hm2
    have EN := Lib.hid (w64n (n := -d) (by omega))
    obtain ⟨f0, f1, f2⟩ := K1.out W1 (Grow.refl _)
    have HD := Lib.hid hn
    have HZ1 := Lib.hid hz1
    clear hr hrb hr1 hn hW1 hm1 hm2 hz1
    obtain ⟨en, en'⟩ := EN.out
    have m1 := M1.out
    have m2 := M2.out
    go_enter Tryz.func53, Tryz.ntmps53
    go_upto_region 1 with fail
    rw [← HW1.out]
    go_upto_region 7 with (go_at_call 60; (with_reducible refine (R4d.out _).mono ?_); (rintro x u2 ⟨rfl, rfl⟩))
    rw [HZ1.out]
    obtain ⟨W2, hW2⟩ : ∃ W2 : World, (W1.setCell ⟨w.heap.size, 0, none⟩ (.int .i64 1)).alloc (.cells #[.int .i64 1] 3) = W2 := ⟨_, rfl⟩
    rw [hW2]
    have HP : Hid (FzSt w (w.heap.size + 1) w.heap.size 1 1 W2) := Lib.hid (by
      have hs1 : (W1.setCell ⟨w.heap.size, 0, none⟩ (.int .i64 1)).heap.size = w.heap.size + 1 := by rw [← HZ1.out]; simp [World.setCell]
      obtain ⟨b0, b1, b2⟩ := ak1 hW2.symm W2 (Grow.refl _)
      rw [hs1] at b0 b1 b2
      have hg := ag hW2.symm
      have hl : w.heap.size < (W1.setCell ⟨w.heap.size, 0, none⟩ (.int .i64 1)).heap.size := by rw [hs1]; omega
      exact ⟨(HG1.out.setCell (Nat.le_refl _) _).trans hg, by omega, Nat.le_refl _, b2, by omega, b1, fun o => (hg.frees _ _ hl).trans (by simpa using f1 o), b0, (hg.cells _ _ hl).trans (World.cell?_setCell_same _ _ _ f0)⟩)
    clear hW2 f0 f1 f2
    go_upto_region 8 with (go_at_call 28; (with_reducible refine (FC.out _ HP.out).mono ?_); (rintro x u3 ⟨rfl, hp3⟩; have HP3 := Lib.hid hp3; clear hp3))
    clear en en' m1 m2 hmf FC HP
    have c6 := HP3.out.c6
    have fr6 := HP3.out.fr6
    have lt6 := HP3.out.lt6
    by_cases hneg : d < 0
    · have y6 : decide (d < 0) = true := by simp; omega
      have hsg := HSG.out
      rw [if_pos hneg] at hsg
      have ES : Hid (IntKind.i64.wrap (-(fr : Int)) = sg ∧ wrap64 (-(fr : Int)) = sg) := Lib.hid (by rw [hsg]; exact w64n (by omega))
      obtain ⟨es, es'⟩ := ES.out
      clear hneg hsg
      go_upto_region 10 with fail
      clear es es'
      have HQ0 := Lib.hid (HP3.out.put6 (by omega) sg)
      obtain ⟨u9, hu9⟩ : ∃ u9, u3.setCell ⟨w.heap.size + 1, 0, none⟩ (.int .i64 sg) = u9 := ⟨_, rfl⟩
      rw [hu9] at HQ0
      rw [hu9]
      have HQ := HQ0
      clear hu9 HQ0 c6 fr6 lt6 HP3
      have DQ := Lib.hid (fun (v : World) (hv : Grow u9 v) => (⟨(HQ.out.go hv).c6, (HQ.out.go hv).c3, (HQ.out.go hv).fr3, (HQ.out.go hv).lt3, (HQ.out.go hv).lt6⟩ : v.cell? ⟨w.heap.size + 1, 0, none⟩ = some (.int .i64 sg) ∧ v.cell? ⟨w.heap.size, 0, none⟩ = some (.int .i64 (ff : Int)) ∧ (∀ o, v.frozen? ⟨w.heap.size, o, none⟩ = false) ∧ w.heap.size < v.heap.size ∧ w.heap.size + 1 < v.heap.size))
      obtain ⟨d0, d1, d2, d3, d4⟩ := DQ.out u9 (Grow.refl _)
      by_cases h41 : s4 = 1
      · subst h41
        go_upto_region 12 with (go_at_call 60; (with_reducible refine (R4s.out _).mono ?_); (rintro x u2 ⟨rfl, rfl⟩))
        clear d0 d1 d2 d3 d4
        refine region_held (id := 12) (fun v => Grow u9 v) [0, 1, 2, 3, 4] (kdL [1, 1, 0, 3, 0]) (by kernel_rfl) (by kernel_rfl) (fun t ht => kdL_lt _ t ht) ?hS0r ?_
        case hS0r => ((try dsimp only); (repeat (first | with_reducible exact Grow.refl _ | with_reducible refine Grow.alloc ?_ _ | with_reducible refine Grow.drew ?_ | with_reducible refine Grow.drewN ?_ _ | (with_reducible refine Grow.setCell ?_ ?hp _; (case hp => (simp; try omega))) | with_reducible refine Grow.trans ?_ (by assumption))))
        refine held_read (v := ?vr0) rfl rfl (Or.inl ⟨by rfl, ?hyr0⟩) ?_
        case hyr0 => (intro u hu; obtain ⟨d0, d1, d2, d3, d4⟩ := DQ.out u hu; go_simp; (try with_reducible rfl))
        (try simp only [Act.put, List.setIfInBounds_toArray, List.set_cons_zero, List.set_cons_succ])
        refine held_read (v := ?vr1) rfl rfl (Or.inl ⟨by rfl, ?hyr1⟩) ?_
        case hyr1 => (intro u hu; obtain ⟨d0, d1, d2, d3, d4⟩ := DQ.out u hu; go_simp; (try with_reducible rfl))
        (try simp only [Act.put, List.setIfInBounds_toArray, List.set_cons_zero, List.set_cons_succ])
        refine held_quiet (v := ?vr2) rfl rfl (Or.inl ⟨by rfl, ?hyr2⟩) ?_
        case hyr2 => (intro u hu; go_simp; (try with_reducible rfl))
        (try simp only [Act.put, List.setIfInBounds_toArray, List.set_cons_zero, List.set_cons_succ])
        refine held_last rfl rfl (fun K hK => ?_)
        obtain ⟨d0, d1, d2, d3, d4⟩ := DQ.out u9 (Grow.refl _)
        go_simp
        (try go_wp2_with fail)
        refine hK.out _ _ ?_
        clear hK K
        (try simp only [Act.put, List.setIfInBounds_toArray, List.set_cons_zero, List.set_cons_succ])
        refine held_quiet (v := ?vr4) rfl rfl (Or.inl ⟨by rfl, ?hyr4⟩) ?_
        case hyr4 => (intro u hu; go_simp; (try with_reducible rfl))
        (try simp only [Act.put, List.setIfInBounds_toArray, List.set_cons_zero, List.set_cons_succ])
        refine held_done ?_
        go_simp
        go_wp2_with fail
        refine bodyPost_ret (v := .tuple #[.int .i64 sg, .int .i64 (ff : Int), .int .i64 0]) (by rw [results_tct rfl]; go_simp) rfl ?_
        exact ⟨⟨sg, ff, 0, rfl, by omega, by omega⟩, ((HQ.out.put3 (by omega) (ff : Int)).go ((Grow.refl _).drew)).grow⟩
      · have h4n : (s4 != 1) = true := by simp; omega
        have H41 := Lib.hid h41
        clear h41
        go_upto_region 11 with (go_at_call 60; (with_reducible refine (R4s.out _).mono ?_); (rintro x u2 ⟨rfl, rfl⟩))
        clear d0 d1 d2 d3 d4
        have t2 := T2.out
        obtain ⟨v2, v2'⟩ := V2.out
        obtain ⟨v4, v4'⟩ := V4.out
        refine region_held (id := 11) (fun v => Grow u9 v) [0, 1, 2, 3, 4, 5, 6] (kdL [1, 0, 1, 0, 0, 3, 0]) (by kernel_rfl) (by kernel_rfl) (fun t ht => kdL_lt _ t ht) ?hS0s ?_
        case hS0s => ((try dsimp only); (repeat (first | with_reducible exact Grow.refl _ | with_reducible refine Grow.alloc ?_ _ | with_reducible refine Grow.drew ?_ | with_reducible refine Grow.drewN ?_ _ | (with_reducible refine Grow.setCell ?_ ?hp _; (case hp => (simp; try omega))) | with_reducible refine Grow.trans ?_ (by assumption))))
        refine held_read (v := ?vs0) rfl rfl (Or.inl ⟨by rfl, ?hys0⟩) ?_
        case hys0 => (intro u hu; obtain ⟨d0, d1, d2, d3, d4⟩ := DQ.out u hu; go_simp; (try with_reducible rfl))
        (try simp only [Act.put, List.setIfInBounds_toArray, List.set_cons_zero, List.set_cons_succ])
        refine held_quiet (v := ?vs1) rfl rfl (Or.inl ⟨by rfl, ?hys1⟩) ?_
        case hys1 => (intro u hu; go_simp; (try with_reducible rfl))
        (try simp only [Act.put, List.setIfInBounds_toArray, List.set_cons_zero, List.set_cons_succ])
        refine held_read (v := ?vs2) rfl rfl (Or.inl ⟨by rfl, ?hys2⟩) ?_
        case hys2 => (intro u hu; obtain ⟨d0, d1, d2, d3, d4⟩ := DQ.out u hu; go_simp; (try with_reducible rfl))
        (try simp only [Act.put, List.setIfInBounds_toArray, List.set_cons_zero, List.set_cons_succ])
        refine held_quiet (v := ?vs3) rfl rfl (Or.inl ⟨by rfl, ?hys3⟩) ?_
        case hys3 => (intro u hu; go_simp; (try with_reducible rfl))
        (try simp only [Act.put, List.setIfInBounds_toArray, List.set_cons_zero, List.set_cons_succ])
        refine held_quiet (v := ?vs4) rfl rfl (Or.inl ⟨by rfl, ?hys4⟩) ?_
        case hys4 => (intro u hu; go_simp; (try with_reducible rfl))
        (try simp only [Act.put, List.setIfInBounds_toArray, List.set_cons_zero, List.set_cons_succ])
        refine held_last rfl rfl (fun K hK => ?_)
        obtain ⟨d0, d1, d2, d3, d4⟩ := DQ.out u9 (Grow.refl _)
        go_simp
        (try go_wp2_with fail)
        refine hK.out _ _ ?_
        clear hK K
        (try simp only [Act.put, List.setIfInBounds_toArray, List.set_cons_zero, List.set_cons_succ])
        refine held_quiet (v := ?vs6) rfl rfl (Or.inl ⟨by rfl, ?hys6⟩) ?_
        case hys6 => (intro u hu; go_simp; (try with_reducible rfl))
        (try simp only [Act.put, List.setIfInBounds_toArray, List.set_cons_zero, List.set_cons_succ])
        refine held_done ?_
        go_simp
        go_wp2_with fail
        clear t2 v2 v2' v4 v4'
        refine bodyPost_ret (v := .tuple #[.int .i64 (4 * sg), .int .i64 (g2 : Int), .int .i64 0]) (by rw [results_tct rfl]; go_simp) rfl ?_
        exact ⟨⟨4 * sg, g2, 0, rfl, by omega, by omega⟩, ((HQ.out.put3 (by omega) (g2 : Int)).go ((Grow.refl _).drew)).grow⟩
    · have y6 : decide (d < 0) = false := by simp; omega
      have hsg := HSG.out
      rw [if_neg hneg] at hsg
      have HQ : Hid (FzSt w (w.heap.size + 1) w.heap.size sg (ff : Int) u3) := Lib.hid (by rw [← hsg]; exact HP3.out)
      clear hneg hsg c6 fr6 lt6 HP3
      go_upto_region 10 with fail
      obtain ⟨u9, hu9⟩ : ∃ u9, u3 = u9 := ⟨_, rfl⟩
      rw [hu9] at HQ
      rw [hu9]
      clear hu9
      have DQ := Lib.hid (fun (v : World) (hv : Grow u9 v) => (⟨(HQ.out.go hv).c6, (HQ.out.go hv).c3, (HQ.out.go hv).fr3, (HQ.out.go hv).lt3, (HQ.out.go hv).lt6⟩ : v.cell? ⟨w.heap.size + 1, 0, none⟩ = some (.int .i64 sg) ∧ v.cell? ⟨w.heap.size, 0, none⟩ = some (.int .i64 (ff : Int)) ∧ (∀ o, v.frozen? ⟨w.heap.size, o, none⟩ = false) ∧ w.heap.size < v.heap.size ∧ w.heap.size + 1 < v.heap.size))
      obtain ⟨d0, d1, d2, d3, d4⟩ := DQ.out u9 (Grow.refl _)
      by_cases h41 : s4 = 1
      · subst h41
        go_upto_region 12 with (go_at_call 60; (with_reducible refine (R4s.out _).mono ?_); (rintro x u2 ⟨rfl, rfl⟩))
        clear d0 d1 d2 d3 d4
        refine region_held (id := 12) (fun v => Grow u9 v) [0, 1, 2, 3, 4] (kdL [1, 1, 0, 3, 0]) (by kernel_rfl) (by kernel_rfl) (fun t ht => kdL_lt _ t ht) ?hS0r ?_
        case hS0r => ((try dsimp only); (repeat (first | with_reducible exact Grow.refl _ | with_reducible refine Grow.alloc ?_ _ | with_reducible refine Grow.drew ?_ | with_reducible refine Grow.drewN ?_ _ | (with_reducible refine Grow.setCell ?_ ?hp _; (case hp => (simp; try omega))) | with_reducible refine Grow.trans ?_ (by assumption))))
        refine held_read (v := ?vr0) rfl rfl (Or.inl ⟨by rfl, ?hyr0⟩) ?_
        case hyr0 => (intro u hu; obtain ⟨d0, d1, d2, d3, d4⟩ := DQ.out u hu; go_simp; (try with_reducible rfl))
        (try simp only [Act.put, List.setIfInBounds_toArray, List.set_cons_zero, List.set_cons_succ])
        refine held_read (v := ?vr1) rfl rfl (Or.inl ⟨by rfl, ?hyr1⟩) ?_
        case hyr1 => (intro u hu; obtain ⟨d0, d1, d2, d3, d4⟩ := DQ.out u hu; go_simp; (try with_reducible rfl))
        (try simp only [Act.put, List.setIfInBounds_toArray, List.set_cons_zero, List.set_cons_succ])
        refine held_quiet (v := ?vr2) rfl rfl (Or.inl ⟨by rfl, ?hyr2⟩) ?_
        case hyr2 => (intro u hu; go_simp; (try with_reducible rfl))
        (try simp only [Act.put, List.setIfInBounds_toArray, List.set_cons_zero, List.set_cons_succ])
        refine held_last rfl rfl (fun K hK => ?_)
        obtain ⟨d0, d1, d2, d3, d4⟩ := DQ.out u9 (Grow.refl _)
        go_simp
        (try go_wp2_with fail)
        refine hK.out _ _ ?_
        clear hK K
        (try simp only [Act.put, List.setIfInBounds_toArray, List.set_cons_zero, List.set_cons_succ])
        refine held_quiet (v := ?vr4) rfl rfl (Or.inl ⟨by rfl, ?hyr4⟩) ?_
        case hyr4 => (intro u hu; go_simp; (try with_reducible rfl))
        (try simp only [Act.put, List.setIfInBounds_toArray, List.set_cons_zero, List.set_cons_succ])
        refine held_done ?_
        go_simp
        go_wp2_with fail
        refine bodyPost_ret (v := .tuple #[.int .i64 sg, .int .i64 (ff : Int), .int .i64 0]) (by rw [results_tct rfl]; go_simp) rfl ?_
        exact ⟨⟨sg, ff, 0, rfl, by omega, by omega⟩, ((HQ.out.put3 (by omega) (ff : Int)).go ((Grow.refl _).drew)).grow⟩
      · have h4n : (s4 != 1) = true := by simp; omega
        have H41 := Lib.hid h41
        clear h41
        go_upto_region 11 with (go_at_call 60; (with_reducible refine (R4s.out _).mono ?_); (rintro x u2 ⟨rfl, rfl⟩))
        clear d0 d1 d2 d3 d4
        have t2 := T2.out
        obtain ⟨v2, v2'⟩ := V2.out
        obtain ⟨v4, v4'⟩ := V4.out
        refine region_held (id := 11) (fun v => Grow u9 v) [0, 1, 2, 3, 4, 5, 6] (kdL [1, 0, 1, 0, 0, 3, 0]) (by kernel_rfl) (by kernel_rfl) (fun t ht => kdL_lt _ t ht) ?hS0s ?_
        case hS0s => ((try dsimp only); (repeat (first | with_reducible exact Grow.refl _ | with_reducible refine Grow.alloc ?_ _ | with_reducible refine Grow.drew ?_ | with_reducible refine Grow.drewN ?_ _ | (with_reducible refine Grow.setCell ?_ ?hp _; (case hp => (simp; try omega))) | with_reducible refine Grow.trans ?_ (by assumption))))
        refine held_read (v := ?vs0) rfl rfl (Or.inl ⟨by rfl, ?hys0⟩) ?_
        case hys0 => (intro u hu; obtain ⟨d0, d1, d2, d3, d4⟩ := DQ.out u hu; go_simp; (try with_reducible rfl))
        (try simp only [Act.put, List.setIfInBounds_toArray, List.set_cons_zero, List.set_cons_succ])
        refine held_quiet (v := ?vs1) rfl rfl (Or.inl ⟨by rfl, ?hys1⟩) ?_
        case hys1 => (intro u hu; go_simp; (try with_reducible rfl))
        (try simp only [Act.put, List.setIfInBounds_toArray, List.set_cons_zero, List.set_cons_succ])
        refine held_read (v := ?vs2) rfl rfl (Or.inl ⟨by rfl, ?hys2⟩) ?_
        case hys2 => (intro u hu; obtain ⟨d0, d1, d2, d3, d4⟩ := DQ.out u hu; go_simp; (try with_reducible rfl))
        (try simp only [Act.put, List.setIfInBounds_toArray, List.set_cons_zero, List.set_cons_succ])
        refine held_quiet (v := ?vs3) rfl rfl (Or.inl ⟨by rfl, ?hys3⟩) ?_
        case hys3 => (intro u hu; go_simp; (try with_reducible rfl))
        (try simp only [Act.put, List.setIfInBounds_toArray, List.set_cons_zero, List.set_cons_succ])
        refine held_quiet (v := ?vs4) rfl rfl (Or.inl ⟨by rfl, ?hys4⟩) ?_
        case hys4 => (intro u hu; go_simp; (try with_reducible rfl))
        (try simp only [Act.put, List.setIfInBounds_toArray, List.set_cons_zero, List.set_cons_succ])
        refine held_last rfl rfl (fun K hK => ?_)
        obtain ⟨d0, d1, d2, d3, d4⟩ := DQ.out u9 (Grow.refl _)
        go_simp
        (try go_wp2_with fail)
        refine hK.out _ _ ?_
        clear hK K
        (try simp only [Act.put, List.setIfInBounds_toArray, List.set_cons_zero, List.set_cons_succ])
        refine held_quiet (v := ?vs6) rfl rfl (Or.inl ⟨by rfl, ?hys6⟩) ?_
        case hys6 => (intro u hu; go_simp; (try with_reducible rfl))
        (try simp only [Act.put, List.setIfInBounds_toArray, List.set_cons_zero, List.set_cons_succ])
        refine held_done ?_
        go_simp
        go_wp2_with fail
        clear t2 v2 v2' v4 v4'
        refine bodyPost_ret (v := .tuple #[.int .i64 (4 * sg), .int .i64 (g2 : Int), .int .i64 0]) (by rw [results_tct rfl]; go_simp) rfl ?_
        exact ⟨⟨4 * sg, g2, 0, rfl, by omega, by omega⟩, ((HQ.out.put3 (by omega) (g2 : Int)).go ((Grow.refl _).drew)).grow⟩
end Go.Proofs.YtbpkfcohbefphaaGreatDoor
namespace Go.Proofs.YtbpkfcohbefphaaGreatDoor
open Go Go.RowKit
/-- What a prime power of a fundamental discriminant's modulus n is. -/
def gmX (n : Nat) (x : Nat × Nat) : Bool :=
  ((x.1 == 2 && (x.2 == 2 || x.2 == 3)) || (oddP x.1 && x.2 == 1)) && decide (1 ≤ n / x.1 ^ x.2) && decide (x.1 ^ x.2 * (n / x.1 ^ x.2) ≤ 60) && Nat.gcd (x.1 ^ x.2) (n / x.1 ^ x.2) == 1
def gmB (n : Nat) : Bool := (faL 33 n 2).all (gmX n) && decide ((faL 33 n 2).length ≤ 10)
theorem fd_gm : (List.range 61).all (fun n => n == 0 || ((!fdB (n : Int) || gmB n) && (!fdB (-(n : Int)) || gmB n))) = true := by decide +kernel
theorem gm_of_fd {d : Int} (h0 : d ≠ 0) (h : d.natAbs ≤ 60) (hf : fdB d = true) : gmB d.natAbs = true := by
  have h1 := List.all_eq_true.1 fd_gm d.natAbs (List.mem_range.2 (by omega))
  simp only [Bool.or_eq_true, Bool.and_eq_true, beq_iff_eq, Bool.not_eq_true'] at h1
  rcases h1 with h1 | ⟨h1, h2⟩
  · omega
  · rcases (by omega : d = (d.natAbs : Int) ∨ d = -(d.natAbs : Int)) with h3 | h3
    · rcases h1 with h1 | h1
      · rw [← h3, hf] at h1; cases h1
      · exact h1
    · rcases h2 with h2 | h2
      · rw [← h3, hf] at h2; cases h2
      · exact h2
/-- What a part owes: (root, order, power). -/
def okT (n : Nat) (t : Nat × Nat × Nat) : Prop := t.1 ≤ 60 ∧ t.2.1 ≤ 60 ∧ 1 ≤ t.2.2 ∧ 1 ≤ n / t.2.2 ∧ t.2.2 * (n / t.2.2) ≤ 60 ∧ Nat.gcd t.2.2 (n / t.2.2) = 1
def cells3 : List (Nat × Nat × Nat) → List Value
  | [] => []
  | c :: l => .int .i64 (c.1 : Int) :: .int .i64 (c.2.1 : Int) :: .int .i64 (c.2.2 : Int) :: cells3 l
theorem cells3_append (x y : List (Nat × Nat × Nat)) : cells3 (x ++ y) = cells3 x ++ cells3 y := by
  induction x with
  | nil => rfl
  | cons c x ih => simp [cells3, ih]
theorem cells3_at : ∀ (l : List (Nat × Nat × Nat)) (j : Nat), j < l.length → (cells3 l)[j * 3]? = some (.int .i64 ((l.getD j (0, 0, 0)).1 : Int)) ∧ (cells3 l)[j * 3 + 1]? = some (.int .i64 ((l.getD j (0, 0, 0)).2.1 : Int)) ∧ (cells3 l)[j * 3 + 2]? = some (.int .i64 ((l.getD j (0, 0, 0)).2.2 : Int))
  | [], j, h => by simp at h
  | c :: l, 0, _ => by simp [cells3]
  | c :: l, j + 1, h => by
    have := cells3_at l j (by simpa using h)
    rw [show (j + 1) * 3 = j * 3 + 1 + 1 + 1 by omega]
    simpa [cells3] using this
theorem three_cells3 (w : World) (x y z : Value) (t : TypeId) (n : Nat) (hn : n = w.heap.size) : ∀ j v, [x, y, z][j]? = some v → (w.alloc (.cells #[x, y, z] t)).cell? ((⟨n, 0, none⟩ : Addr).add j) = some v := by
  intro j v hj
  rw [Addr.add_lit, Nat.zero_add, World.cell?_alloc_at _ _ _ _ hn]
  match j, hj with
  | 0, hj => simpa using hj
  | 1, hj => simpa using hj
  | 2, hj => simpa using hj
  | j + 3, hj => simp at hj
theorem three_one3 (x y z : Int) : ∀ v ∈ [Value.int .i64 x, Value.int .i64 y, Value.int .i64 z], v.oneCell' = true := by
  intro v hv; simp at hv; rcases hv with rfl | rfl | rfl <;> rfl
theorem six_cells3 (w : World) (a b c x y z : Value) (t : TypeId) (n : Nat) (hn : n = w.heap.size) : ∀ j v, [a, b, c, x, y, z][j]? = some v → (w.alloc (.cells #[a, b, c, x, y, z] t)).cell? ((⟨n, 0, none⟩ : Addr).add j) = some v := by
  intro j v hj
  rw [Addr.add_lit, Nat.zero_add, World.cell?_alloc_at _ _ _ _ hn]
  match j, hj with
  | 0, hj => simpa using hj
  | 1, hj => simpa using hj
  | 2, hj => simpa using hj
  | 3, hj => simpa using hj
  | 4, hj => simpa using hj
  | 5, hj => simpa using hj
  | j + 6, hj => simp at hj
theorem six_one3 (a b c x y z : Int) : ∀ v ∈ [Value.int .i64 a, Value.int .i64 b, Value.int .i64 c, Value.int .i64 x, Value.int .i64 y, Value.int .i64 z], v.oneCell' = true := by
  intro v hv; simp at hv; rcases hv with rfl | rfl | rfl | rfl | rfl | rfl <;> rfl
theorem infoPart : (Tryz.prog.info? 144).map (fun i => (i.zero, i.size, i.bytes)) = some (some (.agg #[.int .i64 0, .int .i64 0, .int .i64 0]), 3, 24) := by kernel_rfl
/-- The list of parts so far. -/
structure PtSt (n : Nat) (u4 : World) (T : List (Nat × Nat × Nat)) (a : Option Addr) (m c : Nat) (u : World) : Prop where
  grow : Grow u4 u
  len : T.length = m
  own : u.ownsRow u4.heap.size 144 3 (.slice a m c) m (cells3 T)
  ok : ∀ t ∈ T, okT n t
theorem PtSt.push {n : Nat} {u4 u w8 : World} {T NT : List (Nat × Nat × Nat)} {a : Option Addr} {m c k : Nat} {v8 : Value} (h : PtSt n u4 T a m c u) {u1 : World} (h1 : Grow u u1) (hk : NT.length = k)
    (ho : w8.ownsRow u4.heap.size 144 3 v8 (m + k) (cells3 T ++ cells3 NT)) (hg : u1.grownBy w8 (Value.slice a m c).ownBlock) (hok : ∀ t ∈ NT, okT n t) : ∃ a' c', v8 = .slice a' (m + k) c' ∧ PtSt n u4 (T ++ NT) a' (m + k) c' w8 := by
  obtain ⟨a', c', rfl⟩ := own_shape ho
  refine ⟨a', c', rfl, (h.grow.trans h1).grown hg (fun q hq => (World.ownsRow.lt h.own q hq).1), by rw [List.length_append, h.len, hk], by rw [cells3_append]; exact ho, fun t ht => ?_⟩
  rcases List.mem_append.1 ht with h2 | h2
  · exact h.ok t h2
  · exact hok t h2
theorem PtSt.go {n : Nat} {u4 u u' : World} {T : List (Nat × Nat × Nat)} {a : Option Addr} {m c : Nat} (h : PtSt n u4 T a m c u) (hg : Grow u u') : PtSt n u4 T a m c u' :=
  ⟨h.grow.trans hg, h.len, own_into h.own hg, h.ok⟩
set_option maxRecDepth 20000 in
set_option maxHeartbeats 8000000 in
theorem partsQ (n : Nat) (h1 : 1 ≤ n) (h2 : n ≤ 60) (hg : gmB n = true) (w : World) :
    Calls Tryz.prog 113 #[.int .i64 (n : Int)] w fun e w' => (∃ (T : List (Nat × Nat × Nat)) (a : Option Addr) (m c : Nat), e = .returned (.slice a m c) ∧ T.length = m ∧ m ≤ 20 ∧ (∀ t ∈ T, okT n t) ∧ w'.ownsRow w.heap.size 144 3 (.slice a m c) m (cells3 T)) ∧ Grow w w' := by
  unfold gmB at hg
  rw [Bool.and_eq_true, decide_eq_true_eq] at hg
  obtain ⟨hg, hK10⟩ := hg
  have FQ := Lib.hid (fun u => factorQ n h1 h2 u)
  obtain ⟨L, hL⟩ : ∃ L, faL 33 n 2 = L := ⟨_, rfl⟩
  rw [hL] at FQ hg hK10
  obtain ⟨K, hK⟩ : ∃ K, L.length = K := ⟨_, rfl⟩
  rw [hK] at FQ hK10
  have GX : Hid (∀ i, i < K → gmX n (L.getD i (0, 0)) = true) := Lib.hid (fun i hi => by
    rw [List.getD_eq_getElem?_getD, List.getElem?_eq_getElem (by omega)]
    exact List.all_eq_true.1 hg _ (List.getElem_mem _))
  have HK := Lib.hid hK
  obtain ⟨ic, hic, icz0, icz1, icz2⟩ := info_parts infoPart
  clear hL hg hK
  go_enter Tryz.func113, Tryz.ntmps113
  go_upto_region 3 with (go_at_call 66; (with_reducible refine (FQ.out _).mono ?_); (rintro e u4 ⟨v4, rfl, ho4, hb4⟩; have HO4 := Lib.hid ho4; have HG4 := Lib.hid hb4; clear hb4; obtain ⟨a4, c4, rfl⟩ := own_shape ho4; clear ho4))
  go_wp2_with fail
  go_loopg [3, 17] K (fun gk t3 t17 wr => ∃ (i : Nat) (T : List (Nat × Nat × Nat)) (a : Option Addr) (m c : Nat), t17 = .int .i64 (i : Int) ∧ t3 = .slice a m c ∧ i ≤ K ∧ m ≤ 2 * i ∧ Hid (gk = K - i) ∧ Hid (PtSt n u4 T a m c wr))
  case atStart => exact ⟨0, [], none, 0, 0, rfl, rfl, Nat.zero_le _, Nat.le_refl _, Lib.hid rfl, Lib.hid ⟨Grow.refl _, rfl, World.ownsRow_nil _ _ _ _, fun t ht => by cases ht⟩⟩
  case round =>
    obtain ⟨i, T, a, m, c, rfl, rfl, hi, hm, HGK, HP⟩ := hrel
    by_cases hik : i = K
    · have y1 : decide ((i : Int) < (K : Int)) = false := by simp; omega
      have y1' : decide (i < K) = false := by simp; omega
      have hm20 : m ≤ 20 := by omega
      clear hik
      go_wp2_with fail
      go_ret
      exact ⟨⟨T, a, m, c, rfl, HP.out.len, hm20, HP.out.ok, own_base HP.out.own HG4.out.size⟩, HG4.out.trans HP.out.grow⟩
    · have hik : i < K := by omega
      have y0 : (0 : Int) ≤ (i : Int) := by omega
      have y1 : decide ((i : Int) < (K : Int)) = true := by simp; omega
      have y2 : (i : Int) < (K : Int) := by omega
      have hgx := GX.out i hik
      obtain ⟨g4, cg4, he4, -, hlt4⟩ := own_slice HO4.out (by omega)
      injection he4 with he4 _ he5
      clear he5
      have k1 := World.ownsRow.cells HO4.out (g := g4) (by rw [he4]; rfl) _ _ (cells2_at L i (by rw [HK.out]; exact hik)).1
      have k2 := World.ownsRow.cells HO4.out (g := g4) (by rw [he4]; rfl) _ _ (cells2_at L i (by rw [HK.out]; exact hik)).2
      have e0 : ∀ j, (⟨g4, 0, none⟩ : Addr).add j = ⟨g4, j, none⟩ := fun j => by cases j <;> simp [Addr.add]
      rw [e0] at k1 k2
      obtain ⟨x, hx⟩ : ∃ x, L.getD i (0, 0) = x := ⟨_, rfl⟩
      rw [hx] at k1 k2 hgx
      obtain ⟨p, e⟩ := x
      simp only at k1 k2
      have k1 := (HP.out.grow.cells _ _ hlt4).trans k1
      have k2 := (HP.out.grow.cells _ _ hlt4).trans k2
      have hlt4 := Nat.lt_of_lt_of_le hlt4 HP.out.grow.size
      obtain ⟨Q, hQ⟩ : ∃ Q, p ^ e = Q := ⟨_, rfl⟩
      unfold gmX at hgx
      simp only [Bool.and_eq_true, decide_eq_true_eq, beq_iff_eq] at hgx
      rw [hQ] at hgx
      obtain ⟨⟨⟨hpe, hn1⟩, hn2⟩, hn3⟩ := hgx
      have hpe2 : (p = 2 ∧ e = 2) ∨ (p = 2 ∧ e = 3) ∨ (oddP p = true ∧ e = 1) := by
        simp only [Bool.or_eq_true, Bool.and_eq_true, beq_iff_eq] at hpe
        rcases hpe with ⟨h5, h6 | h6⟩ | ⟨h5, h6⟩
        · exact .inl ⟨h5, h6⟩
        · exact .inr (.inl ⟨h5, h6⟩)
        · exact .inr (.inr ⟨h5, h6⟩)
      have hp2 : 2 ≤ p ∧ e ≤ 3 ∧ 1 ≤ e := by
        rcases hpe2 with ⟨h5, h6⟩ | ⟨h5, h6⟩ | ⟨h5, h6⟩
        · omega
        · omega
        · unfold oddP at h5
          simp only [Bool.and_eq_true, decide_eq_true_eq] at h5
          omega
      have hQ60 : Q ≤ 60 := Nat.le_trans (Nat.le_mul_of_pos_right _ hn1) hn2
      have hQ1 : 1 ≤ Q := by rw [← hQ]; exact Nat.pow_pos (by omega)
      have PB : Hid (∀ j, j ≤ e → p ^ j ≤ 60) := Lib.hid (fun j hj => Nat.le_trans (Nat.pow_le_pow_right (by omega) hj) (by rw [hQ]; exact hQ60))
      have OKQ : Hid (∀ r o : Nat, r ≤ 60 → o ≤ 60 → okT n (r, o, Q)) := Lib.hid (fun r o hr ho => ⟨hr, ho, hQ1, hn1, hn2, hn3⟩)
      have HQ := Lib.hid hQ
      have HPE := Lib.hid hpe2
      have EI := Lib.hid (inc_wrap (i := i) (n := 100) (by omega) (by omega))
      obtain ⟨hp2, he3, he1⟩ := hp2
      clear hik hx hQ hpe hn1 hn2 hn3 hpe2
      subst he4
      go_upto_region 6 with fail
      clear k1 k2 hlt4
      obtain ⟨W6, hW6⟩ : ∃ W6 : World, W6 = wr.alloc (.cells #[.int .i64 (p : Int), .int .i64 (e : Int)] 101) := ⟨_, rfl⟩
      rw [← hW6]
      have K6 := Lib.hid (ak2 hW6)
      have HG6 := Lib.hid (ag hW6)
      obtain ⟨C, hC⟩ : ∃ C, wr.heap.size = C := ⟨_, rfl⟩
      rw [hC] at K6
      try rw [hC]
      clear hW6 hC
      obtain ⟨d0, d1, d2, d3⟩ := K6.out W6 (Grow.refl _)
      go_wp2_with fail
      go_loopg [8, 23] e (fun gk2 t8 t23 wq => ∃ j q : Nat, t8 = .int .i64 (q : Int) ∧ t23 = .int .i64 (j : Int) ∧ j ≤ e ∧ Hid (gk2 = e - j) ∧ Hid (q = p ^ j) ∧ wq = W6)
      case atStart => exact ⟨0, 1, rfl, rfl, Nat.zero_le _, Lib.hid rfl, Lib.hid rfl, rfl⟩
      case round =>
        obtain ⟨j, q, rfl, rfl, hj, HGK2, HQJ, rfl⟩ := hrel
        by_cases hje : j = e
        · have z1 : decide ((j : Int) < (e : Int)) = false := by simp; omega
          have z1' : decide (j < e) = false := by simp; omega
          obtain rfl : q = Q := by rw [HQJ.out, hje]; exact HQ.out
          clear hje HGK2 HQJ
          go_upto_region 11 with fail
          clear z1 z1'
          have HP6 := Lib.hid (HP.out.go HG6.out)
          rcases HPE.out with ⟨hp, he⟩ | ⟨hp, he⟩ | ⟨hodd, he⟩
          · subst hp
            subst he
            obtain rfl : q = 4 := HQ.out.symm
            clear HPE HP HQ PB
            go_wp2_with (first
              | (at_builtin; refine wpList_append_own _ rfl _ _ 141 rfl u4.heap.size 144 ic (.agg #[.int .i64 0, .int .i64 0, .int .i64 0]) 3 24 Tryz.underlying141 hic icz0 icz1 icz2 rfl (by decide) _ _ _ rfl (World.ownsRow.alloc HP6.out.own _) ⟨wr.heap.size, 0, none⟩ 1 1 [.int .i64 3, .int .i64 2, .int .i64 4] rfl rfl (three_cells3 _ _ _ _ _ _ ?c1) (three_one3 _ _ _) ?c3 ?c4 ?c5 ?_))
            case c1 => simp
            case c3 => unfold maxLen; omega
            case c4 => omega
            case c5 => have := HP6.out.grow.size; (try simp); omega
            intro v8 w8 ho8 hg8 _
            obtain ⟨a', c', rfl, hp8⟩ := HP6.out.push (k := 1) (NT := [(3, 2, 4)]) ((Grow.refl wr).alloc _) rfl (by simpa [cells3] using ho8) hg8 (fun t ht => by simp at ht; subst ht; exact OKQ.out 3 2 (by omega) (by omega))
            have HP8 := Lib.hid hp8
            clear ho8 hg8 hp8
            obtain ⟨ei, ei'⟩ := EI.out
            go_wp2_with fail
            clear ei ei'
            go_roundg (K - (i + 1))
            case measure => have := HGK.out; omega
            case rel => exact ⟨i + 1, _, a', _, c', rfl, rfl, by omega, by omega, Lib.hid rfl, HP8⟩
          · subst hp
            subst he
            obtain rfl : q = 8 := HQ.out.symm
            clear HPE HP HQ PB
            go_wp2_with (first
              | (at_builtin; refine wpList_append_own _ rfl _ _ 141 rfl u4.heap.size 144 ic (.agg #[.int .i64 0, .int .i64 0, .int .i64 0]) 3 24 Tryz.underlying141 hic icz0 icz1 icz2 rfl (by decide) _ _ _ rfl (World.ownsRow.alloc HP6.out.own _) ⟨wr.heap.size, 0, none⟩ 2 2 [.int .i64 7, .int .i64 2, .int .i64 8, .int .i64 5, .int .i64 2, .int .i64 8] rfl rfl (six_cells3 _ _ _ _ _ _ _ _ _ ?c1) (six_one3 _ _ _ _ _ _) ?c3 ?c4 ?c5 ?_))
            case c1 => simp
            case c3 => unfold maxLen; omega
            case c4 => omega
            case c5 => have := HP6.out.grow.size; (try simp); omega
            intro v8 w8 ho8 hg8 _
            obtain ⟨a', c', rfl, hp8⟩ := HP6.out.push (k := 2) (NT := [(7, 2, 8), (5, 2, 8)]) ((Grow.refl wr).alloc _) rfl (by simpa [cells3] using ho8) hg8 (fun t ht => by simp at ht; rcases ht with rfl | rfl <;> exact OKQ.out _ 2 (by omega) (by omega))
            have HP8 := Lib.hid hp8
            clear ho8 hg8 hp8
            obtain ⟨ei, ei'⟩ := EI.out
            go_wp2_with fail
            clear ei ei'
            go_roundg (K - (i + 1))
            case measure => have := HGK.out; omega
            case rel => exact ⟨i + 1, _, a', _, c', rfl, rfl, by omega, by omega, Lib.hid rfl, HP8⟩
          · subst he
            have hqp : p = q := by have h := HQ.out; rw [Nat.pow_one] at h; exact h
            subst hqp
            have PR := Lib.hid (fun u => primQ p hodd u)
            have hp3 : 3 ≤ p := by
              unfold oddP at hodd
              simp only [Bool.and_eq_true, decide_eq_true_eq] at hodd
              omega
            obtain ⟨p1, hp1⟩ : ∃ p1, p - 1 = p1 := ⟨_, rfl⟩
            rw [hp1] at PR
            have x1 : decide ((p : Int) > 2) = true := by simp; omega
            have x1' : decide (2 < p) = true := by simp; omega
            have T1 : Hid (Int.tdiv (p : Int) (p : Int) = 1) := Lib.hid (Int.tdiv_self (by omega))
            have E1 : Hid (IntKind.i64.wrap ((p : Int) - 1) = (p1 : Int) ∧ wrap64 ((p : Int) - 1) = (p1 : Int)) := Lib.hid (by rw [show (p : Int) - 1 = (p1 : Int) by omega]; exact w64n (by omega))
            have V1 := Lib.hid (w64n (n := (p1 : Int)) (by omega))
            have hpz : ¬ ((p : Int) = 0) := by omega
            have hpn : ¬ (p = 0) := by omega
            have hp1b : p1 ≤ 60 := by omega
            clear hp1 HPE HP HQ PB hodd
            obtain ⟨e1, e1'⟩ := E1.out
            have t1 := T1.out
            obtain ⟨v1, v1'⟩ := V1.out
            go_upto_region 12 with fail
            go_quiet (fail)
            clear e1 e1' t1 v1 v1' x1 x1'
            go_wp2_with (first
              | (go_at_call 125; (with_reducible refine (PR.out _).mono ?_); (rintro x u7 ⟨⟨g, rfl, hg1, hg2⟩, hb7⟩; have HP7 := Lib.hid ((HP6.out.go ((Grow.refl wr).drewN _)).go hb7); clear hb7))
              | (at_builtin; refine wpList_append_own _ rfl _ _ 141 rfl u4.heap.size 144 ic (.agg #[.int .i64 0, .int .i64 0, .int .i64 0]) 3 24 Tryz.underlying141 hic icz0 icz1 icz2 rfl (by decide) _ _ _ rfl (World.ownsRow.alloc HP7.out.own _) ⟨u7.heap.size, 0, none⟩ 1 1 [.int .i64 (g : Int), .int .i64 (p1 : Int), .int .i64 (p : Int)] rfl rfl (three_cells3 _ _ _ _ _ _ ?c1) (three_one3 _ _ _) ?c3 ?c4 ?c5 ?_))
            case c1 => simp
            case c3 => unfold maxLen; omega
            case c4 => omega
            case c5 => have := HP7.out.grow.size; (try simp); omega
            intro v8 w8 ho8 hg8 _
            obtain ⟨a', c', rfl, hp8⟩ := HP7.out.push (k := 1) (NT := [(g, p1, p)]) ((Grow.refl u7).alloc _) rfl (by simpa [cells3] using ho8) hg8 (fun t ht => by simp at ht; subst ht; exact OKQ.out g p1 (by omega) (by omega))
            have HP8 := Lib.hid hp8
            clear ho8 hg8 hp8
            obtain ⟨ei, ei'⟩ := EI.out
            go_wp2_with fail
            clear ei ei'
            go_roundg (K - (i + 1))
            case measure => have := HGK.out; omega
            case rel => exact ⟨i + 1, _, a', _, c', rfl, rfl, by omega, by omega, Lib.hid rfl, HP8⟩
        · have hje : j < e := by omega
          have z1 : decide ((j : Int) < (e : Int)) = true := by simp; omega
          have z2 : (j : Int) < (e : Int) := by omega
          obtain ⟨q2, hq2⟩ : ∃ q2, q * p = q2 := ⟨_, rfl⟩
          have hq2e : q2 = p ^ (j + 1) := by rw [← hq2, HQJ.out]; exact (Nat.pow_succ p j).symm
          have hq2b : q2 ≤ 60 := by rw [hq2e]; exact PB.out (j + 1) hje
          have HQ2 := Lib.hid hq2e
          have E2 : Hid (IntKind.i64.wrap ((q : Int) * (p : Int)) = (q2 : Int) ∧ wrap64 ((q : Int) * (p : Int)) = (q2 : Int)) := Lib.hid (by rw [show (q : Int) * (p : Int) = (q2 : Int) by rw [← hq2]; simp]; exact w64n (by omega))
          have EJ := Lib.hid (inc_wrap (i := j) (n := 100) (by omega) (by omega))
          clear hq2 hq2e hq2b
          obtain ⟨e2, e2'⟩ := E2.out
          obtain ⟨ej, ej'⟩ := EJ.out
          go_wp2_with fail
          clear e2 e2' ej ej'
          go_roundg (e - (j + 1))
          case measure => have := HGK2.out; omega
          case rel => exact ⟨j + 1, q2, rfl, rfl, hje, Lib.hid rfl, HQ2, rfl⟩
end Go.Proofs.YtbpkfcohbefphaaGreatDoor
