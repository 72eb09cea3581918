/- Lemmas, plain laws and walks that the statement LwClassNumber leans on (texts PsA, PhA, KrA), conditions as each theorem says. -/
import Derived.Lib.TrailingZeros
import Derived.Laws.Bits64b
import Derived.Test.YtbpkfcohbefphaaGreatDoorTopCnG10
import Derived.Test.YtbpkfcohbefphaaGreatDoorTopCnG14
import Derived.Test.YtbpkfcohbefphaaGreatDoorTopCnG17

namespace Go.Proofs.YtbpkfcohbefphaaGreatDoor
open Go Go.RowKit
theorem inRangeQ (n : Nat) (h1 : 1 ≤ n) (h2 : n ≤ 1000) (w : World) : Calls Tryz.prog 27 #[.int .i64 (n : Int)] w fun e w' => e = .returned (.bool true) ∧ w = w' := by
  have y1 : decide ((n : Int) ≥ 1) = true := by simp; omega
  have y2 : decide ((n : Int) ≤ 2147483647) = true := by simp; omega
  have y3 : decide (1 ≤ n) = true := by simp; omega
  go_enter Tryz.func27, Tryz.ntmps27
  go_wp2_with fail
  go_ret
  exact ⟨rfl, rfl⟩
set_option maxRecDepth 20000 in
set_option maxHeartbeats 8000000 in
theorem powQ (p e : Nat) (hp : 1 ≤ p) (he : e ≤ 10) (hb : p ^ e ≤ 1000) (w : World) : Calls Tryz.prog 72 #[.int .i64 (p : Int), .int .i64 (e : Int)] w fun x w' => x = .returned (.int .i64 ((p ^ e : Nat) : Int)) ∧ w = w' := by
  have HB : Hid (∀ i, i ≤ e → p ^ i ≤ 1000) := Lib.hid (fun i hi => Nat.le_trans (Nat.pow_le_pow_right hp hi) hb)
  clear hb
  go_enter Tryz.func72, Tryz.ntmps72
  go_wp2_with fail
  go_loopg [5, 7] e (fun gk t5 t7 wr => ∃ i q : Nat, t5 = .int .i64 (q : Int) ∧ t7 = .int .i64 (i : Int) ∧ i ≤ e ∧ Hid (gk = e - i) ∧ Hid (q = p ^ i) ∧ w = wr)
  case atStart => exact ⟨0, 1, rfl, rfl, Nat.zero_le _, Lib.hid rfl, Lib.hid rfl, rfl⟩
  case round =>
    obtain ⟨i, q, rfl, rfl, hi, HGK, HQ, rfl⟩ := hrel
    by_cases hie : i = e
    · have y1 : decide ((i : Int) < (e : Int)) = false := by simp; omega
      have y2 : ¬ (i < e) := by omega
      have HE : Hid (q = p ^ e) := Lib.hid (by rw [HQ.out, hie])
      clear hie
      go_wp2_with fail
      go_ret
      exact ⟨by rw [← HE.out]; rfl, rfl⟩
    · have hil : i < e := by omega
      have y1 : (i : Int) < (e : Int) := by omega
      obtain ⟨q2, hq2⟩ : ∃ x, q * p = x := ⟨_, rfl⟩
      have hq2b : q2 ≤ 1000 := by rw [← hq2, HQ.out, ← Nat.pow_succ]; exact HB.out (i + 1) hil
      have E1 : Hid (IntKind.i64.wrap ((q : Int) * (p : Int)) = (q2 : Int) ∧ wrap64 ((q : Int) * (p : Int)) = (q2 : Int)) := Lib.hid (by rw [show (q : Int) * (p : Int) = (q2 : Int) by rw [← hq2]; simp]; exact w64n (by omega))
      have HQ2 : Hid (q2 = p ^ (i + 1)) := Lib.hid (by rw [← hq2, HQ.out]; exact (Nat.pow_succ p i).symm)
      have YI := Lib.hid (inc_wrap (i := i) (n := 100) (by omega) (by omega))
      clear hq2 hie
      obtain ⟨x1, x2⟩ := E1.out
      obtain ⟨x3, x4⟩ := YI.out
      go_wp2_with fail
      clear x1 x2 x3 x4
      go_roundg (e - (i + 1))
      case measure => have := HGK.out; omega
      case rel => exact ⟨i + 1, q2, rfl, rfl, hil, Lib.hid rfl, HQ2, rfl⟩
def psF (p e : Nat) : Nat := p ^ (e - 1) * (p + 1)
set_option maxRecDepth 20000 in
set_option maxHeartbeats 8000000 in
theorem psi1Q (p e : Nat) (hp0 : 2 ≤ p) (hp : p ≤ 1001) (he0 : 1 ≤ e) (he : e ≤ 10) (hb : p ^ (e - 1) ≤ 1000) (w : World) : Calls Tryz.prog 71 #[.int .i64 (p : Int), .int .i64 (e : Int)] w fun x w' => x = .returned (.int .i64 ((psF p e : Nat) : Int)) ∧ w = w' := by
  obtain ⟨e1, he1⟩ : ∃ x, e - 1 = x := ⟨_, rfl⟩
  have PW := Lib.hid (fun u => powQ p e1 (by omega) (by omega) (by rw [← he1]; exact hb) u)
  obtain ⟨q, hq⟩ : ∃ x, p ^ e1 = x := ⟨_, rfl⟩
  have hqb : q ≤ 1000 := by rw [← hq, ← he1]; exact hb
  rw [hq] at PW
  obtain ⟨z, hz⟩ : ∃ x, psF p e = x := ⟨_, rfl⟩
  have hzq : q * (p + 1) = z := by rw [← hz, ← hq, ← he1]; rfl
  have hzb : z ≤ 1000 * 1002 := by rw [← hzq]; exact Nat.mul_le_mul hqb (by omega)
  rw [hz]
  obtain ⟨p1, hp1⟩ : ∃ x, p + 1 = x := ⟨_, rfl⟩
  rw [hp1] at hzq
  have E1 : Hid (IntKind.i64.wrap ((e : Int) - 1) = (e1 : Int) ∧ wrap64 ((e : Int) - 1) = (e1 : Int)) := Lib.hid (by rw [show (e : Int) - 1 = (e1 : Int) by omega]; exact w64n (by omega))
  have E2 : Hid (IntKind.i64.wrap ((p : Int) + 1) = (p1 : Int) ∧ wrap64 ((p : Int) + 1) = (p1 : Int)) := Lib.hid (by rw [show (p : Int) + 1 = (p1 : Int) by omega]; exact w64n (by omega))
  have E3 : Hid (IntKind.i64.wrap ((q : Int) * (p1 : Int)) = (z : Int) ∧ wrap64 ((q : Int) * (p1 : Int)) = (z : Int)) := Lib.hid (by rw [show (q : Int) * (p1 : Int) = (z : Int) by rw [← hzq]; simp]; exact w64n (by omega))
  clear hzq hz hq he1 hp1 hb
  obtain ⟨x1, x2⟩ := E1.out
  obtain ⟨x3, x4⟩ := E2.out
  obtain ⟨x5, x6⟩ := E3.out
  go_enter Tryz.func71, Tryz.ntmps71
  go_wp2_with (go_at_call 72; (with_reducible refine (PW.out _).mono ?_); (rintro x u2 ⟨rfl, rfl⟩))
  go_ret
  exact ⟨rfl, rfl⟩
/-- The two cells of product: the function, the product so far. -/
structure PrS (w0 : World) (out : Nat) (u : World) : Prop where
  grow : Grow w0 u
  c0 : u.cell? ⟨w0.heap.size, 0, none⟩ = some (.func (.func 71) #[] #[])
  c1 : u.cell? ⟨w0.heap.size + 1, 0, none⟩ = some (.int .i64 (out : Int))
  fr : ∀ o, u.frozen? ⟨w0.heap.size + 1, o, none⟩ = false
  lt : w0.heap.size + 1 < u.heap.size
def okPs (s p e : Nat) : Bool := decide (p ^ (e - 1) ≤ 1000) && decide (s * psF p e ≤ 1000000) && decide (s ≤ 1000000)
theorem PrS.put {w0 u : World} {s : Nat} (h : PrS w0 s u) (z : Nat) : PrS w0 z (u.setCell ⟨w0.heap.size + 1, 0, none⟩ (.int .i64 (z : Int))).drew := by
  have hb : But (fun b => b = w0.heap.size + 1) u (u.setCell ⟨w0.heap.size + 1, 0, none⟩ (.int .i64 (z : Int))) := (But.refl (fun b => b = w0.heap.size + 1) u).set _ (.inr rfl) (fun x => by rw [h.c1]; simp)
  have hd : Grow (u.setCell ⟨w0.heap.size + 1, 0, none⟩ (.int .i64 (z : Int))) (u.setCell ⟨w0.heap.size + 1, 0, none⟩ (.int .i64 (z : Int))).drew := (Grow.refl _).drew
  have hb2 := hb.grow hd
  have hl := h.lt
  exact ⟨((h.grow.but _).trans hb2).asGrow (fun b e => by omega), (hb2.cells _ _ (by omega) (by omega)).trans h.c0, (hd.cells _ _ (Nat.lt_of_lt_of_le hl hb.size)).trans (World.cell?_setCell_same _ _ _ h.c1), fun o => (hb2.frees _ _ hl).trans (h.fr o), Nat.lt_of_lt_of_le hl hb2.size⟩
set_option maxRecDepth 20000 in
set_option maxHeartbeats 8000000 in
theorem prod1Q (w0 : World) (s p e : Nat) (hp0 : 2 ≤ p) (hp1 : p ≤ 1001) (he0 : 1 ≤ e) (he1 : e ≤ 10) (hok : okPs s p e = true) (u : World) (hS : PrS w0 s u) :
    Calls Tryz.prog 100 #[.int .i64 (p : Int), .int .i64 (e : Int), .pointer (some ⟨w0.heap.size + 1, 0, none⟩), .pointer (some ⟨w0.heap.size, 0, none⟩)] u fun x w' => x = .returned (.tuple #[]) ∧ PrS w0 (s * psF p e) w' := by
  unfold okPs at hok
  simp only [Bool.and_eq_true, decide_eq_true_eq] at hok
  obtain ⟨⟨hk1, hk2⟩, hk3⟩ := hok
  have P1 := Lib.hid (fun v => psi1Q p e hp0 hp1 he0 he1 hk1 v)
  obtain ⟨q, hq⟩ : ∃ q, psF p e = q := ⟨_, rfl⟩
  rw [hq] at P1 hk2 ⊢
  obtain ⟨z, hz⟩ : ∃ z, s * q = z := ⟨_, rfl⟩
  rw [hz] at hk2 ⊢
  have E3 : Hid (IntKind.i64.wrap ((s : Int) * (q : Int)) = (z : Int) ∧ wrap64 ((s : Int) * (q : Int)) = (z : Int)) := Lib.hid (by rw [show (s : Int) * (q : Int) = (z : Int) by rw [← hz]; simp]; exact w64n (by omega))
  have hl0 := hS.lt
  have D0 := Lib.hid (fun (v : World) (hv : Grow u v) => (⟨(hv.cells _ _ (by omega)).trans hS.c0, (hv.cells _ _ (by omega)).trans hS.c1, fun o => (hv.frees _ _ (by omega)).trans (hS.fr o), Nat.lt_of_lt_of_le hS.lt hv.size, hv⟩ : v.cell? ⟨w0.heap.size, 0, none⟩ = some (.func (.func 71) #[] #[]) ∧ v.cell? ⟨w0.heap.size + 1, 0, none⟩ = some (.int .i64 (s : Int)) ∧ (∀ o, v.frozen? ⟨w0.heap.size + 1, o, none⟩ = false) ∧ w0.heap.size + 1 < v.heap.size ∧ Grow u v))
  have HS := Lib.hid hS
  clear hS hq hz hk1
  obtain ⟨x5, x6⟩ := E3.out
  go_enter Tryz.func100, Tryz.ntmps100
  go_upto_region 0 with fail
  refine region_held (id := 0) (fun v => Grow u v) [0, 1, 2, 3, 4, 5, 6] (kdL [1, 1, 0, 0, 2, 0, 3]) (by kernel_rfl) (by kernel_rfl) (fun t ht => kdL_lt _ t ht) ?hS0p ?_
  case hS0p => ((try dsimp only); (repeat (first | with_reducible exact Grow.refl _ | with_reducible refine Grow.alloc ?_ _ | with_reducible refine Grow.drew ?_ | with_reducible refine Grow.drewN ?_ _ | (with_reducible refine Grow.setCell ?_ ?hp _; (case hp => (simp; try omega))) | with_reducible refine Grow.trans ?_ (by assumption))))
  refine held_read (v := ?vp0) rfl rfl (Or.inl ⟨by rfl, ?hyp0⟩) ?_
  case hyp0 => (intro u hu; obtain ⟨f0, f1, f2, f3, f4⟩ := D0.out u hu; go_simp; (try with_reducible rfl))
  (try simp only [Act.put, List.setIfInBounds_toArray, List.set_cons_zero, List.set_cons_succ])
  refine held_read (v := ?vp1) rfl rfl (Or.inl ⟨by rfl, ?hyp1⟩) ?_
  case hyp1 => (intro u hu; obtain ⟨f0, f1, f2, f3, f4⟩ := D0.out u hu; go_simp; (try with_reducible rfl))
  (try simp only [Act.put, List.setIfInBounds_toArray, List.set_cons_zero, List.set_cons_succ])
  refine held_quiet (v := ?vp2) rfl rfl (Or.inl ⟨by rfl, ?hyp2⟩) ?_
  case hyp2 => (intro u hu; go_simp; (try with_reducible rfl))
  (try simp only [Act.put, List.setIfInBounds_toArray, List.set_cons_zero, List.set_cons_succ])
  refine held_quiet (v := ?vp3) rfl rfl (Or.inl ⟨by rfl, ?hyp3⟩) ?_
  case hyp3 => (intro u hu; go_simp; (try with_reducible rfl))
  (try simp only [Act.put, List.setIfInBounds_toArray, List.set_cons_zero, List.set_cons_succ])
  refine held_op rfl rfl (fun K hK => ?_)
  go_simp
  (go_at_call 71; (with_reducible refine (P1.out _).mono ?_); (rintro e u4 ⟨rfl, rfl⟩; obtain ⟨f0, f1, f2, f3, f4⟩ := D0.out u (Grow.refl _)))
  (try go_wp2_with fail)
  refine hK.out _ _ ?hSp4 ?_
  case hSp4 => ((try dsimp only); (repeat (first | with_reducible exact Grow.refl _ | with_reducible refine Grow.alloc ?_ _ | with_reducible refine Grow.drew ?_ | with_reducible refine Grow.drewN ?_ _ | (with_reducible refine Grow.setCell ?_ ?hp _; (case hp => (simp; try omega))) | with_reducible refine Grow.trans ?_ (by assumption))))
  clear hK K
  (try simp only [Act.put, List.setIfInBounds_toArray, List.set_cons_zero, List.set_cons_succ])
  refine held_quiet (v := ?vp5) rfl rfl (Or.inl ⟨by rfl, ?hyp5⟩) ?_
  case hyp5 => (intro u hu; go_simp; (try with_reducible rfl))
  (try simp only [Act.put, List.setIfInBounds_toArray, List.set_cons_zero, List.set_cons_succ])
  refine held_last rfl rfl (fun K hK => ?_)
  go_simp
  refine hK.out _ _ ?_
  clear hK K
  (try simp only [Act.put, List.setIfInBounds_toArray, List.set_cons_zero, List.set_cons_succ])
  refine held_done ?_
  go_wp2_with fail
  refine bodyPost_end (results_none rfl _ _ _) rfl ?_
  exact ⟨rfl, HS.out.put z⟩
def psiN (n : Nat) : Nat := foldS (fun s p e => s * psF p e) (faL 33 n 2) 1
set_option maxRecDepth 20000 in
set_option maxHeartbeats 8000000 in
theorem productQ (n : Nat) (h1 : 1 ≤ n) (h2 : n ≤ 1000) (hok : okS (fun s p e => okPs s p e = true) (fun s p e => s * psF p e) (faL 33 n 2) 1) (w : World) :
    Calls Tryz.prog 70 #[.int .i64 (n : Int), .func (.func 71) #[] #[]] w fun x w' => x = .returned (.tuple #[.int .i64 (psiN n : Nat), .int .i64 0]) ∧ Grow w w' := by
  have IR := Lib.hid (fun u => inRangeQ n h1 h2 u)
  have FC := Lib.hid (fun u (hu : PrS w 1 u) => factorsP (fun s u => PrS w s u) (fun s p e => okPs s p e = true) (fun s p e => s * psF p e) (.pointer (some ⟨w.heap.size + 1, 0, none⟩)) (.pointer (some ⟨w.heap.size, 0, none⟩)) (fun s p e u a b c d ok hs => prod1Q w s p e a b c d ok u hs) n h1 h2 1 hok u hu)
  have hmf : ∀ (fn : Fn) (first cap : Array Value) (w : World), (Instr.makeFunc fn first cap).run Tryz.prog w = .ok (.func fn first cap) w := fun _ _ _ _ => rfl
  obtain ⟨W1, hW1⟩ : ∃ W1 : World, W1 = w.alloc (.cells #[.func (.func 71) #[] #[]] 59) := ⟨_, rfl⟩
  obtain ⟨W2, hW2⟩ : ∃ W2 : World, W2 = W1.alloc (.cells #[.int .i64 1] 3) := ⟨_, rfl⟩
  have hz1 : W1.heap.size = w.heap.size + 1 := by rw [hW1]; simp
  have HP : Hid (PrS w 1 W2) := Lib.hid (by
    obtain ⟨a0, -, a2⟩ := ak1 hW1 W2 (ag hW2)
    obtain ⟨b0, b1, b2⟩ := ak1 hW2 W2 (Grow.refl _)
    rw [hz1] at b0 b1 b2
    exact ⟨(ag hW1).trans (ag hW2), a0, b0, b1, b2⟩)
  have HW1 := Lib.hid hW1
  have HW2 := Lib.hid hW2
  have HZ1 := Lib.hid hz1
  clear hW1 hW2 hz1 hok
  go_enter Tryz.func70, Tryz.ntmps70
  go_upto_region 1 with fail
  rw [← HW1.out]
  go_upto_region 4 with (go_at_call 27; (with_reducible refine (IR.out _).mono ?_); (rintro x u2 ⟨rfl, rfl⟩))
  rw [← HW2.out, HZ1.out]
  go_wp2_with (go_at_call 28; (with_reducible refine (FC.out _ HP.out).mono ?_); (rintro x u3 ⟨rfl, hp3⟩; have HP3 := Lib.hid hp3; have c1 := hp3.c1; clear hp3))
  refine bodyPost_ret (v := .tuple #[.int .i64 ((psiN n : Nat) : Int), .int .i64 0]) (by rw [results_pair rfl]; first | rfl | go_simp) rfl ?_
  exact ⟨rfl, HP3.out.grow⟩
theorem okS_ps : ∀ n, n < 61 → n = 0 ∨ okSB (fun s p e => okPs s p e) (fun s p e => s * psF p e) (faL 33 n 2) 1 = true := by decide +kernel
theorem psiQ (n : Nat) (h1 : 1 ≤ n) (h2 : n ≤ 60) (w : World) : Calls Tryz.prog 42 #[.int .i64 (n : Int)] w fun x w' => x = .returned (.tuple #[.int .i64 (psiN n : Nat), .int .i64 0]) ∧ Grow w w' := by
  have PR := Lib.hid (fun u => productQ n h1 (by omega) (okS_of (by
    rcases okS_ps n (by omega) with h | h
    · omega
    · exact h)) u)
  go_enter Tryz.func42, Tryz.ntmps42
  go_wp2_with (go_at_call 70; (with_reducible refine (PR.out _).mono ?_); (rintro x u2 ⟨rfl, hb2⟩))
  refine bodyPost_ret (v := .tuple #[.int .i64 ((psiN n : Nat) : Int), .int .i64 0]) (by rw [results_pair rfl]; first | rfl | go_simp) rfl ?_
  exact ⟨rfl, hb2⟩
end Go.Proofs.YtbpkfcohbefphaaGreatDoor
namespace Go.Proofs.YtbpkfcohbefphaaGreatDoor
open Go Go.RowKit
def phF (p e : Nat) : Nat := p ^ (e - 1) * (p - 1)
set_option maxRecDepth 20000 in
set_option maxHeartbeats 8000000 in
theorem phi1Q (p e : Nat) (hp0 : 2 ≤ p) (hp : p ≤ 1001) (he0 : 1 ≤ e) (he : e ≤ 10) (hb : p ^ (e - 1) ≤ 1000) (w : World) : Calls Tryz.prog 99 #[.int .i64 (p : Int), .int .i64 (e : Int)] w fun x w' => x = .returned (.int .i64 ((phF p e : Nat) : Int)) ∧ w = w' := by
  obtain ⟨e1, he1⟩ : ∃ x, e - 1 = x := ⟨_, rfl⟩
  have PW := Lib.hid (fun u => powQ p e1 (by omega) (by omega) (by rw [← he1]; exact hb) u)
  obtain ⟨q, hq⟩ : ∃ x, p ^ e1 = x := ⟨_, rfl⟩
  have hqb : q ≤ 1000 := by rw [← hq, ← he1]; exact hb
  rw [hq] at PW
  obtain ⟨z, hz⟩ : ∃ x, phF p e = x := ⟨_, rfl⟩
  have hzq : q * (p - 1) = z := by rw [← hz, ← hq, ← he1]; rfl
  have hzb : z ≤ 1000 * 1002 := by rw [← hzq]; exact Nat.mul_le_mul hqb (by omega)
  rw [hz]
  obtain ⟨p1, hp1⟩ : ∃ x, p - 1 = x := ⟨_, rfl⟩
  rw [hp1] at hzq
  have E1 : Hid (IntKind.i64.wrap ((e : Int) - 1) = (e1 : Int) ∧ wrap64 ((e : Int) - 1) = (e1 : Int)) := Lib.hid (by rw [show (e : Int) - 1 = (e1 : Int) by omega]; exact w64n (by omega))
  have E2 : Hid (IntKind.i64.wrap ((p : Int) - 1) = (p1 : Int) ∧ wrap64 ((p : Int) - 1) = (p1 : Int)) := Lib.hid (by rw [show (p : Int) - 1 = (p1 : Int) by omega]; exact w64n (by omega))
  have E3 : Hid (IntKind.i64.wrap ((q : Int) * (p1 : Int)) = (z : Int) ∧ wrap64 ((q : Int) * (p1 : Int)) = (z : Int)) := Lib.hid (by rw [show (q : Int) * (p1 : Int) = (z : Int) by rw [← hzq]; simp]; exact w64n (by omega))
  clear hzq hz hq he1 hp1 hb
  obtain ⟨x1, x2⟩ := E1.out
  obtain ⟨x3, x4⟩ := E2.out
  obtain ⟨x5, x6⟩ := E3.out
  go_enter Tryz.func99, Tryz.ntmps99
  go_wp2_with (go_at_call 72; (with_reducible refine (PW.out _).mono ?_); (rintro x u2 ⟨rfl, rfl⟩))
  go_ret
  exact ⟨rfl, rfl⟩
/-- The two cells of product: the function, the product so far. -/
structure PrHS (w0 : World) (out : Nat) (u : World) : Prop where
  grow : Grow w0 u
  c0 : u.cell? ⟨w0.heap.size, 0, none⟩ = some (.func (.func 99) #[] #[])
  c1 : u.cell? ⟨w0.heap.size + 1, 0, none⟩ = some (.int .i64 (out : Int))
  fr : ∀ o, u.frozen? ⟨w0.heap.size + 1, o, none⟩ = false
  lt : w0.heap.size + 1 < u.heap.size
def okPh (s p e : Nat) : Bool := decide (p ^ (e - 1) ≤ 1000) && decide (s * phF p e ≤ 1000000) && decide (s ≤ 1000000)
theorem PrHS.put {w0 u : World} {s : Nat} (h : PrHS w0 s u) (z : Nat) : PrHS w0 z (u.setCell ⟨w0.heap.size + 1, 0, none⟩ (.int .i64 (z : Int))).drew := by
  have hb : But (fun b => b = w0.heap.size + 1) u (u.setCell ⟨w0.heap.size + 1, 0, none⟩ (.int .i64 (z : Int))) := (But.refl (fun b => b = w0.heap.size + 1) u).set _ (.inr rfl) (fun x => by rw [h.c1]; simp)
  have hd : Grow (u.setCell ⟨w0.heap.size + 1, 0, none⟩ (.int .i64 (z : Int))) (u.setCell ⟨w0.heap.size + 1, 0, none⟩ (.int .i64 (z : Int))).drew := (Grow.refl _).drew
  have hb2 := hb.grow hd
  have hl := h.lt
  exact ⟨((h.grow.but _).trans hb2).asGrow (fun b e => by omega), (hb2.cells _ _ (by omega) (by omega)).trans h.c0, (hd.cells _ _ (Nat.lt_of_lt_of_le hl hb.size)).trans (World.cell?_setCell_same _ _ _ h.c1), fun o => (hb2.frees _ _ hl).trans (h.fr o), Nat.lt_of_lt_of_le hl hb2.size⟩
set_option maxRecDepth 20000 in
set_option maxHeartbeats 8000000 in
theorem prodH1Q (w0 : World) (s p e : Nat) (hp0 : 2 ≤ p) (hp1 : p ≤ 1001) (he0 : 1 ≤ e) (he1 : e ≤ 10) (hok : okPh s p e = true) (u : World) (hS : PrHS w0 s u) :
    Calls Tryz.prog 100 #[.int .i64 (p : Int), .int .i64 (e : Int), .pointer (some ⟨w0.heap.size + 1, 0, none⟩), .pointer (some ⟨w0.heap.size, 0, none⟩)] u fun x w' => x = .returned (.tuple #[]) ∧ PrHS w0 (s * phF p e) w' := by
  unfold okPh at hok
  simp only [Bool.and_eq_true, decide_eq_true_eq] at hok
  obtain ⟨⟨hk1, hk2⟩, hk3⟩ := hok
  have P1 := Lib.hid (fun v => phi1Q p e hp0 hp1 he0 he1 hk1 v)
  obtain ⟨q, hq⟩ : ∃ q, phF p e = q := ⟨_, rfl⟩
  rw [hq] at P1 hk2 ⊢
  obtain ⟨z, hz⟩ : ∃ z, s * q = z := ⟨_, rfl⟩
  rw [hz] at hk2 ⊢
  have E3 : Hid (IntKind.i64.wrap ((s : Int) * (q : Int)) = (z : Int) ∧ wrap64 ((s : Int) * (q : Int)) = (z : Int)) := Lib.hid (by rw [show (s : Int) * (q : Int) = (z : Int) by rw [← hz]; simp]; exact w64n (by omega))
  have hl0 := hS.lt
  have D0 := Lib.hid (fun (v : World) (hv : Grow u v) => (⟨(hv.cells _ _ (by omega)).trans hS.c0, (hv.cells _ _ (by omega)).trans hS.c1, fun o => (hv.frees _ _ (by omega)).trans (hS.fr o), Nat.lt_of_lt_of_le hS.lt hv.size, hv⟩ : v.cell? ⟨w0.heap.size, 0, none⟩ = some (.func (.func 99) #[] #[]) ∧ v.cell? ⟨w0.heap.size + 1, 0, none⟩ = some (.int .i64 (s : Int)) ∧ (∀ o, v.frozen? ⟨w0.heap.size + 1, o, none⟩ = false) ∧ w0.heap.size + 1 < v.heap.size ∧ Grow u v))
  have HS := Lib.hid hS
  clear hS hq hz hk1
  obtain ⟨x5, x6⟩ := E3.out
  go_enter Tryz.func100, Tryz.ntmps100
  go_upto_region 0 with fail
  refine region_held (id := 0) (fun v => Grow u v) [0, 1, 2, 3, 4, 5, 6] (kdL [1, 1, 0, 0, 2, 0, 3]) (by kernel_rfl) (by kernel_rfl) (fun t ht => kdL_lt _ t ht) ?hS0p ?_
  case hS0p => ((try dsimp only); (repeat (first | with_reducible exact Grow.refl _ | with_reducible refine Grow.alloc ?_ _ | with_reducible refine Grow.drew ?_ | with_reducible refine Grow.drewN ?_ _ | (with_reducible refine Grow.setCell ?_ ?hp _; (case hp => (simp; try omega))) | with_reducible refine Grow.trans ?_ (by assumption))))
  refine held_read (v := ?vp0) rfl rfl (Or.inl ⟨by rfl, ?hyp0⟩) ?_
  case hyp0 => (intro u hu; obtain ⟨f0, f1, f2, f3, f4⟩ := D0.out u hu; go_simp; (try with_reducible rfl))
  (try simp only [Act.put, List.setIfInBounds_toArray, List.set_cons_zero, List.set_cons_succ])
  refine held_read (v := ?vp1) rfl rfl (Or.inl ⟨by rfl, ?hyp1⟩) ?_
  case hyp1 => (intro u hu; obtain ⟨f0, f1, f2, f3, f4⟩ := D0.out u hu; go_simp; (try with_reducible rfl))
  (try simp only [Act.put, List.setIfInBounds_toArray, List.set_cons_zero, List.set_cons_succ])
  refine held_quiet (v := ?vp2) rfl rfl (Or.inl ⟨by rfl, ?hyp2⟩) ?_
  case hyp2 => (intro u hu; go_simp; (try with_reducible rfl))
  (try simp only [Act.put, List.setIfInBounds_toArray, List.set_cons_zero, List.set_cons_succ])
  refine held_quiet (v := ?vp3) rfl rfl (Or.inl ⟨by rfl, ?hyp3⟩) ?_
  case hyp3 => (intro u hu; go_simp; (try with_reducible rfl))
  (try simp only [Act.put, List.setIfInBounds_toArray, List.set_cons_zero, List.set_cons_succ])
  refine held_op rfl rfl (fun K hK => ?_)
  go_simp
  (go_at_call 99; (with_reducible refine (P1.out _).mono ?_); (rintro e u4 ⟨rfl, rfl⟩; obtain ⟨f0, f1, f2, f3, f4⟩ := D0.out u (Grow.refl _)))
  (try go_wp2_with fail)
  refine hK.out _ _ ?hSp4 ?_
  case hSp4 => ((try dsimp only); (repeat (first | with_reducible exact Grow.refl _ | with_reducible refine Grow.alloc ?_ _ | with_reducible refine Grow.drew ?_ | with_reducible refine Grow.drewN ?_ _ | (with_reducible refine Grow.setCell ?_ ?hp _; (case hp => (simp; try omega))) | with_reducible refine Grow.trans ?_ (by assumption))))
  clear hK K
  (try simp only [Act.put, List.setIfInBounds_toArray, List.set_cons_zero, List.set_cons_succ])
  refine held_quiet (v := ?vp5) rfl rfl (Or.inl ⟨by rfl, ?hyp5⟩) ?_
  case hyp5 => (intro u hu; go_simp; (try with_reducible rfl))
  (try simp only [Act.put, List.setIfInBounds_toArray, List.set_cons_zero, List.set_cons_succ])
  refine held_last rfl rfl (fun K hK => ?_)
  go_simp
  refine hK.out _ _ ?_
  clear hK K
  (try simp only [Act.put, List.setIfInBounds_toArray, List.set_cons_zero, List.set_cons_succ])
  refine held_done ?_
  go_wp2_with fail
  refine bodyPost_end (results_none rfl _ _ _) rfl ?_
  exact ⟨rfl, HS.out.put z⟩
def phiN (n : Nat) : Nat := foldS (fun s p e => s * phF p e) (faL 33 n 2) 1
set_option maxRecDepth 20000 in
set_option maxHeartbeats 8000000 in
theorem productHQ (n : Nat) (h1 : 1 ≤ n) (h2 : n ≤ 1000) (hok : okS (fun s p e => okPh s p e = true) (fun s p e => s * phF p e) (faL 33 n 2) 1) (w : World) :
    Calls Tryz.prog 70 #[.int .i64 (n : Int), .func (.func 99) #[] #[]] w fun x w' => x = .returned (.tuple #[.int .i64 (phiN n : Nat), .int .i64 0]) ∧ Grow w w' := by
  have IR := Lib.hid (fun u => inRangeQ n h1 h2 u)
  have FC := Lib.hid (fun u (hu : PrHS w 1 u) => factorsP (fun s u => PrHS w s u) (fun s p e => okPh s p e = true) (fun s p e => s * phF p e) (.pointer (some ⟨w.heap.size + 1, 0, none⟩)) (.pointer (some ⟨w.heap.size, 0, none⟩)) (fun s p e u a b c d ok hs => prodH1Q w s p e a b c d ok u hs) n h1 h2 1 hok u hu)
  have hmf : ∀ (fn : Fn) (first cap : Array Value) (w : World), (Instr.makeFunc fn first cap).run Tryz.prog w = .ok (.func fn first cap) w := fun _ _ _ _ => rfl
  obtain ⟨W1, hW1⟩ : ∃ W1 : World, W1 = w.alloc (.cells #[.func (.func 99) #[] #[]] 59) := ⟨_, rfl⟩
  obtain ⟨W2, hW2⟩ : ∃ W2 : World, W2 = W1.alloc (.cells #[.int .i64 1] 3) := ⟨_, rfl⟩
  have hz1 : W1.heap.size = w.heap.size + 1 := by rw [hW1]; simp
  have HP : Hid (PrHS w 1 W2) := Lib.hid (by
    obtain ⟨a0, -, a2⟩ := ak1 hW1 W2 (ag hW2)
    obtain ⟨b0, b1, b2⟩ := ak1 hW2 W2 (Grow.refl _)
    rw [hz1] at b0 b1 b2
    exact ⟨(ag hW1).trans (ag hW2), a0, b0, b1, b2⟩)
  have HW1 := Lib.hid hW1
  have HW2 := Lib.hid hW2
  have HZ1 := Lib.hid hz1
  clear hW1 hW2 hz1 hok
  go_enter Tryz.func70, Tryz.ntmps70
  go_upto_region 1 with fail
  rw [← HW1.out]
  go_upto_region 4 with (go_at_call 27; (with_reducible refine (IR.out _).mono ?_); (rintro x u2 ⟨rfl, rfl⟩))
  rw [← HW2.out, HZ1.out]
  go_wp2_with (go_at_call 28; (with_reducible refine (FC.out _ HP.out).mono ?_); (rintro x u3 ⟨rfl, hp3⟩; have HP3 := Lib.hid hp3; have c1 := hp3.c1; clear hp3))
  refine bodyPost_ret (v := .tuple #[.int .i64 ((phiN n : Nat) : Int), .int .i64 0]) (by rw [results_pair rfl]; first | rfl | go_simp) rfl ?_
  exact ⟨rfl, HP3.out.grow⟩
theorem okS_ph : ∀ n, n < 61 → n = 0 ∨ okSB (fun s p e => okPh s p e) (fun s p e => s * phF p e) (faL 33 n 2) 1 = true := by decide +kernel
theorem phiQ (n : Nat) (h1 : 1 ≤ n) (h2 : n ≤ 60) (w : World) : Calls Tryz.prog 67 #[.int .i64 (n : Int)] w fun x w' => x = .returned (.tuple #[.int .i64 (phiN n : Nat), .int .i64 0]) ∧ Grow w w' := by
  have PR := Lib.hid (fun u => productHQ n h1 (by omega) (okS_of (by
    rcases okS_ph n (by omega) with h | h
    · omega
    · exact h)) u)
  go_enter Tryz.func67, Tryz.ntmps67
  go_wp2_with (go_at_call 70; (with_reducible refine (PR.out _).mono ?_); (rintro x u2 ⟨rfl, hb2⟩))
  refine bodyPost_ret (v := .tuple #[.int .i64 ((phiN n : Nat) : Int), .int .i64 0]) (by rw [results_pair rfl]; first | rfl | go_simp) rfl ?_
  exact ⟨rfl, hb2⟩
end Go.Proofs.YtbpkfcohbefphaaGreatDoor
namespace Go.Proofs.YtbpkfcohbefphaaGreatDoor
open Go Go.RowKit
/-- The library's table of trailing zeros. -/
def TabB (w : World) : Prop := 0 < w.heap.size ∧ ∀ j, j < 64 → w.cell? ⟨0, j, none⟩ = some (.int .u8 ((Lib.deBruijn64tab.getD j 0 : Nat) : Int))
theorem TabB.grow {w w' : World} (h : TabB w) (hg : Grow w w') : TabB w' :=
  ⟨Nat.lt_of_lt_of_le h.1 hg.size, fun j hj => (hg.cells _ _ h.1).trans (h.2 j hj)⟩
theorem tz_idx (x a : Nat) (hx : x < 18446744073709551616) (hx0 : x ≠ 0) (hlow : x &&& (18446744073709551616 - x) = a) :
    IntKind.u64.wrap (bits BinOp.and IntKind.u64 (x : Int) (IntKind.u64.wrap (-(x : Int))) * 285870213051353865) / 288230376151711744 = ((a * 285870213051353865 % 18446744073709551616 / 288230376151711744 : Nat) : Int) := by
  have e1 : IntKind.u64.wrap (-(x : Int)) = ((18446744073709551616 - x : Nat) : Int) := by rw [IntKind.wrap_u64]; omega
  rw [e1, bits_and_u64_nat x _ hx (by omega), hlow, IntKind.wrap_u64]
  omega
set_option maxHeartbeats 4000000 in
theorem tz_core (x k idx : Nat) (w : World) (hx0 : ((x : Int) == 0) = false)
    (key : IntKind.u64.wrap (bits BinOp.and IntKind.u64 (x : Int) (IntKind.u64.wrap (-(x : Int))) * 285870213051353865) / 288230376151711744 = (idx : Int))
    (hi : idx < 64) (hk : k < 64) (hcell : w.cell? ⟨0, idx, none⟩ = some (.int .u8 (k : Int))) :
    Calls Tryz.prog 59 #[.int .u64 (x : Int)] w fun e w' => e = .returned (.int .i64 (k : Int)) ∧ w = w' := by
  go_enter Tryz.func59, Tryz.ntmps59
  go_wp2_with (simp only [key])
  go_ret
  exact ⟨rfl, rfl⟩
theorem tzQ (x : Nat) (hx : x < 18446744073709551616) (hx0 : x ≠ 0) (w : World) (hT : TabB w) :
    Calls Tryz.prog 59 #[.int .u64 (x : Int)] w fun e w' => e = .returned (.int .i64 ((Lib.ctz 64 x : Nat) : Int)) ∧ w = w' := by
  obtain ⟨hlow, hk⟩ := Lib.lowest_bit 64 x hx0 hx
  obtain ⟨hi, htab⟩ := Lib.deBruijn64_at _ hk
  have hcell := hT.2 _ hi
  rw [htab] at hcell
  exact tz_core x _ _ w (by simp; omega) (tz_idx x _ hx hx0 hlow) hi hk hcell
/-- One step's change of sign. -/
def jcS1 (z m : Nat) (o : Int) : Int := if z % 2 = 1 ∧ (m % 8 = 3 ∨ m % 8 = 5) then -o else o
def jcS2 (a m : Nat) (o : Int) : Int := if a % 4 = 3 ∧ m % 4 = 3 then -o else o
/-- The Jacobi symbol, step by step. -/
def jcL : Nat → Nat → Nat → Int → Int
  | 0, _, m, o => if m = 1 then o else 0
  | f + 1, a, m, o => if a = 0 then (if m = 1 then o else 0) else
      jcL f (m % (a / 2 ^ Lib.ctz 64 a)) (a / 2 ^ Lib.ctz 64 a) (jcS2 (a / 2 ^ Lib.ctz 64 a) m (jcS1 (Lib.ctz 64 a) m o))
def jcN (a m : Nat) : Int := jcL a a m 1
theorem jcL_zero (f m : Nat) (o : Int) : jcL f 0 m o = if m = 1 then o else 0 := by cases f <;> rfl
theorem jcS1_pm {z m : Nat} {o : Int} (h : o = 1 ∨ o = -1) : jcS1 z m o = 1 ∨ jcS1 z m o = -1 := by unfold jcS1; split <;> omega
theorem jcS2_pm {a m : Nat} {o : Int} (h : o = 1 ∨ o = -1) : jcS2 a m o = 1 ∨ jcS2 a m o = -1 := by unfold jcS2; split <;> omega
theorem jcL_abs : ∀ (f a m : Nat) (o : Int), (o = 1 ∨ o = -1) → (jcL f a m o).natAbs ≤ 1
  | 0, a, m, o, h => by unfold jcL; split <;> omega
  | f + 1, a, m, o, h => by
    unfold jcL
    split
    · split <;> omega
    · exact jcL_abs f _ _ _ (jcS2_pm (jcS1_pm h))
theorem jcN_abs (a m : Nat) : (jcN a m).natAbs ≤ 1 := jcL_abs _ _ _ _ (.inl rfl)
theorem ctz_tab : ∀ x, x < 128 → x ≠ 0 → 1 ≤ x / 2 ^ Lib.ctz 64 x ∧ x / 2 ^ Lib.ctz 64 x ≤ x ∧ Lib.ctz 64 x < 64 := by decide +kernel
set_option maxRecDepth 20000 in
set_option maxHeartbeats 8000000 in
theorem jacobiQ (a m : Nat) (ha : a < 128) (hm : m < 128) (w : World) (hT : TabB w) : Calls Tryz.prog 61 #[.int .u64 (a : Int), .int .u64 (m : Int)] w fun e w' => e = .returned (.int .i64 (jcN a m)) ∧ w = w' := by
  obtain ⟨R, hR⟩ : ∃ R, jcL a a m 1 = R := ⟨_, rfl⟩
  have hjc : jcN a m = R := hR
  rw [hjc]
  have TZ := Lib.hid (fun x (hx : x < 128) (h0 : x ≠ 0) => tzQ x (by omega) h0 w hT)
  have HR := Lib.hid hR
  clear hR hjc hT
  go_enter Tryz.func61, Tryz.ntmps61
  go_wp2_with fail
  go_loopg [0, 1, 5] a (fun gk t0 t1 t5 wr => ∃ (x y : Nat) (o : Int), t0 = .int .u64 (x : Int) ∧ t1 = .int .u64 (y : Int) ∧ t5 = .int .i64 o ∧ x < 128 ∧ y < 128 ∧ x ≤ gk ∧ Hid (o = 1 ∨ o = -1) ∧ Hid (jcL gk x y o = R) ∧ wr = w)
  case atStart => exact ⟨a, m, 1, rfl, rfl, rfl, ha, hm, Nat.le_refl _, Lib.hid (.inl rfl), HR, rfl⟩
  case round =>
    obtain ⟨x, y, o, rfl, rfl, rfl, hx, hy, hxk, HO, HJ, rfl⟩ := hrel
    by_cases hx0 : x = 0
    · subst hx0
      have hj := HJ.out
      rw [jcL_zero] at hj
      by_cases hy1 : y = 1
      · subst hy1
        rw [if_pos rfl] at hj
        have HJ2 := Lib.hid hj
        clear hj
        go_wp2_with fail
        go_ret
        exact ⟨by rw [HJ2.out]; rfl, rfl⟩
      · have hyb : ((y : Int) != 1) = true := by simp; omega
        rw [if_neg hy1] at hj
        have HJ2 := Lib.hid hj
        clear hj
        go_wp2_with fail
        go_ret
        exact ⟨by rw [← HJ2.out]; rfl, rfl⟩
    · obtain ⟨q1, q2, q3⟩ := ctz_tab x hx hx0
      obtain ⟨g, hg⟩ : ∃ g, gk = g + 1 := ⟨gk - 1, by omega⟩
      have hj := HJ.out
      rw [hg] at hj
      unfold jcL at hj
      rw [if_neg hx0] at hj
      have TZX := Lib.hid (TZ.out x hx hx0)
      obtain ⟨z, hz⟩ : ∃ z, Lib.ctz 64 x = z := ⟨_, rfl⟩
      rw [hz] at hj q1 q2 q3 TZX
      obtain ⟨x1, hx1⟩ : ∃ x1, x / 2 ^ z = x1 := ⟨_, rfl⟩
      rw [hx1] at hj q1 q2
      have E1 : Hid ((x : Int) / 2 ^ ((z : Int)).toNat = (x1 : Int) ∧ (x : Int) / 2 ^ z = (x1 : Int)) := Lib.hid (by
        have e : (x : Int) / 2 ^ z = (x1 : Int) := by rw [← hx1]; simp
        exact ⟨by rw [Int.toNat_natCast]; exact e, e⟩)
      obtain ⟨r, hr⟩ : ∃ r, z % 2 = r := ⟨_, rfl⟩
      obtain ⟨y8, hy8⟩ : ∃ y8, y % 8 = y8 := ⟨_, rfl⟩
      obtain ⟨y4, hy4⟩ : ∃ y4, y % 4 = y4 := ⟨_, rfl⟩
      obtain ⟨x4, hx4⟩ : ∃ x4, x1 % 4 = x4 := ⟨_, rfl⟩
      obtain ⟨y', hy'⟩ : ∃ y', y % x1 = y' := ⟨_, rfl⟩
      have T1 : Hid (Int.tmod (z : Int) 2 = (r : Int) ∧ (z : Int) % 2 = (r : Int)) := Lib.hid (by rw [Int.tmod_eq_emod_of_nonneg (by omega)]; omega)
      have T2 : Hid (Int.tmod (y : Int) 8 = (y8 : Int) ∧ (y : Int) % 8 = (y8 : Int)) := Lib.hid (by rw [Int.tmod_eq_emod_of_nonneg (by omega)]; omega)
      have T3 : Hid (Int.tmod (x1 : Int) 4 = (x4 : Int) ∧ (x1 : Int) % 4 = (x4 : Int)) := Lib.hid (by rw [Int.tmod_eq_emod_of_nonneg (by omega)]; omega)
      have T4 : Hid (Int.tmod (y : Int) 4 = (y4 : Int) ∧ (y : Int) % 4 = (y4 : Int)) := Lib.hid (by rw [Int.tmod_eq_emod_of_nonneg (by omega)]; omega)
      have T5 : Hid (Int.tmod (y : Int) (x1 : Int) = (y' : Int) ∧ (y : Int) % (x1 : Int) = (y' : Int)) := Lib.hid (by rw [Int.tmod_eq_emod_of_nonneg (by omega), ← hy']; simp)
      obtain ⟨o1, ho1⟩ : ∃ o1, jcS1 z y o = o1 := ⟨_, rfl⟩
      obtain ⟨o2, ho2⟩ : ∃ o2, jcS2 x1 y o1 = o2 := ⟨_, rfl⟩
      rw [hy', ho1, ho2] at hj
      have hp1 : o1 = 1 ∨ o1 = -1 := by rw [← ho1]; exact jcS1_pm HO.out
      have hp2 : o2 = 1 ∨ o2 = -1 := by rw [← ho2]; exact jcS2_pm hp1
      have hA : (r = 0 ∧ o1 = o) ∨ (r = 1 ∧ y8 = 3 ∧ o1 = -o) ∨ (r = 1 ∧ y8 = 5 ∧ o1 = -o) ∨ (r = 1 ∧ (y8 ≠ 3 ∧ y8 ≠ 5) ∧ o1 = o) := by
        unfold jcS1 at ho1
        rw [hr, hy8] at ho1
        by_cases h1 : r = 1
        · by_cases h2 : y8 = 3
          · rw [if_pos ⟨h1, .inl h2⟩] at ho1; exact .inr (.inl ⟨h1, h2, ho1.symm⟩)
          · by_cases h3 : y8 = 5
            · rw [if_pos ⟨h1, .inr h3⟩] at ho1; exact .inr (.inr (.inl ⟨h1, h3, ho1.symm⟩))
            · rw [if_neg (by omega)] at ho1; exact .inr (.inr (.inr ⟨h1, ⟨h2, h3⟩, ho1.symm⟩))
        · rw [if_neg (by omega)] at ho1; exact .inl ⟨by omega, ho1.symm⟩
      have hB : (x4 ≠ 3 ∧ o2 = o1) ∨ (x4 = 3 ∧ y4 = 3 ∧ o2 = -o1) ∨ (x4 = 3 ∧ y4 ≠ 3 ∧ o2 = o1) := by
        unfold jcS2 at ho2
        rw [hx4, hy4] at ho2
        by_cases h1 : x4 = 3
        · by_cases h2 : y4 = 3
          · rw [if_pos ⟨h1, h2⟩] at ho2; exact .inr (.inl ⟨h1, h2, ho2.symm⟩)
          · rw [if_neg (by omega)] at ho2; exact .inr (.inr ⟨h1, h2, ho2.symm⟩)
        · rw [if_neg (by omega)] at ho2; exact .inl ⟨h1, ho2.symm⟩
      have W1 := Lib.hid (w64n (n := -o) (by have := HO.out; omega))
      have W2 := Lib.hid (w64n (n := o) (by have := HO.out; omega))
      have hb1 : y' < 128 := by rw [← hy']; exact Nat.lt_of_le_of_lt (Nat.mod_le _ _) hy
      have hb2 : x1 < 128 := by omega
      have hb3 : y' ≤ g := by have := Nat.mod_lt y (show 0 < x1 by omega); omega
      have hxn : ((x : Int) != 0) = true := by simp; omega
      have hx1z : ¬ ((x1 : Int) = 0) := by omega
      have hx1n : ¬ (x1 = 0) := by omega
      have HG := Lib.hid hg
      have HJ3 := Lib.hid hj
      have HP2 := Lib.hid hp2
      have hz0 : (0 : Int) ≤ (z : Int) := by omega
      have hz1 : (z : Int) ≤ 64 := by omega
      clear hj hz hx1 hr hy8 hy4 hx4 hy' ho1 ho2 hp1 hp2 hg HJ HO TZ q1 q2 q3 hx hxk hx0
      have HA := Lib.hid hA
      have HB := Lib.hid hB
      clear hA hB
      rcases HA.out with ⟨rfl, hA⟩ | ⟨rfl, rfl, hA⟩ | ⟨rfl, rfl, hA⟩ | ⟨rfl, ⟨h8, h8'⟩, hA⟩
      all_goals (rcases HB.out with ⟨h4, hB⟩ | ⟨rfl, rfl, hB⟩ | ⟨rfl, h4, hB⟩)
      all_goals
        (try (have h8a : ((y8 : Int) == 3) = false := by (simp; omega)))
        (try (have h8b : ((y8 : Int) == 5) = false := by (simp; omega)))
        (try (have h4a : ((x4 : Int) == 3) = false := by (simp; omega)))
        (try (have h4b : ((y4 : Int) == 3) = false := by (simp; omega)))
        have HAA := Lib.hid hA
        have HBB := Lib.hid hB
        clear hA hB HA HB
        (try clear h8 h8')
        (try clear h4)
        obtain ⟨e1, e1'⟩ := E1.out
        obtain ⟨t1, t1'⟩ := T1.out
        obtain ⟨t2, t2'⟩ := T2.out
        obtain ⟨t3, t3'⟩ := T3.out
        obtain ⟨t4, t4'⟩ := T4.out
        obtain ⟨t5, t5'⟩ := T5.out
        obtain ⟨v1, v1'⟩ := W1.out
        obtain ⟨v2, v2'⟩ := W2.out
        go_wp2_with (go_at_call 59; (with_reducible refine TZX.out.mono ?_); (rintro e u1 ⟨rfl, rfl⟩))
        clear e1 e1' t1 t1' t2 t2' t3 t3' t4 t4' t5 t5' v1 v1' v2 v2'
        go_roundg g
        case measure => have := HG.out; omega
        case rel => exact ⟨y', x1, _, rfl, rfl, rfl, hb1, hb2, hb3, Lib.hid (by have h := HP2.out; rw [HBB.out, HAA.out] at h; first | exact h | simpa using h), Lib.hid (by have h := HJ3.out; rw [HBB.out, HAA.out] at h; first | exact h | simpa using h), rfl⟩
/-- A residue, as the program reckons it. -/
def rsI (a m : Int) : Int := if Int.tmod a m < 0 then Int.tmod a m + m else Int.tmod a m
theorem tmod_ltN (a : Int) (m : Nat) (hm : 0 < m) : (Int.tmod a (m : Int)).natAbs < m := by
  rw [Int.natAbs_tmod]; exact Nat.mod_lt _ hm
theorem rsI_eq (a : Int) (m : Nat) (hm : 0 < m) : rsI a (m : Int) = a % (m : Int) := by
  unfold rsI
  have h := Int.tmod_def a (m : Int)
  have e1 := Int.emod_nonneg a (b := (m : Int)) (by omega)
  have e2 := Int.emod_lt_of_pos a (b := (m : Int)) (by omega)
  rcases Int.lt_or_le a 0 with h0 | h0
  · obtain ⟨k, rfl⟩ : ∃ k : Nat, a = -(k : Int) := ⟨a.natAbs, by omega⟩
    rw [Int.neg_tmod, Int.tmod_eq_emod_of_nonneg (by omega), Int.neg_emod]
    have e3 : (k : Int) % (m : Int) = ((k % m : Nat) : Int) := by simp
    rw [e3]
    have e4 := Nat.mod_lt k hm
    by_cases hd : (m : Int) ∣ (k : Int)
    · have : k % m = 0 := Nat.mod_eq_zero_of_dvd (Int.natCast_dvd_natCast.1 hd)
      rw [this, if_pos hd, if_neg (by simp)]; simp
    · have : k % m ≠ 0 := fun h => hd (Int.natCast_dvd_natCast.2 (Nat.dvd_of_mod_eq_zero h))
      rw [if_neg hd, if_pos (by omega)]; simp; omega
  · rw [Int.tmod_eq_emod_of_nonneg h0, if_neg (by omega)]
set_option maxHeartbeats 2000000 in
theorem residueQ (a : Int) (m : Nat) (hm : 0 < m) (hm2 : m ≤ 1000000000) (w : World) : Calls Tryz.prog 60 #[.int .i64 a, .int .i64 (m : Int)] w fun e w' => e = .returned (.int .i64 (a % (m : Int))) ∧ w = w' := by
  rw [← rsI_eq a m hm]
  have hb := tmod_ltN a m hm
  unfold rsI
  obtain ⟨r, hr⟩ : ∃ r, Int.tmod a (m : Int) = r := ⟨_, rfl⟩
  rw [hr] at hb ⊢
  have hm0 : ¬ ((m : Int) = 0) := by omega
  have hmn : ¬ (m = 0) := by omega
  obtain ⟨e1, e1'⟩ := w64n (n := r) (by omega)
  obtain ⟨e2, e2'⟩ := w64n (n := r + (m : Int)) (by omega)
  by_cases h0 : r < 0
  · have y1 : decide (r < 0) = true := by simp; omega
    rw [if_pos h0]
    clear hb h0 hm hm2
    go_enter Tryz.func60, Tryz.ntmps60
    go_wp2_with fail
    go_ret
    exact ⟨rfl, rfl⟩
  · have y1 : decide (r < 0) = false := by simp; omega
    rw [if_neg h0]
    clear hb h0 hm hm2 e2 e2'
    go_enter Tryz.func60, Tryz.ntmps60
    go_wp2_with fail
    go_ret
    exact ⟨rfl, rfl⟩
/-- The residue of a number of either sign, as arith.reduced has it. -/
def rdN (a : Int) (m : Nat) : Nat := if 0 ≤ a then a.toNat % m else if (-a).toNat % m = 0 then 0 else m - (-a).toNat % m
theorem rdN_lt (a : Int) (m : Nat) (hm : 0 < m) : rdN a m < m := by
  unfold rdN
  split
  · exact Nat.mod_lt _ hm
  · split
    · omega
    · omega
set_option maxHeartbeats 2000000 in
theorem reducedQ (a : Int) (m : Nat) (ha : a.natAbs ≤ 1000) (hm : 0 < m) (hm2 : m ≤ 1000) (w : World) : Calls Tryz.prog 62 #[.int .i64 a, .int .u64 (m : Int)] w fun e w' => e = .returned (.int .u64 ((rdN a m : Nat) : Int)) ∧ w = w' := by
  have hm0 : ¬ ((m : Int) = 0) := by omega
  have hmn : ¬ (m = 0) := by omega
  have hmz : (((m : Nat) : Int) == 0) = false := by simp; omega
  unfold rdN
  by_cases h0 : 0 ≤ a
  · rw [if_pos h0]
    obtain ⟨k, rfl⟩ : ∃ k : Nat, a = (k : Int) := ⟨a.toNat, by omega⟩
    rw [Int.toNat_natCast]
    obtain ⟨r, hr⟩ : ∃ r, k % m = r := ⟨_, rfl⟩
    rw [hr]
    have T : Hid (Int.tmod (k : Int) (m : Int) = (r : Int) ∧ (k : Int) % (m : Int) = (r : Int)) := Lib.hid (by rw [Int.tmod_eq_emod_of_nonneg (by omega), ← hr]; simp)
    have y1 : decide ((k : Int) ≥ 0) = true := by simp
    have U : Hid (IntKind.u64.wrap (k : Int) = (k : Int)) := Lib.hid (by rw [IntKind.wrap_u64]; omega)
    clear ha h0 hm hm2 hr
    obtain ⟨t1, t2⟩ := T.out
    have u1 := U.out
    go_enter Tryz.func62, Tryz.ntmps62
    go_wp2_with fail
    go_ret
    exact ⟨rfl, rfl⟩
  · rw [if_neg h0]
    obtain ⟨k, hk⟩ : ∃ k : Nat, a = -(k : Int) := ⟨a.natAbs, by omega⟩
    subst hk
    rw [Int.neg_neg, Int.toNat_natCast]
    obtain ⟨r, hr⟩ : ∃ r, k % m = r := ⟨_, rfl⟩
    rw [hr]
    have hrm : r < m := by rw [← hr]; exact Nat.mod_lt _ hm
    have T : Hid (Int.tmod (k : Int) (m : Int) = (r : Int) ∧ (k : Int) % (m : Int) = (r : Int)) := Lib.hid (by rw [Int.tmod_eq_emod_of_nonneg (by omega), ← hr]; simp)
    have y1 : decide (-(k : Int) ≥ 0) = false := by simp; omega
    have y1b : decide (k = 0) = false := by simp; omega
    obtain ⟨B, hB⟩ : ∃ B : Int, 18446744073709551616 - (k : Int) = B := ⟨_, rfl⟩
    have U : Hid (IntKind.u64.wrap (-(k : Int)) = B) := Lib.hid (by rw [IntKind.wrap_u64, ← hB]; omega)
    have V : Hid (IntKind.u64.wrap (-B) = (k : Int)) := Lib.hid (by rw [IntKind.wrap_u64, ← hB]; omega)
    clear ha h0 hr
    by_cases hr0 : r = 0
    · subst hr0
      rw [if_pos rfl]
      clear hm hm2 hrm hB
      obtain ⟨t1, t2⟩ := T.out
      have u1 := U.out
      have v1 := V.out
      go_enter Tryz.func62, Tryz.ntmps62
      go_wp2_with fail
      go_ret
      exact ⟨rfl, rfl⟩
    · rw [if_neg hr0]
      obtain ⟨d, hd⟩ : ∃ d, m - r = d := ⟨_, rfl⟩
      rw [hd]
      have X : Hid (IntKind.u64.wrap ((m : Int) - (r : Int)) = (d : Int)) := Lib.hid (by rw [IntKind.wrap_u64]; omega)
      have y2 : decide ((r : Int) > 0) = true := by simp; omega
      have y2n : decide (0 < r) = true := by simp; omega
      clear hm hm2 hrm hB hd hr0
      obtain ⟨t1, t2⟩ := T.out
      have u1 := U.out
      have v1 := V.out
      have x1 := X.out
      go_enter Tryz.func62, Tryz.ntmps62
      go_wp2_with fail
      go_ret
      exact ⟨rfl, rfl⟩
/-- The Kronecker symbol, as the program reckons it, for n from 1 on. -/
def krN (a : Int) (n : Nat) : Int :=
  if Lib.ctz 64 n = 0 then jcN (rdN a n) n
  else if Int.tmod a 2 = 0 then 0
  else (if Lib.ctz 64 n % 2 = 1 ∧ (a % 8 = 3 ∨ a % 8 = 5) then -1 else 1) * jcN (rdN a (n / 2 ^ Lib.ctz 64 n)) (n / 2 ^ Lib.ctz 64 n)
theorem krN_abs (a : Int) (n : Nat) : (krN a n).natAbs ≤ 1 := by
  unfold krN
  split
  · exact jcN_abs _ _
  · split
    · simp
    · have h := jcN_abs (rdN a (n / 2 ^ Lib.ctz 64 n)) (n / 2 ^ Lib.ctz 64 n)
      rw [Int.natAbs_mul]
      split <;> simpa using h
set_option maxRecDepth 20000 in
set_option maxHeartbeats 8000000 in
theorem kroneckerQ (a : Int) (n : Nat) (ha : a.natAbs ≤ 100) (h1 : 1 ≤ n) (h2 : n < 128) (w : World) (hT : TabB w) : Calls Tryz.prog 35 #[.int .i64 a, .int .i64 (n : Int)] w fun e w' => e = .returned (.int .i64 (krN a n)) ∧ w = w' := by
  obtain ⟨q1, q2, q3⟩ := ctz_tab n h2 (by omega)
  have TZ := Lib.hid (tzQ n (by omega) (by omega) w hT)
  have y0 : ((n : Int) == 0) = false := by simp; omega
  have y1 : decide ((n : Int) < 0) = false := by simp
  have U := Lib.hid (show IntKind.u64.wrap (n : Int) = (n : Int) by rw [IntKind.wrap_u64]; omega)
  obtain ⟨R, hR⟩ : ∃ R, krN a n = R := ⟨_, rfl⟩
  rw [hR]
  unfold krN at hR
  obtain ⟨z, hz⟩ : ∃ z, Lib.ctz 64 n = z := ⟨_, rfl⟩
  rw [hz] at hR TZ q1 q2 q3
  by_cases hz0 : z = 0
  · subst hz0
    rw [if_pos rfl] at hR
    have RD := Lib.hid (reducedQ a n (by omega) (by omega) (by omega) w)
    have hrd := rdN_lt a n (by omega)
    obtain ⟨b, hb⟩ : ∃ b, rdN a n = b := ⟨_, rfl⟩
    rw [hb] at hR RD hrd
    have JC := Lib.hid (jacobiQ b n (by omega) h2 w hT)
    have hab := jcN_abs b n
    rw [hR] at JC hab
    obtain ⟨e1, e1'⟩ := w64n (n := R) (by omega)
    have e2 : (1 : Int) * R = R := by omega
    clear ha h1 h2 hT hR hz q1 q2 q3 hrd hb hab
    have u1 := U.out
    go_enter Tryz.func35, Tryz.ntmps35
    go_wp2_with (first
      | (go_at_call 59; (with_reducible refine TZ.out.mono ?_); (rintro e u1 ⟨rfl, rfl⟩))
      | (go_at_call 62; (with_reducible refine RD.out.mono ?_); (rintro e u1 ⟨rfl, rfl⟩))
      | (go_at_call 61; (with_reducible refine JC.out.mono ?_); (rintro e u1 ⟨rfl, rfl⟩)))
    go_ret
    exact ⟨rfl, rfl⟩
  · rw [if_neg hz0] at hR
    have yz : decide ((z : Int) > 0) = true := by simp; omega
    have yzn : decide (0 < z) = true := by simp; omega
    obtain ⟨p, hp⟩ : ∃ p, Int.tmod a 2 = p := ⟨_, rfl⟩
    have hpb : p.natAbs < 2 := by rw [← hp]; exact tmod_ltN a 2 (by omega)
    rw [hp] at hR
    obtain ⟨ep, ep'⟩ := w64n (n := p) (by omega)
    by_cases hp0 : p = 0
    · subst hp0
      rw [if_pos rfl] at hR
      subst hR
      clear ha h1 h2 hT hz q1 q2 q3 hpb hz0
      have u1 := U.out
      go_enter Tryz.func35, Tryz.ntmps35
      go_wp2_with (go_at_call 59; (with_reducible refine TZ.out.mono ?_); (rintro e u1 ⟨rfl, rfl⟩))
      go_ret
      exact ⟨rfl, rfl⟩
    · rw [if_neg hp0] at hR
      have ypn : (p == 0) = false := by simp; omega
      obtain ⟨n1, hn1⟩ : ∃ n1, n / 2 ^ z = n1 := ⟨_, rfl⟩
      rw [hn1] at hR q1 q2
      have E1 : Hid ((n : Int) / 2 ^ ((z : Int)).toNat = (n1 : Int) ∧ (n : Int) / 2 ^ z = (n1 : Int)) := Lib.hid (by
        have e : (n : Int) / 2 ^ z = (n1 : Int) := by rw [← hn1]; simp
        exact ⟨by rw [Int.toNat_natCast]; exact e, e⟩)
      have RD := Lib.hid (reducedQ a n1 (by omega) (by omega) (by omega) w)
      have hrd := rdN_lt a n1 (by omega)
      obtain ⟨b, hb⟩ : ∃ b, rdN a n1 = b := ⟨_, rfl⟩
      rw [hb] at hR RD hrd
      have JC := Lib.hid (jacobiQ b n1 (by omega) (by omega) w hT)
      have hab := jcN_abs b n1
      obtain ⟨j, hj⟩ : ∃ j, jcN b n1 = j := ⟨_, rfl⟩
      rw [hj] at hR JC hab
      obtain ⟨r8, hr8⟩ : ∃ r8, a % 8 = r8 := ⟨_, rfl⟩
      have hr8' : a % ((8 : Nat) : Int) = r8 := hr8
      have RS : Hid (Calls Tryz.prog 60 #[.int .i64 a, .int .i64 8] w fun e w' => e = .returned (.int .i64 r8) ∧ w = w') := Lib.hid (by
        have h := residueQ a 8 (by omega) (by omega) w
        rw [hr8'] at h
        exact h)
      rw [hr8] at hR
      obtain ⟨t, ht⟩ : ∃ t, z % 2 = t := ⟨_, rfl⟩
      rw [ht] at hR
      have T1 : Hid (Int.tmod (z : Int) 2 = (t : Int) ∧ (z : Int) % 2 = (t : Int)) := Lib.hid (by rw [Int.tmod_eq_emod_of_nonneg (by omega)]; omega)
      have WJ := Lib.hid (w64n (n := j) (by omega))
      have WN := Lib.hid (w64n (n := -j) (by omega))
      have hz1 : (0 : Int) ≤ (z : Int) := by omega
      have hz2 : (z : Int) ≤ 64 := by omega
      have hA : (t = 0 ∧ R = j) ∨ (t = 1 ∧ r8 = 3 ∧ R = -j) ∨ (t = 1 ∧ r8 = 5 ∧ R = -j) ∨ (t = 1 ∧ (r8 ≠ 3 ∧ r8 ≠ 5) ∧ R = j) := by
        by_cases h5 : t = 1
        · by_cases h6 : r8 = 3
          · rw [if_pos ⟨h5, .inl h6⟩] at hR; exact .inr (.inl ⟨h5, h6, by omega⟩)
          · by_cases h7 : r8 = 5
            · rw [if_pos ⟨h5, .inr h7⟩] at hR; exact .inr (.inr (.inl ⟨h5, h7, by omega⟩))
            · rw [if_neg (by omega)] at hR; exact .inr (.inr (.inr ⟨h5, ⟨h6, h7⟩, by omega⟩))
        · rw [if_neg (by omega)] at hR; exact .inl ⟨by omega, by omega⟩
      have HA := Lib.hid hA
      clear ha h1 h2 hT hz q1 q2 q3 hpb hz0 hR hrd hb hab hj hr8 hr8' ht hn1 hA
      rcases HA.out with ⟨rfl, hA⟩ | ⟨rfl, rfl, hA⟩ | ⟨rfl, rfl, hA⟩ | ⟨rfl, ⟨h8, h8'⟩, hA⟩
      all_goals
        (try (have h8a : (r8 == 3) = false := by (simp; omega)))
        (try (have h8b : (r8 == 5) = false := by (simp; omega)))
        have HAA := Lib.hid hA
        clear hA HA
        (try clear h8 h8')
        obtain ⟨e1, e1'⟩ := E1.out
        obtain ⟨t1, t1'⟩ := T1.out
        obtain ⟨v1, v1'⟩ := WJ.out
        obtain ⟨v2, v2'⟩ := WN.out
        have u1 := U.out
        go_enter Tryz.func35, Tryz.ntmps35
        go_wp2_with (first
          | (go_at_call 59; (with_reducible refine TZ.out.mono ?_); (rintro e u1 ⟨rfl, rfl⟩))
          | (go_at_call 60; (with_reducible refine RS.out.mono ?_); (rintro e u1 ⟨rfl, rfl⟩))
          | (go_at_call 62; (with_reducible refine RD.out.mono ?_); (rintro e u1 ⟨rfl, rfl⟩))
          | (go_at_call 61; (with_reducible refine JC.out.mono ?_); (rintro e u1 ⟨rfl, rfl⟩)))
        go_ret
        exact ⟨by rw [HAA.out]; rfl, rfl⟩
end Go.Proofs.YtbpkfcohbefphaaGreatDoor
