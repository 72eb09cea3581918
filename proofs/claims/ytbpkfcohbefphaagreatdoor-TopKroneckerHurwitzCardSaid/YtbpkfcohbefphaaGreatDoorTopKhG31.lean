/- Lemmas, plain laws and walks that the statement LwKronecker leans on (texts OrB, CrA, FcA), conditions as each theorem says. -/
import Derived.Laws.AppendOwn
import Derived.Test.YtbpkfcohbefphaaGreatDoorTopKhG07
import Derived.Test.YtbpkfcohbefphaaGreatDoorTopKhG21
import Derived.Test.YtbpkfcohbefphaaGreatDoorTopKhG28
import Derived.Test.YtbpkfcohbefphaaGreatDoorTopKhG29
import Derived.Test.YtbpkfcohbefphaaGreatDoorTopKhG30

namespace Go.Proofs.YtbpkfcohbefphaaGreatDoor
open Go Go.RowKit
set_option maxRecDepth 20000 in
set_option maxHeartbeats 8000000 in
theorem inverse1Q (a m : Nat) (ha : a < m) (hm : m ≤ 60) (hg : Nat.gcd a m = 1) (w : World) : Calls Tryz.prog 130 #[.int .i64 (a : Int), .int .i64 (m : Int)] w fun e w' => (∃ u : Int, e = .returned (.tuple #[.int .i64 u, .int .i64 0])) ∧ Grow w w' := by
  have IR := Lib.hid (fun u => inRangeQ m (by omega) (by omega) u)
  have RS : Hid (∀ u : World, Calls Tryz.prog 60 #[.int .i64 (a : Int), .int .i64 (m : Int)] u fun e w' => e = .returned (.int .i64 (a : Int)) ∧ u = w') := Lib.hid (fun u => by
    have h := residueQ (a : Int) m (by omega) (by omega) u
    rw [Int.emod_eq_of_lt (by omega) (by omega)] at h
    exact h)
  have XG := Lib.hid (fun u => xgcd_full2 (a : Int) (m : Int) (by omega) (by omega) (by omega) u)
  have hgi : Int.gcd (a : Int) (m : Int) = 1 := hg
  have HGI := Lib.hid hgi
  clear hg hgi ha hm
  go_enter Tryz.func130, Tryz.ntmps130
  go_wp2_with (first
    | (go_at_call 27; (with_reducible refine (IR.out _).mono ?_); (rintro x u2 ⟨rfl, rfl⟩))
    | (go_at_call 60; (with_reducible refine (RS.out _).mono ?_); (rintro x u2 ⟨rfl, rfl⟩))
    | (go_at_call 126; (with_reducible refine (XG.out _).mono ?_); (rintro x u3 ⟨⟨x1, x2, rfl, hx, hx1, hx2, hx3⟩, hb3⟩; rw [HGI.out]; clear hx hx1 hx2 hx3)))
  refine bodyPost_ret (v := .tuple #[.int .i64 x1, .int .i64 0]) (by rw [results_pair rfl]; first | rfl | go_simp) rfl ?_
  exact ⟨⟨_, rfl⟩, by (repeat (first | with_reducible exact Grow.refl _ | with_reducible refine Grow.alloc ?_ _ | with_reducible refine Grow.drew ?_ | with_reducible refine Grow.drewN ?_ _ | (with_reducible refine Grow.setCell ?_ ?hp _; (case hp => (simp; try omega))) | with_reducible refine Grow.trans ?_ (by assumption)))⟩
set_option maxRecDepth 20000 in
set_option maxHeartbeats 8000000 in
theorem orderQP (a m : Nat) (ha0 : 1 ≤ a) (ha : a < m) (hm : m ≤ 60) (hg : Nat.gcd a m = 1) (w : World) : Calls Tryz.prog 129 #[.int .i64 (a : Int), .int .i64 (m : Int)] w fun e w' => e = .returned (.tuple #[.int .i64 ((orN a m : Nat) : Int), .int .i64 0]) ∧ Grow w w' := by
  have IV := Lib.hid (fun u => inverse1Q a m ha hm hg u)
  have RS : Hid (∀ u : World, Calls Tryz.prog 60 #[.int .i64 (a : Int), .int .i64 (m : Int)] u fun e w' => e = .returned (.int .i64 (a : Int)) ∧ u = w') := Lib.hid (fun u => by
    have h := residueQ (a : Int) m (by omega) (by omega) u
    rw [Int.emod_eq_of_lt (by omega) (by omega)] at h
    exact h)
  have OD := Lib.hid (fun u => orderNQ a m (by omega) (by omega) hm u)
  clear hg ha0 ha hm
  go_enter Tryz.func129, Tryz.ntmps129
  go_wp2_with (first
    | (go_at_call 130; (with_reducible refine (IV.out _).mono ?_); (rintro x u2 ⟨⟨i1, rfl⟩, hb2⟩))
    | (go_at_call 60; (with_reducible refine (RS.out _).mono ?_); (rintro x u3 ⟨rfl, rfl⟩))
    | (go_at_call 131; (with_reducible refine (OD.out _).mono ?_); (rintro x u4 ⟨rfl, hb4⟩)))
  refine bodyPost_ret (v := .tuple #[.int .i64 ((orN a m : Nat) : Int), .int .i64 0]) (by rw [results_pair rfl]; first | rfl | go_simp) rfl ?_
  exact ⟨rfl, by (repeat (first | with_reducible exact Grow.refl _ | with_reducible refine Grow.alloc ?_ _ | with_reducible refine Grow.drew ?_ | with_reducible refine Grow.drewN ?_ _ | (with_reducible refine Grow.setCell ?_ ?hp _; (case hp => (simp; try omega))) | with_reducible refine Grow.trans ?_ (by assumption)))⟩
/-- An odd prime up to 60. -/
def oddP (q : Nat) : Bool := decide (3 ≤ q) && decide (q % 2 = 1) && decide (q ≤ 60) && (List.range q).all (fun g => g == 0 || Nat.gcd g q == 1)
theorem root_tab : ∀ q, q < 61 → oddP q = false ∨ (List.range q).any (fun R => R != 0 && orN R q == q - 1) = true := by decide +kernel
set_option maxRecDepth 20000 in
set_option maxHeartbeats 8000000 in
theorem primQ (q : Nat) (hq : oddP q = true) (w : World) : Calls Tryz.prog 125 #[.int .i64 (q : Int), .int .i64 ((q - 1 : Nat) : Int)] w fun e w' => (∃ g : Nat, e = .returned (.int .i64 (g : Int)) ∧ 1 ≤ g ∧ g < q) ∧ Grow w w' := by
  have hq60 : q ≤ 60 := by
    unfold oddP at hq
    simp only [Bool.and_eq_true, decide_eq_true_eq] at hq
    exact hq.1.2
  obtain ⟨R, hRq, hR0, hRo⟩ : ∃ R, R < q ∧ R ≠ 0 ∧ orN R q = q - 1 := by
    rcases root_tab q (by omega) with h | h
    · rw [hq] at h; cases h
    · obtain ⟨R, h1, h2⟩ := List.any_eq_true.1 h
      simp only [Bool.and_eq_true, bne_iff_ne, ne_eq, beq_iff_eq] at h2
      exact ⟨R, List.mem_range.1 h1, h2.1, h2.2⟩
  have hcp : ∀ g, 1 ≤ g → g < q → Nat.gcd g q = 1 := fun g h1 h2 => by
    unfold oddP at hq
    simp only [Bool.and_eq_true, List.all_eq_true] at hq
    have h := hq.2 g (List.mem_range.2 h2)
    simp only [Bool.or_eq_true, beq_iff_eq] at h
    omega
  have OQ := Lib.hid (fun g (h1 : 1 ≤ g) (h2 : g < q) u => orderQP g q h1 h2 hq60 (hcp g h1 h2) u)
  obtain ⟨d, hd⟩ : ∃ d, q - 1 = d := ⟨_, rfl⟩
  rw [hd] at hRo ⊢
  have HRO := Lib.hid hRo
  clear hq hcp hd hRo
  go_enter Tryz.func125, Tryz.ntmps125
  go_wp2_with fail
  go_loopg [5] R (fun gk t5 wr => ∃ g : Nat, t5 = .int .i64 (g : Int) ∧ 1 ≤ g ∧ g ≤ R ∧ Hid (gk = R + 1 - g) ∧ Hid (Grow w wr))
  case atStart => exact ⟨1, rfl, Nat.le_refl _, by omega, Lib.hid (by omega), Lib.hid (Grow.refl _)⟩
  case round =>
    obtain ⟨g, rfl, h1, hgR, HGK, HGR⟩ := hrel
    have OG := Lib.hid (OQ.out g h1 (by omega))
    obtain ⟨o, ho⟩ : ∃ o, orN g q = o := ⟨_, rfl⟩
    rw [ho] at OG
    have HO := Lib.hid ho
    clear ho
    by_cases hod : o = d
    · subst hod
      go_wp2_with (go_at_call 129; (with_reducible refine (OG.out _).mono ?_); (rintro x u3 ⟨rfl, hb3⟩))
      go_ret
      exact ⟨⟨g, rfl, h1, by omega⟩, HGR.out.trans (by (repeat (first | with_reducible exact Grow.refl _ | with_reducible refine Grow.alloc ?_ _ | with_reducible refine Grow.drew ?_ | with_reducible refine Grow.drewN ?_ _ | (with_reducible refine Grow.setCell ?_ ?hp _; (case hp => (simp; try omega))) | with_reducible refine Grow.trans ?_ (by assumption))))⟩
    · have hob : ((o : Int) == (d : Int)) = false := by simp; omega
      have hgR2 : g < R := by
        rcases Nat.lt_or_ge g R with h | h
        · exact h
        · have e : g = R := by omega
          have h3 := HO.out
          rw [e, HRO.out] at h3
          exact absurd h3.symm hod
      have E4 := Lib.hid (inc_wrap (i := g) (n := 100) (by omega) (by omega))
      clear hod
      obtain ⟨e4, e4'⟩ := E4.out
      go_wp2_with (go_at_call 129; (with_reducible refine (OG.out _).mono ?_); (rintro x u3 ⟨rfl, hb3⟩))
      clear e4 e4'
      go_roundg (R - g)
      case measure => have := HGK.out; omega
      case rel => exact ⟨g + 1, rfl, by omega, hgR2, Lib.hid (by omega), Lib.hid (HGR.out.trans (by (repeat (first | with_reducible exact Grow.refl _ | with_reducible refine Grow.alloc ?_ _ | with_reducible refine Grow.drew ?_ | with_reducible refine Grow.drewN ?_ _ | (with_reducible refine Grow.setCell ?_ ?hp _; (case hp => (simp; try omega))) | with_reducible refine Grow.trans ?_ (by assumption)))))⟩
end Go.Proofs.YtbpkfcohbefphaaGreatDoor
namespace Go.Proofs.YtbpkfcohbefphaaGreatDoor
open Go Go.RowKit
/-- The cell of all that Crt has so far. -/
structure CrSt (w0 : World) (b R M : Nat) (u : World) : Prop where
  grow : Grow w0 u
  le : w0.heap.size ≤ b
  lt : b < u.heap.size
  fr : ∀ o, u.frozen? ⟨b, o, none⟩ = false
  c0 : u.cell? ⟨b, 0, none⟩ = some (.int .i64 (R : Int))
  c1 : u.cell? ⟨b, 1, none⟩ = some (.int .i64 (M : Int))
theorem CrSt.go {w0 u u' : World} {b R M : Nat} (h : CrSt w0 b R M u) (hg : Grow u u') : CrSt w0 b R M u' :=
  ⟨h.grow.trans hg, h.le, Nat.lt_of_lt_of_le h.lt hg.size, fun o => (hg.frees _ _ h.lt).trans (h.fr o), (hg.cells _ _ h.lt).trans h.c0, (hg.cells _ _ h.lt).trans h.c1⟩
theorem CrSt.put {w0 u : World} {b R M : Nat} (h : CrSt w0 b R M u) (x y : Nat) : CrSt w0 b x y ((u.setCell ⟨b, 0, none⟩ (.int .i64 (x : Int))).setCell ⟨b, 1, none⟩ (.int .i64 (y : Int))) := by
  have hc1 : (u.setCell ⟨b, 0, none⟩ (.int .i64 (x : Int))).cell? ⟨b, 1, none⟩ = some (.int .i64 (M : Int)) := (World.cell?_setCell_other _ _ _ _ (by simp)).trans h.c1
  exact ⟨(h.grow.setCell h.le _).setCell h.le _, h.le, by simpa [World.setCell] using h.lt, fun o => by simpa using h.fr o, (World.cell?_setCell_other _ _ _ _ (by simp)).trans (World.cell?_setCell_same _ _ _ h.c0), World.cell?_setCell_same _ _ _ hc1⟩
set_option maxRecDepth 20000 in
set_option maxHeartbeats 8000000 in
theorem crtQ (r q M2 B : Nat) (hq : 1 ≤ q) (hM2 : 1 ≤ M2) (hqM : q * M2 ≤ 60) (hg : Nat.gcd q M2 = 1) (hr : r ≤ 60) (w : World) (hB : B < w.heap.size)
    (h0 : w.cell? ⟨B, 0, none⟩ = some (.int .i64 (r : Int))) (h1 : w.cell? ⟨B, 1, none⟩ = some (.int .i64 (q : Int))) (h2 : w.cell? ⟨B, 2, none⟩ = some (.int .i64 1)) (h3 : w.cell? ⟨B, 3, none⟩ = some (.int .i64 (M2 : Int))) :
    Calls Tryz.prog 114 #[.slice (some ⟨B, 0, none⟩) 2 2] w fun e w' => (∃ R M : Nat, e = .returned (.tuple #[.agg #[.int .i64 (R : Int), .int .i64 (M : Int)], .int .i64 0]) ∧ R < 60 ∧ M ≤ 60) ∧ Grow w w' := by
  have hq60 : q ≤ 60 := Nat.le_trans (Nat.le_mul_of_pos_right _ hM2) hqM
  have hM60 : M2 ≤ 60 := Nat.le_trans (Nat.le_mul_of_pos_left _ hq) hqM
  obtain ⟨QM, hQM⟩ : ∃ x, q * M2 = x := ⟨_, rfl⟩
  rw [hQM] at hqM
  have HQM := Lib.hid hQM
  -- the two congruences
  have CG : Hid (∀ i M : Nat, i < 2 → ((i = 0 ∧ M = 1) ∨ (i = 1 ∧ M = q) ∨ (i = 2 ∧ M = QM)) → ∃ rr mm MM : Nat, 1 ≤ M ∧ M ≤ 60 ∧ 1 ≤ mm ∧ mm ≤ 60 ∧ rr ≤ 60 ∧ Nat.gcd M mm = 1 ∧ M * mm = MM ∧ MM ≤ 60 ∧ ((i + 1 = 0 ∧ MM = 1) ∨ (i + 1 = 1 ∧ MM = q) ∨ (i + 1 = 2 ∧ MM = QM)) ∧ (∀ u, Grow w u → u.cell? ⟨B, i * 2, none⟩ = some (.int .i64 (rr : Int)) ∧ u.cell? ⟨B, i * 2 + 1, none⟩ = some (.int .i64 (mm : Int)) ∧ B < u.heap.size)) := Lib.hid (fun i M hi hM => by
    rcases (by omega : i = 0 ∨ i = 1) with rfl | rfl
    · obtain rfl : M = 1 := by omega
      exact ⟨r, q, q, by omega, by omega, hq, hq60, hr, by simp, by omega, hq60, .inr (.inl ⟨rfl, rfl⟩), fun u hu => ⟨(hu.cells _ _ hB).trans h0, (hu.cells _ _ hB).trans h1, Nat.lt_of_lt_of_le hB hu.size⟩⟩
    · obtain rfl : M = q := by omega
      exact ⟨1, M2, QM, hq, hq60, hM2, hM60, by omega, hg, hQM, hqM, .inr (.inr ⟨rfl, rfl⟩), fun u hu => ⟨(hu.cells _ _ hB).trans h2, (hu.cells _ _ hB).trans h3, Nat.lt_of_lt_of_le hB hu.size⟩⟩)
  clear h0 h1 h2 h3 hr hg hq60 hM60 hQM
  obtain ⟨W1, hW1⟩ : ∃ W1 : World, W1 = w.alloc (.cells #[.int .i64 0, .int .i64 0] 146) := ⟨_, rfl⟩
  obtain ⟨W2, hW2⟩ : ∃ W2 : World, W2 = W1.alloc (.cells #[.int .i64 0, .int .i64 1] 146) := ⟨_, rfl⟩
  have hz1 : W1.heap.size = w.heap.size + 1 := by rw [hW1]; simp
  have hg2 : Grow w W2 := (ag hW1).trans (ag hW2)
  have K1 : Hid (∀ u : World, Grow W2 u → u.cell? ⟨w.heap.size, 0, none⟩ = some (.int .i64 0) ∧ u.cell? ⟨w.heap.size, 1, none⟩ = some (.int .i64 0) ∧ (∀ o, u.frozen? ⟨w.heap.size, o, none⟩ = false) ∧ w.heap.size < u.heap.size) := Lib.hid (fun u hu => ak2 hW1 u ((ag hW2).trans hu))
  have HS2 : Hid (CrSt W1 (w.heap.size + 1) 0 1 W2) := Lib.hid (by
    obtain ⟨b0, b1, b2, b3⟩ := ak2 hW2 W2 (Grow.refl _)
    rw [hz1] at b0 b1 b2 b3
    exact ⟨ag hW2, by omega, b3, b2, b0, b1⟩)
  have HGW := Lib.hid (ag hW1)
  have K0 : Hid (∀ u : World, Grow W1 u → u.cell? ⟨w.heap.size, 0, none⟩ = some (.int .i64 0) ∧ u.cell? ⟨w.heap.size, 1, none⟩ = some (.int .i64 0) ∧ (∀ o, u.frozen? ⟨w.heap.size, o, none⟩ = false) ∧ w.heap.size < u.heap.size) := Lib.hid (fun u hu => ak2 hW1 u hu)
  have HW1 := Lib.hid hW1
  have HW2 := Lib.hid hW2
  have HZ1 := Lib.hid hz1
  clear hW1 hW2 hz1 hg2
  go_enter Tryz.func114, Tryz.ntmps114
  go_upto_region 1 with fail
  rw [← HW1.out]
  go_upto_region 2 with fail
  rw [← HW2.out, HZ1.out]
  go_wp2_with fail
  go_loopg [17] 2 (fun gk t17 wr => ∃ i R M : Nat, t17 = .int .i64 (i : Int) ∧ i ≤ 2 ∧ R < M ∧ M ≤ 60 ∧ Hid (gk = 2 - i) ∧ Hid ((i = 0 ∧ M = 1) ∨ (i = 1 ∧ M = q) ∨ (i = 2 ∧ M = QM)) ∧ Hid (CrSt W1 (w.heap.size + 1) R M wr))
  case atStart => exact ⟨0, 0, 1, rfl, by omega, by omega, by omega, Lib.hid rfl, Lib.hid (.inl ⟨rfl, rfl⟩), HS2⟩
  case round =>
    obtain ⟨i, R, M, rfl, hi, hRM, hM60, HGK, HIM, HS⟩ := hrel
    by_cases hie : i = 2
    · have y1 : decide ((i : Int) < 2) = false := by simp; omega
      have y2 : decide (i < 2) = false := by simp; omega
      have c0 := HS.out.c0
      have c1 := HS.out.c1
      have fr := HS.out.fr
      have lt := HS.out.lt
      obtain ⟨d0, d1, d2, d3⟩ := K0.out wr HS.out.grow
      have hR60 : R < 60 := by omega
      clear hie
      go_wp2_with fail
      refine bodyPost_ret (v := .tuple #[.agg #[.int .i64 (R : Int), .int .i64 (M : Int)], .int .i64 0]) (by rw [results_cell_tmp rfl]; go_simp) rfl ?_
      exact ⟨⟨R, M, rfl, hR60, hM60⟩, ((HGW.out.trans HS.out.grow).setCell (Nat.le_refl _) _).setCell (Nat.le_refl _) _⟩
    · have hil : i < 2 := by omega
      have y0 : (0 : Int) ≤ (i : Int) := by omega
      have y1 : decide ((i : Int) < 2) = true := by simp; omega
      have y2 : (i : Int) < 2 := by omega
      obtain ⟨rr, mm, MM, m1, m2, m3, m4, m5, m6, m7, m8, m9, m10⟩ := CG.out i M hil HIM.out
      have HM9 := Lib.hid m9
      have HC : Hid (∀ u, Grow wr u → u.cell? ⟨B, i * 2, none⟩ = some (.int .i64 (rr : Int)) ∧ u.cell? ⟨B, i * 2 + 1, none⟩ = some (.int .i64 (mm : Int)) ∧ B < u.heap.size) := Lib.hid (fun u hu => m10 u (HGW.out.trans (HS.out.grow.trans hu)))
      have IR := Lib.hid (fun u => inRangeQ mm m3 (by omega) u)
      have XG := Lib.hid (fun u => xgcd_full2 (M : Int) (mm : Int) (by omega) (by omega) (by omega) u)
      have HGI : Hid (Int.gcd (M : Int) (mm : Int) = 1) := Lib.hid m6
      have RS := Lib.hid (fun (z : Int) u => residueQ z mm (by omega) (by omega) u)
      obtain ⟨rs, hrs⟩ : ∃ rs : Int, (rr : Int) % (mm : Int) = rs := ⟨_, rfl⟩
      have hrsb : 0 ≤ rs ∧ rs < mm := by rw [← hrs]; exact ⟨Int.emod_nonneg _ (by omega), Int.emod_lt_of_pos _ (by omega)⟩
      have RS1 := Lib.hid (RS.out (rr : Int))
      rw [hrs] at RS1
      obtain ⟨df, hdf⟩ : ∃ df : Int, rs - (R : Int) = df := ⟨_, rfl⟩
      have hdfb : df.natAbs ≤ 60 := by omega
      obtain ⟨dr, hdr⟩ : ∃ dr : Int, df % (mm : Int) = dr := ⟨_, rfl⟩
      have hdrb : 0 ≤ dr ∧ dr < mm := by rw [← hdr]; exact ⟨Int.emod_nonneg _ (by omega), Int.emod_lt_of_pos _ (by omega)⟩
      have RS2 := Lib.hid (RS.out df)
      rw [hdr] at RS2
      have E1 : Hid (IntKind.i64.wrap (rs - (R : Int)) = df ∧ wrap64 (rs - (R : Int)) = df) := Lib.hid (by rw [hdf]; exact w64n (by omega))
      have V1 := Lib.hid (w64n (n := df) (by omega))
      have VM := Lib.hid (w64n (n := (mm : Int)) (by omega))
      have hmz : ¬ ((mm : Int) = 0) := by omega
      have hmn : ¬ (mm = 0) := by omega
      obtain ⟨Q, hQ⟩ : ∃ Q : Int, Int.tdiv 2147483647 (mm : Int) = Q := ⟨_, rfl⟩
      have hQb : 60 < Q ∧ Q ≤ 2147483647 := by
        rw [← hQ, Int.tdiv_eq_ediv_of_nonneg (by omega)]
        have e1 := Int.mul_ediv_add_emod 2147483647 (mm : Int)
        have e2 := Int.emod_lt_of_pos 2147483647 (b := (mm : Int)) (by omega)
        have e3 := Int.emod_nonneg 2147483647 (b := (mm : Int)) (by omega)
        generalize (2147483647 : Int) / (mm : Int) = Q at *
        refine ⟨?_, ?_⟩
        · rcases Int.lt_or_le 60 Q with h | h
          · exact h
          · have : (mm : Int) * Q ≤ 60 * 60 := by
              rcases Int.lt_or_le Q 0 with h4 | h4
              · have := Int.mul_nonpos_of_nonneg_of_nonpos (show (0 : Int) ≤ (mm : Int) by omega) (show Q ≤ 0 by omega); omega
              · exact Int.le_trans (Int.mul_le_mul_of_nonneg_left h (by omega)) (Int.mul_le_mul_of_nonneg_right (by omega) (by omega))
            omega
        · have : 1 * Q ≤ (mm : Int) * Q ∨ Q < 0 := by
            rcases Int.lt_or_le Q 0 with h4 | h4
            · exact .inr h4
            · exact .inl (Int.mul_le_mul_of_nonneg_right (by omega) h4)
          omega
      have TQ := Lib.hid hQ
      have VQ := Lib.hid (w64n (n := Q) (by omega))
      have yQ : decide ((M : Int) > Q) = false := by simp; omega
      have EI := Lib.hid (inc_wrap (i := i) (n := 100) (by omega) (by omega))
      have EMM : Hid (IntKind.i64.wrap ((M : Int) * (mm : Int)) = (MM : Int) ∧ wrap64 ((M : Int) * (mm : Int)) = (MM : Int)) := Lib.hid (by rw [show (M : Int) * (mm : Int) = (MM : Int) by rw [← m7]; simp]; exact w64n (by omega))
      -- the step at whatever first factor Xgcd names
      have ST : Hid (∀ x : Int, x.natAbs ≤ 1073741825 → 0 ≤ x → ∃ (p1 k p2 : Int) (Rn : Nat), dr * x = p1 ∧ (IntKind.i64.wrap p1 = p1 ∧ wrap64 p1 = p1) ∧ Int.tmod p1 (mm : Int) = k ∧ (IntKind.i64.wrap k = k ∧ wrap64 k = k) ∧ (M : Int) * k = p2 ∧ (IntKind.i64.wrap p2 = p2 ∧ wrap64 p2 = p2) ∧ (R : Int) + p2 = (Rn : Int) ∧ (IntKind.i64.wrap (Rn : Int) = (Rn : Int) ∧ wrap64 (Rn : Int) = (Rn : Int)) ∧ Rn < MM) := Lib.hid (fun x hx hx0 => by
        have hp0 : 0 ≤ dr * x := Int.mul_nonneg hdrb.1 hx0
        have hpb : dr * x ≤ 60 * 1073741825 := Int.le_trans (Int.mul_le_mul_of_nonneg_right (show dr ≤ 60 by omega) hx0) (Int.mul_le_mul_of_nonneg_left (by omega) (by omega))
        obtain ⟨p1, hp1⟩ : ∃ p1, dr * x = p1 := ⟨_, rfl⟩
        rw [hp1] at hp0 hpb
        obtain ⟨k, hk⟩ : ∃ k, Int.tmod p1 (mm : Int) = k := ⟨_, rfl⟩
        have hk0 : 0 ≤ k := by rw [← hk, Int.tmod_eq_emod_of_nonneg hp0]; exact Int.emod_nonneg _ (by omega)
        have hk1 : k < mm := by rw [← hk, Int.tmod_eq_emod_of_nonneg hp0]; exact Int.emod_lt_of_pos _ (by omega)
        obtain ⟨kn, rfl⟩ : ∃ kn : Nat, k = (kn : Int) := ⟨k.toNat, by omega⟩
        have hkm : kn + 1 ≤ mm := by omega
        have h5 : M * (kn + 1) ≤ MM := by rw [← m7]; exact Nat.mul_le_mul_left _ hkm
        rw [Nat.mul_add, Nat.mul_one] at h5
        have h6 : (M : Int) * (kn : Int) = ((M * kn : Nat) : Int) := by simp
        obtain ⟨Mk, hMk⟩ : ∃ Mk, M * kn = Mk := ⟨_, rfl⟩
        rw [hMk] at h5 h6
        exact ⟨p1, kn, Mk, R + Mk, hp1, w64n (by omega), hk, w64n (by omega), h6, w64n (by omega), by omega, w64n (by omega), by omega⟩)
      have hR0 : R ≤ 60 := by omega
      clear hrs hrsb hdf hdfb hdr hdrb m1 m2 m3 m4 m5 m6 m7 m8 m9 m10 hQ hQb hie hM60 hRM
      obtain ⟨a0, a1, a2⟩ := HC.out wr (Grow.refl _)
      go_upto_region 5 with fail
      clear a0 a1 a2
      obtain ⟨W6, hW6⟩ : ∃ W6 : World, W6 = wr.alloc (.cells #[.int .i64 (rr : Int), .int .i64 (mm : Int)] 146) := ⟨_, rfl⟩
      rw [← hW6]
      have K6 := Lib.hid (ak2 hW6)
      have HS6 := Lib.hid (HS.out.go (ag hW6))
      obtain ⟨C, hC⟩ : ∃ C, wr.heap.size = C := ⟨_, rfl⟩
      rw [hC] at K6
      try rw [hC]
      clear hW6 hC
      have D6 := Lib.hid (fun (v : World) (hv : Grow W6 v) => (⟨(HS6.out.go hv).c0, (HS6.out.go hv).c1, (HS6.out.go hv).fr, (HS6.out.go hv).lt, K6.out v hv⟩ : v.cell? ⟨w.heap.size + 1, 0, none⟩ = some (.int .i64 (R : Int)) ∧ v.cell? ⟨w.heap.size + 1, 1, none⟩ = some (.int .i64 (M : Int)) ∧ (∀ o, v.frozen? ⟨w.heap.size + 1, o, none⟩ = false) ∧ w.heap.size + 1 < v.heap.size ∧ _))
      obtain ⟨d0, d1, d2, d3, c0, c1, c2, c3⟩ := D6.out W6 (Grow.refl _)
      go_upto_region 8 with (first
        | (go_at_call 27; (with_reducible refine (IR.out _).mono ?_); (rintro x u2 ⟨rfl, rfl⟩))
        | (go_at_call 126; (with_reducible refine (XG.out _).mono ?_); (rintro x u3 ⟨⟨x1, x2, rfl, hx, hx1, hx2, hx3⟩, hb3⟩; rw [HGI.out]; have HG3 := Lib.hid hb3; obtain ⟨p1, k, p2, Rn, q1, q2, q3, q4, q5, q6, q7, q8, q9⟩ := ST.out x1 hx1 hx3; have QQ : Hid (dr * x1 = p1 ∧ (IntKind.i64.wrap p1 = p1 ∧ wrap64 p1 = p1) ∧ Int.tmod p1 (mm : Int) = k ∧ (IntKind.i64.wrap k = k ∧ wrap64 k = k) ∧ (M : Int) * k = p2 ∧ (IntKind.i64.wrap p2 = p2 ∧ wrap64 p2 = p2) ∧ (R : Int) + p2 = (Rn : Int) ∧ (IntKind.i64.wrap (Rn : Int) = (Rn : Int) ∧ wrap64 (Rn : Int) = (Rn : Int))) := Lib.hid ⟨q1, q2, q3, q4, q5, q6, q7, q8⟩; have HQ9 := Lib.hid q9; clear hx hx1 hx2 hx3 hb3 q1 q2 q3 q4 q5 q6 q7 q8 q9)))
      clear d0 d1 d2 d3 c0 c1 c2 c3
      obtain ⟨e1, e1'⟩ := E1.out
      refine region_held (id := 8) (fun v => Grow u3 v) [0, 1, 2, 3, 5, 6, 4, 7, 8] (kdL [0, 1, 0, 1, 2, 0, 1, 0, 0]) (by kernel_rfl) (by kernel_rfl) (fun t ht => kdL_lt _ t ht) ?hS0p ?_
      case hS0p => ((try dsimp only); (repeat (first | with_reducible exact Grow.refl _ | with_reducible refine Grow.alloc ?_ _ | with_reducible refine Grow.drew ?_ | with_reducible refine Grow.drewN ?_ _ | (with_reducible refine Grow.setCell ?_ ?hp _; (case hp => (simp; try omega))) | with_reducible refine Grow.trans ?_ (by assumption))))
      refine held_quiet (v := ?vp0) rfl rfl (Or.inl ⟨by rfl, ?hyp0⟩) ?_
      case hyp0 => (intro u hu; go_simp; (try with_reducible rfl))
      (try simp only [Act.put, List.setIfInBounds_toArray, List.set_cons_zero, List.set_cons_succ])
      refine held_read (v := ?vp1) rfl rfl (Or.inl ⟨by rfl, ?hyp1⟩) ?_
      case hyp1 => (intro u hu; obtain ⟨d0, d1, d2, d3, c0, c1, c2, c3⟩ := D6.out u (HG3.out.trans hu); go_simp; (try with_reducible rfl))
      (try simp only [Act.put, List.setIfInBounds_toArray, List.set_cons_zero, List.set_cons_succ])
      refine held_quiet (v := ?vp2) rfl rfl (Or.inl ⟨by rfl, ?hyp2⟩) ?_
      case hyp2 => (intro u hu; go_simp; (try with_reducible rfl))
      (try simp only [Act.put, List.setIfInBounds_toArray, List.set_cons_zero, List.set_cons_succ])
      refine held_read (v := ?vp3) rfl rfl (Or.inl ⟨by rfl, ?hyp3⟩) ?_
      case hyp3 => (intro u hu; obtain ⟨d0, d1, d2, d3, c0, c1, c2, c3⟩ := D6.out u (HG3.out.trans hu); go_simp; (try with_reducible rfl))
      (try simp only [Act.put, List.setIfInBounds_toArray, List.set_cons_zero, List.set_cons_succ])
      refine held_quiet (v := ?vp5) rfl rfl (Or.inl ⟨by rfl, ?hyp5⟩) ?_
      case hyp5 => (intro u hu; go_simp; (try with_reducible rfl))
      (try simp only [Act.put, List.setIfInBounds_toArray, List.set_cons_zero, List.set_cons_succ])
      refine held_read (v := ?vp6) rfl rfl (Or.inl ⟨by rfl, ?hyp6⟩) ?_
      case hyp6 => (intro u hu; obtain ⟨d0, d1, d2, d3, c0, c1, c2, c3⟩ := D6.out u (HG3.out.trans hu); go_simp; (try with_reducible rfl))
      (try simp only [Act.put, List.setIfInBounds_toArray, List.set_cons_zero, List.set_cons_succ])
      refine held_op rfl rfl (fun K hK => ?_)
      go_simp
      (go_at_call 60; (with_reducible refine (RS1.out _).mono ?_); (rintro x u4 ⟨rfl, rfl⟩))
      (try go_wp2_with fail)
      refine hK.out _ _ ?hSp4 ?_
      case hSp4 => ((try dsimp only); (repeat (first | with_reducible exact Grow.refl _ | with_reducible refine Grow.alloc ?_ _ | with_reducible refine Grow.drew ?_ | with_reducible refine Grow.drewN ?_ _ | (with_reducible refine Grow.setCell ?_ ?hp _; (case hp => (simp; try omega))) | with_reducible refine Grow.trans ?_ (by assumption))))
      clear hK K
      (try simp only [Act.put, List.setIfInBounds_toArray, List.set_cons_zero, List.set_cons_succ])
      refine held_quiet (v := ?vp7) rfl rfl (Or.inl ⟨by rfl, ?hyp7⟩) ?_
      case hyp7 => (intro u hu; go_simp; (try with_reducible rfl))
      (try simp only [Act.put, List.setIfInBounds_toArray, List.set_cons_zero, List.set_cons_succ])
      refine held_quiet (v := ?vp8) rfl rfl (Or.inl ⟨by rfl, ?hyp8⟩) ?_
      case hyp8 => (intro u hu; go_simp; (try with_reducible rfl))
      (try simp only [Act.put, List.setIfInBounds_toArray, List.set_cons_zero, List.set_cons_succ])
      refine held_done ?_
      clear e1 e1'
      obtain ⟨d0, d1, d2, d3, c0, c1, c2, c3⟩ := D6.out u3 HG3.out
      obtain ⟨v1, v1'⟩ := V1.out
      obtain ⟨vm, vm'⟩ := VM.out
      have tq := TQ.out
      obtain ⟨vq, vq'⟩ := VQ.out
      go_simp
      go_upto_region 12 with fail
      go_quiet (fail)
      go_upto_region 14 with fail
      clear tq vq vq' yQ
      obtain ⟨q1, ⟨q2, q2'⟩, q3, ⟨q4, q4'⟩, q5, ⟨q6, q6'⟩, q7, ⟨q8, q8'⟩⟩ := QQ.out
      obtain ⟨em, em'⟩ := EMM.out
      obtain ⟨ei, ei'⟩ := EI.out
      go_wp2_with (go_at_call 60; (with_reducible refine (RS2.out _).mono ?_); (rintro x u5 ⟨rfl, rfl⟩))
      clear q1 q2 q2' q3 q4 q4' q5 q6 q6' q7 q8 q8' em em' ei ei' v1 v1' vm vm'
      have hmm60 : MM ≤ 60 := by
        rcases HM9.out with h | h | h
        · omega
        · have := h.2; have : q ≤ 60 := Nat.le_trans (Nat.le_mul_of_pos_right _ hM2) (by rw [HQM.out]; exact hqM); omega
        · omega
      go_roundg (2 - (i + 1))
      case measure => have := HGK.out; omega
      case rel => exact ⟨i + 1, Rn, MM, rfl, hil, HQ9.out, hmm60, Lib.hid rfl, HM9, Lib.hid (((HS6.out.go HG3.out).go ((Grow.refl u3).drewN _)).put Rn MM)⟩
end Go.Proofs.YtbpkfcohbefphaaGreatDoor
namespace Go.Proofs.YtbpkfcohbefphaaGreatDoor
open Go Go.RowKit
/-- Pairs as cells. -/
def cells2 : List (Nat × Nat) → List Value
  | [] => []
  | c :: l => .int .i64 (c.1 : Int) :: .int .i64 (c.2 : Int) :: cells2 l
theorem cells2_append (x y : List (Nat × Nat)) : cells2 (x ++ y) = cells2 x ++ cells2 y := by
  induction x with
  | nil => rfl
  | cons c x ih => simp [cells2, ih]
theorem cells2_at : ∀ (l : List (Nat × Nat)) (j : Nat), j < l.length → (cells2 l)[j * 2]? = some (.int .i64 ((l.getD j (0, 0)).1 : Int)) ∧ (cells2 l)[j * 2 + 1]? = some (.int .i64 ((l.getD j (0, 0)).2 : Int))
  | [], j, h => by simp at h
  | c :: l, 0, _ => by simp [cells2]
  | c :: l, j + 1, h => by
    have := cells2_at l j (by simpa using h)
    rw [show (j + 1) * 2 = j * 2 + 1 + 1 by omega]
    simpa [cells2] using this
theorem two_cells2 (w : World) (x y : Value) (t : TypeId) (n : Nat) (hn : n = w.heap.size) : ∀ j u, [x, y][j]? = some u → (w.alloc (.cells #[x, y] t)).cell? ((⟨n, 0, none⟩ : Addr).add j) = some u := by
  intro j u hj
  rw [Addr.add_lit, Nat.zero_add, World.cell?_alloc_at _ _ _ _ hn]
  match j, hj with
  | 0, hj => simpa using hj
  | 1, hj => simpa using hj
  | j + 2, hj => simp at hj
theorem two_one2 (x y : Int) : ∀ u ∈ [Value.int .i64 x, Value.int .i64 y], u.oneCell' = true := by
  intro u hu; simp at hu; rcases hu with rfl | rfl <;> rfl
theorem own_shape {w : World} {base : Nat} {e : TypeId} {size : Nat} {v : Value} {n : Nat} {xs : List Value} (h : w.ownsRow base e size v n xs) : ∃ a c, v = .slice a n c := by
  rcases h.2 with ⟨hv, h0⟩ | ⟨g, cap, cur, hv, _⟩
  · exact ⟨none, 0, by rw [hv, h0]⟩
  · exact ⟨_, cap, hv⟩
theorem infoPP : (Tryz.prog.info? 101).map (fun i => (i.zero, i.size, i.bytes)) = some (some (.agg #[.int .i64 0, .int .i64 0]), 2, 16) := by kernel_rfl
/-- Factor's cell: the list so far. -/
structure FcSt (w0 : World) (b : Nat) (s : List (Nat × Nat)) (u : World) : Prop where
  grow : Grow w0 u
  le : w0.heap.size ≤ b
  lt : b < u.heap.size
  free : ∀ o, u.frozen? ⟨b, o, none⟩ = false
  row : ∃ v, u.cell? ⟨b, 0, none⟩ = some v ∧ u.ownsRow (b + 1) 101 2 v s.length (cells2 s)
set_option maxRecDepth 20000 in
set_option maxHeartbeats 8000000 in
theorem fac1_any (w0 : World) (b : Nat) (s : List (Nat × Nat)) (p e : Nat) (hok : s.length ≤ 20) (u : World) (hS : FcSt w0 b s u) :
    Calls Tryz.prog 98 #[.int .i64 (p : Int), .int .i64 (e : Int), .pointer (some ⟨b, 0, none⟩)] u fun x w' => x = .returned (.tuple #[]) ∧ FcSt w0 b (s ++ [(p, e)]) w' := by
  obtain ⟨v, hc, hown⟩ := hS.row
  obtain ⟨a, c, rfl⟩ := own_shape hown
  obtain ⟨ic, hic, icz0, icz1, icz2⟩ := info_parts infoPP
  obtain ⟨n, hn⟩ : ∃ n, s.length = n := ⟨_, rfl⟩
  rw [hn] at hc hown hok
  have HN := Lib.hid hn
  have HS := Lib.hid hS
  have HOW := Lib.hid hown
  have HLT := Lib.hid hS.lt
  have HFR := Lib.hid hS.free
  clear hS hown hn
  go_enter Tryz.func98, Tryz.ntmps98
  go_wp2_with (at_builtin; refine wpList_append_own _ rfl _ _ 97 rfl (b + 1) 101 ic (.agg #[.int .i64 0, .int .i64 0]) 2 16 Tryz.underlying97 hic icz0 icz1 icz2 rfl (by decide) _ _ _ rfl (World.ownsRow.alloc HOW.out _) ⟨u.heap.size, 0, none⟩ 1 1 [.int .i64 (p : Int), .int .i64 (e : Int)] rfl rfl (two_cells2 _ _ _ _ _ ?c1) (two_one2 _ _) ?c3 ?c4 ?c5 ?_)
  case c1 => simp
  case c3 => unfold maxLen; omega
  case c4 => omega
  case c5 => have := HLT.out; (try simp); omega
  intro v8 w8 ho8 hg8 _
  obtain ⟨g8, cap8, rfl, -, -⟩ := own_slice ho8 (Nat.succ_pos _)
  have hlt := HLT.out
  have hnb : ∀ k, (Value.slice a n c).ownBlock = some k → b + 1 ≤ k := fun k hk => (World.ownsRow.lt HOW.out k hk).1
  have hgk : ∀ bb, bb < b + 1 → w8.heap[bb]? = (u.alloc (.cells #[.int .i64 (p : Int), .int .i64 (e : Int)] 101)).heap[bb]? := fun bb hb => hg8.block bb (by simp; omega) (fun e => by have := hnb bb e.symm; omega)
  have hc8 : w8.cell? ⟨b, 0, none⟩ = some (.slice a n c) := by
    rw [World.cell?_of_block (hgk b (by omega))]; exact (((Grow.refl u).alloc _).cells _ _ hlt).trans hc
  have hf8 : ∀ o, w8.frozen? ⟨b, o, none⟩ = false := fun o => by
    rw [World.frozen?_of_block (hgk b (by omega))]; exact (((Grow.refl u).alloc _).frees _ _ hlt).trans (HFR.out o)
  have hl8 : b < w8.heap.size := by have := hg8.size; simp at this; omega
  have hf80 := hf8 0
  have HG8 : Hid (Grow w0 w8) := Lib.hid (((HS.out.grow).alloc _).grown hg8 (fun q hq => by have := hnb q hq; have := HS.out.le; omega))
  have HO8 := Lib.hid ho8
  have HF8 := Lib.hid hf8
  clear hc HFR hgk hnb hg8 ho8 hf8
  go_wp2_with fail
  refine bodyPost_end (results_none rfl _ _ _) rfl ?_
  refine ⟨rfl, HG8.out.setCell HS.out.le _, HS.out.le, by simpa [World.setCell] using hl8, fun o => by simpa using HF8.out o, _, World.cell?_setCell_same _ _ _ hc8, ?_⟩
  have h9 := own_set (a := ⟨b, 0, none⟩) HO8.out (by simp) (.slice (some ⟨g8, 0, none⟩) (n + 1) cap8)
  rw [cells2_append, List.length_append, HN.out]
  exact h9
theorem foldS_list : ∀ (l s : List (Nat × Nat)), foldS (fun s p e => s ++ [(p, e)]) l s = s ++ l
  | [], s => by simp [foldS]
  | x :: l, s => by unfold foldS; rw [foldS_list l]; simp
theorem okFc_tab : ∀ n, n < 61 → okSB (fun (s : List (Nat × Nat)) _ _ => decide (s.length ≤ 20)) (fun s p e => s ++ [(p, e)]) (faL 33 n 2) [] = true := by decide +kernel
set_option maxRecDepth 20000 in
set_option maxHeartbeats 8000000 in
theorem factorQ (n : Nat) (h1 : 1 ≤ n) (h2 : n ≤ 60) (w : World) :
    Calls Tryz.prog 66 #[.int .i64 (n : Int)] w fun x w' => ∃ v, x = .returned (.tuple #[v, .int .i64 0]) ∧ w'.ownsRow w.heap.size 101 2 v (faL 33 n 2).length (cells2 (faL 33 n 2)) ∧ Grow w w' := by
  have IR := Lib.hid (fun u => inRangeQ n h1 (by omega) u)
  have hok : okS (fun (s : List (Nat × Nat)) (_ _ : Nat) => decide (s.length ≤ 20) = true) (fun s p e => s ++ [(p, e)]) (faL 33 n 2) [] := okS_of (okFc_tab n (by omega))
  have FC := Lib.hid (fun u (hu : FcSt w w.heap.size [] u) => factorsF (fun s u => FcSt w w.heap.size s u) (fun s _ _ => decide (s.length ≤ 20) = true) (fun s p e => s ++ [(p, e)]) (.pointer (some ⟨w.heap.size, 0, none⟩)) (fun s p e u a b c d ok hs => fac1_any w w.heap.size s p e (by simpa using ok) u hs) n h1 (by omega) [] hok u hu)
  have hmf : ∀ (fn : Fn) (first cap : Array Value) (w : World), (Instr.makeFunc fn first cap).run Tryz.prog w = .ok (.func fn first cap) w := fun _ _ _ _ => rfl
  obtain ⟨W1, hW1⟩ : ∃ W1 : World, W1 = w.alloc (.cells #[.slice none 0 0] 97) := ⟨_, rfl⟩
  have HP : Hid (FcSt w w.heap.size [] W1) := Lib.hid (by
    obtain ⟨b0, b1, b2⟩ := ak1 hW1 W1 (Grow.refl _)
    exact ⟨ag hW1, Nat.le_refl _, b2, b1, _, b0, World.ownsRow_nil _ _ _ _⟩)
  have HW1 := Lib.hid hW1
  clear hW1 hok
  go_enter Tryz.func66, Tryz.ntmps66
  go_upto_region 4 with (go_at_call 27; (with_reducible refine (IR.out _).mono ?_); (rintro x u2 ⟨rfl, rfl⟩))
  rw [← HW1.out]
  go_upto_region 5 with (go_at_call 28; (with_reducible refine (FC.out _ HP.out).mono ?_); (rintro x u3 ⟨rfl, hp3⟩; have HP3 := Lib.hid hp3; clear hp3))
  clear hmf FC
  obtain ⟨v, hcell, hown⟩ := HP3.out.row
  rw [foldS_list, List.nil_append] at hown
  obtain ⟨a, c, rfl⟩ := own_shape hown
  have HO := Lib.hid hown
  clear hown
  go_wp2_with fail
  refine bodyPost_ret (v := .tuple #[.slice a (faL 33 n 2).length c, .int .i64 0]) (by rw [results_pair rfl]; first | rfl | go_simp) rfl ?_
  exact ⟨_, rfl, own_base HO.out (Nat.le_succ _), HP3.out.grow⟩
end Go.Proofs.YtbpkfcohbefphaaGreatDoor
