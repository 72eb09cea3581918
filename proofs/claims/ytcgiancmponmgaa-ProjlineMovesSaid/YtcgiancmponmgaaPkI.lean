/- Walk: Act of the reference. -/
import Derived.Test.YtcgiancmponmgaaPkH
namespace Go.Proofs.Ytcgiancmponmgaa
open Go Go.RowKit

set_option maxRecDepth 20000 in
set_option maxHeartbeats 4000000 in
theorem refact_lv (n i : Int) (m : M2) (h : ¬ (1 ≤ n ∧ n ≤ 120)) (w : World) : Calls Try.prog 22 #[.int .i64 n, .int .i64 i, .agg #[.int .i64 m.a, .int .i64 m.b, .int .i64 m.c, .int .i64 m.d]] w fun e w' => e = .returned (.tuple #[.int .i64 0, .int .i64 2]) ∧ Grow w w' := by
  have LS := Lib.hid (fun u => refList_bad n h u)
  clear h
  go_enter Try.func22, Try.ntmps22
  go_wp2_with (go_at_call 17; (with_reducible refine (LS.out _).mono ?_); (rintro e w1 ⟨rfl, hb1⟩; have HB1 := Lib.hid (Grow.trans (Grow.alloc (Grow.refl w) _) hb1); clear hb1))
  refine bodyPost_ret (v := .tuple #[.int .i64 0, .int .i64 2]) (by simp only [results, Try.results22]; go_simp) rfl ⟨rfl, HB1.out⟩
set_option maxRecDepth 20000 in
set_option maxHeartbeats 4000000 in
theorem refact_out (n i : Int) (m : M2) (h1 : 1 ≤ n) (h2 : n ≤ 120) (hi : i < 0 ∨ ((lsF n).length : Int) ≤ i) (w : World) : Calls Try.prog 22 #[.int .i64 n, .int .i64 i, .agg #[.int .i64 m.a, .int .i64 m.b, .int .i64 m.c, .int .i64 m.d]] w fun e w' => e = .returned (.tuple #[.int .i64 0, .int .i64 2]) ∧ Grow w w' := by
  have LS := Lib.hid (fun u => refList_core n h1 h2 u)
  obtain ⟨l, hl⟩ : ∃ l, lsF n = l := ⟨_, rfl⟩
  rw [hl] at LS hi
  clear hl
  by_cases h0 : i < 0
  · have e0 : decide (i < 0) = true := by simpa using h0
    clear hi
    go_enter Try.func22, Try.ntmps22
    go_wp2_with (go_at_call 17; (with_reducible refine (LS.out _).mono ?_); (rintro e w1 ⟨v, rfl, hown, hb1⟩; obtain ⟨ao, cap, rfl⟩ := hown.rd.form; have HB1 := Lib.hid (Grow.trans (Grow.alloc (Grow.refl w) _) hb1); clear hb1 hown))
    refine bodyPost_ret (v := .tuple #[.int .i64 0, .int .i64 2]) (by simp only [results, Try.results22]; go_simp) rfl ⟨rfl, HB1.out⟩
  · have e0 : decide (i < 0) = false := by simpa using h0
    have hle : ((l.length : Nat) : Int) ≤ i := by omega
    clear hi
    go_enter Try.func22, Try.ntmps22
    go_wp2_with (go_at_call 17; (with_reducible refine (LS.out _).mono ?_); (rintro e w1 ⟨v, rfl, hown, hb1⟩; obtain ⟨ao, cap, rfl⟩ := hown.rd.form; have HB1 := Lib.hid (Grow.trans (Grow.alloc (Grow.refl w) _) hb1); clear hb1 hown))
    refine bodyPost_ret (v := .tuple #[.int .i64 0, .int .i64 2]) (by simp only [results, Try.results22]; go_simp) rfl ⟨rfl, HB1.out⟩
set_option maxRecDepth 20000 in
set_option maxHeartbeats 4000000 in
theorem refact_fit (n : Int) (j : Nat) (m : M2) (h1 : 1 ≤ n) (h2 : n ≤ 120) (hj : j < (lsF n).length) (hf : m.fits = false) (w : World) : Calls Try.prog 22 #[.int .i64 n, .int .i64 (j : Int), .agg #[.int .i64 m.a, .int .i64 m.b, .int .i64 m.c, .int .i64 m.d]] w fun e w' => e = .returned (.tuple #[.int .i64 0, .int .i64 2]) ∧ Grow w w' := by
  have LS := Lib.hid (fun u => refList_core n h1 h2 u)
  obtain ⟨M, hM⟩ : ∃ M, (lsF n).length = M := ⟨_, rfl⟩
  have HM := Lib.hid hM
  rw [hM] at hj
  have h0 : ¬ (j : Int) < 0 := by omega
  have e0 : decide ((j : Int) < 0) = false := decide_eq_false h0
  have hj1 : (j : Int) < (M : Int) := by omega
  have hle : ¬ (M : Int) ≤ (j : Int) := by omega
  have hj0 : (0 : Int) ≤ (j : Int) := by omega
  clear hM
  have FT := Lib.hid (fun u => refFits_any m.a m.b m.c m.d u)
  have hf2 : fitsB m.a m.b m.c m.d = false := hf
  rw [hf2] at FT
  clear hf hf2
  go_enter Try.func22, Try.ntmps22
  go_wp2_with (first | (go_at_call 17; (with_reducible refine (LS.out _).mono ?_); (rintro e w1 ⟨v, rfl, hown, hb1⟩; have hz1 := hb1.size; (try simp at hz1); have hz1b : w.heap.size < w1.heap.size := (by omega); have c0 : w1.cell? ⟨w.heap.size, 0, none⟩ = some (.int .i64 m.a) := (by rw [hb1.cells _ _ (by simp)]; go_simp); have c1 : w1.cell? ⟨w.heap.size, 1, none⟩ = some (.int .i64 m.b) := (by rw [hb1.cells _ _ (by simp)]; go_simp); have c2 : w1.cell? ⟨w.heap.size, 2, none⟩ = some (.int .i64 m.c) := (by rw [hb1.cells _ _ (by simp)]; go_simp); have c3 : w1.cell? ⟨w.heap.size, 3, none⟩ = some (.int .i64 m.d) := (by rw [hb1.cells _ _ (by simp)]; go_simp); have HRD := Lib.hid hown.rd; (obtain ⟨g, cap, rfl, hg1, hg2⟩ := own_slice hown (by rw [HM.out]; omega)); have HCS := Lib.hid (own_pts_cells hown rfl); rw [HM.out] at HRD ⊢; have HB1 := Lib.hid (Grow.trans (Grow.alloc (Grow.refl w) _) hb1); clear hb1 hown)) | (go_at_call 42; (with_reducible refine (FT.out _).mono ?_); (rintro e w2 ⟨rfl, hb2⟩; have HB2 := Lib.hid (Grow.trans HB1.out hb2); clear hb2)))
  refine bodyPost_ret (v := .tuple #[.int .i64 0, .int .i64 2]) (by simp only [results, Try.results22]; go_simp) rfl ⟨rfl, HB2.out⟩
set_option maxRecDepth 20000 in
set_option maxHeartbeats 4000000 in
theorem refact_cop (n : Int) (j : Nat) (m : M2) (h1 : 1 ≤ n) (h2 : n ≤ 120) (hj : j < (lsF n).length) (hf : m.fits = true) (hd : Int.gcd m.det n ≠ 1) (w : World) : Calls Try.prog 22 #[.int .i64 n, .int .i64 (j : Int), .agg #[.int .i64 m.a, .int .i64 m.b, .int .i64 m.c, .int .i64 m.d]] w fun e w' => e = .returned (.tuple #[.int .i64 0, .int .i64 9]) ∧ Grow w w' := by
  have LS := Lib.hid (fun u => refList_core n h1 h2 u)
  obtain ⟨M, hM⟩ : ∃ M, (lsF n).length = M := ⟨_, rfl⟩
  have HM := Lib.hid hM
  rw [hM] at hj
  have h0 : ¬ (j : Int) < 0 := by omega
  have e0 : decide ((j : Int) < 0) = false := decide_eq_false h0
  have hj1 : (j : Int) < (M : Int) := by omega
  have hle : ¬ (M : Int) ≤ (j : Int) := by omega
  have hj0 : (0 : Int) ≤ (j : Int) := by omega
  clear hM
  have FT := Lib.hid (fun u => refFits_any m.a m.b m.c m.d u)
  have hf2 : fitsB m.a m.b m.c m.d = true := hf
  rw [hf2] at FT
  obtain ⟨fa, fb, fc, fd⟩ := fitsB_iff.1 hf
  have ba := inB_iff.1 fa
  have bb := inB_iff.1 fb
  have bc := inB_iff.1 fc
  have bd := inB_iff.1 fd
  have p1 := mulB ba bd
  have p2 := mulB bb bc
  have y1 : IntKind.i64.wrap (m.a * m.d) = m.a * m.d := IntWalk.i64_in _ (by omega)
  have y2 : IntKind.i64.wrap (m.b * m.c) = m.b * m.c := IntWalk.i64_in _ (by omega)
  obtain ⟨D, hD⟩ : ∃ D, m.det = D := ⟨_, rfl⟩
  have hD2 : m.a * m.d - m.b * m.c = D := hD
  have y3 : wrap64 (m.a * m.d - m.b * m.c) = D := by rw [← hD2]; unfold wrap64; omega
  have y4 : IntKind.i64.wrap (m.a * m.d - m.b * m.c) = D := by rw [← hD2]; exact IntWalk.i64_in _ (by omega)
  rw [hD] at hd
  have GC := Lib.hid (fun u => refGcd_any D n (by omega) (by omega) (by omega) (by omega) u)
  obtain ⟨G, hG⟩ : ∃ G : Int, ((Int.gcd D n : Nat) : Int) = G := ⟨_, rfl⟩
  rw [hG] at GC
  have e1 : (G != 1) = true := by simp; omega
  clear hf hf2 hd hD hD2 hG p1 p2
  go_enter Try.func22, Try.ntmps22
  go_wp2_with (first | (go_at_call 17; (with_reducible refine (LS.out _).mono ?_); (rintro e w1 ⟨v, rfl, hown, hb1⟩; have hz1 := hb1.size; (try simp at hz1); have hz1b : w.heap.size < w1.heap.size := (by omega); have c0 : w1.cell? ⟨w.heap.size, 0, none⟩ = some (.int .i64 m.a) := (by rw [hb1.cells _ _ (by simp)]; go_simp); have c1 : w1.cell? ⟨w.heap.size, 1, none⟩ = some (.int .i64 m.b) := (by rw [hb1.cells _ _ (by simp)]; go_simp); have c2 : w1.cell? ⟨w.heap.size, 2, none⟩ = some (.int .i64 m.c) := (by rw [hb1.cells _ _ (by simp)]; go_simp); have c3 : w1.cell? ⟨w.heap.size, 3, none⟩ = some (.int .i64 m.d) := (by rw [hb1.cells _ _ (by simp)]; go_simp); have HRD := Lib.hid hown.rd; (obtain ⟨g, cap, rfl, hg1, hg2⟩ := own_slice hown (by rw [HM.out]; omega)); have HCS := Lib.hid (own_pts_cells hown rfl); rw [HM.out] at HRD ⊢; have HB1 := Lib.hid (Grow.trans (Grow.alloc (Grow.refl w) _) hb1); clear hb1 hown)) | (go_at_call 42; (with_reducible refine (FT.out _).mono ?_); (rintro e w2 ⟨rfl, hb2⟩; have hz2 := hb2.size; have hz2b : w.heap.size < w2.heap.size := (by omega); have hz2g : g < w2.heap.size := (by omega); have d0 : w2.cell? ⟨w.heap.size, 0, none⟩ = some (.int .i64 m.a) := (by rw [hb2.cells _ _ (by omega)]; go_simp); have d1 : w2.cell? ⟨w.heap.size, 1, none⟩ = some (.int .i64 m.b) := (by rw [hb2.cells _ _ (by omega)]; go_simp); have d2 : w2.cell? ⟨w.heap.size, 2, none⟩ = some (.int .i64 m.c) := (by rw [hb2.cells _ _ (by omega)]; go_simp); have d3 : w2.cell? ⟨w.heap.size, 3, none⟩ = some (.int .i64 m.d) := (by rw [hb2.cells _ _ (by omega)]; go_simp); have HRD2 := Lib.hid (HRD.out.grow hb2); have HB2 := Lib.hid (Grow.trans HB1.out hb2); have HG2 := Lib.hid (fun o => hb2.cells g o hg2); clear hb2 c0 c1 c2 c3)) | (go_at_call 15; (with_reducible refine (GC.out _).mono ?_); (rintro e w3 ⟨rfl, hb3⟩; have HB3 := Lib.hid (Grow.trans HB2.out hb3); clear hb3)))
  refine bodyPost_ret (v := .tuple #[.int .i64 0, .int .i64 9]) (by simp only [results, Try.results22]; go_simp) rfl ⟨rfl, HB3.out⟩
set_option maxRecDepth 20000 in
set_option maxHeartbeats 4000000 in
theorem refact_ok (n : Int) (j : Nat) (m : M2) (x : P3) (h1 : 1 ≤ n) (h2 : n ≤ 120) (hj : j < (lsF n).length) (hx : (lsF n).getD j P3.zero = x) (hin : InL n x) (hf : m.fits = true) (hd : Int.gcd m.det n = 1) (w : World) : Calls Try.prog 22 #[.int .i64 n, .int .i64 (j : Int), .agg #[.int .i64 m.a, .int .i64 m.b, .int .i64 m.c, .int .i64 m.d]] w fun e w' => e = .returned (.tuple #[.int .i64 (ixF n (normF n (actU x m % n) (actV x m % n)) : Nat), .int .i64 0]) ∧ Grow w w' := by
  have hinA := inL_act h1 h2 hin hd
  have HX := Lib.hid hx
  have LS := Lib.hid (fun u => refList_core n h1 h2 u)
  obtain ⟨M, hM⟩ : ∃ M, (lsF n).length = M := ⟨_, rfl⟩
  have HM := Lib.hid hM
  rw [hM] at hj
  have h0 : ¬ (j : Int) < 0 := by omega
  have e0 : decide ((j : Int) < 0) = false := decide_eq_false h0
  have hj1 : (j : Int) < (M : Int) := by omega
  have hle : ¬ (M : Int) ≤ (j : Int) := by omega
  have hj0 : (0 : Int) ≤ (j : Int) := by omega
  clear hM
  have FT := Lib.hid (fun u => refFits_any m.a m.b m.c m.d u)
  have hf2 : fitsB m.a m.b m.c m.d = true := hf
  rw [hf2] at FT
  obtain ⟨fa, fb, fc, fd⟩ := fitsB_iff.1 hf
  have ba := inB_iff.1 fa
  have bb := inB_iff.1 fb
  have bc := inB_iff.1 fc
  have bd := inB_iff.1 fd
  have p1 := mulB ba bd
  have p2 := mulB bb bc
  have y1 : IntKind.i64.wrap (m.a * m.d) = m.a * m.d := IntWalk.i64_in _ (by omega)
  have y2 : IntKind.i64.wrap (m.b * m.c) = m.b * m.c := IntWalk.i64_in _ (by omega)
  obtain ⟨D, hD⟩ : ∃ D, m.det = D := ⟨_, rfl⟩
  have hD2 : m.a * m.d - m.b * m.c = D := hD
  have y3 : wrap64 (m.a * m.d - m.b * m.c) = D := by rw [← hD2]; unfold wrap64; omega
  have y4 : IntKind.i64.wrap (m.a * m.d - m.b * m.c) = D := by rw [← hD2]; exact IntWalk.i64_in _ (by omega)
  rw [hD] at hd
  have GC := Lib.hid (fun u => refGcd_any D n (by omega) (by omega) (by omega) (by omega) u)
  rw [hd] at GC
  obtain ⟨r1, r2, r3, r4, -⟩ := hin
  have q1 := mulS ⟨r1, by omega⟩ ba
  have q2 := mulS ⟨r3, by omega⟩ bc
  have q3 := mulS ⟨r1, by omega⟩ bb
  have q4 := mulS ⟨r3, by omega⟩ bd
  have z1 : IntKind.i64.wrap (x.u * m.a) = x.u * m.a := IntWalk.i64_in _ (by omega)
  have z2 : IntKind.i64.wrap (x.v * m.c) = x.v * m.c := IntWalk.i64_in _ (by omega)
  have z3 : IntKind.i64.wrap (x.u * m.b) = x.u * m.b := IntWalk.i64_in _ (by omega)
  have z4 : IntKind.i64.wrap (x.v * m.d) = x.v * m.d := IntWalk.i64_in _ (by omega)
  obtain ⟨U, hU⟩ : ∃ U, actU x m = U := ⟨_, rfl⟩
  obtain ⟨V, hV⟩ : ∃ V, actV x m = V := ⟨_, rfl⟩
  have hU2 : x.u * m.a + x.v * m.c = U := hU
  have hV2 : x.u * m.b + x.v * m.d = V := hV
  have z5 : IntKind.i64.wrap (x.u * m.a + x.v * m.c) = U := by rw [← hU2]; exact IntWalk.i64_in _ (by omega)
  have z6 : IntKind.i64.wrap (x.u * m.b + x.v * m.d) = V := by rw [← hV2]; exact IntWalk.i64_in _ (by omega)
  rw [hU, hV] at hinA ⊢
  have m1 := Int.emod_nonneg U (b := n) (by omega)
  have m2 := Int.emod_lt_of_pos U (b := n) (by omega)
  have m3 := Int.emod_nonneg V (b := n) (by omega)
  have m4 := Int.emod_lt_of_pos V (b := n) (by omega)
  have RU := Lib.hid (fun u => pmod_any U n (by omega) (by omega) u)
  have RV := Lib.hid (fun u => pmod_any V n (by omega) (by omega) u)
  obtain ⟨p, hp⟩ : ∃ p, U % n = p := ⟨_, rfl⟩
  obtain ⟨q, hq⟩ : ∃ q, V % n = q := ⟨_, rfl⟩
  rw [hp] at m1 m2 RU hinA ⊢
  rw [hq] at m3 m4 RV hinA ⊢
  have NM := Lib.hid (fun u => least_any n p q h1 h2 m1 m2 m3 m4 u)
  have FD := Lib.hid (fun v u hv => refFind_any n (normF n p q) h1 h2 hinA v u hv)
  generalize hR : ixF n (normF n p q) = R at FD ⊢
  generalize normF n p q = y at NM FD
  clear hx hf hf2 hd hD hD2 p1 p2 hinA hU hV hU2 hV2 hp hq q1 q2 q3 q4 hR
  go_enter Try.func22, Try.ntmps22
  go_wp2_with (first | (go_at_call 17; (with_reducible refine (LS.out _).mono ?_); (rintro e w1 ⟨v, rfl, hown, hb1⟩; have hz1 := hb1.size; (try simp at hz1); have hz1b : w.heap.size < w1.heap.size := (by omega); have c0 : w1.cell? ⟨w.heap.size, 0, none⟩ = some (.int .i64 m.a) := (by rw [hb1.cells _ _ (by simp)]; go_simp); have c1 : w1.cell? ⟨w.heap.size, 1, none⟩ = some (.int .i64 m.b) := (by rw [hb1.cells _ _ (by simp)]; go_simp); have c2 : w1.cell? ⟨w.heap.size, 2, none⟩ = some (.int .i64 m.c) := (by rw [hb1.cells _ _ (by simp)]; go_simp); have c3 : w1.cell? ⟨w.heap.size, 3, none⟩ = some (.int .i64 m.d) := (by rw [hb1.cells _ _ (by simp)]; go_simp); have HRD := Lib.hid hown.rd; (obtain ⟨g, cap, rfl, hg1, hg2⟩ := own_slice hown (by rw [HM.out]; omega)); have HCS := Lib.hid (own_pts_cells hown rfl); rw [HM.out] at HRD ⊢; have HB1 := Lib.hid (Grow.trans (Grow.alloc (Grow.refl w) _) hb1); clear hb1 hown)) | (go_at_call 42; (with_reducible refine (FT.out _).mono ?_); (rintro e w2 ⟨rfl, hb2⟩; have hz2 := hb2.size; have hz2b : w.heap.size < w2.heap.size := (by omega); have hz2g : g < w2.heap.size := (by omega); have d0 : w2.cell? ⟨w.heap.size, 0, none⟩ = some (.int .i64 m.a) := (by rw [hb2.cells _ _ (by omega)]; go_simp); have d1 : w2.cell? ⟨w.heap.size, 1, none⟩ = some (.int .i64 m.b) := (by rw [hb2.cells _ _ (by omega)]; go_simp); have d2 : w2.cell? ⟨w.heap.size, 2, none⟩ = some (.int .i64 m.c) := (by rw [hb2.cells _ _ (by omega)]; go_simp); have d3 : w2.cell? ⟨w.heap.size, 3, none⟩ = some (.int .i64 m.d) := (by rw [hb2.cells _ _ (by omega)]; go_simp); have HRD2 := Lib.hid (HRD.out.grow hb2); have HB2 := Lib.hid (Grow.trans HB1.out hb2); have HG2 := Lib.hid (fun o => hb2.cells g o hg2); clear hb2 c0 c1 c2 c3)) | (go_at_call 15; (with_reducible refine (GC.out _).mono ?_); (rintro e w3 ⟨rfl, hb3⟩; have hz3 := hb3.size; have hz3b : w.heap.size < w3.heap.size := (by omega); have hz3g : g < w3.heap.size := (by omega); have k0 : w3.cell? ⟨w.heap.size, 0, none⟩ = some (.int .i64 m.a) := (by rw [hb3.cells _ _ (by omega)]; go_simp); have k1 : w3.cell? ⟨w.heap.size, 1, none⟩ = some (.int .i64 m.b) := (by rw [hb3.cells _ _ (by omega)]; go_simp); have k2 : w3.cell? ⟨w.heap.size, 2, none⟩ = some (.int .i64 m.c) := (by rw [hb3.cells _ _ (by omega)]; go_simp); have k3 : w3.cell? ⟨w.heap.size, 3, none⟩ = some (.int .i64 m.d) := (by rw [hb3.cells _ _ (by omega)]; go_simp); have HRD3 := Lib.hid (HRD2.out.grow hb3); have HB3 := Lib.hid (Grow.trans HB2.out hb3); have HG3 := Lib.hid (fun o => (hb3.cells g o hz2g).trans (HG2.out o)); clear hb3 d0 d1 d2 d3)))
  have hcs := HCS.out j (by rw [HM.out]; exact hj)
  rw [HX.out] at hcs
  obtain ⟨s0, s1, s2⟩ := hcs
  have t0 := (HG3.out _).trans s0
  have t1 := (HG3.out _).trans s1
  simp only [Nat.zero_add] at t0 t1
  clear s0 s1 s2 HCS HG2 HG3 HX
  go_quiet (fail)
  go_wp2_with fail
  generalize hwd : World.drewN w3 _ = wd
  have hgd : Grow w3 wd := by rw [← hwd]; exact (Grow.refl w3).drewN _
  have c0 : wd.cell? ⟨w.heap.size, 0, none⟩ = some (.int .i64 m.a) := (hgd.cells _ _ hz3b).trans k0
  have c1 : wd.cell? ⟨w.heap.size, 1, none⟩ = some (.int .i64 m.b) := (hgd.cells _ _ hz3b).trans k1
  have c2 : wd.cell? ⟨w.heap.size, 2, none⟩ = some (.int .i64 m.c) := (hgd.cells _ _ hz3b).trans k2
  have c3 : wd.cell? ⟨w.heap.size, 3, none⟩ = some (.int .i64 m.d) := (hgd.cells _ _ hz3b).trans k3
  have hzd : w.heap.size < wd.heap.size := Nat.lt_of_lt_of_le hz3b hgd.size
  have HRD4 := Lib.hid (HRD3.out.grow hgd)
  have HB4 := Lib.hid (HB3.out.trans hgd)
  clear hwd hgd k0 k1 k2 k3 HRD3 HB3 t0 t1
  refine region_grow (by kernel_rfl) (by kernel_rfl) ?_
  intro X F hF
  have hFc := hF.cells
  haveI hFn := hF.ne
  repeat (go_big_quiet_step ((first | (go_at_call 27; with_reducible exact grown2_same (RU.out _)) | (go_at_call 27; with_reducible exact grown2_same (RV.out _)) | (go_at_call 37; with_reducible exact hF.call (NM.out _)) | (go_at_call 40; with_reducible exact hF.call (FD.out _ _ (HRD4.out.grow (hF.grow _)))))))
  refine wpQuiet_nil ?_
  rintro _ ⟨x9, rfl⟩
  have hb5 := hF.grow x9
  clear hFc hFn hF
  generalize F x9 = w5 at *
  have hc5 := hb5.cells
  have hf5 := hb5.frees
  have hz5 := hb5.size
  (try simp at hz5)
  go_wp2_with fail
  have h9 := HB4.out.trans hb5
  refine bodyPost_ret (v := .tuple #[.int .i64 (R : Nat), .int .i64 0]) (by simp only [results, Try.results22]; go_simp) rfl ⟨rfl, h9⟩
theorem refAct_any (n i : Int) (m : M2) (w : World) : Calls Try.prog 22 #[.int .i64 n, .int .i64 i, .agg #[.int .i64 m.a, .int .i64 m.b, .int .i64 m.c, .int .i64 m.d]] w fun e w' => e = .returned (.tuple #[.int .i64 (actR n i m).1, .int .i64 (actR n i m).2]) ∧ Grow w w' := by
  by_cases hn : 1 ≤ n ∧ n ≤ 120
  · by_cases hi : i < 0 ∨ ((lsF n).length : Int) ≤ i
    · rw [actR_bad (ptR_out hn hi)]; exact refact_out n i m hn.1 hn.2 hi w
    · obtain ⟨j, rfl⟩ := Int.eq_ofNat_of_zero_le (show 0 ≤ i by omega)
      have hj : j < (lsF n).length := by omega
      obtain ⟨hin, -⟩ := ix_self hn.1 hj rfl
      have hx := ptR_ok hn hj
      by_cases hf : m.fits = true
      · by_cases hd : Int.gcd m.det n = 1
        · rw [actR_ok hx hf hd]; exact refact_ok n j m _ hn.1 hn.2 hj rfl hin hf hd w
        · rw [actR_cop hx hf hd]; exact refact_cop n j m hn.1 hn.2 hj hf hd w
      · have hf2 : m.fits = false := by simpa using hf
        rw [actR_fit hx hf2]; exact refact_fit n j m hn.1 hn.2 hj hf2 w
  · rw [actR_bad (ptR_bad hn)]; exact refact_lv n i m hn w
end Go.Proofs.Ytcgiancmponmgaa
