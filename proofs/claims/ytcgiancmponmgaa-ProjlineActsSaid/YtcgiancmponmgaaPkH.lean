/- Plain model of the action; walk: Act of the program. -/
import Derived.Test.YtcgiancmponmgaaPkG
namespace Go.Proofs.Ytcgiancmponmgaa
open Go Go.RowKit

def actU (x : P3) (m : M2) : Int := x.u * m.a + x.v * m.c
def actV (x : P3) (m : M2) : Int := x.u * m.b + x.v * m.d
/-- The index of the image of a point, and the error. -/
def actR (n i : Int) (m : M2) : Int × Int :=
  if (ptR n i).2 ≠ 0 then (0, 2) else if m.fits = false then (0, 2) else if Int.gcd m.det n ≠ 1 then (0, 9)
    else (ixF n (normF n (actU (ptR n i).1 m % n) (actV (ptR n i).1 m % n)), 0)
theorem act_g3 {n : Int} {x : P3} {m : M2} (hd : Int.gcd m.det n = 1) (hg : Int.gcd ((Int.gcd x.u x.v : Nat) : Int) n = 1) : Int.gcd ((Int.gcd (actU x m) (actV x m) : Nat) : Int) n = 1 := by
  obtain ⟨p, q, r, e⟩ := g3_iff.1 hg
  obtain ⟨t, k, hk⟩ := bez1 hd
  obtain ⟨a, b, c, d⟩ := m
  obtain ⟨u, v, s⟩ := x
  simp only [actU, actV, M2.det] at *
  refine g3_iff.2 ⟨t * p * d - t * q * b, t * q * a - t * p * c, t * (a * d - b * c) * r + k, ?_⟩
  have e2 : t * (a * d - b * c) * (p * u + q * v + r * n) = t * (a * d - b * c) := by rw [e, Int.mul_one]
  grind
theorem inL_act {n : Int} (h1 : 1 ≤ n) (h2 : n ≤ 120) {x : P3} {m : M2} (hin : InL n x) (hd : Int.gcd m.det n = 1) : InL n (normF n (actU x m % n) (actV x m % n)) :=
  inL_norm h1 h2 (act_g3 hd (norm_self h1 h2 hin).1)
theorem actR_bad {n i : Int} {m : M2} (h : ptR n i = (P3.zero, 2)) : actR n i m = (0, 2) := by unfold actR; rw [h, if_pos (by simp)]
theorem actR_fit {n i : Int} {m : M2} {x : P3} (h : ptR n i = (x, 0)) (hf : m.fits = false) : actR n i m = (0, 2) := by unfold actR; rw [h, if_neg (by simp), if_pos hf]
theorem actR_cop {n i : Int} {m : M2} {x : P3} (h : ptR n i = (x, 0)) (hf : m.fits = true) (hd : Int.gcd m.det n ≠ 1) : actR n i m = (0, 9) := by unfold actR; rw [h, if_neg (by simp), if_neg (by simp [hf]), if_pos hd]
theorem actR_ok {n i : Int} {m : M2} {x : P3} (h : ptR n i = (x, 0)) (hf : m.fits = true) (hd : Int.gcd m.det n = 1) : actR n i m = (((ixF n (normF n (actU x m % n) (actV x m % n)) : Nat) : Int), 0) := by unfold actR; rw [h, if_neg (by simp), if_neg (by simp [hf]), if_neg (by simp [hd])]
theorem mulS {z a : Int} (hz : 0 ≤ z ∧ z < 120) (ha : -1073741824 ≤ a ∧ a ≤ 1073741824) : -128849018880 ≤ z * a ∧ z * a ≤ 128849018880 := by
  have e1 := Int.natAbs_mul z a
  have e2 : z.natAbs * a.natAbs ≤ 120 * a.natAbs := Nat.mul_le_mul_right _ (by omega)
  generalize z * a = q at *
  generalize z.natAbs * a.natAbs = r at *
  omega
theorem mulB {z a : Int} (hz : -1073741824 ≤ z ∧ z ≤ 1073741824) (ha : -1073741824 ≤ a ∧ a ≤ 1073741824) : -1152921504606846976 ≤ z * a ∧ z * a ≤ 1152921504606846976 := by
  have e1 := Int.natAbs_mul z a
  have e2 : z.natAbs * a.natAbs ≤ 1073741824 * a.natAbs := Nat.mul_le_mul_right _ (by omega)
  generalize z * a = q at *
  generalize z.natAbs * a.natAbs = r at *
  omega
set_option maxRecDepth 20000 in
set_option maxHeartbeats 4000000 in
theorem act_pt (n i : Int) (m : M2) (hx : ptR n i = (P3.zero, 2)) (w : World) : Calls Try.prog 21 #[.int .i64 n, .int .i64 i, .agg #[.int .i64 m.a, .int .i64 m.b, .int .i64 m.c, .int .i64 m.d]] w fun e w' => e = .returned (.tuple #[.int .i64 0, .int .i64 2]) ∧ Grow w w' := by
  have PT := Lib.hid (fun u => point_any n i u)
  rw [hx] at PT
  clear hx
  go_enter Try.func21, Try.ntmps21
  go_wp2_with (go_at_call 41; (with_reducible refine (PT.out _).mono ?_); (rintro e w1 ⟨rfl, hb1⟩; have hz1 := hb1.size; (try simp at hz1); have hz1b : w.heap.size < w1.heap.size := (by omega); have c0 : w1.cell? ⟨w.heap.size, 0, none⟩ = some (.int .i64 m.a) := (by rw [hb1.cells _ _ (by simp)]; go_simp); have c1 : w1.cell? ⟨w.heap.size, 1, none⟩ = some (.int .i64 m.b) := (by rw [hb1.cells _ _ (by simp)]; go_simp); have c2 : w1.cell? ⟨w.heap.size, 2, none⟩ = some (.int .i64 m.c) := (by rw [hb1.cells _ _ (by simp)]; go_simp); have c3 : w1.cell? ⟨w.heap.size, 3, none⟩ = some (.int .i64 m.d) := (by rw [hb1.cells _ _ (by simp)]; go_simp); have HB1 := Lib.hid (Grow.trans (Grow.alloc (Grow.refl w) _) hb1); clear hb1))
  have h3 := HB1.out
  refine bodyPost_ret (v := .tuple #[.int .i64 0, .int .i64 2]) (by simp only [results, Try.results21]; go_simp) rfl ⟨rfl, by (repeat (first | with_reducible exact Grow.refl _ | with_reducible refine Grow.alloc ?_ _ | with_reducible refine Grow.drew ?_ | with_reducible refine Grow.drewN ?_ _ | (with_reducible refine Grow.setCell ?_ ?hp _; (case hp => (simp; try omega))) | with_reducible refine Grow.trans ?_ (by assumption)))⟩
set_option maxRecDepth 20000 in
set_option maxHeartbeats 4000000 in
theorem act_fit (n i : Int) (m : M2) (x : P3) (hx : ptR n i = (x, 0)) (hf : m.fits = false) (w : World) : Calls Try.prog 21 #[.int .i64 n, .int .i64 i, .agg #[.int .i64 m.a, .int .i64 m.b, .int .i64 m.c, .int .i64 m.d]] w fun e w' => e = .returned (.tuple #[.int .i64 0, .int .i64 2]) ∧ Grow w w' := by
  have PT := Lib.hid (fun u => point_any n i u)
  rw [hx] at PT
  have IA := Lib.hid (fun u => pin_any m.a u)
  have IB := Lib.hid (fun u => pin_any m.b u)
  have IC := Lib.hid (fun u => pin_any m.c u)
  have ID := Lib.hid (fun u => pin_any m.d u)
  have hf2 : (inB m.a && inB m.b && inB m.c && inB m.d) = false := hf
  clear hx hf
  by_cases h0 : inB m.a = true
  · rw [h0] at IA
    by_cases h1 : inB m.b = true
    · rw [h1] at IB
      by_cases h2 : inB m.c = true
      · rw [h2] at IC
        by_cases h3 : inB m.d = true
        · rw [h3] at ID
          rw [h0, h1, h2, h3] at hf2
          simp at hf2
        · have g3 : inB m.d = false := by simpa using h3
          rw [g3] at ID
          clear hf2
          go_enter Try.func21, Try.ntmps21
          go_wp2_with (first | (go_at_call 41; (with_reducible refine (PT.out _).mono ?_); (rintro e w1 ⟨rfl, hb1⟩; have hz1 := hb1.size; (try simp at hz1); have hz1b : w.heap.size < w1.heap.size := (by omega); have c0 : w1.cell? ⟨w.heap.size, 0, none⟩ = some (.int .i64 m.a) := (by rw [hb1.cells _ _ (by simp)]; go_simp); have c1 : w1.cell? ⟨w.heap.size, 1, none⟩ = some (.int .i64 m.b) := (by rw [hb1.cells _ _ (by simp)]; go_simp); have c2 : w1.cell? ⟨w.heap.size, 2, none⟩ = some (.int .i64 m.c) := (by rw [hb1.cells _ _ (by simp)]; go_simp); have c3 : w1.cell? ⟨w.heap.size, 3, none⟩ = some (.int .i64 m.d) := (by rw [hb1.cells _ _ (by simp)]; go_simp); have HB1 := Lib.hid (Grow.trans (Grow.alloc (Grow.refl w) _) hb1); clear hb1)) | (go_at_call 31; first | (with_reducible refine (IA.out _).mono ?_; rintro e w9 ⟨rfl, rfl⟩) | (with_reducible refine (IB.out _).mono ?_; rintro e w9 ⟨rfl, rfl⟩) | (with_reducible refine (IC.out _).mono ?_; rintro e w9 ⟨rfl, rfl⟩) | (with_reducible refine (ID.out _).mono ?_; rintro e w9 ⟨rfl, rfl⟩)))
          have h9 := HB1.out
          refine bodyPost_ret (v := .tuple #[.int .i64 0, .int .i64 2]) (by simp only [results, Try.results21]; go_simp) rfl ⟨rfl, by (repeat (first | with_reducible exact Grow.refl _ | with_reducible refine Grow.alloc ?_ _ | with_reducible refine Grow.drew ?_ | with_reducible refine Grow.drewN ?_ _ | (with_reducible refine Grow.setCell ?_ ?hp _; (case hp => (simp; try omega))) | with_reducible refine Grow.trans ?_ (by assumption)))⟩
      · have g2 : inB m.c = false := by simpa using h2
        rw [g2] at IC
        clear hf2
        go_enter Try.func21, Try.ntmps21
        go_wp2_with (first | (go_at_call 41; (with_reducible refine (PT.out _).mono ?_); (rintro e w1 ⟨rfl, hb1⟩; have hz1 := hb1.size; (try simp at hz1); have hz1b : w.heap.size < w1.heap.size := (by omega); have c0 : w1.cell? ⟨w.heap.size, 0, none⟩ = some (.int .i64 m.a) := (by rw [hb1.cells _ _ (by simp)]; go_simp); have c1 : w1.cell? ⟨w.heap.size, 1, none⟩ = some (.int .i64 m.b) := (by rw [hb1.cells _ _ (by simp)]; go_simp); have c2 : w1.cell? ⟨w.heap.size, 2, none⟩ = some (.int .i64 m.c) := (by rw [hb1.cells _ _ (by simp)]; go_simp); have c3 : w1.cell? ⟨w.heap.size, 3, none⟩ = some (.int .i64 m.d) := (by rw [hb1.cells _ _ (by simp)]; go_simp); have HB1 := Lib.hid (Grow.trans (Grow.alloc (Grow.refl w) _) hb1); clear hb1)) | (go_at_call 31; first | (with_reducible refine (IA.out _).mono ?_; rintro e w9 ⟨rfl, rfl⟩) | (with_reducible refine (IB.out _).mono ?_; rintro e w9 ⟨rfl, rfl⟩) | (with_reducible refine (IC.out _).mono ?_; rintro e w9 ⟨rfl, rfl⟩) | (with_reducible refine (ID.out _).mono ?_; rintro e w9 ⟨rfl, rfl⟩)))
        have h9 := HB1.out
        refine bodyPost_ret (v := .tuple #[.int .i64 0, .int .i64 2]) (by simp only [results, Try.results21]; go_simp) rfl ⟨rfl, by (repeat (first | with_reducible exact Grow.refl _ | with_reducible refine Grow.alloc ?_ _ | with_reducible refine Grow.drew ?_ | with_reducible refine Grow.drewN ?_ _ | (with_reducible refine Grow.setCell ?_ ?hp _; (case hp => (simp; try omega))) | with_reducible refine Grow.trans ?_ (by assumption)))⟩
    · have g1 : inB m.b = false := by simpa using h1
      rw [g1] at IB
      clear hf2
      go_enter Try.func21, Try.ntmps21
      go_wp2_with (first | (go_at_call 41; (with_reducible refine (PT.out _).mono ?_); (rintro e w1 ⟨rfl, hb1⟩; have hz1 := hb1.size; (try simp at hz1); have hz1b : w.heap.size < w1.heap.size := (by omega); have c0 : w1.cell? ⟨w.heap.size, 0, none⟩ = some (.int .i64 m.a) := (by rw [hb1.cells _ _ (by simp)]; go_simp); have c1 : w1.cell? ⟨w.heap.size, 1, none⟩ = some (.int .i64 m.b) := (by rw [hb1.cells _ _ (by simp)]; go_simp); have c2 : w1.cell? ⟨w.heap.size, 2, none⟩ = some (.int .i64 m.c) := (by rw [hb1.cells _ _ (by simp)]; go_simp); have c3 : w1.cell? ⟨w.heap.size, 3, none⟩ = some (.int .i64 m.d) := (by rw [hb1.cells _ _ (by simp)]; go_simp); have HB1 := Lib.hid (Grow.trans (Grow.alloc (Grow.refl w) _) hb1); clear hb1)) | (go_at_call 31; first | (with_reducible refine (IA.out _).mono ?_; rintro e w9 ⟨rfl, rfl⟩) | (with_reducible refine (IB.out _).mono ?_; rintro e w9 ⟨rfl, rfl⟩) | (with_reducible refine (IC.out _).mono ?_; rintro e w9 ⟨rfl, rfl⟩) | (with_reducible refine (ID.out _).mono ?_; rintro e w9 ⟨rfl, rfl⟩)))
      have h9 := HB1.out
      refine bodyPost_ret (v := .tuple #[.int .i64 0, .int .i64 2]) (by simp only [results, Try.results21]; go_simp) rfl ⟨rfl, by (repeat (first | with_reducible exact Grow.refl _ | with_reducible refine Grow.alloc ?_ _ | with_reducible refine Grow.drew ?_ | with_reducible refine Grow.drewN ?_ _ | (with_reducible refine Grow.setCell ?_ ?hp _; (case hp => (simp; try omega))) | with_reducible refine Grow.trans ?_ (by assumption)))⟩
  · have g0 : inB m.a = false := by simpa using h0
    rw [g0] at IA
    clear hf2
    go_enter Try.func21, Try.ntmps21
    go_wp2_with (first | (go_at_call 41; (with_reducible refine (PT.out _).mono ?_); (rintro e w1 ⟨rfl, hb1⟩; have hz1 := hb1.size; (try simp at hz1); have hz1b : w.heap.size < w1.heap.size := (by omega); have c0 : w1.cell? ⟨w.heap.size, 0, none⟩ = some (.int .i64 m.a) := (by rw [hb1.cells _ _ (by simp)]; go_simp); have c1 : w1.cell? ⟨w.heap.size, 1, none⟩ = some (.int .i64 m.b) := (by rw [hb1.cells _ _ (by simp)]; go_simp); have c2 : w1.cell? ⟨w.heap.size, 2, none⟩ = some (.int .i64 m.c) := (by rw [hb1.cells _ _ (by simp)]; go_simp); have c3 : w1.cell? ⟨w.heap.size, 3, none⟩ = some (.int .i64 m.d) := (by rw [hb1.cells _ _ (by simp)]; go_simp); have HB1 := Lib.hid (Grow.trans (Grow.alloc (Grow.refl w) _) hb1); clear hb1)) | (go_at_call 31; first | (with_reducible refine (IA.out _).mono ?_; rintro e w9 ⟨rfl, rfl⟩) | (with_reducible refine (IB.out _).mono ?_; rintro e w9 ⟨rfl, rfl⟩) | (with_reducible refine (IC.out _).mono ?_; rintro e w9 ⟨rfl, rfl⟩) | (with_reducible refine (ID.out _).mono ?_; rintro e w9 ⟨rfl, rfl⟩)))
    have h9 := HB1.out
    refine bodyPost_ret (v := .tuple #[.int .i64 0, .int .i64 2]) (by simp only [results, Try.results21]; go_simp) rfl ⟨rfl, by (repeat (first | with_reducible exact Grow.refl _ | with_reducible refine Grow.alloc ?_ _ | with_reducible refine Grow.drew ?_ | with_reducible refine Grow.drewN ?_ _ | (with_reducible refine Grow.setCell ?_ ?hp _; (case hp => (simp; try omega))) | with_reducible refine Grow.trans ?_ (by assumption)))⟩
set_option maxRecDepth 20000 in
set_option maxHeartbeats 4000000 in
theorem act_cop (n i : Int) (m : M2) (x : P3) (h1 : 1 ≤ n) (h2 : n ≤ 120) (hx : ptR n i = (x, 0)) (hf : m.fits = true) (hd : Int.gcd m.det n ≠ 1) (w : World) : Calls Try.prog 21 #[.int .i64 n, .int .i64 i, .agg #[.int .i64 m.a, .int .i64 m.b, .int .i64 m.c, .int .i64 m.d]] w fun e w' => e = .returned (.tuple #[.int .i64 0, .int .i64 9]) ∧ Grow w w' := by
  have PT := Lib.hid (fun u => point_any n i u)
  rw [hx] at PT
  obtain ⟨fa, fb, fc, fd⟩ := fitsB_iff.1 hf
  have ba := inB_iff.1 fa
  have bb := inB_iff.1 fb
  have bc := inB_iff.1 fc
  have bd := inB_iff.1 fd
  have p1 := mulB ba bd
  have p2 := mulB bb bc
  have y1 : IntKind.i64.wrap (m.a * m.d) = m.a * m.d := IntWalk.i64_in _ (by omega)
  have y2 : IntKind.i64.wrap (m.b * m.c) = m.b * m.c := IntWalk.i64_in _ (by omega)
  obtain ⟨D, hD⟩ : ∃ D, m.det = D := ⟨_, rfl⟩
  have hD2 : m.a * m.d - m.b * m.c = D := hD
  have y3 : wrap64 (m.a * m.d - m.b * m.c) = D := by rw [← hD2]; unfold wrap64; omega
  have y4 : IntKind.i64.wrap (m.a * m.d - m.b * m.c) = D := by rw [← hD2]; exact IntWalk.i64_in _ (by omega)
  have IA := Lib.hid (fun u => pin_any m.a u)
  have IB := Lib.hid (fun u => pin_any m.b u)
  have IC := Lib.hid (fun u => pin_any m.c u)
  have ID := Lib.hid (fun u => pin_any m.d u)
  rw [fa] at IA
  rw [fb] at IB
  rw [fc] at IC
  rw [fd] at ID
  rw [hD] at hd
  have GC := Lib.hid (fun u => gcd_any D n (by omega) (by omega) (by omega) (by omega) u)
  obtain ⟨G, hG⟩ : ∃ G : Int, ((Int.gcd D n : Nat) : Int) = G := ⟨_, rfl⟩
  rw [hG] at GC
  have e1 : (G != 1) = true := by simp; omega
  clear hx hf hd hD hD2 hG p1 p2
  go_enter Try.func21, Try.ntmps21
  go_wp2_with (first | (go_at_call 41; (with_reducible refine (PT.out _).mono ?_); (rintro e w1 ⟨rfl, hb1⟩; have hz1 := hb1.size; (try simp at hz1); have hz1b : w.heap.size < w1.heap.size := (by omega); have c0 : w1.cell? ⟨w.heap.size, 0, none⟩ = some (.int .i64 m.a) := (by rw [hb1.cells _ _ (by simp)]; go_simp); have c1 : w1.cell? ⟨w.heap.size, 1, none⟩ = some (.int .i64 m.b) := (by rw [hb1.cells _ _ (by simp)]; go_simp); have c2 : w1.cell? ⟨w.heap.size, 2, none⟩ = some (.int .i64 m.c) := (by rw [hb1.cells _ _ (by simp)]; go_simp); have c3 : w1.cell? ⟨w.heap.size, 3, none⟩ = some (.int .i64 m.d) := (by rw [hb1.cells _ _ (by simp)]; go_simp); have HB1 := Lib.hid (Grow.trans (Grow.alloc (Grow.refl w) _) hb1); clear hb1)) | (go_at_call 31; first | (with_reducible refine (IA.out _).mono ?_; rintro e w9 ⟨rfl, rfl⟩) | (with_reducible refine (IB.out _).mono ?_; rintro e w9 ⟨rfl, rfl⟩) | (with_reducible refine (IC.out _).mono ?_; rintro e w9 ⟨rfl, rfl⟩) | (with_reducible refine (ID.out _).mono ?_; rintro e w9 ⟨rfl, rfl⟩)) | (go_at_call 32; (with_reducible refine (GC.out _).mono ?_); (rintro e w2 ⟨rfl, hb2⟩; have hz2 := hb2.size; (try simp at hz2); have hz2b : w.heap.size < w2.heap.size := (by omega); have hz2c : w1.heap.size < w2.heap.size := (by omega); have d0 : w2.cell? ⟨w.heap.size, 0, none⟩ = some (.int .i64 m.a) := (by rw [hb2.cells _ _ (by simp; omega)]; go_simp); have d1 : w2.cell? ⟨w.heap.size, 1, none⟩ = some (.int .i64 m.b) := (by rw [hb2.cells _ _ (by simp; omega)]; go_simp); have d2 : w2.cell? ⟨w.heap.size, 2, none⟩ = some (.int .i64 m.c) := (by rw [hb2.cells _ _ (by simp; omega)]; go_simp); have d3 : w2.cell? ⟨w.heap.size, 3, none⟩ = some (.int .i64 m.d) := (by rw [hb2.cells _ _ (by simp; omega)]; go_simp); have x0 : w2.cell? ⟨w1.heap.size, 0, none⟩ = some (.int .i64 x.u) := (by rw [hb2.cells _ _ (by simp)]; go_simp); have x1 : w2.cell? ⟨w1.heap.size, 1, none⟩ = some (.int .i64 x.v) := (by rw [hb2.cells _ _ (by simp)]; go_simp); have HB2 := Lib.hid (Grow.trans (Grow.trans HB1.out (by (repeat (first | with_reducible exact Grow.refl _ | with_reducible refine Grow.alloc ?_ _ | with_reducible refine Grow.drew ?_ | with_reducible refine Grow.drewN ?_ _ | (with_reducible refine Grow.setCell ?_ ?hp _; (case hp => (simp; try omega))) | with_reducible refine Grow.trans ?_ (by assumption))))) hb2); clear hb2 c0 c1 c2 c3)))
  have h9 := HB2.out
  refine bodyPost_ret (v := .tuple #[.int .i64 0, .int .i64 9]) (by simp only [results, Try.results21]; go_simp) rfl ⟨rfl, h9⟩
set_option maxRecDepth 20000 in
set_option maxHeartbeats 4000000 in
theorem act_ok (n i : Int) (m : M2) (x : P3) (h1 : 1 ≤ n) (h2 : n ≤ 120) (hx : ptR n i = (x, 0)) (hin : InL n x) (hf : m.fits = true) (hd : Int.gcd m.det n = 1) (w : World) : Calls Try.prog 21 #[.int .i64 n, .int .i64 i, .agg #[.int .i64 m.a, .int .i64 m.b, .int .i64 m.c, .int .i64 m.d]] w fun e w' => e = .returned (.tuple #[.int .i64 (ixF n (normF n (actU x m % n) (actV x m % n)) : Nat), .int .i64 0]) ∧ Grow w w' := by
  have PT := Lib.hid (fun u => point_any n i u)
  rw [hx] at PT
  have hinA := inL_act h1 h2 hin hd
  obtain ⟨fa, fb, fc, fd⟩ := fitsB_iff.1 hf
  have ba := inB_iff.1 fa
  have bb := inB_iff.1 fb
  have bc := inB_iff.1 fc
  have bd := inB_iff.1 fd
  have p1 := mulB ba bd
  have p2 := mulB bb bc
  have y1 : IntKind.i64.wrap (m.a * m.d) = m.a * m.d := IntWalk.i64_in _ (by omega)
  have y2 : IntKind.i64.wrap (m.b * m.c) = m.b * m.c := IntWalk.i64_in _ (by omega)
  obtain ⟨D, hD⟩ : ∃ D, m.det = D := ⟨_, rfl⟩
  have hD2 : m.a * m.d - m.b * m.c = D := hD
  have y3 : wrap64 (m.a * m.d - m.b * m.c) = D := by rw [← hD2]; unfold wrap64; omega
  have y4 : IntKind.i64.wrap (m.a * m.d - m.b * m.c) = D := by rw [← hD2]; exact IntWalk.i64_in _ (by omega)
  have IA := Lib.hid (fun u => pin_any m.a u)
  have IB := Lib.hid (fun u => pin_any m.b u)
  have IC := Lib.hid (fun u => pin_any m.c u)
  have ID := Lib.hid (fun u => pin_any m.d u)
  rw [fa] at IA
  rw [fb] at IB
  rw [fc] at IC
  rw [fd] at ID
  rw [hD] at hd
  have GC := Lib.hid (fun u => gcd_any D n (by omega) (by omega) (by omega) (by omega) u)
  rw [hd] at GC
  obtain ⟨r1, r2, r3, r4, -⟩ := hin
  have q1 := mulS ⟨r1, by omega⟩ ba
  have q2 := mulS ⟨r3, by omega⟩ bc
  have q3 := mulS ⟨r1, by omega⟩ bb
  have q4 := mulS ⟨r3, by omega⟩ bd
  have z1 : IntKind.i64.wrap (x.u * m.a) = x.u * m.a := IntWalk.i64_in _ (by omega)
  have z2 : IntKind.i64.wrap (x.v * m.c) = x.v * m.c := IntWalk.i64_in _ (by omega)
  have z3 : IntKind.i64.wrap (x.u * m.b) = x.u * m.b := IntWalk.i64_in _ (by omega)
  have z4 : IntKind.i64.wrap (x.v * m.d) = x.v * m.d := IntWalk.i64_in _ (by omega)
  obtain ⟨U, hU⟩ : ∃ U, actU x m = U := ⟨_, rfl⟩
  obtain ⟨V, hV⟩ : ∃ V, actV x m = V := ⟨_, rfl⟩
  have hU2 : x.u * m.a + x.v * m.c = U := hU
  have hV2 : x.u * m.b + x.v * m.d = V := hV
  have z5 : IntKind.i64.wrap (x.u * m.a + x.v * m.c) = U := by rw [← hU2]; exact IntWalk.i64_in _ (by omega)
  have z6 : IntKind.i64.wrap (x.u * m.b + x.v * m.d) = V := by rw [← hV2]; exact IntWalk.i64_in _ (by omega)
  rw [hU, hV] at hinA ⊢
  have m1 := Int.emod_nonneg U (b := n) (by omega)
  have m2 := Int.emod_lt_of_pos U (b := n) (by omega)
  have m3 := Int.emod_nonneg V (b := n) (by omega)
  have m4 := Int.emod_lt_of_pos V (b := n) (by omega)
  have RU := Lib.hid (fun u => res_any U n (by omega) (by omega) u)
  have RV := Lib.hid (fun u => res_any V n (by omega) (by omega) u)
  obtain ⟨p, hp⟩ : ∃ p, U % n = p := ⟨_, rfl⟩
  obtain ⟨q, hq⟩ : ∃ q, V % n = q := ⟨_, rfl⟩
  rw [hp] at m1 m2 RU hinA ⊢
  rw [hq] at m3 m4 RV hinA ⊢
  have NM := Lib.hid (fun u => pnormal_any n p q h1 h2 m1 m2 m3 m4 u)
  have FD := Lib.hid (fun u => find_any n (normF n p q) h1 h2 hinA u)
  generalize hR : ixF n (normF n p q) = R at FD ⊢
  generalize normF n p q = y at NM FD
  clear hx hf hd hD hD2 p1 p2 hinA hU hV hU2 hV2 hp hq q1 q2 q3 q4 hR
  go_enter Try.func21, Try.ntmps21
  go_wp2_with (first | (go_at_call 41; (with_reducible refine (PT.out _).mono ?_); (rintro e w1 ⟨rfl, hb1⟩; have hz1 := hb1.size; (try simp at hz1); have hz1b : w.heap.size < w1.heap.size := (by omega); have c0 : w1.cell? ⟨w.heap.size, 0, none⟩ = some (.int .i64 m.a) := (by rw [hb1.cells _ _ (by simp)]; go_simp); have c1 : w1.cell? ⟨w.heap.size, 1, none⟩ = some (.int .i64 m.b) := (by rw [hb1.cells _ _ (by simp)]; go_simp); have c2 : w1.cell? ⟨w.heap.size, 2, none⟩ = some (.int .i64 m.c) := (by rw [hb1.cells _ _ (by simp)]; go_simp); have c3 : w1.cell? ⟨w.heap.size, 3, none⟩ = some (.int .i64 m.d) := (by rw [hb1.cells _ _ (by simp)]; go_simp); have HB1 := Lib.hid (Grow.trans (Grow.alloc (Grow.refl w) _) hb1); clear hb1)) | (go_at_call 31; first | (with_reducible refine (IA.out _).mono ?_; rintro e w9 ⟨rfl, rfl⟩) | (with_reducible refine (IB.out _).mono ?_; rintro e w9 ⟨rfl, rfl⟩) | (with_reducible refine (IC.out _).mono ?_; rintro e w9 ⟨rfl, rfl⟩) | (with_reducible refine (ID.out _).mono ?_; rintro e w9 ⟨rfl, rfl⟩)) | (go_at_call 32; (with_reducible refine (GC.out _).mono ?_); (rintro e w2 ⟨rfl, hb2⟩; have hz2 := hb2.size; (try simp at hz2); have hz2b : w.heap.size < w2.heap.size := (by omega); have hz2c : w1.heap.size < w2.heap.size := (by omega); have d0 : w2.cell? ⟨w.heap.size, 0, none⟩ = some (.int .i64 m.a) := (by rw [hb2.cells _ _ (by simp; omega)]; go_simp); have d1 : w2.cell? ⟨w.heap.size, 1, none⟩ = some (.int .i64 m.b) := (by rw [hb2.cells _ _ (by simp; omega)]; go_simp); have d2 : w2.cell? ⟨w.heap.size, 2, none⟩ = some (.int .i64 m.c) := (by rw [hb2.cells _ _ (by simp; omega)]; go_simp); have d3 : w2.cell? ⟨w.heap.size, 3, none⟩ = some (.int .i64 m.d) := (by rw [hb2.cells _ _ (by simp; omega)]; go_simp); have x0 : w2.cell? ⟨w1.heap.size, 0, none⟩ = some (.int .i64 x.u) := (by rw [hb2.cells _ _ (by simp)]; go_simp); have x1 : w2.cell? ⟨w1.heap.size, 1, none⟩ = some (.int .i64 x.v) := (by rw [hb2.cells _ _ (by simp)]; go_simp); have HB2 := Lib.hid (Grow.trans (Grow.trans HB1.out (by (repeat (first | with_reducible exact Grow.refl _ | with_reducible refine Grow.alloc ?_ _ | with_reducible refine Grow.drew ?_ | with_reducible refine Grow.drewN ?_ _ | (with_reducible refine Grow.setCell ?_ ?hp _; (case hp => (simp; try omega))) | with_reducible refine Grow.trans ?_ (by assumption))))) hb2); clear hb2 c0 c1 c2 c3)))
  refine region_grow (by kernel_rfl) (by kernel_rfl) ?_
  intro X F hF
  have hFc := hF.cells
  haveI hFn := hF.ne
  repeat (go_big_quiet_step ((first | (go_at_call 34; with_reducible exact grown2_same (RU.out _)) | (go_at_call 34; with_reducible exact grown2_same (RV.out _)) | (go_at_call 33; with_reducible exact hF.call (NM.out _)) | (go_at_call 39; with_reducible exact hF.call (FD.out _)))))
  refine wpQuiet_nil ?_
  rintro _ ⟨x9, rfl⟩
  have hb5 := hF.grow x9
  clear hFc hFn hF
  generalize F x9 = w5 at *
  have hc5 := hb5.cells
  have hf5 := hb5.frees
  have hz5 := hb5.size
  (try simp at hz5)
  go_wp2_with fail
  have h9 := HB2.out.trans hb5
  refine bodyPost_ret (v := .tuple #[.int .i64 (R : Nat), .int .i64 0]) (by simp only [results, Try.results21]; go_simp) rfl ⟨rfl, h9⟩
theorem act_any (n i : Int) (m : M2) (w : World) : Calls Try.prog 21 #[.int .i64 n, .int .i64 i, .agg #[.int .i64 m.a, .int .i64 m.b, .int .i64 m.c, .int .i64 m.d]] w fun e w' => e = .returned (.tuple #[.int .i64 (actR n i m).1, .int .i64 (actR n i m).2]) ∧ Grow w w' := by
  rcases ptR_cases n i with h | ⟨h1, h2, j, -, -, x, hx, -, hin, -⟩
  · rw [actR_bad h]; exact act_pt n i m h w
  · by_cases hf : m.fits = true
    · by_cases hd : Int.gcd m.det n = 1
      · rw [actR_ok hx hf hd]; exact act_ok n i m x h1 h2 hx hin hf hd w
      · rw [actR_cop hx hf hd]; exact act_cop n i m x h1 h2 hx hf hd w
    · have hf2 : m.fits = false := by simpa using hf
      rw [actR_fit hx hf2]; exact act_fit n i m x hx hf2 w
end Go.Proofs.Ytcgiancmponmgaa
