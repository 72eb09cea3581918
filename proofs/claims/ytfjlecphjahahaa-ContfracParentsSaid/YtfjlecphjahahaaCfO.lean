/- Walks: check, cross, Unimodular and Mediant, the program's and the reference's. -/
import Derived.Test.YtfjlecphjahahaaPlL
import Derived.Test.YtfjlecphjahahaaSlD
import Derived.Test.YtfjlecphjahahaaCfB
namespace Go.Proofs.Ytfjlecphjahahaa
open Go Go.RowKit

def ckF (a b : C2) : Int := if ccF a = 0 then ccF b else ccF a
def uniF (a b : C2) : M2 × Int := if ckF a b = 0 then (if cross b a = 1 ∨ cross b a = -1 then (⟨b.p, cross b a * a.p, b.q, cross b a * a.q⟩, 0) else (M2.zero, 3)) else (M2.zero, ckF a b)
def fixA (a : C2) : C2 := if a.q = 0 then ⟨-1, a.q⟩ else a
def medF (a b : C2) : C2 × Int := if ckF a b = 0 then (if cross b (fixA a) = 1 then (if inB ((fixA a).p + b.p) && inB ((fixA a).q + b.q) then (⟨(fixA a).p + b.p, (fixA a).q + b.q⟩, 0) else (C2.zero, 7)) else (C2.zero, 3)) else (C2.zero, ckF a b)
theorem ckF_zero {a b : C2} : ckF a b = 0 ↔ ccF a = 0 ∧ ccF b = 0 := by
  unfold ckF
  by_cases h : ccF a = 0 <;> simp [h]

theorem ck2_any (a b : C2) (w : World) :
    Calls Try.prog 44 #[.agg #[.int .i64 a.p, .int .i64 a.q], .agg #[.int .i64 b.p, .int .i64 b.q]] w fun e w' => e = .returned (.int .i64 (ckF a b)) ∧ Grow w w' := by
  by_cases h : ccF a = 0
  · have hu : ckF a b = ccF b := by simp [ckF, h]
    rw [hu]
    have k1 : (ccF a == 0) = true := by simpa using h
    have k2 : (ccF a != 0) = false := by simpa using h
    clear h hu
    go_enter Try.func44, Try.ntmps44
    go_wp2_with fail
    (go_at_call 15; refine (checkCusp_any a _).mono ?_; rintro e w1 ⟨rfl, hb1⟩; have hc1 := hb1.cells; have hf1 := hb1.frees; have hz1 := hb1.size; (try simp at hz1))
    have zw1_0 : w.heap.size < w1.heap.size := (by omega); have zw1_1 : w.heap.size + 1 < w1.heap.size := (by omega)
    go_wp2_with fail
    (go_at_call 15; refine (checkCusp_any b _).mono ?_; rintro e w2 ⟨rfl, hb2⟩; have hc2 := hb2.cells; have hf2 := hb2.frees; have hz2 := hb2.size; (try simp at hz2))
    go_wp2_with fail
    go_ret
    exact ⟨rfl, by (repeat (first | with_reducible exact Grow.refl _ | with_reducible refine Grow.alloc ?_ _ | with_reducible refine Grow.drew ?_ | with_reducible refine Grow.drewN ?_ _ | (with_reducible refine Grow.setCell ?_ ?hp _; (case hp => (simp; try omega))) | with_reducible refine Grow.trans ?_ (by assumption)))⟩
  · have hu : ckF a b = ccF a := by simp [ckF, h]
    rw [hu]
    have k1 : (ccF a == 0) = false := by simpa using h
    have k2 : (ccF a != 0) = true := by simpa using h
    clear h hu
    go_enter Try.func44, Try.ntmps44
    go_wp2_with fail
    (go_at_call 15; refine (checkCusp_any a _).mono ?_; rintro e w1 ⟨rfl, hb1⟩; have hc1 := hb1.cells; have hf1 := hb1.frees; have hz1 := hb1.size; (try simp at hz1))
    have zw1_0 : w.heap.size < w1.heap.size := (by omega); have zw1_1 : w.heap.size + 1 < w1.heap.size := (by omega)
    go_wp2_with fail
    go_ret
    exact ⟨rfl, by (repeat (first | with_reducible exact Grow.refl _ | with_reducible refine Grow.alloc ?_ _ | with_reducible refine Grow.drew ?_ | with_reducible refine Grow.drewN ?_ _ | (with_reducible refine Grow.setCell ?_ ?hp _; (case hp => (simp; try omega))) | with_reducible refine Grow.trans ?_ (by assumption)))⟩
theorem refck2_any (a b : C2) (w : World) :
    Calls Try.prog 46 #[.agg #[.int .i64 a.p, .int .i64 a.q], .agg #[.int .i64 b.p, .int .i64 b.q]] w fun e w' => e = .returned (.int .i64 (ckF a b)) ∧ Grow w w' := by
  by_cases h : ccF a = 0
  · have hu : ckF a b = ccF b := by simp [ckF, h]
    rw [hu]
    have k1 : (ccF a == 0) = true := by simpa using h
    have k2 : (ccF a != 0) = false := by simpa using h
    clear h hu
    go_enter Try.func46, Try.ntmps46
    go_wp2_with fail
    (go_at_call 41; refine (refCheckCusp_any a _).mono ?_; rintro e w1 ⟨rfl, hb1⟩; have hc1 := hb1.cells; have hf1 := hb1.frees; have hz1 := hb1.size; (try simp at hz1))
    have zw1_0 : w.heap.size < w1.heap.size := (by omega); have zw1_1 : w.heap.size + 1 < w1.heap.size := (by omega)
    go_wp2_with fail
    (go_at_call 41; refine (refCheckCusp_any b _).mono ?_; rintro e w2 ⟨rfl, hb2⟩; have hc2 := hb2.cells; have hf2 := hb2.frees; have hz2 := hb2.size; (try simp at hz2))
    go_wp2_with fail
    go_ret
    exact ⟨rfl, by (repeat (first | with_reducible exact Grow.refl _ | with_reducible refine Grow.alloc ?_ _ | with_reducible refine Grow.drew ?_ | with_reducible refine Grow.drewN ?_ _ | (with_reducible refine Grow.setCell ?_ ?hp _; (case hp => (simp; try omega))) | with_reducible refine Grow.trans ?_ (by assumption)))⟩
  · have hu : ckF a b = ccF a := by simp [ckF, h]
    rw [hu]
    have k1 : (ccF a == 0) = false := by simpa using h
    have k2 : (ccF a != 0) = true := by simpa using h
    clear h hu
    go_enter Try.func46, Try.ntmps46
    go_wp2_with fail
    (go_at_call 41; refine (refCheckCusp_any a _).mono ?_; rintro e w1 ⟨rfl, hb1⟩; have hc1 := hb1.cells; have hf1 := hb1.frees; have hz1 := hb1.size; (try simp at hz1))
    have zw1_0 : w.heap.size < w1.heap.size := (by omega); have zw1_1 : w.heap.size + 1 < w1.heap.size := (by omega)
    go_wp2_with fail
    go_ret
    exact ⟨rfl, by (repeat (first | with_reducible exact Grow.refl _ | with_reducible refine Grow.alloc ?_ _ | with_reducible refine Grow.drew ?_ | with_reducible refine Grow.drewN ?_ _ | (with_reducible refine Grow.setCell ?_ ?hp _; (case hp => (simp; try omega))) | with_reducible refine Grow.trans ?_ (by assumption)))⟩
theorem cross_any (a b : C2) (ha : inB a.p = true ∧ inB a.q = true) (hb : inB b.p = true ∧ inB b.q = true) (w : World) :
    Calls Try.prog 45 #[.agg #[.int .i64 a.p, .int .i64 a.q], .agg #[.int .i64 b.p, .int .i64 b.q]] w fun e w' => e = .returned (.int .i64 (cross b a)) ∧ Grow w w' := by
  obtain ⟨p1, p2⟩ := mul_in hb.1 ha.2
  obtain ⟨p3, p4⟩ := mul_in ha.1 hb.2
  have y1 : IntKind.i64.wrap (b.p * a.q) = b.p * a.q := IntWalk.i64_in _ (by omega)
  have y2 : IntKind.i64.wrap (a.p * b.q) = a.p * b.q := IntWalk.i64_in _ (by omega)
  have y3 : IntKind.i64.wrap (b.p * a.q - a.p * b.q) = b.p * a.q - a.p * b.q := IntWalk.i64_in _ (by omega)
  clear p1 p2 p3 p4 ha hb
  go_enter Try.func45, Try.ntmps45
  go_wp2_with fail
  go_ret
  exact ⟨rfl, by (repeat (first | with_reducible exact Grow.refl _ | with_reducible refine Grow.alloc ?_ _ | with_reducible refine Grow.drew ?_ | with_reducible refine Grow.drewN ?_ _ | (with_reducible refine Grow.setCell ?_ ?hp _; (case hp => (simp; try omega))) | with_reducible refine Grow.trans ?_ (by assumption)))⟩

theorem uni_ck (a b : C2) (h : ckF a b ≠ 0) (w : World) :
    Calls Try.prog 33 #[.agg #[.int .i64 a.p, .int .i64 a.q], .agg #[.int .i64 b.p, .int .i64 b.q]] w fun e w' => e = .returned (.tuple #[.agg #[.int .i64 0, .int .i64 0, .int .i64 0, .int .i64 0], .int .i64 (ckF a b)]) ∧ Grow w w' := by
  have k1 : (ckF a b == 0) = false := by simpa using h
  have k2 : (ckF a b != 0) = true := by simpa using h
  clear h
  go_enter Try.func33, Try.ntmps33
  go_wp2_with fail
  (go_at_call 44; refine (ck2_any a b _).mono ?_; rintro e w1 ⟨rfl, hb1⟩; have hc1 := hb1.cells; have hf1 := hb1.frees; have hz1 := hb1.size; (try simp at hz1))
  have zw1_0 : w.heap.size < w1.heap.size := (by omega); have zw1_1 : w.heap.size + 1 < w1.heap.size := (by omega); have zw1_2 : w.heap.size + 1 + 1 < w1.heap.size := (by omega)
  go_wp2_with fail
  exact bodyPost_ret (v := .tuple #[.agg #[.int .i64 0, .int .i64 0, .int .i64 0, .int .i64 0], .int .i64 (ckF a b)]) (by simp only [results, Try.results33]; go_simp) rfl ⟨rfl, by (repeat (first | with_reducible exact Grow.refl _ | with_reducible refine Grow.alloc ?_ _ | with_reducible refine Grow.drew ?_ | with_reducible refine Grow.drewN ?_ _ | (with_reducible refine Grow.setCell ?_ ?hp _; (case hp => (simp; try omega))) | with_reducible refine Grow.trans ?_ (by assumption)))⟩
theorem uni_no (a b : C2) (h : ckF a b = 0) (hdd : ¬ (cross b a = 1 ∨ cross b a = -1)) (w : World) :
    Calls Try.prog 33 #[.agg #[.int .i64 a.p, .int .i64 a.q], .agg #[.int .i64 b.p, .int .i64 b.q]] w fun e w' => e = .returned (.tuple #[.agg #[.int .i64 0, .int .i64 0, .int .i64 0, .int .i64 0], .int .i64 3]) ∧ Grow w w' := by
  obtain ⟨ha, hb⟩ := ckF_zero.1 h
  obtain ⟨g1, -, g3, -, -⟩ := ccF_zero.1 ha
  obtain ⟨h1, -, h3, -, -⟩ := ccF_zero.1 hb
  have k1 : (ckF a b == 0) = true := by simpa using h
  have k2 : (ckF a b != 0) = false := by simpa using h
  have CR := Lib.hid (fun w => cross_any a b ⟨g1, g3⟩ ⟨h1, h3⟩ w)
  obtain ⟨d, hd⟩ : ∃ d, cross b a = d := ⟨_, rfl⟩
  rw [hd] at hdd CR
  clear hd
  have e1 : (d == 1) = false := by simp; omega
  have e2 : (d != 1) = true := by simp; omega
  have e3 : (d == -1) = false := by simp; omega
  have e4 : (d != -1) = true := by simp; omega
  clear h ha hb g1 g3 h1 h3 hdd
  go_enter Try.func33, Try.ntmps33
  go_wp2_with fail
  (go_at_call 44; refine (ck2_any a b _).mono ?_; rintro e w1 ⟨rfl, hb1⟩; have hc1 := hb1.cells; have hf1 := hb1.frees; have hz1 := hb1.size; (try simp at hz1))
  have zw1_0 : w.heap.size < w1.heap.size := (by omega); have zw1_1 : w.heap.size + 1 < w1.heap.size := (by omega); have zw1_2 : w.heap.size + 1 + 1 < w1.heap.size := (by omega)
  go_wp2_with fail
  (go_at_call 45; refine (CR.out _).mono ?_; rintro e w2 ⟨rfl, hb2⟩; have hc2 := hb2.cells; have hf2 := hb2.frees; have hz2 := hb2.size; (try simp at hz2))
  have zw2_0 : w.heap.size < w2.heap.size := (by omega); have zw2_1 : w.heap.size + 1 < w2.heap.size := (by omega); have zw2_2 : w.heap.size + 1 + 1 < w2.heap.size := (by omega)
  have zz : w.heap.size < w2.heap.size := by omega
  go_wp2_with fail
  exact bodyPost_ret (v := .tuple #[.agg #[.int .i64 0, .int .i64 0, .int .i64 0, .int .i64 0], .int .i64 3]) (by simp only [results, Try.results33]; go_simp) rfl ⟨rfl, by (repeat (first | with_reducible exact Grow.refl _ | with_reducible refine Grow.alloc ?_ _ | with_reducible refine Grow.drew ?_ | with_reducible refine Grow.drewN ?_ _ | (with_reducible refine Grow.setCell ?_ ?hp _; (case hp => (simp; try omega))) | with_reducible refine Grow.trans ?_ (by assumption)))⟩
theorem uni_ok (a b : C2) (h : ckF a b = 0) (hdd : cross b a = 1 ∨ cross b a = -1) (w : World) :
    Calls Try.prog 33 #[.agg #[.int .i64 a.p, .int .i64 a.q], .agg #[.int .i64 b.p, .int .i64 b.q]] w fun e w' => e = .returned (.tuple #[.agg #[.int .i64 b.p, .int .i64 (cross b a * a.p), .int .i64 b.q, .int .i64 (cross b a * a.q)], .int .i64 0]) ∧ Grow w w' := by
  obtain ⟨ha, hb⟩ := ckF_zero.1 h
  obtain ⟨g1, -, g3, -, -⟩ := ccF_zero.1 ha
  obtain ⟨h1, -, h3, -, -⟩ := ccF_zero.1 hb
  have k1 : (ckF a b == 0) = true := by simpa using h
  have k2 : (ckF a b != 0) = false := by simpa using h
  have CR := Lib.hid (fun w => cross_any a b ⟨g1, g3⟩ ⟨h1, h3⟩ w)
  obtain ⟨d, hd⟩ : ∃ d, cross b a = d := ⟨_, rfl⟩
  rw [hd] at hdd CR ⊢
  clear hd
  obtain ⟨b1, b2⟩ := inB_iff.1 g1
  obtain ⟨b3, b4⟩ := inB_iff.1 g3
  have w1' : -1073741824 ≤ d * a.p ∧ d * a.p ≤ 1073741824 := by rcases hdd with hx | hx <;> rw [hx] <;> omega
  have w2' : -1073741824 ≤ d * a.q ∧ d * a.q ≤ 1073741824 := by rcases hdd with hx | hx <;> rw [hx] <;> omega
  have y5 : IntKind.i64.wrap (d * a.p) = d * a.p := IntWalk.i64_in _ (by omega)
  have y6 : IntKind.i64.wrap (d * a.q) = d * a.q := IntWalk.i64_in _ (by omega)
  have hb2 : ∃ B : Bool, (d == 1) = B ∧ (d != 1) = !B ∧ (B = false → (d != -1) = false ∧ (d == -1) = true) := ⟨_, rfl, rfl, fun hB => by simp at hB; simp; omega⟩
  obtain ⟨B, e1, e2, e3⟩ := hb2
  clear h ha hb g1 g3 h1 h3 hdd b1 b2 b3 b4 w1' w2'
  cases B with
  | true =>
    simp only [Bool.not_true] at e2
    clear e3
    go_enter Try.func33, Try.ntmps33
    go_wp2_with fail
    (go_at_call 44; refine (ck2_any a b _).mono ?_; rintro e w1 ⟨rfl, hb1⟩; have hc1 := hb1.cells; have hf1 := hb1.frees; have hz1 := hb1.size; (try simp at hz1))
    have zw1_0 : w.heap.size < w1.heap.size := (by omega); have zw1_1 : w.heap.size + 1 < w1.heap.size := (by omega); have zw1_2 : w.heap.size + 1 + 1 < w1.heap.size := (by omega)
    go_wp2_with fail
    (go_at_call 45; refine (CR.out _).mono ?_; rintro e w2 ⟨rfl, hb2⟩; have hc2 := hb2.cells; have hf2 := hb2.frees; have hz2 := hb2.size; (try simp at hz2))
    have zw2_0 : w.heap.size < w2.heap.size := (by omega); have zw2_1 : w.heap.size + 1 < w2.heap.size := (by omega); have zw2_2 : w.heap.size + 1 + 1 < w2.heap.size := (by omega)
    have zz : w.heap.size < w2.heap.size := by omega
    go_wp2_with fail
    exact bodyPost_ret (v := .tuple #[.agg #[.int .i64 b.p, .int .i64 (d * a.p), .int .i64 b.q, .int .i64 (d * a.q)], .int .i64 0]) (by simp only [results, Try.results33]; go_simp) rfl ⟨rfl, by (repeat (first | with_reducible exact Grow.refl _ | with_reducible refine Grow.alloc ?_ _ | with_reducible refine Grow.drew ?_ | with_reducible refine Grow.drewN ?_ _ | (with_reducible refine Grow.setCell ?_ ?hp _; (case hp => (simp; try omega))) | with_reducible refine Grow.trans ?_ (by assumption)))⟩
  | false =>
    simp only [Bool.not_false] at e2
    obtain ⟨e4, e5⟩ := e3 rfl
    clear e3
    go_enter Try.func33, Try.ntmps33
    go_wp2_with fail
    (go_at_call 44; refine (ck2_any a b _).mono ?_; rintro e w1 ⟨rfl, hb1⟩; have hc1 := hb1.cells; have hf1 := hb1.frees; have hz1 := hb1.size; (try simp at hz1))
    have zw1_0 : w.heap.size < w1.heap.size := (by omega); have zw1_1 : w.heap.size + 1 < w1.heap.size := (by omega); have zw1_2 : w.heap.size + 1 + 1 < w1.heap.size := (by omega)
    go_wp2_with fail
    (go_at_call 45; refine (CR.out _).mono ?_; rintro e w2 ⟨rfl, hb2⟩; have hc2 := hb2.cells; have hf2 := hb2.frees; have hz2 := hb2.size; (try simp at hz2))
    have zw2_0 : w.heap.size < w2.heap.size := (by omega); have zw2_1 : w.heap.size + 1 < w2.heap.size := (by omega); have zw2_2 : w.heap.size + 1 + 1 < w2.heap.size := (by omega)
    have zz : w.heap.size < w2.heap.size := by omega
    go_wp2_with fail
    exact bodyPost_ret (v := .tuple #[.agg #[.int .i64 b.p, .int .i64 (d * a.p), .int .i64 b.q, .int .i64 (d * a.q)], .int .i64 0]) (by simp only [results, Try.results33]; go_simp) rfl ⟨rfl, by (repeat (first | with_reducible exact Grow.refl _ | with_reducible refine Grow.alloc ?_ _ | with_reducible refine Grow.drew ?_ | with_reducible refine Grow.drewN ?_ _ | (with_reducible refine Grow.setCell ?_ ?hp _; (case hp => (simp; try omega))) | with_reducible refine Grow.trans ?_ (by assumption)))⟩
theorem uni_any (a b : C2) (w : World) :
    Calls Try.prog 33 #[.agg #[.int .i64 a.p, .int .i64 a.q], .agg #[.int .i64 b.p, .int .i64 b.q]] w fun e w' => e = .returned (.tuple #[.agg #[.int .i64 (uniF a b).1.a, .int .i64 (uniF a b).1.b, .int .i64 (uniF a b).1.c, .int .i64 (uniF a b).1.d], .int .i64 (uniF a b).2]) ∧ Grow w w' := by
  unfold uniF
  by_cases h : ckF a b = 0
  · rw [if_pos h]
    by_cases hd : cross b a = 1 ∨ cross b a = -1
    · rw [if_pos hd]; exact uni_ok a b h hd w
    · rw [if_neg hd]; exact uni_no a b h hd w
  · rw [if_neg h]; exact uni_ck a b h w

theorem refuni_ck (a b : C2) (h : ckF a b ≠ 0) (w : World) :
    Calls Try.prog 34 #[.agg #[.int .i64 a.p, .int .i64 a.q], .agg #[.int .i64 b.p, .int .i64 b.q]] w fun e w' => e = .returned (.tuple #[.agg #[.int .i64 0, .int .i64 0, .int .i64 0, .int .i64 0], .int .i64 (ckF a b)]) ∧ Grow w w' := by
  have k1 : (ckF a b == 0) = false := by simpa using h
  have k2 : (ckF a b != 0) = true := by simpa using h
  clear h
  go_enter Try.func34, Try.ntmps34
  go_wp2_with fail
  (go_at_call 46; refine (refck2_any a b _).mono ?_; rintro e w1 ⟨rfl, hb1⟩; have hc1 := hb1.cells; have hf1 := hb1.frees; have hz1 := hb1.size; (try simp at hz1))
  have zw1_0 : w.heap.size < w1.heap.size := (by omega); have zw1_1 : w.heap.size + 1 < w1.heap.size := (by omega); have zw1_2 : w.heap.size + 1 + 1 < w1.heap.size := (by omega)
  go_wp2_with fail
  exact bodyPost_ret (v := .tuple #[.agg #[.int .i64 0, .int .i64 0, .int .i64 0, .int .i64 0], .int .i64 (ckF a b)]) (by simp only [results, Try.results34]; go_simp) rfl ⟨rfl, by (repeat (first | with_reducible exact Grow.refl _ | with_reducible refine Grow.alloc ?_ _ | with_reducible refine Grow.drew ?_ | with_reducible refine Grow.drewN ?_ _ | (with_reducible refine Grow.setCell ?_ ?hp _; (case hp => (simp; try omega))) | with_reducible refine Grow.trans ?_ (by assumption)))⟩
theorem refuni_no (a b : C2) (h : ckF a b = 0) (hdd : ¬ (cross b a = 1 ∨ cross b a = -1)) (w : World) :
    Calls Try.prog 34 #[.agg #[.int .i64 a.p, .int .i64 a.q], .agg #[.int .i64 b.p, .int .i64 b.q]] w fun e w' => e = .returned (.tuple #[.agg #[.int .i64 0, .int .i64 0, .int .i64 0, .int .i64 0], .int .i64 3]) ∧ Grow w w' := by
  obtain ⟨ha, hb⟩ := ckF_zero.1 h
  obtain ⟨g1, -, g3, -, -⟩ := ccF_zero.1 ha
  obtain ⟨h1, -, h3, -, -⟩ := ccF_zero.1 hb
  have k1 : (ckF a b == 0) = true := by simpa using h
  have k2 : (ckF a b != 0) = false := by simpa using h
  obtain ⟨r1, r2⟩ := mul_in h1 g3
  obtain ⟨r3, r4⟩ := mul_in g1 h3
  have y1 : IntKind.i64.wrap (b.p * a.q) = b.p * a.q := IntWalk.i64_in _ (by omega)
  have y2 : IntKind.i64.wrap (a.p * b.q) = a.p * b.q := IntWalk.i64_in _ (by omega)
  have y3 : IntKind.i64.wrap (b.p * a.q - a.p * b.q) = b.p * a.q - a.p * b.q := IntWalk.i64_in _ (by omega)
  obtain ⟨d, hd⟩ : ∃ d, b.p * a.q - a.p * b.q = d := ⟨_, rfl⟩
  have hd2 : cross b a = d := hd
  rw [hd2] at hdd
  rw [hd] at y3
  have e1 : (d == 1) = false := by simp; omega
  have e2 : (d != 1) = true := by simp; omega
  have e3 : (d == -1) = false := by simp; omega
  have e4 : (d != -1) = true := by simp; omega
  clear h ha hb g1 g3 h1 h3 hdd r1 r2 r3 r4
  go_enter Try.func34, Try.ntmps34
  go_wp2_with fail
  (go_at_call 46; refine (refck2_any a b _).mono ?_; rintro e w1 ⟨rfl, hb1⟩; have hc1 := hb1.cells; have hf1 := hb1.frees; have hz1 := hb1.size; (try simp at hz1))
  have zw1_0 : w.heap.size < w1.heap.size := (by omega); have zw1_1 : w.heap.size + 1 < w1.heap.size := (by omega); have zw1_2 : w.heap.size + 1 + 1 < w1.heap.size := (by omega)
  go_wp2_with fail
  exact bodyPost_ret (v := .tuple #[.agg #[.int .i64 0, .int .i64 0, .int .i64 0, .int .i64 0], .int .i64 3]) (by simp only [results, Try.results34]; go_simp) rfl ⟨rfl, by (repeat (first | with_reducible exact Grow.refl _ | with_reducible refine Grow.alloc ?_ _ | with_reducible refine Grow.drew ?_ | with_reducible refine Grow.drewN ?_ _ | (with_reducible refine Grow.setCell ?_ ?hp _; (case hp => (simp; try omega))) | with_reducible refine Grow.trans ?_ (by assumption)))⟩
theorem refuni_ok (a b : C2) (h : ckF a b = 0) (hdd : cross b a = 1 ∨ cross b a = -1) (w : World) :
    Calls Try.prog 34 #[.agg #[.int .i64 a.p, .int .i64 a.q], .agg #[.int .i64 b.p, .int .i64 b.q]] w fun e w' => e = .returned (.tuple #[.agg #[.int .i64 b.p, .int .i64 (cross b a * a.p), .int .i64 b.q, .int .i64 (cross b a * a.q)], .int .i64 0]) ∧ Grow w w' := by
  obtain ⟨ha, hb⟩ := ckF_zero.1 h
  obtain ⟨g1, -, g3, -, -⟩ := ccF_zero.1 ha
  obtain ⟨h1, -, h3, -, -⟩ := ccF_zero.1 hb
  have k1 : (ckF a b == 0) = true := by simpa using h
  have k2 : (ckF a b != 0) = false := by simpa using h
  obtain ⟨r1, r2⟩ := mul_in h1 g3
  obtain ⟨r3, r4⟩ := mul_in g1 h3
  have y1 : IntKind.i64.wrap (b.p * a.q) = b.p * a.q := IntWalk.i64_in _ (by omega)
  have y2 : IntKind.i64.wrap (a.p * b.q) = a.p * b.q := IntWalk.i64_in _ (by omega)
  have y3 : IntKind.i64.wrap (b.p * a.q - a.p * b.q) = b.p * a.q - a.p * b.q := IntWalk.i64_in _ (by omega)
  obtain ⟨d, hd⟩ : ∃ d, b.p * a.q - a.p * b.q = d := ⟨_, rfl⟩
  have hd2 : cross b a = d := hd
  rw [hd2] at hdd ⊢
  rw [hd] at y3
  obtain ⟨b1, b2⟩ := inB_iff.1 g1
  obtain ⟨b3, b4⟩ := inB_iff.1 g3
  have w1' : -1073741824 ≤ d * a.p ∧ d * a.p ≤ 1073741824 := by rcases hdd with hx | hx <;> rw [hx] <;> omega
  have w2' : -1073741824 ≤ d * a.q ∧ d * a.q ≤ 1073741824 := by rcases hdd with hx | hx <;> rw [hx] <;> omega
  have y5 : IntKind.i64.wrap (d * a.p) = d * a.p := IntWalk.i64_in _ (by omega)
  have y6 : IntKind.i64.wrap (d * a.q) = d * a.q := IntWalk.i64_in _ (by omega)
  have hb2 : ∃ B : Bool, (d == 1) = B ∧ (d != 1) = !B ∧ (B = false → (d != -1) = false ∧ (d == -1) = true) := ⟨_, rfl, rfl, fun hB => by simp at hB; simp; omega⟩
  obtain ⟨B, e1, e2, e3⟩ := hb2
  clear h ha hb g1 g3 h1 h3 hdd b1 b2 b3 b4 w1' w2' r1 r2 r3 r4
  cases B with
  | true =>
    simp only [Bool.not_true] at e2
    clear e3
    go_enter Try.func34, Try.ntmps34
    go_wp2_with fail
    (go_at_call 46; refine (refck2_any a b _).mono ?_; rintro e w1 ⟨rfl, hb1⟩; have hc1 := hb1.cells; have hf1 := hb1.frees; have hz1 := hb1.size; (try simp at hz1))
    have zw1_0 : w.heap.size < w1.heap.size := (by omega); have zw1_1 : w.heap.size + 1 < w1.heap.size := (by omega); have zw1_2 : w.heap.size + 1 + 1 < w1.heap.size := (by omega)
    go_wp2_with fail
    exact bodyPost_ret (v := .tuple #[.agg #[.int .i64 b.p, .int .i64 (d * a.p), .int .i64 b.q, .int .i64 (d * a.q)], .int .i64 0]) (by simp only [results, Try.results34]; go_simp) rfl ⟨rfl, by (repeat (first | with_reducible exact Grow.refl _ | with_reducible refine Grow.alloc ?_ _ | with_reducible refine Grow.drew ?_ | with_reducible refine Grow.drewN ?_ _ | (with_reducible refine Grow.setCell ?_ ?hp _; (case hp => (simp; try omega))) | with_reducible refine Grow.trans ?_ (by assumption)))⟩
  | false =>
    simp only [Bool.not_false] at e2
    obtain ⟨e4, e5⟩ := e3 rfl
    clear e3
    go_enter Try.func34, Try.ntmps34
    go_wp2_with fail
    (go_at_call 46; refine (refck2_any a b _).mono ?_; rintro e w1 ⟨rfl, hb1⟩; have hc1 := hb1.cells; have hf1 := hb1.frees; have hz1 := hb1.size; (try simp at hz1))
    have zw1_0 : w.heap.size < w1.heap.size := (by omega); have zw1_1 : w.heap.size + 1 < w1.heap.size := (by omega); have zw1_2 : w.heap.size + 1 + 1 < w1.heap.size := (by omega)
    go_wp2_with fail
    exact bodyPost_ret (v := .tuple #[.agg #[.int .i64 b.p, .int .i64 (d * a.p), .int .i64 b.q, .int .i64 (d * a.q)], .int .i64 0]) (by simp only [results, Try.results34]; go_simp) rfl ⟨rfl, by (repeat (first | with_reducible exact Grow.refl _ | with_reducible refine Grow.alloc ?_ _ | with_reducible refine Grow.drew ?_ | with_reducible refine Grow.drewN ?_ _ | (with_reducible refine Grow.setCell ?_ ?hp _; (case hp => (simp; try omega))) | with_reducible refine Grow.trans ?_ (by assumption)))⟩
theorem refuni_any (a b : C2) (w : World) :
    Calls Try.prog 34 #[.agg #[.int .i64 a.p, .int .i64 a.q], .agg #[.int .i64 b.p, .int .i64 b.q]] w fun e w' => e = .returned (.tuple #[.agg #[.int .i64 (uniF a b).1.a, .int .i64 (uniF a b).1.b, .int .i64 (uniF a b).1.c, .int .i64 (uniF a b).1.d], .int .i64 (uniF a b).2]) ∧ Grow w w' := by
  unfold uniF
  by_cases h : ckF a b = 0
  · rw [if_pos h]
    by_cases hd : cross b a = 1 ∨ cross b a = -1
    · rw [if_pos hd]; exact refuni_ok a b h hd w
    · rw [if_neg hd]; exact refuni_no a b h hd w
  · rw [if_neg h]; exact refuni_ck a b h w
end Go.Proofs.Ytfjlecphjahahaa
