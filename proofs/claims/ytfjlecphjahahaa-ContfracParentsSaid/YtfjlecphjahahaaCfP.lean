/- Walks: Mediant, the program's and the reference's. -/
import Derived.Test.YtfjlecphjahahaaCfO
namespace Go.Proofs.Ytfjlecphjahahaa
open Go Go.RowKit

theorem med_ck (a b : C2) (h : ckF a b ≠ 0) (w : World) :
    Calls Try.prog 29 #[.agg #[.int .i64 a.p, .int .i64 a.q], .agg #[.int .i64 b.p, .int .i64 b.q]] w fun e w' => e = .returned (.tuple #[.agg #[.int .i64 0, .int .i64 0], .int .i64 (ckF a b)]) ∧ Grow w w' := by
  have k1 : (ckF a b == 0) = false := by simpa using h
  have k2 : (ckF a b != 0) = true := by simpa using h
  clear h
  go_enter Try.func29, Try.ntmps29
  go_wp2_with fail
  (go_at_call 44; refine (ck2_any a b _).mono ?_; rintro e w1 ⟨rfl, hb1⟩; have hc1 := hb1.cells; have hf1 := hb1.frees; have hz1 := hb1.size; (try simp at hz1))
  have zw1_0 : w.heap.size < w1.heap.size := (by omega); have zw1_1 : w.heap.size + 1 < w1.heap.size := (by omega); have zw1_2 : w.heap.size + 1 + 1 < w1.heap.size := (by omega)
  go_wp2_with fail
  exact bodyPost_ret (v := .tuple #[.agg #[.int .i64 0, .int .i64 0], .int .i64 (ckF a b)]) (by simp only [results, Try.results29]; go_simp) rfl ⟨rfl, by (repeat (first | with_reducible exact Grow.refl _ | with_reducible refine Grow.alloc ?_ _ | with_reducible refine Grow.drew ?_ | with_reducible refine Grow.drewN ?_ _ | (with_reducible refine Grow.setCell ?_ ?hp _; (case hp => (simp; try omega))) | with_reducible refine Grow.trans ?_ (by assumption)))⟩

theorem med_no1 (a b : C2) (h : ckF a b = 0) (hq : a.q = 0) (hd : cross b ⟨-1, a.q⟩ ≠ 1) (w : World) :
    Calls Try.prog 29 #[.agg #[.int .i64 a.p, .int .i64 a.q], .agg #[.int .i64 b.p, .int .i64 b.q]] w fun e w' => e = .returned (.tuple #[.agg #[.int .i64 0, .int .i64 0], .int .i64 3]) ∧ Grow w w' := by
  obtain ⟨ha, hb⟩ := ckF_zero.1 h
  obtain ⟨g1, -, g3, -, -⟩ := ccF_zero.1 ha
  obtain ⟨h1, -, h3, -, -⟩ := ccF_zero.1 hb
  obtain ⟨b1, b2⟩ := inB_iff.1 g1
  obtain ⟨b3, b4⟩ := inB_iff.1 g3
  obtain ⟨b5, b6⟩ := inB_iff.1 h1
  obtain ⟨b7, b8⟩ := inB_iff.1 h3
  have k1 : (ckF a b == 0) = true := by simpa using h
  have k2 : (ckF a b != 0) = false := by simpa using h
  have q1 : (a.q == 0) = true := by simpa using hq
  have q2 : (a.q != 0) = false := by simpa using hq
  have CR := Lib.hid (fun w => cross_any ⟨-1, a.q⟩ b ⟨(by decide : inB (-1) = true), g3⟩ ⟨h1, h3⟩ w)
  obtain ⟨d, hdd⟩ : ∃ d, cross b ⟨-1, a.q⟩ = d := ⟨_, rfl⟩
  rw [hdd] at hd CR
  clear hdd
  have e1 : (d == 1) = false := by simpa using hd
  have e2 : (d != 1) = true := by simpa using hd
  clear h ha hb g1 g3 h1 h3 hq hd b1 b2 b3 b4 b5 b6 b7 b8
  go_enter Try.func29, Try.ntmps29
  go_wp2_with fail
  (go_at_call 44; refine (ck2_any a b _).mono ?_; rintro e w1 ⟨rfl, hb1⟩; have hc1 := hb1.cells; have hf1 := hb1.frees; have hz1 := hb1.size; (try simp at hz1))
  have zw1_0 : w.heap.size < w1.heap.size := (by omega); have zw1_1 : w.heap.size + 1 < w1.heap.size := (by omega); have zw1_2 : w.heap.size + 1 + 1 < w1.heap.size := (by omega)
  have c0 : w1.cell? ⟨w.heap.size, 0, none⟩ = some (.int .i64 a.p) := by rw [hc1 _ _ (by simp; try omega)]; go_simp
  have c1 : w1.cell? ⟨w.heap.size, 1, none⟩ = some (.int .i64 a.q) := by rw [hc1 _ _ (by simp; try omega)]; go_simp
  have c2 : w1.cell? ⟨w.heap.size + 1, 0, none⟩ = some (.int .i64 b.p) := by rw [hc1 _ _ (by simp; try omega)]; go_simp
  have c3 : w1.cell? ⟨w.heap.size + 1, 1, none⟩ = some (.int .i64 b.q) := by rw [hc1 _ _ (by simp; try omega)]; go_simp
  have d0 : w1.cell? ⟨w.heap.size + 1 + 1, 0, none⟩ = some (.int .i64 0) := by rw [hc1 _ _ (by simp; try omega)]; go_simp
  have d1 : w1.cell? ⟨w.heap.size + 1 + 1, 1, none⟩ = some (.int .i64 0) := by rw [hc1 _ _ (by simp; try omega)]; go_simp
  have e0 : ∀ o, w1.frozen? ⟨w.heap.size, o, none⟩ = false := by intro o; rw [hf1 _ _ (by simp; try omega)]; go_simp
  have e9 : ∀ o, w1.frozen? ⟨w.heap.size + 1 + 1, o, none⟩ = false := by intro o; rw [hf1 _ _ (by simp; try omega)]; go_simp
  go_wp2_with fail
  (go_at_call 45; refine (CR.out _).mono ?_; rintro e w2 ⟨rfl, hb2⟩; have hc2 := hb2.cells; have hf2 := hb2.frees; have hz2 := hb2.size; (try simp at hz2))
  (try simp [World.setCell] at hz2)
  have zz1 : w.heap.size < w2.heap.size := by omega
  have zz2 : w.heap.size + 1 < w2.heap.size := by omega
  have zz3 : w.heap.size + 1 + 1 < w2.heap.size := by omega
  go_wp2_with fail
  exact bodyPost_ret (v := .tuple #[.agg #[.int .i64 0, .int .i64 0], .int .i64 3]) (by simp only [results, Try.results29]; go_simp) rfl ⟨rfl, by (repeat (first | with_reducible exact Grow.refl _ | with_reducible refine Grow.alloc ?_ _ | with_reducible refine Grow.drew ?_ | with_reducible refine Grow.drewN ?_ _ | (with_reducible refine Grow.setCell ?_ ?hp _; (case hp => (simp; try omega))) | with_reducible refine Grow.trans ?_ (by assumption)))⟩

theorem med_ok1 (a b : C2) (h : ckF a b = 0) (hq : a.q = 0) (hd : cross b ⟨-1, a.q⟩ = 1) (hp : inB ((-1) + b.p) = true) (hr : inB (a.q + b.q) = true) (w : World) :
    Calls Try.prog 29 #[.agg #[.int .i64 a.p, .int .i64 a.q], .agg #[.int .i64 b.p, .int .i64 b.q]] w fun e w' => e = .returned (.tuple #[.agg #[.int .i64 ((-1) + b.p), .int .i64 (a.q + b.q)], .int .i64 0]) ∧ Grow w w' := by
  obtain ⟨ha, hb⟩ := ckF_zero.1 h
  obtain ⟨g1, -, g3, -, -⟩ := ccF_zero.1 ha
  obtain ⟨h1, -, h3, -, -⟩ := ccF_zero.1 hb
  obtain ⟨b1, b2⟩ := inB_iff.1 g1
  obtain ⟨b3, b4⟩ := inB_iff.1 g3
  obtain ⟨b5, b6⟩ := inB_iff.1 h1
  obtain ⟨b7, b8⟩ := inB_iff.1 h3
  have k1 : (ckF a b == 0) = true := by simpa using h
  have k2 : (ckF a b != 0) = false := by simpa using h
  have q1 : (a.q == 0) = true := by simpa using hq
  have q2 : (a.q != 0) = false := by simpa using hq
  have s1 : IntKind.i64.wrap ((-1) + b.p) = (-1) + b.p := IntWalk.i64_in _ (by omega)
  have s2 : IntKind.i64.wrap (a.q + b.q) = a.q + b.q := IntWalk.i64_in _ (by omega)
  have CR := Lib.hid (fun w => cross_any ⟨-1, a.q⟩ b ⟨(by decide : inB (-1) = true), g3⟩ ⟨h1, h3⟩ w)
  rw [hd] at CR
  clear h ha hb g1 g3 h1 h3 hq hd b1 b2 b3 b4 b5 b6 b7 b8
  go_enter Try.func29, Try.ntmps29
  go_wp2_with fail
  (go_at_call 44; refine (ck2_any a b _).mono ?_; rintro e w1 ⟨rfl, hb1⟩; have hc1 := hb1.cells; have hf1 := hb1.frees; have hz1 := hb1.size; (try simp at hz1))
  have zw1_0 : w.heap.size < w1.heap.size := (by omega); have zw1_1 : w.heap.size + 1 < w1.heap.size := (by omega); have zw1_2 : w.heap.size + 1 + 1 < w1.heap.size := (by omega)
  have c0 : w1.cell? ⟨w.heap.size, 0, none⟩ = some (.int .i64 a.p) := by rw [hc1 _ _ (by simp; try omega)]; go_simp
  have c1 : w1.cell? ⟨w.heap.size, 1, none⟩ = some (.int .i64 a.q) := by rw [hc1 _ _ (by simp; try omega)]; go_simp
  have c2 : w1.cell? ⟨w.heap.size + 1, 0, none⟩ = some (.int .i64 b.p) := by rw [hc1 _ _ (by simp; try omega)]; go_simp
  have c3 : w1.cell? ⟨w.heap.size + 1, 1, none⟩ = some (.int .i64 b.q) := by rw [hc1 _ _ (by simp; try omega)]; go_simp
  have d0 : w1.cell? ⟨w.heap.size + 1 + 1, 0, none⟩ = some (.int .i64 0) := by rw [hc1 _ _ (by simp; try omega)]; go_simp
  have d1 : w1.cell? ⟨w.heap.size + 1 + 1, 1, none⟩ = some (.int .i64 0) := by rw [hc1 _ _ (by simp; try omega)]; go_simp
  have e0 : ∀ o, w1.frozen? ⟨w.heap.size, o, none⟩ = false := by intro o; rw [hf1 _ _ (by simp; try omega)]; go_simp
  have e9 : ∀ o, w1.frozen? ⟨w.heap.size + 1 + 1, o, none⟩ = false := by intro o; rw [hf1 _ _ (by simp; try omega)]; go_simp
  go_wp2_with fail
  (go_at_call 45; refine (CR.out _).mono ?_; rintro e w2 ⟨rfl, hb2⟩; have hc2 := hb2.cells; have hf2 := hb2.frees; have hz2 := hb2.size; (try simp at hz2))
  (try simp [World.setCell] at hz2)
  have zz1 : w.heap.size < w2.heap.size := by omega
  have zz2 : w.heap.size + 1 < w2.heap.size := by omega
  have zz3 : w.heap.size + 1 + 1 < w2.heap.size := by omega
  go_wp2_with (go_at_call 37; refine (cin_any _ _).mono ?_; rintro e w9 ⟨rfl, rfl⟩)
  exact bodyPost_ret (v := .tuple #[.agg #[.int .i64 ((-1) + b.p), .int .i64 (a.q + b.q)], .int .i64 0]) (by simp only [results, Try.results29]; go_simp) rfl ⟨rfl, by (repeat (first | with_reducible exact Grow.refl _ | with_reducible refine Grow.alloc ?_ _ | with_reducible refine Grow.drew ?_ | with_reducible refine Grow.drewN ?_ _ | (with_reducible refine Grow.setCell ?_ ?hp _; (case hp => (simp; try omega))) | with_reducible refine Grow.trans ?_ (by assumption)))⟩

theorem med_lq1 (a b : C2) (h : ckF a b = 0) (hq : a.q = 0) (hd : cross b ⟨-1, a.q⟩ = 1) (hp : inB ((-1) + b.p) = true) (hr : inB (a.q + b.q) = false) (w : World) :
    Calls Try.prog 29 #[.agg #[.int .i64 a.p, .int .i64 a.q], .agg #[.int .i64 b.p, .int .i64 b.q]] w fun e w' => e = .returned (.tuple #[.agg #[.int .i64 0, .int .i64 0], .int .i64 7]) ∧ Grow w w' := by
  obtain ⟨ha, hb⟩ := ckF_zero.1 h
  obtain ⟨g1, -, g3, -, -⟩ := ccF_zero.1 ha
  obtain ⟨h1, -, h3, -, -⟩ := ccF_zero.1 hb
  obtain ⟨b1, b2⟩ := inB_iff.1 g1
  obtain ⟨b3, b4⟩ := inB_iff.1 g3
  obtain ⟨b5, b6⟩ := inB_iff.1 h1
  obtain ⟨b7, b8⟩ := inB_iff.1 h3
  have k1 : (ckF a b == 0) = true := by simpa using h
  have k2 : (ckF a b != 0) = false := by simpa using h
  have q1 : (a.q == 0) = true := by simpa using hq
  have q2 : (a.q != 0) = false := by simpa using hq
  have s1 : IntKind.i64.wrap ((-1) + b.p) = (-1) + b.p := IntWalk.i64_in _ (by omega)
  have s2 : IntKind.i64.wrap (a.q + b.q) = a.q + b.q := IntWalk.i64_in _ (by omega)
  have CR := Lib.hid (fun w => cross_any ⟨-1, a.q⟩ b ⟨(by decide : inB (-1) = true), g3⟩ ⟨h1, h3⟩ w)
  rw [hd] at CR
  clear h ha hb g1 g3 h1 h3 hq hd b1 b2 b3 b4 b5 b6 b7 b8
  go_enter Try.func29, Try.ntmps29
  go_wp2_with fail
  (go_at_call 44; refine (ck2_any a b _).mono ?_; rintro e w1 ⟨rfl, hb1⟩; have hc1 := hb1.cells; have hf1 := hb1.frees; have hz1 := hb1.size; (try simp at hz1))
  have zw1_0 : w.heap.size < w1.heap.size := (by omega); have zw1_1 : w.heap.size + 1 < w1.heap.size := (by omega); have zw1_2 : w.heap.size + 1 + 1 < w1.heap.size := (by omega)
  have c0 : w1.cell? ⟨w.heap.size, 0, none⟩ = some (.int .i64 a.p) := by rw [hc1 _ _ (by simp; try omega)]; go_simp
  have c1 : w1.cell? ⟨w.heap.size, 1, none⟩ = some (.int .i64 a.q) := by rw [hc1 _ _ (by simp; try omega)]; go_simp
  have c2 : w1.cell? ⟨w.heap.size + 1, 0, none⟩ = some (.int .i64 b.p) := by rw [hc1 _ _ (by simp; try omega)]; go_simp
  have c3 : w1.cell? ⟨w.heap.size + 1, 1, none⟩ = some (.int .i64 b.q) := by rw [hc1 _ _ (by simp; try omega)]; go_simp
  have d0 : w1.cell? ⟨w.heap.size + 1 + 1, 0, none⟩ = some (.int .i64 0) := by rw [hc1 _ _ (by simp; try omega)]; go_simp
  have d1 : w1.cell? ⟨w.heap.size + 1 + 1, 1, none⟩ = some (.int .i64 0) := by rw [hc1 _ _ (by simp; try omega)]; go_simp
  have e0 : ∀ o, w1.frozen? ⟨w.heap.size, o, none⟩ = false := by intro o; rw [hf1 _ _ (by simp; try omega)]; go_simp
  have e9 : ∀ o, w1.frozen? ⟨w.heap.size + 1 + 1, o, none⟩ = false := by intro o; rw [hf1 _ _ (by simp; try omega)]; go_simp
  go_wp2_with fail
  (go_at_call 45; refine (CR.out _).mono ?_; rintro e w2 ⟨rfl, hb2⟩; have hc2 := hb2.cells; have hf2 := hb2.frees; have hz2 := hb2.size; (try simp at hz2))
  (try simp [World.setCell] at hz2)
  have zz1 : w.heap.size < w2.heap.size := by omega
  have zz2 : w.heap.size + 1 < w2.heap.size := by omega
  have zz3 : w.heap.size + 1 + 1 < w2.heap.size := by omega
  go_wp2_with (go_at_call 37; refine (cin_any _ _).mono ?_; rintro e w9 ⟨rfl, rfl⟩)
  exact bodyPost_ret (v := .tuple #[.agg #[.int .i64 0, .int .i64 0], .int .i64 7]) (by simp only [results, Try.results29]; go_simp) rfl ⟨rfl, by (repeat (first | with_reducible exact Grow.refl _ | with_reducible refine Grow.alloc ?_ _ | with_reducible refine Grow.drew ?_ | with_reducible refine Grow.drewN ?_ _ | (with_reducible refine Grow.setCell ?_ ?hp _; (case hp => (simp; try omega))) | with_reducible refine Grow.trans ?_ (by assumption)))⟩

theorem med_lp1 (a b : C2) (h : ckF a b = 0) (hq : a.q = 0) (hd : cross b ⟨-1, a.q⟩ = 1) (hp : inB ((-1) + b.p) = false) (w : World) :
    Calls Try.prog 29 #[.agg #[.int .i64 a.p, .int .i64 a.q], .agg #[.int .i64 b.p, .int .i64 b.q]] w fun e w' => e = .returned (.tuple #[.agg #[.int .i64 0, .int .i64 0], .int .i64 7]) ∧ Grow w w' := by
  obtain ⟨ha, hb⟩ := ckF_zero.1 h
  obtain ⟨g1, -, g3, -, -⟩ := ccF_zero.1 ha
  obtain ⟨h1, -, h3, -, -⟩ := ccF_zero.1 hb
  obtain ⟨b1, b2⟩ := inB_iff.1 g1
  obtain ⟨b3, b4⟩ := inB_iff.1 g3
  obtain ⟨b5, b6⟩ := inB_iff.1 h1
  obtain ⟨b7, b8⟩ := inB_iff.1 h3
  have k1 : (ckF a b == 0) = true := by simpa using h
  have k2 : (ckF a b != 0) = false := by simpa using h
  have q1 : (a.q == 0) = true := by simpa using hq
  have q2 : (a.q != 0) = false := by simpa using hq
  have s1 : IntKind.i64.wrap ((-1) + b.p) = (-1) + b.p := IntWalk.i64_in _ (by omega)
  have s2 : IntKind.i64.wrap (a.q + b.q) = a.q + b.q := IntWalk.i64_in _ (by omega)
  have CR := Lib.hid (fun w => cross_any ⟨-1, a.q⟩ b ⟨(by decide : inB (-1) = true), g3⟩ ⟨h1, h3⟩ w)
  rw [hd] at CR
  clear h ha hb g1 g3 h1 h3 hq hd b1 b2 b3 b4 b5 b6 b7 b8
  go_enter Try.func29, Try.ntmps29
  go_wp2_with fail
  (go_at_call 44; refine (ck2_any a b _).mono ?_; rintro e w1 ⟨rfl, hb1⟩; have hc1 := hb1.cells; have hf1 := hb1.frees; have hz1 := hb1.size; (try simp at hz1))
  have zw1_0 : w.heap.size < w1.heap.size := (by omega); have zw1_1 : w.heap.size + 1 < w1.heap.size := (by omega); have zw1_2 : w.heap.size + 1 + 1 < w1.heap.size := (by omega)
  have c0 : w1.cell? ⟨w.heap.size, 0, none⟩ = some (.int .i64 a.p) := by rw [hc1 _ _ (by simp; try omega)]; go_simp
  have c1 : w1.cell? ⟨w.heap.size, 1, none⟩ = some (.int .i64 a.q) := by rw [hc1 _ _ (by simp; try omega)]; go_simp
  have c2 : w1.cell? ⟨w.heap.size + 1, 0, none⟩ = some (.int .i64 b.p) := by rw [hc1 _ _ (by simp; try omega)]; go_simp
  have c3 : w1.cell? ⟨w.heap.size + 1, 1, none⟩ = some (.int .i64 b.q) := by rw [hc1 _ _ (by simp; try omega)]; go_simp
  have d0 : w1.cell? ⟨w.heap.size + 1 + 1, 0, none⟩ = some (.int .i64 0) := by rw [hc1 _ _ (by simp; try omega)]; go_simp
  have d1 : w1.cell? ⟨w.heap.size + 1 + 1, 1, none⟩ = some (.int .i64 0) := by rw [hc1 _ _ (by simp; try omega)]; go_simp
  have e0 : ∀ o, w1.frozen? ⟨w.heap.size, o, none⟩ = false := by intro o; rw [hf1 _ _ (by simp; try omega)]; go_simp
  have e9 : ∀ o, w1.frozen? ⟨w.heap.size + 1 + 1, o, none⟩ = false := by intro o; rw [hf1 _ _ (by simp; try omega)]; go_simp
  go_wp2_with fail
  (go_at_call 45; refine (CR.out _).mono ?_; rintro e w2 ⟨rfl, hb2⟩; have hc2 := hb2.cells; have hf2 := hb2.frees; have hz2 := hb2.size; (try simp at hz2))
  (try simp [World.setCell] at hz2)
  have zz1 : w.heap.size < w2.heap.size := by omega
  have zz2 : w.heap.size + 1 < w2.heap.size := by omega
  have zz3 : w.heap.size + 1 + 1 < w2.heap.size := by omega
  go_wp2_with (go_at_call 37; refine (cin_any _ _).mono ?_; rintro e w9 ⟨rfl, rfl⟩)
  exact bodyPost_ret (v := .tuple #[.agg #[.int .i64 0, .int .i64 0], .int .i64 7]) (by simp only [results, Try.results29]; go_simp) rfl ⟨rfl, by (repeat (first | with_reducible exact Grow.refl _ | with_reducible refine Grow.alloc ?_ _ | with_reducible refine Grow.drew ?_ | with_reducible refine Grow.drewN ?_ _ | (with_reducible refine Grow.setCell ?_ ?hp _; (case hp => (simp; try omega))) | with_reducible refine Grow.trans ?_ (by assumption)))⟩

theorem med_no2 (a b : C2) (h : ckF a b = 0) (hq : a.q ≠ 0) (hd : cross b a ≠ 1) (w : World) :
    Calls Try.prog 29 #[.agg #[.int .i64 a.p, .int .i64 a.q], .agg #[.int .i64 b.p, .int .i64 b.q]] w fun e w' => e = .returned (.tuple #[.agg #[.int .i64 0, .int .i64 0], .int .i64 3]) ∧ Grow w w' := by
  obtain ⟨ha, hb⟩ := ckF_zero.1 h
  obtain ⟨g1, -, g3, -, -⟩ := ccF_zero.1 ha
  obtain ⟨h1, -, h3, -, -⟩ := ccF_zero.1 hb
  obtain ⟨b1, b2⟩ := inB_iff.1 g1
  obtain ⟨b3, b4⟩ := inB_iff.1 g3
  obtain ⟨b5, b6⟩ := inB_iff.1 h1
  obtain ⟨b7, b8⟩ := inB_iff.1 h3
  have k1 : (ckF a b == 0) = true := by simpa using h
  have k2 : (ckF a b != 0) = false := by simpa using h
  have q1 : (a.q == 0) = false := by simpa using hq
  have q2 : (a.q != 0) = true := by simpa using hq
  have CR := Lib.hid (fun w => cross_any a b ⟨g1, g3⟩ ⟨h1, h3⟩ w)
  obtain ⟨d, hdd⟩ : ∃ d, cross b a = d := ⟨_, rfl⟩
  rw [hdd] at hd CR
  clear hdd
  have e1 : (d == 1) = false := by simpa using hd
  have e2 : (d != 1) = true := by simpa using hd
  clear h ha hb g1 g3 h1 h3 hq hd b1 b2 b3 b4 b5 b6 b7 b8
  go_enter Try.func29, Try.ntmps29
  go_wp2_with fail
  (go_at_call 44; refine (ck2_any a b _).mono ?_; rintro e w1 ⟨rfl, hb1⟩; have hc1 := hb1.cells; have hf1 := hb1.frees; have hz1 := hb1.size; (try simp at hz1))
  have zw1_0 : w.heap.size < w1.heap.size := (by omega); have zw1_1 : w.heap.size + 1 < w1.heap.size := (by omega); have zw1_2 : w.heap.size + 1 + 1 < w1.heap.size := (by omega)
  go_wp2_with fail
  (go_at_call 45; refine (CR.out _).mono ?_; rintro e w2 ⟨rfl, hb2⟩; have hc2 := hb2.cells; have hf2 := hb2.frees; have hz2 := hb2.size; (try simp at hz2))
  have zz1 : w.heap.size < w2.heap.size := by omega
  have zz2 : w.heap.size + 1 < w2.heap.size := by omega
  have zz3 : w.heap.size + 1 + 1 < w2.heap.size := by omega
  go_wp2_with fail
  exact bodyPost_ret (v := .tuple #[.agg #[.int .i64 0, .int .i64 0], .int .i64 3]) (by simp only [results, Try.results29]; go_simp) rfl ⟨rfl, by (repeat (first | with_reducible exact Grow.refl _ | with_reducible refine Grow.alloc ?_ _ | with_reducible refine Grow.drew ?_ | with_reducible refine Grow.drewN ?_ _ | (with_reducible refine Grow.setCell ?_ ?hp _; (case hp => (simp; try omega))) | with_reducible refine Grow.trans ?_ (by assumption)))⟩

theorem med_ok2 (a b : C2) (h : ckF a b = 0) (hq : a.q ≠ 0) (hd : cross b a = 1) (hp : inB (a.p + b.p) = true) (hr : inB (a.q + b.q) = true) (w : World) :
    Calls Try.prog 29 #[.agg #[.int .i64 a.p, .int .i64 a.q], .agg #[.int .i64 b.p, .int .i64 b.q]] w fun e w' => e = .returned (.tuple #[.agg #[.int .i64 (a.p + b.p), .int .i64 (a.q + b.q)], .int .i64 0]) ∧ Grow w w' := by
  obtain ⟨ha, hb⟩ := ckF_zero.1 h
  obtain ⟨g1, -, g3, -, -⟩ := ccF_zero.1 ha
  obtain ⟨h1, -, h3, -, -⟩ := ccF_zero.1 hb
  obtain ⟨b1, b2⟩ := inB_iff.1 g1
  obtain ⟨b3, b4⟩ := inB_iff.1 g3
  obtain ⟨b5, b6⟩ := inB_iff.1 h1
  obtain ⟨b7, b8⟩ := inB_iff.1 h3
  have k1 : (ckF a b == 0) = true := by simpa using h
  have k2 : (ckF a b != 0) = false := by simpa using h
  have q1 : (a.q == 0) = false := by simpa using hq
  have q2 : (a.q != 0) = true := by simpa using hq
  have s1 : IntKind.i64.wrap (a.p + b.p) = a.p + b.p := IntWalk.i64_in _ (by omega)
  have s2 : IntKind.i64.wrap (a.q + b.q) = a.q + b.q := IntWalk.i64_in _ (by omega)
  have CR := Lib.hid (fun w => cross_any a b ⟨g1, g3⟩ ⟨h1, h3⟩ w)
  rw [hd] at CR
  clear h ha hb g1 g3 h1 h3 hq hd b1 b2 b3 b4 b5 b6 b7 b8
  go_enter Try.func29, Try.ntmps29
  go_wp2_with fail
  (go_at_call 44; refine (ck2_any a b _).mono ?_; rintro e w1 ⟨rfl, hb1⟩; have hc1 := hb1.cells; have hf1 := hb1.frees; have hz1 := hb1.size; (try simp at hz1))
  have zw1_0 : w.heap.size < w1.heap.size := (by omega); have zw1_1 : w.heap.size + 1 < w1.heap.size := (by omega); have zw1_2 : w.heap.size + 1 + 1 < w1.heap.size := (by omega)
  go_wp2_with fail
  (go_at_call 45; refine (CR.out _).mono ?_; rintro e w2 ⟨rfl, hb2⟩; have hc2 := hb2.cells; have hf2 := hb2.frees; have hz2 := hb2.size; (try simp at hz2))
  have zz1 : w.heap.size < w2.heap.size := by omega
  have zz2 : w.heap.size + 1 < w2.heap.size := by omega
  have zz3 : w.heap.size + 1 + 1 < w2.heap.size := by omega
  go_wp2_with (go_at_call 37; refine (cin_any _ _).mono ?_; rintro e w9 ⟨rfl, rfl⟩)
  exact bodyPost_ret (v := .tuple #[.agg #[.int .i64 (a.p + b.p), .int .i64 (a.q + b.q)], .int .i64 0]) (by simp only [results, Try.results29]; go_simp) rfl ⟨rfl, by (repeat (first | with_reducible exact Grow.refl _ | with_reducible refine Grow.alloc ?_ _ | with_reducible refine Grow.drew ?_ | with_reducible refine Grow.drewN ?_ _ | (with_reducible refine Grow.setCell ?_ ?hp _; (case hp => (simp; try omega))) | with_reducible refine Grow.trans ?_ (by assumption)))⟩

theorem med_lq2 (a b : C2) (h : ckF a b = 0) (hq : a.q ≠ 0) (hd : cross b a = 1) (hp : inB (a.p + b.p) = true) (hr : inB (a.q + b.q) = false) (w : World) :
    Calls Try.prog 29 #[.agg #[.int .i64 a.p, .int .i64 a.q], .agg #[.int .i64 b.p, .int .i64 b.q]] w fun e w' => e = .returned (.tuple #[.agg #[.int .i64 0, .int .i64 0], .int .i64 7]) ∧ Grow w w' := by
  obtain ⟨ha, hb⟩ := ckF_zero.1 h
  obtain ⟨g1, -, g3, -, -⟩ := ccF_zero.1 ha
  obtain ⟨h1, -, h3, -, -⟩ := ccF_zero.1 hb
  obtain ⟨b1, b2⟩ := inB_iff.1 g1
  obtain ⟨b3, b4⟩ := inB_iff.1 g3
  obtain ⟨b5, b6⟩ := inB_iff.1 h1
  obtain ⟨b7, b8⟩ := inB_iff.1 h3
  have k1 : (ckF a b == 0) = true := by simpa using h
  have k2 : (ckF a b != 0) = false := by simpa using h
  have q1 : (a.q == 0) = false := by simpa using hq
  have q2 : (a.q != 0) = true := by simpa using hq
  have s1 : IntKind.i64.wrap (a.p + b.p) = a.p + b.p := IntWalk.i64_in _ (by omega)
  have s2 : IntKind.i64.wrap (a.q + b.q) = a.q + b.q := IntWalk.i64_in _ (by omega)
  have CR := Lib.hid (fun w => cross_any a b ⟨g1, g3⟩ ⟨h1, h3⟩ w)
  rw [hd] at CR
  clear h ha hb g1 g3 h1 h3 hq hd b1 b2 b3 b4 b5 b6 b7 b8
  go_enter Try.func29, Try.ntmps29
  go_wp2_with fail
  (go_at_call 44; refine (ck2_any a b _).mono ?_; rintro e w1 ⟨rfl, hb1⟩; have hc1 := hb1.cells; have hf1 := hb1.frees; have hz1 := hb1.size; (try simp at hz1))
  have zw1_0 : w.heap.size < w1.heap.size := (by omega); have zw1_1 : w.heap.size + 1 < w1.heap.size := (by omega); have zw1_2 : w.heap.size + 1 + 1 < w1.heap.size := (by omega)
  go_wp2_with fail
  (go_at_call 45; refine (CR.out _).mono ?_; rintro e w2 ⟨rfl, hb2⟩; have hc2 := hb2.cells; have hf2 := hb2.frees; have hz2 := hb2.size; (try simp at hz2))
  have zz1 : w.heap.size < w2.heap.size := by omega
  have zz2 : w.heap.size + 1 < w2.heap.size := by omega
  have zz3 : w.heap.size + 1 + 1 < w2.heap.size := by omega
  go_wp2_with (go_at_call 37; refine (cin_any _ _).mono ?_; rintro e w9 ⟨rfl, rfl⟩)
  exact bodyPost_ret (v := .tuple #[.agg #[.int .i64 0, .int .i64 0], .int .i64 7]) (by simp only [results, Try.results29]; go_simp) rfl ⟨rfl, by (repeat (first | with_reducible exact Grow.refl _ | with_reducible refine Grow.alloc ?_ _ | with_reducible refine Grow.drew ?_ | with_reducible refine Grow.drewN ?_ _ | (with_reducible refine Grow.setCell ?_ ?hp _; (case hp => (simp; try omega))) | with_reducible refine Grow.trans ?_ (by assumption)))⟩

theorem med_lp2 (a b : C2) (h : ckF a b = 0) (hq : a.q ≠ 0) (hd : cross b a = 1) (hp : inB (a.p + b.p) = false) (w : World) :
    Calls Try.prog 29 #[.agg #[.int .i64 a.p, .int .i64 a.q], .agg #[.int .i64 b.p, .int .i64 b.q]] w fun e w' => e = .returned (.tuple #[.agg #[.int .i64 0, .int .i64 0], .int .i64 7]) ∧ Grow w w' := by
  obtain ⟨ha, hb⟩ := ckF_zero.1 h
  obtain ⟨g1, -, g3, -, -⟩ := ccF_zero.1 ha
  obtain ⟨h1, -, h3, -, -⟩ := ccF_zero.1 hb
  obtain ⟨b1, b2⟩ := inB_iff.1 g1
  obtain ⟨b3, b4⟩ := inB_iff.1 g3
  obtain ⟨b5, b6⟩ := inB_iff.1 h1
  obtain ⟨b7, b8⟩ := inB_iff.1 h3
  have k1 : (ckF a b == 0) = true := by simpa using h
  have k2 : (ckF a b != 0) = false := by simpa using h
  have q1 : (a.q == 0) = false := by simpa using hq
  have q2 : (a.q != 0) = true := by simpa using hq
  have s1 : IntKind.i64.wrap (a.p + b.p) = a.p + b.p := IntWalk.i64_in _ (by omega)
  have s2 : IntKind.i64.wrap (a.q + b.q) = a.q + b.q := IntWalk.i64_in _ (by omega)
  have CR := Lib.hid (fun w => cross_any a b ⟨g1, g3⟩ ⟨h1, h3⟩ w)
  rw [hd] at CR
  clear h ha hb g1 g3 h1 h3 hq hd b1 b2 b3 b4 b5 b6 b7 b8
  go_enter Try.func29, Try.ntmps29
  go_wp2_with fail
  (go_at_call 44; refine (ck2_any a b _).mono ?_; rintro e w1 ⟨rfl, hb1⟩; have hc1 := hb1.cells; have hf1 := hb1.frees; have hz1 := hb1.size; (try simp at hz1))
  have zw1_0 : w.heap.size < w1.heap.size := (by omega); have zw1_1 : w.heap.size + 1 < w1.heap.size := (by omega); have zw1_2 : w.heap.size + 1 + 1 < w1.heap.size := (by omega)
  go_wp2_with fail
  (go_at_call 45; refine (CR.out _).mono ?_; rintro e w2 ⟨rfl, hb2⟩; have hc2 := hb2.cells; have hf2 := hb2.frees; have hz2 := hb2.size; (try simp at hz2))
  have zz1 : w.heap.size < w2.heap.size := by omega
  have zz2 : w.heap.size + 1 < w2.heap.size := by omega
  have zz3 : w.heap.size + 1 + 1 < w2.heap.size := by omega
  go_wp2_with (go_at_call 37; refine (cin_any _ _).mono ?_; rintro e w9 ⟨rfl, rfl⟩)
  exact bodyPost_ret (v := .tuple #[.agg #[.int .i64 0, .int .i64 0], .int .i64 7]) (by simp only [results, Try.results29]; go_simp) rfl ⟨rfl, by (repeat (first | with_reducible exact Grow.refl _ | with_reducible refine Grow.alloc ?_ _ | with_reducible refine Grow.drew ?_ | with_reducible refine Grow.drewN ?_ _ | (with_reducible refine Grow.setCell ?_ ?hp _; (case hp => (simp; try omega))) | with_reducible refine Grow.trans ?_ (by assumption)))⟩

theorem med_any (a b : C2) (w : World) :
    Calls Try.prog 29 #[.agg #[.int .i64 a.p, .int .i64 a.q], .agg #[.int .i64 b.p, .int .i64 b.q]] w fun e w' => e = .returned (.tuple #[.agg #[.int .i64 (medF a b).1.p, .int .i64 (medF a b).1.q], .int .i64 (medF a b).2]) ∧ Grow w w' := by
  unfold medF
  by_cases h : ckF a b = 0
  · rw [if_pos h]
    by_cases hq : a.q = 0
    · have hf : fixA a = ⟨-1, a.q⟩ := by unfold fixA; rw [if_pos hq]
      rw [hf]
      by_cases hd : cross b ⟨-1, a.q⟩ = 1
      · rw [if_pos hd]
        by_cases hp : inB (-1 + b.p) = true
        · by_cases hr : inB (a.q + b.q) = true
          · rw [if_pos (by simp [hp, hr])]; exact med_ok1 a b h hq hd hp hr w
          · rw [if_neg (by simp [hr])]; exact med_lq1 a b h hq hd hp (eq_false_of_ne_true hr) w
        · rw [if_neg (by simp [hp])]; exact med_lp1 a b h hq hd (eq_false_of_ne_true hp) w
      · rw [if_neg hd]; exact med_no1 a b h hq hd w
    · have hf : fixA a = a := by unfold fixA; rw [if_neg hq]
      rw [hf]
      by_cases hd : cross b a = 1
      · rw [if_pos hd]
        by_cases hp : inB (a.p + b.p) = true
        · by_cases hr : inB (a.q + b.q) = true
          · rw [if_pos (by simp [hp, hr])]; exact med_ok2 a b h hq hd hp hr w
          · rw [if_neg (by simp [hr])]; exact med_lq2 a b h hq hd hp (eq_false_of_ne_true hr) w
        · rw [if_neg (by simp [hp])]; exact med_lp2 a b h hq hd (eq_false_of_ne_true hp) w
      · rw [if_neg hd]; exact med_no2 a b h hq hd w
  · rw [if_neg h]; exact med_ck a b h w

theorem refmed_ck (a b : C2) (h : ckF a b ≠ 0) (w : World) :
    Calls Try.prog 30 #[.agg #[.int .i64 a.p, .int .i64 a.q], .agg #[.int .i64 b.p, .int .i64 b.q]] w fun e w' => e = .returned (.tuple #[.agg #[.int .i64 0, .int .i64 0], .int .i64 (ckF a b)]) ∧ Grow w w' := by
  have k1 : (ckF a b == 0) = false := by simpa using h
  have k2 : (ckF a b != 0) = true := by simpa using h
  clear h
  go_enter Try.func30, Try.ntmps30
  go_wp2_with fail
  (go_at_call 46; refine (refck2_any a b _).mono ?_; rintro e w1 ⟨rfl, hb1⟩; have hc1 := hb1.cells; have hf1 := hb1.frees; have hz1 := hb1.size; (try simp at hz1))
  have zw1_0 : w.heap.size < w1.heap.size := (by omega); have zw1_1 : w.heap.size + 1 < w1.heap.size := (by omega); have zw1_2 : w.heap.size + 1 + 1 < w1.heap.size := (by omega)
  go_wp2_with fail
  exact bodyPost_ret (v := .tuple #[.agg #[.int .i64 0, .int .i64 0], .int .i64 (ckF a b)]) (by simp only [results, Try.results30]; go_simp) rfl ⟨rfl, by (repeat (first | with_reducible exact Grow.refl _ | with_reducible refine Grow.alloc ?_ _ | with_reducible refine Grow.drew ?_ | with_reducible refine Grow.drewN ?_ _ | (with_reducible refine Grow.setCell ?_ ?hp _; (case hp => (simp; try omega))) | with_reducible refine Grow.trans ?_ (by assumption)))⟩

theorem refmed_no1 (a b : C2) (h : ckF a b = 0) (hq : a.q = 0) (hd : cross b ⟨-1, a.q⟩ ≠ 1) (w : World) :
    Calls Try.prog 30 #[.agg #[.int .i64 a.p, .int .i64 a.q], .agg #[.int .i64 b.p, .int .i64 b.q]] w fun e w' => e = .returned (.tuple #[.agg #[.int .i64 0, .int .i64 0], .int .i64 3]) ∧ Grow w w' := by
  obtain ⟨ha, hb⟩ := ckF_zero.1 h
  obtain ⟨g1, -, g3, -, -⟩ := ccF_zero.1 ha
  obtain ⟨h1, -, h3, -, -⟩ := ccF_zero.1 hb
  obtain ⟨b1, b2⟩ := inB_iff.1 g1
  obtain ⟨b3, b4⟩ := inB_iff.1 g3
  obtain ⟨b5, b6⟩ := inB_iff.1 h1
  obtain ⟨b7, b8⟩ := inB_iff.1 h3
  have k1 : (ckF a b == 0) = true := by simpa using h
  have k2 : (ckF a b != 0) = false := by simpa using h
  have q1 : (a.q == 0) = true := by simpa using hq
  have q2 : (a.q != 0) = false := by simpa using hq
  simp only [cross] at hd
  obtain ⟨r1, r2⟩ := mul_in h1 g3
  have y2 : IntKind.i64.wrap (-1 * b.q) = -b.q := by rw [Int.neg_one_mul]; exact IntWalk.i64_in _ (by omega)
  have y2' : IntKind.i64.wrap (-b.q) = -b.q := IntWalk.i64_in _ (by omega)
  have y1 : IntKind.i64.wrap (b.p * a.q) = b.p * a.q := IntWalk.i64_in _ (by omega)
  obtain ⟨d, hdd⟩ : ∃ d, b.p * a.q - (-1) * b.q = d := ⟨_, rfl⟩
  rw [hdd] at hd
  have x0 : IntKind.i64.wrap (b.p * a.q - -b.q) = d := by rw [show b.p * a.q - -b.q = d by omega]; exact IntWalk.i64_in _ (by omega)
  have x1 : IntKind.i64.wrap (b.p * a.q + b.q) = d := by rw [show b.p * a.q + b.q = d by omega]; exact IntWalk.i64_in _ (by omega)
  have x2 : IntKind.i64.wrap (b.p * a.q - -1 * b.q) = d := by rw [show b.p * a.q - -1 * b.q = d by omega]; exact IntWalk.i64_in _ (by omega)
  have HDD := Lib.hid hdd
  clear hdd
  have e1 : (d == 1) = false := by simpa using hd
  have e2 : (d != 1) = true := by simpa using hd
  clear h ha hb g1 g3 h1 h3 hq hd b1 b2 b3 b4 b5 b6 b7 b8 r1 r2
  go_enter Try.func30, Try.ntmps30
  go_wp2_with fail
  (go_at_call 46; refine (refck2_any a b _).mono ?_; rintro e w1 ⟨rfl, hb1⟩; have hc1 := hb1.cells; have hf1 := hb1.frees; have hz1 := hb1.size; (try simp at hz1))
  have zw1_0 : w.heap.size < w1.heap.size := (by omega); have zw1_1 : w.heap.size + 1 < w1.heap.size := (by omega); have zw1_2 : w.heap.size + 1 + 1 < w1.heap.size := (by omega)
  have c0 : w1.cell? ⟨w.heap.size, 0, none⟩ = some (.int .i64 a.p) := by rw [hc1 _ _ (by simp; try omega)]; go_simp
  have c1 : w1.cell? ⟨w.heap.size, 1, none⟩ = some (.int .i64 a.q) := by rw [hc1 _ _ (by simp; try omega)]; go_simp
  have c2 : w1.cell? ⟨w.heap.size + 1, 0, none⟩ = some (.int .i64 b.p) := by rw [hc1 _ _ (by simp; try omega)]; go_simp
  have c3 : w1.cell? ⟨w.heap.size + 1, 1, none⟩ = some (.int .i64 b.q) := by rw [hc1 _ _ (by simp; try omega)]; go_simp
  have d0 : w1.cell? ⟨w.heap.size + 1 + 1, 0, none⟩ = some (.int .i64 0) := by rw [hc1 _ _ (by simp; try omega)]; go_simp
  have d1 : w1.cell? ⟨w.heap.size + 1 + 1, 1, none⟩ = some (.int .i64 0) := by rw [hc1 _ _ (by simp; try omega)]; go_simp
  have e0 : ∀ o, w1.frozen? ⟨w.heap.size, o, none⟩ = false := by intro o; rw [hf1 _ _ (by simp; try omega)]; go_simp
  have e9 : ∀ o, w1.frozen? ⟨w.heap.size + 1 + 1, o, none⟩ = false := by intro o; rw [hf1 _ _ (by simp; try omega)]; go_simp
  go_wp2_with fail
  exact bodyPost_ret (v := .tuple #[.agg #[.int .i64 0, .int .i64 0], .int .i64 3]) (by simp only [results, Try.results30]; go_simp) rfl ⟨rfl, by (repeat (first | with_reducible exact Grow.refl _ | with_reducible refine Grow.alloc ?_ _ | with_reducible refine Grow.drew ?_ | with_reducible refine Grow.drewN ?_ _ | (with_reducible refine Grow.setCell ?_ ?hp _; (case hp => (simp; try omega))) | with_reducible refine Grow.trans ?_ (by assumption)))⟩

theorem refmed_ok1 (a b : C2) (h : ckF a b = 0) (hq : a.q = 0) (hd : cross b ⟨-1, a.q⟩ = 1) (hp : inB ((-1) + b.p) = true) (hr : inB (a.q + b.q) = true) (w : World) :
    Calls Try.prog 30 #[.agg #[.int .i64 a.p, .int .i64 a.q], .agg #[.int .i64 b.p, .int .i64 b.q]] w fun e w' => e = .returned (.tuple #[.agg #[.int .i64 ((-1) + b.p), .int .i64 (a.q + b.q)], .int .i64 0]) ∧ Grow w w' := by
  obtain ⟨ha, hb⟩ := ckF_zero.1 h
  obtain ⟨g1, -, g3, -, -⟩ := ccF_zero.1 ha
  obtain ⟨h1, -, h3, -, -⟩ := ccF_zero.1 hb
  obtain ⟨b1, b2⟩ := inB_iff.1 g1
  obtain ⟨b3, b4⟩ := inB_iff.1 g3
  obtain ⟨b5, b6⟩ := inB_iff.1 h1
  obtain ⟨b7, b8⟩ := inB_iff.1 h3
  have k1 : (ckF a b == 0) = true := by simpa using h
  have k2 : (ckF a b != 0) = false := by simpa using h
  have q1 : (a.q == 0) = true := by simpa using hq
  have q2 : (a.q != 0) = false := by simpa using hq
  have s1 : IntKind.i64.wrap ((-1) + b.p) = (-1) + b.p := IntWalk.i64_in _ (by omega)
  have s2 : IntKind.i64.wrap (a.q + b.q) = a.q + b.q := IntWalk.i64_in _ (by omega)
  simp only [cross] at hd
  obtain ⟨r1, r2⟩ := mul_in h1 g3
  have y2 : IntKind.i64.wrap (-1 * b.q) = -b.q := by rw [Int.neg_one_mul]; exact IntWalk.i64_in _ (by omega)
  have y2' : IntKind.i64.wrap (-b.q) = -b.q := IntWalk.i64_in _ (by omega)
  have y1 : IntKind.i64.wrap (b.p * a.q) = b.p * a.q := IntWalk.i64_in _ (by omega)
  have x0 : IntKind.i64.wrap (b.p * a.q - -b.q) = 1 := by rw [show b.p * a.q - -b.q = 1 by omega]; exact IntWalk.i64_in _ (by omega)
  have x1 : IntKind.i64.wrap (b.p * a.q + b.q) = 1 := by rw [show b.p * a.q + b.q = 1 by omega]; exact IntWalk.i64_in _ (by omega)
  have x2 : IntKind.i64.wrap (b.p * a.q - -1 * b.q) = 1 := by rw [show b.p * a.q - -1 * b.q = 1 by omega]; exact IntWalk.i64_in _ (by omega)
  clear h ha hb g1 g3 h1 h3 hq hd b1 b2 b3 b4 b5 b6 b7 b8 r1 r2
  go_enter Try.func30, Try.ntmps30
  go_wp2_with fail
  (go_at_call 46; refine (refck2_any a b _).mono ?_; rintro e w1 ⟨rfl, hb1⟩; have hc1 := hb1.cells; have hf1 := hb1.frees; have hz1 := hb1.size; (try simp at hz1))
  have zw1_0 : w.heap.size < w1.heap.size := (by omega); have zw1_1 : w.heap.size + 1 < w1.heap.size := (by omega); have zw1_2 : w.heap.size + 1 + 1 < w1.heap.size := (by omega)
  have c0 : w1.cell? ⟨w.heap.size, 0, none⟩ = some (.int .i64 a.p) := by rw [hc1 _ _ (by simp; try omega)]; go_simp
  have c1 : w1.cell? ⟨w.heap.size, 1, none⟩ = some (.int .i64 a.q) := by rw [hc1 _ _ (by simp; try omega)]; go_simp
  have c2 : w1.cell? ⟨w.heap.size + 1, 0, none⟩ = some (.int .i64 b.p) := by rw [hc1 _ _ (by simp; try omega)]; go_simp
  have c3 : w1.cell? ⟨w.heap.size + 1, 1, none⟩ = some (.int .i64 b.q) := by rw [hc1 _ _ (by simp; try omega)]; go_simp
  have d0 : w1.cell? ⟨w.heap.size + 1 + 1, 0, none⟩ = some (.int .i64 0) := by rw [hc1 _ _ (by simp; try omega)]; go_simp
  have d1 : w1.cell? ⟨w.heap.size + 1 + 1, 1, none⟩ = some (.int .i64 0) := by rw [hc1 _ _ (by simp; try omega)]; go_simp
  have e0 : ∀ o, w1.frozen? ⟨w.heap.size, o, none⟩ = false := by intro o; rw [hf1 _ _ (by simp; try omega)]; go_simp
  have e9 : ∀ o, w1.frozen? ⟨w.heap.size + 1 + 1, o, none⟩ = false := by intro o; rw [hf1 _ _ (by simp; try omega)]; go_simp
  go_wp2_with (go_at_call 42; refine (refIn_any _ _).mono ?_; rintro e w9 ⟨rfl, rfl⟩)
  exact bodyPost_ret (v := .tuple #[.agg #[.int .i64 ((-1) + b.p), .int .i64 (a.q + b.q)], .int .i64 0]) (by simp only [results, Try.results30]; go_simp) rfl ⟨rfl, by (repeat (first | with_reducible exact Grow.refl _ | with_reducible refine Grow.alloc ?_ _ | with_reducible refine Grow.drew ?_ | with_reducible refine Grow.drewN ?_ _ | (with_reducible refine Grow.setCell ?_ ?hp _; (case hp => (simp; try omega))) | with_reducible refine Grow.trans ?_ (by assumption)))⟩

theorem refmed_lq1 (a b : C2) (h : ckF a b = 0) (hq : a.q = 0) (hd : cross b ⟨-1, a.q⟩ = 1) (hp : inB ((-1) + b.p) = true) (hr : inB (a.q + b.q) = false) (w : World) :
    Calls Try.prog 30 #[.agg #[.int .i64 a.p, .int .i64 a.q], .agg #[.int .i64 b.p, .int .i64 b.q]] w fun e w' => e = .returned (.tuple #[.agg #[.int .i64 0, .int .i64 0], .int .i64 7]) ∧ Grow w w' := by
  obtain ⟨ha, hb⟩ := ckF_zero.1 h
  obtain ⟨g1, -, g3, -, -⟩ := ccF_zero.1 ha
  obtain ⟨h1, -, h3, -, -⟩ := ccF_zero.1 hb
  obtain ⟨b1, b2⟩ := inB_iff.1 g1
  obtain ⟨b3, b4⟩ := inB_iff.1 g3
  obtain ⟨b5, b6⟩ := inB_iff.1 h1
  obtain ⟨b7, b8⟩ := inB_iff.1 h3
  have k1 : (ckF a b == 0) = true := by simpa using h
  have k2 : (ckF a b != 0) = false := by simpa using h
  have q1 : (a.q == 0) = true := by simpa using hq
  have q2 : (a.q != 0) = false := by simpa using hq
  have s1 : IntKind.i64.wrap ((-1) + b.p) = (-1) + b.p := IntWalk.i64_in _ (by omega)
  have s2 : IntKind.i64.wrap (a.q + b.q) = a.q + b.q := IntWalk.i64_in _ (by omega)
  simp only [cross] at hd
  obtain ⟨r1, r2⟩ := mul_in h1 g3
  have y2 : IntKind.i64.wrap (-1 * b.q) = -b.q := by rw [Int.neg_one_mul]; exact IntWalk.i64_in _ (by omega)
  have y2' : IntKind.i64.wrap (-b.q) = -b.q := IntWalk.i64_in _ (by omega)
  have y1 : IntKind.i64.wrap (b.p * a.q) = b.p * a.q := IntWalk.i64_in _ (by omega)
  have x0 : IntKind.i64.wrap (b.p * a.q - -b.q) = 1 := by rw [show b.p * a.q - -b.q = 1 by omega]; exact IntWalk.i64_in _ (by omega)
  have x1 : IntKind.i64.wrap (b.p * a.q + b.q) = 1 := by rw [show b.p * a.q + b.q = 1 by omega]; exact IntWalk.i64_in _ (by omega)
  have x2 : IntKind.i64.wrap (b.p * a.q - -1 * b.q) = 1 := by rw [show b.p * a.q - -1 * b.q = 1 by omega]; exact IntWalk.i64_in _ (by omega)
  clear h ha hb g1 g3 h1 h3 hq hd b1 b2 b3 b4 b5 b6 b7 b8 r1 r2
  go_enter Try.func30, Try.ntmps30
  go_wp2_with fail
  (go_at_call 46; refine (refck2_any a b _).mono ?_; rintro e w1 ⟨rfl, hb1⟩; have hc1 := hb1.cells; have hf1 := hb1.frees; have hz1 := hb1.size; (try simp at hz1))
  have zw1_0 : w.heap.size < w1.heap.size := (by omega); have zw1_1 : w.heap.size + 1 < w1.heap.size := (by omega); have zw1_2 : w.heap.size + 1 + 1 < w1.heap.size := (by omega)
  have c0 : w1.cell? ⟨w.heap.size, 0, none⟩ = some (.int .i64 a.p) := by rw [hc1 _ _ (by simp; try omega)]; go_simp
  have c1 : w1.cell? ⟨w.heap.size, 1, none⟩ = some (.int .i64 a.q) := by rw [hc1 _ _ (by simp; try omega)]; go_simp
  have c2 : w1.cell? ⟨w.heap.size + 1, 0, none⟩ = some (.int .i64 b.p) := by rw [hc1 _ _ (by simp; try omega)]; go_simp
  have c3 : w1.cell? ⟨w.heap.size + 1, 1, none⟩ = some (.int .i64 b.q) := by rw [hc1 _ _ (by simp; try omega)]; go_simp
  have d0 : w1.cell? ⟨w.heap.size + 1 + 1, 0, none⟩ = some (.int .i64 0) := by rw [hc1 _ _ (by simp; try omega)]; go_simp
  have d1 : w1.cell? ⟨w.heap.size + 1 + 1, 1, none⟩ = some (.int .i64 0) := by rw [hc1 _ _ (by simp; try omega)]; go_simp
  have e0 : ∀ o, w1.frozen? ⟨w.heap.size, o, none⟩ = false := by intro o; rw [hf1 _ _ (by simp; try omega)]; go_simp
  have e9 : ∀ o, w1.frozen? ⟨w.heap.size + 1 + 1, o, none⟩ = false := by intro o; rw [hf1 _ _ (by simp; try omega)]; go_simp
  go_wp2_with (go_at_call 42; refine (refIn_any _ _).mono ?_; rintro e w9 ⟨rfl, rfl⟩)
  exact bodyPost_ret (v := .tuple #[.agg #[.int .i64 0, .int .i64 0], .int .i64 7]) (by simp only [results, Try.results30]; go_simp) rfl ⟨rfl, by (repeat (first | with_reducible exact Grow.refl _ | with_reducible refine Grow.alloc ?_ _ | with_reducible refine Grow.drew ?_ | with_reducible refine Grow.drewN ?_ _ | (with_reducible refine Grow.setCell ?_ ?hp _; (case hp => (simp; try omega))) | with_reducible refine Grow.trans ?_ (by assumption)))⟩

theorem refmed_lp1 (a b : C2) (h : ckF a b = 0) (hq : a.q = 0) (hd : cross b ⟨-1, a.q⟩ = 1) (hp : inB ((-1) + b.p) = false) (w : World) :
    Calls Try.prog 30 #[.agg #[.int .i64 a.p, .int .i64 a.q], .agg #[.int .i64 b.p, .int .i64 b.q]] w fun e w' => e = .returned (.tuple #[.agg #[.int .i64 0, .int .i64 0], .int .i64 7]) ∧ Grow w w' := by
  obtain ⟨ha, hb⟩ := ckF_zero.1 h
  obtain ⟨g1, -, g3, -, -⟩ := ccF_zero.1 ha
  obtain ⟨h1, -, h3, -, -⟩ := ccF_zero.1 hb
  obtain ⟨b1, b2⟩ := inB_iff.1 g1
  obtain ⟨b3, b4⟩ := inB_iff.1 g3
  obtain ⟨b5, b6⟩ := inB_iff.1 h1
  obtain ⟨b7, b8⟩ := inB_iff.1 h3
  have k1 : (ckF a b == 0) = true := by simpa using h
  have k2 : (ckF a b != 0) = false := by simpa using h
  have q1 : (a.q == 0) = true := by simpa using hq
  have q2 : (a.q != 0) = false := by simpa using hq
  have s1 : IntKind.i64.wrap ((-1) + b.p) = (-1) + b.p := IntWalk.i64_in _ (by omega)
  have s2 : IntKind.i64.wrap (a.q + b.q) = a.q + b.q := IntWalk.i64_in _ (by omega)
  simp only [cross] at hd
  obtain ⟨r1, r2⟩ := mul_in h1 g3
  have y2 : IntKind.i64.wrap (-1 * b.q) = -b.q := by rw [Int.neg_one_mul]; exact IntWalk.i64_in _ (by omega)
  have y2' : IntKind.i64.wrap (-b.q) = -b.q := IntWalk.i64_in _ (by omega)
  have y1 : IntKind.i64.wrap (b.p * a.q) = b.p * a.q := IntWalk.i64_in _ (by omega)
  have x0 : IntKind.i64.wrap (b.p * a.q - -b.q) = 1 := by rw [show b.p * a.q - -b.q = 1 by omega]; exact IntWalk.i64_in _ (by omega)
  have x1 : IntKind.i64.wrap (b.p * a.q + b.q) = 1 := by rw [show b.p * a.q + b.q = 1 by omega]; exact IntWalk.i64_in _ (by omega)
  have x2 : IntKind.i64.wrap (b.p * a.q - -1 * b.q) = 1 := by rw [show b.p * a.q - -1 * b.q = 1 by omega]; exact IntWalk.i64_in _ (by omega)
  clear h ha hb g1 g3 h1 h3 hq hd b1 b2 b3 b4 b5 b6 b7 b8 r1 r2
  go_enter Try.func30, Try.ntmps30
  go_wp2_with fail
  (go_at_call 46; refine (refck2_any a b _).mono ?_; rintro e w1 ⟨rfl, hb1⟩; have hc1 := hb1.cells; have hf1 := hb1.frees; have hz1 := hb1.size; (try simp at hz1))
  have zw1_0 : w.heap.size < w1.heap.size := (by omega); have zw1_1 : w.heap.size + 1 < w1.heap.size := (by omega); have zw1_2 : w.heap.size + 1 + 1 < w1.heap.size := (by omega)
  have c0 : w1.cell? ⟨w.heap.size, 0, none⟩ = some (.int .i64 a.p) := by rw [hc1 _ _ (by simp; try omega)]; go_simp
  have c1 : w1.cell? ⟨w.heap.size, 1, none⟩ = some (.int .i64 a.q) := by rw [hc1 _ _ (by simp; try omega)]; go_simp
  have c2 : w1.cell? ⟨w.heap.size + 1, 0, none⟩ = some (.int .i64 b.p) := by rw [hc1 _ _ (by simp; try omega)]; go_simp
  have c3 : w1.cell? ⟨w.heap.size + 1, 1, none⟩ = some (.int .i64 b.q) := by rw [hc1 _ _ (by simp; try omega)]; go_simp
  have d0 : w1.cell? ⟨w.heap.size + 1 + 1, 0, none⟩ = some (.int .i64 0) := by rw [hc1 _ _ (by simp; try omega)]; go_simp
  have d1 : w1.cell? ⟨w.heap.size + 1 + 1, 1, none⟩ = some (.int .i64 0) := by rw [hc1 _ _ (by simp; try omega)]; go_simp
  have e0 : ∀ o, w1.frozen? ⟨w.heap.size, o, none⟩ = false := by intro o; rw [hf1 _ _ (by simp; try omega)]; go_simp
  have e9 : ∀ o, w1.frozen? ⟨w.heap.size + 1 + 1, o, none⟩ = false := by intro o; rw [hf1 _ _ (by simp; try omega)]; go_simp
  go_wp2_with (go_at_call 42; refine (refIn_any _ _).mono ?_; rintro e w9 ⟨rfl, rfl⟩)
  exact bodyPost_ret (v := .tuple #[.agg #[.int .i64 0, .int .i64 0], .int .i64 7]) (by simp only [results, Try.results30]; go_simp) rfl ⟨rfl, by (repeat (first | with_reducible exact Grow.refl _ | with_reducible refine Grow.alloc ?_ _ | with_reducible refine Grow.drew ?_ | with_reducible refine Grow.drewN ?_ _ | (with_reducible refine Grow.setCell ?_ ?hp _; (case hp => (simp; try omega))) | with_reducible refine Grow.trans ?_ (by assumption)))⟩

theorem refmed_no2 (a b : C2) (h : ckF a b = 0) (hq : a.q ≠ 0) (hd : cross b a ≠ 1) (w : World) :
    Calls Try.prog 30 #[.agg #[.int .i64 a.p, .int .i64 a.q], .agg #[.int .i64 b.p, .int .i64 b.q]] w fun e w' => e = .returned (.tuple #[.agg #[.int .i64 0, .int .i64 0], .int .i64 3]) ∧ Grow w w' := by
  obtain ⟨ha, hb⟩ := ckF_zero.1 h
  obtain ⟨g1, -, g3, -, -⟩ := ccF_zero.1 ha
  obtain ⟨h1, -, h3, -, -⟩ := ccF_zero.1 hb
  obtain ⟨b1, b2⟩ := inB_iff.1 g1
  obtain ⟨b3, b4⟩ := inB_iff.1 g3
  obtain ⟨b5, b6⟩ := inB_iff.1 h1
  obtain ⟨b7, b8⟩ := inB_iff.1 h3
  have k1 : (ckF a b == 0) = true := by simpa using h
  have k2 : (ckF a b != 0) = false := by simpa using h
  have q1 : (a.q == 0) = false := by simpa using hq
  have q2 : (a.q != 0) = true := by simpa using hq
  simp only [cross] at hd
  obtain ⟨r1, r2⟩ := mul_in h1 g3
  obtain ⟨r3, r4⟩ := mul_in g1 h3
  have y2 : IntKind.i64.wrap (a.p * b.q) = a.p * b.q := IntWalk.i64_in _ (by omega)
  have y1 : IntKind.i64.wrap (b.p * a.q) = b.p * a.q := IntWalk.i64_in _ (by omega)
  obtain ⟨d, hdd⟩ : ∃ d, b.p * a.q - a.p * b.q = d := ⟨_, rfl⟩
  rw [hdd] at hd
  have x0 : IntKind.i64.wrap (b.p * a.q - a.p * b.q) = d := by rw [show b.p * a.q - a.p * b.q = d by omega]; exact IntWalk.i64_in _ (by omega)
  have HDD := Lib.hid hdd
  clear hdd
  have e1 : (d == 1) = false := by simpa using hd
  have e2 : (d != 1) = true := by simpa using hd
  clear h ha hb g1 g3 h1 h3 hq hd b1 b2 b3 b4 b5 b6 b7 b8 r1 r2 r3 r4
  go_enter Try.func30, Try.ntmps30
  go_wp2_with fail
  (go_at_call 46; refine (refck2_any a b _).mono ?_; rintro e w1 ⟨rfl, hb1⟩; have hc1 := hb1.cells; have hf1 := hb1.frees; have hz1 := hb1.size; (try simp at hz1))
  have zw1_0 : w.heap.size < w1.heap.size := (by omega); have zw1_1 : w.heap.size + 1 < w1.heap.size := (by omega); have zw1_2 : w.heap.size + 1 + 1 < w1.heap.size := (by omega)
  go_wp2_with fail
  exact bodyPost_ret (v := .tuple #[.agg #[.int .i64 0, .int .i64 0], .int .i64 3]) (by simp only [results, Try.results30]; go_simp) rfl ⟨rfl, by (repeat (first | with_reducible exact Grow.refl _ | with_reducible refine Grow.alloc ?_ _ | with_reducible refine Grow.drew ?_ | with_reducible refine Grow.drewN ?_ _ | (with_reducible refine Grow.setCell ?_ ?hp _; (case hp => (simp; try omega))) | with_reducible refine Grow.trans ?_ (by assumption)))⟩

theorem refmed_ok2 (a b : C2) (h : ckF a b = 0) (hq : a.q ≠ 0) (hd : cross b a = 1) (hp : inB (a.p + b.p) = true) (hr : inB (a.q + b.q) = true) (w : World) :
    Calls Try.prog 30 #[.agg #[.int .i64 a.p, .int .i64 a.q], .agg #[.int .i64 b.p, .int .i64 b.q]] w fun e w' => e = .returned (.tuple #[.agg #[.int .i64 (a.p + b.p), .int .i64 (a.q + b.q)], .int .i64 0]) ∧ Grow w w' := by
  obtain ⟨ha, hb⟩ := ckF_zero.1 h
  obtain ⟨g1, -, g3, -, -⟩ := ccF_zero.1 ha
  obtain ⟨h1, -, h3, -, -⟩ := ccF_zero.1 hb
  obtain ⟨b1, b2⟩ := inB_iff.1 g1
  obtain ⟨b3, b4⟩ := inB_iff.1 g3
  obtain ⟨b5, b6⟩ := inB_iff.1 h1
  obtain ⟨b7, b8⟩ := inB_iff.1 h3
  have k1 : (ckF a b == 0) = true := by simpa using h
  have k2 : (ckF a b != 0) = false := by simpa using h
  have q1 : (a.q == 0) = false := by simpa using hq
  have q2 : (a.q != 0) = true := by simpa using hq
  have s1 : IntKind.i64.wrap (a.p + b.p) = a.p + b.p := IntWalk.i64_in _ (by omega)
  have s2 : IntKind.i64.wrap (a.q + b.q) = a.q + b.q := IntWalk.i64_in _ (by omega)
  simp only [cross] at hd
  obtain ⟨r1, r2⟩ := mul_in h1 g3
  obtain ⟨r3, r4⟩ := mul_in g1 h3
  have y2 : IntKind.i64.wrap (a.p * b.q) = a.p * b.q := IntWalk.i64_in _ (by omega)
  have y1 : IntKind.i64.wrap (b.p * a.q) = b.p * a.q := IntWalk.i64_in _ (by omega)
  have x0 : IntKind.i64.wrap (b.p * a.q - a.p * b.q) = 1 := by rw [show b.p * a.q - a.p * b.q = 1 by omega]; exact IntWalk.i64_in _ (by omega)
  clear h ha hb g1 g3 h1 h3 hq hd b1 b2 b3 b4 b5 b6 b7 b8 r1 r2 r3 r4
  go_enter Try.func30, Try.ntmps30
  go_wp2_with fail
  (go_at_call 46; refine (refck2_any a b _).mono ?_; rintro e w1 ⟨rfl, hb1⟩; have hc1 := hb1.cells; have hf1 := hb1.frees; have hz1 := hb1.size; (try simp at hz1))
  have zw1_0 : w.heap.size < w1.heap.size := (by omega); have zw1_1 : w.heap.size + 1 < w1.heap.size := (by omega); have zw1_2 : w.heap.size + 1 + 1 < w1.heap.size := (by omega)
  go_wp2_with (go_at_call 42; refine (refIn_any _ _).mono ?_; rintro e w9 ⟨rfl, rfl⟩)
  exact bodyPost_ret (v := .tuple #[.agg #[.int .i64 (a.p + b.p), .int .i64 (a.q + b.q)], .int .i64 0]) (by simp only [results, Try.results30]; go_simp) rfl ⟨rfl, by (repeat (first | with_reducible exact Grow.refl _ | with_reducible refine Grow.alloc ?_ _ | with_reducible refine Grow.drew ?_ | with_reducible refine Grow.drewN ?_ _ | (with_reducible refine Grow.setCell ?_ ?hp _; (case hp => (simp; try omega))) | with_reducible refine Grow.trans ?_ (by assumption)))⟩

theorem refmed_lq2 (a b : C2) (h : ckF a b = 0) (hq : a.q ≠ 0) (hd : cross b a = 1) (hp : inB (a.p + b.p) = true) (hr : inB (a.q + b.q) = false) (w : World) :
    Calls Try.prog 30 #[.agg #[.int .i64 a.p, .int .i64 a.q], .agg #[.int .i64 b.p, .int .i64 b.q]] w fun e w' => e = .returned (.tuple #[.agg #[.int .i64 0, .int .i64 0], .int .i64 7]) ∧ Grow w w' := by
  obtain ⟨ha, hb⟩ := ckF_zero.1 h
  obtain ⟨g1, -, g3, -, -⟩ := ccF_zero.1 ha
  obtain ⟨h1, -, h3, -, -⟩ := ccF_zero.1 hb
  obtain ⟨b1, b2⟩ := inB_iff.1 g1
  obtain ⟨b3, b4⟩ := inB_iff.1 g3
  obtain ⟨b5, b6⟩ := inB_iff.1 h1
  obtain ⟨b7, b8⟩ := inB_iff.1 h3
  have k1 : (ckF a b == 0) = true := by simpa using h
  have k2 : (ckF a b != 0) = false := by simpa using h
  have q1 : (a.q == 0) = false := by simpa using hq
  have q2 : (a.q != 0) = true := by simpa using hq
  have s1 : IntKind.i64.wrap (a.p + b.p) = a.p + b.p := IntWalk.i64_in _ (by omega)
  have s2 : IntKind.i64.wrap (a.q + b.q) = a.q + b.q := IntWalk.i64_in _ (by omega)
  simp only [cross] at hd
  obtain ⟨r1, r2⟩ := mul_in h1 g3
  obtain ⟨r3, r4⟩ := mul_in g1 h3
  have y2 : IntKind.i64.wrap (a.p * b.q) = a.p * b.q := IntWalk.i64_in _ (by omega)
  have y1 : IntKind.i64.wrap (b.p * a.q) = b.p * a.q := IntWalk.i64_in _ (by omega)
  have x0 : IntKind.i64.wrap (b.p * a.q - a.p * b.q) = 1 := by rw [show b.p * a.q - a.p * b.q = 1 by omega]; exact IntWalk.i64_in _ (by omega)
  clear h ha hb g1 g3 h1 h3 hq hd b1 b2 b3 b4 b5 b6 b7 b8 r1 r2 r3 r4
  go_enter Try.func30, Try.ntmps30
  go_wp2_with fail
  (go_at_call 46; refine (refck2_any a b _).mono ?_; rintro e w1 ⟨rfl, hb1⟩; have hc1 := hb1.cells; have hf1 := hb1.frees; have hz1 := hb1.size; (try simp at hz1))
  have zw1_0 : w.heap.size < w1.heap.size := (by omega); have zw1_1 : w.heap.size + 1 < w1.heap.size := (by omega); have zw1_2 : w.heap.size + 1 + 1 < w1.heap.size := (by omega)
  go_wp2_with (go_at_call 42; refine (refIn_any _ _).mono ?_; rintro e w9 ⟨rfl, rfl⟩)
  exact bodyPost_ret (v := .tuple #[.agg #[.int .i64 0, .int .i64 0], .int .i64 7]) (by simp only [results, Try.results30]; go_simp) rfl ⟨rfl, by (repeat (first | with_reducible exact Grow.refl _ | with_reducible refine Grow.alloc ?_ _ | with_reducible refine Grow.drew ?_ | with_reducible refine Grow.drewN ?_ _ | (with_reducible refine Grow.setCell ?_ ?hp _; (case hp => (simp; try omega))) | with_reducible refine Grow.trans ?_ (by assumption)))⟩

theorem refmed_lp2 (a b : C2) (h : ckF a b = 0) (hq : a.q ≠ 0) (hd : cross b a = 1) (hp : inB (a.p + b.p) = false) (w : World) :
    Calls Try.prog 30 #[.agg #[.int .i64 a.p, .int .i64 a.q], .agg #[.int .i64 b.p, .int .i64 b.q]] w fun e w' => e = .returned (.tuple #[.agg #[.int .i64 0, .int .i64 0], .int .i64 7]) ∧ Grow w w' := by
  obtain ⟨ha, hb⟩ := ckF_zero.1 h
  obtain ⟨g1, -, g3, -, -⟩ := ccF_zero.1 ha
  obtain ⟨h1, -, h3, -, -⟩ := ccF_zero.1 hb
  obtain ⟨b1, b2⟩ := inB_iff.1 g1
  obtain ⟨b3, b4⟩ := inB_iff.1 g3
  obtain ⟨b5, b6⟩ := inB_iff.1 h1
  obtain ⟨b7, b8⟩ := inB_iff.1 h3
  have k1 : (ckF a b == 0) = true := by simpa using h
  have k2 : (ckF a b != 0) = false := by simpa using h
  have q1 : (a.q == 0) = false := by simpa using hq
  have q2 : (a.q != 0) = true := by simpa using hq
  have s1 : IntKind.i64.wrap (a.p + b.p) = a.p + b.p := IntWalk.i64_in _ (by omega)
  have s2 : IntKind.i64.wrap (a.q + b.q) = a.q + b.q := IntWalk.i64_in _ (by omega)
  simp only [cross] at hd
  obtain ⟨r1, r2⟩ := mul_in h1 g3
  obtain ⟨r3, r4⟩ := mul_in g1 h3
  have y2 : IntKind.i64.wrap (a.p * b.q) = a.p * b.q := IntWalk.i64_in _ (by omega)
  have y1 : IntKind.i64.wrap (b.p * a.q) = b.p * a.q := IntWalk.i64_in _ (by omega)
  have x0 : IntKind.i64.wrap (b.p * a.q - a.p * b.q) = 1 := by rw [show b.p * a.q - a.p * b.q = 1 by omega]; exact IntWalk.i64_in _ (by omega)
  clear h ha hb g1 g3 h1 h3 hq hd b1 b2 b3 b4 b5 b6 b7 b8 r1 r2 r3 r4
  go_enter Try.func30, Try.ntmps30
  go_wp2_with fail
  (go_at_call 46; refine (refck2_any a b _).mono ?_; rintro e w1 ⟨rfl, hb1⟩; have hc1 := hb1.cells; have hf1 := hb1.frees; have hz1 := hb1.size; (try simp at hz1))
  have zw1_0 : w.heap.size < w1.heap.size := (by omega); have zw1_1 : w.heap.size + 1 < w1.heap.size := (by omega); have zw1_2 : w.heap.size + 1 + 1 < w1.heap.size := (by omega)
  go_wp2_with (go_at_call 42; refine (refIn_any _ _).mono ?_; rintro e w9 ⟨rfl, rfl⟩)
  exact bodyPost_ret (v := .tuple #[.agg #[.int .i64 0, .int .i64 0], .int .i64 7]) (by simp only [results, Try.results30]; go_simp) rfl ⟨rfl, by (repeat (first | with_reducible exact Grow.refl _ | with_reducible refine Grow.alloc ?_ _ | with_reducible refine Grow.drew ?_ | with_reducible refine Grow.drewN ?_ _ | (with_reducible refine Grow.setCell ?_ ?hp _; (case hp => (simp; try omega))) | with_reducible refine Grow.trans ?_ (by assumption)))⟩

theorem refmed_any (a b : C2) (w : World) :
    Calls Try.prog 30 #[.agg #[.int .i64 a.p, .int .i64 a.q], .agg #[.int .i64 b.p, .int .i64 b.q]] w fun e w' => e = .returned (.tuple #[.agg #[.int .i64 (medF a b).1.p, .int .i64 (medF a b).1.q], .int .i64 (medF a b).2]) ∧ Grow w w' := by
  unfold medF
  by_cases h : ckF a b = 0
  · rw [if_pos h]
    by_cases hq : a.q = 0
    · have hf : fixA a = ⟨-1, a.q⟩ := by unfold fixA; rw [if_pos hq]
      rw [hf]
      by_cases hd : cross b ⟨-1, a.q⟩ = 1
      · rw [if_pos hd]
        by_cases hp : inB (-1 + b.p) = true
        · by_cases hr : inB (a.q + b.q) = true
          · rw [if_pos (by simp [hp, hr])]; exact refmed_ok1 a b h hq hd hp hr w
          · rw [if_neg (by simp [hr])]; exact refmed_lq1 a b h hq hd hp (eq_false_of_ne_true hr) w
        · rw [if_neg (by simp [hp])]; exact refmed_lp1 a b h hq hd (eq_false_of_ne_true hp) w
      · rw [if_neg hd]; exact refmed_no1 a b h hq hd w
    · have hf : fixA a = a := by unfold fixA; rw [if_neg hq]
      rw [hf]
      by_cases hd : cross b a = 1
      · rw [if_pos hd]
        by_cases hp : inB (a.p + b.p) = true
        · by_cases hr : inB (a.q + b.q) = true
          · rw [if_pos (by simp [hp, hr])]; exact refmed_ok2 a b h hq hd hp hr w
          · rw [if_neg (by simp [hr])]; exact refmed_lq2 a b h hq hd hp (eq_false_of_ne_true hr) w
        · rw [if_neg (by simp [hp])]; exact refmed_lp2 a b h hq hd (eq_false_of_ne_true hp) w
      · rw [if_neg hd]; exact refmed_no2 a b h hq hd w
  · rw [if_neg h]; exact refmed_ck a b h w
end Go.Proofs.Ytfjlecphjahahaa
