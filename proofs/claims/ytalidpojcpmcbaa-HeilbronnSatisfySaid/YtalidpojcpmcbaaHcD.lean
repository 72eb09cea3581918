/- Walk of the reference: Class. -/
import Derived.Test.YtalidpojcpmcbaaHcC
namespace Go.Proofs.Ytalidpojcpmcbaa
open Go Go.RowKit

/-- The bounds of the loop. -/
def ClB (n : Int) (e : M2) : Prop := e.a * e.d - e.b * e.c = n ∧ e.a.natAbs + 128 * e.c.natAbs ≤ 138512695296 ∧ e.b.natAbs ≤ 138512695296 ∧ e.c.natAbs ≤ 1073741824 ∧ e.d.natAbs ≤ 1073741824
theorem clb_step {n : Int} (h1 : 1 ≤ n) (h2 : n ≤ 128) {e : M2} (h : ClB n e) (hc : e.c ≠ 0) {q : Int} (hq : flF e.d e.c = q) :
    ClB n ⟨q * e.a - e.b, e.a, q * e.c - e.d, e.c⟩ ∧ q.natAbs ≤ 1073741825 ∧ (q * e.a).natAbs ≤ 277025390592 ∧ (q * e.c).natAbs ≤ 2147483648 ∧ (q * e.c - e.d).natAbs < e.c.natAbs := by
  obtain ⟨g1, g2, g3, g4, g5⟩ := h
  have hs := fl_step (d := e.d) hc
  have hf := fl_abs (a := e.d) hc
  rw [hq] at hs hf
  have hdet : (q * e.a - e.b) * e.c - e.a * (q * e.c - e.d) = n := by rw [← g1]; grind
  have e1 : (q * e.a - e.b) * e.c = n + e.a * (q * e.c - e.d) := by omega
  have e2 : (q * e.a - e.b).natAbs * e.c.natAbs ≤ n.natAbs + e.a.natAbs * (q * e.c - e.d).natAbs := by
    rw [← Int.natAbs_mul, e1, ← Int.natAbs_mul]
    omega
  have e3 : e.a.natAbs * (q * e.c - e.d).natAbs ≤ e.a.natAbs * e.c.natAbs := Nat.mul_le_mul_left _ (Nat.le_of_lt hs)
  have e4 : n.natAbs ≤ 128 * e.c.natAbs := by omega
  have e5 : (q * e.a - e.b).natAbs ≤ 128 + e.a.natAbs := by
    have hpos : 0 < e.c.natAbs := by omega
    apply Nat.le_of_mul_le_mul_right (c := e.c.natAbs) _ hpos
    rw [Nat.add_mul]
    omega
  refine ⟨⟨hdet, ?_, ?_, ?_, ?_⟩, by omega, ?_, ?_, hs⟩
  · show (q * e.a - e.b).natAbs + 128 * (q * e.c - e.d).natAbs ≤ _
    omega
  · show e.a.natAbs ≤ _
    omega
  · show (q * e.c - e.d).natAbs ≤ _
    omega
  · exact g4
  · omega
  · omega
def MemC (w0 : World) (X : Nat) (e : M2) (wr : World) : Prop :=
  (wr.cell? ⟨X, 0, none⟩ = some (.int .i64 e.a) ∧ wr.cell? ⟨X, 1, none⟩ = some (.int .i64 e.b) ∧ wr.cell? ⟨X, 2, none⟩ = some (.int .i64 e.c) ∧ wr.cell? ⟨X, 3, none⟩ = some (.int .i64 e.d)) ∧
    (wr.cell? ⟨X + 1, 0, none⟩ = some (.int .i64 0) ∧ wr.cell? ⟨X + 1, 1, none⟩ = some (.int .i64 0) ∧ wr.cell? ⟨X + 1, 2, none⟩ = some (.int .i64 0) ∧ wr.cell? ⟨X + 1, 3, none⟩ = some (.int .i64 0)) ∧
    (∀ o, wr.frozen? ⟨X, o, none⟩ = false) ∧ (∀ o, wr.frozen? ⟨X + 1, o, none⟩ = false) ∧ X + 1 < wr.heap.size ∧ Grow w0 wr

set_option maxHeartbeats 2000000 in
theorem refClass_any (m : M2) (n : Int) (h1 : 1 ≤ n) (h2 : n ≤ 128) (hok : okM m = true) (hdet : m.a * m.d - m.b * m.c = n) (w : World) :
    Calls Try.prog 22 #[.agg #[.int .i64 m.a, .int .i64 m.b, .int .i64 m.c, .int .i64 m.d]] w fun e w' => e = .returned (.agg #[.int .i64 (clsF m n).a, .int .i64 (clsF m n).b, .int .i64 0, .int .i64 (clsF m n).d]) ∧ Grow w w' := by
  obtain ⟨o1, o2, o3, o4⟩ := okM_iff.1 hok
  obtain ⟨s1, s2, s3, s4, s5, s6, s7, s8, s9⟩ := cls_spec h1 hdet
  obtain ⟨K, hK⟩ : ∃ K, clsF m n = K := ⟨_, rfl⟩
  obtain ⟨E, hE⟩ : ∃ E, clsE m = E := ⟨_, rfl⟩
  have hKd : K.d = E.d.natAbs := by rw [← hK, ← hE]; rfl
  have hKb : K.b = (if E.d < 0 then -E.b else E.b) % K.a := by rw [← hK, ← hE]; rfl
  rw [hK] at s1 s2 s3 s4 s5 s6 s7 s8 s9 ⊢
  have hE0 : clsL (m.c.natAbs + 1) m = E := hE
  have HE0 := Lib.hid hE0
  have HDET := Lib.hid hdet
  obtain ⟨p1, p2⟩ : (m.a * m.d).natAbs ≤ 1152921504606846976 ∧ (m.b * m.c).natAbs ≤ 1152921504606846976 := ⟨mul_abs o1 o4, mul_abs o2 o3⟩
  have y1 : IntKind.i64.wrap (m.a * m.d) = m.a * m.d := IntWalk.i64_in _ (by omega)
  have y2 : IntKind.i64.wrap (m.b * m.c) = m.b * m.c := IntWalk.i64_in _ (by omega)
  have y3 : IntKind.i64.wrap (m.a * m.d - m.b * m.c) = n := by rw [hdet]; exact IntWalk.i64_in _ (by omega)
  have HKD := Lib.hid hKd
  have HKB := Lib.hid hKb
  have S4 := Lib.hid s4
  clear hE hE0 hK hdet s1 s3 s4 s6 s9 hKd hKb hok p1 p2
  go_enter Try.func22, Try.ntmps22
  go_wp2_with fail
  go_loopg [4] (m.c.natAbs + 1) (fun f _ wr => ∃ e : M2, Hid (e.c.natAbs < f) ∧ Hid (clsL f e = E) ∧ Hid (ClB n e) ∧ Hid (MemC w w.heap.size e wr))
  case atStart =>
    refine ⟨m, Nat.lt_succ_self _, HE0.out, ⟨HDET.out, by omega, by omega, o3, o4⟩, ⟨?_, ?_, ?_, ?_⟩, ⟨?_, ?_, ?_, ?_⟩, ?_, ?_, ?_, ?_⟩
    · go_simp
    · go_simp
    · go_simp
    · go_simp
    · go_simp
    · go_simp
    · go_simp
    · go_simp
    · intro o; go_simp
    · intro o; go_simp
    · simp
    · (repeat (first | with_reducible exact Grow.refl _ | with_reducible refine Grow.alloc ?_ _ | with_reducible refine Grow.drew ?_ | with_reducible refine Grow.drewN ?_ _ | (with_reducible refine Grow.setCell ?_ ?hp _; (case hp => (simp; try omega))) | with_reducible refine Grow.trans ?_ (by assumption)))
  case round =>
    clear y1 y2 y3 HE0 o1 o2 o3 o4 HDET
    obtain ⟨e, hf, hcl, hb, hmem⟩ := hrel
    obtain ⟨⟨c0, c1, c2, c3⟩, ⟨d0, d1, d2, d3⟩, f0, f1, hz, hg⟩ := hmem.out
    have HG := Lib.hid hg
    clear hg hmem
    have hz0 : w.heap.size < wr.heap.size := by omega
    obtain ⟨g2, hgk⟩ : ∃ g2, gk = g2 + 1 := ⟨gk - 1, by have := hf.out; omega⟩
    by_cases hc : e.c = 0
    · have e1 : (e.c == 0) = true := by simpa using hc
      have e2 : (e.c != 0) = false := by simpa using hc
      have hEe : e = E := by
        have h := hcl.out
        rw [hgk] at h
        unfold clsL at h
        rw [if_pos hc] at h
        exact h
      subst hEe
      clear hc hcl hf
      obtain ⟨-, -, b2, -, b4⟩ := hb.out
      have y1 : IntKind.i64.wrap (-e.d) = -e.d := IntWalk.i64_in _ (by omega)
      have y2 : IntKind.i64.wrap (-e.b) = -e.b := IntWalk.i64_in _ (by omega)
      have k1 : ¬ K.d = 0 := by omega
      have k2 : (K.d == 0) = false := by simpa using k1
      have k3 : n.tdiv K.d = K.a := S4.out.symm
      have hka : K.a ≤ n := by rw [← k3]; exact Int.tdiv_le_self _ (by omega)
      have y3 : IntKind.i64.wrap K.a = K.a := IntWalk.i64_in _ (by omega)
      have hkb := HKB.out
      by_cases hneg : e.d < 0
      · rw [if_pos hneg] at hkb
        have MD := Lib.hid (fun w => mod_wide (-e.b) K.a s5 (by omega) w)
        rw [← hkb] at MD
        have hkd : e.d = -K.d := by rw [HKD.out]; omega
        have hl2 : -K.d < K.d := by omega
        have hl3 : -K.d < 0 := by omega
        have y4 : IntKind.i64.wrap K.d = K.d := IntWalk.i64_in _ (by omega)
        clear y1 hneg
        generalize e.d = ed at *
        subst hkd
        clear hkb hb HKB HKD S4 b2 b4
        go_wp2_with (go_at_call 35; with_reducible refine (MD.out _).mono ?_; rintro e w1 ⟨rfl, rfl⟩)
        trace_state
        have hg := HG.out
        exact bodyPost_ret (v := .agg #[.int .i64 K.a, .int .i64 K.b, .int .i64 0, .int .i64 K.d]) (by simp only [results, Try.results22]; go_simp) rfl ⟨rfl, by (repeat (first | with_reducible exact Grow.refl _ | with_reducible refine Grow.alloc ?_ _ | with_reducible refine Grow.drew ?_ | with_reducible refine Grow.drewN ?_ _ | (with_reducible refine Grow.setCell ?_ ?hp _; (case hp => (simp; try omega))) | with_reducible refine Grow.trans ?_ (by assumption)))⟩
      · rw [if_neg hneg] at hkb
        have MD := Lib.hid (fun w => mod_wide e.b K.a s5 (by omega) w)
        rw [← hkb] at MD
        have hkd : e.d = K.d := by rw [HKD.out]; omega
        have hl2 : ¬ K.d < -K.d := by omega
        have hl3 : ¬ K.d < 0 := by omega
        have y4 : IntKind.i64.wrap (-K.d) = -K.d := IntWalk.i64_in _ (by omega)
        clear hkb hb HKB HKD S4 b2 b4
        go_wp2_with (go_at_call 35; with_reducible refine (MD.out _).mono ?_; rintro e w1 ⟨rfl, rfl⟩)
        have hg := HG.out
        exact bodyPost_ret (v := .agg #[.int .i64 K.a, .int .i64 K.b, .int .i64 0, .int .i64 K.d]) (by simp only [results, Try.results22]; go_simp) rfl ⟨rfl, by (repeat (first | with_reducible exact Grow.refl _ | with_reducible refine Grow.alloc ?_ _ | with_reducible refine Grow.drew ?_ | with_reducible refine Grow.drewN ?_ _ | (with_reducible refine Grow.setCell ?_ ?hp _; (case hp => (simp; try omega))) | with_reducible refine Grow.trans ?_ (by assumption)))⟩
    · have e1 : (e.c == 0) = false := by simpa using hc
      have e2 : (e.c != 0) = true := by simpa using hc
      obtain ⟨q, hq⟩ : ∃ q, flF e.d e.c = q := ⟨_, rfl⟩
      obtain ⟨hb2, q1, q2, q3, q4⟩ := clb_step h1 h2 hb.out hc hq
      obtain ⟨-, b1, b2, b3, b4⟩ := hb.out
      have FL := Lib.hid (fun w => refFloor_wide e.d e.c (by omega) (by omega) (by omega) (by omega) hc w)
      rw [hq] at FL
      have hcl2 : clsL g2 ⟨q * e.a - e.b, e.a, q * e.c - e.d, e.c⟩ = E := by
        have h := hcl.out
        rw [hgk] at h
        unfold clsL at h
        rw [if_neg hc, hq] at h
        exact h
      have HCL := Lib.hid hcl2
      have HB2 := Lib.hid hb2
      have hff := hf.out
      have HQ4 : Hid ((q * e.c - e.d).natAbs < g2) := by show _ < _; omega
      clear hc hq hcl hcl2 hb2
      have y1 : IntKind.i64.wrap (q * e.a) = q * e.a := IntWalk.i64_in _ (by omega)
      have y2 : IntKind.i64.wrap (q * e.a - e.b) = q * e.a - e.b := IntWalk.i64_in _ (by omega)
      have y3 : IntKind.i64.wrap (q * e.c) = q * e.c := IntWalk.i64_in _ (by omega)
      have y4 : IntKind.i64.wrap (q * e.c - e.d) = q * e.c - e.d := IntWalk.i64_in _ (by omega)
      clear q1 q2 q3 q4 b1 b2 b3 b4 hff hb
      go_wp2_with (go_at_call 27; with_reducible refine (FL.out _).mono ?_; rintro e w1 ⟨rfl, rfl⟩)
      go_roundg g2
      case measure => omega
      case rel =>
        refine ⟨⟨q * e.a - e.b, e.a, q * e.c - e.d, e.c⟩, HQ4.out, HCL.out, HB2.out, ⟨?_, ?_, ?_, ?_⟩, ⟨?_, ?_, ?_, ?_⟩, ?_, ?_, ?_, ?_⟩
        · go_simp
        · go_simp
        · go_simp
        · go_simp
        · go_simp
        · go_simp
        · go_simp
        · go_simp
        · intro o; go_simp
        · intro o; go_simp
        · simp [World.setCell]; omega
        · have hg := HG.out
          (repeat (first | with_reducible exact Grow.refl _ | with_reducible refine Grow.alloc ?_ _ | with_reducible refine Grow.drew ?_ | with_reducible refine Grow.drewN ?_ _ | (with_reducible refine Grow.setCell ?_ ?hp _; (case hp => (simp; try omega))) | with_reducible refine Grow.trans ?_ (by assumption)))
end Go.Proofs.Ytalidpojcpmcbaa
