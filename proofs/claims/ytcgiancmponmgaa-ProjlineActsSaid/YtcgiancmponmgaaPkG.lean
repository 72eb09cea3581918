/- Walks: Same of points, Index of the program and of the reference. -/
import Derived.Test.YtcgiancmponmgaaPkE
import Derived.Test.YtcgiancmponmgaaPkF
namespace Go.Proofs.Ytcgiancmponmgaa
open Go Go.RowKit

set_option maxHeartbeats 1000000 in
theorem sameP_same (l : List P3) (v1 v2 : Value) (hl : l.length ≤ 1152921504606846976) (w : World) (h1 : RdPts w v1 l) (h2 : RdPts w v2 l) :
    Calls Try.prog 18 #[v1, v2] w fun e w' => e = .returned (.bool true) ∧ Grow w w' := by
  obtain ⟨n, hn⟩ : ∃ n, l.length = n := ⟨_, rfl⟩
  have H : ∃ a1 c1 a2 c2, v1 = .slice a1 n c1 ∧ v2 = .slice a2 n c2 ∧ (0 < n → ∃ b1 o1 b2 o2, a1 = some ⟨b1, o1, none⟩ ∧ a2 = some ⟨b2, o2, none⟩ ∧ (∀ j, j < n → at3 (fun i => w.cell? ⟨b1, i, none⟩) (o1 + j * 3) (l.getD j P3.zero)) ∧ (∀ j, j < n → at3 (fun i => w.cell? ⟨b2, i, none⟩) (o2 + j * 3) (l.getD j P3.zero))) := by
    rcases h1 with ⟨a1, c1, e1, el⟩ | ⟨b1, o1, c1, e1, -, -, hc1⟩
    · obtain ⟨a2, c2, e2⟩ := h2.form
      have hn0 : n = 0 := by rw [← hn, el]; rfl
      exact ⟨a1, c1, a2, c2, by rw [e1, hn0], by rw [e2, hn], fun h => by omega⟩
    · rcases h2 with ⟨a2, c2, e2, el⟩ | ⟨b2, o2, c2, e2, -, -, hc2⟩
      · have hn0 : n = 0 := by rw [← hn, el]; rfl
        exact ⟨_, c1, a2, c2, by rw [e1, hn], by rw [e2, hn0], fun h => by omega⟩
      · exact ⟨_, c1, _, c2, by rw [e1, hn], by rw [e2, hn], fun _ => ⟨b1, o1, b2, o2, rfl, rfl, by rw [← hn]; exact hc1, by rw [← hn]; exact hc2⟩⟩
  obtain ⟨a1, c1, a2, c2, rfl, rfl, hcs⟩ := H
  have HCS := Lib.hid hcs
  rw [hn] at hl
  clear hcs h1 h2 hn
  go_enter Try.func18, Try.ntmps18
  go_wp2_with fail
  go_loopw [5] (fun i wr => ∃ k : Nat, k ≤ n ∧ i = .int .i64 k ∧ ∃ d, wr = w.drewN d) (fun i _ => n - (intOf i).toNat)
  case atStart => exact ⟨0, Nat.zero_le _, rfl, 0, rfl⟩
  case round =>
    obtain ⟨k, hk, rfl, d, rfl⟩ := hrel
    by_cases hlt : k < n
    · obtain ⟨b1, o1, b2, o2, rfl, rfl, q1, q2⟩ := HCS.out (by omega)
      obtain ⟨d1, d2, d3⟩ := q1 k hlt
      obtain ⟨e1, e2, e3⟩ := q2 k hlt
      simp only at d1 d2 d3 e1 e2 e3
      have hkn : (k : Int) < n := by omega
      have hk0 : (0 : Int) ≤ k := by omega
      have yk : IntKind.i64.wrap ((k : Int) + 1) = (k : Int) + 1 := IntWalk.i64_in _ (by omega)
      generalize l.getD k P3.zero = x at *
      clear q1 q2 HCS
      go_wp2_with fail
      go_quiet (fail)
      go_wp2
      go_roundw
      case rel => exact ⟨k + 1, by omega, by go_num, _, rfl⟩
      case measure => simp [intOf]; omega
    · have hkn : k = n := by omega
      subst hkn
      go_wp2
      go_ret
      exact ⟨rfl, by (repeat (first | with_reducible exact Grow.refl _ | with_reducible refine Grow.alloc ?_ _ | with_reducible refine Grow.drew ?_ | with_reducible refine Grow.drewN ?_ _ | (with_reducible refine Grow.setCell ?_ ?hp _; (case hp => (simp; try omega))) | with_reducible refine Grow.trans ?_ (by assumption)))⟩
/-- The index of a point, and the error. -/
def ixR (n c d : Int) : Int × Int := if (nmR n c d).2 ≠ 0 then (0, (nmR n c d).2) else (ixF n (nmR n c d).1, 0)
theorem inL_norm {n c d : Int} (h1 : 1 ≤ n) (h2 : n ≤ 120) (hg : Int.gcd ((Int.gcd c d : Nat) : Int) n = 1) : InL n (normF n (c % n) (d % n)) := by
  have c0 := Int.emod_nonneg c (b := n) (by omega)
  have c1 := Int.emod_lt_of_pos c (b := n) (by omega)
  have d0 := Int.emod_nonneg d (b := n) (by omega)
  have d1 := Int.emod_lt_of_pos d (b := n) (by omega)
  obtain ⟨X, hX, eu, ev, -⟩ := normF_spec h1 h2 c0 c1 d0 d1
  obtain ⟨r1, r2, r3, r4⟩ := hX.rng h1
  have hok := okP_least h1 h2 (g3_mod hg) hX
  exact ⟨by rw [eu]; exact r1, by rw [eu]; exact r2, by rw [ev]; exact r3, by rw [ev]; exact r4, by rw [eu, ev]; exact hok⟩
theorem ixF_uv (n : Int) {x y : P3} (hu : x.u = y.u) (hv : x.v = y.v) : ixF n x = ixF n y := by unfold ixF; rw [hu, hv]
/-- A point of the list is its own normal form. -/
theorem norm_self {n : Int} (h1 : 1 ≤ n) (h2 : n ≤ 120) {x : P3} (h : InL n x) : Int.gcd ((Int.gcd x.u x.v : Nat) : Int) n = 1 ∧ (normF n x.u x.v).u = x.u ∧ (normF n x.u x.v).v = x.v := by
  obtain ⟨r1, r2, r3, r4, hok⟩ := h
  obtain ⟨hg, hl⟩ := (okP_iff h1 h2 r1 r2 r3 r4).1 hok
  obtain ⟨X, hX, eu, ev, -⟩ := normF_spec h1 h2 r1 r2 r3 r4
  obtain ⟨k1, k2⟩ := Lst.same (r := 1) h1 hl hX (Int.gcd_one_left _) (by rw [Int.one_mul]; exact eqN.refl _ _) (by rw [Int.one_mul]; exact eqN.refl _ _)
  exact ⟨hg, eu.trans k1, ev.trans k2⟩
theorem ixR_self {n : Int} (h1 : 1 ≤ n) (h2 : n ≤ 120) {j : Nat} (hj : j < (lsF n).length) {x : P3} (hx : (lsF n).getD j P3.zero = x) : ixR n x.u x.v = ((j : Int), 0) := by
  obtain ⟨hin, hix⟩ := ix_self h1 hj hx
  obtain ⟨hg, eu, ev⟩ := norm_self h1 h2 hin
  obtain ⟨r1, r2, r3, r4, -⟩ := hin
  have hr := nmR_ok (c := x.u) (d := x.v) ⟨h1, h2⟩ (inB_iff.2 (by omega)) (inB_iff.2 (by omega)) hg
  rw [Int.emod_eq_of_lt r1 r2, Int.emod_eq_of_lt r3 r4] at hr
  unfold ixR
  rw [hr, if_neg (by simp)]
  show ((ixF n (normF n x.u x.v) : Int), (0 : Int)) = _
  rw [ixF_uv n eu ev, hix]
set_option maxRecDepth 20000 in
set_option maxHeartbeats 4000000 in
theorem index_any (n c d : Int) (w : World) : Calls Try.prog 19 #[.int .i64 n, .int .i64 c, .int .i64 d] w fun e w' => e = .returned (.tuple #[.int .i64 (ixR n c d).1, .int .i64 (ixR n c d).2]) ∧ Grow w w' := by
  have PN := Lib.hid (fun u => pNormal_any n c d u)
  unfold ixR
  rcases nmR_cases n c d with ⟨er, hx, he⟩ | ⟨h1, h2, -, -, hg, hx⟩
  · rw [hx] at PN ⊢
    rw [if_pos he]
    have e1 : (er != 0) = true := by simpa using he
    clear hx he
    go_enter Try.func19, Try.ntmps19
    go_wp2_with (go_at_call 13; (with_reducible refine (PN.out _).mono ?_); (rintro e w1 ⟨rfl, hb1⟩))
    refine bodyPost_ret (v := .tuple #[.int .i64 0, .int .i64 er]) (by simp only [results, Try.results19]; go_simp) rfl ⟨rfl, by (repeat (first | with_reducible exact Grow.refl _ | with_reducible refine Grow.alloc ?_ _ | with_reducible refine Grow.drew ?_ | with_reducible refine Grow.drewN ?_ _ | (with_reducible refine Grow.setCell ?_ ?hp _; (case hp => (simp; try omega))) | with_reducible refine Grow.trans ?_ (by assumption)))⟩
  · rw [hx] at PN ⊢
    rw [if_neg (by simp)]
    have hin := inL_norm h1 h2 hg
    obtain ⟨x, hxx⟩ : ∃ x, normF n (c % n) (d % n) = x := ⟨_, rfl⟩
    rw [hxx] at PN hin
    simp only [hxx]
    have FD := Lib.hid (fun u => find_any n x h1 h2 hin u)
    clear hx hg hin hxx
    go_enter Try.func19, Try.ntmps19
    go_wp2_with (first | (go_at_call 13; (with_reducible refine (PN.out _).mono ?_); (rintro e w1 ⟨rfl, hb1⟩)) | (go_at_call 39; (with_reducible refine (FD.out _).mono ?_); (rintro e w2 ⟨rfl, hb2⟩)))
    refine bodyPost_ret (v := .tuple #[.int .i64 (ixF n x), .int .i64 0]) (by simp only [results, Try.results19]; go_simp) rfl ⟨rfl, by (repeat (first | with_reducible exact Grow.refl _ | with_reducible refine Grow.alloc ?_ _ | with_reducible refine Grow.drew ?_ | with_reducible refine Grow.drewN ?_ _ | (with_reducible refine Grow.setCell ?_ ?hp _; (case hp => (simp; try omega))) | with_reducible refine Grow.trans ?_ (by assumption)))⟩
set_option maxRecDepth 20000 in
set_option maxHeartbeats 4000000 in
theorem refIndex_any (n c d : Int) (w : World) : Calls Try.prog 20 #[.int .i64 n, .int .i64 c, .int .i64 d] w fun e w' => e = .returned (.tuple #[.int .i64 (ixR n c d).1, .int .i64 (ixR n c d).2]) ∧ Grow w w' := by
  have PN := Lib.hid (fun u => rNormal_any n c d u)
  unfold ixR
  rcases nmR_cases n c d with ⟨er, hx, he⟩ | ⟨h1, h2, -, -, hg, hx⟩
  · rw [hx] at PN ⊢
    rw [if_pos he]
    have e1 : (er != 0) = true := by simpa using he
    clear hx he
    go_enter Try.func20, Try.ntmps20
    go_wp2_with (go_at_call 14; (with_reducible refine (PN.out _).mono ?_); (rintro e w1 ⟨rfl, hb1⟩))
    refine bodyPost_ret (v := .tuple #[.int .i64 0, .int .i64 er]) (by simp only [results, Try.results20]; go_simp) rfl ⟨rfl, by (repeat (first | with_reducible exact Grow.refl _ | with_reducible refine Grow.alloc ?_ _ | with_reducible refine Grow.drew ?_ | with_reducible refine Grow.drewN ?_ _ | (with_reducible refine Grow.setCell ?_ ?hp _; (case hp => (simp; try omega))) | with_reducible refine Grow.trans ?_ (by assumption)))⟩
  · rw [hx] at PN ⊢
    rw [if_neg (by simp)]
    have hin := inL_norm h1 h2 hg
    obtain ⟨x, hxx⟩ : ∃ x, normF n (c % n) (d % n) = x := ⟨_, rfl⟩
    rw [hxx] at PN hin
    simp only [hxx]
    have LS := Lib.hid (fun u => refList_core n h1 h2 u)
    have FD := Lib.hid (fun v u hv => refFind_any n x h1 h2 hin v u hv)
    clear hx hg hin hxx
    go_enter Try.func20, Try.ntmps20
    go_wp2_with (go_at_call 14; (with_reducible refine (PN.out _).mono ?_); (rintro e w1 ⟨rfl, hb1⟩))
    go_at_call 17
    with_reducible refine (LS.out _).mono ?_
    rintro e w2 ⟨v, rfl, hown, hb2⟩
    have x0 : w2.cell? ⟨w1.heap.size, 0, none⟩ = some (.int .i64 x.u) := by rw [hb2.cells _ _ (by simp)]; go_simp
    have x1 : w2.cell? ⟨w1.heap.size, 1, none⟩ = some (.int .i64 x.v) := by rw [hb2.cells _ _ (by simp)]; go_simp
    have x2 : w2.cell? ⟨w1.heap.size, 2, none⟩ = some (.int .i64 x.t) := by rw [hb2.cells _ _ (by simp)]; go_simp
    have HRD := Lib.hid hown.rd
    obtain ⟨ao, cap, rfl⟩ := hown.rd.form
    clear hown
    go_wp2_with fail
    go_at_call 40
    refine (FD.out _ _ HRD.out).mono ?_
    rintro e w3 ⟨rfl, hb3⟩
    go_wp2_with fail
    refine bodyPost_ret (v := .tuple #[.int .i64 (ixF n x), .int .i64 0]) (by simp only [results, Try.results20]; go_simp) rfl ⟨rfl, by (repeat (first | with_reducible exact Grow.refl _ | with_reducible refine Grow.alloc ?_ _ | with_reducible refine Grow.drew ?_ | with_reducible refine Grow.drewN ?_ _ | (with_reducible refine Grow.setCell ?_ ?hp _; (case hp => (simp; try omega))) | with_reducible refine Grow.trans ?_ (by assumption)))⟩
end Go.Proofs.Ytcgiancmponmgaa
