/- Lemmas, plain laws and walks that the statement LwKronecker leans on (texts KhK, GcA, HwB, HwC, ThC, HwD), conditions as each theorem says. -/
import Derived.Deep.QuietTactic
import Derived.BigQuiet
import Derived.Test.YtbpkfcohbefphaaGreatDoorTopKhG07
import Derived.Test.YtbpkfcohbefphaaGreatDoorTopKhG18
import Derived.Test.YtbpkfcohbefphaaGreatDoorTopKhG20
import Derived.Test.YtbpkfcohbefphaaGreatDoorTopKhG21

namespace Go.Proofs.YtbpkfcohbefphaaGreatDoor
/-- What one divisor adds. -/
def kfD (n d : Nat) : Nat := 2 * d - min d (n / d)
def wantS (n : Nat) (l : List Nat) : Nat → Nat
  | 0 => 0
  | i + 1 => wantS n l i + kfD n (l.getD i 0)
theorem wantS_take (n : Nat) (l : List Nat) : ∀ k, k ≤ l.length → wantS n l k = ((l.take k).map (kfD n)).sum
  | 0, _ => by simp [wantS]
  | k + 1, h => by
    have h1 := wantS_take n l k (by omega)
    have h2 : l.take (k + 1) = l.take k ++ [l.getD k 0] := by
      rw [List.take_add_one, List.getD_eq_getElem?_getD, List.getElem?_eq_getElem (by omega)]; rfl
    show wantS n l k + _ = _
    rw [h2, List.map_append, List.sum_append, h1]; simp
theorem khW_sum (n : Nat) : ∀ k, khW n k = (((List.range (k + 1)).filter (fun d => d != 0 && n % d == 0)).map (kfD n)).sum
  | 0 => by
    have h : khW n 0 = 0 := rfl
    rw [h]; simp [List.range_succ]
  | k + 1 => by
    have h1 := khW_sum n k
    have h2 : khW n (k + 1) = khW n k + cond (Nat.beq (n % (k + 1)) 0) (2 * (k + 1) - cond (Nat.ble (k + 1) (n / (k + 1))) (k + 1) (n / (k + 1))) 0 := rfl
    rw [h2, h1, List.range_succ (n := k + 1), List.filter_append, List.map_append, List.sum_append]
    congr 1
    by_cases h3 : n % (k + 1) = 0
    · have h4 : Nat.beq (n % (k + 1)) 0 = true := by rw [h3]; rfl
      have h5 : ((k + 1 != 0) && (n % (k + 1) == 0)) = true := by simp [h3]
      rw [h4, List.filter_cons, if_pos h5]
      simp only [cond_true, List.filter_nil, List.map_cons, List.map_nil, List.sum_cons, List.sum_nil, Nat.add_zero]
      unfold kfD
      by_cases h6 : k + 1 ≤ n / (k + 1)
      · rw [Nat.ble_eq_true_of_le h6, cond_true, Nat.min_eq_left h6]
      · have h7 : Nat.ble (k + 1) (n / (k + 1)) = false := by
          cases hb : Nat.ble (k + 1) (n / (k + 1))
          · rfl
          · exact absurd (Nat.le_of_ble_eq_true hb) h6
        rw [h7, cond_false, Nat.min_eq_right (by omega)]
    · have h4 : Nat.beq (n % (k + 1)) 0 = false := by
        cases hb : Nat.beq (n % (k + 1)) 0
        · rfl
        · exact absurd (Nat.eq_of_beq_eq_true hb) h3
      have h5 : ¬ ((k + 1 != 0) && (n % (k + 1) == 0)) = true := by simp [h3]
      rw [h4, List.filter_cons, if_neg h5]
      rfl
theorem wantS_all (n : Nat) : wantS n (divs n) (divs n).length = khW n n := by
  rw [wantS_take n _ _ (Nat.le_refl _), List.take_length, khW_sum]; rfl
theorem khd_mem {n i : Nat} (h : i < (divs n).length) : 1 ≤ (divs n).getD i 0 ∧ (divs n).getD i 0 ≤ n := by
  have h1 : (divs n).getD i 0 ∈ divs n := by
    rw [List.getD_eq_getElem?_getD, List.getElem?_eq_getElem h]; exact List.getElem_mem h
  generalize (divs n).getD i 0 = d at h1
  have h2 := List.mem_filter.1 h1
  have h3 := List.mem_range.1 h2.1
  have h4 := h2.2
  simp at h4
  omega
theorem wantS_le {n : Nat} (hn : n ≤ 1000) : ∀ k, k ≤ (divs n).length → wantS n (divs n) k ≤ 2000 * k
  | 0, _ => by simp [wantS]
  | k + 1, h => by
    have h1 := wantS_le hn k (by omega)
    have h2 := khd_mem (n := n) (i := k) (by omega)
    show wantS n (divs n) k + kfD n _ ≤ _
    unfold kfD
    generalize (divs n).getD k 0 = d at *
    generalize n / d = q at *
    omega
theorem h12_le {m : Nat} (h : m ≤ 4000) : (h12 m).natAbs ≤ 2048 := by
  unfold h12
  split
  · decide
  · rw [hwN_tab m h]
    have : hwA m < 1024 := Nat.mod_lt _ (by decide)
    omega
theorem gK_le {n t : Nat} (h : n ≤ 1000) : (gK n t).natAbs ≤ 2048 := by
  unfold gK
  split
  · decide
  · exact h12_le (by omega)
theorem khP_le {n : Nat} (h : n ≤ 1000) : ∀ j, (khP n j).natAbs ≤ 2048 * j
  | 0 => by simp [khP]
  | j + 1 => by
    have h1 := khP_le h j
    have h2 := gK_le (n := n) (t := if j ≤ 2 * n then 2 * n - j else j - 2 * n) h
    show (khP n j + gK n _).natAbs ≤ _
    omega
end Go.Proofs.YtbpkfcohbefphaaGreatDoor
namespace Go.Proofs.YtbpkfcohbefphaaGreatDoor
open Go Go.RowKit
theorem gcW_step (x y : Int) : Int.gcd y (x.tmod y) = Int.gcd x y := by
  simp only [Int.gcd, Int.natAbs_tmod]
  rw [Nat.gcd_comm x.natAbs y.natAbs, Nat.gcd_rec y.natAbs x.natAbs, Nat.gcd_comm]
theorem tmW_lt (x y : Int) (h : y ≠ 0) : (x.tmod y).natAbs < y.natAbs := by
  rw [Int.natAbs_tmod]
  exact Nat.mod_lt _ (by omega)
theorem tmW_bd (x y : Int) (h : y ≠ 0) (B : Int) (h1 : -B ≤ y) (h2 : y ≤ B) : -B ≤ x.tmod y ∧ x.tmod y ≤ B := by
  have := tmW_lt x y h
  omega
set_option maxHeartbeats 1000000 in
theorem gcW_quiet (a b : Int) (ha : -4611686018427387904 ≤ a) (ha' : a ≤ 4611686018427387904) (hb : -4611686018427387904 ≤ b) (hb' : b ≤ 4611686018427387904) (w : World) :
    Calls Tryz.prog 68 #[.int .i64 a, .int .i64 b] w fun e w' => e = .returned (.int .i64 (Int.gcd a b)) ∧ ∃ n, w' = w.drewN n := by
  go_enter Tryz.func68, Tryz.ntmps68
  go_wp2
  go_loopw [0, 1] (fun u v wr => ∃ x y : Int, u = .int .i64 x ∧ v = .int .i64 y ∧ -4611686018427387904 ≤ x ∧ x ≤ 4611686018427387904 ∧ -4611686018427387904 ≤ y ∧ y ≤ 4611686018427387904 ∧ Hid (Int.gcd x y = Int.gcd a b) ∧ ∃ n, wr = w.drewN n) (fun _ v _ => (intOf v).natAbs)
  case atStart => exact ⟨a, b, rfl, rfl, ha, ha', hb, hb', rfl, 0, rfl⟩
  case round =>
    obtain ⟨x, y, rfl, rfl, h1, h2, h3, h4, hg, n, rfl⟩ := hrel
    by_cases hy : y = 0
    · subst hy
      have hx : (x.natAbs : Int) = Int.gcd a b := by rw [← hg.out]; simp
      have HX := Lib.hid hx
      clear hx
      go_wp2
      all_goals
        go_ret
        exact ⟨congrArg (fun z => Ending.returned (Value.int .i64 z)) (by rw [← HX.out]; omega), _, rfl⟩
    · have hy1 : (y == 0) = false := by simpa using hy
      have hy2 : (y != 0) = true := by simpa using hy
      have hr := gcW_step x y
      have hl := tmW_lt x y hy
      obtain ⟨t1, t2⟩ := tmW_bd x y hy 4611686018427387904 h3 h4
      have HR := Lib.hid hr
      clear hr
      go_wp2
      go_quiet (fail)
      go_wp2
      go_roundw
      case rel => exact ⟨y, x.tmod y, rfl, rfl, h3, h4, t1, t2, HR.out.trans hg.out, n + nq, by rw [World.drewN_drewN]⟩
      case measure => simp only [intOf]; exact hl
theorem gcW_any (a b : Int) (ha : -4611686018427387904 ≤ a) (ha' : a ≤ 4611686018427387904) (hb : -4611686018427387904 ≤ b) (hb' : b ≤ 4611686018427387904) (w : World) :
    Calls Tryz.prog 68 #[.int .i64 a, .int .i64 b] w fun e w' => e = .returned (.int .i64 (Int.gcd a b)) ∧ Grow w w' :=
  (gcW_quiet a b ha ha' hb hb' w).mono fun _ _ ⟨he, n, hn⟩ => ⟨he, by rw [hn]; exact (Grow.refl _).drewN n⟩
end Go.Proofs.YtbpkfcohbefphaaGreatDoor
namespace Go.Proofs.YtbpkfcohbefphaaGreatDoor
open Go Go.RowKit
set_option maxRecDepth 20000 in
set_option maxHeartbeats 8000000 in
theorem possQ (n : Nat) (d : Int) (hd : d = -(n : Int)) (h1 : 1 ≤ n) (h2 : n ≤ 4000) (w : World) :
    Calls Tryz.prog 36 #[.int .i64 d] w fun e w' => e = .returned (.int .i64 (if posB n = true then 0 else 15)) ∧ w = w' := by
  have y1 : decide (d < -4000) = false := by simp; omega
  have y2 : decide (d > -1) = false := by simp; omega
  have E1 : Hid (IntKind.i64.wrap (-d) = (n : Int) ∧ wrap64 (-d) = (n : Int)) := Lib.hid (by rw [hd, Int.neg_neg]; exact w64n (by omega))
  have E2 : Hid (Int.tmod (n : Int) 4 = ((n % 4 : Nat) : Int)) := Lib.hid (by rw [Int.natCast_emod]; exact Int.tmod_eq_emod_of_nonneg (by omega))
  obtain ⟨x, hx⟩ : ∃ x : Int, (if posB n = true then (0 : Int) else 15) = x := ⟨_, rfl⟩
  have hc : (n % 4 = 1 ∧ x = 15) ∨ (n % 4 = 2 ∧ x = 15) ∨ (n % 4 = 0 ∧ x = 0) ∨ (n % 4 = 3 ∧ x = 0) := by
    rw [← hx]; unfold posB
    rcases (by omega : n % 4 = 0 ∨ n % 4 = 1 ∨ n % 4 = 2 ∨ n % 4 = 3) with h | h | h | h <;> simp [h]
  rw [hx]
  clear hx hd
  rcases hc with ⟨hr, rfl⟩ | ⟨hr, rfl⟩ | ⟨hr, rfl⟩ | ⟨hr, rfl⟩
  all_goals
    rw [hr] at E2
    clear hr
    have e2 := E2.out
    obtain ⟨e1, e3⟩ := E1.out
    go_enter Tryz.func36, Tryz.ntmps36
    go_wp2_with fail
    go_ret
    exact ⟨rfl, rfl⟩
set_option maxRecDepth 20000 in
set_option maxHeartbeats 8000000 in
theorem unitsHQ (n : Nat) (d : Int) (hd : d = -(n : Int)) (w : World) :
    Calls Tryz.prog 38 #[.int .i64 d] w fun e w' => e = .returned (.int .i64 (2 * (unN n : Int))) ∧ w = w' := by
  by_cases h3 : n = 3
  · subst h3
    subst hd
    go_enter Tryz.func38, Tryz.ntmps38
    go_wp2_with fail
    go_ret
    exact ⟨rfl, rfl⟩
  · by_cases h4 : n = 4
    · subst h4
      subst hd
      go_enter Tryz.func38, Tryz.ntmps38
      go_wp2_with fail
      go_ret
      exact ⟨rfl, rfl⟩
    · have e : (unN n : Int) = 1 := by simp [unN, h3, h4]
      rw [e]
      have y1 : (d == -3) = false := by simp; omega
      have y2 : (d == -4) = false := by simp; omega
      clear hd e
      go_enter Tryz.func38, Tryz.ntmps38
      go_wp2_with fail
      go_ret
      exact ⟨rfl, rfl⟩
set_option maxRecDepth 20000 in
set_option maxHeartbeats 8000000 in
theorem contentQ (a b c : Int) (ha : a.natAbs ≤ 1000000) (hb : b.natAbs ≤ 1000000) (hc : c.natAbs ≤ 1000000) (w : World) :
    Calls Tryz.prog 63 #[.agg #[.int .i64 a, .int .i64 b, .int .i64 c]] w fun e w' => e = .returned (.int .i64 (Int.gcd (Int.gcd a b) c)) ∧ Grow w w' := by
  have G1 := Lib.hid (fun u => gcW_any a b (by omega) (by omega) (by omega) (by omega) u)
  obtain ⟨g, hg⟩ : ∃ g, Int.gcd a b = g := ⟨_, rfl⟩
  have hgb : g ≤ 1000000 := by
    rw [← hg]
    rcases Nat.eq_zero_or_pos (a.natAbs) with h0 | h0
    · have : a = 0 := by omega
      rw [this, Int.gcd_zero_left]; exact hb
    · exact Nat.le_trans (Nat.le_of_dvd h0 (Int.gcd_dvd_natAbs_left a b)) ha
  rw [hg] at G1 ⊢
  have G2 := Lib.hid (fun u => gcW_any (g : Int) c (by omega) (by omega) (by omega) (by omega) u)
  obtain ⟨W1, hW1⟩ : ∃ W1 : World, W1 = w.alloc (.cells #[.int .i64 a, .int .i64 b, .int .i64 c] 95) := ⟨_, rfl⟩
  have hg1 := ag hW1
  have K1 := Lib.hid (ak3 hW1)
  have HW1 := Lib.hid hW1
  clear hW1 hg
  go_enter Tryz.func63, Tryz.ntmps63
  go_upto_region 1 with fail
  rw [← HW1.out]
  refine region_held (id := 1) (fun u => Grow W1 u) [0, 1, 2, 3, 5, 6, 4, 7, 8] (kdL [0, 1, 0, 1, 2, 0, 1, 2, 0]) (by kernel_rfl) (by kernel_rfl) (fun t ht => kdL_lt _ t ht) ?hS0p ?_
  case hS0p => ((try dsimp only); (repeat (first | with_reducible exact Grow.refl _ | with_reducible refine Grow.alloc ?_ _ | with_reducible refine Grow.drew ?_ | with_reducible refine Grow.drewN ?_ _ | (with_reducible refine Grow.setCell ?_ ?hp _; (case hp => (simp; try omega))) | with_reducible refine Grow.trans ?_ (by assumption))))
  refine held_quiet (v := ?vp0) rfl rfl (Or.inl ⟨by rfl, ?hyp0⟩) ?_
  case hyp0 => (intro u hu; go_simp; (try with_reducible rfl))
  (try simp only [Act.put, List.setIfInBounds_toArray, List.set_cons_zero, List.set_cons_succ])
  refine held_read (v := ?vp1) rfl rfl (Or.inl ⟨by rfl, ?hyp1⟩) ?_
  case hyp1 => (intro u hu; obtain ⟨f0, f1, f2, f3, f4⟩ := K1.out u hu; go_simp; (try with_reducible rfl))
  (try simp only [Act.put, List.setIfInBounds_toArray, List.set_cons_zero, List.set_cons_succ])
  refine held_quiet (v := ?vp2) rfl rfl (Or.inl ⟨by rfl, ?hyp2⟩) ?_
  case hyp2 => (intro u hu; go_simp; (try with_reducible rfl))
  (try simp only [Act.put, List.setIfInBounds_toArray, List.set_cons_zero, List.set_cons_succ])
  refine held_read (v := ?vp3) rfl rfl (Or.inl ⟨by rfl, ?hyp3⟩) ?_
  case hyp3 => (intro u hu; obtain ⟨f0, f1, f2, f3, f4⟩ := K1.out u hu; go_simp; (try with_reducible rfl))
  (try simp only [Act.put, List.setIfInBounds_toArray, List.set_cons_zero, List.set_cons_succ])
  refine held_quiet (v := ?vp5) rfl rfl (Or.inl ⟨by rfl, ?hyp5⟩) ?_
  case hyp5 => (intro u hu; go_simp; (try with_reducible rfl))
  (try simp only [Act.put, List.setIfInBounds_toArray, List.set_cons_zero, List.set_cons_succ])
  refine held_read (v := ?vp6) rfl rfl (Or.inl ⟨by rfl, ?hyp6⟩) ?_
  case hyp6 => (intro u hu; obtain ⟨f0, f1, f2, f3, f4⟩ := K1.out u hu; go_simp; (try with_reducible rfl))
  (try simp only [Act.put, List.setIfInBounds_toArray, List.set_cons_zero, List.set_cons_succ])
  refine held_op rfl rfl (fun K hK => ?_)
  go_simp
  (go_at_call 68; (with_reducible refine (G1.out _).mono ?_); (rintro e u4 ⟨rfl, hb4⟩))
  (try go_wp2_with fail)
  refine hK.out _ _ ?hSp4 ?_
  case hSp4 => ((try dsimp only); (repeat (first | with_reducible exact Grow.refl _ | with_reducible refine Grow.alloc ?_ _ | with_reducible refine Grow.drew ?_ | with_reducible refine Grow.drewN ?_ _ | (with_reducible refine Grow.setCell ?_ ?hp _; (case hp => (simp; try omega))) | with_reducible refine Grow.trans ?_ (by assumption))))
  clear hK K
  (try simp only [Act.put, List.setIfInBounds_toArray, List.set_cons_zero, List.set_cons_succ])
  refine held_op rfl rfl (fun K hK => ?_)
  go_simp
  (go_at_call 68; (with_reducible refine (G2.out _).mono ?_); (rintro e u7 ⟨rfl, hb7⟩))
  (try go_wp2_with fail)
  refine hK.out _ _ ?hSp7 ?_
  case hSp7 => ((try dsimp only); (repeat (first | with_reducible exact Grow.refl _ | with_reducible refine Grow.alloc ?_ _ | with_reducible refine Grow.drew ?_ | with_reducible refine Grow.drewN ?_ _ | (with_reducible refine Grow.setCell ?_ ?hp _; (case hp => (simp; try omega))) | with_reducible refine Grow.trans ?_ (by assumption))))
  clear hK K
  (try simp only [Act.put, List.setIfInBounds_toArray, List.set_cons_zero, List.set_cons_succ])
  refine held_quiet (v := ?vp8) rfl rfl (Or.inl ⟨by rfl, ?hyp8⟩) ?_
  case hyp8 => (intro u hu; go_simp; (try with_reducible rfl))
  (try simp only [Act.put, List.setIfInBounds_toArray, List.set_cons_zero, List.set_cons_succ])
  refine held_done ?_
  go_wp2_with fail
  go_ret
  exact ⟨rfl, by (repeat (first | with_reducible exact Grow.refl _ | with_reducible refine Grow.alloc ?_ _ | with_reducible refine Grow.drew ?_ | with_reducible refine Grow.drewN ?_ _ | (with_reducible refine Grow.setCell ?_ ?hp _; (case hp => (simp; try omega))) | with_reducible refine Grow.trans ?_ (by assumption)))⟩
theorem infoQF : (Tryz.prog.info? 95).map (fun i => (i.zero, i.size, i.bytes)) = some (some (.agg #[.int .i64 0, .int .i64 0, .int .i64 0]), 3, 24) := by kernel_rfl
theorem qf_news (u : World) (a b c : Int) (ty : TypeId) : ∀ j x, [Value.int .i64 a, .int .i64 b, .int .i64 c][j]? = some x → (u.alloc (.cells #[.int .i64 a, .int .i64 b, .int .i64 c] ty)).cell? ((⟨u.heap.size, 0, none⟩ : Addr).add j) = some x := by
  intro j x hj
  rw [Addr.add_lit, Nat.zero_add, World.cell?_alloc_at _ _ _ _ rfl]
  match j, hj with
  | 0, hj => simpa using hj
  | 1, hj => simpa using hj
  | 2, hj => simpa using hj
theorem qf_one (a b c : Int) : ∀ x ∈ [Value.int .i64 a, .int .i64 b, .int .i64 c], x.oneCell' = true := by
  intro x hx; simp at hx; rcases hx with rfl | rfl | rfl <;> rfl
theorem qf_nu (a b c : Int) : ∀ x ∈ [Value.int .i64 a, .int .i64 b, .int .i64 c], NU x := by
  intro x hx; simp at hx; rcases hx with rfl | rfl | rfl <;> exact nu_int _
theorem qf_zero_nu : ∀ u ∈ (Value.agg #[.int .i64 0, .int .i64 0, .int .i64 0]).cells.toList, NU u := by
  intro u hu; simp [Value.cells] at hu; subst hu; exact nu_int _
end Go.Proofs.YtbpkfcohbefphaaGreatDoor
namespace Go.Proofs.YtbpkfcohbefphaaGreatDoor
open Go Go.RowKit
theorem three_sq {n k : Nat} (hn : n ≤ 4000) : (k < sqN (n / 3) → 3 * (k + 1) * (k + 1) ≤ n) ∧ (k = sqN (n / 3) → n < 3 * (k + 1) * (k + 1)) := by
  obtain ⟨h1, h2⟩ := sqN_spec (n := n / 3) (by omega)
  constructor
  · intro h
    have h3 : (k + 1) * (k + 1) ≤ sqN (n / 3) * sqN (n / 3) := Nat.mul_le_mul h h
    have h4 : 3 * (k + 1) * (k + 1) = 3 * ((k + 1) * (k + 1)) := Nat.mul_assoc _ _ _
    omega
  · intro h
    have h4 : 3 * (k + 1) * (k + 1) = 3 * ((k + 1) * (k + 1)) := Nat.mul_assoc _ _ _
    rw [← h] at h2
    omega
set_option maxRecDepth 20000 in
set_option maxHeartbeats 8000000 in
theorem classesQ (n : Nat) (d : Int) (hd : d = -(n : Int)) (h1 : 1 ≤ n) (h2 : n ≤ 4000) (w : World) :
    Calls Tryz.prog 37 #[.int .i64 d] w fun e w' => ∃ av cv, e = .returned (.slice av (clsN n) cv) ∧ Grow w w' := by
  obtain ⟨ir, hir, irz0, irz1, irz2⟩ := info_parts infoQF
  obtain ⟨K, hK⟩ : ∃ K, sqN (n / 3) = K := ⟨_, rfl⟩
  have hKb : K ≤ 36 := by rw [← hK]; exact sq3_le h2
  have HK := Lib.hid hK
  have HD := Lib.hid hd
  have E0 : Hid (IntKind.i64.wrap (-d) = (n : Int) ∧ wrap64 (-d) = (n : Int)) := Lib.hid (by rw [hd, Int.neg_neg]; exact w64n (by omega))
  have HIR := Lib.hid hir
  have HI0 := Lib.hid irz0
  have HI1 := Lib.hid irz1
  have HI2 := Lib.hid irz2
  clear hK hd hir irz0 irz1 irz2
  go_enter Tryz.func37, Tryz.ntmps37
  go_wp2_with fail
  go_loopg [3, 4] 37 (fun gk t3 t4 wr => ∃ (k l a cv : Nat) (av : Option Addr) (xs : List Value), t3 = .slice av l cv ∧ t4 = .int .i64 (a : Int) ∧ k ≤ K ∧ Hid (gk = 37 - k) ∧ Hid (a = k + 1) ∧ Hid (l = clsA n k) ∧ Hid (Grow w wr) ∧ Hid (OwnG wr w.heap.size 95 3 (.slice av l cv) l xs))
  case atStart => exact ⟨0, 0, 1, 0, none, [], rfl, rfl, Nat.zero_le _, Lib.hid rfl, Lib.hid rfl, Lib.hid rfl, Lib.hid (Grow.refl _), Lib.hid (OwnG.nil _ _ _ _)⟩
  case round =>
    obtain ⟨k, l, a, cv, av, xs, rfl, rfl, hk, HGK, HAK, HL, HG, HO⟩ := hrel
    have hak := HAK.out
    obtain ⟨p, hp⟩ : ∃ p : Nat, 3 * a = p := ⟨_, rfl⟩
    obtain ⟨s, hs⟩ : ∃ s : Nat, p * a = s := ⟨_, rfl⟩
    have hpb : p ≤ 111 := by omega
    have hsb : s ≤ 111 * 37 := by rw [← hs]; exact Nat.mul_le_mul hpb (by omega)
    have E1 : Hid (IntKind.i64.wrap (3 * (a : Int)) = (p : Int) ∧ wrap64 (3 * (a : Int)) = (p : Int)) := Lib.hid (by rw [show 3 * (a : Int) = (p : Int) by omega]; exact w64n (by omega))
    have E2 : Hid (IntKind.i64.wrap ((p : Int) * (a : Int)) = (s : Int) ∧ wrap64 ((p : Int) * (a : Int)) = (s : Int)) := Lib.hid (by rw [show (p : Int) * (a : Int) = (s : Int) by rw [← hs]; simp]; exact w64n (by omega))
    have hts := three_sq (n := n) (k := k) h2
    have hse : 3 * (k + 1) * (k + 1) = s := by rw [← hs, ← hp, hak]
    rw [hse, HK.out] at hts
    have HTS := Lib.hid hts
    clear hp hs hak hse hts
    by_cases hkk : k = K
    · have hnl : decide (s ≤ n) = false := by have := HTS.out.2 hkk; simp; omega
      have hnl2 : decide ((s : Int) ≤ (n : Int)) = false := by have := HTS.out.2 hkk; simp; omega
      have hlK : l = clsN n := by rw [HL.out, hkk, ← HK.out]; rfl
      have HLK := Lib.hid hlK
      clear hlK hkk
      obtain ⟨e1, e2⟩ := E1.out
      obtain ⟨e3, e4⟩ := E2.out
      obtain ⟨e5, e6⟩ := E0.out
      go_wp2_with fail
      go_ret
      first | exact ⟨av, ⟨cv, by rw [← HLK.out]; rfl⟩, HG.out⟩ | exact ⟨av, cv, by rw [← HLK.out]; rfl, HG.out⟩
    · have hle : s ≤ n := HTS.out.1 (by omega)
      have hle2 : decide ((s : Int) ≤ (n : Int)) = true := by simp; omega
      obtain ⟨z0, hz0⟩ : ∃ z, 1 - (a : Int) = z := ⟨_, rfl⟩
      have ha37 : a ≤ 36 := by have := HAK.out; omega
      have ha1 : 1 ≤ a := by have := HAK.out; omega
      have E3 : Hid (IntKind.i64.wrap (1 - (a : Int)) = z0 ∧ wrap64 (1 - (a : Int)) = z0) := Lib.hid (by rw [hz0]; exact w64n (by omega))
      have HZ0 := Lib.hid hz0
      obtain ⟨f4, hf4⟩ : ∃ f : Nat, 4 * a = f := ⟨_, rfl⟩
      have E4 : Hid (IntKind.i64.wrap (4 * (a : Int)) = (f4 : Int) ∧ wrap64 (4 * (a : Int)) = (f4 : Int)) := Lib.hid (by rw [show 4 * (a : Int) = (f4 : Int) by omega]; exact w64n (by omega))
      have HF4 := Lib.hid hf4
      have hf40 : ¬ ((f4 : Int) = 0) := by omega
      have hf41 : ¬ (f4 = 0) := by omega
      have hlb : l ≤ 1332 := by
        have h3 := clsA_le n k
        have h4 : k * (k + 1) ≤ 36 * 37 := Nat.mul_le_mul (by omega) (by omega)
        have := HL.out; omega
      clear hz0 hf4
      obtain ⟨e1, e2⟩ := E1.out
      obtain ⟨e3, e4⟩ := E2.out
      obtain ⟨e5, e6⟩ := E0.out
      obtain ⟨e7, e8⟩ := E3.out
      go_wp2_with fail
      clear e1 e2 e3 e4 e5 e6 e7 e8 hle hle2
      go_loopg [3, 5] (2 * a) (fun gk2 t3 t5 wx => ∃ (i l2 cv : Nat) (z : Int) (av : Option Addr) (xs : List Value), t3 = .slice av l2 cv ∧ t5 = .int .i64 z ∧ i ≤ 2 * a ∧ Hid (gk2 = 2 * a - i) ∧ Hid (z = 1 - (a : Int) + i) ∧ Hid (l2 = l + clsR n a i) ∧ Hid (Grow w wx) ∧ Hid (OwnG wx w.heap.size 95 3 (.slice av l2 cv) l2 xs))
      case atStart => exact ⟨0, l, cv, z0, av, xs, rfl, rfl, Nat.zero_le _, Lib.hid rfl, Lib.hid (by rw [← HZ0.out]; simp), Lib.hid rfl, HG, HO⟩
      case round =>
        clear HG HO
        obtain ⟨i, l2, cv, z, av, xs, rfl, rfl, hi2, HGK2, HZ, HL2, HG, HO⟩ := hrel
        by_cases hii : i = 2 * a
        · have y1 : decide (z ≤ (a : Int)) = false := by have := HZ.out; simp; omega
          have E5 := Lib.hid (inc_wrap (i := a) (n := 100) (by omega) (by omega))
          have HA2 : Hid (a + 1 = k + 1 + 1) := Lib.hid (by rw [HAK.out])
          have HLN : Hid (l2 = clsA n (k + 1)) := Lib.hid (by rw [HL2.out, HL.out, hii, HAK.out]; rfl)
          clear hii
          obtain ⟨e1, e2⟩ := E5.out
          go_wp2_with fail
          clear e1 e2
          go_roundg (37 - (k + 1))
          case measure => have := HGK.out; omega
          case rel => exact ⟨k + 1, l2, a + 1, cv, av, xs, rfl, rfl, by omega, Lib.hid rfl, HA2, HLN, HG, HO⟩
        · have hi : i < 2 * a := by omega
          have y1 : decide (z ≤ (a : Int)) = true := by have := HZ.out; simp; omega
          have hzb : z.natAbs ≤ 36 := by have := HZ.out; omega
          obtain ⟨zz, hzz⟩ : ∃ m, z * z = m := ⟨_, rfl⟩
          have hzz1 : zz.natAbs ≤ 1296 := by rw [← hzz]; exact abs_mul_le hzb hzb (by decide)
          have hzz0 : 0 ≤ zz := by rw [← hzz]; exact sq_nonneg z
          obtain ⟨q, hq⟩ : ∃ m, zz - d = m := ⟨_, rfl⟩
          have hqn : q = zz + n := by rw [← hq, HD.out]; omega
          have E5 : Hid (IntKind.i64.wrap (z * z) = zz ∧ wrap64 (z * z) = zz) := Lib.hid (by rw [hzz]; exact w64n (by omega))
          have E6 : Hid (IntKind.i64.wrap (zz - d) = q ∧ wrap64 (zz - d) = q) := Lib.hid (by rw [hq]; exact w64n (by omega))
          obtain ⟨m, hm⟩ : ∃ m, Int.tmod q (f4 : Int) = m := ⟨_, rfl⟩
          have hmn : m = (z * z + n) % (4 * a) := by rw [← hm, Int.tmod_eq_emod_of_nonneg (by omega), hqn, hzz, ← HF4.out]; simp
          have hmb : 0 ≤ m ∧ m < 1000 := by
            have h3 := Int.emod_nonneg q hf40
            have h4 := Int.emod_lt_of_pos q (show (0 : Int) < (f4 : Int) by omega)
            have h5 : m = q % (f4 : Int) := by rw [← hm, Int.tmod_eq_emod_of_nonneg (by omega)]
            have := HF4.out
            omega
          have E7 : Hid (Int.tmod q (f4 : Int) = m) := Lib.hid hm
          have E8 := Lib.hid (w64n (n := m) (by omega))
          obtain ⟨z1, hz1⟩ : ∃ m, z + 1 = m := ⟨_, rfl⟩
          have E9 : Hid (IntKind.i64.wrap (z + 1) = z1 ∧ wrap64 (z + 1) = z1) := Lib.hid (by rw [hz1]; exact w64n (by omega))
          have HZ1 : Hid (z1 = 1 - (a : Int) + ((i + 1 : Nat) : Int)) := Lib.hid (by rw [← hz1, HZ.out]; omega)
          have HCB : Hid (clsR n a (i + 1) = clsR n a i + if clsB n a z = true then 1 else 0) := Lib.hid (by rw [HZ.out]; rfl)
          have HQ := Lib.hid hqn
          have HM := Lib.hid hmn
          have HZZ := Lib.hid hzz
          have hq0 : 0 ≤ q := by omega
          have hqb : q ≤ 6000 := by omega
          clear hzz hq hm hmn hqn hz1 hii
          by_cases hm0 : m = 0
          · subst hm0
            obtain ⟨c, hc⟩ : ∃ m, Int.tdiv q (f4 : Int) = m := ⟨_, rfl⟩
            have hcd : c = q / (f4 : Int) := by rw [← hc, Int.tdiv_eq_ediv_of_nonneg hq0]
            have hcn : c = (z * z + n) / (4 * a) := by rw [hcd, HQ.out, HZZ.out, ← HF4.out]; simp
            have hcb : 0 ≤ c ∧ c ≤ 6000 := by
              rw [hcd]
              exact ⟨Int.ediv_nonneg hq0 (by omega), Int.le_trans (Int.ediv_le_self _ hq0) hqb⟩
            have E10 : Hid (Int.tdiv q (f4 : Int) = c) := Lib.hid hc
            have E11 := Lib.hid (w64n (n := c) (by omega))
            obtain ⟨g, hg⟩ : ∃ g, Int.gcd (Int.gcd (a : Int) z) c = g := ⟨_, rfl⟩
            have CT := Lib.hid (fun u => contentQ (a : Int) z c (by omega) (by omega) (by omega) u)
            rw [hg] at CT
            have hgb : g ≤ 6000 := by
              rw [← hg]
              rcases Nat.eq_zero_or_pos (Int.gcd (Int.gcd (a : Int) z) c) with h0 | h0
              · omega
              · have h5 : Int.gcd (a : Int) z ≤ 36 := Nat.le_trans (Nat.le_of_dvd (by omega) (Int.gcd_dvd_natAbs_left _ _)) (by simp; omega)
                have h6 : 0 < Int.gcd (a : Int) z := by
                  rcases Nat.eq_zero_or_pos (Int.gcd (a : Int) z) with h7 | h7
                  · have := (Int.gcd_eq_zero_iff.1 h7).1; omega
                  · exact h7
                exact Nat.le_trans (Nat.le_of_dvd (by omega) (Int.gcd_dvd_natAbs_left _ _)) (by simp; omega)
            have hcls : clsB n a z = (decide ((a : Int) ≤ c) && !(decide (c = (a : Int)) && decide (z < 0)) && decide (g ≤ 1)) := by
              unfold clsB
              rw [← hcn, hg, ← HM.out]
              simp
            have HCLS := Lib.hid hcls
            have hcase : ((decide (c < (a : Int)) = true ∧ clsB n a z = false) ∨ (decide (c < (a : Int)) = false ∧ (c == (a : Int)) = true ∧ decide (z < 0) = true ∧ clsB n a z = false) ∨
                (decide (c < (a : Int)) = false ∧ (c == (a : Int)) = true ∧ decide (z < 0) = false ∧ decide ((g : Int) > 1) = true ∧ clsB n a z = false) ∨ (decide (c < (a : Int)) = false ∧ (c == (a : Int)) = false ∧ decide ((g : Int) > 1) = true ∧ clsB n a z = false)) ∨
                ((decide (c < (a : Int)) = false ∧ (c == (a : Int)) = true ∧ decide (z < 0) = false ∧ decide ((g : Int) > 1) = false ∧ clsB n a z = true) ∨ (decide (c < (a : Int)) = false ∧ (c == (a : Int)) = false ∧ decide ((g : Int) > 1) = false ∧ clsB n a z = true)) := by
              rw [hcls]
              simp
              omega
            clear hc hcd hcn hg hcls HCLS
            rcases hcase with hA | hB
            · rcases hA with ⟨o1, hcb2⟩ | ⟨o1, o2, o3, hcb2⟩ | ⟨o1, o2, o3, o4, hcb2⟩ | ⟨o1, o2, o4, hcb2⟩
              all_goals
                have HNB : Hid (l2 = l + clsR n a (i + 1)) := Lib.hid (by rw [HCB.out, hcb2, HL2.out]; simp)
                clear hcb2
                obtain ⟨e1, e2⟩ := E4.out
                obtain ⟨e3, e4⟩ := E5.out
                obtain ⟨e5, e6⟩ := E6.out
                have e7 := E7.out
                have e8 := E10.out
                obtain ⟨e9, e10⟩ := E11.out
                go_upto_region 10 with fail
                obtain ⟨W9, hW9⟩ : ∃ W9 : World, W9 = wr.alloc (.cells #[.int .i64 (a : Int), .int .i64 z, .int .i64 c] 95) := ⟨_, rfl⟩
                rw [← hW9]
                have hg9 := ag hW9
                obtain ⟨b0, b1, b2, b3, b4⟩ := ak3 hW9 W9 (Grow.refl _)
                clear e1 e2 e3 e4 e5 e6 e7 e8 e9 e10 hW9
                obtain ⟨e1, e2⟩ := E9.out
                go_wp2_with (go_at_call 63; (with_reducible refine (CT.out _).mono ?_); (rintro e u11 ⟨rfl, hb11⟩))
                clear e1 e2
                go_roundg (2 * a - (i + 1))
                case' measure => have := HGK2.out; omega
                case' rel => exact ⟨i + 1, l2, cv, z1, av, xs, rfl, rfl, hi, Lib.hid rfl, HZ1, HNB, Lib.hid (HG.out.trans (hg9.trans (by (repeat (first | with_reducible exact Grow.refl _ | with_reducible refine Grow.alloc ?_ _ | with_reducible refine Grow.drew ?_ | with_reducible refine Grow.drewN ?_ _ | (with_reducible refine Grow.setCell ?_ ?hp _; (case hp => (simp; try omega))) | with_reducible refine Grow.trans ?_ (by assumption)))))), Lib.hid (HO.out.grow (hg9.trans (by (repeat (first | with_reducible exact Grow.refl _ | with_reducible refine Grow.alloc ?_ _ | with_reducible refine Grow.drew ?_ | with_reducible refine Grow.drewN ?_ _ | (with_reducible refine Grow.setCell ?_ ?hp _; (case hp => (simp; try omega))) | with_reducible refine Grow.trans ?_ (by assumption))))))⟩
            · rcases hB with ⟨o1, o2, o3, o4, hcb2⟩ | ⟨o1, o2, o4, hcb2⟩
              all_goals
                have HNB : Hid (l2 + 1 = l + clsR n a (i + 1)) := Lib.hid (by rw [HCB.out, hcb2, HL2.out, if_pos rfl]; omega)
                have hl2b : l2 + 1 ≤ 1000000 := by
                  have h5 := clsR_le n a i
                  have := HL2.out; omega
                clear hcb2
                obtain ⟨e1, e2⟩ := E4.out
                obtain ⟨e3, e4⟩ := E5.out
                obtain ⟨e5, e6⟩ := E6.out
                have e7 := E7.out
                have e8 := E10.out
                obtain ⟨e9, e10⟩ := E11.out
                go_upto_region 10 with fail
                obtain ⟨W9, hW9⟩ : ∃ W9 : World, W9 = wr.alloc (.cells #[.int .i64 (a : Int), .int .i64 z, .int .i64 c] 95) := ⟨_, rfl⟩
                rw [← hW9]
                have hg9 := ag hW9
                have K9 := Lib.hid (ak3 hW9)
                obtain ⟨b0, b1, b2, b3, b4⟩ := K9.out W9 (Grow.refl _)
                clear e1 e2 e3 e4 e5 e6 e7 e8 e9 e10 hW9
                have jir := HIR.out
                have ji0 := HI0.out
                have ji1 := HI1.out
                have ji2 := HI2.out
                go_wp2_with (first
                  | (go_at_call 63; (with_reducible refine (CT.out _).mono ?_); (rintro e u11 ⟨rfl, hb11⟩; obtain ⟨d0, d1, d2, d3, d4⟩ := K9.out u11 (by (repeat (first | with_reducible exact Grow.refl _ | with_reducible refine Grow.alloc ?_ _ | with_reducible refine Grow.drew ?_ | with_reducible refine Grow.drewN ?_ _ | (with_reducible refine Grow.setCell ?_ ?hp _; (case hp => (simp; try omega))) | with_reducible refine Grow.trans ?_ (by assumption)))); have HG11 := Lib.hid (hg9.trans hb11); clear hb11))
                  | (at_builtin; go_loud (refine wpList_append_g _ rfl _ _ 61 rfl 95 ir _ 3 24 Tryz.underlying61 jir ji0 ji1 ji2 rfl (by decide) qf_zero_nu (by decide) w.heap.size _ l2 xs rfl (HO.out.grow (HG11.out.trans (by (repeat (first | with_reducible exact Grow.refl _ | with_reducible refine Grow.alloc ?_ _ | with_reducible refine Grow.drew ?_ | with_reducible refine Grow.drewN ?_ _ | (with_reducible refine Grow.setCell ?_ ?hp _; (case hp => (simp; try omega))) | with_reducible refine Grow.trans ?_ (by assumption)))))) ⟨u11.heap.size, 0, none⟩ 1 [.int .i64 (a : Int), .int .i64 z, .int .i64 c] rfl rfl (qf_news u11 (a : Int) z c 95) (qf_one _ _ _) (qf_nu _ _ _) hl2b (Nat.le_trans (HG.out.trans HG11.out).size (by simp)) ?_)))
                intro v7 w7 hown7 hb7
                obtain ⟨a7, c7, hv7⟩ := hown7.form
                subst hv7
                have hga : Grow wr (u11.alloc (.cells #[.int .i64 (a : Int), .int .i64 z, .int .i64 c] 95)) := HG11.out.trans (by (repeat (first | with_reducible exact Grow.refl _ | with_reducible refine Grow.alloc ?_ _ | with_reducible refine Grow.drew ?_ | with_reducible refine Grow.drewN ?_ _ | (with_reducible refine Grow.setCell ?_ ?hp _; (case hp => (simp; try omega))) | with_reducible refine Grow.trans ?_ (by assumption))))
                have HGL := Lib.hid ((((HG.out.trans hga).but _).trans hb7).asGrow (fun b hb => hb))
                have HOL := Lib.hid hown7
                clear hga hb7 hown7 jir ji0 ji1 ji2 d0 d1 d2 d3 d4 b0 b1 b2 b3 b4
                obtain ⟨e1, e2⟩ := E9.out
                go_wp2_with fail
                clear e1 e2
                go_roundg (2 * a - (i + 1))
                case' measure => have := HGK2.out; omega
                case' rel => exact ⟨i + 1, l2 + 1, c7, z1, a7, _, rfl, rfl, hi, Lib.hid rfl, HZ1, HNB, HGL, HOL⟩
          · have hmne : (m != 0) = true := by simp; exact hm0
            have HNB : Hid (l2 = l + clsR n a (i + 1)) := Lib.hid (by
              have h5 : clsB n a z = false := by unfold clsB; rw [← HM.out]; simp [hm0]
              rw [HCB.out, h5, HL2.out]; simp)
            clear hm0
            obtain ⟨e1, e2⟩ := E4.out
            obtain ⟨e3, e4⟩ := E5.out
            obtain ⟨e5, e6⟩ := E6.out
            have e7 := E7.out
            obtain ⟨e8, e9⟩ := E8.out
            obtain ⟨e10, e11⟩ := E9.out
            go_wp2_with fail
            clear e1 e2 e3 e4 e5 e6 e7 e8 e9 e10 e11
            go_roundg (2 * a - (i + 1))
            case measure => have := HGK2.out; omega
            case rel => exact ⟨i + 1, l2, cv, z1, av, xs, rfl, rfl, hi, Lib.hid rfl, HZ1, HNB, HG, HO⟩
end Go.Proofs.YtbpkfcohbefphaaGreatDoor
namespace Go.Proofs.YtbpkfcohbefphaaGreatDoor
/-- A fraction with a small numerator and a small denominator. -/
def Sm (x : Rat) (a b : Nat) : Prop := x.num.natAbs ≤ a ∧ x.den ≤ b
theorem Sm.mono {x : Rat} {a b a' b' : Nat} (h : Sm x a b) (ha : a ≤ a') (hb : b ≤ b') : Sm x a' b' := ⟨Nat.le_trans h.1 ha, Nat.le_trans h.2 hb⟩
theorem sm_mk (p : Int) (q : Nat) (hq : 0 < q) : Sm (mkRat p q) p.natAbs q := by
  have hr := Rat.num_mkRat p q
  have hd := Rat.den_mkRat p q
  have hne : q ≠ 0 := by omega
  rw [if_neg hne] at hr hd
  constructor
  · rw [hr, Int.natAbs_ediv_of_dvd (Int.natAbs_dvd_natAbs.1 (by simpa using Nat.gcd_dvd_right _ _))]
    exact Nat.div_le_self _ _
  · rw [hd]
    exact Nat.div_le_self _ _
theorem sm_div (p : Int) (q : Nat) (hq : 0 < q) : Sm ((p : Rat) / (q : Rat)) p.natAbs q := by
  rw [← Rat.mkRat_eq_div]; exact sm_mk p q hq
theorem sm_int (z : Int) : Sm (z : Rat) z.natAbs 1 := ⟨by simp, by simp⟩
theorem Sm.mul {x y : Rat} {a b c d : Nat} (h : Sm x a b) (h' : Sm y c d) : Sm (x * y) (a * c) (b * d) := by
  rw [Rat.mul_def']
  refine (sm_mk _ _ (Nat.mul_pos x.den_pos y.den_pos)).mono ?_ (Nat.mul_le_mul h.2 h'.2)
  rw [Int.natAbs_mul]
  exact Nat.mul_le_mul h.1 h'.1
theorem Sm.add {x y : Rat} {a b c d : Nat} (h : Sm x a b) (h' : Sm y c d) : Sm (x + y) (a * d + c * b) (b * d) := by
  rw [Rat.add_def']
  refine (sm_mk _ _ (Nat.mul_pos x.den_pos y.den_pos)).mono ?_ (Nat.mul_le_mul h.2 h'.2)
  refine Nat.le_trans (Int.natAbs_add_le _ _) (Nat.add_le_add ?_ ?_)
  · rw [Int.natAbs_mul]; exact Nat.mul_le_mul h.1 (by simpa using h'.2)
  · rw [Int.natAbs_mul]; exact Nat.mul_le_mul h'.1 (by simpa using h.2)
theorem Sm.mulB {x y : Rat} {a b c d : Nat} (h : Sm x a b) (h' : Sm y c d) (h1 : a * c < 4294967296) (h2 : b * d < 4294967296) : MulB x y := by
  constructor
  · rw [Int.natAbs_mul]; exact Nat.lt_of_le_of_lt (Nat.mul_le_mul h.1 h'.1) h1
  · rw [Int.natAbs_mul]; exact Nat.lt_of_le_of_lt (Nat.mul_le_mul (by simpa using h.2) (by simpa using h'.2)) h2
theorem Sm.addB {x y : Rat} {a b c d : Nat} (h : Sm x a b) (h' : Sm y c d) (h1 : a * d + c * b < 4294967296) (h2 : b * d < 4294967296) : AddB x y := by
  have e1 : (x.num * (y.den : Int)).natAbs ≤ a * d := by rw [Int.natAbs_mul]; exact Nat.mul_le_mul h.1 (by simpa using h'.2)
  have e2 : (y.num * (x.den : Int)).natAbs ≤ c * b := by rw [Int.natAbs_mul]; exact Nat.mul_le_mul h'.1 (by simpa using h.2)
  have e3 : ((x.den : Int) * (y.den : Int)).natAbs ≤ b * d := by rw [Int.natAbs_mul]; exact Nat.mul_le_mul (by simpa using h.2) (by simpa using h'.2)
  have e4 := Int.natAbs_add_le (x.num * (y.den : Int)) (y.num * (x.den : Int))
  exact ⟨by omega, by omega, by omega, by omega⟩
section
variable {M : Nat → Nat → Rat} {p q r D : Int}
/-- Two by four: the matrix beside the unit. -/
structure Half (M : Nat → Nat → Rat) (p q r : Int) : Prop where
  h00 : M 0 0 = p
  h01 : M 0 1 = q
  h02 : M 0 2 = 1
  h03 : M 0 3 = 0
  h10 : M 1 0 = q
  h11 : M 1 1 = r
  h12 : M 1 2 = 0
  h13 : M 1 3 = 1
theorem nat_rat {p : Int} (hp : 0 < p) : ((p.toNat : Nat) : Rat) = (p : Rat) := by rw [← Rat.intCast_natCast, Int.toNat_of_nonneg (by omega)]
theorem sm_frac (a : Int) {b : Int} (hb : 0 < b) : Sm ((a : Rat) / (b : Rat)) a.natAbs b.toNat := by
  have h := sm_div a b.toNat (by omega)
  rwa [nat_rat hb] at h
end
end Go.Proofs.YtbpkfcohbefphaaGreatDoor
namespace Go.Proofs.YtbpkfcohbefphaaGreatDoor
open Go Go.RowKit
set_option maxRecDepth 20000 in
set_option maxHeartbeats 8000000 in
theorem makeQ (y z : Int) (v1 v2 : Value) (h0 : z ≠ 0) (w : World) (h1 : IntR w v1 y) (h2 : IntR w v2 z) :
    Calls Tryz.prog 18 #[v1, v2] w fun e w' => ∃ v, e = .returned (.tuple #[v, .int .i64 0]) ∧ RatR w' v (Rat.divInt y z) ∧ Grow w w' := by
  obtain ⟨s1, a1, l1, c1, rfl⟩ := h1.form
  obtain ⟨s2, a2, l2, c2, rfl⟩ := h2.form
  have SG := Lib.hid (fun u (hu : Grow w u) => signV z _ u (h2.grow hu))
  have OV := Lib.hid (fun u (hu : Grow w u) => overV y z _ _ u (h1.grow hu) (h2.grow hu))
  have hs : (sgI z == 0) = false := by unfold sgI; split <;> (try split) <;> first | rfl | omega
  obtain ⟨sg, hsg⟩ : ∃ x, sgI z = x := ⟨_, rfl⟩
  rw [hsg] at SG hs
  clear h1 h2 hsg
  obtain ⟨W1, hW1⟩ : ∃ W1 : World, W1 = w.alloc (.cells #[.bool s1, .slice a1 l1 c1] 25) := ⟨_, rfl⟩
  obtain ⟨W2, hW2⟩ : ∃ W2 : World, W2 = W1.alloc (.cells #[.bool s2, .slice a2 l2 c2] 25) := ⟨_, rfl⟩
  obtain ⟨W3, hW3⟩ : ∃ W3 : World, W3 = W2.alloc (.cells #[.bool false, .slice none 0 0, .bool false, .slice none 0 0] 27) := ⟨_, rfl⟩
  have hg2 := ag hW2
  have hg3 := ag hW3
  have hgw : Grow w W3 := (ag hW1).trans (hg2.trans hg3)
  have hz1 : W1.heap.size = w.heap.size + 1 := by rw [hW1]; simp
  have hz2 : W2.heap.size = w.heap.size + 1 + 1 := by rw [hW2, World.size_alloc, hz1]
  have K1 := Lib.hid (fun u (hu : Grow W3 u) => ak2 hW1 u (hg2.trans (hg3.trans hu)))
  have K2 := Lib.hid (fun u (hu : Grow W3 u) => ak2 hW2 u (hg3.trans hu))
  have K3 := Lib.hid (ak4 hW3)
  have RC : Hid (RowP W3 W2.heap.size 0 1 (fun _ => none)) := Lib.hid (by rw [hW3]; exact rowp_alloc W2 _)
  rw [hz1] at K2
  rw [hz2] at K3 RC
  have HW1 := Lib.hid hW1
  have HW2 := Lib.hid hW2
  have HW3 := Lib.hid hW3
  clear hW1 hW2 hW3 hz1 hz2 hg2 hg3
  go_enter Tryz.func18, Tryz.ntmps18
  go_upto_region 1 with fail
  rw [← HW1.out, ← HW2.out, ← HW3.out]
  obtain ⟨b0, b1, b2, b3⟩ := K1.out W3 (Grow.refl _)
  obtain ⟨d0, d1, d2, d3⟩ := K2.out W3 (Grow.refl _)
  go_wp2_with (first
    | (go_at_call 21; (with_reducible refine (SG.out _ (by (repeat (first | with_reducible exact Grow.refl _ | with_reducible refine Grow.alloc ?_ _ | with_reducible refine Grow.drew ?_ | with_reducible refine Grow.drewN ?_ _ | (with_reducible refine Grow.setCell ?_ ?hp _; (case hp => (simp; try omega))) | with_reducible refine Grow.trans ?_ (by assumption))))).mono ?_); (rintro e u2 ⟨rfl, hb2⟩; obtain ⟨b0, b1, b2, b3⟩ := K1.out u2 (by (repeat (first | with_reducible exact Grow.refl _ | with_reducible refine Grow.alloc ?_ _ | with_reducible refine Grow.drew ?_ | with_reducible refine Grow.drewN ?_ _ | (with_reducible refine Grow.setCell ?_ ?hp _; (case hp => (simp; try omega))) | with_reducible refine Grow.trans ?_ (by assumption)))); obtain ⟨d0, d1, d2, d3⟩ := K2.out u2 (by (repeat (first | with_reducible exact Grow.refl _ | with_reducible refine Grow.alloc ?_ _ | with_reducible refine Grow.drew ?_ | with_reducible refine Grow.drewN ?_ _ | (with_reducible refine Grow.setCell ?_ ?hp _; (case hp => (simp; try omega))) | with_reducible refine Grow.trans ?_ (by assumption))))))
    | (go_at_call 26; (with_reducible refine (OV.out _ (by (repeat (first | with_reducible exact Grow.refl _ | with_reducible refine Grow.alloc ?_ _ | with_reducible refine Grow.drew ?_ | with_reducible refine Grow.drewN ?_ _ | (with_reducible refine Grow.setCell ?_ ?hp _; (case hp => (simp; try omega))) | with_reducible refine Grow.trans ?_ (by assumption))))).mono ?_); (rintro e u7 ⟨v7, rfl, hv7, hb7⟩; obtain ⟨s7, a7, l7, c7, t7, b7, k7, e7, rfl⟩ := hv7.form; have HV7 := Lib.hid hv7; clear hv7; obtain ⟨q0, q1, q2, q3, qf, qz⟩ := K3.out u7 (by (repeat (first | with_reducible exact Grow.refl _ | with_reducible refine Grow.alloc ?_ _ | with_reducible refine Grow.drew ?_ | with_reducible refine Grow.drewN ?_ _ | (with_reducible refine Grow.setCell ?_ ?hp _; (case hp => (simp; try omega))) | with_reducible refine Grow.trans ?_ (by assumption)))))))
  obtain ⟨h1, h2⟩ := rescell (w := w) (RC.out.grow (show Grow W3 u7 by (repeat (first | with_reducible exact Grow.refl _ | with_reducible refine Grow.alloc ?_ _ | with_reducible refine Grow.drew ?_ | with_reducible refine Grow.drewN ?_ _ | (with_reducible refine Grow.setCell ?_ ?hp _; (case hp => (simp; try omega))) | with_reducible refine Grow.trans ?_ (by assumption))))) (by omega) (hgw.trans (by (repeat (first | with_reducible exact Grow.refl _ | with_reducible refine Grow.alloc ?_ _ | with_reducible refine Grow.drew ?_ | with_reducible refine Grow.drewN ?_ _ | (with_reducible refine Grow.setCell ?_ ?hp _; (case hp => (simp; try omega))) | with_reducible refine Grow.trans ?_ (by assumption))))) HV7.out
  exact bodyPost_ret (v := .tuple #[.agg #[.bool s7, .slice a7 l7 c7, .bool t7, .slice b7 k7 e7], .int .i64 0]) (by rw [results_cell_tmp rfl]; go_simp) rfl ⟨_, rfl, h1, h2⟩
set_option maxRecDepth 20000 in
set_option maxHeartbeats 8000000 in
theorem weightedHQ (n : Nat) (d : Int) (hd : d = -(n : Int)) (h1 : 1 ≤ n) (h2 : n ≤ 4000) (hp : posB n = true) (w : World) :
    Calls Tryz.prog 12 #[.int .i64 d] w fun e w' => ∃ v, e = .returned (.tuple #[v, .int .i64 0]) ∧ RatR w' v ((((clsN n : Nat) : Int) : Rat) / (((unN n : Nat) : Int) : Rat)) ∧ Grow w w' := by
  have PO := Lib.hid (fun u => possQ n d hd h1 h2 u)
  have CL := Lib.hid (fun u => classesQ n d hd h1 h2 u)
  have UN := Lib.hid (fun u => unitsHQ n d hd u)
  rw [if_pos hp] at PO
  obtain ⟨c, hc⟩ : ∃ c, clsN n = c := ⟨_, rfl⟩
  have hcb : c ≤ 1332 := by rw [← hc]; exact clsN_le h2
  obtain ⟨q, hq⟩ : ∃ q, unN n = q := ⟨_, rfl⟩
  have hq0 : 0 < q := by rw [← hq]; exact unN_pos n
  have hq3 : q ≤ 3 := by rw [← hq]; exact unN_le n
  rw [hc] at CL ⊢
  rw [hq] at UN ⊢
  obtain ⟨q2, hq2⟩ : ∃ x, 2 * (q : Int) = x := ⟨_, rfl⟩
  rw [hq2] at UN
  have E1 : Hid (Int.tdiv q2 2 = (q : Int)) := Lib.hid (by rw [← hq2, Int.tdiv_eq_ediv_of_nonneg (by omega)]; omega)
  have E2 := Lib.hid (w64n (n := (q : Int)) (by omega))
  have O1 := Lib.hid (fun u => ofV (c : Int) (by omega) u)
  have O2 := Lib.hid (fun u => ofV (q : Int) (by omega) u)
  have MK := Lib.hid (fun (u : World) (v1 v2 : Value) (h1 : IntR u v1 (c : Int)) (h2 : IntR u v2 (q : Int)) => makeQ (c : Int) (q : Int) v1 v2 (by omega) u h1 h2)
  rw [Rat.divInt_eq_div] at MK
  clear hd hp hc hq hq2
  obtain ⟨W1, hW1⟩ : ∃ W1 : World, W1 = w.alloc (.cells #[.bool false, .slice none 0 0, .bool false, .slice none 0 0] 27) := ⟨_, rfl⟩
  have hg1 := ag hW1
  have K1 := Lib.hid (ak4 hW1)
  have RC : Hid (RowP W1 w.heap.size 0 1 (fun _ => none)) := Lib.hid (by rw [hW1]; exact rowp_alloc w _)
  have HW1 := Lib.hid hW1
  clear hW1
  go_enter Tryz.func12, Tryz.ntmps12
  go_upto_region 1 with fail
  rw [← HW1.out]
  go_upto_region 4 with (go_at_call 36; (with_reducible refine (PO.out _).mono ?_); (rintro e u2 ⟨rfl, rfl⟩))
  have e1 := E1.out
  obtain ⟨e2, e3⟩ := E2.out
  go_wp2_with (first
    | (go_at_call 37; (with_reducible refine (CL.out _).mono ?_); (rintro e u3 ⟨av, cv, rfl, hb3⟩))
    | (go_at_call 38; (with_reducible refine (UN.out _).mono ?_); (rintro e u2 ⟨rfl, rfl⟩))
    | (go_at_call 19; (with_reducible refine (O1.out _).mono ?_); (rintro e u4 ⟨v4, rfl, hv4, hb4⟩; obtain ⟨s4, a4, l4, c4, rfl⟩ := hv4.form; have HV4 := Lib.hid hv4; clear hv4))
    | (go_at_call 19; (with_reducible refine (O2.out _).mono ?_); (rintro e u5 ⟨v5, rfl, hv5, hb5⟩; obtain ⟨s5, a5, l5, c5, rfl⟩ := hv5.form; have HV5 := Lib.hid hv5; clear hv5))
    | (go_at_call 18; (with_reducible refine (MK.out _ _ _ (HV4.out.grow (by (repeat (first | with_reducible exact Grow.refl _ | with_reducible refine Grow.alloc ?_ _ | with_reducible refine Grow.drew ?_ | with_reducible refine Grow.drewN ?_ _ | (with_reducible refine Grow.setCell ?_ ?hp _; (case hp => (simp; try omega))) | with_reducible refine Grow.trans ?_ (by assumption))))) HV5.out).mono ?_); (rintro e u7 ⟨v7, rfl, hv7, hb7⟩; obtain ⟨s7, a7, l7, c7, t7, b7, k7, e7, rfl⟩ := hv7.form; have HV7 := Lib.hid hv7; clear hv7; obtain ⟨q0, q1, q2, q3, qf, qz⟩ := K1.out u7 (by (repeat (first | with_reducible exact Grow.refl _ | with_reducible refine Grow.alloc ?_ _ | with_reducible refine Grow.drew ?_ | with_reducible refine Grow.drewN ?_ _ | (with_reducible refine Grow.setCell ?_ ?hp _; (case hp => (simp; try omega))) | with_reducible refine Grow.trans ?_ (by assumption)))))))
  obtain ⟨h1, h2⟩ := rescell (w := w) (RC.out.grow (show Grow W1 u7 by (repeat (first | with_reducible exact Grow.refl _ | with_reducible refine Grow.alloc ?_ _ | with_reducible refine Grow.drew ?_ | with_reducible refine Grow.drewN ?_ _ | (with_reducible refine Grow.setCell ?_ ?hp _; (case hp => (simp; try omega))) | with_reducible refine Grow.trans ?_ (by assumption))))) (Nat.le_refl _) (hg1.trans (by (repeat (first | with_reducible exact Grow.refl _ | with_reducible refine Grow.alloc ?_ _ | with_reducible refine Grow.drew ?_ | with_reducible refine Grow.drewN ?_ _ | (with_reducible refine Grow.setCell ?_ ?hp _; (case hp => (simp; try omega))) | with_reducible refine Grow.trans ?_ (by assumption))))) HV7.out
  exact bodyPost_ret (v := .tuple #[.agg #[.bool s7, .slice a7 l7 c7, .bool t7, .slice b7 k7 e7], .int .i64 0]) (by rw [results_cell_tmp rfl]; go_simp) rfl ⟨_, rfl, h1, h2⟩
set_option maxRecDepth 20000 in
set_option maxHeartbeats 8000000 in
theorem weightedHN (n : Nat) (d : Int) (hd : d = -(n : Int)) (h1 : 1 ≤ n) (h2 : n ≤ 4000) (hp : posB n = false) (w : World) :
    Calls Tryz.prog 12 #[.int .i64 d] w fun e w' => e = .returned (.tuple #[.agg #[.bool false, .slice none 0 0, .bool false, .slice none 0 0], .int .i64 15]) ∧ Grow w w' := by
  have PO := Lib.hid (fun u => possQ n d hd h1 h2 u)
  rw [hp, if_neg (by decide)] at PO
  clear hd hp
  obtain ⟨W1, hW1⟩ : ∃ W1 : World, W1 = w.alloc (.cells #[.bool false, .slice none 0 0, .bool false, .slice none 0 0] 27) := ⟨_, rfl⟩
  have hg1 := ag hW1
  have K1 := Lib.hid (ak4 hW1)
  have HW1 := Lib.hid hW1
  clear hW1
  go_enter Tryz.func12, Tryz.ntmps12
  go_upto_region 1 with fail
  rw [← HW1.out]
  obtain ⟨q0, q1, q2, q3, qf, qz⟩ := K1.out W1 (Grow.refl _)
  go_wp2_with (go_at_call 36; (with_reducible refine (PO.out _).mono ?_); (rintro e u2 ⟨rfl, rfl⟩))
  exact bodyPost_ret (v := .tuple #[.agg #[.bool false, .slice none 0 0, .bool false, .slice none 0 0], .int .i64 15]) (by rw [results_cell_tmp rfl]; go_simp) rfl ⟨rfl, by have h := hg1; (repeat (first | with_reducible exact Grow.refl _ | with_reducible refine Grow.alloc ?_ _ | with_reducible refine Grow.drew ?_ | with_reducible refine Grow.drewN ?_ _ | (with_reducible refine Grow.setCell ?_ ?hp _; (case hp => (simp; try omega))) | with_reducible refine Grow.trans ?_ (by assumption)))⟩
end Go.Proofs.YtbpkfcohbefphaaGreatDoor
