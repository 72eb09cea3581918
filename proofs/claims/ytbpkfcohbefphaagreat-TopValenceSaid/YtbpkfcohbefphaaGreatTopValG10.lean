/- Lemmas, plain laws and walks that the statement LwValence leans on (texts SeB, SeC, RaZ, PrT, PrM, FaA, TwD, TwE, FaB, DvA), conditions as each theorem says. -/
import Derived.Test.YtbpkfcohbefphaaGreatTopValG01
import Derived.Test.YtbpkfcohbefphaaGreatTopValG07
import Derived.Test.YtbpkfcohbefphaaGreatTopValG08
import Derived.Test.YtbpkfcohbefphaaGreatTopValG09

namespace Go.Proofs.YtbpkfcohbefphaaGreat
open Go Go.RowKit
theorem made_nu (z : Array Value) (hz : ∀ u ∈ z.toList, NU u) (h0 : 0 < z.size) (k : Nat) : ∀ u, u ∈ (madeCells z k).toList → NU u := by
  intro u hu
  simp only [madeCells, Array.toList_map, List.mem_map] at hu
  obtain ⟨i, -, rfl⟩ := hu
  have hi : i % z.size < z.size := Nat.mod_lt _ h0
  rw [getElem!_pos z (i % z.size) hi]
  exact hz _ (by simp)
theorem OwnG.make {w : World} {base size cap : Nat} {t : TypeId} {z : Array Value} (hb : base ≤ w.heap.size) (hc : cap ≤ maxLen) (hz : ∀ u ∈ z.toList, NU u) (h0 : 0 < z.size) :
    OwnG (w.alloc (.cells (madeCells z (cap * size)) t)) base t size (.slice (some ⟨w.heap.size, 0, none⟩) 0 cap) 0 [] :=
  ⟨by simp, .inr ⟨w.heap.size, cap, _, rfl, hb, by show (Array.push w.heap _)[w.heap.size]? = _; simp, Nat.zero_le _, hc, size_madeCells _ _, by simp, made_nu z hz h0 _⟩⟩
theorem OwnG.ge {w : World} {base g n c size : Nat} {t : TypeId} {xs : List Value} (h : OwnG w base t size (.slice (some ⟨g, 0, none⟩) n c) n xs) : base ≤ g := by
  rcases h.2 with ⟨hv, -⟩ | ⟨g', cap, cur, hv, hb, -⟩
  · simp at hv
  · simp only [Value.slice.injEq, Option.some.injEq, Addr.mk.injEq] at hv
    omega
/-- 'make([]T, 0, n)': the world stands plain. -/
theorem wpList_make_g {P : Program} (w : World) {ops : Array Oper} {rest : List Oper} {o : Oper} {a : Act} {Q : Exit → Act → World → Prop}
    (hg : o.guard = none) (l c : Operand) (t : TypeId) (hop : o.op = Op.makeSlice t l c)
    (e : TypeId) (i : TypeInfo) (z : Value) (size bytes : Nat) (h1 : P.underlying t = some (.slice e)) (h2 : P.info? e = some i) (h3 : i.zero = some z) (h4 : i.size = size) (h5 : i.bytes = bytes) (h6 : bytes ≤ 1000) (h7 : ∀ u ∈ z.cells.toList, NU u) (h8 : 0 < z.cells.size)
    (kl kc : IntKind) (C : Int) (n : Nat) (hl : a.eval l = .int kl 0) (hc : a.eval c = .int kc C) (hC : C = (n : Int)) (hn : n ≤ 1000000)
    (hK : ∀ w', OwnG w' w.heap.size e size (.slice (some ⟨w.heap.size, 0, none⟩) 0 n) 0 [] → Grow w w' → w.heap.size < w'.heap.size → wpList P ops Q rest (a.put o.dst (.slice (some ⟨w.heap.size, 0, none⟩) 0 n)) w') :
    wpList P ops Q (o :: rest) a w := by
  refine wpList_plain hg fun K hK' => ?_
  have hb : (i.bytes : Int) * (n : Int) ≤ 281474976710656 := by
    have h9 : i.bytes * n ≤ 1000 * 1000000 := Nat.mul_le_mul (by omega) hn
    have h10 : ((i.bytes * n : Nat) : Int) ≤ 281474976710656 := by omega
    rwa [Int.natCast_mul] at h10
  have hrun := run_make (P := P) w t e i z h1 h2 h3 kl kc 0 n (Int.le_refl _) (by omega) hb (by omega)
  simp only [Int.toNat_zero, Int.toNat_natCast] at hrun
  subst hC
  unfold Oper.wp
  simp [execOp, hop, hl, hc, hrun, Result.andThen]
  refine hK' _ _ (hK _ ?_ ((Grow.refl w).alloc _) (by simp))
  rw [h4]
  exact OwnG.make (Nat.le_refl _) (by unfold maxLen; omega) h7 h8
end Go.Proofs.YtbpkfcohbefphaaGreat
namespace Go.Proofs.YtbpkfcohbefphaaGreat
open Go Go.RowKit
set_option maxRecDepth 20000 in
set_option maxHeartbeats 8000000 in
theorem sbuild1Q (n B cB : Nat) (r : Nat → Rat) (hn : n ≤ 900) (hcB : n ≤ cB) (h0 : 0 < n → r 0 ≠ 0) (w : World) (hA : RowQ w B 0 n r) :
    Calls Tryz.prog 104 #[.int .i64 1, .slice (some ⟨B, 0, none⟩) n cB] w fun e w' =>
      ∃ B' c', e = .returned (.tuple #[.agg #[.int .i64 1, .slice (some ⟨B', 0, none⟩) n c'], .int .i64 0]) ∧ RowQ w' B' 0 n r ∧ Grow w w' ∧ w.heap.size ≤ B' := by
  obtain ⟨ir, hir, irz0, irz1, irz2⟩ := info_parts infoRat
  have HA := Lib.hid hA
  have hlA := hA.lt
  have SG := Lib.hid (fun (hp : 0 < n) (u : World) (v : Value) (hv : RatR u v (r 0)) => signQ (r 0) v u hv)
  have H0 := Lib.hid h0
  clear hA h0
  obtain ⟨W1, hW1⟩ : ∃ W1 : World, W1 = w.alloc (.cells #[.int .i64 0, .slice none 0 0] 25) := ⟨_, rfl⟩
  have hg1 := ag hW1
  have K1 := Lib.hid (ak2 hW1)
  have HZ1 : Hid (W1.heap.size = w.heap.size + 1) := Lib.hid (by rw [hW1]; simp)
  have HW1 := Lib.hid hW1
  clear hW1
  have yn := Lib.hid (w64n (n := (n : Int)) (by omega))
  have y1 : min (n : Int) 999 = (n : Int) := by omega
  have y2 : (0 : Int) ≤ (n : Int) := by omega
  have y3 : (n : Int) ≤ (cB : Int) := by omega
  go_enter Tryz.func104, Tryz.ntmps104
  go_upto_region 1 with fail
  rw [← HW1.out]
  go_upto_region 5 with fail
  clear y1
  go_loopg [6] 0 (fun gk t6 wr => t6 = .int .i64 0 ∧ Hid (Grow W1 wr))
  case atStart => exact ⟨rfl, Lib.hid (Grow.refl _)⟩
  case round =>
    obtain ⟨rfl, HG⟩ := hrel
    obtain ⟨u5, hu5⟩ : ∃ x, x = wr := ⟨wr, rfl⟩
    subst hu5
    rcases Nat.lt_or_ge 0 n with hn0 | hn0
    case' inl =>
      obtain ⟨s2, a2, l2, c2, t2, b2', k2, e2, ⟨p0, p1, p2, p3⟩, hvb⟩ := RowQ.at4 (RowP.grow HA.out (hg1.trans HG.out)) hn0
      rw [Nat.zero_mul, Nat.add_zero] at p0 p1 p2 p3
      have HVB := Lib.hid hvb
      have hz0 : (0 : Int) < (n : Int) := by omega
      have hsg : (sgI (r 0).num == 0) = false := by rw [sgI_num]; simpa using H0.out hn0
      obtain ⟨sg, hsg2⟩ : ∃ x, sgI (r 0).num = x := ⟨_, rfl⟩
      have SG2 := Lib.hid (SG.out hn0)
      rw [hsg2] at hsg SG2
      clear hvb hsg2 SG
      go_upto_region 10 with (go_at_call 22; (with_reducible refine (SG2.out _ _ HVB.out).mono ?_); (rintro e u7 ⟨rfl, hb7⟩; have HG7 := Lib.hid (HG.out.trans hb7); clear hb7))
      clear p0 p1 p2 p3 hsg hz0 SG2 HVB hn0
    case' inr =>
      have hz0 : decide ((0 : Int) < (n : Int)) = false := by simp; omega
      have hz1 : ¬ (0 < n) := by omega
      go_upto_region 10 with fail
      clear hz0 hz1 hn0 SG
      have HG7 := HG
      obtain ⟨u7, hu7⟩ : ∃ x, x = u5 := ⟨u5, rfl⟩
      subst hu7
    all_goals
      clear HG
      obtain ⟨yn1, yn2⟩ := yn.out
      go_wp2_with (at_make; refine wpList_make_g _ rfl _ _ 23 rfl 36 ir _ 4 64 Tryz.underlying23 hir irz0 irz1 irz2 (by decide) rat_zero_nu (by decide) .i64 .i64 (n : Int) n rfl rfl rfl (by omega) ?_)
      intro w8 hown8 hg8 hz8
      have HO8 := Lib.hid hown8
      have HG8 := Lib.hid hg8
      have hz7 : w.heap.size < u7.heap.size := by have h1 := HG7.out.size; have h2 := HZ1.out; omega
      clear hown8 hg8 hz8 yn1 yn2
      go_wp2_with fail
      go_loopg [7, 48] n (fun gk t7 t48 wr => ∃ (j cv g : Nat) (xs : List Value), t7 = .slice (some ⟨g, 0, none⟩) j cv ∧ t48 = .int .i64 (j : Int) ∧ j ≤ n ∧ Hid (gk = n - j) ∧ Hid (Grow u7 wr) ∧ Hid (OwnG wr u7.heap.size 36 4 (.slice (some ⟨g, 0, none⟩) j cv) j xs) ∧ Hid (ListR wr xs j r))
      case' atStart => exact ⟨0, n, u7.heap.size, [], rfl, rfl, Nat.zero_le _, Lib.hid rfl, HG8, HO8, Lib.hid (ListR.nil _ _)⟩
      case' round =>
        clear HG8 HO8
        obtain ⟨j, cv, g, xs, rfl, rfl, hj2, HGK, HG, HO, HX⟩ := hrel
        by_cases hjn : j = n
        · have y1 : decide ((j : Int) < (n : Int)) = false := by simp; omega
          subst hjn
          obtain ⟨q0, q1, q2, q3⟩ := K1.out wr (HG7.out.trans HG.out)
          obtain ⟨hb, hgF⟩ := ser_cell (Nat.le_refl _) q3 q0 q1 (fun x => by simp) (fun x => by simp) (hg1.trans (HG7.out.trans HG.out)) (.int .i64 1) (.slice (some ⟨g, 0, none⟩) j cv) (fun x => by simp)
          have HB := Lib.hid hb
          have HGF := Lib.hid hgF
          clear hb hgF
          go_wp2_with fail
          exact bodyPost_ret (v := .tuple #[.agg #[.int .i64 1, .slice (some ⟨g, 0, none⟩) j cv], .int .i64 0]) (by rw [results_cell_tmp rfl]; go_simp) rfl ⟨g, cv, rfl, own_rowq (HO.out.but HB.out (fun b hb e => by omega)).own (HX.out.but HB.out), HGF.out, by have := HO.out.ge; omega⟩
        · have hj : j < n := by omega
          have y0 : (0 : Int) ≤ (j : Int) := by omega
          have y1 : (j : Int) < (n : Int) := by omega
          obtain ⟨s3, a3, l3, c3, t3, b3', k3, e3, ⟨p0, p1, p2, p3⟩, hvb⟩ := RowQ.at4 (RowP.grow HA.out (hg1.trans (HG7.out.trans HG.out))) hj
          rw [Nat.zero_add] at p0 p1 p2 p3
          have HVB := Lib.hid hvb
          have NM := Lib.hid (fun (u : World) (v : Value) (hv : RatR u v (r j)) => normalQ (r j) v u hv)
          clear hvb
          go_upto_region 14 with fail
          obtain ⟨W5, hW5⟩ : ∃ W5 : World, W5 = wr.alloc (.cells #[.bool s3, .slice a3 l3 c3, .bool t3, .slice b3' k3 e3] 36) := ⟨_, rfl⟩
          have hg5 := ag hW5
          obtain ⟨d0, d1, d2, d3, d4, d5⟩ := ak4 hW5 W5 (Grow.refl _)
          rw [← hW5]
          have HW5 := Lib.hid hW5
          clear p0 p1 p2 p3 hW5
          go_wp2_with (first
            | (go_at_call 31; (with_reducible refine (NM.out _ _ (HVB.out.grow hg5)).mono ?_); (rintro e u6 ⟨v6, rfl, hv6, hb6⟩; obtain ⟨s6, a6, l6, c6, t6, b6, k6, e6, rfl⟩ := hv6.form; have HV6 := Lib.hid hv6; have HG6 := Lib.hid (hg5.trans hb6); clear hv6 hb6))
            | (at_builtin; go_loud (refine wpList_append_g _ rfl _ _ 23 rfl 36 ir _ 4 64 Tryz.underlying23 hir irz0 irz1 irz2 rfl (by decide) rat_zero_nu (by decide) u7.heap.size _ j xs rfl (HO.out.grow (HG6.out.trans (by (repeat (first | with_reducible exact Grow.refl _ | with_reducible refine Grow.alloc ?_ _ | with_reducible refine Grow.drew ?_ | with_reducible refine Grow.drewN ?_ _ | (with_reducible refine Grow.setCell ?_ ?hp _; (case hp => (simp; try omega))) | with_reducible refine Grow.trans ?_ (by assumption)))))) ⟨u6.heap.size, 0, none⟩ 1 [.bool s6, .slice a6 l6 c6, .bool t6, .slice b6 k6 e6] rfl rfl (rat_news u6 s6 a6 l6 c6 t6 b6 k6 e6 36) (rat_one s6 a6 l6 c6 t6 b6 k6 e6) (rat_nu s6 a6 l6 c6 t6 b6 k6 e6) (by omega) (Nat.le_trans (HG.out.trans HG6.out).size (by simp)) ?_)))
          intro v7 w7 hown7 hb7
          obtain ⟨g7, c7, hv7, hg7a, hg7b⟩ := own_slice hown7.own (by omega)
          subst hv7
          have hga : Grow wr (u6.alloc (.cells #[.bool s6, .slice a6 l6 c6, .bool t6, .slice b6 k6 e6] 36)) := HG6.out.trans (by (repeat (first | with_reducible exact Grow.refl _ | with_reducible refine Grow.alloc ?_ _ | with_reducible refine Grow.drew ?_ | with_reducible refine Grow.drewN ?_ _ | (with_reducible refine Grow.setCell ?_ ?hp _; (case hp => (simp; try omega))) | with_reducible refine Grow.trans ?_ (by assumption))))
          have hx7 := (HX.out.grow hga).but hb7
          have hl7 := ((listr_one HV6.out).grow ((Grow.refl u6).alloc (.cells #[.bool s6, .slice a6 l6 c6, .bool t6, .slice b6 k6 e6] 36))).but hb7
          have HXL := Lib.hid ((hx7.append hl7).cong (r' := r) (fun i hi => by
            by_cases hij : i < j
            · rw [if_pos hij]
            · rw [if_neg hij, show i = j by omega]))
          have HGL := Lib.hid ((((HG.out.trans hga).but _).trans hb7).asGrow (fun b hb => hb))
          have HOL := Lib.hid hown7
          have YI := Lib.hid (inc_wrap hj (by omega))
          clear hx7 hl7 hga hb7 hown7 hg7a hg7b hg5 d0 d1 d2 d3 d4 d5
          obtain ⟨e8, e9⟩ := YI.out
          go_wp2_with fail
          clear e8 e9
          go_roundg (n - (j + 1))
          case' measure => have := HGK.out; omega
          case' rel => exact ⟨j + 1, c7, g7, _, rfl, rfl, hj, Lib.hid rfl, HGL, HOL, HXL⟩
end Go.Proofs.YtbpkfcohbefphaaGreat
namespace Go.Proofs.YtbpkfcohbefphaaGreat
open Go Go.RowKit
theorem intR_zero (w : World) : IntR w (.agg #[.bool false, .slice none 0 0]) 0 := ⟨.slice none 0 0, by simp [sgB], .inl ⟨rfl, none, 0, rfl⟩⟩
set_option maxRecDepth 20000 in
set_option maxHeartbeats 8000000 in
theorem add0Q (y : Rat) (v2 : Value) (w : World) (h2 : RatR w v2 y) :
    Calls Tryz.prog 21 #[.agg #[.bool false, .slice none 0 0, .bool false, .slice none 0 0], v2] w fun e w' => ∃ v, e = .returned v ∧ RatR w' v y ∧ Grow w w' := by
  obtain ⟨s1, a1, l1, c1, t1, b1, k1, e1, rfl⟩ := h2.form
  have SG : Hid (∀ u, Calls Tryz.prog 56 #[.agg #[.bool false, .slice none 0 0]] u fun e w' => e = .returned (.int .i64 0) ∧ Grow u w') := Lib.hid (fun u => signV 0 _ u (intR_zero u))
  have NQ := Lib.hid (fun u hu => normalQ _ _ u (h2.grow hu))
  clear h2
  obtain ⟨W1, hW1⟩ : ∃ W1 : World, W1 = w.alloc (.cells #[.bool false, .slice none 0 0, .bool false, .slice none 0 0] 36) := ⟨_, rfl⟩
  obtain ⟨W2, hW2⟩ : ∃ W2 : World, W2 = W1.alloc (.cells #[.bool s1, .slice a1 l1 c1, .bool t1, .slice b1 k1 e1] 36) := ⟨_, rfl⟩
  obtain ⟨W3, hW3⟩ : ∃ W3 : World, W3 = W2.alloc (.cells #[.bool false, .slice none 0 0, .bool false, .slice none 0 0] 36) := ⟨_, rfl⟩
  have hz1 : W1.heap.size = w.heap.size + 1 := by rw [hW1]; simp
  have hz2 : W2.heap.size = w.heap.size + 1 + 1 := by rw [hW2]; simp [hz1]
  have hg3 : Grow w W3 := (ag hW1).trans ((ag hW2).trans (ag hW3))
  have K1 := Lib.hid (fun u (hu : Grow W3 u) => ak4 hW1 u ((ag hW2).trans ((ag hW3).trans hu)))
  have K2 := Lib.hid (fun u (hu : Grow W3 u) => ak4 hW2 u ((ag hW3).trans hu))
  have K3 := Lib.hid (ak4 hW3)
  rw [hz1] at K2
  rw [hz2] at K3
  have RC : Hid (RowP W3 (w.heap.size + 1 + 1) 0 1 (fun _ => none)) := Lib.hid (by rw [hW3, ← hz2]; exact rowp_alloc W2 _)
  have HW1 := Lib.hid hW1
  have HW2 := Lib.hid hW2
  have HW3 := Lib.hid hW3
  have HG3 := Lib.hid hg3
  clear hW1 hW2 hW3 hz1 hz2 hg3
  obtain ⟨f0, f1, f2, f3, f4, f5⟩ := K1.out W3 (Grow.refl _)
  go_enter Tryz.func21, Tryz.ntmps21
  go_upto_region 1 with fail
  rw [← HW1.out, ← HW2.out, ← HW3.out]
  go_upto_region 2 with (go_at_call 56; (with_reducible refine (SG.out _).mono ?_); (rintro e u4 ⟨rfl, hb4⟩; have HG4 := Lib.hid hb4; clear hb4))
  clear f0 f1 f2 f3 f4 f5
  obtain ⟨f0, f1, f2, f3, f4, f5⟩ := K2.out u4 HG4.out
  go_wp2_with (go_at_call 31; (with_reducible refine (NQ.out _ (HG3.out.trans HG4.out)).mono ?_); (rintro e u5 ⟨v5, rfl, hv5, hb5⟩; obtain ⟨s5, a5, l5, c5, t5, b5, k5, e5, rfl⟩ := hv5.form; have HV5 := Lib.hid hv5; have HG5 := Lib.hid (HG4.out.trans hb5); clear hv5 hb5; obtain ⟨q0, q1, q2, q3, qf, qz⟩ := K3.out u5 HG5.out))
  obtain ⟨h1, h2⟩ := rescell (w := w) (RC.out.grow HG5.out) (by omega) (HG3.out.trans HG5.out) HV5.out
  exact bodyPost_ret (v := .agg #[.bool s5, .slice a5 l5 c5, .bool t5, .slice b5 k5 e5]) (by rw [results_one rfl]; go_simp) rfl ⟨_, rfl, h1, h2⟩
end Go.Proofs.YtbpkfcohbefphaaGreat
namespace Go.Proofs.YtbpkfcohbefphaaGreat
open Go
def ptR (c : Nat → Rat) (d : Nat) : Rat := ((d : Int) : Rat) * c (d - 1)
/-- s[j] once the first d divisors are through. -/
def rS (c : Nat → Rat) : Nat → Nat → Rat
  | 0, _ => 0
  | d + 1, j => if j % (d + 1) = 0 then rS c d j + ptR c (d + 1) else rS c d j
/-- The sum for coefficient n after i steps. -/
def smR (s cf : Nat → Rat) (n : Nat) : Nat → Rat
  | 0 => ((0 : Int) : Rat)
  | i + 1 => smR s cf n i - s (i + 1) * cf (n - (i + 1))
structure PrH (m : Nat) (c cf : Nat → Rat) : Prop where
  m1 : 1 ≤ m
  m8 : m ≤ 8
  mul1 : ∀ d, 1 ≤ d → d ≤ m → MulB ((d : Int) : Rat) (c (d - 1))
  add1 : ∀ d n, 2 ≤ d → d ≤ m → n ≤ m → AddB (rS c (d - 1) n) (ptR c d)
  mul2 : ∀ n i, 1 ≤ i → i ≤ n → n ≤ m → MulB (rS c m i) (cf (n - i))
  sub2 : ∀ n i, i < n → n ≤ m → AddB (smR (rS c m) cf n i) (-(rS c m (i + 1) * cf (n - (i + 1))))
  quo2 : ∀ n, 1 ≤ n → n ≤ m → QuoB (smR (rS c m) cf n n) ((n : Int) : Rat)
  cf0 : cf 0 = ((1 : Int) : Rat)
  cfn : ∀ n, 1 ≤ n → n ≤ m → smR (rS c m) cf n n / ((n : Int) : Rat) = cf n
def cf3 (n : Nat) : Rat := if n = 0 then 1 else if n = 1 then -24 else 252
theorem prH24 : PrH 2 (fun _ => ((24 : Int) : Rat)) cf3 where
  m1 := by omega
  m8 := by omega
  mul1 := fun d h1 h2 => by
    rcases (by omega : d = 1 ∨ d = 2) with rfl | rfl <;> (unfold MulB; decide +kernel)
  add1 := fun d n h1 h2 h3 => by
    obtain rfl : d = 2 := by omega
    rcases (by omega : n = 0 ∨ n = 1 ∨ n = 2) with rfl | rfl | rfl <;> (unfold AddB; decide +kernel)
  mul2 := fun n i h1 h2 h3 => by
    rcases (by omega : (n = 1 ∧ i = 1) ∨ (n = 2 ∧ i = 1) ∨ (n = 2 ∧ i = 2)) with ⟨rfl, rfl⟩ | ⟨rfl, rfl⟩ | ⟨rfl, rfl⟩ <;> (unfold MulB; decide +kernel)
  sub2 := fun n i h1 h2 => by
    rcases (by omega : (n = 1 ∧ i = 0) ∨ (n = 2 ∧ i = 0) ∨ (n = 2 ∧ i = 1)) with ⟨rfl, rfl⟩ | ⟨rfl, rfl⟩ | ⟨rfl, rfl⟩ <;> (unfold AddB; decide +kernel)
  quo2 := fun n h1 h2 => by
    rcases (by omega : n = 1 ∨ n = 2) with rfl | rfl <;> (unfold QuoB; decide +kernel)
  cf0 := by decide +kernel
  cfn := fun n h1 h2 => by
    rcases (by omega : n = 1 ∨ n = 2) with rfl | rfl <;> decide +kernel
/-- s[j] in the midst of divisor d: the elements below n have it. -/
def rM (c : Nat → Rat) (d n : Nat) : Nat → Rat := fun j => if j < n then rS c d j else rS c (d - 1) j
theorem rM_step {c : Nat → Rat} {d n : Nat} (hd : 1 ≤ d) (hn : n % d = 0) (j : Nat) : rM c d (n + d) j = if j = n then rS c (d - 1) n + ptR c d else rM c d n j := by
  obtain ⟨e, rfl⟩ : ∃ e, d = e + 1 := ⟨d - 1, by omega⟩
  simp only [rM, Nat.add_sub_cancel]
  by_cases hj : j = n
  · subst hj
    rw [if_pos (by omega), if_pos rfl]
    show (if j % (e + 1) = 0 then _ else _) = _
    rw [if_pos hn]
  · rw [if_neg hj]
    by_cases hlt : j < n
    · rw [if_pos (by omega), if_pos hlt]
    · by_cases hl2 : j < n + (e + 1)
      · rw [if_pos hl2, if_neg hlt]
        show (if j % (e + 1) = 0 then _ else _) = _
        have : ¬ j % (e + 1) = 0 := by
          intro h
          have h1 := Nat.div_add_mod j (e + 1)
          have h2 := Nat.div_add_mod n (e + 1)
          rw [h] at h1
          rw [hn] at h2
          have h3 : (e + 1) * (n / (e + 1)) < (e + 1) * (j / (e + 1)) := by omega
          have h4 : n / (e + 1) < j / (e + 1) := Nat.lt_of_mul_lt_mul_left h3
          have h5 : (e + 1) * (n / (e + 1) + 1) ≤ (e + 1) * (j / (e + 1)) := Nat.mul_le_mul_left _ h4
          rw [Nat.mul_add] at h5
          omega
        rw [if_neg this]
      · rw [if_neg hl2, if_neg hlt]
theorem rM_end {c : Nat → Rat} {d n j : Nat} (h : j < n) : rM c d n j = rS c d j := by simp [rM, h]
theorem rM_start {c : Nat → Rat} {d j : Nat} (hd : 1 ≤ d) (h1 : 1 ≤ j) : rM c d d j = rS c (d - 1) j := by
  obtain ⟨e, rfl⟩ : ∃ e, d = e + 1 := ⟨d - 1, by omega⟩
  simp only [rM, Nat.add_sub_cancel]
  by_cases h : j < e + 1
  · rw [if_pos h]
    show (if j % (e + 1) = 0 then _ else _) = _
    rw [if_neg (by rw [Nat.mod_eq_of_lt h]; omega)]
  · rw [if_neg h]
end Go.Proofs.YtbpkfcohbefphaaGreat
namespace Go.Proofs.YtbpkfcohbefphaaGreat
open Go Go.RowKit
/-- From element k on, the m elements of block g are zero values. -/
def ZRow (u : World) (g m k : Nat) : Prop := ∀ j, k ≤ j → j < m → u.cell? ⟨g, j * 4, none⟩ = some (.bool false) ∧ u.cell? ⟨g, j * 4 + 1, none⟩ = some (.slice none 0 0) ∧ u.cell? ⟨g, j * 4 + 2, none⟩ = some (.bool false) ∧ u.cell? ⟨g, j * 4 + 3, none⟩ = some (.slice none 0 0)
theorem ZRow.grow {u u' : World} {g m k : Nat} (h : ZRow u g m k) (hg : Grow u u') (hlt : g < u.heap.size) : ZRow u' g m k := fun j h1 h2 => by
  obtain ⟨a, b, c, d⟩ := h j h1 h2
  exact ⟨(hg.cells _ _ hlt).trans a, (hg.cells _ _ hlt).trans b, (hg.cells _ _ hlt).trans c, (hg.cells _ _ hlt).trans d⟩
theorem ZRow.set {u : World} {g m k : Nat} (h : ZRow u g m k) (v1 v2 v3 v4 : Value) : ZRow (Go.Proofs.YtbpkfcohbefphaaGreat.st4 u g (k * 4) v1 v2 v3 v4) g m (k + 1) := by
  intro j h1 h2
  have far : ∀ o, o < 4 → (Go.Proofs.YtbpkfcohbefphaaGreat.st4 u g (k * 4) v1 v2 v3 v4).cell? ⟨g, j * 4 + o, none⟩ = u.cell? ⟨g, j * 4 + o, none⟩ := fun o ho => by
    simp only [Go.Proofs.YtbpkfcohbefphaaGreat.st4]
    rw [World.cell?_setCell_other _ _ _ _ (by simp; try omega), World.cell?_setCell_other _ _ _ _ (by simp; try omega), World.cell?_setCell_other _ _ _ _ (by simp; try omega), World.cell?_setCell_other _ _ _ _ (by simp; try omega)]
  obtain ⟨a, b, c, d⟩ := h j (by omega) h2
  exact ⟨(far 0 (by omega)).trans a, (far 1 (by omega)).trans b, (far 2 (by omega)).trans c, (far 3 (by omega)).trans d⟩
theorem made_rat {w : World} {base g n cap : Nat} (h : w.ownsRow base 36 4 (.slice (some ⟨g, 0, none⟩) n cap) n (madeCells #[.bool false, .slice none 0 0, .bool false, .slice none 0 0] (n * 4)).toList) : RowP w g 0 n (fun _ => none) ∧ ZRow w g n 0 := by
  obtain ⟨h1, h2, h3, h4, h5⟩ := own_cells h
  have hc : ∀ j o (v : Value), j < n → o < 4 → (#[Value.bool false, .slice none 0 0, .bool false, .slice none 0 0] : Array Value)[o]? = some v → w.cell? ⟨g, j * 4 + o, none⟩ = some v := fun j o v hj ho hv => by
    have h6 := h5 (j * 4 + o) v (by
      simp only [madeCells]
      rw [Array.toList_map, List.getElem?_map]
      have hlt : j * 4 + o < n * 4 := by omega
      rw [show (Array.range (n * 4)).toList[j * 4 + o]? = some (j * 4 + o) by simp [hlt]]
      simp only [Option.map_some]
      rw [show (j * 4 + o) % (#[Value.bool false, .slice none 0 0, .bool false, .slice none 0 0] : Array Value).size = o by show (j * 4 + o) % 4 = o; omega]
      rw [← hv]
      rcases (by omega : o = 0 ∨ o = 1 ∨ o = 2 ∨ o = 3) with rfl | rfl | rfl | rfl <;> rfl)
    exact h6
  have hz : ZRow w g n 0 := fun j _ hj => ⟨by have := hc j 0 _ hj (by omega) rfl; simpa using this, hc j 1 _ hj (by omega) rfl, hc j 2 _ hj (by omega) rfl, hc j 3 _ hj (by omega) rfl⟩
  refine ⟨⟨h1, h4, fun j hj => ?_⟩, hz⟩
  obtain ⟨a, b, c, d⟩ := hz j (by omega) hj
  exact ⟨false, none, 0, 0, false, none, 0, 0, ⟨by simpa using a, by simpa using b, by simpa using c, by simpa using d⟩, fun x hx => by cases hx⟩
end Go.Proofs.YtbpkfcohbefphaaGreat
namespace Go.Proofs.YtbpkfcohbefphaaGreat
/-- Division by p as often as it goes. -/
def dvF (p : Nat) : Nat → Nat → Nat → Nat × Nat
  | 0, n, e => (n, e)
  | f + 1, n, e => if n % p = 0 then dvF p f (n / p) (e + 1) else (n, e)
def faP (n p : Nat) : Nat := if n < p * p then n else p
/-- The pairs of primes and exponents. -/
def faL : Nat → Nat → Nat → List (Nat × Nat)
  | 0, _, _ => []
  | f + 1, n, p => if 1 < n then (if 0 < (dvF (faP n p) 10 n 0).2 then [(faP n p, (dvF (faP n p) 10 n 0).2)] else []) ++ faL f (dvF (faP n p) 10 n 0).1 (faP n p + 1) else []
def okS {σ : Type} (ok : σ → Nat → Nat → Prop) (step : σ → Nat → Nat → σ) : List (Nat × Nat) → σ → Prop
  | [], _ => True
  | x :: l, s => ok s x.1 x.2 ∧ okS ok step l (step s x.1 x.2)
def foldS {σ : Type} (step : σ → Nat → Nat → σ) : List (Nat × Nat) → σ → σ
  | [], s => s
  | x :: l, s => foldS step l (step s x.1 x.2)
def okSB {σ : Type} (ok : σ → Nat → Nat → Bool) (step : σ → Nat → Nat → σ) : List (Nat × Nat) → σ → Bool
  | [], _ => true
  | x :: l, s => ok s x.1 x.2 && okSB ok step l (step s x.1 x.2)
theorem okS_of {σ : Type} {ok : σ → Nat → Nat → Bool} {step : σ → Nat → Nat → σ} : ∀ {l : List (Nat × Nat)} {s : σ}, okSB ok step l s = true → okS (fun s p e => ok s p e = true) step l s
  | [], _, _ => trivial
  | x :: l, s, h => by
    unfold okSB at h
    rw [Bool.and_eq_true] at h
    exact ⟨h.1, okS_of h.2⟩
theorem div_lt_two {n p f : Nat} (hp : 2 ≤ p) (h : n < 2 ^ (f + 1)) : n / p < 2 ^ f := by
  refine Nat.div_lt_of_lt_mul (Nat.lt_of_lt_of_le h ?_)
  rw [Nat.pow_succ, Nat.mul_comm]
  exact Nat.mul_le_mul_right _ hp
theorem dvF_end {p f n e : Nat} (h : ¬ n % p = 0) : dvF p f n e = (n, e) := by
  cases f with
  | zero => rfl
  | succ f => unfold dvF; rw [if_neg h]
theorem dvF_go {p f n e : Nat} (hp : 2 ≤ p) (h1 : 1 ≤ n) (hf : n < 2 ^ f) (h : n % p = 0) : ∃ g, f = g + 1 ∧ dvF p f n e = dvF p g (n / p) (e + 1) ∧ 1 ≤ n / p ∧ n / p < 2 ^ g := by
  cases f with
  | zero => simp at hf; omega
  | succ g =>
    refine ⟨g, rfl, by rw [dvF, if_pos h], ?_, div_lt_two hp hf⟩
    rcases Nat.eq_zero_or_pos (n / p) with h0 | h0
    · have := Nat.div_add_mod n p
      rw [h0, h] at this; omega
    · exact h0
theorem dvF_ge {p : Nat} (hp : 2 ≤ p) : ∀ (f n e : Nat), 1 ≤ n → n < 2 ^ f → 1 ≤ (dvF p f n e).1 ∧ (dvF p f n e).1 ≤ n ∧ (dvF p f n e).2 ≤ e + f
  | f, n, e, h1, hf => by
    by_cases h : n % p = 0
    · obtain ⟨g, rfl, h2, h3, h4⟩ := dvF_go (e := e) hp h1 hf h
      obtain ⟨a, b, c⟩ := dvF_ge hp g (n / p) (e + 1) h3 h4
      rw [h2]
      exact ⟨a, Nat.le_trans b (Nat.div_le_self _ _), by omega⟩
    · rw [dvF_end h]
      exact ⟨h1, Nat.le_refl _, by omega⟩
theorem dvF_self {n : Nat} (h : 2 ≤ n) : dvF n 10 n 0 = (1, 1) := by
  rw [dvF, if_pos (Nat.mod_self n), Nat.div_self (by omega), dvF_end (by rw [Nat.mod_eq_of_lt (by omega)]; omega)]
/-- What holds at the head of the loop. -/
def FaH (k n p : Nat) : Prop := 1 ≤ n ∧ n ≤ 1000 ∧ 2 ≤ p ∧ p ≤ 1001 ∧ (1 < n → p ≤ 32 ∧ 33 ≤ p + k)
theorem FaH.start {n : Nat} (h1 : 1 ≤ n) (h2 : n ≤ 1000) : FaH 33 n 2 := ⟨h1, h2, by omega, by omega, fun _ => ⟨by omega, by omega⟩⟩
theorem faP_bd {n p : Nat} (hn : 1 < n) (hn2 : n ≤ 1000) (hp : 2 ≤ p) (hp2 : p ≤ 1001) : 2 ≤ faP n p ∧ faP n p ≤ 1001 := by
  unfold faP; split <;> omega
theorem FaH.next {k n p : Nat} (h : FaH k n p) (hn : 1 < n) : ∃ g, k = g + 1 ∧ FaH g (dvF (faP n p) 10 n 0).1 (faP n p + 1) ∧ (dvF (faP n p) 10 n 0).2 ≤ 10 ∧
    faL k n p = (if 0 < (dvF (faP n p) 10 n 0).2 then [(faP n p, (dvF (faP n p) 10 n 0).2)] else []) ++ faL g (dvF (faP n p) 10 n 0).1 (faP n p + 1) := by
  obtain ⟨h1, h2, h3, h4, h5⟩ := h
  obtain ⟨h6, h7⟩ := h5 hn
  obtain ⟨b1, b2⟩ := faP_bd hn h2 h3 h4
  obtain ⟨g, rfl⟩ : ∃ g, k = g + 1 := ⟨k - 1, by omega⟩
  obtain ⟨c1, c2, c3⟩ := dvF_ge b1 10 n 0 h1 (by omega)
  refine ⟨g, rfl, ⟨c1, by omega, by omega, ?_, ?_⟩, by omega, by rw [faL, if_pos hn]⟩
  · unfold faP; split
    · by_cases h8 : n = 1000 ∨ n < 1000 <;> omega
    · omega
  · unfold faP
    by_cases h8 : n < p * p
    · rw [if_pos h8, dvF_self (by omega)]
      intro h9; simp at h9
    · rw [if_neg h8]
      have h9 : p ≤ 31 := by
        rcases Nat.lt_or_ge 31 p with h10 | h10
        · have : 32 * 32 ≤ p * p := Nat.mul_le_mul h10 h10
          omega
        · exact h10
      intro _; omega
theorem faL_one (k p : Nat) {n : Nat} (h : ¬ 1 < n) : faL k n p = [] := by
  cases k with
  | zero => rfl
  | succ k => rw [faL, if_neg h]
end Go.Proofs.YtbpkfcohbefphaaGreat
namespace Go.Proofs.YtbpkfcohbefphaaGreat
open Go Go.RowKit
/-- Reading an own row of ints. -/
theorem OwnI.read {w : World} {base : Nat} {a : Option Addr} {n c : Nat} {xs : List Value} (h : OwnI w base (.slice a n c) n xs) (hn : 0 < n) : ∃ g, a = some ⟨g, 0, none⟩ ∧ base ≤ g ∧ g < w.heap.size ∧ ∀ (i : Nat) (x : Value), xs[i]? = some x → w.cell? ⟨g, i, none⟩ = some x := by
  obtain ⟨hl, h⟩ := h
  rcases h with ⟨-, h0⟩ | ⟨g, cap, cur, hv, hb, hg, h1, h2, h3, h4, h5⟩
  · omega
  · injection hv with e1 e2 e3
    refine ⟨g, e1, hb, (Array.getElem?_eq_some_iff.1 hg).1, fun i x hx => ?_⟩
    rw [cell_of_row w g i cur 3 (0, 0) hg]
    have hi : i < n := by
      have := (List.getElem?_eq_some_iff.1 hx).1
      omega
    rw [← h4, List.getElem?_take, if_pos hi] at hx
    rw [← hx]; simp
end Go.Proofs.YtbpkfcohbefphaaGreat
namespace Go.Proofs.YtbpkfcohbefphaaGreat
open Go Go.RowKit
theorem IntQ.but {X : Nat → Prop} {w w' : World} {B off n : Nat} {f : Nat → Int} (h : IntQ w B off n f) (hX : ¬ X B) (hg : But X w w') : IntQ w' B off n f :=
  ⟨Nat.lt_of_lt_of_le h.lt hg.size, fun i hi => (hg.cells _ _ h.lt hX).trans (h.cell i hi)⟩
theorem IntQ.cong {w : World} {B off n : Nat} {f g : Nat → Int} (h : IntQ w B off n f) (he : ∀ i, i < n → f i = g i) : IntQ w B off n g :=
  ⟨h.lt, fun i hi => by rw [← he i hi]; exact h.cell i hi⟩
theorem IntQ.set {w : World} {B off n : Nat} {f : Nat → Int} (h : IntQ w B off n f) {j : Nat} (hj : j < n) (x : Int) :
    IntQ (w.setCell ⟨B, off + j, none⟩ (.int .i64 x)) B off n (fun i => if i = j then x else f i) ∧ But (fun b => b = B) w (w.setCell ⟨B, off + j, none⟩ (.int .i64 x)) := by
  have hb : But (fun b => b = B) w (w.setCell ⟨B, off + j, none⟩ (.int .i64 x)) := (But.refl _ w).set _ (.inr rfl) (fun y => by rw [h.cell j hj]; simp)
  refine ⟨⟨Nat.lt_of_lt_of_le h.lt hb.size, fun i hi => ?_⟩, hb⟩
  by_cases e : i = j
  · subst e; rw [if_pos rfl]; exact World.cell?_setCell_same _ _ _ (h.cell i hi)
  · rw [if_neg e, World.cell?_setCell_other _ _ _ _ (by simp; try omega)]
    exact h.cell i hi
/-- What the closure needs: its captured cells and the row it counts in. -/
structure ManS (w : World) (p2 p3 p4 Mb cM prec : Nat) (h : Nat → Int) : Prop where
  c2 : w.cell? ⟨p2, 0, none⟩ = some (.int .i64 (prec : Int))
  c3 : w.cell? ⟨p3, 0, none⟩ = some (.slice (some ⟨Mb, 0, none⟩) prec cM)
  c4 : w.cell? ⟨p4, 0, none⟩ = some (.slice none 0 0)
  l2 : p2 < w.heap.size
  l3 : p3 < w.heap.size
  l4 : p4 < w.heap.size
  row : IntQ w Mb 0 prec h
  free : ∀ o, w.frozen? ⟨Mb, o, none⟩ = false
  n2 : p2 ≠ Mb
  n3 : p3 ≠ Mb
  n4 : p4 ≠ Mb
theorem ManS.but {X : Nat → Prop} {w w' : World} {p2 p3 p4 Mb cM prec : Nat} {h : Nat → Int} (H : ManS w p2 p3 p4 Mb cM prec h) (hb : But X w w') (x2 : ¬ X p2) (x3 : ¬ X p3) (x4 : ¬ X p4) (xM : ¬ X Mb) : ManS w' p2 p3 p4 Mb cM prec h :=
  ⟨(hb.cells _ _ H.l2 x2).trans H.c2, (hb.cells _ _ H.l3 x3).trans H.c3, (hb.cells _ _ H.l4 x4).trans H.c4, Nat.lt_of_lt_of_le H.l2 hb.size, Nat.lt_of_lt_of_le H.l3 hb.size, Nat.lt_of_lt_of_le H.l4 hb.size, H.row.but xM hb, fun o => (hb.frees _ _ H.row.lt).trans (H.free o), H.n2, H.n3, H.n4⟩
theorem ManS.step {w : World} {p2 p3 p4 Mb cM prec : Nat} {h : Nat → Int} (H : ManS w p2 p3 p4 Mb cM prec h) {j : Nat} (hj : j < prec) (x : Int) :
    ManS (w.setCell ⟨Mb, j, none⟩ (.int .i64 x)) p2 p3 p4 Mb cM prec (fun i => if i = j then x else h i) ∧ But (fun b => b = Mb) w (w.setCell ⟨Mb, j, none⟩ (.int .i64 x)) := by
  obtain ⟨h1, h2⟩ := H.row.set hj x
  rw [Nat.zero_add] at h1 h2
  exact ⟨⟨(h2.cells _ _ H.l2 H.n2).trans H.c2, (h2.cells _ _ H.l3 H.n3).trans H.c3, (h2.cells _ _ H.l4 H.n4).trans H.c4, Nat.lt_of_lt_of_le H.l2 h2.size, Nat.lt_of_lt_of_le H.l3 h2.size, Nat.lt_of_lt_of_le H.l4 h2.size, h1, fun o => (h2.frees _ _ H.row.lt).trans (H.free o), H.n2, H.n3, H.n4⟩, h2⟩
theorem ManS.cong {w : World} {p2 p3 p4 Mb cM prec : Nat} {h g : Nat → Int} (H : ManS w p2 p3 p4 Mb cM prec h) (he : ∀ i, i < prec → h i = g i) : ManS w p2 p3 p4 Mb cM prec g :=
  ⟨H.c2, H.c3, H.c4, H.l2, H.l3, H.l4, H.row.cong he, H.free, H.n2, H.n3, H.n4⟩
end Go.Proofs.YtbpkfcohbefphaaGreat
namespace Go.Proofs.YtbpkfcohbefphaaGreat
open Go Go.RowKit
set_option maxRecDepth 20000 in
set_option maxHeartbeats 8000000 in
theorem factorsP {σ : Type} (St : σ → World → Prop) (ok : σ → Nat → Nat → Prop) (step : σ → Nat → Nat → σ) (c1 c2 : Value)
    (CL : ∀ (s : σ) (p e : Nat) (u : World), 2 ≤ p → p ≤ 1001 → 1 ≤ e → e ≤ 10 → ok s p e → St s u → Calls Tryz.prog 86 #[.int .i64 (p : Int), .int .i64 (e : Int), c1, c2] u fun x w' => x = .returned (.tuple #[]) ∧ St (step s p e) w')
    (N : Nat) (h1 : 1 ≤ N) (h2 : N ≤ 1000) (s0 : σ) (hok : okS ok step (faL 33 N 2) s0) (w1 : World) (hM1 : St s0 w1) :
    Calls Tryz.prog 83 #[.int .i64 (N : Int), .func (.func 86) #[] #[c1, c2]] w1 fun x w' => x = .returned (.tuple #[]) ∧ St (foldS step (faL 33 N 2) s0) w' := by
  obtain ⟨R, hR⟩ : ∃ R, foldS step (faL 33 N 2) s0 = R := ⟨_, rfl⟩
  rw [hR]
  have HR := Lib.hid hR
  have HOK := Lib.hid hok
  have HM1 := Lib.hid hM1
  have HCL := Lib.hid CL
  have HF := Lib.hid (FaH.start h1 h2)
  clear hR hok hM1 CL
  go_enter Tryz.func83, Tryz.ntmps83
  go_wp2_with fail
  go_loopg [0, 4] 33 (fun k t0 t4 wr => ∃ (n p : Nat) (s : σ), t0 = .int .i64 (n : Int) ∧ t4 = .int .i64 (p : Int) ∧ Hid (FaH k n p) ∧ Hid (okS ok step (faL k n p) s) ∧ Hid (foldS step (faL k n p) s = R) ∧ Hid (St s wr))
  case atStart => exact ⟨N, 2, s0, rfl, rfl, HF, HOK, HR, HM1⟩
  case round =>
    clear HR HOK HM1 HF
    obtain ⟨n, p, s, rfl, rfl, HF, hok, hx, hM⟩ := hrel
    have hn0 : 1 ≤ n := HF.out.1
    have hn1 : n ≤ 1000 := HF.out.2.1
    have hp0 : 2 ≤ p := HF.out.2.2.1
    have hp1 : p ≤ 1001 := HF.out.2.2.2.1
    by_cases hlt : 1 < n
    · obtain ⟨g1, hgk, hF2, hE10, hL⟩ := HF.out.next hlt
      have hok2 := hok.out
      have hx2 := hx.out
      rw [hL] at hok2 hx2
      obtain ⟨P, hP⟩ : ∃ P, faP n p = P := ⟨_, rfl⟩
      have hPb := faP_bd hlt hn1 hp0 hp1
      rw [hP] at hPb hF2 hE10 hok2 hx2
      obtain ⟨M, E, hME⟩ : ∃ M E, dvF P 10 n 0 = (M, E) := ⟨_, _, rfl⟩
      rw [hME] at hF2 hE10 hok2 hx2
      simp only at hF2 hE10 hok2 hx2
      have DV := Lib.hid hME
      have HF2 := Lib.hid hF2
      have FO := Lib.hid hok2
      have FX := Lib.hid hx2
      have hltI : (1 : Int) < (n : Int) := by omega
      obtain ⟨S, hS⟩ : ∃ S : Nat, p * p = S := ⟨_, rfl⟩
      have hSb : S ≤ 1001 * 1001 := by rw [← hS]; exact Nat.mul_le_mul hp1 hp1
      have YS : Hid (IntKind.i64.wrap ((p : Int) * (p : Int)) = (S : Int) ∧ wrap64 ((p : Int) * (p : Int)) = (S : Int)) := Lib.hid (by rw [show (p : Int) * (p : Int) = (S : Int) by rw [← hS]; simp]; exact w64n (by omega))
      have hP2 := Lib.hid hP
      have hcase : (n < S ∧ P = n) ∨ (¬ n < S ∧ P = p) := by
        have h3 := hP
        unfold faP at h3
        rw [hS] at h3
        by_cases hb : n < S
        · rw [if_pos hb] at h3; exact .inl ⟨hb, h3.symm⟩
        · rw [if_neg hb] at h3; exact .inr ⟨hb, h3.symm⟩
      have HCASE := Lib.hid hcase
      clear hcase
      clear hok hx hok2 hx2 hME hL hF2 hS hP
      obtain ⟨e1, e2⟩ := YS.out
      go_upto_if 14 with fail
      clear e1 e2 hltI
      go_cut [4] (fun t4 wc => t4 = .int .i64 (P : Int) ∧ wr = wc)
      case first =>
        rcases HCASE.out with ⟨hc, hPn⟩ | ⟨hc, hPn⟩
        · have HPN := Lib.hid hPn
          clear hPn
          go_wp2_with fail
          all_goals first
            | (exfalso; omega)
            | (go_meet; exact ⟨by rw [HPN.out], rfl⟩)
        · have HPN := Lib.hid hPn
          clear hPn
          go_wp2_with fail
          all_goals first
            | (exfalso; omega)
            | (go_meet; exact ⟨by rw [HPN.out], rfl⟩)
      case rest =>
        obtain ⟨rfl, rfl⟩ := hcut
        have hPz : ¬ ((P : Int) = 0) := by omega
        have hPz2 : ¬ (P = 0) := by omega
        go_wp2_with fail
        go_loopg [0, 5] 10 (fun k t0 t5 wx => ∃ m e : Nat, t0 = .int .i64 (m : Int) ∧ t5 = .int .i64 (e : Int) ∧ 1 ≤ m ∧ m ≤ 1000 ∧ e ≤ 10 ∧ Hid (m < 2 ^ k) ∧ Hid (e + k = 10) ∧ Hid (dvF P k m e = (M, E)) ∧ Hid (St s wx))
        case atStart => exact ⟨n, 0, rfl, rfl, hn0, hn1, by omega, Lib.hid (by omega), Lib.hid rfl, DV, hM⟩
        case round =>
          clear DV hM
          obtain ⟨m, e, rfl, rfl, hm0, hm1, he10, HM2, HE10, HDV, hM⟩ := hrel
          obtain ⟨r, hr⟩ : ∃ r, m % P = r := ⟨_, rfl⟩
          obtain ⟨q, hq⟩ : ∃ q, m / P = q := ⟨_, rfl⟩
          have T1 : Hid (Int.tmod (m : Int) (P : Int) = (r : Int)) := Lib.hid (by rw [← hr, Int.natCast_emod]; exact Int.tmod_eq_emod_of_nonneg (by omega))
          have T2 : Hid (Int.tdiv (m : Int) (P : Int) = (q : Int)) := Lib.hid (by rw [← hq, Int.natCast_ediv]; exact Int.tdiv_eq_ediv_of_nonneg (by omega))
          have hrb : r ≤ 1001 := by rw [← hr]; exact Nat.le_trans (Nat.mod_le _ _) (by omega)
          have hqb : q ≤ 1000 := by rw [← hq]; exact Nat.le_trans (Nat.div_le_self _ _) hm1
          have Y1 := Lib.hid (w64n (n := (r : Int)) (by omega))
          have Y2 := Lib.hid (w64n (n := (q : Int)) (by omega))
          have HRR := Lib.hid hr
          have HQQ := Lib.hid hq
          clear hr hq
          by_cases hr0 : r = 0
          · subst hr0
            obtain ⟨g2, hgk2, d1, d2, d3⟩ := dvF_go (e := e) hPb.1 hm0 HM2.out HRR.out
            rw [HQQ.out] at d1 d2 d3
            have HV := Lib.hid (d1.symm.trans HDV.out)
            have HD2 := Lib.hid d2
            have HD3 := Lib.hid d3
            have YE := Lib.hid (inc_wrap (i := e) (n := 100) (by omega) (by omega))
            have HG2 := Lib.hid hgk2
            clear d1 d2 d3 hgk2
            have t1 := T1.out
            have t2 := T2.out
            obtain ⟨y1, y2⟩ := Y1.out
            obtain ⟨y3, y4⟩ := Y2.out
            obtain ⟨y5, y6⟩ := YE.out
            go_wp2_with fail
            clear t1 t2 y1 y2 y3 y4 y5 y6
            go_roundg g2
            case measure => have := HG2.out; omega
            case rel => exact ⟨q, e + 1, rfl, rfl, HD2.out, hqb, by have := HE10.out; have := HG2.out; omega, HD3, Lib.hid (by have := HE10.out; have := HG2.out; omega), HV, hM⟩
          · have hre : ((r : Int) == 0) = false := by simp; omega
            have hdv2 := HDV.out
            rw [dvF_end (by rw [HRR.out]; exact hr0)] at hdv2
            obtain ⟨hmM, heE⟩ := Prod.mk.inj hdv2
            subst hmM
            subst heE
            clear hdv2 hr0
            have YP := Lib.hid (inc_wrap (i := P) (n := 2000) (by omega) (by omega))
            by_cases he0 : e = 0
            · subst he0
              have hn3 : decide ((0 : Int) < ((0 : Nat) : Int)) = false := by simp
              have fo := FO.out
              have fx := FX.out
              rw [if_neg (by omega), List.nil_append] at fo fx
              have FO2 := Lib.hid fo
              have FX2 := Lib.hid fx
              clear fo fx
              have t1 := T1.out
              obtain ⟨y1, y2⟩ := Y1.out
              obtain ⟨y5, y6⟩ := YP.out
              go_wp2_with fail
              clear t1 y1 y2 y5 y6
              go_roundg g1
              case measure => omega
              case rel => exact ⟨m, P + 1, s, rfl, rfl, HF2, FO2, FX2, hM⟩
            · have hn3 : (0 : Int) < (e : Int) := by omega
              have hn4 : 0 < e := by omega
              have fo := FO.out
              have fx := FX.out
              rw [if_pos hn4] at fo fx
              have FO1 := Lib.hid (show ok s P e from fo.1)
              have FO2 := Lib.hid (show okS ok step (faL g1 m (P + 1)) (step s P e) from fo.2)
              have FX2 := Lib.hid (show foldS step (faL g1 m (P + 1)) (step s P e) = R from fx)
              have CL := Lib.hid (fun u hu => HCL.out s P e u hPb.1 hPb.2 hn4 he10 FO1.out hu)
              clear fo fx
              have t1 := T1.out
              obtain ⟨y1, y2⟩ := Y1.out
              obtain ⟨y5, y6⟩ := YP.out
              go_wp2_with (go_at_call 86; (with_reducible refine (CL.out _ hM.out).mono ?_); (rintro x w3 ⟨rfl, hM3⟩; have HM3 := Lib.hid hM3; clear hM3))
              clear t1 y1 y2 y5 y6
              go_roundg g1
              case measure => omega
              case rel => exact ⟨m, P + 1, step s P e, rfl, rfl, HF2, FO2, FX2, HM3⟩
    · have hnl : ¬ ((1 : Int) < (n : Int)) := by omega
      have hn3 : n = 1 := by omega
      have HE : Hid (s = R) := Lib.hid (by
        have h3 := hx.out
        rw [faL_one _ _ hlt] at h3
        exact h3)
      clear hlt
      go_wp2_with fail
      (try simp only [Exit.inBlock, Exit.then])
      first
        | (refine bodyPost_end (results_none rfl _ _ _) rfl ?_; exact ⟨rfl, by rw [← HE.out]; exact hM.out⟩)
        | (refine bodyPost_ret (v := .tuple #[]) (results_none rfl _ _ _) rfl ?_; exact ⟨rfl, by rw [← HE.out]; exact hM.out⟩)
set_option maxRecDepth 20000 in
set_option maxHeartbeats 8000000 in
theorem factorsD {σ : Type} (St : σ → World → Prop) (ok : σ → Nat → Nat → Prop) (step : σ → Nat → Nat → σ) (c1 : Value)
    (CL : ∀ (s : σ) (p e : Nat) (u : World), 2 ≤ p → p ≤ 1001 → 1 ≤ e → e ≤ 10 → ok s p e → St s u → Calls Tryz.prog 84 #[.int .i64 (p : Int), .int .i64 (e : Int), c1] u fun x w' => x = .returned (.tuple #[]) ∧ St (step s p e) w')
    (N : Nat) (h1 : 1 ≤ N) (h2 : N ≤ 1000) (s0 : σ) (hok : okS ok step (faL 33 N 2) s0) (w1 : World) (hM1 : St s0 w1) :
    Calls Tryz.prog 83 #[.int .i64 (N : Int), .func (.func 84) #[] #[c1]] w1 fun x w' => x = .returned (.tuple #[]) ∧ St (foldS step (faL 33 N 2) s0) w' := by
  obtain ⟨R, hR⟩ : ∃ R, foldS step (faL 33 N 2) s0 = R := ⟨_, rfl⟩
  rw [hR]
  have HR := Lib.hid hR
  have HOK := Lib.hid hok
  have HM1 := Lib.hid hM1
  have HCL := Lib.hid CL
  have HF := Lib.hid (FaH.start h1 h2)
  clear hR hok hM1 CL
  go_enter Tryz.func83, Tryz.ntmps83
  go_wp2_with fail
  go_loopg [0, 4] 33 (fun k t0 t4 wr => ∃ (n p : Nat) (s : σ), t0 = .int .i64 (n : Int) ∧ t4 = .int .i64 (p : Int) ∧ Hid (FaH k n p) ∧ Hid (okS ok step (faL k n p) s) ∧ Hid (foldS step (faL k n p) s = R) ∧ Hid (St s wr))
  case atStart => exact ⟨N, 2, s0, rfl, rfl, HF, HOK, HR, HM1⟩
  case round =>
    clear HR HOK HM1 HF
    obtain ⟨n, p, s, rfl, rfl, HF, hok, hx, hM⟩ := hrel
    have hn0 : 1 ≤ n := HF.out.1
    have hn1 : n ≤ 1000 := HF.out.2.1
    have hp0 : 2 ≤ p := HF.out.2.2.1
    have hp1 : p ≤ 1001 := HF.out.2.2.2.1
    by_cases hlt : 1 < n
    · obtain ⟨g1, hgk, hF2, hE10, hL⟩ := HF.out.next hlt
      have hok2 := hok.out
      have hx2 := hx.out
      rw [hL] at hok2 hx2
      obtain ⟨P, hP⟩ : ∃ P, faP n p = P := ⟨_, rfl⟩
      have hPb := faP_bd hlt hn1 hp0 hp1
      rw [hP] at hPb hF2 hE10 hok2 hx2
      obtain ⟨M, E, hME⟩ : ∃ M E, dvF P 10 n 0 = (M, E) := ⟨_, _, rfl⟩
      rw [hME] at hF2 hE10 hok2 hx2
      simp only at hF2 hE10 hok2 hx2
      have DV := Lib.hid hME
      have HF2 := Lib.hid hF2
      have FO := Lib.hid hok2
      have FX := Lib.hid hx2
      have hltI : (1 : Int) < (n : Int) := by omega
      obtain ⟨S, hS⟩ : ∃ S : Nat, p * p = S := ⟨_, rfl⟩
      have hSb : S ≤ 1001 * 1001 := by rw [← hS]; exact Nat.mul_le_mul hp1 hp1
      have YS : Hid (IntKind.i64.wrap ((p : Int) * (p : Int)) = (S : Int) ∧ wrap64 ((p : Int) * (p : Int)) = (S : Int)) := Lib.hid (by rw [show (p : Int) * (p : Int) = (S : Int) by rw [← hS]; simp]; exact w64n (by omega))
      have hP2 := Lib.hid hP
      have hcase : (n < S ∧ P = n) ∨ (¬ n < S ∧ P = p) := by
        have h3 := hP
        unfold faP at h3
        rw [hS] at h3
        by_cases hb : n < S
        · rw [if_pos hb] at h3; exact .inl ⟨hb, h3.symm⟩
        · rw [if_neg hb] at h3; exact .inr ⟨hb, h3.symm⟩
      have HCASE := Lib.hid hcase
      clear hcase
      clear hok hx hok2 hx2 hME hL hF2 hS hP
      obtain ⟨e1, e2⟩ := YS.out
      go_upto_if 14 with fail
      clear e1 e2 hltI
      go_cut [4] (fun t4 wc => t4 = .int .i64 (P : Int) ∧ wr = wc)
      case first =>
        rcases HCASE.out with ⟨hc, hPn⟩ | ⟨hc, hPn⟩
        · have HPN := Lib.hid hPn
          clear hPn
          go_wp2_with fail
          all_goals first
            | (exfalso; omega)
            | (go_meet; exact ⟨by rw [HPN.out], rfl⟩)
        · have HPN := Lib.hid hPn
          clear hPn
          go_wp2_with fail
          all_goals first
            | (exfalso; omega)
            | (go_meet; exact ⟨by rw [HPN.out], rfl⟩)
      case rest =>
        obtain ⟨rfl, rfl⟩ := hcut
        have hPz : ¬ ((P : Int) = 0) := by omega
        have hPz2 : ¬ (P = 0) := by omega
        go_wp2_with fail
        go_loopg [0, 5] 10 (fun k t0 t5 wx => ∃ m e : Nat, t0 = .int .i64 (m : Int) ∧ t5 = .int .i64 (e : Int) ∧ 1 ≤ m ∧ m ≤ 1000 ∧ e ≤ 10 ∧ Hid (m < 2 ^ k) ∧ Hid (e + k = 10) ∧ Hid (dvF P k m e = (M, E)) ∧ Hid (St s wx))
        case atStart => exact ⟨n, 0, rfl, rfl, hn0, hn1, by omega, Lib.hid (by omega), Lib.hid rfl, DV, hM⟩
        case round =>
          clear DV hM
          obtain ⟨m, e, rfl, rfl, hm0, hm1, he10, HM2, HE10, HDV, hM⟩ := hrel
          obtain ⟨r, hr⟩ : ∃ r, m % P = r := ⟨_, rfl⟩
          obtain ⟨q, hq⟩ : ∃ q, m / P = q := ⟨_, rfl⟩
          have T1 : Hid (Int.tmod (m : Int) (P : Int) = (r : Int)) := Lib.hid (by rw [← hr, Int.natCast_emod]; exact Int.tmod_eq_emod_of_nonneg (by omega))
          have T2 : Hid (Int.tdiv (m : Int) (P : Int) = (q : Int)) := Lib.hid (by rw [← hq, Int.natCast_ediv]; exact Int.tdiv_eq_ediv_of_nonneg (by omega))
          have hrb : r ≤ 1001 := by rw [← hr]; exact Nat.le_trans (Nat.mod_le _ _) (by omega)
          have hqb : q ≤ 1000 := by rw [← hq]; exact Nat.le_trans (Nat.div_le_self _ _) hm1
          have Y1 := Lib.hid (w64n (n := (r : Int)) (by omega))
          have Y2 := Lib.hid (w64n (n := (q : Int)) (by omega))
          have HRR := Lib.hid hr
          have HQQ := Lib.hid hq
          clear hr hq
          by_cases hr0 : r = 0
          · subst hr0
            obtain ⟨g2, hgk2, d1, d2, d3⟩ := dvF_go (e := e) hPb.1 hm0 HM2.out HRR.out
            rw [HQQ.out] at d1 d2 d3
            have HV := Lib.hid (d1.symm.trans HDV.out)
            have HD2 := Lib.hid d2
            have HD3 := Lib.hid d3
            have YE := Lib.hid (inc_wrap (i := e) (n := 100) (by omega) (by omega))
            have HG2 := Lib.hid hgk2
            clear d1 d2 d3 hgk2
            have t1 := T1.out
            have t2 := T2.out
            obtain ⟨y1, y2⟩ := Y1.out
            obtain ⟨y3, y4⟩ := Y2.out
            obtain ⟨y5, y6⟩ := YE.out
            go_wp2_with fail
            clear t1 t2 y1 y2 y3 y4 y5 y6
            go_roundg g2
            case measure => have := HG2.out; omega
            case rel => exact ⟨q, e + 1, rfl, rfl, HD2.out, hqb, by have := HE10.out; have := HG2.out; omega, HD3, Lib.hid (by have := HE10.out; have := HG2.out; omega), HV, hM⟩
          · have hre : ((r : Int) == 0) = false := by simp; omega
            have hdv2 := HDV.out
            rw [dvF_end (by rw [HRR.out]; exact hr0)] at hdv2
            obtain ⟨hmM, heE⟩ := Prod.mk.inj hdv2
            subst hmM
            subst heE
            clear hdv2 hr0
            have YP := Lib.hid (inc_wrap (i := P) (n := 2000) (by omega) (by omega))
            by_cases he0 : e = 0
            · subst he0
              have hn3 : decide ((0 : Int) < ((0 : Nat) : Int)) = false := by simp
              have fo := FO.out
              have fx := FX.out
              rw [if_neg (by omega), List.nil_append] at fo fx
              have FO2 := Lib.hid fo
              have FX2 := Lib.hid fx
              clear fo fx
              have t1 := T1.out
              obtain ⟨y1, y2⟩ := Y1.out
              obtain ⟨y5, y6⟩ := YP.out
              go_wp2_with fail
              clear t1 y1 y2 y5 y6
              go_roundg g1
              case measure => omega
              case rel => exact ⟨m, P + 1, s, rfl, rfl, HF2, FO2, FX2, hM⟩
            · have hn3 : (0 : Int) < (e : Int) := by omega
              have hn4 : 0 < e := by omega
              have fo := FO.out
              have fx := FX.out
              rw [if_pos hn4] at fo fx
              have FO1 := Lib.hid (show ok s P e from fo.1)
              have FO2 := Lib.hid (show okS ok step (faL g1 m (P + 1)) (step s P e) from fo.2)
              have FX2 := Lib.hid (show foldS step (faL g1 m (P + 1)) (step s P e) = R from fx)
              have CL := Lib.hid (fun u hu => HCL.out s P e u hPb.1 hPb.2 hn4 he10 FO1.out hu)
              clear fo fx
              have t1 := T1.out
              obtain ⟨y1, y2⟩ := Y1.out
              obtain ⟨y5, y6⟩ := YP.out
              go_wp2_with (go_at_call 84; (with_reducible refine (CL.out _ hM.out).mono ?_); (rintro x w3 ⟨rfl, hM3⟩; have HM3 := Lib.hid hM3; clear hM3))
              clear t1 y1 y2 y5 y6
              go_roundg g1
              case measure => omega
              case rel => exact ⟨m, P + 1, step s P e, rfl, rfl, HF2, FO2, FX2, HM3⟩
    · have hnl : ¬ ((1 : Int) < (n : Int)) := by omega
      have hn3 : n = 1 := by omega
      have HE : Hid (s = R) := Lib.hid (by
        have h3 := hx.out
        rw [faL_one _ _ hlt] at h3
        exact h3)
      clear hlt
      go_wp2_with fail
      (try simp only [Exit.inBlock, Exit.then])
      first
        | (refine bodyPost_end (results_none rfl _ _ _) rfl ?_; exact ⟨rfl, by rw [← HE.out]; exact hM.out⟩)
        | (refine bodyPost_ret (v := .tuple #[]) (results_none rfl _ _ _) rfl ?_; exact ⟨rfl, by rw [← HE.out]; exact hM.out⟩)
end Go.Proofs.YtbpkfcohbefphaaGreat
namespace Go.Proofs.YtbpkfcohbefphaaGreat
open Go Go.RowKit
structure RowJ (u : World) (g n cap : Nat) (xs : List Value) : Prop where
  len : xs.length = n
  row : ∃ cur, u.heap[g]? = some (.cells cur 3 (0, 0)) ∧ cur.size = cap ∧ cur.toList.take n = xs ∧ ∀ v, v ∈ cur.toList → ∃ x, v = .int .i64 x
  le : n ≤ cap
  max : cap ≤ maxLen
theorem RowJ.lt {u : World} {g n cap : Nat} {xs : List Value} (h : RowJ u g n cap xs) : g < u.heap.size := by
  obtain ⟨cur, h1, -⟩ := h.row
  exact (Array.getElem?_eq_some_iff.1 h1).1
theorem RowJ.but {X : Nat → Prop} {u u' : World} {g n cap : Nat} {xs : List Value} (h : RowJ u g n cap xs) (hb : But X u u') (hX : ¬ X g) : RowJ u' g n cap xs := by
  obtain ⟨cur, h1, h2⟩ := h.row
  exact ⟨h.len, ⟨cur, (hb.block g h.lt hX).trans h1, h2⟩, h.le, h.max⟩
theorem RowJ.grow {u u' : World} {g n cap : Nat} {xs : List Value} (h : RowJ u g n cap xs) (hg : Grow u u') : RowJ u' g n cap xs := h.but (X := fun _ => False) (hg.but _) (fun h => h)
theorem RowJ.cell {u : World} {g n cap : Nat} {xs : List Value} (h : RowJ u g n cap xs) {i : Nat} {x : Value} (hx : xs[i]? = some x) : u.cell? ⟨g, i, none⟩ = some x := by
  obtain ⟨cur, h1, -, h3, -⟩ := h.row
  rw [cell_of_row u g i cur 3 (0, 0) h1]
  rw [← h3, List.getElem?_take] at hx
  split at hx
  · simpa using hx
  · cases hx
section
variable {P : Program}
theorem run_append_j {ty t : TypeId} {i : TypeInfo} (ht : P.underlying t = some (.slice 3)) (hi : P.info? 3 = some i) (hz : i.zero = some (.int .i64 0)) (hsize : i.size = 1) (hby : i.bytes = 8)
    (w : World) (g n cap : Nat) (xs : List Value) (hrow : RowJ w g n cap xs) (ad : Addr) (c : Nat) (x : Int) (hc : w.cell? ad = some (.int .i64 x)) (hl : n + 1 ≤ 1000000) :
    ∃ g' cap' w', (Builtin.append_ #[t, t] ty #[.slice (some ⟨g, 0, none⟩) n cap, .slice (some ad) 1 c]).run P w = .ok (.slice (some ⟨g', 0, none⟩) (n + 1) cap') w' ∧ RowJ w' g' (n + 1) cap' (xs ++ [.int .i64 x]) ∧ (g' = g ∨ w.heap.size ≤ g') ∧ But (fun b => b = g) w w' ∧ (∀ o, o < n → w'.cell? ⟨g, o, none⟩ = w.cell? ⟨g, o, none⟩) := by
  have hnews : ∀ j u, [Value.int .i64 x][j]? = some u → w.cell? (ad.add j) = some u := by
    intro j u hu
    match j, hu with
    | 0, hu =>
      simp only [List.getElem?_cons_zero, Option.some.injEq] at hu
      subst hu
      simpa [Addr.add] using hc
  obtain ⟨hxs, ⟨cur, hg, hcs, htk, hall⟩, hnc, hcm⟩ := id hrow
  have hin : g < w.heap.size := hrow.lt
  by_cases hroom : n + 1 ≤ cap
  · have hr := run_append_room (P := P) w t ty 3 i ht hi g n cap cur hg ad 1 c [.int .i64 x] (by rw [hsize]; rfl) hnews (by intro u hu; simp at hu; subst hu; rfl) hroom (by rw [hsize, hcs]; simpa using hroom)
    have hnu : ∀ o y, w.cell? ⟨g, o, none⟩ ≠ some (.int .u32 y) := by
      intro o y hc
      rw [cell_of_row w g o cur 3 (0, 0) hg] at hc
      have hmem : Value.int .u32 y ∈ cur.toList := by
        obtain ⟨h1, h2⟩ := Array.getElem?_eq_some_iff.1 hc
        rw [← h2]; simp
      obtain ⟨z, hz'⟩ := hall _ hmem
      cases hz'
    have hrow' : RowJ _ g (n + 1) cap (xs ++ [.int .i64 x]) := ⟨by simp [hxs], ⟨_, setRow_heap w g cur (cur.toList.take (n * i.size) ++ [Value.int .i64 x] ++ cur.toList.drop (n * i.size + [Value.int .i64 x].length)).toArray 3 _ hg, by simp [hsize]; omega, by
        rw [hsize, Nat.mul_one]
        have h1 : (cur.toList.take n ++ [Value.int .i64 x]).length = n + 1 := by simp; omega
        rw [show (cur.toList.take n ++ [Value.int .i64 x] ++ cur.toList.drop (n + [Value.int .i64 x].length)).toArray.toList = (cur.toList.take n ++ [Value.int .i64 x]) ++ cur.toList.drop (n + [Value.int .i64 x].length) by simp, ← h1, List.take_left, htk], by
        intro u hu
        simp only [List.mem_append] at hu
        rcases hu with (hu | hu) | hu
        · exact hall u (List.mem_of_mem_take hu)
        · simp at hu; exact ⟨x, hu⟩
        · exact hall u (List.mem_of_mem_drop hu)⟩, hroom, hcm⟩
    refine ⟨g, cap, _, hr, hrow', .inl rfl, ⟨rfl, rfl, rfl, by simp [World.setRow], fun b _ hb' => setRow_other w g b _ hb', fun b o hb' => ?_, fun b o y hb' hc => ?_⟩, fun o ho => ?_⟩
    · by_cases hbg' : b = g
      · subst hbg'
        rw [frozen_plain (setRow_heap w b cur _ 3 _ hg) o, frozen_plain hg o]
      · unfold World.frozen?
        rw [setRow_other w g b _ hbg']
    · have hne : b ≠ g := fun e => by subst e; exact hnu o y hc
      rw [World.cell?_of_block (setRow_other w g b _ hne)]
      exact hc
    · obtain ⟨u, hu⟩ : ∃ u, xs[o]? = some u := ⟨_, List.getElem?_eq_getElem (by omega)⟩
      have h1 : (xs ++ [Value.int .i64 x])[o]? = some u := by rw [List.getElem?_append_left (by omega)]; exact hu
      exact (hrow'.cell h1).trans (hrow.cell hu).symm
  · have holds : ∀ j u, xs[j]? = some u → w.cell? ((⟨g, 0, none⟩ : Addr).add j) = some u := fun j u hu => by
      rw [Addr.add_lit, Nat.zero_add]; exact hrow.cell hu
    have hr := run_append_grow (P := P) w t ty 3 i (.int .i64 0) ht hi hz ⟨g, 0, none⟩ n cap xs (by rw [hsize, Nat.mul_one]; exact hxs) holds ad 1 c [.int .i64 x] (by rw [hsize]; rfl) hnews (by omega) (by omega) (growslice_fits (by omega) (by rw [hby]; omega))
    refine ⟨w.heap.size, _, _, hr, ⟨by simp [hxs], ⟨_, heap_alloc_new w.drew _, ?_, ?_, ?_⟩, grownCap_ge _ _ _ _, grownCap_le_maxLen _ _ _ _ (by unfold maxLen; omega)⟩, .inr (Nat.le_refl _), ((Grow.refl w).drew.alloc _).but _, fun o ho => ((Grow.refl w).drew.alloc _).cells _ _ hin⟩
    · have := grownCap_ge w (n + 1) cap 3
      simp [size_zeroCells, Value.cells, hxs]
      omega
    · have h1 : (xs ++ [Value.int .i64 x]).length = n + 1 := by simp [hxs]
      simp only [Array.toList_append]
      rw [← h1, List.take_left]
    · intro u hu
      simp only [Array.toList_append, List.mem_append] at hu
      rcases hu with (hu | hu) | hu
      · have : u ∈ xs := by simpa using hu
        rw [← htk] at this
        exact hall u (List.mem_of_mem_take this)
      · simp at hu; exact ⟨x, hu⟩
      · exact zero_ints _ u hu
theorem wpList_append_j (w : World) {ops : Array Oper} {rest : List Oper} {o : Oper} {a : Act} {Q : Exit → Act → World → Prop} (hgd : o.guard = none) (s x : Operand) (t : TypeId)
    (ho : o.op = .call { callee := .builtin .append, args := #[s, x], argTypes := #[t, t] }) (i : TypeInfo) (ht : P.underlying t = some (.slice 3)) (hi : P.info? 3 = some i) (hz : i.zero = some (.int .i64 0)) (hsize : i.size = 1) (hby : i.bytes = 8)
    (g n cap : Nat) (xs : List Value) (hs : a.eval s = .slice (some ⟨g, 0, none⟩) n cap) (hrow : RowJ w g n cap xs) (ad : Addr) (c : Nat) (z : Int) (hx : a.eval x = .slice (some ad) 1 c) (hc : w.cell? ad = some (.int .i64 z)) (hl : n + 1 ≤ 1000000)
    (h : ∀ g' cap' w', RowJ w' g' (n + 1) cap' (xs ++ [.int .i64 z]) → (g' = g ∨ w.heap.size ≤ g') → But (fun b => b = g) w w' → (∀ o, o < n → w'.cell? ⟨g, o, none⟩ = w.cell? ⟨g, o, none⟩) → wpList P ops Q rest (a.put o.dst (.slice (some ⟨g', 0, none⟩) (n + 1) cap')) w') : wpList P ops Q (o :: rest) a w := by
  refine wpList_plain hgd fun K hK' => ?_
  obtain ⟨g', cap', w', hrun, r1, r2, r3, r4⟩ := run_append_j (P := P) (ty := o.type) ht hi hz hsize hby w g n cap xs hrow ad c z hc hl
  unfold Oper.wp
  simp [execOp, ho, resolve, invoke, builtin, hs, hx, hrun, Result.andThen]
  exact hK' _ _ (h g' cap' w' r1 r2 r3 r4)
end
/-- The divisors' list behind one pair. -/
def dvR (s : List Nat) (p i : Nat) : List Nat := s ++ (List.range i).flatMap (fun k => s.map (fun d => d * p ^ (k + 1)))
def dvS (s : List Nat) (p e : Nat) : List Nat := dvR s p e
theorem dvR_len (s : List Nat) (p : Nat) : ∀ i, (dvR s p i).length = s.length * (i + 1)
  | 0 => by simp [dvR]
  | i + 1 => by
    have h := dvR_len s p i
    unfold dvR at h ⊢
    rw [List.range_succ, List.flatMap_append, ← List.append_assoc, List.length_append, h]
    simp [Nat.mul_add]
theorem dvR_succ (s : List Nat) (p i : Nat) : dvR s p (i + 1) = dvR s p i ++ s.map (fun d => d * p ^ (i + 1)) := by
  unfold dvR
  rw [List.range_succ, List.flatMap_append, ← List.append_assoc]
  simp
theorem dvR_pre (s : List Nat) (p i : Nat) : ∃ l, dvR s p i = s ++ l := ⟨_, rfl⟩
end Go.Proofs.YtbpkfcohbefphaaGreat
