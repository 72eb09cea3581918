/- Lemmas, plain laws and walks that the statement LwValence leans on (texts PrA), conditions as each theorem says. -/
import Derived.Test.YtbpkfcohbefphaaGreatTopValG10
import Derived.Test.YtbpkfcohbefphaaGreatTopValG14

namespace Go.Proofs.YtbpkfcohbefphaaGreat
open Go Go.RowKit
/-- What s holds: r at the elements from 1 on that are below k (all of them once k is beyond). -/
def sO (b : Bool) (n : Nat) (r : Nat → Rat) : Nat → Option Rat := fun j => if 1 ≤ j ∧ (b = true ∨ j < n) then some (r j) else none
theorem OwnG.one {u : World} {base : Nat} {t : TypeId} {a b c d : Value} (hb : base ≤ u.heap.size) (hn : ∀ x ∈ [a, b, c, d], NU x) : OwnG (u.alloc (.cells #[a, b, c, d] t)) base t 4 (.slice (some ⟨u.heap.size, 0, none⟩) 1 1) 1 [a, b, c, d] :=
  ⟨rfl, .inr ⟨u.heap.size, 1, _, rfl, hb, by show (Array.push u.heap _)[u.heap.size]? = _; simp; rfl, Nat.le_refl _, by unfold maxLen; omega, rfl, rfl, fun x hx => hn x (by simpa using hx)⟩⟩
theorem OwnG.butAt {X : Nat → Prop} {w w1 : World} {base : Nat} {t : TypeId} {size g c : Nat} {n : Nat} {xs : List Value} (h : OwnG w base t size (.slice (some ⟨g, 0, none⟩) n c) n xs) (hg : But X w w1) (hX : ¬ X g) : OwnG w1 base t size (.slice (some ⟨g, 0, none⟩) n c) n xs := by
  refine ⟨h.1, ?_⟩
  rcases h.2 with ⟨hv, -⟩ | ⟨g', cap, cur, hv, hb, hh, h3⟩
  · cases hv
  · have e : g' = g := by injection hv with e; injection e with e; injection e with e; exact e.symm
    subst e
    exact .inr ⟨g', cap, cur, hv, hb, (hg.block g' (Array.getElem?_eq_some_iff.1 hh).1 hX).trans hh, h3⟩
theorem ZRow.mono {u : World} {g m k k' : Nat} (h : ZRow u g m k) (hk : k ≤ k') : ZRow u g m k' := fun j h1 h2 => h j (by omega) h2
theorem sO_in {c : Nat → Rat} {d e p : Nat} (he : e = d + 1) {u : World} {g : Nat} (h : RowP u g 0 p (sO (decide (1 ≤ d)) 0 (rS c d))) : RowP u g 0 p (sO (decide (2 ≤ e)) e (rM c e e)) := by
  refine h.mono (Nat.le_refl _) (fun j x _ hx => ?_)
  unfold sO at hx ⊢
  by_cases h1 : 1 ≤ j
  · by_cases h2 : 2 ≤ e
    · rw [if_pos ⟨h1, .inl (by simpa using h2)⟩, rM_start (by omega) h1] at hx
      rw [if_pos ⟨h1, .inl (by simp; omega)⟩]
      rw [show d = e - 1 by omega]; exact hx
    · rw [if_neg (by simp; omega)] at hx; cases hx
  · rw [if_neg (by omega)] at hx; cases hx
theorem sO_out {c : Nat → Rat} {e p n : Nat} (hn : p ≤ n) {u : World} {g : Nat} (h : RowP u g 0 p (sO (decide (2 ≤ e)) n (rM c e n))) : RowP u g 0 p (sO (decide (1 ≤ e)) 0 (rS c e)) := by
  refine h.mono (Nat.le_refl _) (fun j x hj hx => ?_)
  unfold sO at hx ⊢
  by_cases h1 : 1 ≤ j
  · rw [if_pos ⟨h1, .inr (by omega)⟩, rM_end (by omega)]
    split at hx
    · exact hx
    · cases hx
  · rw [if_neg (by omega)] at hx; cases hx
theorem sO_step {c : Nat → Rat} {e p n : Nat} (he : 1 ≤ e) (hn : n % e = 0) {u : World} {g : Nat} {X : Rat} (hX : X = rS c (e - 1) n + ptR c e) (h : RowP u g 0 p (fun i => if i = n then some X else sO (decide (2 ≤ e)) n (rM c e n) i)) : RowP u g 0 p (sO (decide (2 ≤ e)) (n + e) (rM c e (n + e))) := by
  refine h.mono (Nat.le_refl _) (fun j x hj hx => ?_)
  unfold sO at hx
  split at hx
  · rename_i h1
    rw [rM_step he hn] at hx
    by_cases hjn : j = n
    · rw [if_pos hjn] at hx ⊢
      rw [hX]; exact hx
    · rw [if_neg hjn] at hx ⊢
      unfold sO
      have h2 : 1 ≤ j ∧ (decide (2 ≤ e) = true ∨ j < n) := by
        refine ⟨h1.1, ?_⟩
        rcases h1.2 with h3 | h3
        · exact .inl h3
        · rcases Nat.lt_or_ge 1 e with h4 | h4
          · exact .inl (by simp; omega)
          · exact .inr (by omega)
      rw [if_pos h2]; exact hx
  · cases hx
set_option maxRecDepth 20000 in
set_option maxHeartbeats 8000000 in
theorem prodQ (m : Nat) (c cf : Nat → Rat) (H : PrH m c cf) (B cap : Nat) (w : World) (hA : RowQ w B 0 m c) :
    Calls Tryz.prog 81 #[.int .i64 1, .slice (some ⟨B, 0, none⟩) m cap] w fun e w' =>
    ∃ B' c', e = .returned (.tuple #[.agg #[.int .i64 1, .slice (some ⟨B', 0, none⟩) (m + 1) c'], .int .i64 0]) ∧ RowQ w' B' 0 (m + 1) cf ∧ Grow w w' := by
  obtain ⟨ir, hir, irz0, irz1, irz2⟩ := info_parts infoRat
  have HH := Lib.hid H
  have hm1 := H.m1
  have hm8 := H.m8
  obtain ⟨p, hp⟩ : ∃ p, m + 1 = p := ⟨_, rfl⟩
  rw [hp]
  have E1 := Lib.hid (w64m p (by omega) (z := (m : Int) + 1) (by omega))
  have HP := Lib.hid hp
  have hp9 : p ≤ 9 := by omega
  have hlB := hA.lt
  have HA := Lib.hid hA
  clear hA H hp
  obtain ⟨W1, hW1⟩ : ∃ W1 : World, W1 = w.alloc (.cells #[.int .i64 0, .slice none 0 0] 25) := ⟨_, rfl⟩
  have hg1 := ag hW1
  have K1 := Lib.hid (ak2 hW1)
  have HW1 := Lib.hid hW1
  clear hW1
  have y1 : decide ((m : Int) > 998) = false := by simp; omega
  go_enter Tryz.func81, Tryz.ntmps81
  go_upto_region 1 with fail
  rw [← HW1.out]
  obtain ⟨e1, e1'⟩ := E1.out
  go_upto_region 3 with fail
  clear y1
  go_wp2_with (at_make; refine wpList_make_full _ rfl _ _ 23 rfl (W1.heap.size) 36 ir _ 4 Tryz.underlying23 hir irz0 irz1 .i64 .i64 (p : Int) (p : Int) p rfl rfl rfl rfl ?m1 ?m2 (Nat.le_refl _) ?_)
  case m1 => rw [irz2]; omega
  case m2 => unfold maxLen; omega
  intro w2 hown2 hgrow2
  obtain ⟨hrow2, hzr2⟩ := made_rat hown2
  have hg2 : Grow W1 w2 := (Grow.refl W1).grown hgrow2 (fun k hk => by cases hk)
  have HR2 := Lib.hid hrow2
  have HZ2 := Lib.hid hzr2
  have HG2 := Lib.hid hg2
  obtain ⟨g, hgq⟩ : ∃ g, W1.heap.size = g := ⟨_, rfl⟩
  rw [hgq] at HR2 HZ2
  try rw [hgq]
  have HGQ := Lib.hid hgq
  clear hown2 hgrow2 hrow2 hzr2 hg2 e1 e1' hgq
  go_wp2_with fail
  go_loopg [7] m (fun gk t7 wr => ∃ d e : Nat, t7 = .int .i64 (e : Int) ∧ d ≤ m ∧ Hid (gk = m - d) ∧ Hid (e = d + 1) ∧ Hid (RowP wr g 0 p (sO (decide (1 ≤ d)) 0 (rS c d))) ∧ Hid (d = 0 → ZRow wr g p 0) ∧ Hid (But (fun y => y = g) w2 wr))
  case atStart => exact ⟨0, 1, rfl, Nat.zero_le _, Lib.hid rfl, Lib.hid rfl, Lib.hid (HR2.out.mono (Nat.le_refl _) (fun j x _ hx => by simp [sO] at hx)), Lib.hid (fun _ => HZ2.out), Lib.hid (But.refl _ _)⟩
  case round =>
    obtain ⟨d, e, rfl, hd, HGK, HE, HR, HZ, HB⟩ := hrel
    have he := HE.out
    have hgr : Grow W1 wr := ((HG2.out.but _).trans HB.out).asGrow (fun y hy => by have := HGQ.out; omega)
    have HGR := Lib.hid hgr
    clear hgr
    by_cases hdm : d = m
    · have y1 : decide (e ≤ m) = false := by simp; omega
      have y2 : decide ((e : Int) ≤ (m : Int)) = false := by simp; omega
      clear he
      have HS : Hid (RowP wr g 0 p (fun j => if 1 ≤ j then some (rS c m j) else none)) := Lib.hid (HR.out.mono (Nat.le_refl _) (fun j x _ hx => by
        unfold sO
        by_cases h1 : 1 ≤ j
        · rw [if_pos h1] at hx
          rw [if_pos ⟨h1, .inl (by simp; omega)⟩, hdm]; exact hx
        · rw [if_neg h1] at hx; cases hx))
      have O1 := Lib.hid (fun u => ofQ 1 (by decide) u)
      have O0 := Lib.hid (fun u => ofQ 0 (by decide) u)
      have M2 := Lib.hid HH.out.mul2
      have S2 := Lib.hid HH.out.sub2
      have Q2 := Lib.hid HH.out.quo2
      have CF := Lib.hid HH.out.cfn
      have C0 := Lib.hid HH.out.cf0
      obtain ⟨sf, hsf⟩ : ∃ sf, rS c m = sf := ⟨_, rfl⟩
      rw [hsf] at HS M2 S2 Q2 CF
      clear hsf HR HZ hdm
      go_upto_region 13 with (go_at_call 18; (with_reducible refine (O1.out _).mono ?_); (rintro e u6 ⟨v6, rfl, hv6, hb6⟩; obtain ⟨s6, a6, l6, c6, t6, b6, k6, e6, rfl⟩ := hv6.form; have HV6 := Lib.hid hv6; have HG6 := Lib.hid (HGR.out.trans hb6); have HB6 := Lib.hid hb6; clear hv6 hb6))
      clear y1 y2
      have HO6 := Lib.hid (OwnG.one (u := u6) (t := 36) (Nat.le_refl _) (rat_nu s6 a6 l6 c6 t6 b6 k6 e6))
      have HX6 : Hid (ListR (u6.alloc (.cells #[.bool s6, .slice a6 l6 c6, .bool t6, .slice b6 k6 e6] 36)) [.bool s6, .slice a6 l6 c6, .bool t6, .slice b6 k6 e6] 1 cf) := Lib.hid (((listr_one HV6.out).grow ((Grow.refl u6).alloc _)).cong (fun j hj => by rw [show j = 0 by omega]; exact C0.out))
      have HGZ : Hid (Grow u6 (u6.alloc (.cells #[.bool s6, .slice a6 l6 c6, .bool t6, .slice b6 k6 e6] 36))) := Lib.hid ((Grow.refl u6).alloc _)
      generalize u6.alloc (.cells #[.bool s6, .slice a6 l6 c6, .bool t6, .slice b6 k6 e6] 36) = W6 at *
      obtain ⟨Z, hZ⟩ : ∃ Z, u6.heap.size = Z := ⟨_, rfl⟩
      rw [hZ] at HO6
      rw [hZ]
      have HZ6 := Lib.hid hZ
      clear hZ
      go_wp2_with fail
      go_loopg [10, 11] m (fun gk2 t10 t11 wq => ∃ (k n cv g2 : Nat) (xs : List Value), t10 = .slice (some ⟨g2, 0, none⟩) n cv ∧ t11 = .int .i64 (n : Int) ∧ k ≤ m ∧ Hid (gk2 = m - k) ∧ Hid (n = k + 1) ∧ Hid (Grow u6 wq) ∧ Hid (OwnG wq Z 36 4 (.slice (some ⟨g2, 0, none⟩) n cv) n xs) ∧ Hid (ListR wq xs n cf))
      case atStart => exact ⟨0, 1, 1, Z, _, rfl, rfl, Nat.zero_le _, Lib.hid rfl, Lib.hid rfl, HGZ, HO6, HX6⟩
      case round =>
        clear HO6 HX6 HGZ
        obtain ⟨k, n, cv, g2, xs, rfl, rfl, hk, HGK2, HN, HGN, HON, HXN⟩ := hrel
        have hn := HN.out
        by_cases hnm : m < n
        · have z1 : decide (n ≤ m) = false := by simp; omega
          have z2 : decide ((n : Int) ≤ (m : Int)) = false := by simp; omega
          have hnp : n = p := by have := HP.out; omega
          subst hnp
          have hrq := own_rowq HON.out.own HXN.out
          have hcv := (own_cells HON.out.own).2.2.1
          have BD := Lib.hid (sbuild1Q n g2 cv cf (by omega) hcv (fun _ => by rw [C0.out]; decide +kernel) wr hrq)
          have HGW : Hid (Grow W1 wr) := Lib.hid (HG6.out.trans HGN.out)
          clear hn hrq hcv
          go_wp2_with (go_at_call 104; (with_reducible refine BD.out.mono ?_); (rintro e u9 ⟨B9, c9, rfl, hr9, hb9, hB9⟩; have HR9 := Lib.hid hr9; have HG9 := Lib.hid (HGW.out.trans hb9); have HB9 := Lib.hid hB9; clear hr9 hb9 hB9; obtain ⟨q0, q1, q2, q3⟩ := K1.out u9 HG9.out))
          obtain ⟨hb, hgF⟩ := ser_cell (w := w) (Nat.le_refl _) q3 q0 q1 (fun x => by simp) (fun x => by simp) (hg1.trans HG9.out) (.int .i64 1) (.slice (some ⟨B9, 0, none⟩) n c9) (fun x => by simp)
          have hne : ¬ (B9 = w.heap.size) := by
            have h1 := HB9.out
            have h2 := (K1.out wr HGW.out).2.2.2
            omega
          exact bodyPost_ret (v := .tuple #[.agg #[.int .i64 1, .slice (some ⟨B9, 0, none⟩) n c9], .int .i64 0]) (by rw [results_cell_tmp rfl]; go_simp) rfl ⟨B9, c9, rfl, RowP.but HR9.out hne hb, hgF⟩
        · have hnm : n ≤ m := by omega
          have z1 : decide (n ≤ m) = true := by simp; omega
          have z2 : decide ((n : Int) ≤ (m : Int)) = true := by simp; omega
          have hn1 : 1 ≤ n := by omega
          have hn9 : n ≤ 8 := by omega
          have hg2 := (own_cells HON.out.own).1
          clear hn
          go_upto_region 17 with (go_at_call 18; (with_reducible refine (O0.out _).mono ?_); (rintro e u7 ⟨v7, rfl, hv7, hb7⟩; obtain ⟨s7, a7, l7, c7, t7, b7, k7, e7, rfl⟩ := hv7.form; have HV7 := Lib.hid hv7; have HG7 := Lib.hid hb7; clear hv7 hb7))
          clear z1 z2
          obtain ⟨W7, hW7⟩ : ∃ W7 : World, W7 = u7.alloc (.cells #[.bool s7, .slice a7 l7 c7, .bool t7, .slice b7 k7 e7] 36) := ⟨_, rfl⟩
          rw [← hW7]
          have HR7 := Lib.hid (rowq_lay hW7 HV7.out)
          have hg7 : Grow wr W7 := HG7.out.trans (ag hW7)
          have hFw : wr.heap.size ≤ u7.heap.size := HG7.out.size
          obtain ⟨F, hF⟩ : ∃ F, u7.heap.size = F := ⟨_, rfl⟩
          rw [hF] at HR7 hFw
          try rw [hF]
          have hFg2 : ¬ g2 = F := by omega
          have hFg : ¬ g = F := by have h1 := HS.out.lt; have h2 := HB6.out.size; have h3 := HGN.out.size; omega
          have HSW := Lib.hid (RowP.grow HS.out (HB6.out.trans (HGN.out.trans hg7)))
          have HCW := Lib.hid (RowP.grow (own_rowq HON.out.own HXN.out) hg7)
          have HOW := Lib.hid (HON.out.grow hg7)
          have HXW := Lib.hid (HXN.out.grow hg7)
          have HGW := Lib.hid (HGN.out.trans hg7)
          have HFZ : Hid (Z ≤ F) := Lib.hid (by have h1 := HZ6.out; have h2 := HGN.out.size; omega)
          clear hW7 hF hFw hg7 hg2
          go_wp2_with fail
          go_loopg [13] n (fun gk3 t13 wq => ∃ i e : Nat, t13 = .int .i64 (e : Int) ∧ i ≤ n ∧ Hid (gk3 = n - i) ∧ Hid (e = i + 1) ∧ Hid (RowQ wq F 0 1 (fun _ => smR sf cf n i)) ∧ Hid (But (fun y => y = F) W7 wq))
          case atStart => exact ⟨0, 1, rfl, Nat.zero_le _, Lib.hid rfl, Lib.hid rfl, HR7, Lib.hid (But.refl _ _)⟩
          case round =>
            clear HR7
            obtain ⟨i, e, rfl, hi, HGK3, HE3, HRF, HBF⟩ := hrel
            have he := HE3.out
            obtain ⟨s4, a4, l4, c4, t4, b4, k4, e4, ⟨p0, p1, p2, p3⟩, hvp⟩ := RowQ.at4 HRF.out (show 0 < 1 by omega)
            rw [Nat.zero_mul, Nat.add_zero] at p0 p1 p2 p3
            have HVP := Lib.hid hvp
            have hlF := HRF.out.lt
            have hfF := HRF.out.free
            have DF := Lib.hid (fun (u : World) (hg : Grow wr u) => (⟨(hg.cells _ _ hlF).trans p0, (hg.cells _ _ hlF).trans p1, (hg.cells _ _ hlF).trans p2, (hg.cells _ _ hlF).trans p3, fun o => (hg.frees _ _ hlF).trans (hfF o), Nat.lt_of_lt_of_le hlF hg.size⟩ : _ ∧ _ ∧ _ ∧ _ ∧ (∀ o, u.frozen? ⟨F, o, none⟩ = false) ∧ _))
            clear p0 p1 p2 p3 hvp hfF
            by_cases hin : i = n
            · have z1 : decide (e ≤ n) = false := by simp; omega
              have z2 : decide ((e : Int) ≤ (n : Int)) = false := by simp; omega
              clear he
              rw [hin] at HVP
              have HVN := HVP
              clear HVP hin
              have OFN := Lib.hid (fun u => ofQ (n : Int) (by omega) u)
              have hqb := Q2.out n hn1 hnm
              have hcf := CF.out n hn1 hnm
              have QU : Hid (∀ (u : World) (v1 v2 : Value), RatR u v1 (smR sf cf n n) → RatR u v2 ((n : Int) : Rat) → Calls Tryz.prog 50 #[v1, v2] u fun x w' => ∃ v, x = .returned (.tuple #[v, .int .i64 0]) ∧ RatR w' v (cf n) ∧ Grow u w') := Lib.hid (fun u v1 v2 g1 g2 => by
                rw [← hcf]
                exact quoQ _ _ v1 v2 (fun h => by rw [Rat.intCast_eq_zero_iff] at h; omega) hqb.1 hqb.2 u g1 g2)
              have HO9 := Lib.hid (HOW.out.butAt HBF.out hFg2)
              have HX9 := Lib.hid (HXW.out.but HBF.out)
              have HG9 : Hid (Grow u6 wr) := Lib.hid (((HGW.out.but _).trans HBF.out).asGrow (fun y hy => by have h1 := HZ6.out; have h2 := HFZ.out; omega))
              clear hqb hcf
              go_upto_region 21 with fail
              clear z1 z2
              refine region_flex (id := 21) wr [⟨7, 14, .cells #[.bool false, .slice none 0 0, .bool false, .slice none 0 0] 36⟩] [0, 1, 2, 3, 4, 5, 6] [8, 9] (kdL [1, 0, 2, 2, 0, 0, 0, 2, 3, 0]) (by kernel_rfl) (by kernel_rfl) (fun t ht => kdL_lt _ t ht) (by simp) (by simp) ?hgr ?halr ?_
              case hgr => (repeat (first | with_reducible exact Grow.refl _ | with_reducible refine Grow.alloc ?_ _ | with_reducible refine Grow.drew ?_ | with_reducible refine Grow.drewN ?_ _ | (with_reducible refine Grow.setCell ?_ ?hp _; (case hp => (simp; try omega))) | with_reducible refine Grow.trans ?_ (by assumption)))
              case halr => (intro x hx; simp only [List.mem_cons, List.not_mem_nil, or_false] at hx; subst hx; all_goals (refine ⟨⟨_, rfl, rfl⟩, fun K a u hK => ?_⟩; refine wpOp_step rfl (fun K' hK' => ?_); go_simp; exact hK' _ _ hK))
              refine flex_read (v := ?vr0) rfl rfl (fun t => Or.inl ⟨by rfl, ?hyr0⟩) ?_
              case hyr0 => (intro u hu; obtain ⟨d0, d1, d2, d3, d4, d5⟩ := DF.out u hu; simp only [aof, List.foldl_cons, List.foldl_nil, Act.put, List.setIfInBounds_toArray, List.set_cons_zero, List.set_cons_succ]; go_simp; (try with_reducible rfl))
              (try simp only [Act.put, List.setIfInBounds_toArray, List.set_cons_zero, List.set_cons_succ])
              refine flex_quiet (v := ?vr1) rfl rfl (fun t => Or.inl ⟨by rfl, ?hyr1⟩) ?_
              case hyr1 => (intro u hu; simp only [aof, List.foldl_cons, List.foldl_nil, Act.put, List.setIfInBounds_toArray, List.set_cons_zero, List.set_cons_succ]; go_simp; (try with_reducible rfl))
              (try simp only [Act.put, List.setIfInBounds_toArray, List.set_cons_zero, List.set_cons_succ])
              refine flex_op rfl rfl (fun t2 u2 hu2 K hK => ?_)
              simp only [aof, List.foldl_cons, List.foldl_nil, Act.put, List.setIfInBounds_toArray, List.set_cons_zero, List.set_cons_succ]
              go_simp
              (go_at_call 18; (with_reducible refine (OFN.out _).mono ?_); (rintro x u82 ⟨v82, rfl, hv82, hb82⟩; obtain ⟨s82, a82, l82, c82, t82, b82, k82, e82, rfl⟩ := hv82.form; have HV82 := Lib.hid hv82; clear hv82))
              (try go_wp2_with fail)
              refine hK.out _ (.agg #[.bool s82, .slice a82 l82 c82, .bool t82, .slice b82 k82 e82]) _ ?her2 ?hgr2 ?_
              case her2 => (simp only [aof, List.foldl_cons, List.foldl_nil, Act.put, List.setIfInBounds_toArray, List.set_cons_zero, List.set_cons_succ])
              case hgr2 => (repeat (first | with_reducible exact Grow.refl _ | with_reducible refine Grow.alloc ?_ _ | with_reducible refine Grow.drew ?_ | with_reducible refine Grow.drewN ?_ _ | (with_reducible refine Grow.setCell ?_ ?hp _; (case hp => (simp; try omega))) | with_reducible refine Grow.trans ?_ (by assumption)))
              clear hK K t2
              (try simp only [Act.put, List.setIfInBounds_toArray, List.set_cons_zero, List.set_cons_succ])
              refine flex_op rfl rfl (fun t3 u3 hu3 K hK => ?_)
              simp only [aof, List.foldl_cons, List.foldl_nil, Act.put, List.setIfInBounds_toArray, List.set_cons_zero, List.set_cons_succ]
              go_simp
              (go_at_call 50; (with_reducible refine (QU.out _ _ _ (HVN.out.grow (by (repeat (first | with_reducible exact Grow.refl _ | with_reducible refine Grow.alloc ?_ _ | with_reducible refine Grow.drew ?_ | with_reducible refine Grow.drewN ?_ _ | (with_reducible refine Grow.setCell ?_ ?hp _; (case hp => (simp; try omega))) | with_reducible refine Grow.trans ?_ (by assumption))))) (HV82.out.grow (by (repeat (first | with_reducible exact Grow.refl _ | with_reducible refine Grow.alloc ?_ _ | with_reducible refine Grow.drew ?_ | with_reducible refine Grow.drewN ?_ _ | (with_reducible refine Grow.setCell ?_ ?hp _; (case hp => (simp; try omega))) | with_reducible refine Grow.trans ?_ (by assumption)))))).mono ?_); (rintro x u83 ⟨v83, rfl, hv83, hb83⟩; obtain ⟨s83, a83, l83, c83, t83, b83, k83, e83, rfl⟩ := hv83.form; have HV83 := Lib.hid hv83; clear hv83))
              (try go_wp2_with fail)
              refine hK.out _ (.tuple #[.agg #[.bool s83, .slice a83 l83 c83, .bool t83, .slice b83 k83 e83], .int .i64 0]) _ ?her3 ?hgr3 ?_
              case her3 => (simp only [aof, List.foldl_cons, List.foldl_nil, Act.put, List.setIfInBounds_toArray, List.set_cons_zero, List.set_cons_succ])
              case hgr3 => (repeat (first | with_reducible exact Grow.refl _ | with_reducible refine Grow.alloc ?_ _ | with_reducible refine Grow.drew ?_ | with_reducible refine Grow.drewN ?_ _ | (with_reducible refine Grow.setCell ?_ ?hp _; (case hp => (simp; try omega))) | with_reducible refine Grow.trans ?_ (by assumption)))
              clear hK K t3
              (try simp only [Act.put, List.setIfInBounds_toArray, List.set_cons_zero, List.set_cons_succ])
              refine flex_quiet (v := ?vr4) rfl rfl (fun t => Or.inl ⟨by rfl, ?hyr4⟩) ?_
              case hyr4 => (intro u hu; simp only [aof, List.foldl_cons, List.foldl_nil, Act.put, List.setIfInBounds_toArray, List.set_cons_zero, List.set_cons_succ]; go_simp; (try with_reducible rfl))
              (try simp only [Act.put, List.setIfInBounds_toArray, List.set_cons_zero, List.set_cons_succ])
              refine flex_quiet (v := ?vr5) rfl rfl (fun t => Or.inl ⟨by rfl, ?hyr5⟩) ?_
              case hyr5 => (intro u hu; simp only [aof, List.foldl_cons, List.foldl_nil, Act.put, List.setIfInBounds_toArray, List.set_cons_zero, List.set_cons_succ]; go_simp; (try with_reducible rfl))
              (try simp only [Act.put, List.setIfInBounds_toArray, List.set_cons_zero, List.set_cons_succ])
              refine flex_quiet (v := ?vr6) rfl rfl (fun t => Or.inl ⟨by rfl, ?hyr6⟩) ?_
              case hyr6 => (intro u hu; simp only [aof, List.foldl_cons, List.foldl_nil, Act.put, List.setIfInBounds_toArray, List.set_cons_zero, List.set_cons_succ]; go_simp; (try with_reducible rfl))
              (try simp only [Act.put, List.setIfInBounds_toArray, List.set_cons_zero, List.set_cons_succ])
              refine flex_done (fun Fr ur hur hFr hNr => ?_)
              have hFr0 := hFr ⟨7, 14, .cells #[.bool false, .slice none 0 0, .bool false, .slice none 0 0] 36⟩ (by simp)
              clear hFr hNr
              (try simp only [aof, List.foldl_cons, List.foldl_nil, Act.put, List.setIfInBounds_toArray, List.set_cons_zero, List.set_cons_succ, ptrX])
              generalize Fr 7 = Fbr0 at *
              clear Fr
              have hFX := hFr0
              obtain ⟨hFx, hF1, hF2, hF3⟩ := hFr0
              obtain ⟨o0, o1, o2, o3, of, oz⟩ := ak4 rfl _ hF3
              rw [hF2] at o0 o1 o2 o3 of oz
              refine held_last rfl rfl (fun K hK => ?_)
              go_simp
              refine hK.out _ _ ?_
              clear hK K
              (try simp only [Act.put])
              refine held_quiet (v := ?vr9) rfl rfl (Or.inl ⟨by rfl, ?hyr9⟩) ?_
              case hyr9 => (intro u hu; go_simp; (try with_reducible rfl))
              (try simp only [Act.put])
              refine held_done ?_
              obtain ⟨hQ, hG⟩ := FrX.putR hFX (HV83.out.grow hur)
              obtain ⟨w20, hw20⟩ : ∃ w20, st4 ur Fbr0 0 (.bool s83) (.slice a83 l83 c83) (.bool t83) (.slice b83 k83 e83) = w20 := ⟨_, rfl⟩
              have hw21 : ((((ur.setCell ⟨Fbr0, 0, none⟩ (.bool s83)).setCell ⟨Fbr0, 1, none⟩ (.slice a83 l83 c83)).setCell ⟨Fbr0, 2, none⟩ (.bool t83)).setCell ⟨Fbr0, 3, none⟩ (.slice b83 k83 e83)) = w20 := hw20
              rw [hw20] at hQ hG
              rw [hw21]
              obtain ⟨s11, a11, l11, c11, t11, b11, k11, e11, ⟨p0, p1, p2, p3⟩, hv11⟩ := RowQ.at4 hQ (show 0 < 1 by omega)
              rw [Nat.zero_mul, Nat.add_zero] at p0 p1 p2 p3
              have HV11 := Lib.hid hv11
              have HO20 := Lib.hid (HO9.out.grow hG)
              have HX20 := Lib.hid (HX9.out.grow hG)
              have HG20 := Lib.hid (HG9.out.trans hG)
              have hZw : Z ≤ w20.heap.size := by rw [← HZ6.out]; exact HG20.out.size
              clear hw20 hw21 hQ hG hv11 hFX o0 o1 o2 o3 of oz hFx hF1 hF2 hF3 hur HV82 HV83
              go_simp
              go_wp2_with (at_builtin; refine wpList_append_g _ rfl _ _ 23 rfl 36 ir _ 4 64 Tryz.underlying23 hir irz0 irz1 irz2 rfl (by decide) rat_zero_nu (by decide) Z _ n xs rfl (HO20.out.grow ((Grow.refl w20).alloc _)) ⟨w20.heap.size, 0, none⟩ 1 [.bool s11, .slice a11 l11 c11, .bool t11, .slice b11 k11 e11] rfl rfl (rat_news w20 s11 a11 l11 c11 t11 b11 k11 e11 36) (rat_one s11 a11 l11 c11 t11 b11 k11 e11) (rat_nu s11 a11 l11 c11 t11 b11 k11 e11) (by omega) (Nat.le_trans hZw (by simp)) ?_)
              intro v9 w9 hown9 hb9
              obtain ⟨g9, c9, hv9, hg9a, hg9b⟩ := own_slice hown9.own (by omega)
              subst hv9
              have hxl := ((HX20.out.grow ((Grow.refl w20).alloc (.cells #[.bool s11, .slice a11 l11 c11, .bool t11, .slice b11 k11 e11] 36))).but hb9).append (((listr_one HV11.out).grow ((Grow.refl w20).alloc (.cells #[.bool s11, .slice a11 l11 c11, .bool t11, .slice b11 k11 e11] 36))).but hb9)
              have HXL := Lib.hid (hxl.cong (r' := cf) (fun j hj => by
                by_cases hjn : j < n
                · rw [if_pos hjn]
                · rw [if_neg hjn, show j = n by omega]))
              have HGL : Hid (Grow u6 w9) := Lib.hid (((HG20.out.alloc _).but _).trans hb9 |>.asGrow (fun b hb => by rw [HZ6.out]; exact hb))
              have HOL := Lib.hid hown9
              have E4 := Lib.hid (inc_wrap (i := n) (n := 100) (by omega) (by omega))
              clear hxl hb9 hown9 hg9a hg9b p0 p1 p2 p3
              obtain ⟨e4', e4''⟩ := E4.out
              go_wp2_with fail
              clear e4' e4''
              go_roundg (m - (k + 1))
              case measure => have := HGK2.out; have := HN.out; omega
              case rel => exact ⟨k + 1, n + 1, c9, g9, _, rfl, rfl, by have := HN.out; omega, Lib.hid rfl, Lib.hid (by rw [HN.out]), HGL, HOL, HXL⟩
            · have hil : i < n := by omega
              have z1 : decide (e ≤ n) = true := by simp; omega
              have z2 : decide ((e : Int) ≤ (n : Int)) = true := by simp; omega
              have he1 : 1 ≤ e := by omega
              have hep : e < p := by have := HP.out; omega
              have hmu := M2.out n e he1 (by omega) hnm
              have hsu := S2.out n i hil hnm
              have hsm : smR sf cf n (i + 1) = smR sf cf n i - sf (i + 1) * cf (n - (i + 1)) := rfl
              rw [← he] at hsu hsm
              obtain ⟨f2, hf2⟩ : ∃ f2, n - e = f2 := ⟨_, rfl⟩
              have hf2n : f2 < n := by omega
              have E2 := Lib.hid (w64m f2 (by omega) (z := (n : Int) - (e : Int)) (by omega))
              rw [hf2] at hmu hsu hsm
              obtain ⟨s5, a5, l5, c5, t5, b5, k5, e5, ⟨r0, r1, r2, r3⟩, hvr⟩ := (RowP.but HSW.out hFg HBF.out).at4 e hep
              rw [Nat.zero_add] at r0 r1 r2 r3
              have HVR := Lib.hid (hvr (sf e) (if_pos he1))
              have hlg := (RowP.but HSW.out hFg HBF.out).lt
              have DG := Lib.hid (fun (u : World) (hg : Grow wr u) => (⟨(hg.cells _ _ hlg).trans r0, (hg.cells _ _ hlg).trans r1, (hg.cells _ _ hlg).trans r2, (hg.cells _ _ hlg).trans r3⟩ : _ ∧ _ ∧ _ ∧ _))
              obtain ⟨s8, a8, l8, c8, t8, b8, k8, e8, ⟨x0, x1, x2, x3⟩, hvx⟩ := RowQ.at4 (RowP.but HCW.out hFg2 HBF.out) hf2n
              rw [Nat.zero_add] at x0 x1 x2 x3
              have HVX := Lib.hid hvx
              have hlx := (RowP.but HCW.out hFg2 HBF.out).lt
              have DX := Lib.hid (fun (u : World) (hg : Grow wr u) => (⟨(hg.cells _ _ hlx).trans x0, (hg.cells _ _ hlx).trans x1, (hg.cells _ _ hlx).trans x2, (hg.cells _ _ hlx).trans x3⟩ : _ ∧ _ ∧ _ ∧ _))
              have MU : Hid (∀ (u : World) (v1 v2 : Value), RatR u v1 (sf e) → RatR u v2 (cf f2) → Calls Tryz.prog 10 #[v1, v2] u fun x w' => ∃ v, x = .returned v ∧ RatR w' v (sf e * cf f2) ∧ Grow u w') := Lib.hid (fun u v1 v2 g1 g2 => mulQ _ _ v1 v2 hmu.1 hmu.2 u g1 g2)
              have SU : Hid (∀ (u : World) (v1 v2 : Value), RatR u v1 (smR sf cf n i) → RatR u v2 (sf e * cf f2) → Calls Tryz.prog 9 #[v1, v2] u fun x w' => ∃ v, x = .returned v ∧ RatR w' v (smR sf cf n e) ∧ Grow u w') := Lib.hid (fun u v1 v2 g1 g2 => by rw [hsm]; exact subQ _ _ v1 v2 hsu u g1 g2)
              have HST := Lib.hid (fun (u : World) (hu : Grow wr u) (s : Bool) (a : Option Addr) (l' c' : Nat) (t : Bool) (b : Option Addr) (k' e' : Nat) (hx : RatR u (.agg #[.bool s, .slice a l' c', .bool t, .slice b k' e']) (smR sf cf n e)) => (⟨RowP.set (RowP.grow HRF.out hu) (show 0 < 1 by omega) hx, But.st4 (X := fun b => b = F) (hu.but _) (.inr rfl) ((RowP.grow HRF.out hu).q4 (show 0 < 1 by omega)) s a l' c' t b k' e'⟩ : _ ∧ _))
              simp only [Nat.zero_mul, Nat.add_zero] at HST
              have E4 := Lib.hid (inc_wrap (i := e) (n := 100) (by omega) (by omega))
              have q0 : (0 : Int) ≤ (e : Int) := by omega
              have q2 : (e : Int) < (p : Int) := by omega
              have q3 : (0 : Int) ≤ (f2 : Int) := by omega
              have q4 : (f2 : Int) < (n : Int) := by omega
              clear he hmu hsu hsm hf2 r0 r1 r2 r3 hvr x0 x1 x2 x3 hvx hin
              go_upto_region 20 with fail
              obtain ⟨e2, e2'⟩ := E2.out
              refine region_held (id := 20) (fun u => Grow wr u) [0, 1, 2, 3, 4, 5, 6, 7, 8, 9, 10, 11, 12, 13] (kdL [1, 0, 0, 0, 1, 0, 0, 0, 0, 0, 1, 2, 2, 3]) (by kernel_rfl) (by kernel_rfl) (fun t ht => kdL_lt _ t ht) ?hS0c ?_
              case hS0c => ((try dsimp only); (repeat (first | with_reducible exact Grow.refl _ | with_reducible refine Grow.alloc ?_ _ | with_reducible refine Grow.drew ?_ | with_reducible refine Grow.drewN ?_ _ | (with_reducible refine Grow.setCell ?_ ?hp _; (case hp => (simp; try omega))) | with_reducible refine Grow.trans ?_ (by assumption))))
              refine held_read (v := ?vc0) rfl rfl (Or.inl ⟨by rfl, ?hyc0⟩) ?_
              case hyc0 => (intro u hu; obtain ⟨d0, d1, d2, d3, d4, d5⟩ := DF.out u hu; obtain ⟨r0, r1, r2, r3⟩ := DG.out u hu; obtain ⟨x0, x1, x2, x3⟩ := DX.out u hu; go_simp; (try with_reducible rfl))
              (try simp only [Act.put, List.setIfInBounds_toArray, List.set_cons_zero, List.set_cons_succ])
              refine held_quiet (v := ?vc1) rfl rfl (Or.inl ⟨by rfl, ?hyc1⟩) ?_
              case hyc1 => (intro u hu; go_simp; (try with_reducible rfl))
              (try simp only [Act.put, List.setIfInBounds_toArray, List.set_cons_zero, List.set_cons_succ])
              refine held_quiet (v := ?vc2) rfl rfl (Or.inl ⟨by rfl, ?hyc2⟩) ?_
              case hyc2 => (intro u hu; go_simp; (try with_reducible rfl))
              (try simp only [Act.put, List.setIfInBounds_toArray, List.set_cons_zero, List.set_cons_succ])
              refine held_quiet (v := ?vc3) rfl rfl (Or.inl ⟨by rfl, ?hyc3⟩) ?_
              case hyc3 => (intro u hu; go_simp; (try with_reducible rfl))
              (try simp only [Act.put, List.setIfInBounds_toArray, List.set_cons_zero, List.set_cons_succ])
              refine held_read (v := ?vc4) rfl rfl (Or.inl ⟨by rfl, ?hyc4⟩) ?_
              case hyc4 => (intro u hu; obtain ⟨d0, d1, d2, d3, d4, d5⟩ := DF.out u hu; obtain ⟨r0, r1, r2, r3⟩ := DG.out u hu; obtain ⟨x0, x1, x2, x3⟩ := DX.out u hu; go_simp; (try with_reducible rfl))
              (try simp only [Act.put, List.setIfInBounds_toArray, List.set_cons_zero, List.set_cons_succ])
              refine held_quiet (v := ?vc5) rfl rfl (Or.inl ⟨by rfl, ?hyc5⟩) ?_
              case hyc5 => (intro u hu; go_simp; (try with_reducible rfl))
              (try simp only [Act.put, List.setIfInBounds_toArray, List.set_cons_zero, List.set_cons_succ])
              refine held_quiet (v := ?vc6) rfl rfl (Or.inl ⟨by rfl, ?hyc6⟩) ?_
              case hyc6 => (intro u hu; go_simp; (try with_reducible rfl))
              (try simp only [Act.put, List.setIfInBounds_toArray, List.set_cons_zero, List.set_cons_succ])
              refine held_quiet (v := ?vc7) rfl rfl (Or.inl ⟨by rfl, ?hyc7⟩) ?_
              case hyc7 => (intro u hu; go_simp; (try with_reducible rfl))
              (try simp only [Act.put, List.setIfInBounds_toArray, List.set_cons_zero, List.set_cons_succ])
              refine held_quiet (v := ?vc8) rfl rfl (Or.inl ⟨by rfl, ?hyc8⟩) ?_
              case hyc8 => (intro u hu; go_simp; (try with_reducible rfl))
              (try simp only [Act.put, List.setIfInBounds_toArray, List.set_cons_zero, List.set_cons_succ])
              refine held_quiet (v := ?vc9) rfl rfl (Or.inl ⟨by rfl, ?hyc9⟩) ?_
              case hyc9 => (intro u hu; go_simp; (try with_reducible rfl))
              (try simp only [Act.put, List.setIfInBounds_toArray, List.set_cons_zero, List.set_cons_succ])
              refine held_read (v := ?vc10) rfl rfl (Or.inl ⟨by rfl, ?hyc10⟩) ?_
              case hyc10 => (intro u hu; obtain ⟨d0, d1, d2, d3, d4, d5⟩ := DF.out u hu; obtain ⟨r0, r1, r2, r3⟩ := DG.out u hu; obtain ⟨x0, x1, x2, x3⟩ := DX.out u hu; go_simp; (try with_reducible rfl))
              (try simp only [Act.put, List.setIfInBounds_toArray, List.set_cons_zero, List.set_cons_succ])
              refine held_op rfl rfl (fun K hK => ?_)
              go_simp
              (go_at_call 10; (with_reducible refine (MU.out _ _ _ (HVR.out.grow (by (repeat (first | with_reducible exact Grow.refl _ | with_reducible refine Grow.alloc ?_ _ | with_reducible refine Grow.drew ?_ | with_reducible refine Grow.drewN ?_ _ | (with_reducible refine Grow.setCell ?_ ?hp _; (case hp => (simp; try omega))) | with_reducible refine Grow.trans ?_ (by assumption))))) (HVX.out.grow (by (repeat (first | with_reducible exact Grow.refl _ | with_reducible refine Grow.alloc ?_ _ | with_reducible refine Grow.drew ?_ | with_reducible refine Grow.drewN ?_ _ | (with_reducible refine Grow.setCell ?_ ?hp _; (case hp => (simp; try omega))) | with_reducible refine Grow.trans ?_ (by assumption)))))).mono ?_); (rintro x u31 ⟨v71, rfl, hv71, hb71⟩; obtain ⟨s71, a71, l71, c71, t71, b71, k71, e71, rfl⟩ := hv71.form; have HV71 := Lib.hid hv71; clear hv71))
              (try go_wp2_with fail)
              refine hK.out _ _ ?hSc11 ?_
              case hSc11 => ((try dsimp only); (repeat (first | with_reducible exact Grow.refl _ | with_reducible refine Grow.alloc ?_ _ | with_reducible refine Grow.drew ?_ | with_reducible refine Grow.drewN ?_ _ | (with_reducible refine Grow.setCell ?_ ?hp _; (case hp => (simp; try omega))) | with_reducible refine Grow.trans ?_ (by assumption))))
              clear hK K
              (try simp only [Act.put, List.setIfInBounds_toArray, List.set_cons_zero, List.set_cons_succ])
              refine held_op rfl rfl (fun K hK => ?_)
              go_simp
              (go_at_call 9; (with_reducible refine (SU.out _ _ _ (HVP.out.grow (by (repeat (first | with_reducible exact Grow.refl _ | with_reducible refine Grow.alloc ?_ _ | with_reducible refine Grow.drew ?_ | with_reducible refine Grow.drewN ?_ _ | (with_reducible refine Grow.setCell ?_ ?hp _; (case hp => (simp; try omega))) | with_reducible refine Grow.trans ?_ (by assumption))))) (HV71.out.grow (by (repeat (first | with_reducible exact Grow.refl _ | with_reducible refine Grow.alloc ?_ _ | with_reducible refine Grow.drew ?_ | with_reducible refine Grow.drewN ?_ _ | (with_reducible refine Grow.setCell ?_ ?hp _; (case hp => (simp; try omega))) | with_reducible refine Grow.trans ?_ (by assumption)))))).mono ?_); (rintro x u32 ⟨v72, rfl, hv72, hb72⟩; obtain ⟨s72, a72, l72, c72, t72, b72, k72, e72, rfl⟩ := hv72.form; have HV72 := Lib.hid hv72; clear hv72; obtain ⟨d0, d1, d2, d3, d4, d5⟩ := DF.out u32 (by (repeat (first | with_reducible exact Grow.refl _ | with_reducible refine Grow.alloc ?_ _ | with_reducible refine Grow.drew ?_ | with_reducible refine Grow.drewN ?_ _ | (with_reducible refine Grow.setCell ?_ ?hp _; (case hp => (simp; try omega))) | with_reducible refine Grow.trans ?_ (by assumption))))))
              (try go_wp2_with fail)
              refine hK.out _ _ ?hSc12 ?_
              case hSc12 => ((try dsimp only); (repeat (first | with_reducible exact Grow.refl _ | with_reducible refine Grow.alloc ?_ _ | with_reducible refine Grow.drew ?_ | with_reducible refine Grow.drewN ?_ _ | (with_reducible refine Grow.setCell ?_ ?hp _; (case hp => (simp; try omega))) | with_reducible refine Grow.trans ?_ (by assumption))))
              clear hK K
              (try simp only [Act.put, List.setIfInBounds_toArray, List.set_cons_zero, List.set_cons_succ])
              refine held_last rfl rfl (fun K hK => ?_)
              go_simp
              refine hK.out _ _ ?_
              clear hK K
              (try simp only [Act.put, List.setIfInBounds_toArray, List.set_cons_zero, List.set_cons_succ])
              refine held_done ?_
              clear e2 e2'
              obtain ⟨hst1, hst2⟩ := HST.out u32 (by (repeat (first | with_reducible exact Grow.refl _ | with_reducible refine Grow.alloc ?_ _ | with_reducible refine Grow.drew ?_ | with_reducible refine Grow.drewN ?_ _ | (with_reducible refine Grow.setCell ?_ ?hp _; (case hp => (simp; try omega))) | with_reducible refine Grow.trans ?_ (by assumption)))) _ _ _ _ _ _ _ _ HV72.out
              obtain ⟨e4', e4''⟩ := E4.out
              go_simp
              go_wp2_with fail
              clear e4' e4''
              go_roundg (n - (i + 1))
              case measure => have := HGK3.out; omega
              case rel => exact ⟨i + 1, e + 1, rfl, hil, Lib.hid rfl, Lib.hid (by rw [HE3.out]), Lib.hid (RowP.mono hst1 (Nat.le_refl _) (fun j x hj hx => by rw [if_pos (by omega), HE3.out]; exact hx)), Lib.hid (HBF.out.trans hst2)⟩
    · have hdl : d < m := by omega
      have y1 : decide (e ≤ m) = true := by simp; omega
      have y2 : decide ((e : Int) ≤ (m : Int)) = true := by simp; omega
      have hmul := HH.out.mul1 e (by omega) (by omega)
      have OF := Lib.hid (fun u => ofQ (e : Int) (by omega) u)
      have hpt : ptR c e = ((e : Int) : Rat) * c (e - 1) := rfl
      obtain ⟨pt, hpt2⟩ : ∃ pt, ptR c e = pt := ⟨_, rfl⟩
      rw [hpt2] at hpt
      have MU : Hid (∀ (u : World) (v1 v2 : Value), RatR u v1 ((e : Int) : Rat) → RatR u v2 (c (e - 1)) → Calls Tryz.prog 10 #[v1, v2] u fun x w' => ∃ v, x = .returned v ∧ RatR w' v pt ∧ Grow u w') :=
        Lib.hid (fun u v1 v2 g1 g2 => by rw [hpt]; exact mulQ _ _ v1 v2 hmul.1 hmul.2 u g1 g2)
      obtain ⟨f, hf⟩ : ∃ f, e - 1 = f := ⟨_, rfl⟩
      have hfm : f < m := by omega
      have E2 := Lib.hid (w64m f (by omega) (z := (e : Int) - 1) (by omega))
      rw [hf] at MU
      obtain ⟨s3, a3, l3, c3, t3, b3, k3, e3, ⟨p0, p1, p2, p3⟩, hvb⟩ := RowQ.at4 HA.out hfm
      rw [Nat.zero_add] at p0 p1 p2 p3
      have HVB := Lib.hid (fun (u : World) (hu : Grow wr u) => hvb.grow (hg1.trans (HGR.out.trans hu)))
      have KC := Lib.hid (fun (u : World) (hu : Grow wr u) => (fun (hg : Grow w u) => (⟨(hg.cells _ _ hlB).trans p0, (hg.cells _ _ hlB).trans p1, (hg.cells _ _ hlB).trans p2, (hg.cells _ _ hlB).trans p3⟩ : _ ∧ _ ∧ _ ∧ _)) (hg1.trans (HGR.out.trans hu)))
      have HPT := Lib.hid hpt2
      have HF := Lib.hid hf
      have q0 : (0 : Int) ≤ (f : Int) := by omega
      have q2 : (f : Int) < (m : Int) := by omega
      clear he hdm hmul hpt hpt2 hf p0 p1 p2 p3 hvb
      go_upto_region 7 with fail
      obtain ⟨e2, e2'⟩ := E2.out
      refine region_flex (id := 7) wr [⟨8, 8, .cells #[.bool false, .slice none 0 0, .bool false, .slice none 0 0] 36⟩] [0, 2, 3, 4, 5, 6, 1, 7] [9] (kdL [0, 2, 0, 0, 0, 0, 1, 2, 2, 3]) (by kernel_rfl) (by kernel_rfl) (fun t ht => kdL_lt _ t ht) (by simp) (by simp) ?hgq ?halq ?_
      case hgq => (repeat (first | with_reducible exact Grow.refl _ | with_reducible refine Grow.alloc ?_ _ | with_reducible refine Grow.drew ?_ | with_reducible refine Grow.drewN ?_ _ | (with_reducible refine Grow.setCell ?_ ?hp _; (case hp => (simp; try omega))) | with_reducible refine Grow.trans ?_ (by assumption)))
      case halq => (intro x hx; simp only [List.mem_cons, List.not_mem_nil, or_false] at hx; subst hx; all_goals (refine ⟨⟨_, rfl, rfl⟩, fun K a u hK => ?_⟩; refine wpOp_step rfl (fun K' hK' => ?_); go_simp; exact hK' _ _ hK))
      refine flex_quiet (v := ?vq0) rfl rfl (fun t => Or.inl ⟨by rfl, ?hyq0⟩) ?_
      case hyq0 => (intro u hu; simp only [aof, List.foldl_cons, List.foldl_nil, Act.put, List.setIfInBounds_toArray, List.set_cons_zero, List.set_cons_succ]; go_simp; (try with_reducible rfl))
      (try simp only [Act.put, List.setIfInBounds_toArray, List.set_cons_zero, List.set_cons_succ])
      refine flex_quiet (v := ?vq2) rfl rfl (fun t => Or.inl ⟨by rfl, ?hyq2⟩) ?_
      case hyq2 => (intro u hu; simp only [aof, List.foldl_cons, List.foldl_nil, Act.put, List.setIfInBounds_toArray, List.set_cons_zero, List.set_cons_succ]; go_simp; (try with_reducible rfl))
      (try simp only [Act.put, List.setIfInBounds_toArray, List.set_cons_zero, List.set_cons_succ])
      refine flex_quiet (v := ?vq3) rfl rfl (fun t => Or.inl ⟨by rfl, ?hyq3⟩) ?_
      case hyq3 => (intro u hu; simp only [aof, List.foldl_cons, List.foldl_nil, Act.put, List.setIfInBounds_toArray, List.set_cons_zero, List.set_cons_succ]; go_simp; (try with_reducible rfl))
      (try simp only [Act.put, List.setIfInBounds_toArray, List.set_cons_zero, List.set_cons_succ])
      refine flex_quiet (v := ?vq4) rfl rfl (fun t => Or.inl ⟨by rfl, ?hyq4⟩) ?_
      case hyq4 => (intro u hu; simp only [aof, List.foldl_cons, List.foldl_nil, Act.put, List.setIfInBounds_toArray, List.set_cons_zero, List.set_cons_succ]; go_simp; (try with_reducible rfl))
      (try simp only [Act.put, List.setIfInBounds_toArray, List.set_cons_zero, List.set_cons_succ])
      refine flex_quiet (v := ?vq5) rfl rfl (fun t => Or.inl ⟨by rfl, ?hyq5⟩) ?_
      case hyq5 => (intro u hu; simp only [aof, List.foldl_cons, List.foldl_nil, Act.put, List.setIfInBounds_toArray, List.set_cons_zero, List.set_cons_succ]; go_simp; (try with_reducible rfl))
      (try simp only [Act.put, List.setIfInBounds_toArray, List.set_cons_zero, List.set_cons_succ])
      refine flex_read (v := ?vq6) rfl rfl (fun t => Or.inl ⟨by rfl, ?hyq6⟩) ?_
      case hyq6 => (intro u hu; obtain ⟨f0, f1, f2, f3⟩ := KC.out u hu; simp only [aof, List.foldl_cons, List.foldl_nil, Act.put, List.setIfInBounds_toArray, List.set_cons_zero, List.set_cons_succ]; go_simp; (try with_reducible rfl))
      (try simp only [Act.put, List.setIfInBounds_toArray, List.set_cons_zero, List.set_cons_succ])
      refine flex_op rfl rfl (fun t1 u1 hu1 K hK => ?_)
      simp only [aof, List.foldl_cons, List.foldl_nil, Act.put, List.setIfInBounds_toArray, List.set_cons_zero, List.set_cons_succ]
      go_simp
      (go_at_call 18; (with_reducible refine (OF.out _).mono ?_); (rintro x u51 ⟨v51, rfl, hv51, hb51⟩; obtain ⟨s51, a51, l51, c51, t51, b51, k51, e51, rfl⟩ := hv51.form; have HV51 := Lib.hid hv51; clear hv51))
      (try go_wp2_with fail)
      refine hK.out _ (.agg #[.bool s51, .slice a51 l51 c51, .bool t51, .slice b51 k51 e51]) _ ?heq1 ?hgq1 ?_
      case heq1 => (simp only [aof, List.foldl_cons, List.foldl_nil, Act.put, List.setIfInBounds_toArray, List.set_cons_zero, List.set_cons_succ])
      case hgq1 => (repeat (first | with_reducible exact Grow.refl _ | with_reducible refine Grow.alloc ?_ _ | with_reducible refine Grow.drew ?_ | with_reducible refine Grow.drewN ?_ _ | (with_reducible refine Grow.setCell ?_ ?hp _; (case hp => (simp; try omega))) | with_reducible refine Grow.trans ?_ (by assumption)))
      clear hK K t1
      (try simp only [Act.put, List.setIfInBounds_toArray, List.set_cons_zero, List.set_cons_succ])
      refine flex_op rfl rfl (fun t7 u7 hu7 K hK => ?_)
      simp only [aof, List.foldl_cons, List.foldl_nil, Act.put, List.setIfInBounds_toArray, List.set_cons_zero, List.set_cons_succ]
      go_simp
      (go_at_call 10; (with_reducible refine (MU.out _ _ _ (HV51.out.grow (by (repeat (first | with_reducible exact Grow.refl _ | with_reducible refine Grow.alloc ?_ _ | with_reducible refine Grow.drew ?_ | with_reducible refine Grow.drewN ?_ _ | (with_reducible refine Grow.setCell ?_ ?hp _; (case hp => (simp; try omega))) | with_reducible refine Grow.trans ?_ (by assumption))))) (HVB.out _ (by (repeat (first | with_reducible exact Grow.refl _ | with_reducible refine Grow.alloc ?_ _ | with_reducible refine Grow.drew ?_ | with_reducible refine Grow.drewN ?_ _ | (with_reducible refine Grow.setCell ?_ ?hp _; (case hp => (simp; try omega))) | with_reducible refine Grow.trans ?_ (by assumption)))))).mono ?_); (rintro x u57 ⟨v57, rfl, hv57, hb57⟩; obtain ⟨s57, a57, l57, c57, t57, b57, k57, e57, rfl⟩ := hv57.form; have HV57 := Lib.hid hv57; clear hv57))
      (try go_wp2_with fail)
      refine hK.out _ (.agg #[.bool s57, .slice a57 l57 c57, .bool t57, .slice b57 k57 e57]) _ ?heq7 ?hgq7 ?_
      case heq7 => (simp only [aof, List.foldl_cons, List.foldl_nil, Act.put, List.setIfInBounds_toArray, List.set_cons_zero, List.set_cons_succ])
      case hgq7 => (repeat (first | with_reducible exact Grow.refl _ | with_reducible refine Grow.alloc ?_ _ | with_reducible refine Grow.drew ?_ | with_reducible refine Grow.drewN ?_ _ | (with_reducible refine Grow.setCell ?_ ?hp _; (case hp => (simp; try omega))) | with_reducible refine Grow.trans ?_ (by assumption)))
      clear hK K t7
      (try simp only [Act.put, List.setIfInBounds_toArray, List.set_cons_zero, List.set_cons_succ])
      refine flex_done (fun Fq uq huq hFq hNq => ?_)
      have hFq0 := hFq ⟨8, 8, .cells #[.bool false, .slice none 0 0, .bool false, .slice none 0 0] 36⟩ (by simp)
      clear hFq hNq
      (try simp only [aof, List.foldl_cons, List.foldl_nil, Act.put, List.setIfInBounds_toArray, List.set_cons_zero, List.set_cons_succ, ptrX])
      generalize Fq 8 = Fbq0 at *
      clear Fq
      have hFX := hFq0
      obtain ⟨hFx, hF1, hF2, hF3⟩ := hFq0
      obtain ⟨o0, o1, o2, o3, of, oz⟩ := ak4 rfl _ hF3
      rw [hF2] at o0 o1 o2 o3 of oz
      refine held_last rfl rfl (fun K hK => ?_)
      go_simp
      refine hK.out _ _ ?_
      clear hK K
      (try simp only [Act.put])
      refine held_done ?_
      clear e2 e2'
      obtain ⟨hQ, hG⟩ := FrX.putR hFX (HV57.out.grow huq)
      have hFw : wr.heap.size ≤ Fbq0 := by have := hF1.size; omega
      obtain ⟨F, hFF⟩ : ∃ F, Fbq0 = F := ⟨_, rfl⟩
      rw [hFF] at hQ hG hFw
      rw [hFF]
      obtain ⟨w10, hw10⟩ : ∃ w10, st4 uq F 0 (.bool s57) (.slice a57 l57 c57) (.bool t57) (.slice b57 k57 e57) = w10 := ⟨_, rfl⟩
      have hw11 : ((((uq.setCell ⟨F, 0, none⟩ (.bool s57)).setCell ⟨F, 1, none⟩ (.slice a57 l57 c57)).setCell ⟨F, 2, none⟩ (.bool t57)).setCell ⟨F, 3, none⟩ (.slice b57 k57 e57)) = w10 := hw10
      rw [hw10] at hQ hG
      rw [hw11]
      have hgF : ¬ F = g := by have := HR.out.lt; omega
      have HQ := Lib.hid hQ
      have HG := Lib.hid hG
      have HRW := Lib.hid (sO_in HE.out (RowP.grow HR.out hG))
      have HZW : Hid (e = 1 → ZRow w10 g p e) := Lib.hid (fun h1 => ((HZ.out (by have := HE.out; omega)).grow hG HR.out.lt).mono (Nat.zero_le _))
      have he1 : 1 ≤ e := by have := HE.out; omega
      have hem : e ≤ m := by have := HE.out; omega
      clear hw10 hw11 hQ hG hFX o0 o1 o2 o3 of oz hFx hF1 hF2 hF3 huq HV51 HV57 hFF hFw q0 q2
      go_simp
      go_wp2_with fail
      go_loopg [9] m (fun gk2 t9 wq => ∃ n : Nat, t9 = .int .i64 (n : Int) ∧ 1 ≤ n ∧ n ≤ m + e ∧ Hid (gk2 = m + e - n) ∧ Hid (n % e = 0) ∧ Hid (RowP wq g 0 p (sO (decide (2 ≤ e)) n (rM c e n))) ∧ Hid (e = 1 → ZRow wq g p n) ∧ Hid (RowQ wq F 0 1 (fun _ => pt)) ∧ Hid (But (fun y => y = g) w10 wq))
      case atStart => exact ⟨e, rfl, he1, by omega, Lib.hid (by omega), Lib.hid (Nat.mod_self _), HRW, HZW, HQ, Lib.hid (But.refl _ _)⟩
      case round =>
        clear HRW HZW HQ
        obtain ⟨n, rfl, hn1, hn2, HGK2, HNE, HRN, HZN, HQN, HBN⟩ := hrel
        by_cases hnm : m < n
        · have z1 : decide (n ≤ m) = false := by simp; omega
          have z2 : decide ((n : Int) ≤ (m : Int)) = false := by simp; omega
          have E4 := Lib.hid (inc_wrap (i := e) (n := 100) (by omega) (by omega))
          obtain ⟨e4, e4'⟩ := E4.out
          go_wp2_with fail
          clear e4 e4'
          go_roundg (m - (d + 1))
          case measure => have := HGK.out; omega
          case rel => exact ⟨d + 1, e + 1, rfl, by omega, Lib.hid rfl, Lib.hid (by rw [HE.out]), Lib.hid (by have := HE.out; rw [← this]; exact sO_out (by have := HP.out; omega) HRN.out), Lib.hid (fun h => by omega), Lib.hid ((HB.out.trans (HG.out.but _)).trans HBN.out)⟩
        · have hnm : n ≤ m := by omega
          have z1 : decide (n ≤ m) = true := by simp; omega
          have z2 : decide ((n : Int) ≤ (m : Int)) = true := by simp; omega
          have hnp : n < p := by have := HP.out; omega
          have q0 : (0 : Int) ≤ (n : Int) := by omega
          have q2 : (n : Int) < (p : Int) := by omega
          obtain ⟨s4, a4, l4, c4, t4, b4, k4, e4, ⟨p0, p1, p2, p3⟩, hvp⟩ := RowQ.at4 HQN.out (show 0 < 1 by omega)
          rw [Nat.zero_mul, Nat.add_zero] at p0 p1 p2 p3
          have HVP := Lib.hid hvp
          have hlF := HQN.out.lt
          have hlg := HRN.out.lt
          have hfg := HRN.out.free
          have DF := Lib.hid (fun (u : World) (hg : Grow wr u) => (⟨(hg.cells _ _ hlF).trans p0, (hg.cells _ _ hlF).trans p1, (hg.cells _ _ hlF).trans p2, (hg.cells _ _ hlF).trans p3⟩ : _ ∧ _ ∧ _ ∧ _))
          obtain ⟨X, hX⟩ : ∃ X, rS c (e - 1) n + ptR c e = X := ⟨_, rfl⟩
          have HST := Lib.hid (fun (u : World) (hu : Grow wr u) (s : Bool) (a : Option Addr) (l' c' : Nat) (t : Bool) (b : Option Addr) (k' e' : Nat) (hx : RatR u (.agg #[.bool s, .slice a l' c', .bool t, .slice b k' e']) X) => (⟨RowP.set (RowP.grow HRN.out hu) hnp hx, But.st4 (X := fun b => b = g) (hu.but _) (.inr rfl) ((RowP.grow HRN.out hu).q4 hnp) s a l' c' t b k' e'⟩ : _ ∧ _))
          simp only [Nat.zero_add] at HST
          have HX := Lib.hid hX
          obtain ⟨ne, hne⟩ : ∃ ne, n + e = ne := ⟨_, rfl⟩
          have E5 := Lib.hid (w64m ne (by omega) (z := (n : Int) + (e : Int)) (by omega))
          have HNX := Lib.hid hne
          have AQ := Lib.hid (HH.out.add1 e n)
          have HGF := Lib.hid hgF
          clear p0 p1 p2 p3 hvp hX hne hgF
          by_cases he2 : e = 1
          · obtain ⟨r0, r1, r2, r3⟩ := HZN.out he2 n (Nat.le_refl _) hnp
            have DG := Lib.hid (fun (u : World) (hg : Grow wr u) => (⟨(hg.cells _ _ hlg).trans r0, (hg.cells _ _ hlg).trans r1, (hg.cells _ _ hlg).trans r2, (hg.cells _ _ hlg).trans r3, fun o => (hg.frees _ _ hlg).trans (hfg o), Nat.lt_of_lt_of_le hlg hg.size⟩ : _ ∧ _ ∧ _ ∧ _ ∧ (∀ o, u.frozen? ⟨g, o, none⟩ = false) ∧ _))
            have hXp : X = pt := by rw [← HX.out, ← HPT.out, he2]; exact Rat.zero_add _
            have AD : Hid (∀ (u : World) (v2 : Value), RatR u v2 pt → Calls Tryz.prog 21 #[.agg #[.bool false, .slice none 0 0, .bool false, .slice none 0 0], v2] u fun x w' => ∃ v, x = .returned v ∧ RatR w' v X ∧ Grow u w') := Lib.hid (fun u v2 h => by rw [hXp]; exact add0Q pt v2 u h)
            have HE2 := Lib.hid he2
            clear r0 r1 r2 r3 hXp he2 hfg
            go_upto_region 11 with fail
            refine region_held (id := 11) (fun u => Grow wr u) [0, 1, 2, 3, 4, 5, 6, 7, 8, 9] (kdL [0, 0, 0, 0, 0, 1, 1, 2, 0, 3]) (by kernel_rfl) (by kernel_rfl) (fun t ht => kdL_lt _ t ht) ?hS0a ?_
            case hS0a => ((try dsimp only); (repeat (first | with_reducible exact Grow.refl _ | with_reducible refine Grow.alloc ?_ _ | with_reducible refine Grow.drew ?_ | with_reducible refine Grow.drewN ?_ _ | (with_reducible refine Grow.setCell ?_ ?hp _; (case hp => (simp; try omega))) | with_reducible refine Grow.trans ?_ (by assumption))))
            refine held_quiet (v := ?va0) rfl rfl (Or.inl ⟨by rfl, ?hya0⟩) ?_
            case hya0 => (intro u hu; go_simp; (try with_reducible rfl))
            (try simp only [Act.put, List.setIfInBounds_toArray, List.set_cons_zero, List.set_cons_succ])
            refine held_quiet (v := ?va1) rfl rfl (Or.inl ⟨by rfl, ?hya1⟩) ?_
            case hya1 => (intro u hu; go_simp; (try with_reducible rfl))
            (try simp only [Act.put, List.setIfInBounds_toArray, List.set_cons_zero, List.set_cons_succ])
            refine held_quiet (v := ?va2) rfl rfl (Or.inl ⟨by rfl, ?hya2⟩) ?_
            case hya2 => (intro u hu; go_simp; (try with_reducible rfl))
            (try simp only [Act.put, List.setIfInBounds_toArray, List.set_cons_zero, List.set_cons_succ])
            refine held_quiet (v := ?va3) rfl rfl (Or.inl ⟨by rfl, ?hya3⟩) ?_
            case hya3 => (intro u hu; go_simp; (try with_reducible rfl))
            (try simp only [Act.put, List.setIfInBounds_toArray, List.set_cons_zero, List.set_cons_succ])
            refine held_quiet (v := ?va4) rfl rfl (Or.inl ⟨by rfl, ?hya4⟩) ?_
            case hya4 => (intro u hu; go_simp; (try with_reducible rfl))
            (try simp only [Act.put, List.setIfInBounds_toArray, List.set_cons_zero, List.set_cons_succ])
            refine held_read (v := ?va5) rfl rfl (Or.inl ⟨by rfl, ?hya5⟩) ?_
            case hya5 => (intro u hu; obtain ⟨d0, d1, d2, d3, d4, d5⟩ := DG.out u hu; obtain ⟨f0, f1, f2, f3⟩ := DF.out u hu; go_simp; (try with_reducible rfl))
            (try simp only [Act.put, List.setIfInBounds_toArray, List.set_cons_zero, List.set_cons_succ])
            refine held_read (v := ?va6) rfl rfl (Or.inl ⟨by rfl, ?hya6⟩) ?_
            case hya6 => (intro u hu; obtain ⟨d0, d1, d2, d3, d4, d5⟩ := DG.out u hu; obtain ⟨f0, f1, f2, f3⟩ := DF.out u hu; go_simp; (try with_reducible rfl))
            (try simp only [Act.put, List.setIfInBounds_toArray, List.set_cons_zero, List.set_cons_succ])
            refine held_op rfl rfl (fun K hK => ?_)
            go_simp
            (go_at_call 21; (with_reducible refine (AD.out _ _ (HVP.out.grow (by (repeat (first | with_reducible exact Grow.refl _ | with_reducible refine Grow.alloc ?_ _ | with_reducible refine Grow.drew ?_ | with_reducible refine Grow.drewN ?_ _ | (with_reducible refine Grow.setCell ?_ ?hp _; (case hp => (simp; try omega))) | with_reducible refine Grow.trans ?_ (by assumption)))))).mono ?_); (rintro x u17 ⟨v67, rfl, hv67, hb67⟩; obtain ⟨s67, a67, l67, c67, t67, b67, k67, e67, rfl⟩ := hv67.form; have HV67 := Lib.hid hv67; clear hv67; obtain ⟨d0, d1, d2, d3, d4, d5⟩ := DG.out u17 (by (repeat (first | with_reducible exact Grow.refl _ | with_reducible refine Grow.alloc ?_ _ | with_reducible refine Grow.drew ?_ | with_reducible refine Grow.drewN ?_ _ | (with_reducible refine Grow.setCell ?_ ?hp _; (case hp => (simp; try omega))) | with_reducible refine Grow.trans ?_ (by assumption))))))
            (try go_wp2_with fail)
            refine hK.out _ _ ?hSa7 ?_
            case hSa7 => ((try dsimp only); (repeat (first | with_reducible exact Grow.refl _ | with_reducible refine Grow.alloc ?_ _ | with_reducible refine Grow.drew ?_ | with_reducible refine Grow.drewN ?_ _ | (with_reducible refine Grow.setCell ?_ ?hp _; (case hp => (simp; try omega))) | with_reducible refine Grow.trans ?_ (by assumption))))
            clear hK K
            (try simp only [Act.put, List.setIfInBounds_toArray, List.set_cons_zero, List.set_cons_succ])
            refine held_quiet (v := ?va8) rfl rfl (Or.inl ⟨by rfl, ?hya8⟩) ?_
            case hya8 => (intro u hu; go_simp; (try with_reducible rfl))
            (try simp only [Act.put, List.setIfInBounds_toArray, List.set_cons_zero, List.set_cons_succ])
            refine held_last rfl rfl (fun K hK => ?_)
            go_simp
            refine hK.out _ _ ?_
            clear hK K
            (try simp only [Act.put, List.setIfInBounds_toArray, List.set_cons_zero, List.set_cons_succ])
            refine held_done ?_
            obtain ⟨hst1, hst2⟩ := HST.out u17 (by (repeat (first | with_reducible exact Grow.refl _ | with_reducible refine Grow.alloc ?_ _ | with_reducible refine Grow.drew ?_ | with_reducible refine Grow.drewN ?_ _ | (with_reducible refine Grow.setCell ?_ ?hp _; (case hp => (simp; try omega))) | with_reducible refine Grow.trans ?_ (by assumption)))) _ _ _ _ _ _ _ _ HV67.out
            have hz := (ZRow.grow (HZN.out HE2.out) (u' := u17) (by (repeat (first | with_reducible exact Grow.refl _ | with_reducible refine Grow.alloc ?_ _ | with_reducible refine Grow.drew ?_ | with_reducible refine Grow.drewN ?_ _ | (with_reducible refine Grow.setCell ?_ ?hp _; (case hp => (simp; try omega))) | with_reducible refine Grow.trans ?_ (by assumption)))) hlg)
            obtain ⟨e5, e5'⟩ := E5.out
            go_simp
            go_wp2_with fail
            clear e5 e5'
            go_roundg (m + e - ne)
            case measure => have := HGK2.out; have := HNX.out; omega
            case rel =>
              exact ⟨ne, rfl, by have := HNX.out; omega, by have := HNX.out; omega, Lib.hid rfl, Lib.hid (by rw [← HNX.out, Nat.add_mod_right]; exact HNE.out), Lib.hid (by rw [← HNX.out]; exact sO_step he1 HNE.out HX.out.symm hst1), Lib.hid (fun h1 => by rw [← HNX.out, h1]; exact ZRow.set hz _ _ _ _), Lib.hid (RowP.but (RowP.grow HQN.out (by (repeat (first | with_reducible exact Grow.refl _ | with_reducible refine Grow.alloc ?_ _ | with_reducible refine Grow.drew ?_ | with_reducible refine Grow.drewN ?_ _ | (with_reducible refine Grow.setCell ?_ ?hp _; (case hp => (simp; try omega))) | with_reducible refine Grow.trans ?_ (by assumption))))) (fun h => HGF.out h) hst2), Lib.hid (HBN.out.trans hst2)⟩
          · obtain ⟨s6, a6, l6, c6, t6, b6, k6, e6, ⟨r0, r1, r2, r3⟩, hvr⟩ := HRN.out.at4 n hnp
            rw [Nat.zero_add] at r0 r1 r2 r3
            have hvr2 := hvr (rS c (e - 1) n) (by unfold sO rM; rw [if_pos ⟨hn1, .inl (by simp; omega)⟩, if_neg (by omega)])
            have HVR := Lib.hid hvr2
            have DG := Lib.hid (fun (u : World) (hg : Grow wr u) => (⟨(hg.cells _ _ hlg).trans r0, (hg.cells _ _ hlg).trans r1, (hg.cells _ _ hlg).trans r2, (hg.cells _ _ hlg).trans r3, fun o => (hg.frees _ _ hlg).trans (hfg o), Nat.lt_of_lt_of_le hlg hg.size⟩ : _ ∧ _ ∧ _ ∧ _ ∧ (∀ o, u.frozen? ⟨g, o, none⟩ = false) ∧ _))
            have hab := AQ.out (by omega) hem hnm
            have AD : Hid (∀ (u : World) (v1 v2 : Value), RatR u v1 (rS c (e - 1) n) → RatR u v2 pt → Calls Tryz.prog 21 #[v1, v2] u fun x w' => ∃ v, x = .returned v ∧ RatR w' v X ∧ Grow u w') := Lib.hid (fun u v1 v2 g1 g2 => by rw [← HX.out, HPT.out]; rw [HPT.out] at hab; exact addQ _ _ v1 v2 hab u g1 g2)
            have HE2 := Lib.hid he2
            clear r0 r1 r2 r3 hvr hvr2 hab he2 hfg
            go_upto_region 11 with fail
            refine region_held (id := 11) (fun u => Grow wr u) [0, 1, 2, 3, 4, 5, 6, 7, 8, 9] (kdL [0, 0, 0, 0, 0, 1, 1, 2, 0, 3]) (by kernel_rfl) (by kernel_rfl) (fun t ht => kdL_lt _ t ht) ?hS0b ?_
            case hS0b => ((try dsimp only); (repeat (first | with_reducible exact Grow.refl _ | with_reducible refine Grow.alloc ?_ _ | with_reducible refine Grow.drew ?_ | with_reducible refine Grow.drewN ?_ _ | (with_reducible refine Grow.setCell ?_ ?hp _; (case hp => (simp; try omega))) | with_reducible refine Grow.trans ?_ (by assumption))))
            refine held_quiet (v := ?vb0) rfl rfl (Or.inl ⟨by rfl, ?hyb0⟩) ?_
            case hyb0 => (intro u hu; go_simp; (try with_reducible rfl))
            (try simp only [Act.put, List.setIfInBounds_toArray, List.set_cons_zero, List.set_cons_succ])
            refine held_quiet (v := ?vb1) rfl rfl (Or.inl ⟨by rfl, ?hyb1⟩) ?_
            case hyb1 => (intro u hu; go_simp; (try with_reducible rfl))
            (try simp only [Act.put, List.setIfInBounds_toArray, List.set_cons_zero, List.set_cons_succ])
            refine held_quiet (v := ?vb2) rfl rfl (Or.inl ⟨by rfl, ?hyb2⟩) ?_
            case hyb2 => (intro u hu; go_simp; (try with_reducible rfl))
            (try simp only [Act.put, List.setIfInBounds_toArray, List.set_cons_zero, List.set_cons_succ])
            refine held_quiet (v := ?vb3) rfl rfl (Or.inl ⟨by rfl, ?hyb3⟩) ?_
            case hyb3 => (intro u hu; go_simp; (try with_reducible rfl))
            (try simp only [Act.put, List.setIfInBounds_toArray, List.set_cons_zero, List.set_cons_succ])
            refine held_quiet (v := ?vb4) rfl rfl (Or.inl ⟨by rfl, ?hyb4⟩) ?_
            case hyb4 => (intro u hu; go_simp; (try with_reducible rfl))
            (try simp only [Act.put, List.setIfInBounds_toArray, List.set_cons_zero, List.set_cons_succ])
            refine held_read (v := ?vb5) rfl rfl (Or.inl ⟨by rfl, ?hyb5⟩) ?_
            case hyb5 => (intro u hu; obtain ⟨d0, d1, d2, d3, d4, d5⟩ := DG.out u hu; obtain ⟨f0, f1, f2, f3⟩ := DF.out u hu; go_simp; (try with_reducible rfl))
            (try simp only [Act.put, List.setIfInBounds_toArray, List.set_cons_zero, List.set_cons_succ])
            refine held_read (v := ?vb6) rfl rfl (Or.inl ⟨by rfl, ?hyb6⟩) ?_
            case hyb6 => (intro u hu; obtain ⟨d0, d1, d2, d3, d4, d5⟩ := DG.out u hu; obtain ⟨f0, f1, f2, f3⟩ := DF.out u hu; go_simp; (try with_reducible rfl))
            (try simp only [Act.put, List.setIfInBounds_toArray, List.set_cons_zero, List.set_cons_succ])
            refine held_op rfl rfl (fun K hK => ?_)
            go_simp
            (go_at_call 21; (with_reducible refine (AD.out _ _ _ (HVR.out.grow (by (repeat (first | with_reducible exact Grow.refl _ | with_reducible refine Grow.alloc ?_ _ | with_reducible refine Grow.drew ?_ | with_reducible refine Grow.drewN ?_ _ | (with_reducible refine Grow.setCell ?_ ?hp _; (case hp => (simp; try omega))) | with_reducible refine Grow.trans ?_ (by assumption))))) (HVP.out.grow (by (repeat (first | with_reducible exact Grow.refl _ | with_reducible refine Grow.alloc ?_ _ | with_reducible refine Grow.drew ?_ | with_reducible refine Grow.drewN ?_ _ | (with_reducible refine Grow.setCell ?_ ?hp _; (case hp => (simp; try omega))) | with_reducible refine Grow.trans ?_ (by assumption)))))).mono ?_); (rintro x u17 ⟨v67, rfl, hv67, hb67⟩; obtain ⟨s67, a67, l67, c67, t67, b67, k67, e67, rfl⟩ := hv67.form; have HV67 := Lib.hid hv67; clear hv67; obtain ⟨d0, d1, d2, d3, d4, d5⟩ := DG.out u17 (by (repeat (first | with_reducible exact Grow.refl _ | with_reducible refine Grow.alloc ?_ _ | with_reducible refine Grow.drew ?_ | with_reducible refine Grow.drewN ?_ _ | (with_reducible refine Grow.setCell ?_ ?hp _; (case hp => (simp; try omega))) | with_reducible refine Grow.trans ?_ (by assumption))))))
            (try go_wp2_with fail)
            refine hK.out _ _ ?hSb7 ?_
            case hSb7 => ((try dsimp only); (repeat (first | with_reducible exact Grow.refl _ | with_reducible refine Grow.alloc ?_ _ | with_reducible refine Grow.drew ?_ | with_reducible refine Grow.drewN ?_ _ | (with_reducible refine Grow.setCell ?_ ?hp _; (case hp => (simp; try omega))) | with_reducible refine Grow.trans ?_ (by assumption))))
            clear hK K
            (try simp only [Act.put, List.setIfInBounds_toArray, List.set_cons_zero, List.set_cons_succ])
            refine held_quiet (v := ?vb8) rfl rfl (Or.inl ⟨by rfl, ?hyb8⟩) ?_
            case hyb8 => (intro u hu; go_simp; (try with_reducible rfl))
            (try simp only [Act.put, List.setIfInBounds_toArray, List.set_cons_zero, List.set_cons_succ])
            refine held_last rfl rfl (fun K hK => ?_)
            go_simp
            refine hK.out _ _ ?_
            clear hK K
            (try simp only [Act.put, List.setIfInBounds_toArray, List.set_cons_zero, List.set_cons_succ])
            refine held_done ?_
            obtain ⟨hst1, hst2⟩ := HST.out u17 (by (repeat (first | with_reducible exact Grow.refl _ | with_reducible refine Grow.alloc ?_ _ | with_reducible refine Grow.drew ?_ | with_reducible refine Grow.drewN ?_ _ | (with_reducible refine Grow.setCell ?_ ?hp _; (case hp => (simp; try omega))) | with_reducible refine Grow.trans ?_ (by assumption)))) _ _ _ _ _ _ _ _ HV67.out
            obtain ⟨e5, e5'⟩ := E5.out
            go_simp
            go_wp2_with fail
            clear e5 e5'
            go_roundg (m + e - ne)
            case measure => have := HGK2.out; have := HNX.out; omega
            case rel =>
              exact ⟨ne, rfl, by have := HNX.out; omega, by have := HNX.out; omega, Lib.hid rfl, Lib.hid (by rw [← HNX.out, Nat.add_mod_right]; exact HNE.out), Lib.hid (by rw [← HNX.out]; exact sO_step he1 HNE.out HX.out.symm hst1), Lib.hid (fun h1 => absurd h1 HE2.out), Lib.hid (RowP.but (RowP.grow HQN.out (by (repeat (first | with_reducible exact Grow.refl _ | with_reducible refine Grow.alloc ?_ _ | with_reducible refine Grow.drew ?_ | with_reducible refine Grow.drewN ?_ _ | (with_reducible refine Grow.setCell ?_ ?hp _; (case hp => (simp; try omega))) | with_reducible refine Grow.trans ?_ (by assumption))))) (fun h => HGF.out h) hst2), Lib.hid (HBN.out.trans hst2)⟩
end Go.Proofs.YtbpkfcohbefphaaGreat
