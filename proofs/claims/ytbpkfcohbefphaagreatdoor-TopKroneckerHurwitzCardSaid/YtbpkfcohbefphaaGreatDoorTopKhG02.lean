/- Lemmas, plain laws and walks that the statement LwKronecker leans on (texts BiD, BiE, BiF), conditions as each theorem says. -/
import Derived.Deep.RegionHeld3
import Derived.Test.YtbpkfcohbefphaaGreatDoorTopKhG01

namespace Go.Proofs.YtbpkfcohbefphaaGreatDoor
open Go Go.RowKit
set_option maxHeartbeats 1000000 in
theorem compare_any (m1 m2 : Value) (n1 n2 : Nat) (w : World) (h1 : MagR w m1 n1) (h2 : MagR w m2 n2) : Calls Tryz.prog 74 #[m1, m2] w fun e w' => e = .returned (.int .i64 (cmpN n1 n2)) ∧ Grow w w' := by
  rcases h1 with ⟨p0, a1, c1, rfl⟩ | ⟨p0, p1, b1, o1, c1, rfl, k1, q1, d1⟩
  · subst p0
    rcases h2 with ⟨r0, a2, c2, rfl⟩ | ⟨r0, r1, b2, o2, c2, rfl, k2, q2, d2⟩
    · subst r0
      go_enter Tryz.func74, Tryz.ntmps74
      go_wp2_with fail
      go_loopw [5] (fun t5 wr => t5 = .int .i64 (-1) ∧ wr = w) (fun _ _ => 0)
      case atStart => exact ⟨rfl, rfl⟩
      case round =>
        obtain ⟨rfl, rfl⟩ := hrel
        go_wp2_with fail
        go_ret
        exact ⟨rfl, by (repeat (first | with_reducible exact Grow.refl _ | with_reducible refine Grow.alloc ?_ _ | with_reducible refine Grow.drew ?_ | with_reducible refine Grow.drewN ?_ _ | (with_reducible refine Grow.setCell ?_ ?hp _; (case hp => (simp; try omega))) | with_reducible refine Grow.trans ?_ (by assumption)))⟩
    · have hc : cmpN 0 n2 = -1 := by unfold cmpN; rw [if_pos r0]
      rw [hc]
      go_enter Tryz.func74, Tryz.ntmps74
      go_wp2_with (go_at_call 102; (refine (sign_any (-1) _).mono ?_); (rintro e w1 ⟨rfl, rfl⟩))
      go_ret
      exact ⟨by simp, by (repeat (first | with_reducible exact Grow.refl _ | with_reducible refine Grow.alloc ?_ _ | with_reducible refine Grow.drew ?_ | with_reducible refine Grow.drewN ?_ _ | (with_reducible refine Grow.setCell ?_ ?hp _; (case hp => (simp; try omega))) | with_reducible refine Grow.trans ?_ (by assumption)))⟩
  · rcases h2 with ⟨r0, a2, c2, rfl⟩ | ⟨r0, r1, b2, o2, c2, rfl, k2, q2, d2⟩
    · subst r0
      have hc : cmpN n1 0 = 1 := by unfold cmpN; rw [if_neg (by omega), if_pos p0]
      rw [hc]
      go_enter Tryz.func74, Tryz.ntmps74
      go_wp2_with (go_at_call 102; (refine (sign_any 1 _).mono ?_); (rintro e w1 ⟨rfl, rfl⟩))
      go_ret
      exact ⟨by simp, by (repeat (first | with_reducible exact Grow.refl _ | with_reducible refine Grow.alloc ?_ _ | with_reducible refine Grow.drew ?_ | with_reducible refine Grow.drewN ?_ _ | (with_reducible refine Grow.setCell ?_ ?hp _; (case hp => (simp; try omega))) | with_reducible refine Grow.trans ?_ (by assumption)))⟩
    · go_enter Tryz.func74, Tryz.ntmps74
      go_wp2_with fail
      go_loopg [5] 1 (fun k t5 wr => ((k = 1 ∧ t5 = .int .i64 0) ∨ (k = 0 ∧ t5 = .int .i64 (-1) ∧ n1 = n2)) ∧ ∃ d, wr = w.drewN d)
      case atStart => exact ⟨.inl ⟨rfl, rfl⟩, 0, rfl⟩
      case round =>
        obtain ⟨⟨hk, rfl⟩ | ⟨hk, rfl, he⟩, d, rfl⟩ := hrel
        · by_cases he : n1 = n2
          · have e1 : ((n1 : Int) != (n2 : Int)) = false := by simp [he]
            have HE := Lib.hid he
            clear he
            go_wp2_with fail
            go_quiet (fail)
            go_wp2_with fail
            go_roundg 0
            case measure => omega
            case rel => exact ⟨.inr ⟨rfl, rfl, HE.out⟩, _, rfl⟩
          · have e1 : ((n1 : Int) != (n2 : Int)) = true := by simp; omega
            by_cases hl : n1 < n2
            · have hc : cmpN n1 n2 = -1 := by unfold cmpN; rw [if_pos hl]
              have e2 : decide ((n1 : Int) < (n2 : Int)) = true := by simp; omega
              have e3 : decide (n1 < n2) = true := by simp; omega
              have HC := Lib.hid hc
              clear he hl hc
              go_wp2_with fail
              go_quiet (fail)
              go_wp2_with fail
              go_quiet (fail)
              go_wp2_with fail
              go_ret
              exact ⟨(congrArg (fun x => Ending.returned (Value.int .i64 x)) HC.out.symm), by (repeat (first | with_reducible exact Grow.refl _ | with_reducible refine Grow.alloc ?_ _ | with_reducible refine Grow.drew ?_ | with_reducible refine Grow.drewN ?_ _ | (with_reducible refine Grow.setCell ?_ ?hp _; (case hp => (simp; try omega))) | with_reducible refine Grow.trans ?_ (by assumption)))⟩
            · have hc : cmpN n1 n2 = 1 := by unfold cmpN; rw [if_neg hl, if_pos (by omega)]
              have e2 : decide ((n1 : Int) < (n2 : Int)) = false := by simp; omega
              have e3 : decide (n1 < n2) = false := by simp; omega
              have HC := Lib.hid hc
              clear he hl hc
              go_wp2_with fail
              go_quiet (fail)
              go_wp2_with fail
              go_quiet (fail)
              go_wp2_with fail
              go_ret
              exact ⟨(congrArg (fun x => Ending.returned (Value.int .i64 x)) HC.out.symm), by (repeat (first | with_reducible exact Grow.refl _ | with_reducible refine Grow.alloc ?_ _ | with_reducible refine Grow.drew ?_ | with_reducible refine Grow.drewN ?_ _ | (with_reducible refine Grow.setCell ?_ ?hp _; (case hp => (simp; try omega))) | with_reducible refine Grow.trans ?_ (by assumption)))⟩
        · have hc : cmpN n1 n2 = 0 := by unfold cmpN; rw [if_neg (by omega), if_neg (by omega)]
          have HC := Lib.hid hc
          clear hc he
          go_wp2_with fail
          go_ret
          exact ⟨(congrArg (fun x => Ending.returned (Value.int .i64 x)) HC.out.symm), by (repeat (first | with_reducible exact Grow.refl _ | with_reducible refine Grow.alloc ?_ _ | with_reducible refine Grow.drew ?_ | with_reducible refine Grow.drewN ?_ _ | (with_reducible refine Grow.setCell ?_ ?hp _; (case hp => (simp; try omega))) | with_reducible refine Grow.trans ?_ (by assumption)))⟩
theorem MagR.row {w : World} {m : Value} {n : Nat} (h : MagR w m n) : RdRow w 1 m (if n = 0 then 0 else 1) (if n = 0 then [] else [.int .u32 (n : Int)]) := by
  rcases h with ⟨h0, a, cap, rfl⟩ | ⟨h0, h1, b, off, cap, rfl, hk, hb, hc⟩
  · rw [if_pos h0, if_pos h0]
    exact ⟨rfl, by simp, .inl ⟨rfl, a, cap, rfl⟩⟩
  · rw [if_neg (by omega), if_neg (by omega)]
    refine ⟨rfl, by simp; rfl, .inr ⟨b, off, cap, rfl, hb, hk, fun j u hj => ?_⟩⟩
    match j, hj with
    | 0, hj => simp at hj; subst hj; exact hc
theorem MagR.of_row {w : World} {m : Value} {n : Nat} (hn : n < 4294967296) (h : RdRow w 1 m (if n = 0 then 0 else 1) (if n = 0 then [] else [.int .u32 (n : Int)])) : MagR w m n := by
  by_cases h0 : n = 0
  · rw [if_pos h0, if_pos h0] at h
    obtain ⟨a, cap, hv⟩ := h.form
    exact .inl ⟨h0, a, cap, hv⟩
  · rw [if_neg h0, if_neg h0] at h
    obtain ⟨-, -, ⟨hz, -⟩ | ⟨b, off, cap, hv, hb, hk, hc⟩⟩ := h
    · cases hz
    · exact .inr ⟨by omega, hn, b, off, cap, hv, hk, hb, hc 0 _ rfl⟩
theorem eql_nil {P : Program} (w : World) (t e : TypeId) (a : Option Addr) (n c : Nat) (h : P.underlying t = some (.slice e)) : (binOp .eql t (.slice a n c) (.slice none 0 0)).run P w = .ok (.bool a.isNone) w := by
  simp only [binOp]
  simp [Op.equal, Op.maxDepth, Lib.run_equalIn_slice_nil w 9999 t e a n c 0 0 h]
set_option maxRecDepth 20000 in
set_option maxHeartbeats 1000000 in
theorem clone_any (m : Value) (n : Nat) (w : World) (h : MagR w m n) : Calls Tryz.prog 64 #[m] w fun e w' => ∃ m', e = .returned m' ∧ MagR w' m' n ∧ Grow w w' := by
  obtain ⟨iu, hiu, iuz0, iuz1, iuz2⟩ := info_parts infoU
  have hlt := h.lt
  obtain ⟨a, cap, hm⟩ := h.form
  have hrow := h.row
  rw [hm] at hrow ⊢
  cases a with
  | none =>
    have h0 : n = 0 := by
      rcases h with ⟨h0, _⟩ | ⟨h0, h1, b, off, c2, h2, _⟩
      · exact h0
      · rw [hm] at h2; cases h2
    subst h0
    have hsn : ∀ u : World, (binOp .eql 23 (.slice none 0 cap) (.slice none 0 0)).run Tryz.prog u = .ok (.bool true) u := fun u => eql_nil u _ _ _ _ _ Tryz.underlying23
    go_enter Tryz.func64, Tryz.ntmps64
    go_wp2_with fail
    go_ret
    exact ⟨_, rfl, .inl ⟨rfl, _, _, rfl⟩, Grow.refl _⟩
  | some ad =>
    have HR := Lib.hid hrow
    obtain ⟨ln, hln⟩ : ∃ ln, (if n = 0 then 0 else 1) = ln := ⟨_, rfl⟩
    have hln1 : ln ≤ 1 := by rw [← hln]; split <;> omega
    rw [hln] at HR ⊢
    have HLN := Lib.hid hln
    obtain ⟨xs, hxs⟩ : ∃ xs, (if n = 0 then [] else [Value.int .u32 (n : Int)]) = xs := ⟨_, rfl⟩
    rw [hxs] at HR
    have HXS := Lib.hid hxs
    clear hrow hm h hln hxs
    have hsn : ∀ u : World, (binOp .eql 23 (.slice (some ad) ln cap) (.slice none 0 0)).run Tryz.prog u = .ok (.bool false) u := fun u => eql_nil u _ _ _ _ _ Tryz.underlying23
    go_enter Tryz.func64, Tryz.ntmps64
    go_wp2_with (at_builtin; refine wpList_append_rd _ rfl _ _ 23 rfl 70 iu (.int .u32 0) 1 4 Tryz.underlying23 hiu iuz0 iuz1 iuz2 rfl (by decide) (w.heap.size) _ 0 [] rfl (World.ownsRow_lit w #[] 0 (by omega) (by decide) rfl) _ ln xs rfl (HR.out.grow ((Grow.refl w).alloc _)) (by omega) (by decide) (by simp) ?_)
    intro v3 w3 hown3 hgrow3
    have hr3 := own_rdrow hown3 (by simpa using HR.out.2.1)
    have hg3 : Grow w w3 := own_grow ((Grow.refl w).alloc _) (World.ownsRow_lit (base := w.heap.size) (e := 70) (size := 1) w #[] 0 (Nat.le_refl _) (by decide) rfl) hgrow3 (Nat.le_refl _)
    rw [← HLN.out, ← HXS.out] at hr3
    have HM := Lib.hid (MagR.of_row hlt hr3)
    clear hown3 hgrow3 hr3 HLN HXS
    go_wp2_with fail
    go_ret
    exact ⟨_, rfl, HM.out, hg3⟩
set_option maxRecDepth 20000 in
set_option maxHeartbeats 2000000 in
theorem divide_any (m1 m2 : Value) (n1 n2 : Nat) (hn2 : 0 < n2) (w : World) (h1 : MagR w m1 n1) (h2 : MagR w m2 n2) :
    Calls Tryz.prog 105 #[m1, m2] w fun e w' => ∃ q r, e = .returned (.tuple #[q, r]) ∧ MagR w' q (n1 / n2) ∧ MagR w' r (n1 % n2) ∧ Grow w w' := by
  have hl1 := h1.lt
  have hl2 := h2.lt
  have CP := Lib.hid (fun u hu => compare_any m1 m2 n1 n2 u (h1.grow hu) (h2.grow hu))
  by_cases hlt : n1 < n2
  · have hc : cmpN n1 n2 = -1 := by unfold cmpN; rw [if_pos hlt]
    rw [hc] at CP
    have CL := Lib.hid (fun u hu => clone_any m1 n1 u (h1.grow hu))
    rw [Nat.div_eq_of_lt hlt, Nat.mod_eq_of_lt hlt]
    clear hc hlt h1 h2
    go_enter Tryz.func105, Tryz.ntmps105
    go_wp2_with (first
      | (go_at_call 74; (refine (CP.out _ (Grow.refl w)).mono ?_); (rintro e w1 ⟨rfl, hb1⟩))
      | (go_at_call 64; (refine (CL.out _ hb1).mono ?_); (rintro e w2 ⟨m3, rfl, hm3, hb2⟩)))
    refine bodyPost_ret (v := .tuple #[.slice none 0 0, m3]) (by simp only [results, Tryz.results105]; go_simp) rfl ⟨_, _, rfl, .inl ⟨rfl, _, _, rfl⟩, hm3, hb1.trans hb2⟩
  · have hc : 0 ≤ cmpN n1 n2 := by unfold cmpN; rw [if_neg hlt]; split <;> omega
    obtain ⟨C, hC⟩ : ∃ C, cmpN n1 n2 = C := ⟨_, rfl⟩
    rw [hC] at CP hc
    have hc2 : ¬ C < 0 := by omega
    have W1 := Lib.hid (fun u hu => word_any m1 n1 u (h1.grow hu))
    have W2 := Lib.hid (fun u hu => word_any m2 n2 u (h2.grow hu))
    obtain ⟨a1, c1, rfl⟩ := h1.form
    have hln : (if n1 = 0 then 0 else 1) ≤ 2 := by split <;> omega
    obtain ⟨ln, hl⟩ : ∃ ln, (if n1 = 0 then 0 else 1) = ln := ⟨_, rfl⟩
    rw [hl] at hln CP W1 ⊢
    have hln2 : (ln : Int) ≤ 2 := by omega
    have yne : ¬ (n2 : Int) = 0 := by omega
    have yne2 : ((n2 : Int) == 0) = false := by simpa using yne
    have t1 : (n1 : Int).tdiv (n2 : Int) = ((n1 / n2 : Nat) : Int) := rfl
    have t2 : (n1 : Int).tmod (n2 : Int) = ((n1 % n2 : Nat) : Int) := rfl
    have hq1 : n1 / n2 ≤ n1 := Nat.div_le_self _ _
    have hr1 : n1 % n2 < n2 := Nat.mod_lt _ hn2
    obtain ⟨Q, hQ⟩ : ∃ Q, n1 / n2 = Q := ⟨_, rfl⟩
    obtain ⟨R, hR⟩ : ∃ R, n1 % n2 = R := ⟨_, rfl⟩
    rw [hQ] at t1 hq1 ⊢
    rw [hR] at t2 hr1 ⊢
    have y1 : IntKind.u64.wrap (Q : Int) = (Q : Int) := IntWalk.u64_in _ (by omega)
    have y2 : IntKind.u64.wrap (R : Int) = (R : Int) := IntWalk.u64_in _ (by omega)
    have WQ := Lib.hid (fun u => wide_any Q (by omega) u)
    have WR := Lib.hid (fun u => wide_any R (by omega) u)
    clear hlt hC h1 h2 hl hQ hR hq1 hr1
    go_enter Tryz.func105, Tryz.ntmps105
    go_wp2_with (first
      | (go_at_call 74; (refine (CP.out _ (Grow.refl w)).mono ?_); (rintro e w1 ⟨rfl, hb1⟩))
      | (go_at_call 104; first | ((with_reducible refine (W1.out _ hb1).mono ?_); (rintro e w2 ⟨rfl, rfl⟩)) | ((with_reducible refine (W2.out _ hb1).mono ?_); (rintro e w3 ⟨rfl, rfl⟩))))
    go_region_with (go_at_call 44; first | ((with_reducible refine (WQ.out _).mono ?_); (rintro e w4 ⟨m4, rfl, hm4, hb4⟩)) | ((with_reducible refine (WR.out _).mono ?_); (rintro e w5 ⟨m5, rfl, hm5, hb5⟩)))
    all_goals go_wp2_with fail
    all_goals refine bodyPost_ret (v := .tuple #[m4, m5]) (by simp only [results, Tryz.results105]; go_simp) rfl ⟨_, _, rfl, hm4.grow (by (repeat (first | with_reducible exact Grow.refl _ | with_reducible refine Grow.alloc ?_ _ | with_reducible refine Grow.drew ?_ | with_reducible refine Grow.drewN ?_ _ | (with_reducible refine Grow.setCell ?_ ?hp _; (case hp => (simp; try omega))) | with_reducible refine Grow.trans ?_ (by assumption)))), hm5.grow (by (repeat (first | with_reducible exact Grow.refl _ | with_reducible refine Grow.alloc ?_ _ | with_reducible refine Grow.drew ?_ | with_reducible refine Grow.drewN ?_ _ | (with_reducible refine Grow.setCell ?_ ?hp _; (case hp => (simp; try omega))) | with_reducible refine Grow.trans ?_ (by assumption)))), by (repeat (first | with_reducible exact Grow.refl _ | with_reducible refine Grow.alloc ?_ _ | with_reducible refine Grow.drew ?_ | with_reducible refine Grow.drewN ?_ _ | (with_reducible refine Grow.setCell ?_ ?hp _; (case hp => (simp; try omega))) | with_reducible refine Grow.trans ?_ (by assumption)))⟩
set_option maxRecDepth 20000 in
set_option maxHeartbeats 2000000 in
theorem common_any (m1 m2 : Value) (n1 n2 : Nat) (w : World) (h1 : MagR w m1 n1) (h2 : MagR w m2 n2) :
    Calls Tryz.prog 76 #[m1, m2] w fun e w' => ∃ m, e = .returned m ∧ MagR w' m (Nat.gcd n1 n2) ∧ Grow w w' := by
  by_cases h0 : n2 = 0
  · subst h0
    rw [Nat.gcd_zero_right]
    have CL := Lib.hid (fun u hu => clone_any m1 n1 u (h1.grow hu))
    obtain ⟨a2, c2, rfl⟩ := h2.form
    rw [if_pos rfl]
    clear h1 h2
    go_enter Tryz.func76, Tryz.ntmps76
    go_wp2_with fail
    go_loopw [0, 1] (fun t0 t1 wr => t0 = m1 ∧ t1 = .slice a2 0 c2 ∧ wr = w) (fun _ _ _ => 0)
    case atStart => exact ⟨rfl, rfl, rfl⟩
    case round =>
      obtain ⟨rfl, rfl, rfl⟩ := hrel
      go_wp2_with (go_at_call 64; (refine (CL.out _ (Grow.refl _)).mono ?_); (rintro e w2 ⟨m3, rfl, hm3, hb2⟩))
      go_ret
      exact ⟨_, rfl, hm3, hb2⟩
  · have hl1 := h1.lt
    have hl2 := h2.lt
    have W1 := Lib.hid (fun u hu => word_any m1 n1 u (h1.grow hu))
    have W2 := Lib.hid (fun u hu => word_any m2 n2 u (h2.grow hu))
    obtain ⟨a1, c1, rfl⟩ := h1.form
    obtain ⟨a2, c2, rfl⟩ := h2.form
    rw [if_neg h0] at W2 ⊢
    have hln : (if n1 = 0 then 0 else 1) ≤ 2 := by split <;> omega
    obtain ⟨ln, hl⟩ : ∃ ln, (if n1 = 0 then 0 else 1) = ln := ⟨_, rfl⟩
    rw [hl] at hln W1 ⊢
    have hln2 : (ln : Int) ≤ 2 := by omega
    obtain ⟨G, hG⟩ : ∃ G, Nat.gcd n1 n2 = G := ⟨_, rfl⟩
    have hGl : G < 4294967296 := by
      have : Nat.gcd n1 n2 ≤ n2 := Nat.le_of_dvd (by omega) (Nat.gcd_dvd_right ..)
      omega
    rw [hG]
    have WG := Lib.hid (fun u => wide_any G hGl u)
    have HG := Lib.hid hG
    clear h1 h2 hl hG
    go_enter Tryz.func76, Tryz.ntmps76
    go_wp2_with fail
    go_loopw [0, 1] (fun t0 t1 wr => t0 = .slice a1 ln c1 ∧ t1 = .slice a2 1 c2 ∧ wr = w) (fun _ _ _ => 0)
    case atStart => exact ⟨rfl, rfl, rfl⟩
    case round =>
      obtain ⟨rfl, rfl, hwr⟩ := hrel
      subst hwr
      go_wp2_with (go_at_call 104; first | ((with_reducible refine (W1.out _ (Grow.refl _)).mono ?_); (rintro e w2 ⟨rfl, rfl⟩)) | ((with_reducible refine (W2.out _ (Grow.refl _)).mono ?_); (rintro e w3 ⟨rfl, rfl⟩)))
      obtain ⟨w0, hw0⟩ : ∃ x, x = wr := ⟨wr, rfl⟩
      subst hw0
      go_loopw [5, 6] (fun u v wr => ∃ x y : Nat, u = .int .u64 (x : Int) ∧ v = .int .u64 (y : Int) ∧ x < 4294967296 ∧ y < 4294967296 ∧ Hid (Nat.gcd x y = G) ∧ Hid (Grow w0 wr)) (fun _ v _ => (match v with | .int _ n => n | _ => 0).natAbs)
      case atStart => exact ⟨n1, n2, rfl, rfl, hl1, hl2, HG, Lib.hid (Grow.refl _)⟩
      case round =>
        obtain ⟨x, y, rfl, rfl, hx, hy, hg, hgr⟩ := hrel
        by_cases hy0 : y = 0
        · subst hy0
          have hxG : x = G := by rw [← hg.out, Nat.gcd_zero_right]
          subst hxG
          go_wp2_with (go_at_call 44; (refine (WG.out _).mono ?_); (rintro e w4 ⟨m4, rfl, hm4, hb4⟩))
          go_ret
          exact ⟨_, rfl, hm4, hgr.out.trans hb4⟩
        · have e1 : ((y : Int) != 0) = true := by simp; omega
          have yne : ¬ (y : Int) = 0 := by omega
          have yne2 : ((y : Int) == 0) = false := by simpa using yne
          have t2 : (x : Int).tmod (y : Int) = ((x % y : Nat) : Int) := rfl
          have hr1 : x % y < y := Nat.mod_lt _ (by omega)
          have hgg : Nat.gcd y (x % y) = G := by rw [← hg.out, Nat.gcd_comm x y, Nat.gcd_rec y x, Nat.gcd_comm]
          obtain ⟨R, hR⟩ : ∃ R, x % y = R := ⟨_, rfl⟩
          rw [hR] at t2 hr1 hgg
          have HGG := Lib.hid hgg
          have y2 : IntKind.u64.wrap (R : Int) = (R : Int) := IntWalk.u64_in _ (by omega)
          clear hR hgg hg hy0
          go_wp2_with fail
          go_quiet (fail)
          go_wp2_with fail
          go_roundw
          case rel => exact ⟨y, R, rfl, rfl, hy, by omega, HGG, Lib.hid (hgr.out.drewN _)⟩
          case measure => simp; omega
end Go.Proofs.YtbpkfcohbefphaaGreatDoor
namespace Go.Proofs.YtbpkfcohbefphaaGreatDoor
open Go Go.RowKit
theorem sg_mul (x y : Int) : ((sgB x != sgB y) && decide ((x * y).natAbs ≠ 0)) = sgB (x * y) := by
  unfold sgB
  rcases Int.lt_trichotomy x 0 with hx | hx | hx <;> rcases Int.lt_trichotomy y 0 with hy | hy | hy
  · have h := Int.mul_pos_of_neg_of_neg hx hy
    simp [hx, hy]; omega
  · subst hy; simp
  · have h := Int.mul_neg_of_neg_of_pos hx hy
    have h2 : ¬ y < 0 := by omega
    simp [hx, h2, h]; omega
  · subst hx; simp
  · subst hx; simp
  · subst hx; simp
  · have h := Int.mul_neg_of_pos_of_neg hx hy
    have h2 : ¬ x < 0 := by omega
    simp [hy, h2, h]; omega
  · subst hy; simp
  · have h := Int.mul_pos hx hy
    have h1 : ¬ x < 0 := by omega
    have h2 : ¬ y < 0 := by omega
    simp [h1, h2]; omega
set_option maxRecDepth 20000 in
set_option maxHeartbeats 4000000 in
theorem mul_any (z1 z2 : Int) (m1 m2 : Value) (h : (z1 * z2).natAbs < 4294967296) (w : World) (h1 : MagR w m1 z1.natAbs) (h2 : MagR w m2 z2.natAbs) :
    Calls Tryz.prog 25 #[.agg #[.bool (sgB z1), m1], .agg #[.bool (sgB z2), m2]] w fun e w' => ∃ m, e = .returned (.agg #[.bool (sgB (z1 * z2)), m]) ∧ MagR w' m (z1 * z2).natAbs ∧ Grow w w' := by
  have hsg := sg_mul z1 z2
  have hna : (z1 * z2).natAbs = z1.natAbs * z2.natAbs := Int.natAbs_mul _ _
  rw [hna] at h hsg ⊢
  rw [← hsg]
  obtain ⟨s1, hs1⟩ : ∃ s1, sgB z1 = s1 := ⟨_, rfl⟩
  obtain ⟨s2, hs2⟩ : ∃ s2, sgB z2 = s2 := ⟨_, rfl⟩
  obtain ⟨n1, hn1⟩ : ∃ n1, z1.natAbs = n1 := ⟨_, rfl⟩
  obtain ⟨n2, hn2⟩ : ∃ n2, z2.natAbs = n2 := ⟨_, rfl⟩
  rw [hs1, hs2, hn1, hn2] at hsg ⊢
  rw [hn1, hn2] at h
  rw [hn1] at h1
  rw [hn2] at h2
  rw [show (s1 != s2) = (!(s1 == s2)) from rfl]
  obtain ⟨n, hn⟩ : ∃ n, n1 * n2 = n := ⟨_, rfl⟩
  have TM := Lib.hid (fun u hu => times_any m1 m2 n1 n2 h u (h1.grow hu) (h2.grow hu))
  rw [hn] at TM ⊢
  have SG := Lib.hid (fun m u hu => signed_any (!(s1 == s2)) m n u (.inl hu))
  have T1 := Lib.hid (fun u hu => trimmed_mag m1 n1 u (h1.grow hu))
  have T2 := Lib.hid (fun u hu => trimmed_mag m2 n2 u (h2.grow hu))
  obtain ⟨D, hD⟩ : ∃ D, ((!(s1 == s2)) && decide (n ≠ 0)) = D := ⟨_, rfl⟩
  rw [hD] at SG ⊢
  obtain ⟨a1, c1, rfl⟩ := h1.form
  obtain ⟨a2, c2, rfl⟩ := h2.form
  generalize (if n1 = 0 then 0 else 1) = l1 at *
  generalize (if n2 = 0 then 0 else 1) = l2 at *
  clear hsg hna hs1 hs2 hn1 hn2 h h1 h2 hD hn
  go_enter Tryz.func25, Tryz.ntmps25
  go_wp2_with fail
  have c0 : ∀ u : World, Grow (((w.alloc (.cells #[.bool s1, .slice a1 l1 c1] 25)).alloc (.cells #[.bool s2, .slice a2 l2 c2] 25)).alloc (.cells #[.bool false, .slice none 0 0] 25)) u → u.cell? ⟨w.heap.size, 0, none⟩ = some (.bool s1) ∧ u.cell? ⟨w.heap.size, 1, none⟩ = some (.slice a1 l1 c1) ∧ u.cell? ⟨w.heap.size + 1, 0, none⟩ = some (.bool s2) ∧ u.cell? ⟨w.heap.size + 1, 1, none⟩ = some (.slice a2 l2 c2) := by
    intro u hg
    refine ⟨(hg.cells _ _ (by simp; omega)).trans ?_, (hg.cells _ _ (by simp; omega)).trans ?_, (hg.cells _ _ (by simp)).trans ?_, (hg.cells _ _ (by simp)).trans ?_⟩ <;> go_simp
  have C0 := Lib.hid c0
  have r0 : ∀ u : World, Grow (((w.alloc (.cells #[.bool s1, .slice a1 l1 c1] 25)).alloc (.cells #[.bool s2, .slice a2 l2 c2] 25)).alloc (.cells #[.bool false, .slice none 0 0] 25)) u → u.cell? ⟨w.heap.size + 1 + 1, 0, none⟩ = some (.bool false) ∧ u.cell? ⟨w.heap.size + 1 + 1, 1, none⟩ = some (.slice none 0 0) ∧ (∀ o, u.frozen? ⟨w.heap.size + 1 + 1, o, none⟩ = false) ∧ NoU u (w.heap.size + 1 + 1) ∧ w.heap.size + 1 + 1 < u.heap.size ∧ Grow w u := by
    intro u hg
    have hz := hg.size
    simp at hz
    refine ⟨(hg.cells _ _ (by simp)).trans ?_, (hg.cells _ _ (by simp)).trans ?_, fun o => (hg.frees _ _ (by simp)).trans ?_, ?_, by omega, Grow.trans (by (repeat (first | with_reducible exact Grow.refl _ | with_reducible refine Grow.alloc ?_ _ | with_reducible refine Grow.drew ?_ | with_reducible refine Grow.drewN ?_ _ | (with_reducible refine Grow.setCell ?_ ?hp _; (case hp => (simp; try omega))) | with_reducible refine Grow.trans ?_ (by assumption)))) hg⟩
    · go_simp
    · go_simp
    · go_simp
    · have h := NoU.alloc ((w.alloc (.cells #[.bool s1, .slice a1 l1 c1] 25)).alloc (.cells #[.bool s2, .slice a2 l2 c2] 25)) _ 25 (noU2 false none 0 0)
      simp at h
      exact h.grow (by simp) hg
  have R0 := Lib.hid r0
  clear c0 r0
  go_region_held3 (fun u => u.cell? ⟨w.heap.size, 0, none⟩ = some (.bool s1) ∧ u.cell? ⟨w.heap.size, 1, none⟩ = some (.slice a1 l1 c1) ∧ u.cell? ⟨w.heap.size + 1, 0, none⟩ = some (.bool s2) ∧ u.cell? ⟨w.heap.size + 1, 1, none⟩ = some (.slice a2 l2 c2))
    (first | (refine ⟨?_, ?_, ?_, ?_⟩ <;> (go_simp; done)) | exact C0.out _ (by (repeat (first | with_reducible exact Grow.refl _ | with_reducible refine Grow.alloc ?_ _ | with_reducible refine Grow.drew ?_ | with_reducible refine Grow.drewN ?_ _ | (with_reducible refine Grow.setCell ?_ ?hp _; (case hp => (simp; try omega))) | with_reducible refine Grow.trans ?_ (by assumption)))))
    (first
      | (go_at_call 45; first | ((with_reducible refine (T1.out _ (by (repeat (first | with_reducible exact Grow.refl _ | with_reducible refine Grow.alloc ?_ _ | with_reducible refine Grow.drew ?_ | with_reducible refine Grow.drewN ?_ _ | (with_reducible refine Grow.setCell ?_ ?hp _; (case hp => (simp; try omega))) | with_reducible refine Grow.trans ?_ (by assumption))))).mono ?_); (rintro e w2 ⟨rfl, rfl⟩)) | ((with_reducible refine (T2.out _ (by (repeat (first | with_reducible exact Grow.refl _ | with_reducible refine Grow.alloc ?_ _ | with_reducible refine Grow.drew ?_ | with_reducible refine Grow.drewN ?_ _ | (with_reducible refine Grow.setCell ?_ ?hp _; (case hp => (simp; try omega))) | with_reducible refine Grow.trans ?_ (by assumption))))).mono ?_); (rintro e w3 ⟨rfl, rfl⟩)))
      | (go_at_call 47; (with_reducible refine (TM.out _ (by (repeat (first | with_reducible exact Grow.refl _ | with_reducible refine Grow.alloc ?_ _ | with_reducible refine Grow.drew ?_ | with_reducible refine Grow.drewN ?_ _ | (with_reducible refine Grow.setCell ?_ ?hp _; (case hp => (simp; try omega))) | with_reducible refine Grow.trans ?_ (by assumption))))).mono ?_); (rintro e w4 ⟨m4, rfl, hm4, hb4⟩))
      | (go_at_call 43; (with_reducible refine (SG.out _ _ hm4).mono ?_); (rintro e w7 ⟨m7, rfl, hm7, hb7⟩; obtain ⟨a7, c7, rfl⟩ := hm7.form; generalize (if n = 0 then 0 else 1) = l7 at hm7 ⊢; have HM7 := Lib.hid hm7; clear hm7; obtain ⟨e0, e1, e2, e3⟩ := C0.out w7 (by (repeat (first | with_reducible exact Grow.refl _ | with_reducible refine Grow.alloc ?_ _ | with_reducible refine Grow.drew ?_ | with_reducible refine Grow.drewN ?_ _ | (with_reducible refine Grow.setCell ?_ ?hp _; (case hp => (simp; try omega))) | with_reducible refine Grow.trans ?_ (by assumption)))); obtain ⟨q0, q1, qf, NU7, hz7, HB7⟩ := R0.out w7 (by (repeat (first | with_reducible exact Grow.refl _ | with_reducible refine Grow.alloc ?_ _ | with_reducible refine Grow.drew ?_ | with_reducible refine Grow.drewN ?_ _ | (with_reducible refine Grow.setCell ?_ ?hp _; (case hp => (simp; try omega))) | with_reducible refine Grow.trans ?_ (by assumption)))); have NU := Lib.hid NU7; have HB := Lib.hid HB7; clear NU7 HB7)))
  all_goals (try simp only [Exit.then])
  all_goals go_wp2_with fail
  all_goals refine bodyPost_ret (v := .agg #[.bool D, .slice a7 l7 c7]) (by rw [results_one rfl]; go_simp) rfl ⟨_, rfl, HM7.out.set2 NU.out _ _ _ _, by have h9 := HB.out; (repeat (first | with_reducible exact Grow.refl _ | with_reducible refine Grow.alloc ?_ _ | with_reducible refine Grow.drew ?_ | with_reducible refine Grow.drewN ?_ _ | (with_reducible refine Grow.setCell ?_ ?hp _; (case hp => (simp; try omega))) | with_reducible refine Grow.trans ?_ (by assumption)))⟩
end Go.Proofs.YtbpkfcohbefphaaGreatDoor
namespace Go.Proofs.YtbpkfcohbefphaaGreatDoor
open Go Go.RowKit
theorem sg_self (z : Int) : (sgB z && decide (z.natAbs ≠ 0)) = sgB z := by
  unfold sgB
  by_cases h : z < 0
  · have : z.natAbs ≠ 0 := by omega
    simp [h]; omega
  · simp [h]
theorem sg_neg (z : Int) : ((!sgB z) && decide (z.natAbs ≠ 0)) = sgB (-z) := by
  unfold sgB
  by_cases h : z < 0
  · have h2 : ¬ -z < 0 := by omega
    rw [decide_eq_true h, decide_eq_false h2]; rfl
  · by_cases h0 : z = 0
    · subst h0; rfl
    · have h3 : -z < 0 := by omega
      have h4 : z.natAbs ≠ 0 := by omega
      rw [decide_eq_false h, decide_eq_true h3, decide_eq_true h4]; rfl
theorem sgB_nat (n : Nat) : sgB (n : Int) = false := by simp [sgB]
set_option maxRecDepth 20000 in
set_option maxHeartbeats 4000000 in
theorem normal_core (s1 : Bool) (n : Nat) (m1 : Value) (w : World) (h1 : MagR w m1 n) :
    Calls Tryz.prog 48 #[.agg #[.bool s1, m1]] w fun e w' => ∃ m, e = .returned (.agg #[.bool (s1 && decide (n ≠ 0)), m]) ∧ MagR w' m n ∧ Grow w w' := by
  have CL := Lib.hid (fun u hu => clone_any m1 n u (h1.grow hu))
  have SG := Lib.hid (fun m u hu => signed_any s1 m n u (.inl hu))
  have T1 := Lib.hid (fun u hu => trimmed_mag m1 n u (h1.grow hu))
  obtain ⟨D, hD⟩ : ∃ D, (s1 && decide (n ≠ 0)) = D := ⟨_, rfl⟩
  rw [hD] at SG ⊢
  obtain ⟨a1, c1, rfl⟩ := h1.form
  generalize (if n = 0 then 0 else 1) = l1 at *
  clear h1 hD
  go_enter Tryz.func48, Tryz.ntmps48
  go_wp2_with fail
  have c0 : ∀ u : World, Grow ((w.alloc (.cells #[.bool s1, .slice a1 l1 c1] 25)).alloc (.cells #[.bool false, .slice none 0 0] 25)) u → u.cell? ⟨w.heap.size, 0, none⟩ = some (.bool s1) ∧ u.cell? ⟨w.heap.size, 1, none⟩ = some (.slice a1 l1 c1) := by
    intro u hg
    refine ⟨(hg.cells _ _ (by (try simp); try omega)).trans ?_, (hg.cells _ _ (by (try simp); try omega)).trans ?_⟩ <;> go_simp
  have C0 := Lib.hid c0
  have r0 : ∀ u : World, Grow ((w.alloc (.cells #[.bool s1, .slice a1 l1 c1] 25)).alloc (.cells #[.bool false, .slice none 0 0] 25)) u → u.cell? ⟨w.heap.size + 1, 0, none⟩ = some (.bool false) ∧ u.cell? ⟨w.heap.size + 1, 1, none⟩ = some (.slice none 0 0) ∧ (∀ o, u.frozen? ⟨w.heap.size + 1, o, none⟩ = false) ∧ NoU u (w.heap.size + 1) ∧ w.heap.size + 1 < u.heap.size ∧ Grow w u := by
    intro u hg
    have hz := hg.size
    simp at hz
    refine ⟨(hg.cells _ _ (by simp)).trans ?_, (hg.cells _ _ (by simp)).trans ?_, fun o => (hg.frees _ _ (by simp)).trans ?_, ?_, by omega, Grow.trans (by (repeat (first | with_reducible exact Grow.refl _ | with_reducible refine Grow.alloc ?_ _ | with_reducible refine Grow.drew ?_ | with_reducible refine Grow.drewN ?_ _ | (with_reducible refine Grow.setCell ?_ ?hp _; (case hp => (simp; try omega))) | with_reducible refine Grow.trans ?_ (by assumption)))) hg⟩
    · go_simp
    · go_simp
    · go_simp
    · have h := NoU.alloc (w.alloc (.cells #[.bool s1, .slice a1 l1 c1] 25)) _ 25 (noU2 false none 0 0)
      simp at h
      exact h.grow (by simp) hg
  have R0 := Lib.hid r0
  clear c0 r0
  go_region_held3 (fun u => u.cell? ⟨w.heap.size, 0, none⟩ = some (.bool s1) ∧ u.cell? ⟨w.heap.size, 1, none⟩ = some (.slice a1 l1 c1))
    (first | (refine ⟨?_, ?_⟩ <;> (go_simp; done)) | exact C0.out _ (by (repeat (first | with_reducible exact Grow.refl _ | with_reducible refine Grow.alloc ?_ _ | with_reducible refine Grow.drew ?_ | with_reducible refine Grow.drewN ?_ _ | (with_reducible refine Grow.setCell ?_ ?hp _; (case hp => (simp; try omega))) | with_reducible refine Grow.trans ?_ (by assumption)))))
    (first
      | (go_at_call 45; first | ((with_reducible refine (T1.out _ (by (repeat (first | with_reducible exact Grow.refl _ | with_reducible refine Grow.alloc ?_ _ | with_reducible refine Grow.drew ?_ | with_reducible refine Grow.drewN ?_ _ | (with_reducible refine Grow.setCell ?_ ?hp _; (case hp => (simp; try omega))) | with_reducible refine Grow.trans ?_ (by assumption))))).mono ?_); (rintro e w2 ⟨rfl, rfl⟩)))
      | (go_at_call 64; (with_reducible refine (CL.out _ (by (repeat (first | with_reducible exact Grow.refl _ | with_reducible refine Grow.alloc ?_ _ | with_reducible refine Grow.drew ?_ | with_reducible refine Grow.drewN ?_ _ | (with_reducible refine Grow.setCell ?_ ?hp _; (case hp => (simp; try omega))) | with_reducible refine Grow.trans ?_ (by assumption))))).mono ?_); (rintro e w4 ⟨m4, rfl, hm4, hb4⟩))
      | (go_at_call 43; (with_reducible refine (SG.out _ _ hm4).mono ?_); (rintro e w7 ⟨m7, rfl, hm7, hb7⟩; obtain ⟨a7, c7, rfl⟩ := hm7.form; generalize (if n = 0 then 0 else 1) = l7 at hm7 ⊢; have HM7 := Lib.hid hm7; clear hm7; obtain ⟨e0, e1⟩ := C0.out w7 (by (repeat (first | with_reducible exact Grow.refl _ | with_reducible refine Grow.alloc ?_ _ | with_reducible refine Grow.drew ?_ | with_reducible refine Grow.drewN ?_ _ | (with_reducible refine Grow.setCell ?_ ?hp _; (case hp => (simp; try omega))) | with_reducible refine Grow.trans ?_ (by assumption)))); obtain ⟨q0, q1, qf, NU7, hz7, HB7⟩ := R0.out w7 (by (repeat (first | with_reducible exact Grow.refl _ | with_reducible refine Grow.alloc ?_ _ | with_reducible refine Grow.drew ?_ | with_reducible refine Grow.drewN ?_ _ | (with_reducible refine Grow.setCell ?_ ?hp _; (case hp => (simp; try omega))) | with_reducible refine Grow.trans ?_ (by assumption)))); have NU := Lib.hid NU7; have HB := Lib.hid HB7; clear NU7 HB7)))
  all_goals (try simp only [Exit.then])
  all_goals go_wp2_with fail
  all_goals refine bodyPost_ret (v := .agg #[.bool D, .slice a7 l7 c7]) (by rw [results_one rfl]; go_simp) rfl ⟨_, rfl, HM7.out.set2 NU.out _ _ _ _, by have h9 := HB.out; (repeat (first | with_reducible exact Grow.refl _ | with_reducible refine Grow.alloc ?_ _ | with_reducible refine Grow.drew ?_ | with_reducible refine Grow.drewN ?_ _ | (with_reducible refine Grow.setCell ?_ ?hp _; (case hp => (simp; try omega))) | with_reducible refine Grow.trans ?_ (by assumption)))⟩
theorem normal_any (z : Int) (m1 : Value) (w : World) (h1 : MagR w m1 z.natAbs) :
    Calls Tryz.prog 48 #[.agg #[.bool (sgB z), m1]] w fun e w' => ∃ m, e = .returned (.agg #[.bool (sgB (z)), m]) ∧ MagR w' m (z).natAbs ∧ Grow w w' := by
  refine (normal_core (sgB z) z.natAbs m1 w h1).mono fun e w' ⟨m, he, hm, hg⟩ => ⟨m, ?_, ?_, hg⟩
  · rw [he, sg_self]
  · exact hm
set_option maxRecDepth 20000 in
set_option maxHeartbeats 4000000 in
theorem neg_core (s1 : Bool) (n : Nat) (m1 : Value) (w : World) (h1 : MagR w m1 n) :
    Calls Tryz.prog 39 #[.agg #[.bool s1, m1]] w fun e w' => ∃ m, e = .returned (.agg #[.bool ((!s1) && decide (n ≠ 0)), m]) ∧ MagR w' m n ∧ Grow w w' := by
  have CL := Lib.hid (fun u hu => clone_any m1 n u (h1.grow hu))
  have SG := Lib.hid (fun m u hu => signed_any (!s1) m n u (.inl hu))
  have T1 := Lib.hid (fun u hu => trimmed_mag m1 n u (h1.grow hu))
  obtain ⟨D, hD⟩ : ∃ D, ((!s1) && decide (n ≠ 0)) = D := ⟨_, rfl⟩
  rw [hD] at SG ⊢
  obtain ⟨a1, c1, rfl⟩ := h1.form
  generalize (if n = 0 then 0 else 1) = l1 at *
  clear h1 hD
  go_enter Tryz.func39, Tryz.ntmps39
  go_wp2_with fail
  have c0 : ∀ u : World, Grow ((w.alloc (.cells #[.bool s1, .slice a1 l1 c1] 25)).alloc (.cells #[.bool false, .slice none 0 0] 25)) u → u.cell? ⟨w.heap.size, 0, none⟩ = some (.bool s1) ∧ u.cell? ⟨w.heap.size, 1, none⟩ = some (.slice a1 l1 c1) := by
    intro u hg
    refine ⟨(hg.cells _ _ (by (try simp); try omega)).trans ?_, (hg.cells _ _ (by (try simp); try omega)).trans ?_⟩ <;> go_simp
  have C0 := Lib.hid c0
  have r0 : ∀ u : World, Grow ((w.alloc (.cells #[.bool s1, .slice a1 l1 c1] 25)).alloc (.cells #[.bool false, .slice none 0 0] 25)) u → u.cell? ⟨w.heap.size + 1, 0, none⟩ = some (.bool false) ∧ u.cell? ⟨w.heap.size + 1, 1, none⟩ = some (.slice none 0 0) ∧ (∀ o, u.frozen? ⟨w.heap.size + 1, o, none⟩ = false) ∧ NoU u (w.heap.size + 1) ∧ w.heap.size + 1 < u.heap.size ∧ Grow w u := by
    intro u hg
    have hz := hg.size
    simp at hz
    refine ⟨(hg.cells _ _ (by simp)).trans ?_, (hg.cells _ _ (by simp)).trans ?_, fun o => (hg.frees _ _ (by simp)).trans ?_, ?_, by omega, Grow.trans (by (repeat (first | with_reducible exact Grow.refl _ | with_reducible refine Grow.alloc ?_ _ | with_reducible refine Grow.drew ?_ | with_reducible refine Grow.drewN ?_ _ | (with_reducible refine Grow.setCell ?_ ?hp _; (case hp => (simp; try omega))) | with_reducible refine Grow.trans ?_ (by assumption)))) hg⟩
    · go_simp
    · go_simp
    · go_simp
    · have h := NoU.alloc (w.alloc (.cells #[.bool s1, .slice a1 l1 c1] 25)) _ 25 (noU2 false none 0 0)
      simp at h
      exact h.grow (by simp) hg
  have R0 := Lib.hid r0
  clear c0 r0
  go_region_held3 (fun u => u.cell? ⟨w.heap.size, 0, none⟩ = some (.bool s1) ∧ u.cell? ⟨w.heap.size, 1, none⟩ = some (.slice a1 l1 c1))
    (first | (refine ⟨?_, ?_⟩ <;> (go_simp; done)) | exact C0.out _ (by (repeat (first | with_reducible exact Grow.refl _ | with_reducible refine Grow.alloc ?_ _ | with_reducible refine Grow.drew ?_ | with_reducible refine Grow.drewN ?_ _ | (with_reducible refine Grow.setCell ?_ ?hp _; (case hp => (simp; try omega))) | with_reducible refine Grow.trans ?_ (by assumption)))))
    (first
      | (go_at_call 45; first | ((with_reducible refine (T1.out _ (by (repeat (first | with_reducible exact Grow.refl _ | with_reducible refine Grow.alloc ?_ _ | with_reducible refine Grow.drew ?_ | with_reducible refine Grow.drewN ?_ _ | (with_reducible refine Grow.setCell ?_ ?hp _; (case hp => (simp; try omega))) | with_reducible refine Grow.trans ?_ (by assumption))))).mono ?_); (rintro e w2 ⟨rfl, rfl⟩)))
      | (go_at_call 64; (with_reducible refine (CL.out _ (by (repeat (first | with_reducible exact Grow.refl _ | with_reducible refine Grow.alloc ?_ _ | with_reducible refine Grow.drew ?_ | with_reducible refine Grow.drewN ?_ _ | (with_reducible refine Grow.setCell ?_ ?hp _; (case hp => (simp; try omega))) | with_reducible refine Grow.trans ?_ (by assumption))))).mono ?_); (rintro e w4 ⟨m4, rfl, hm4, hb4⟩))
      | (go_at_call 43; (with_reducible refine (SG.out _ _ hm4).mono ?_); (rintro e w7 ⟨m7, rfl, hm7, hb7⟩; obtain ⟨a7, c7, rfl⟩ := hm7.form; generalize (if n = 0 then 0 else 1) = l7 at hm7 ⊢; have HM7 := Lib.hid hm7; clear hm7; obtain ⟨e0, e1⟩ := C0.out w7 (by (repeat (first | with_reducible exact Grow.refl _ | with_reducible refine Grow.alloc ?_ _ | with_reducible refine Grow.drew ?_ | with_reducible refine Grow.drewN ?_ _ | (with_reducible refine Grow.setCell ?_ ?hp _; (case hp => (simp; try omega))) | with_reducible refine Grow.trans ?_ (by assumption)))); obtain ⟨q0, q1, qf, NU7, hz7, HB7⟩ := R0.out w7 (by (repeat (first | with_reducible exact Grow.refl _ | with_reducible refine Grow.alloc ?_ _ | with_reducible refine Grow.drew ?_ | with_reducible refine Grow.drewN ?_ _ | (with_reducible refine Grow.setCell ?_ ?hp _; (case hp => (simp; try omega))) | with_reducible refine Grow.trans ?_ (by assumption)))); have NU := Lib.hid NU7; have HB := Lib.hid HB7; clear NU7 HB7)))
  all_goals (try simp only [Exit.then])
  all_goals go_wp2_with fail
  all_goals refine bodyPost_ret (v := .agg #[.bool D, .slice a7 l7 c7]) (by rw [results_one rfl]; go_simp) rfl ⟨_, rfl, HM7.out.set2 NU.out _ _ _ _, by have h9 := HB.out; (repeat (first | with_reducible exact Grow.refl _ | with_reducible refine Grow.alloc ?_ _ | with_reducible refine Grow.drew ?_ | with_reducible refine Grow.drewN ?_ _ | (with_reducible refine Grow.setCell ?_ ?hp _; (case hp => (simp; try omega))) | with_reducible refine Grow.trans ?_ (by assumption)))⟩
theorem neg_any (z : Int) (m1 : Value) (w : World) (h1 : MagR w m1 z.natAbs) :
    Calls Tryz.prog 39 #[.agg #[.bool (sgB z), m1]] w fun e w' => ∃ m, e = .returned (.agg #[.bool (sgB (-z)), m]) ∧ MagR w' m (-z).natAbs ∧ Grow w w' := by
  refine (neg_core (sgB z) z.natAbs m1 w h1).mono fun e w' ⟨m, he, hm, hg⟩ => ⟨m, ?_, ?_, hg⟩
  · rw [he, sg_neg]
  · rw [Int.natAbs_neg]; exact hm
set_option maxRecDepth 20000 in
set_option maxHeartbeats 4000000 in
theorem gcdI_any (z1 z2 : Int) (m1 m2 : Value) (w : World) (h1 : MagR w m1 z1.natAbs) (h2 : MagR w m2 z2.natAbs) :
    Calls Tryz.prog 49 #[.agg #[.bool (sgB z1), m1], .agg #[.bool (sgB z2), m2]] w fun e w' => ∃ m, e = .returned (.agg #[.bool false, m]) ∧ MagR w' m (Int.gcd z1 z2) ∧ Grow w w' := by
  obtain ⟨s1, hs1⟩ : ∃ s1, sgB z1 = s1 := ⟨_, rfl⟩
  obtain ⟨s2, hs2⟩ : ∃ s2, sgB z2 = s2 := ⟨_, rfl⟩
  obtain ⟨n1, hn1⟩ : ∃ n1, z1.natAbs = n1 := ⟨_, rfl⟩
  obtain ⟨n2, hn2⟩ : ∃ n2, z2.natAbs = n2 := ⟨_, rfl⟩
  have hgg : Int.gcd z1 z2 = Nat.gcd n1 n2 := by rw [← hn1, ← hn2]; rfl
  rw [hgg, hs1, hs2]
  rw [hn1] at h1
  rw [hn2] at h2
  have CM := Lib.hid (fun u hu => common_any m1 m2 n1 n2 u (h1.grow hu) (h2.grow hu))
  obtain ⟨n, hn⟩ : ∃ n, Nat.gcd n1 n2 = n := ⟨_, rfl⟩
  rw [hn] at CM ⊢
  have SG := Lib.hid (fun m u hu => signed_any false m n u (.inl hu))
  simp only [Bool.false_and] at SG
  have T1 := Lib.hid (fun u hu => trimmed_mag m1 n1 u (h1.grow hu))
  have T2 := Lib.hid (fun u hu => trimmed_mag m2 n2 u (h2.grow hu))
  obtain ⟨a1, c1, rfl⟩ := h1.form
  obtain ⟨a2, c2, rfl⟩ := h2.form
  generalize (if n1 = 0 then 0 else 1) = l1 at *
  generalize (if n2 = 0 then 0 else 1) = l2 at *
  clear hgg hs1 hs2 hn1 hn2 h1 h2 hn
  go_enter Tryz.func49, Tryz.ntmps49
  go_wp2_with fail
  have c0 : ∀ u : World, Grow (((w.alloc (.cells #[.bool s1, .slice a1 l1 c1] 25)).alloc (.cells #[.bool s2, .slice a2 l2 c2] 25)).alloc (.cells #[.bool false, .slice none 0 0] 25)) u → u.cell? ⟨w.heap.size, 0, none⟩ = some (.bool s1) ∧ u.cell? ⟨w.heap.size, 1, none⟩ = some (.slice a1 l1 c1) ∧ u.cell? ⟨w.heap.size + 1, 0, none⟩ = some (.bool s2) ∧ u.cell? ⟨w.heap.size + 1, 1, none⟩ = some (.slice a2 l2 c2) := by
    intro u hg
    refine ⟨(hg.cells _ _ (by (try simp); try omega)).trans ?_, (hg.cells _ _ (by (try simp); try omega)).trans ?_, (hg.cells _ _ (by (try simp); try omega)).trans ?_, (hg.cells _ _ (by (try simp); try omega)).trans ?_⟩ <;> go_simp
  have C0 := Lib.hid c0
  have r0 : ∀ u : World, Grow (((w.alloc (.cells #[.bool s1, .slice a1 l1 c1] 25)).alloc (.cells #[.bool s2, .slice a2 l2 c2] 25)).alloc (.cells #[.bool false, .slice none 0 0] 25)) u → u.cell? ⟨w.heap.size + 1 + 1, 0, none⟩ = some (.bool false) ∧ u.cell? ⟨w.heap.size + 1 + 1, 1, none⟩ = some (.slice none 0 0) ∧ (∀ o, u.frozen? ⟨w.heap.size + 1 + 1, o, none⟩ = false) ∧ NoU u (w.heap.size + 1 + 1) ∧ w.heap.size + 1 + 1 < u.heap.size ∧ Grow w u := by
    intro u hg
    have hz := hg.size
    simp at hz
    refine ⟨(hg.cells _ _ (by simp)).trans ?_, (hg.cells _ _ (by simp)).trans ?_, fun o => (hg.frees _ _ (by simp)).trans ?_, ?_, by omega, Grow.trans (by (repeat (first | with_reducible exact Grow.refl _ | with_reducible refine Grow.alloc ?_ _ | with_reducible refine Grow.drew ?_ | with_reducible refine Grow.drewN ?_ _ | (with_reducible refine Grow.setCell ?_ ?hp _; (case hp => (simp; try omega))) | with_reducible refine Grow.trans ?_ (by assumption)))) hg⟩
    · go_simp
    · go_simp
    · go_simp
    · have h := NoU.alloc ((w.alloc (.cells #[.bool s1, .slice a1 l1 c1] 25)).alloc (.cells #[.bool s2, .slice a2 l2 c2] 25)) _ 25 (noU2 false none 0 0)
      simp at h
      exact h.grow (by simp) hg
  have R0 := Lib.hid r0
  clear c0 r0
  go_region_held3 (fun u => u.cell? ⟨w.heap.size, 0, none⟩ = some (.bool s1) ∧ u.cell? ⟨w.heap.size, 1, none⟩ = some (.slice a1 l1 c1) ∧ u.cell? ⟨w.heap.size + 1, 0, none⟩ = some (.bool s2) ∧ u.cell? ⟨w.heap.size + 1, 1, none⟩ = some (.slice a2 l2 c2))
    (first | (refine ⟨?_, ?_, ?_, ?_⟩ <;> (go_simp; done)) | exact C0.out _ (by (repeat (first | with_reducible exact Grow.refl _ | with_reducible refine Grow.alloc ?_ _ | with_reducible refine Grow.drew ?_ | with_reducible refine Grow.drewN ?_ _ | (with_reducible refine Grow.setCell ?_ ?hp _; (case hp => (simp; try omega))) | with_reducible refine Grow.trans ?_ (by assumption)))))
    (first
      | (go_at_call 45; first | ((with_reducible refine (T1.out _ (by (repeat (first | with_reducible exact Grow.refl _ | with_reducible refine Grow.alloc ?_ _ | with_reducible refine Grow.drew ?_ | with_reducible refine Grow.drewN ?_ _ | (with_reducible refine Grow.setCell ?_ ?hp _; (case hp => (simp; try omega))) | with_reducible refine Grow.trans ?_ (by assumption))))).mono ?_); (rintro e w2 ⟨rfl, rfl⟩)) | ((with_reducible refine (T2.out _ (by (repeat (first | with_reducible exact Grow.refl _ | with_reducible refine Grow.alloc ?_ _ | with_reducible refine Grow.drew ?_ | with_reducible refine Grow.drewN ?_ _ | (with_reducible refine Grow.setCell ?_ ?hp _; (case hp => (simp; try omega))) | with_reducible refine Grow.trans ?_ (by assumption))))).mono ?_); (rintro e w2 ⟨rfl, rfl⟩)))
      | (go_at_call 76; (with_reducible refine (CM.out _ (by (repeat (first | with_reducible exact Grow.refl _ | with_reducible refine Grow.alloc ?_ _ | with_reducible refine Grow.drew ?_ | with_reducible refine Grow.drewN ?_ _ | (with_reducible refine Grow.setCell ?_ ?hp _; (case hp => (simp; try omega))) | with_reducible refine Grow.trans ?_ (by assumption))))).mono ?_); (rintro e w4 ⟨m4, rfl, hm4, hb4⟩))
      | (go_at_call 43; (with_reducible refine (SG.out _ _ hm4).mono ?_); (rintro e w7 ⟨m7, rfl, hm7, hb7⟩; obtain ⟨a7, c7, rfl⟩ := hm7.form; generalize (if n = 0 then 0 else 1) = l7 at hm7 ⊢; have HM7 := Lib.hid hm7; clear hm7; obtain ⟨e0, e1, e2, e3⟩ := C0.out w7 (by (repeat (first | with_reducible exact Grow.refl _ | with_reducible refine Grow.alloc ?_ _ | with_reducible refine Grow.drew ?_ | with_reducible refine Grow.drewN ?_ _ | (with_reducible refine Grow.setCell ?_ ?hp _; (case hp => (simp; try omega))) | with_reducible refine Grow.trans ?_ (by assumption)))); obtain ⟨q0, q1, qf, NU7, hz7, HB7⟩ := R0.out w7 (by (repeat (first | with_reducible exact Grow.refl _ | with_reducible refine Grow.alloc ?_ _ | with_reducible refine Grow.drew ?_ | with_reducible refine Grow.drewN ?_ _ | (with_reducible refine Grow.setCell ?_ ?hp _; (case hp => (simp; try omega))) | with_reducible refine Grow.trans ?_ (by assumption)))); have NU := Lib.hid NU7; have HB := Lib.hid HB7; clear NU7 HB7)))
  all_goals (try simp only [Exit.then])
  all_goals go_wp2_with fail
  all_goals refine bodyPost_ret (v := .agg #[.bool false, .slice a7 l7 c7]) (by rw [results_one rfl]; go_simp) rfl ⟨_, rfl, HM7.out.set2 NU.out _ _ _ _, by have h9 := HB.out; (repeat (first | with_reducible exact Grow.refl _ | with_reducible refine Grow.alloc ?_ _ | with_reducible refine Grow.drew ?_ | with_reducible refine Grow.drewN ?_ _ | (with_reducible refine Grow.setCell ?_ ?hp _; (case hp => (simp; try omega))) | with_reducible refine Grow.trans ?_ (by assumption)))⟩
def sgI (z : Int) : Int := if z < 0 then -1 else if 0 < z then 1 else 0
set_option maxHeartbeats 1000000 in
theorem signI_any (z : Int) (m : Value) (w : World) (h : MagR w m z.natAbs) : Calls Tryz.prog 21 #[.agg #[.bool (sgB z), m]] w fun e w' => e = .returned (.int .i64 (sgI z)) ∧ Grow w w' := by
  have T1 := Lib.hid (fun u hu => trimmed_mag m z.natAbs u (h.grow hu))
  obtain ⟨a, c, rfl⟩ := h.form
  rcases Int.lt_trichotomy z 0 with h0 | h0 | h0
  · have e1 : sgB z = true := by simp [sgB, h0]
    have e2 : sgI z = -1 := by simp [sgI, h0]
    rw [if_neg (by omega)] at T1 ⊢
    rw [e1, e2]
    clear h h0 e1 e2
    go_enter Tryz.func21, Tryz.ntmps21
    go_wp2_with (go_at_call 45; (refine (T1.out _ (by (repeat (first | with_reducible exact Grow.refl _ | with_reducible refine Grow.alloc ?_ _ | with_reducible refine Grow.drew ?_ | with_reducible refine Grow.drewN ?_ _ | (with_reducible refine Grow.setCell ?_ ?hp _; (case hp => (simp; try omega))) | with_reducible refine Grow.trans ?_ (by assumption))))).mono ?_); (rintro e w2 ⟨rfl, rfl⟩))
    go_ret
    exact ⟨rfl, by (repeat (first | with_reducible exact Grow.refl _ | with_reducible refine Grow.alloc ?_ _ | with_reducible refine Grow.drew ?_ | with_reducible refine Grow.drewN ?_ _ | (with_reducible refine Grow.setCell ?_ ?hp _; (case hp => (simp; try omega))) | with_reducible refine Grow.trans ?_ (by assumption)))⟩
  · subst h0
    rw [if_pos (show Int.natAbs 0 = 0 from rfl)] at T1 ⊢
    rw [show sgB 0 = false from rfl, show sgI 0 = 0 from rfl]
    clear h
    go_enter Tryz.func21, Tryz.ntmps21
    go_wp2_with (go_at_call 45; (refine (T1.out _ (by (repeat (first | with_reducible exact Grow.refl _ | with_reducible refine Grow.alloc ?_ _ | with_reducible refine Grow.drew ?_ | with_reducible refine Grow.drewN ?_ _ | (with_reducible refine Grow.setCell ?_ ?hp _; (case hp => (simp; try omega))) | with_reducible refine Grow.trans ?_ (by assumption))))).mono ?_); (rintro e w2 ⟨rfl, rfl⟩))
    go_ret
    exact ⟨rfl, by (repeat (first | with_reducible exact Grow.refl _ | with_reducible refine Grow.alloc ?_ _ | with_reducible refine Grow.drew ?_ | with_reducible refine Grow.drewN ?_ _ | (with_reducible refine Grow.setCell ?_ ?hp _; (case hp => (simp; try omega))) | with_reducible refine Grow.trans ?_ (by assumption)))⟩
  · have e1 : sgB z = false := by simp [sgB]; omega
    have e2 : sgI z = 1 := by unfold sgI; rw [if_neg (by omega), if_pos h0]
    rw [if_neg (by omega)] at T1 ⊢
    rw [e1, e2]
    clear h h0 e1 e2
    go_enter Tryz.func21, Tryz.ntmps21
    go_wp2_with (go_at_call 45; (refine (T1.out _ (by (repeat (first | with_reducible exact Grow.refl _ | with_reducible refine Grow.alloc ?_ _ | with_reducible refine Grow.drew ?_ | with_reducible refine Grow.drewN ?_ _ | (with_reducible refine Grow.setCell ?_ ?hp _; (case hp => (simp; try omega))) | with_reducible refine Grow.trans ?_ (by assumption))))).mono ?_); (rintro e w2 ⟨rfl, rfl⟩))
    go_ret
    exact ⟨rfl, by (repeat (first | with_reducible exact Grow.refl _ | with_reducible refine Grow.alloc ?_ _ | with_reducible refine Grow.drew ?_ | with_reducible refine Grow.drewN ?_ _ | (with_reducible refine Grow.setCell ?_ ?hp _; (case hp => (simp; try omega))) | with_reducible refine Grow.trans ?_ (by assumption)))⟩
end Go.Proofs.YtbpkfcohbefphaaGreatDoor
