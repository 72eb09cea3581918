/- Walk: Satisfies of the reference. -/
import Derived.Test.YtalidpojcpmcbaaHcV
import Derived.Test.YtalidpojcpmcbaaHbC
import Derived.Test.YtalidpojcpmcbaaHcC
namespace Go.Proofs.Ytalidpojcpmcbaa
open Go Go.RowKit

theorem fits_mem_take {l : List M2} {n : Int} {i : Nat} (hi : i < l.length) {m : M2} (hm : l.getD i M2.zero = m) (h : ∀ x ∈ l.take i, fitsF x n = true) (hf : fitsF m n = true) : ∀ x ∈ l.take (i + 1), fitsF x n = true := by
  intro x hx
  rw [take_snocM _ _ hi, hm, List.mem_append, List.mem_singleton] at hx
  rcases hx with hx | rfl
  · exact h x hx
  · exact hf
set_option maxRecDepth 20000 in
set_option maxHeartbeats 8000000 in
theorem refsat_in (n : Int) (l : List M2) (v : Value) (h1 : 1 ≤ n) (h2 : n ≤ 128) (h3 : l.length ≤ 4096) (R : Bool) (w : World) (hv : RdMats w v l) (HR : Hid (R = true ↔ SatP n l)) :
    Calls Try.prog 19 #[.int .i64 n, v] w fun e w' => e = .returned (.bool R) ∧ Grow w w' := by
  obtain ⟨a, cap, rfl⟩ := hv.form
  have HV := Lib.hid hv
  clear hv
  have k1 : ¬ n < 1 := by omega
  have k2 : ¬ 128 < n := by omega
  have k3 : ¬ (4096 : Int) < l.length := by omega
  have HEL : Hid (∀ i, i < l.length → ∃ b off, a = some ⟨b, off, none⟩ ∧ b < w.heap.size ∧ at4 (fun o => w.cell? ⟨b, o, none⟩) (off + i * 4) (l.getD i M2.zero)) := Lib.hid (fun i hlt => by
    rcases HV.out with ⟨a', cap', e, e2⟩ | ⟨b, off, cap', e, hb, -, hc⟩
    · rw [e2] at hlt; simp at hlt
    · injection e with e1 _ _
      exact ⟨b, off, e1, hb, hc i hlt⟩)
  clear HV
  go_enter Try.func19, Try.ntmps19
  go_upto_block 0 with fail
  go_cut [] (fun wc => Hid (∀ m ∈ l, fitsF m n = true) ∧ Hid (Grow w wc))
  case first =>
    go_wp2_with fail
    go_loopw [5] (fun i wr => ∃ k : Nat, k ≤ l.length ∧ i = .int .i64 k ∧ Hid (∀ m ∈ l.take k, fitsF m n = true) ∧ Hid (Grow w wr)) (fun i _ => l.length - (intOf i).toNat)
    case atStart => exact ⟨0, Nat.zero_le _, rfl, Lib.hid (by intro m hm; simp at hm), Lib.hid (Grow.refl w)⟩
    case round =>
      obtain ⟨i, hi, rfl, hfit, hgr⟩ := hrel
      by_cases hlt : i < l.length
      · obtain ⟨b, off, rfl, hbw, hat⟩ := HEL.out i hlt
        have hc := hgr.out.cells
        obtain ⟨d1, d2, d3, d4⟩ := hat
        have d1 := (hc b _ hbw).trans d1
        have d2 := (hc b _ hbw).trans d2
        have d3 := (hc b _ hbw).trans d3
        have d4 := (hc b _ hbw).trans d4
        clear hc
        obtain ⟨m, hm⟩ : ∃ m, l.getD i M2.zero = m := ⟨_, rfl⟩
        rw [hm] at d1 d2 d3 d4
        have HM := Lib.hid hm
        clear hm
        have hli : (i : Int) < l.length := by omega
        have hi0 : (0 : Int) ≤ i := by omega
        have HMEM : Hid (m ∈ l) := Lib.hid (by
          rw [← HM.out, List.getD_eq_getElem?_getD, List.getElem?_eq_getElem hlt]
          simp)
        have HRF : Hid (fitsF m n = false → R = false) := Lib.hid (fun hf => by
          cases hR : R with
          | false => rfl
          | true => exact absurd ((HR.out.1 hR).2.1 m HMEM.out) (by rw [hf]; decide))
        go_wp2_with fail
        go_quiet (fail)
        go_wp2_with fail
        go_loopw [52] (fun t52 wx => ∃ j : Nat, j ≤ 4 ∧ t52 = .int .i64 j ∧ Hid (∀ x, x < j → okE (entM m x) = true) ∧ wx = wr.drewN nq) (fun t52 _ => 4 - (intOf t52).toNat)
        case atStart => exact ⟨0, by omega, rfl, Lib.hid (fun j hj => absurd hj (by omega)), rfl⟩
        case round =>
          obtain ⟨j, hj, rfl, hoks, rfl⟩ := hrel
          by_cases hj4 : j < 4
          · have hix := ixN m.a m.b m.c m.d j hj4 (wr.drewN nq)
            have hj4' : (j : Int) < 4 := by omega
            have hent : entM ⟨m.a, m.b, m.c, m.d⟩ j = entM m j := rfl
            rw [hent] at hix
            obtain ⟨x, hx⟩ : ∃ x, entM m j = x := ⟨_, rfl⟩
            rw [hx] at hix
            by_cases hxb : x.natAbs ≤ 1073741824
            · have HN : Hid (∀ y, y < j + 1 → okE (entM m y) = true) := Lib.hid (fun y hy => by
                by_cases hyj : y < j
                · exact hoks.out y hyj
                · have he : y = j := by omega
                  subst he; rw [hx]; exact okE_iff.2 hxb)
              have l1 : ¬ x < -1073741824 := by omega
              have l2 : ¬ 1073741824 < x := by omega
              clear hx hxb hent
              go_wp2_with fail
              go_roundw
              case measure => simp [intOf]; omega
              case rel => exact ⟨j + 1, by omega, by go_num, HN.out, by first | trivial | rfl⟩
            · have hfalse : fitsF m n = false := by
                have h1 : okM m = false := by
                  cases h : okM m with
                  | false => rfl
                  | true => exact absurd (okE_iff.1 (ok_ent (j := j) h)) (by rw [hx]; exact hxb)
                simp [fitsF, h1]
              have hR := HRF.out hfalse
              subst hR
              clear hfalse hx hent
              have hG : Grow w wr := hgr.out
              by_cases l1 : x < -1073741824
              · clear hxb
                go_wp2_with fail
                go_ret
                exact ⟨rfl, by (repeat (first | with_reducible exact Grow.refl _ | with_reducible refine Grow.alloc ?_ _ | with_reducible refine Grow.drew ?_ | with_reducible refine Grow.drewN ?_ _ | (with_reducible refine Grow.setCell ?_ ?hp _; (case hp => (simp; try omega))) | with_reducible refine Grow.trans ?_ (by assumption)))⟩
              · have l2 : 1073741824 < x := by omega
                clear hxb
                go_wp2_with fail
                go_ret
                exact ⟨rfl, by (repeat (first | with_reducible exact Grow.refl _ | with_reducible refine Grow.alloc ?_ _ | with_reducible refine Grow.drew ?_ | with_reducible refine Grow.drewN ?_ _ | (with_reducible refine Grow.setCell ?_ ?hp _; (case hp => (simp; try omega))) | with_reducible refine Grow.trans ?_ (by assumption)))⟩
          · have hje : j = 4 := by omega
            subst hje
            have hok : okM m = true := ent_ok hoks.out
            obtain ⟨o1, o2, o3, o4⟩ := okM_iff.1 hok
            obtain ⟨p1, p2⟩ : (m.a * m.d).natAbs ≤ 1152921504606846976 ∧ (m.b * m.c).natAbs ≤ 1152921504606846976 := ⟨mul_abs o1 o4, mul_abs o2 o3⟩
            have y1 : IntKind.i64.wrap (m.a * m.d) = m.a * m.d := IntWalk.i64_in _ (by omega)
            have y2 : IntKind.i64.wrap (m.b * m.c) = m.b * m.c := IntWalk.i64_in _ (by omega)
            have y3 : IntKind.i64.wrap (m.a * m.d - m.b * m.c) = m.a * m.d - m.b * m.c := IntWalk.i64_in _ (by omega)
            have HOK := Lib.hid hok
            clear hok o1 o2 o3 o4 p1 p2 hoks
            by_cases hdet : m.a * m.d - m.b * m.c = n
            · have hfm : fitsF m n = true := by simp [fitsF, HOK.out, hdet]
              have HNF := Lib.hid (fits_mem_take hlt HM.out hfit.out hfm)
              have e1 : (m.a * m.d - m.b * m.c == n) = true := by simpa using hdet
              have e2 : (m.a * m.d - m.b * m.c != n) = false := by simpa using hdet
              clear hdet hfm
              have HG2 := Lib.hid (fun d => hgr.out.drewN d)
              go_wp2_with fail
              go_quiet (fail)
              go_wp2_with fail
              go_roundw
              case measure => simp [intOf]; omega
              case rel => exact ⟨i + 1, by omega, by go_num, HNF.out, Lib.hid (HG2.out _)⟩
            · have hfm : fitsF m n = false := by
                have : (m.a * m.d - m.b * m.c == n) = false := by simpa using hdet
                simp [fitsF, this]
              have hR := HRF.out hfm
              subst hR
              have e1 : (m.a * m.d - m.b * m.c == n) = false := by simpa using hdet
              have e2 : (m.a * m.d - m.b * m.c != n) = true := by simpa using hdet
              clear hdet hfm
              have hG : Grow w wr := hgr.out
              go_wp2_with fail
              go_quiet (fail)
              go_wp2_with fail
              go_ret
              exact ⟨rfl, by (repeat (first | with_reducible exact Grow.refl _ | with_reducible refine Grow.alloc ?_ _ | with_reducible refine Grow.drew ?_ | with_reducible refine Grow.drewN ?_ _ | (with_reducible refine Grow.setCell ?_ ?hp _; (case hp => (simp; try omega))) | with_reducible refine Grow.trans ?_ (by assumption)))⟩
      · have hie : i = l.length := by omega
        subst hie
        have HALL : Hid (∀ m ∈ l, fitsF m n = true) := Lib.hid (by have := hfit.out; rwa [List.take_length] at this)
        go_wp2_with fail
        go_meet
        exact ⟨HALL.out, hgr.out⟩
  case rest =>
    obtain ⟨HF, hG0⟩ := hcut
    go_wp2_with fail
    go_loopw [8] (fun t8 wr => ∃ a : Int, 1 ≤ a ∧ t8 = .int .i64 a ∧ Hid (a ≤ n + 1) ∧ Hid (∀ a' b', 1 ≤ a' → a' < a → n.tmod a' = 0 → 0 ≤ b' → b' < a' → ∀ c, b0 c + valE (evL n l) ⟨a', b', n.tdiv a'⟩ c = 0) ∧ Hid (Grow w wr)) (fun t8 _ => (n + 1 - intOf t8).toNat)
    case atStart => exact ⟨1, by omega, rfl, Lib.hid (by omega), Lib.hid (fun a' b' ha hlt => by omega), hG0⟩
    case round =>
      obtain ⟨A, hA, rfl, hA2, hZ, hgr⟩ := hrel
      by_cases hle : A ≤ n
      · have q1 : ¬ A = 0 := by omega
        have q2 : (A == 0) = false := by simpa using q1
        have q3 : ¬ n < A := by omega
        obtain ⟨t, ht⟩ : ∃ t, n.tmod A = t := ⟨_, rfl⟩
        obtain ⟨q, hq⟩ : ∃ q, n.tdiv A = q := ⟨_, rfl⟩
        have ht0 : 0 ≤ t := by rw [← ht]; exact Int.tmod_nonneg _ (by omega)
        have ht1 : t < A := by rw [← ht]; exact Int.tmod_lt_of_pos _ (by omega)
        have hq0 : 0 ≤ q := by rw [← hq]; exact Int.tdiv_nonneg (by omega) (by omega)
        have hq1 : q ≤ 128 := by rw [← hq]; exact Int.le_trans (Int.tdiv_le_self _ (by omega)) h2
        have yt : IntKind.i64.wrap t = t := IntWalk.i64_in _ (by omega)
        have yq : IntKind.i64.wrap q = q := IntWalk.i64_in _ (by omega)
        have HQ := Lib.hid hq
        by_cases hmod : t = 0
        · subst hmod
          have HT := Lib.hid ht
          clear ht0 ht1
          obtain ⟨wr0, hw0⟩ : ∃ x, x = wr := ⟨wr, rfl⟩
          subst hw0
          have hG1 := hgr
          go_wp2_with fail
          go_loopw [9] (fun t9 wr => ∃ b : Int, 0 ≤ b ∧ t9 = .int .i64 b ∧ Hid (b ≤ A) ∧ Hid (∀ b', 0 ≤ b' → b' < b → ∀ c, b0 c + valE (evL n l) ⟨A, b', q⟩ c = 0) ∧ Hid (Grow w wr)) (fun t9 _ => (A - intOf t9).toNat)
          case atStart => exact ⟨0, by omega, rfl, Lib.hid (by omega), Lib.hid (fun b' hb hlt => by omega), hG1⟩
          case round =>
            clear hgr hG1
            obtain ⟨b, hb, rfl, hb2, hZB, hgr⟩ := hrel
            by_cases hlt : b < A
            · have yb : IntKind.i64.wrap (b + 1) = b + 1 := IntWalk.i64_in _ (by omega)
              have HG2 := Lib.hid hgr.out
              go_upto_region 21 with fail
              go_cut [11] (fun t11 wc => ∃ (Y : Nat) (vc vt : Value) (xs : List C2) (ys : List Int), t11 = .pointer (some ⟨Y, 0, none⟩) ∧ Hid (SMc w wc wr.heap.size Y (wr.heap.size + 1) ⟨A, b, q⟩ vc vt) ∧ Hid (SumOwn wc (wr.heap.size + 1) vc vt xs ys) ∧ Hid (NEb Y vc vt) ∧ Hid (SumInv n l ⟨A, b, q⟩ 0 xs ys))
              case first =>
                have AD1 := Lib.hid (fun u (hu : wr.heap.size + 1 ≤ u.heap.size) => add_pq [] [] 1 0 (-1) (by decide) (by simp) (by simp) (wr.heap.size + 1) (.slice none 0 0) (.slice none 0 0) u (SumOwn.nil _ _) hu)
                go_wp2_with (first
                  | (go_at_call 32; with_reducible refine (AD1.out _ (by simp)).mono ?_; rintro e w1 ⟨cv1, tv1, xs1, ys1, rfl, ho1, hst1⟩; have HO1 := Lib.hid ho1; have HST1 := Lib.hid hst1; have L1 := Lib.hid (ho1.len rfl); clear ho1 hst1)
                  | (go_at_call 32; with_reducible refine (add_pq xs1 ys1 0 1 1 (by decide) (by have := L1.out.2; simp at this; omega) (fun t ht => by have := HO1.out.bd (B := 0) (by decide) (by simp) t ht; omega) (wr.heap.size + 1) cv1 tv1 w1 (HST1.out.sum L1.out.1) (by have := HST1.out.but.size; simp at this; omega)).mono ?_; rintro e w2 ⟨cv2, tv2, xs2, ys2, rfl, ho2, hst2⟩; have HO2 := Lib.hid ho2; obtain ⟨a1, a2, a3, e1⟩ := form3c hst2.oc; obtain ⟨a4, a5, a6, e2⟩ := form3t hst2.ot; subst e1 e2; have HST2 := Lib.hid hst2; clear ho2 hst2))
                go_meet
                obtain ⟨g1, g2, g3⟩ := sm_start HG2.out HST1.out HST2.out (HO2.out.len L1.out.1).1
                exact ⟨w2.heap.size, _, _, xs2, ys2, rfl, g1, g2, g3, SumInv.start HO1.out HO2.out⟩
              case rest =>
                obtain ⟨Y, vc0, vt0, xs0, ys0, rfl, hsm0, hso0, hne0, hin0⟩ := hcut
                obtain ⟨X, hX⟩ : ∃ X, wr.heap.size = X := ⟨_, rfl⟩
                rw [hX] at hsm0 hso0 ⊢
                clear hX HG2 hgr
                go_wp2_with fail
                go_loopw [12] (fun t12 wx => ∃ (i : Nat) (vc vt : Value) (xs : List C2) (ys : List Int), i ≤ l.length ∧ t12 = .int .i64 i ∧ Hid (SMc w wx X Y (X + 1) ⟨A, b, q⟩ vc vt) ∧ Hid (SumOwn wx (X + 1) vc vt xs ys) ∧ Hid (NEb Y vc vt) ∧ Hid (SumInv n l ⟨A, b, q⟩ i xs ys)) (fun t12 _ => l.length - (intOf t12).toNat)
                case atStart => exact ⟨0, vc0, vt0, xs0, ys0, Nat.zero_le _, rfl, hsm0, hso0, hne0, hin0⟩
                case round =>
                  clear hsm0 hso0 hne0 hin0
                  obtain ⟨i, vc, vt, xs, ys, hi, rfl, hsm, hso, hne, hin⟩ := hrel
                  obtain ⟨wx, hwx⟩ : ∃ x, x = wr := ⟨wr, rfl⟩
                  subst hwx
                  by_cases hlt5 : i < l.length
                  · obtain ⟨bb, off, rfl, hbw, hat⟩ := HEL.out i hlt5
                    obtain ⟨m, hm⟩ : ∃ m, l.getD i M2.zero = m := ⟨_, rfl⟩
                    rw [hm] at hat
                    have HM := Lib.hid hm
                    have HAT := Lib.hid hat
                    clear hm hat
                    have hli : (i : Int) < l.length := by omega
                    have hi0 : (0 : Int) ≤ i := by omega
                    have HMEM : Hid (m ∈ l) := Lib.hid (by
                      rw [← HM.out, List.getD_eq_getElem?_getD, List.getElem?_eq_getElem hlt5]
                      simp)
                    have hfm := HF.out m HMEM.out
                    simp only [fitsF, Bool.and_eq_true, beq_iff_eq] at hfm
                    have HOK := Lib.hid hfm.1
                    have HDET := Lib.hid hfm.2
                    clear hfm
                    have CL := Lib.hid (fun u => refClass_any m n h1 h2 HOK.out HDET.out u)
                    obtain ⟨K, hK⟩ : ∃ K, clsF m n = K := ⟨_, rfl⟩
                    rw [hK] at CL
                    have HK := Lib.hid hK
                    clear hK
                    obtain ⟨hit, hhit⟩ : ∃ hit : Bool, (hit = true ↔ (K.a = A ∧ K.b = b ∧ K.d = q)) := ⟨decide (K.a = A ∧ K.b = b ∧ K.d = q), by simp⟩
                    have HHIT := Lib.hid hhit
                    clear hhit
                    have s0 := el_of HAT.out hbw hsm.out.gr
                    have zbb : bb < wx.heap.size := Nat.lt_of_lt_of_le hbw hsm.out.gr.size
                    have zX : X < wx.heap.size := by have := hsm.out.xy; have := hsm.out.yz; omega
                    have x0 := hsm.out.x0
                    have x1 := hsm.out.x1
                    have x2 := hsm.out.x2
                    have x3 := hsm.out.x3
                    go_upto_region 25 with fail
                    go_cut [126] (fun t126 wc => t126 = .bool hit ∧ Hid (Grow wx wc))
                    case first =>
                      obtain ⟨d1, d2, d3, d4⟩ := s0
                      have e00 : ((0 : Int) == 0) = true := rfl
                      cases hE1 : (K.a == A) <;> cases hE2 : (K.b == b) <;> cases hE3 : (K.d == q)
                      all_goals go_region_held3 (fun w' => w'.cell? ⟨bb, off + i * 4, none⟩ = some (.int .i64 m.a) ∧ w'.cell? ⟨bb, off + i * 4 + 1, none⟩ = some (.int .i64 m.b) ∧ w'.cell? ⟨bb, off + i * 4 + 2, none⟩ = some (.int .i64 m.c) ∧ w'.cell? ⟨bb, off + i * 4 + 3, none⟩ = some (.int .i64 m.d) ∧ w'.cell? ⟨X, 0, none⟩ = some (.int .i64 A) ∧ w'.cell? ⟨X, 1, none⟩ = some (.int .i64 b) ∧ w'.cell? ⟨X, 2, none⟩ = some (.int .i64 0) ∧ w'.cell? ⟨X, 3, none⟩ = some (.int .i64 q))
                        (first | exact ⟨d1, d2, d3, d4, x0, x1, x2, x3⟩ | exact t0)
                        (first | (go_at_call 22; with_reducible refine (CL.out _).mono ?_; rintro e w3 ⟨rfl, hb3⟩; have hb4 : Grow wx w3 := Grow.trans (by (repeat (first | with_reducible exact Grow.refl _ | with_reducible refine Grow.alloc ?_ _ | with_reducible refine Grow.drew ?_ | with_reducible refine Grow.drewN ?_ _ | (with_reducible refine Grow.setCell ?_ ?hp _; (case hp => (simp; try omega))) | with_reducible refine Grow.trans ?_ (by assumption)))) hb3; clear hb3; have t0 := (⟨(hb4.cells _ _ zbb).trans d1, (hb4.cells _ _ zbb).trans d2, (hb4.cells _ _ zbb).trans d3, (hb4.cells _ _ zbb).trans d4, (hb4.cells _ _ zX).trans x0, (hb4.cells _ _ zX).trans x1, (hb4.cells _ _ zX).trans x2, (hb4.cells _ _ zX).trans x3⟩ : w3.cell? ⟨bb, off + i * 4, none⟩ = some (.int .i64 m.a) ∧ w3.cell? ⟨bb, off + i * 4 + 1, none⟩ = some (.int .i64 m.b) ∧ w3.cell? ⟨bb, off + i * 4 + 2, none⟩ = some (.int .i64 m.c) ∧ w3.cell? ⟨bb, off + i * 4 + 3, none⟩ = some (.int .i64 m.d) ∧ w3.cell? ⟨X, 0, none⟩ = some (.int .i64 A) ∧ w3.cell? ⟨X, 1, none⟩ = some (.int .i64 b) ∧ w3.cell? ⟨X, 2, none⟩ = some (.int .i64 0) ∧ w3.cell? ⟨X, 3, none⟩ = some (.int .i64 q))))
                      all_goals (go_wp2; go_meet)
                      all_goals refine ⟨?_, Lib.hid (by (repeat (first | with_reducible exact Grow.refl _ | with_reducible refine Grow.alloc ?_ _ | with_reducible refine Grow.drew ?_ | with_reducible refine Grow.drewN ?_ _ | (with_reducible refine Grow.setCell ?_ ?hp _; (case hp => (simp; try omega))) | with_reducible refine Grow.trans ?_ (by assumption))))⟩
                      all_goals (simp only [beq_iff_eq, beq_eq_false_iff_ne] at hE1 hE2 hE3; congr 1; rw [Bool.eq_iff_iff, HHIT.out]; simp [hE1, hE2, hE3])
                    case rest =>
                      obtain ⟨rfl, hg3⟩ := hcut
                      have HSM := Lib.hid (hsm.out.grow hg3.out)
                      have HSO := Lib.hid (hso.out.grow hg3.out)
                      clear hsm hso s0 x0 x1 x2 x3 zX zbb hg3
                      cases hit with
                      | false =>
                        have hne3 : clsF m n ≠ ⟨A, b, q⟩ := fun e => by
                          rw [HK.out] at e
                          have := HHIT.out.2 (by rw [e]; exact ⟨rfl, rfl, rfl⟩)
                          cases this
                        have HIN := Lib.hid (hin.out.miss hlt5 HM.out hne3)
                        clear hne3
                        go_wp2_with fail
                        go_roundw
                        case measure => simp [intOf]; omega
                        case rel => exact ⟨i + 1, vc, vt, xs, ys, by omega, by go_num, HSM.out, HSO.out, hne.out, HIN.out⟩
                      | true =>
                        have HKK : Hid (clsF m n = ⟨A, b, q⟩) := Lib.hid (by
                          have := HHIT.out.1 rfl
                          rw [HK.out]
                          cases K
                          simp only at this
                          rw [this.1, this.2.1, this.2.2])
                        clear HHIT CL HK
                        obtain ⟨o1, o2, o3, o4⟩ := okM_iff.1 HOK.out
                        have nz1 : ¬ (m.a = 0 ∧ m.c = 0) := fun h => by
                          have hd := HDET.out
                          rw [h.1, h.2] at hd
                          simp at hd
                          omega
                        have nz2 : ¬ (m.b = 0 ∧ m.d = 0) := fun h => by
                          have hd := HDET.out
                          rw [h.1, h.2] at hd
                          simp at hd
                          omega
                        have CU1 := Lib.hid (fun u => refcusp_any m.a m.c o1 o3 nz1 u)
                        have CU2 := Lib.hid (fun u => refcusp_any m.b m.d o2 o4 nz2 u)
                        obtain ⟨c1, hc1⟩ : ∃ c, cuF m.a m.c = c := ⟨_, rfl⟩
                        obtain ⟨c2, hc2⟩ : ∃ c, cuF m.b m.d = c := ⟨_, rfl⟩
                        rw [hc1] at CU1
                        rw [hc2] at CU2
                        have HC1 := Lib.hid hc1
                        have HC2 := Lib.hid hc2
                        clear hc1 hc2 o1 o2 o3 o4 nz1 nz2
                        have hsh := hin.out.short
                        have hbd := hin.out.bd
                        have AD1 := Lib.hid (fun u (hs : SumOwn u (X + 1) vc vt xs ys) (hb : X + 1 ≤ u.heap.size) => add_any xs ys c1 1 (by decide) (by omega) (fun t ht => by have := hbd t ht; omega) (X + 1) vc vt u hs hb)
                        have hlen := hin.out.len
                        have AD2 : Hid (∀ (xs1 : List C2) (ys1 : List Int), AddOut xs ys c1 1 xs1 ys1 → ∀ vc1 vt1 u, SumOwn u (X + 1) vc1 vt1 xs1 ys1 → X + 1 ≤ u.heap.size → Calls Try.prog 32 #[.agg #[vc1, vt1], .agg #[.int .i64 c2.p, .int .i64 c2.q], .int .i64 (-1)] u fun e w' => ∃ cv' tv' cs' ts', e = .returned (.agg #[cv', tv']) ∧ AddOut xs1 ys1 c2 (-1) cs' ts' ∧ St u w' (X + 1) vc1 vt1 cv' tv' cs' ts') :=
                          Lib.hid (fun xs1 ys1 ho vc1 vt1 u hs hb => add_any xs1 ys1 c2 (-1) (by decide) (by have := (ho.len hlen).2; omega) (fun t ht => by have := ho.bd (by decide) hbd t ht; omega) (X + 1) vc1 vt1 u hs hb)
                        have HLEN := Lib.hid hlen
                        clear hsh hbd hlen
                        obtain ⟨d1, d2, d3, d4⟩ := el_of HAT.out hbw HSM.out.gr
                        have y0 := HSM.out.y0
                        have y1 := HSM.out.y1
                        have zY : Y < wc.heap.size := HSM.out.yz
                        have zbb : bb < wc.heap.size := Nat.lt_of_lt_of_le hbw HSM.out.gr.size
                        go_upto_region 26 with fail
                        refine wp_region_noPanic ?_
                        refine wp_region_held_drew (S := (fun w' => w'.cell? ⟨bb, off + i * 4, none⟩ = some (.int .i64 m.a) ∧ w'.cell? ⟨bb, off + i * 4 + 1, none⟩ = some (.int .i64 m.b) ∧ w'.cell? ⟨bb, off + i * 4 + 2, none⟩ = some (.int .i64 m.c) ∧ w'.cell? ⟨bb, off + i * 4 + 3, none⟩ = some (.int .i64 m.d))) (by kernel_rfl) ?hS0 (fun hHeld => ?_)
                        case hS0 => ((try dsimp only); (first | exact ⟨d1, d2, d3, d4⟩ | exact el_of HAT.out hbw ((HS6.out.store _ _).gr) | exact el_of HAT.out hbw HS6.out.gr | exact el_of HAT.out hbw HS5.out.gr | exact el_of HAT.out hbw HS4.out.gr | exact el_of HAT.out hbw HS3.out.gr))
                        refine wpAnyH_take (i := 1) (v := ?v1) rfl (by kernel_rfl) (by kernel_rfl) (by kernel_rfl) (fun _ _ _ h => h) (Or.inl ⟨by rfl, ?hy1⟩) (by assumption) ?_
                        case hy1 => (intro w hSw; (try dsimp only at hSw); go_simp; (try with_reducible rfl))
                        (try simp only [Act.put, List.setIfInBounds_toArray])
                        refine wpAnyH_take (i := 2) (v := ?v2) rfl (by kernel_rfl) (by kernel_rfl) (by kernel_rfl) (fun _ _ _ h => h) (Or.inl ⟨by rfl, ?hy2⟩) (by assumption) ?_
                        case hy2 => (intro w hSw; (try dsimp only at hSw); go_simp; (try with_reducible rfl))
                        (try simp only [Act.put])
                        refine wpAnyH_take (i := 3) (v := ?v3) rfl (by kernel_rfl) (by kernel_rfl) (by kernel_rfl) (fun _ _ _ h => h) (Or.inl ⟨by rfl, ?hy3⟩) (by assumption) ?_
                        case hy3 => (intro w hSw; (try dsimp only at hSw); go_simp; (try with_reducible rfl))
                        (try simp only [Act.put])
                        refine wpAnyH_take (i := 4) (v := ?v4) rfl (by kernel_rfl) (by kernel_rfl) (by kernel_rfl) (fun _ _ _ h => h) (Or.inl ⟨by rfl, ?hy4⟩) (by assumption) ?_
                        case hy4 => (intro w hSw; (try dsimp only at hSw); go_simp; (try with_reducible rfl))
                        (try simp only [Act.put])
                        refine wpAnyH_take (i := 5) (v := ?v5) rfl (by kernel_rfl) (by kernel_rfl) (by kernel_rfl) (fun _ _ _ h => h) (Or.inl ⟨by rfl, ?hy5⟩) (by assumption) ?_
                        case hy5 => (intro w hSw; (try dsimp only at hSw); go_simp; (try with_reducible rfl))
                        (try simp only [Act.put])
                        refine wpAnyH_take (i := 6) (v := ?v6) rfl (by kernel_rfl) (by kernel_rfl) (by kernel_rfl) (fun _ _ _ h => h) (Or.inl ⟨by rfl, ?hy6⟩) (by assumption) ?_
                        case hy6 => (intro w hSw; (try dsimp only at hSw); go_simp; (try with_reducible rfl))
                        (try simp only [Act.put])
                        refine wpAnyH_take (i := 7) (v := ?v7) rfl (by kernel_rfl) (by kernel_rfl) (by kernel_rfl) (fun _ _ _ h => h) (Or.inl ⟨by rfl, ?hy7⟩) (by assumption) ?_
                        case hy7 => (intro w hSw; (try dsimp only at hSw); go_simp; (try with_reducible rfl))
                        (try simp only [Act.put])
                        refine wpAnyH_take (i := 8) (v := ?v8) rfl (by kernel_rfl) (by kernel_rfl) (by kernel_rfl) (fun _ _ _ h => h) (Or.inl ⟨by rfl, ?hy8⟩) (by assumption) ?_
                        case hy8 => (intro w hSw; (try dsimp only at hSw); go_simp; (try with_reducible rfl))
                        (try simp only [Act.put])
                        refine wpAnyH_take (i := 9) (v := ?v9) rfl (by kernel_rfl) (by kernel_rfl) (by kernel_rfl) (fun _ _ _ h => h) (Or.inl ⟨by rfl, ?hy9⟩) (by assumption) ?_
                        case hy9 => (intro w hSw; (try dsimp only at hSw); go_simp; (try with_reducible rfl))
                        (try simp only [Act.put])
                        refine wpAnyH_take (i := 10) (v := ?v10) rfl (by kernel_rfl) (by kernel_rfl) (by kernel_rfl) (fun _ _ _ h => h) (Or.inl ⟨by rfl, ?hy10⟩) (by assumption) ?_
                        case hy10 => (intro w hSw; (try dsimp only at hSw); go_simp; (try with_reducible rfl))
                        (try simp only [Act.put])
                        refine wpAnyH_take (i := 13) (v := ?v11) rfl (by kernel_rfl) (by kernel_rfl) (by kernel_rfl) (fun _ _ _ h => h) (Or.inl ⟨by rfl, ?hy11⟩) (by assumption) ?_
                        case hy11 => (intro w hSw; (try dsimp only at hSw); go_simp; (try with_reducible rfl))
                        (try simp only [Act.put])
                        refine wpAnyH_take (i := 14) (v := ?v12) rfl (by kernel_rfl) (by kernel_rfl) (by kernel_rfl) (fun _ _ _ h => h) (Or.inl ⟨by rfl, ?hy12⟩) (by assumption) ?_
                        case hy12 => (intro w hSw; (try dsimp only at hSw); go_simp; (try with_reducible rfl))
                        (try simp only [Act.put])
                        refine wpAnyH_take (i := 15) (v := ?v13) rfl (by kernel_rfl) (by kernel_rfl) (by kernel_rfl) (fun _ _ _ h => h) (Or.inl ⟨by rfl, ?hy13⟩) (by assumption) ?_
                        case hy13 => (intro w hSw; (try dsimp only at hSw); go_simp; (try with_reducible rfl))
                        (try simp only [Act.put])
                        refine wpAnyH_take (i := 16) (v := ?v14) rfl (by kernel_rfl) (by kernel_rfl) (by kernel_rfl) (fun _ _ _ h => h) (Or.inl ⟨by rfl, ?hy14⟩) (by assumption) ?_
                        case hy14 => (intro w hSw; (try dsimp only at hSw); go_simp; (try with_reducible rfl))
                        (try simp only [Act.put])
                        refine wpAnyH_take (i := 17) (v := ?v15) rfl (by kernel_rfl) (by kernel_rfl) (by kernel_rfl) (fun _ _ _ h => h) (Or.inl ⟨by rfl, ?hy15⟩) (by assumption) ?_
                        case hy15 => (intro w hSw; (try dsimp only at hSw); go_simp; (try with_reducible rfl))
                        (try simp only [Act.put])
                        refine wpAnyH_take (i := 18) (v := ?v16) rfl (by kernel_rfl) (by kernel_rfl) (by kernel_rfl) (fun _ _ _ h => h) (Or.inl ⟨by rfl, ?hy16⟩) (by assumption) ?_
                        case hy16 => (intro w hSw; (try dsimp only at hSw); go_simp; (try with_reducible rfl))
                        (try simp only [Act.put])
                        refine wpAnyH_take (i := 19) (v := ?v17) rfl (by kernel_rfl) (by kernel_rfl) (by kernel_rfl) (fun _ _ _ h => h) (Or.inl ⟨by rfl, ?hy17⟩) (by assumption) ?_
                        case hy17 => (intro w hSw; (try dsimp only at hSw); go_simp; (try with_reducible rfl))
                        (try simp only [Act.put])
                        refine wpAnyH_take (i := 20) (v := ?v18) rfl (by kernel_rfl) (by kernel_rfl) (by kernel_rfl) (fun _ _ _ h => h) (Or.inl ⟨by rfl, ?hy18⟩) (by assumption) ?_
                        case hy18 => (intro w hSw; (try dsimp only at hSw); go_simp; (try with_reducible rfl))
                        (try simp only [Act.put])
                        refine wpAnyH_take (i := 21) (v := ?v19) rfl (by kernel_rfl) (by kernel_rfl) (by kernel_rfl) (fun _ _ _ h => h) (Or.inl ⟨by rfl, ?hy19⟩) (by assumption) ?_
                        case hy19 => (intro w hSw; (try dsimp only at hSw); go_simp; (try with_reducible rfl))
                        (try simp only [Act.put])
                        refine wpAnyH_take (i := 22) (v := ?v20) rfl (by kernel_rfl) (by kernel_rfl) (by kernel_rfl) (fun _ _ _ h => h) (Or.inl ⟨by rfl, ?hy20⟩) (by assumption) ?_
                        case hy20 => (intro w hSw; (try dsimp only at hSw); go_simp; (try with_reducible rfl))
                        (try simp only [Act.put])
                        refine wpAnyH_ready (rs := [0, 11]) (by kernel_rfl) (by simp) ?_
                        refine AllReadyH.cons rfl (fun K hK => ?_) (AllReadyH.cons rfl (fun K hK => ?_) AllReadyH.nil)
                        · go_simp
                          refine hK.out _ _ ?hSn21 (fun hHeld => ?_)
                          case hSn21 => ((try dsimp only); (first | exact ⟨d1, d2, d3, d4⟩ | exact el_of HAT.out hbw ((HS6.out.store _ _).gr) | exact el_of HAT.out hbw HS6.out.gr | exact el_of HAT.out hbw HS5.out.gr | exact el_of HAT.out hbw HS4.out.gr | exact el_of HAT.out hbw HS3.out.gr))
                          clear hK K
                          (try simp only [Act.put])
                          refine wpAnyH_ready (rs := [11]) (by kernel_rfl) (by simp) ?_
                          refine AllReadyH.cons rfl (fun K hK => ?_) AllReadyH.nil
                          go_simp
                          (go_at_call 33; with_reducible refine (CU1.out _).mono ?_; rintro e w3 ⟨rfl, hb3⟩; have hb4 : Grow wc w3 := Grow.trans (by (repeat (first | with_reducible exact Grow.refl _ | with_reducible refine Grow.alloc ?_ _ | with_reducible refine Grow.drew ?_ | with_reducible refine Grow.drewN ?_ _ | (with_reducible refine Grow.setCell ?_ ?hp _; (case hp => (simp; try omega))) | with_reducible refine Grow.trans ?_ (by assumption)))) hb3; clear hb3; have HS3 := Lib.hid (HSM.out.grow hb4); have HO3 := Lib.hid (HSO.out.grow hb4); have y30 := HS3.out.y0; have y31 := HS3.out.y1; clear hb4)
                          (try go_wp2_with fail)
                          refine hK.out _ _ ?hSn22 (fun hHeld => ?_)
                          case hSn22 => ((try dsimp only); (first | exact ⟨d1, d2, d3, d4⟩ | exact el_of HAT.out hbw ((HS6.out.store _ _).gr) | exact el_of HAT.out hbw HS6.out.gr | exact el_of HAT.out hbw HS5.out.gr | exact el_of HAT.out hbw HS4.out.gr | exact el_of HAT.out hbw HS3.out.gr))
                          clear hK K
                          (try simp only [Act.put])
                          refine wpAnyH_ready (rs := [12]) (by kernel_rfl) (by simp) ?_
                          refine AllReadyH.cons rfl (fun K hK => ?_) AllReadyH.nil
                          go_simp
                          (go_at_call 32; with_reducible refine (AD1.out _ (HO3.out.grow (by (repeat (first | with_reducible exact Grow.refl _ | with_reducible refine Grow.alloc ?_ _ | with_reducible refine Grow.drew ?_ | with_reducible refine Grow.drewN ?_ _ | (with_reducible refine Grow.setCell ?_ ?hp _; (case hp => (simp; try omega))) | with_reducible refine Grow.trans ?_ (by assumption))))) (HS3.out.grow (by (repeat (first | with_reducible exact Grow.refl _ | with_reducible refine Grow.alloc ?_ _ | with_reducible refine Grow.drew ?_ | with_reducible refine Grow.drewN ?_ _ | (with_reducible refine Grow.setCell ?_ ?hp _; (case hp => (simp; try omega))) | with_reducible refine Grow.trans ?_ (by assumption))))).by').mono ?_; rintro e w4 ⟨vc1, vt1, xs1, ys1, rfl, ho1, hst1⟩; have HO1 := Lib.hid ho1; obtain ⟨hs4, hn4⟩ := SMc.st (HS3.out.grow (by (repeat (first | with_reducible exact Grow.refl _ | with_reducible refine Grow.alloc ?_ _ | with_reducible refine Grow.drew ?_ | with_reducible refine Grow.drewN ?_ _ | (with_reducible refine Grow.setCell ?_ ?hp _; (case hp => (simp; try omega))) | with_reducible refine Grow.trans ?_ (by assumption))))) (HO3.out.grow (by (repeat (first | with_reducible exact Grow.refl _ | with_reducible refine Grow.alloc ?_ _ | with_reducible refine Grow.drew ?_ | with_reducible refine Grow.drewN ?_ _ | (with_reducible refine Grow.setCell ?_ ?hp _; (case hp => (simp; try omega))) | with_reducible refine Grow.trans ?_ (by assumption))))) hne.out hst1; have HS4 := Lib.hid hs4; have HN4 := Lib.hid hn4; have HW4 := Lib.hid (hst1.sum (ho1.len HLEN.out).1); clear ho1 hst1 hs4 hn4)
                          (try go_wp2_with fail)
                          refine hK.out _ _ ?hSn23 (fun hHeld => ?_)
                          case hSn23 => ((try dsimp only); (first | exact ⟨d1, d2, d3, d4⟩ | exact el_of HAT.out hbw ((HS6.out.store _ _).gr) | exact el_of HAT.out hbw HS6.out.gr | exact el_of HAT.out hbw HS5.out.gr | exact el_of HAT.out hbw HS4.out.gr | exact el_of HAT.out hbw HS3.out.gr))
                          clear hK K
                          (try simp only [Act.put])
                          refine wpAnyH_ready (rs := [23]) (by kernel_rfl) (by simp) ?_
                          refine AllReadyH.cons rfl (fun K hK => ?_) AllReadyH.nil
                          go_simp
                          (go_at_call 33; with_reducible refine (CU2.out _).mono ?_; rintro e w5 ⟨rfl, hb3⟩; have hb4 : Grow w4 w5 := Grow.trans (by (repeat (first | with_reducible exact Grow.refl _ | with_reducible refine Grow.alloc ?_ _ | with_reducible refine Grow.drew ?_ | with_reducible refine Grow.drewN ?_ _ | (with_reducible refine Grow.setCell ?_ ?hp _; (case hp => (simp; try omega))) | with_reducible refine Grow.trans ?_ (by assumption)))) hb3; clear hb3; have HS5 := Lib.hid (HS4.out.grow hb4); have HW5 := Lib.hid (HW4.out.grow hb4); clear hb4)
                          (try go_wp2_with fail)
                          refine hK.out _ _ ?hSn24 (fun hHeld => ?_)
                          case hSn24 => ((try dsimp only); (first | exact ⟨d1, d2, d3, d4⟩ | exact el_of HAT.out hbw ((HS6.out.store _ _).gr) | exact el_of HAT.out hbw HS6.out.gr | exact el_of HAT.out hbw HS5.out.gr | exact el_of HAT.out hbw HS4.out.gr | exact el_of HAT.out hbw HS3.out.gr))
                          clear hK K
                          (try simp only [Act.put])
                          refine wpAnyH_ready (rs := [24]) (by kernel_rfl) (by simp) ?_
                          refine AllReadyH.cons rfl (fun K hK => ?_) AllReadyH.nil
                          go_simp
                          (go_at_call 32; with_reducible refine (AD2.out xs1 ys1 HO1.out vc1 vt1 _ (HW5.out.grow (by (repeat (first | with_reducible exact Grow.refl _ | with_reducible refine Grow.alloc ?_ _ | with_reducible refine Grow.drew ?_ | with_reducible refine Grow.drewN ?_ _ | (with_reducible refine Grow.setCell ?_ ?hp _; (case hp => (simp; try omega))) | with_reducible refine Grow.trans ?_ (by assumption))))) (HS5.out.grow (by (repeat (first | with_reducible exact Grow.refl _ | with_reducible refine Grow.alloc ?_ _ | with_reducible refine Grow.drew ?_ | with_reducible refine Grow.drewN ?_ _ | (with_reducible refine Grow.setCell ?_ ?hp _; (case hp => (simp; try omega))) | with_reducible refine Grow.trans ?_ (by assumption))))).by').mono ?_; rintro e w6 ⟨vc2, vt2, xs2, ys2, rfl, ho2, hst2⟩; have HO2 := Lib.hid ho2; obtain ⟨hs6, hn6⟩ := SMc.st (HS5.out.grow (by (repeat (first | with_reducible exact Grow.refl _ | with_reducible refine Grow.alloc ?_ _ | with_reducible refine Grow.drew ?_ | with_reducible refine Grow.drewN ?_ _ | (with_reducible refine Grow.setCell ?_ ?hp _; (case hp => (simp; try omega))) | with_reducible refine Grow.trans ?_ (by assumption))))) (HW5.out.grow (by (repeat (first | with_reducible exact Grow.refl _ | with_reducible refine Grow.alloc ?_ _ | with_reducible refine Grow.drew ?_ | with_reducible refine Grow.drewN ?_ _ | (with_reducible refine Grow.setCell ?_ ?hp _; (case hp => (simp; try omega))) | with_reducible refine Grow.trans ?_ (by assumption))))) HN4.out hst2; obtain ⟨a1, a2, a3, e1⟩ := form3c hst2.oc; obtain ⟨a4, a5, a6, e2⟩ := form3t hst2.ot; subst e1 e2; have HS6 := Lib.hid hs6; have HN6 := Lib.hid hn6; have HW6 := Lib.hid (hst2.sum (ho2.len (HO1.out.len HLEN.out).1).1); have y60 := HS6.out.y0; have y61 := HS6.out.y1; have yf6 := HS6.out.yf; have zY6 : Y < w6.heap.size := HS6.out.yz; clear ho2 hst2 hs6 hn6)
                          (try go_wp2_with fail)
                          refine hK.out _ _ ?hSn25 (fun hHeld => ?_)
                          case hSn25 => ((try dsimp only); (first | exact ⟨d1, d2, d3, d4⟩ | exact el_of HAT.out hbw ((HS6.out.store _ _).gr) | exact el_of HAT.out hbw HS6.out.gr | exact el_of HAT.out hbw HS5.out.gr | exact el_of HAT.out hbw HS4.out.gr | exact el_of HAT.out hbw HS3.out.gr))
                          clear hK K
                          (try simp only [Act.put])
                          refine wpAnyH_ready (rs := [25]) (by kernel_rfl) (by simp) ?_
                          refine AllReadyH.cons rfl (fun K hK => ?_) AllReadyH.nil
                          go_simp
                          refine hK.out _ _ ?hSn26 (fun hHeld => ?_)
                          case hSn26 => ((try dsimp only); (first | exact ⟨d1, d2, d3, d4⟩ | exact el_of HAT.out hbw ((HS6.out.store _ _).gr) | exact el_of HAT.out hbw HS6.out.gr | exact el_of HAT.out hbw HS5.out.gr | exact el_of HAT.out hbw HS4.out.gr | exact el_of HAT.out hbw HS3.out.gr))
                          clear hK K
                          (try simp only [Act.put])
                          refine wpAnyH_done (by kernel_rfl) ?_ _
                          refine NoPanic.normal ?_
                          go_wp2
                          go_roundw
                          case measure => simp [intOf]; omega
                          case rel => exact ⟨i + 1, _, _, xs2, ys2, by omega, by go_num, Lib.hid (HS6.out.store _ _), Lib.hid (HW6.out.store HN6.out _ _), HN6.out, Lib.hid (hin.out.hit hlt5 HM.out HKK.out (by rw [HC1.out]; exact HO1.out) (by rw [HC2.out]; exact HO2.out))⟩
                        · go_simp
                          (go_at_call 33; with_reducible refine (CU1.out _).mono ?_; rintro e w3 ⟨rfl, hb3⟩; have hb4 : Grow wc w3 := Grow.trans (by (repeat (first | with_reducible exact Grow.refl _ | with_reducible refine Grow.alloc ?_ _ | with_reducible refine Grow.drew ?_ | with_reducible refine Grow.drewN ?_ _ | (with_reducible refine Grow.setCell ?_ ?hp _; (case hp => (simp; try omega))) | with_reducible refine Grow.trans ?_ (by assumption)))) hb3; clear hb3; have HS3 := Lib.hid (HSM.out.grow hb4); have HO3 := Lib.hid (HSO.out.grow hb4); have y30 := HS3.out.y0; have y31 := HS3.out.y1; clear hb4)
                          (try go_wp2_with fail)
                          refine hK.out _ _ ?hSn27 (fun hHeld => ?_)
                          case hSn27 => ((try dsimp only); (first | exact ⟨d1, d2, d3, d4⟩ | exact el_of HAT.out hbw ((HS6.out.store _ _).gr) | exact el_of HAT.out hbw HS6.out.gr | exact el_of HAT.out hbw HS5.out.gr | exact el_of HAT.out hbw HS4.out.gr | exact el_of HAT.out hbw HS3.out.gr))
                          clear hK K
                          (try simp only [Act.put])
                          refine wpAnyH_ready (rs := [0]) (by kernel_rfl) (by simp) ?_
                          refine AllReadyH.cons rfl (fun K hK => ?_) AllReadyH.nil
                          go_simp
                          refine hK.out _ _ ?hSn28 (fun hHeld => ?_)
                          case hSn28 => ((try dsimp only); (first | exact ⟨d1, d2, d3, d4⟩ | exact el_of HAT.out hbw ((HS6.out.store _ _).gr) | exact el_of HAT.out hbw HS6.out.gr | exact el_of HAT.out hbw HS5.out.gr | exact el_of HAT.out hbw HS4.out.gr | exact el_of HAT.out hbw HS3.out.gr))
                          clear hK K
                          (try simp only [Act.put])
                          refine wpAnyH_ready (rs := [12]) (by kernel_rfl) (by simp) ?_
                          refine AllReadyH.cons rfl (fun K hK => ?_) AllReadyH.nil
                          go_simp
                          (go_at_call 32; with_reducible refine (AD1.out _ (HO3.out.grow (by (repeat (first | with_reducible exact Grow.refl _ | with_reducible refine Grow.alloc ?_ _ | with_reducible refine Grow.drew ?_ | with_reducible refine Grow.drewN ?_ _ | (with_reducible refine Grow.setCell ?_ ?hp _; (case hp => (simp; try omega))) | with_reducible refine Grow.trans ?_ (by assumption))))) (HS3.out.grow (by (repeat (first | with_reducible exact Grow.refl _ | with_reducible refine Grow.alloc ?_ _ | with_reducible refine Grow.drew ?_ | with_reducible refine Grow.drewN ?_ _ | (with_reducible refine Grow.setCell ?_ ?hp _; (case hp => (simp; try omega))) | with_reducible refine Grow.trans ?_ (by assumption))))).by').mono ?_; rintro e w4 ⟨vc1, vt1, xs1, ys1, rfl, ho1, hst1⟩; have HO1 := Lib.hid ho1; obtain ⟨hs4, hn4⟩ := SMc.st (HS3.out.grow (by (repeat (first | with_reducible exact Grow.refl _ | with_reducible refine Grow.alloc ?_ _ | with_reducible refine Grow.drew ?_ | with_reducible refine Grow.drewN ?_ _ | (with_reducible refine Grow.setCell ?_ ?hp _; (case hp => (simp; try omega))) | with_reducible refine Grow.trans ?_ (by assumption))))) (HO3.out.grow (by (repeat (first | with_reducible exact Grow.refl _ | with_reducible refine Grow.alloc ?_ _ | with_reducible refine Grow.drew ?_ | with_reducible refine Grow.drewN ?_ _ | (with_reducible refine Grow.setCell ?_ ?hp _; (case hp => (simp; try omega))) | with_reducible refine Grow.trans ?_ (by assumption))))) hne.out hst1; have HS4 := Lib.hid hs4; have HN4 := Lib.hid hn4; have HW4 := Lib.hid (hst1.sum (ho1.len HLEN.out).1); clear ho1 hst1 hs4 hn4)
                          (try go_wp2_with fail)
                          refine hK.out _ _ ?hSn29 (fun hHeld => ?_)
                          case hSn29 => ((try dsimp only); (first | exact ⟨d1, d2, d3, d4⟩ | exact el_of HAT.out hbw ((HS6.out.store _ _).gr) | exact el_of HAT.out hbw HS6.out.gr | exact el_of HAT.out hbw HS5.out.gr | exact el_of HAT.out hbw HS4.out.gr | exact el_of HAT.out hbw HS3.out.gr))
                          clear hK K
                          (try simp only [Act.put])
                          refine wpAnyH_ready (rs := [23]) (by kernel_rfl) (by simp) ?_
                          refine AllReadyH.cons rfl (fun K hK => ?_) AllReadyH.nil
                          go_simp
                          (go_at_call 33; with_reducible refine (CU2.out _).mono ?_; rintro e w5 ⟨rfl, hb3⟩; have hb4 : Grow w4 w5 := Grow.trans (by (repeat (first | with_reducible exact Grow.refl _ | with_reducible refine Grow.alloc ?_ _ | with_reducible refine Grow.drew ?_ | with_reducible refine Grow.drewN ?_ _ | (with_reducible refine Grow.setCell ?_ ?hp _; (case hp => (simp; try omega))) | with_reducible refine Grow.trans ?_ (by assumption)))) hb3; clear hb3; have HS5 := Lib.hid (HS4.out.grow hb4); have HW5 := Lib.hid (HW4.out.grow hb4); clear hb4)
                          (try go_wp2_with fail)
                          refine hK.out _ _ ?hSn30 (fun hHeld => ?_)
                          case hSn30 => ((try dsimp only); (first | exact ⟨d1, d2, d3, d4⟩ | exact el_of HAT.out hbw ((HS6.out.store _ _).gr) | exact el_of HAT.out hbw HS6.out.gr | exact el_of HAT.out hbw HS5.out.gr | exact el_of HAT.out hbw HS4.out.gr | exact el_of HAT.out hbw HS3.out.gr))
                          clear hK K
                          (try simp only [Act.put])
                          refine wpAnyH_ready (rs := [24]) (by kernel_rfl) (by simp) ?_
                          refine AllReadyH.cons rfl (fun K hK => ?_) AllReadyH.nil
                          go_simp
                          (go_at_call 32; with_reducible refine (AD2.out xs1 ys1 HO1.out vc1 vt1 _ (HW5.out.grow (by (repeat (first | with_reducible exact Grow.refl _ | with_reducible refine Grow.alloc ?_ _ | with_reducible refine Grow.drew ?_ | with_reducible refine Grow.drewN ?_ _ | (with_reducible refine Grow.setCell ?_ ?hp _; (case hp => (simp; try omega))) | with_reducible refine Grow.trans ?_ (by assumption))))) (HS5.out.grow (by (repeat (first | with_reducible exact Grow.refl _ | with_reducible refine Grow.alloc ?_ _ | with_reducible refine Grow.drew ?_ | with_reducible refine Grow.drewN ?_ _ | (with_reducible refine Grow.setCell ?_ ?hp _; (case hp => (simp; try omega))) | with_reducible refine Grow.trans ?_ (by assumption))))).by').mono ?_; rintro e w6 ⟨vc2, vt2, xs2, ys2, rfl, ho2, hst2⟩; have HO2 := Lib.hid ho2; obtain ⟨hs6, hn6⟩ := SMc.st (HS5.out.grow (by (repeat (first | with_reducible exact Grow.refl _ | with_reducible refine Grow.alloc ?_ _ | with_reducible refine Grow.drew ?_ | with_reducible refine Grow.drewN ?_ _ | (with_reducible refine Grow.setCell ?_ ?hp _; (case hp => (simp; try omega))) | with_reducible refine Grow.trans ?_ (by assumption))))) (HW5.out.grow (by (repeat (first | with_reducible exact Grow.refl _ | with_reducible refine Grow.alloc ?_ _ | with_reducible refine Grow.drew ?_ | with_reducible refine Grow.drewN ?_ _ | (with_reducible refine Grow.setCell ?_ ?hp _; (case hp => (simp; try omega))) | with_reducible refine Grow.trans ?_ (by assumption))))) HN4.out hst2; obtain ⟨a1, a2, a3, e1⟩ := form3c hst2.oc; obtain ⟨a4, a5, a6, e2⟩ := form3t hst2.ot; subst e1 e2; have HS6 := Lib.hid hs6; have HN6 := Lib.hid hn6; have HW6 := Lib.hid (hst2.sum (ho2.len (HO1.out.len HLEN.out).1).1); have y60 := HS6.out.y0; have y61 := HS6.out.y1; have yf6 := HS6.out.yf; have zY6 : Y < w6.heap.size := HS6.out.yz; clear ho2 hst2 hs6 hn6)
                          (try go_wp2_with fail)
                          refine hK.out _ _ ?hSn31 (fun hHeld => ?_)
                          case hSn31 => ((try dsimp only); (first | exact ⟨d1, d2, d3, d4⟩ | exact el_of HAT.out hbw ((HS6.out.store _ _).gr) | exact el_of HAT.out hbw HS6.out.gr | exact el_of HAT.out hbw HS5.out.gr | exact el_of HAT.out hbw HS4.out.gr | exact el_of HAT.out hbw HS3.out.gr))
                          clear hK K
                          (try simp only [Act.put])
                          refine wpAnyH_ready (rs := [25]) (by kernel_rfl) (by simp) ?_
                          refine AllReadyH.cons rfl (fun K hK => ?_) AllReadyH.nil
                          go_simp
                          refine hK.out _ _ ?hSn32 (fun hHeld => ?_)
                          case hSn32 => ((try dsimp only); (first | exact ⟨d1, d2, d3, d4⟩ | exact el_of HAT.out hbw ((HS6.out.store _ _).gr) | exact el_of HAT.out hbw HS6.out.gr | exact el_of HAT.out hbw HS5.out.gr | exact el_of HAT.out hbw HS4.out.gr | exact el_of HAT.out hbw HS3.out.gr))
                          clear hK K
                          (try simp only [Act.put])
                          refine wpAnyH_done (by kernel_rfl) ?_ _
                          refine NoPanic.normal ?_
                          go_wp2
                          go_roundw
                          case measure => simp [intOf]; omega
                          case rel => exact ⟨i + 1, _, _, xs2, ys2, by omega, by go_num, Lib.hid (HS6.out.store _ _), Lib.hid (HW6.out.store HN6.out _ _), HN6.out, Lib.hid (hin.out.hit hlt5 HM.out HKK.out (by rw [HC1.out]; exact HO1.out) (by rw [HC2.out]; exact HO2.out))⟩
                  · have hie : i = l.length := by omega
                    subst hie
                    have hli : ¬ ((l.length : Int) < l.length) := by omega
                    have hvt := hso.out.2.1.rd.form
                    obtain ⟨a7, a8, hvt⟩ := hvt
                    obtain ⟨m2, hm2⟩ : ∃ m2, ys.length = m2 := ⟨_, rfl⟩
                    have HVT := Lib.hid hvt
                    have HM2 := Lib.hid hm2
                    have hm3 : m2 ≤ 10000 := by have := hin.out.short; have := hin.out.len; omega
                    have y1 := hsm.out.y1
                    rw [hvt, hm2] at y1
                    have zY : Y < wx.heap.size := hsm.out.yz
                    clear hvt hm2
                    go_wp2_with fail
                    go_loopw [13] (fun t13 wy => ∃ j : Nat, j ≤ m2 ∧ t13 = .int .i64 j ∧ Hid (∀ x, x < j → ys.getD x 0 = 0) ∧ wy = wx) (fun t13 _ => m2 - (intOf t13).toNat)
                    case atStart => exact ⟨0, Nat.zero_le _, rfl, Lib.hid (fun x hx => by omega), rfl⟩
                    case round =>
                      obtain ⟨j, hj, rfl, hz, rfl⟩ := hrel
                      by_cases hltj : j < m2
                      · obtain ⟨gt, capt, htv, hget, hgt⟩ := own_slice hso.out.2.1 (by have := HM2.out; omega)
                        have hti := own_int_at hso.out.2.1 (k := j) (by have := HM2.out; omega) (g := gt) (by rw [htv]; rfl)
                        have hae : a7 = some ⟨gt, 0, none⟩ := by
                          have := HVT.out.symm.trans htv
                          injection this
                        subst hae
                        obtain ⟨y, hy⟩ : ∃ y, ys.getD j 0 = y := ⟨_, rfl⟩
                        rw [hy] at hti
                        have HY := Lib.hid hy
                        have hjm : (j : Int) < m2 := by omega
                        have hj0 : (0 : Int) ≤ j := by omega
                        clear hy htv
                        by_cases hy0 : y = 0
                        · subst hy0
                          have HN : Hid (∀ x, x < j + 1 → ys.getD x 0 = 0) := Lib.hid (fun x hx => by
                            by_cases h : x < j
                            · exact hz.out x h
                            · have e : x = j := by omega
                              subst e; exact HY.out)
                          go_wp2_with fail
                          go_roundw
                          case measure => simp [intOf]; omega
                          case rel => exact ⟨j + 1, by omega, by go_num, HN.out, by first | trivial | rfl⟩
                        · have e1 : (y == 0) = false := by simpa using hy0
                          have e2 : (y != 0) = true := by simpa using hy0
                          have hbad : ¬ SatP n l := SumInv.bad h2 hA hle HT.out hb hlt (by rw [HQ.out]; exact hin.out) (j := j) (by have := HM2.out; omega) (by rw [HY.out]; exact hy0)
                          have hR : R = false := by
                            cases hR : R with
                            | false => rfl
                            | true => exact absurd (HR.out.1 hR) hbad
                          subst hR
                          have hG := hsm.out.gr
                          clear hbad hy0
                          go_wp2_with fail
                          go_ret
                          exact ⟨rfl, by (repeat (first | with_reducible exact Grow.refl _ | with_reducible refine Grow.alloc ?_ _ | with_reducible refine Grow.drew ?_ | with_reducible refine Grow.drewN ?_ _ | (with_reducible refine Grow.setCell ?_ ?hp _; (case hp => (simp; try omega))) | with_reducible refine Grow.trans ?_ (by assumption)))⟩
                      · have hje : j = m2 := by omega
                        subst hje
                        have HZ3 : Hid (∀ b', 0 ≤ b' → b' < b + 1 → ∀ c, b0 c + valE (evL n l) ⟨A, b', q⟩ c = 0) := Lib.hid (fun b' g1 g2 c => by
                          by_cases h : b' < b
                          · exact hZB.out b' g1 h c
                          · have e : b' = b := by omega
                            subst e
                            exact hin.out.zero (by rw [HM2.out]; exact hz.out) c)
                        have hGG := hsm.out.gr
                        have hjj : ¬ ((j : Int) < j) := by omega
                        go_wp2_with fail
                        go_roundw
                        case measure => simp [intOf]; omega
                        case rel => exact ⟨b + 1, by omega, rfl, Lib.hid (by omega), HZ3.out, Lib.hid hGG⟩
            · have hbe : b = A := by have := hb2.out; omega
              subst hbe
              have HZ2 : Hid (∀ a' b', 1 ≤ a' → a' < b + 1 → n.tmod a' = 0 → 0 ≤ b' → b' < a' → ∀ c, b0 c + valE (evL n l) ⟨a', b', n.tdiv a'⟩ c = 0) := Lib.hid (fun a' b' g1 g2 g3 g4 g5 c => by
                by_cases g6 : a' < b
                · exact hZ.out a' b' g1 g6 g3 g4 g5 c
                · have e : a' = b := by omega
                  subst e
                  rw [HQ.out]
                  exact hZB.out b' g4 g5 c)
              have yb : IntKind.i64.wrap (b + 1) = b + 1 := IntWalk.i64_in _ (by omega)
              go_wp2_with fail
              go_roundw
              case measure => simp [intOf]; omega
              case rel => exact ⟨b + 1, by omega, rfl, Lib.hid (by omega), HZ2.out, hgr.out⟩
        · have e1 : (t == 0) = false := by simpa using hmod
          have HT := Lib.hid ht
          have HZ2 : Hid (∀ a' b', 1 ≤ a' → a' < A + 1 → n.tmod a' = 0 → 0 ≤ b' → b' < a' → ∀ c, b0 c + valE (evL n l) ⟨a', b', n.tdiv a'⟩ c = 0) := Lib.hid (fun a' b' g1 g2 g3 g4 g5 c => by
            by_cases g6 : a' < A
            · exact hZ.out a' b' g1 g6 g3 g4 g5 c
            · have e : a' = A := by omega
              subst e
              exact absurd (ht.symm.trans g3) hmod)
          have yb : IntKind.i64.wrap (A + 1) = A + 1 := IntWalk.i64_in _ (by omega)
          have hG1 := hgr
          obtain ⟨wr0, hw0⟩ : ∃ x, x = wr := ⟨wr, rfl⟩
          subst hw0
          go_wp2_with fail
          go_loopw [9] (fun t9 wr => t9 = .int .i64 0 ∧ wr = wr0) (fun t9 _ => 0)
          case atStart => exact ⟨rfl, rfl⟩
          case round =>
            obtain ⟨rfl, rfl⟩ := hrel
            go_wp2_with fail
            go_roundw
            case measure => simp [intOf]; omega
            case rel => exact ⟨A + 1, by omega, rfl, Lib.hid (by omega), HZ2.out, hG1.out⟩
      · have hAe : A = n + 1 := by have := hA2.out; omega
        have hR : R = true := by
          rw [HR.out]
          refine sat_of_classes h1 h2 l h3 HF.out (fun a' b' g1 g2 g3 g4 g5 c => hZ.out a' b' g1 (by omega) g3 g4 g5 c)
        subst hR
        have q3 : n < A := by omega
        have hG : Grow w wr := hgr.out
        clear hAe
        go_wp2_with fail
        go_ret
        exact ⟨rfl, by (repeat (first | with_reducible exact Grow.refl _ | with_reducible refine Grow.alloc ?_ _ | with_reducible refine Grow.drew ?_ | with_reducible refine Grow.drewN ?_ _ | (with_reducible refine Grow.setCell ?_ ?hp _; (case hp => (simp; try omega))) | with_reducible refine Grow.trans ?_ (by assumption)))⟩
set_option maxRecDepth 20000 in
theorem refsat_out (n : Int) (l : List M2) (v : Value) (hl : l.length ≤ 1152921504606846976) (h : n < 1 ∨ 128 < n ∨ 4096 < l.length) (w : World) (hv : RdMats w v l) :
    Calls Try.prog 19 #[.int .i64 n, v] w fun e w' => e = .returned (.bool false) ∧ Grow w w' := by
  obtain ⟨a, cap, rfl⟩ := hv.form
  clear hv
  by_cases h1 : n < 1
  · go_enter Try.func19, Try.ntmps19
    go_wp2_with fail
    go_ret
    exact ⟨rfl, by (repeat (first | with_reducible exact Grow.refl _ | with_reducible refine Grow.alloc ?_ _ | with_reducible refine Grow.drew ?_ | with_reducible refine Grow.drewN ?_ _ | (with_reducible refine Grow.setCell ?_ ?hp _; (case hp => (simp; try omega))) | with_reducible refine Grow.trans ?_ (by assumption)))⟩
  · by_cases h2 : 128 < n
    · go_enter Try.func19, Try.ntmps19
      go_wp2_with fail
      go_ret
      exact ⟨rfl, by (repeat (first | with_reducible exact Grow.refl _ | with_reducible refine Grow.alloc ?_ _ | with_reducible refine Grow.drew ?_ | with_reducible refine Grow.drewN ?_ _ | (with_reducible refine Grow.setCell ?_ ?hp _; (case hp => (simp; try omega))) | with_reducible refine Grow.trans ?_ (by assumption)))⟩
    · have h3 : (4096 : Int) < l.length := by omega
      go_enter Try.func19, Try.ntmps19
      go_wp2_with fail
      go_ret
      exact ⟨rfl, by (repeat (first | with_reducible exact Grow.refl _ | with_reducible refine Grow.alloc ?_ _ | with_reducible refine Grow.drew ?_ | with_reducible refine Grow.drewN ?_ _ | (with_reducible refine Grow.setCell ?_ ?hp _; (case hp => (simp; try omega))) | with_reducible refine Grow.trans ?_ (by assumption)))⟩
theorem refsat_any (n : Int) (l : List M2) (v : Value) (hl : l.length ≤ 1152921504606846976) (R : Bool) (HR : R = true ↔ SatP n l) (w : World) (hv : RdMats w v l) :
    Calls Try.prog 19 #[.int .i64 n, v] w fun e w' => e = .returned (.bool R) ∧ Grow w w' := by
  by_cases h : 1 ≤ n ∧ n ≤ 128 ∧ l.length ≤ 4096
  · exact refsat_in n l v h.1 h.2.1 h.2.2 R w hv (Lib.hid HR)
  · have hR : R = false := by
      cases hR : R with
      | false => rfl
      | true => exact absurd (HR.1 hR).1 h
    subst hR
    exact refsat_out n l v hl (by omega) w hv
end Go.Proofs.Ytalidpojcpmcbaa
