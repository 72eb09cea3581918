/- Walk: Least of the reference. -/
import Derived.Test.YtcgiancmponmgaaPjN
namespace Go.Proofs.Ytcgiancmponmgaa
open Go Go.RowKit

theorem rl_step {n c d s : Int} {x : P3} {f : Nat} (hs : s ≤ n) : rlL n c d (f + 1) s x = rlL n c d f (s + 1) (stN n c d s x) := by
  rw [rlL, if_pos hs]
theorem inv_step {n s t : Int} {f : Nat} (ht : t ≤ n) (h : (t * s).tmod n ≠ (1 : Int).tmod n) : invS n s (f + 1) t = invS n s f (t + 1) := by
  rw [invS, if_pos ht, if_neg h]
theorem inv_hit {n s t : Int} {f : Nat} (ht : t ≤ n) (h : (t * s).tmod n = (1 : Int).tmod n) : invS n s (f + 1) t = t := by
  rw [invS, if_pos ht, if_pos h]
theorem inv_end {n s t : Int} (ht : ¬ t ≤ n) : ∀ f, invS n s f t = s
  | 0 => rfl
  | f + 1 => by rw [invS, if_neg ht]
set_option maxRecDepth 20000 in
set_option maxHeartbeats 4000000 in
theorem least_any (n c d : Int) (h1 : 1 ≤ n) (h2 : n ≤ 120) (hc : 0 ≤ c) (hcn : c < n) (hd : 0 ≤ d) (hdn : d < n) (w : World) :
    Calls Try.prog 37 #[.int .i64 n, .int .i64 c, .int .i64 d] w fun e w' => e = .returned (.agg #[.int .i64 (normF n c d).u, .int .i64 (normF n c d).v, .int .i64 (normF n c d).t]) ∧ Grow w w' := by
  have hspec := nmX_spec h1 h2 hc hcn hd hdn
  have hre := rl_eq h1 h2 hc hcn hd hdn
  obtain ⟨X, hX⟩ : ∃ X, nmX n c d = X := ⟨_, rfl⟩
  obtain ⟨U, hU⟩ : ∃ U, invS n X.t 130 1 = U := ⟨_, rfl⟩
  have hN : normF n c d = ⟨X.u, X.v, U⟩ := by unfold normF; rw [hX, hU]
  rw [hN]
  rw [hX] at hspec hre
  have hX0 : rlL n c d 130 1 ⟨n, n, 0⟩ = X := hre
  have HX := Lib.hid hX0
  have HSP := Lib.hid hspec
  have HU := Lib.hid hU
  clear hN hX hX0 hspec hU hre
  have n0 : ¬ n = 0 := by omega
  have n1 : (n == 0) = false := by simpa using n0
  go_enter Try.func37, Try.ntmps37
  go_wp2_with fail
  go_loopg [8] 130 (fun k t8 wr => ∃ (s : Int) (x : P3), t8 = .int .i64 s ∧ 1 ≤ s ∧ Hid (s + k = 131) ∧ Hid (rlL n c d k s x = X) ∧ NmM w x.u x.v x.t wr)
  case atStart =>
    refine ⟨1, ⟨n, n, 0⟩, rfl, by omega, Lib.hid (by omega), HX.out, ?_⟩
    refine ⟨?_, ?_, ?_, ?_, ?_, ?_, ?_, ?_, ?_, Lib.hid (by (repeat (first | with_reducible exact Grow.refl _ | with_reducible refine Grow.alloc ?_ _ | with_reducible refine Grow.drew ?_ | with_reducible refine Grow.drewN ?_ _ | (with_reducible refine Grow.setCell ?_ ?hp _; (case hp => (simp; try omega))) | with_reducible refine Grow.trans ?_ (by assumption))))⟩
    all_goals first | (go_simp; done) | (intro o; go_simp; done) | simp
  case round =>
    clear HX
    obtain ⟨s, x, rfl, hs1, hsk, hx, hm⟩ := hrel
    have HMM := Lib.hid hm
    by_cases hlt : s ≤ n
    · obtain ⟨g1, hgk⟩ : ∃ g1, gk = g1 + 1 := ⟨gk - 1, by have := hsk.out; omega⟩
      have hx2 := hx.out
      rw [hgk, rl_step hlt] at hx2
      have GC := Lib.hid (fun u => refGcd_any s n (by omega) (by omega) (by omega) (by omega) u)
      obtain ⟨G, hG⟩ : ∃ G : Int, ((Int.gcd s n : Nat) : Int) = G := ⟨_, rfl⟩
      rw [hG] at GC
      have ys : IntKind.i64.wrap (s + 1) = s + 1 := IntWalk.i64_in _ (by omega)
      clear hm hx
      by_cases hg1 : G = 1
      · have e1 : (G == 1) = true := by simpa using hg1
        have e2 : (G != 1) = false := by simpa using hg1
        obtain ⟨p, hp⟩ : ∃ p, (s * c).tmod n = p := ⟨_, rfl⟩
        obtain ⟨r, hr⟩ : ∃ r, (s * d).tmod n = r := ⟨_, rfl⟩
        have hsc0 : 0 ≤ s * c := Int.mul_nonneg (by omega) hc
        have hsd0 : 0 ≤ s * d := Int.mul_nonneg (by omega) hd
        have hsc1 : s * c ≤ 120 * 120 := Int.mul_le_mul (by omega) (by omega) hc (by omega)
        have hsd1 : s * d ≤ 120 * 120 := Int.mul_le_mul (by omega) (by omega) hd (by omega)
        have p0 : 0 ≤ p := by rw [← hp]; exact Int.tmod_nonneg _ hsc0
        have p1 : p < n := by rw [← hp]; exact Int.tmod_lt_of_pos _ (by omega)
        have r0 : 0 ≤ r := by rw [← hr]; exact Int.tmod_nonneg _ hsd0
        have r1 : r < n := by rw [← hr]; exact Int.tmod_lt_of_pos _ (by omega)
        have y1 : IntKind.i64.wrap (s * c) = s * c := IntWalk.i64_in _ (by omega)
        have y2 : IntKind.i64.wrap (s * d) = s * d := IntWalk.i64_in _ (by omega)
        have y3 : IntKind.i64.wrap p = p := IntWalk.i64_in _ (by omega)
        have y4 : IntKind.i64.wrap r = r := IntWalk.i64_in _ (by omega)
        have hlo : (p < x.u ∨ (p = x.u ∧ r < x.v)) → stN n c d s x = ⟨p, r, s⟩ := fun h => by
          unfold stN
          rw [hp, hr, if_pos ⟨by rw [hG]; exact hg1, h⟩]
        have hhi : ¬ (p < x.u ∨ (p = x.u ∧ r < x.v)) → stN n c d s x = x := fun h => by
          unfold stN
          rw [hp, hr, if_neg (fun h' => h h'.2)]
        have HX2 := Lib.hid hx2
        have HLO := Lib.hid hlo
        have HHI := Lib.hid hhi
        clear hx2 hlo hhi hG hsc0 hsd0 hsc1 hsd1
        by_cases c1 : p < x.u
        · have hx3 := HX2.out
          rw [HLO.out (.inl c1)] at hx3
          have HX3 := Lib.hid hx3
          clear hx3
          have d1 : decide (p < x.u) = true := by simpa using c1
          go_wp2_with (go_at_call 15; (with_reducible refine (GC.out _).mono ?_); (rintro e w1 ⟨rfl, hb1⟩; have HM1 := Lib.hid (HMM.out.grow hb1); have hm1 := HM1.out; obtain ⟨m1, m2, m3, m4, m5, m6, m7, m8, m9, m10⟩ := hm1; have z1 : w.heap.size + 1 < w1.heap.size := m9; have z0 : w.heap.size < w1.heap.size := Nat.lt_of_succ_lt z1; clear hb1))
          go_quiet (fail)
          go_wp2_with fail
          go_roundg g1
          case measure => omega
          case rel => exact ⟨s + 1, ⟨p, r, s⟩, rfl, by omega, Lib.hid (by have := hsk.out; omega), HX3.out, (HM1.out.grow ((Grow.refl w1).drewN _)).set p r s⟩
        · have d1 : decide (p < x.u) = false := by simpa using c1
          by_cases c2 : p = x.u
          · have e3 : (p == x.u) = true := by simpa using c2
            by_cases c3 : r < x.v
            · have hx3 := HX2.out
              rw [HLO.out (.inr ⟨c2, c3⟩)] at hx3
              have HX3 := Lib.hid hx3
              have d2 : decide (r < x.v) = true := by simpa using c3
              clear hx3 c2
              go_wp2_with (go_at_call 15; (with_reducible refine (GC.out _).mono ?_); (rintro e w1 ⟨rfl, hb1⟩; have HM1 := Lib.hid (HMM.out.grow hb1); have hm1 := HM1.out; obtain ⟨m1, m2, m3, m4, m5, m6, m7, m8, m9, m10⟩ := hm1; have z1 : w.heap.size + 1 < w1.heap.size := m9; have z0 : w.heap.size < w1.heap.size := Nat.lt_of_succ_lt z1; clear hb1))
              go_quiet (fail)
              go_wp2_with fail
              go_roundg g1
              case measure => omega
              case rel => exact ⟨s + 1, ⟨p, r, s⟩, rfl, by omega, Lib.hid (by have := hsk.out; omega), HX3.out, (HM1.out.grow ((Grow.refl w1).drewN _)).set p r s⟩
            · have hx3 := HX2.out
              rw [HHI.out (by omega)] at hx3
              have HX3 := Lib.hid hx3
              have d2 : decide (r < x.v) = false := by simpa using c3
              clear hx3 c2
              go_wp2_with (go_at_call 15; (with_reducible refine (GC.out _).mono ?_); (rintro e w1 ⟨rfl, hb1⟩; have HM1 := Lib.hid (HMM.out.grow hb1); have hm1 := HM1.out; obtain ⟨m1, m2, m3, m4, m5, m6, m7, m8, m9, m10⟩ := hm1; have z1 : w.heap.size + 1 < w1.heap.size := m9; have z0 : w.heap.size < w1.heap.size := Nat.lt_of_succ_lt z1; clear hb1))
              go_quiet (fail)
              go_wp2_with fail
              go_roundg g1
              case measure => omega
              case rel => exact ⟨s + 1, x, rfl, by omega, Lib.hid (by have := hsk.out; omega), HX3.out, HM1.out.grow ((Grow.refl w1).drewN _)⟩
          · have e3 : (p == x.u) = false := by simpa using c2
            have hx3 := HX2.out
            rw [HHI.out (by omega)] at hx3
            have HX3 := Lib.hid hx3
            clear hx3 c2
            go_wp2_with (go_at_call 15; (with_reducible refine (GC.out _).mono ?_); (rintro e w1 ⟨rfl, hb1⟩; have HM1 := Lib.hid (HMM.out.grow hb1); have hm1 := HM1.out; obtain ⟨m1, m2, m3, m4, m5, m6, m7, m8, m9, m10⟩ := hm1; have z1 : w.heap.size + 1 < w1.heap.size := m9; have z0 : w.heap.size < w1.heap.size := Nat.lt_of_succ_lt z1; clear hb1))
            go_quiet (fail)
            go_wp2_with fail
            go_roundg g1
            case measure => omega
            case rel => exact ⟨s + 1, x, rfl, by omega, Lib.hid (by have := hsk.out; omega), HX3.out, HM1.out.grow ((Grow.refl w1).drewN _)⟩
      · have e1 : (G == 1) = false := by simpa using hg1
        have e2 : (G != 1) = true := by simpa using hg1
        have hst : stN n c d s x = x := by
          unfold stN
          rw [if_neg (fun h => hg1 (hG.symm.trans h.1))]
        rw [hst] at hx2
        have HX2 := Lib.hid hx2
        clear hx2 hst hG
        go_wp2_with (go_at_call 15; with_reducible refine (GC.out _).mono ?_; rintro e w1 ⟨rfl, hb1⟩)
        go_roundg g1
        case measure => omega
        case rel => exact ⟨s + 1, x, rfl, by omega, Lib.hid (by have := hsk.out; omega), HX2.out, HMM.out.grow hb1⟩
    · have hxX : x = X := by have h := hx.out; rwa [rlL_end hlt] at h
      subst hxX
      clear hm hx
      have ht1 := HSP.out.t1
      have htn := HSP.out.tn
      obtain ⟨q, hq⟩ : ∃ q, (1 : Int).tmod n = q := ⟨_, rfl⟩
      have q0 : 0 ≤ q := by rw [← hq]; exact Int.tmod_nonneg _ (by omega)
      have q1 : q < n := by rw [← hq]; exact Int.tmod_lt_of_pos _ (by omega)
      have yq : IntKind.i64.wrap q = q := IntWalk.i64_in _ (by omega)
      obtain ⟨wr0, hw0⟩ : ∃ x, x = wr := ⟨wr, rfl⟩
      subst hw0
      have hle : ¬ s ≤ n := hlt
      go_wp2_with fail
      go_loopg [11] 130 (fun k t11 wr => ∃ t : Int, t11 = .int .i64 t ∧ 1 ≤ t ∧ Hid (t + k = 131) ∧ Hid (invS n x.t k t = U) ∧ NmM w x.u x.v x.t wr)
      case atStart => exact ⟨1, rfl, by omega, Lib.hid (by omega), HU.out, HMM.out⟩
      case round =>
        obtain ⟨t, rfl, htt1, htk, hinv, hm⟩ := hrel
        have HM1 := Lib.hid hm
        obtain ⟨m1, m2, m3, m4, m5, m6, m7, m8, m9, m10⟩ := hm
        have z1 : w.heap.size + 1 < wr.heap.size := m9
        have z0 : w.heap.size < wr.heap.size := Nat.lt_of_succ_lt z1
        by_cases hlt2 : t ≤ n
        · obtain ⟨g2, hgk2⟩ : ∃ g2, gk = g2 + 1 := ⟨gk - 1, by have := htk.out; omega⟩
          obtain ⟨y, hy⟩ : ∃ y, (t * x.t).tmod n = y := ⟨_, rfl⟩
          have htx0 : 0 ≤ t * x.t := Int.mul_nonneg (by omega) (by omega)
          have htx1 : t * x.t ≤ 120 * 120 := Int.mul_le_mul (by omega) (by omega) (by omega) (by omega)
          have yy0 : 0 ≤ y := by rw [← hy]; exact Int.tmod_nonneg _ htx0
          have yy1 : y < n := by rw [← hy]; exact Int.tmod_lt_of_pos _ (by omega)
          have y1 : IntKind.i64.wrap (t * x.t) = t * x.t := IntWalk.i64_in _ (by omega)
          have y2 : IntKind.i64.wrap y = y := IntWalk.i64_in _ (by omega)
          have y3 : IntKind.i64.wrap (t + 1) = t + 1 := IntWalk.i64_in _ (by omega)
          by_cases hyq : y = q
          · have e1 : (y == q) = true := by simpa using hyq
            have hUt : U = t := by
              have h := hinv.out
              rw [hgk2, inv_hit hlt2 (by rw [hy, hq, hyq])] at h
              exact h.symm
            subst hUt
            clear hyq htx0 htx1 hinv
            have hG := m10.out
            go_wp2_with fail
            go_quiet (fail)
            go_wp2_with fail
            (try simp only [Exit.inBlock, Exit.then])
            refine bodyPost_ret (v := .agg #[.int .i64 x.u, .int .i64 x.v, .int .i64 U]) (by rw [results_one rfl]; go_simp) rfl ⟨rfl, by (repeat (first | with_reducible exact Grow.refl _ | with_reducible refine Grow.alloc ?_ _ | with_reducible refine Grow.drew ?_ | with_reducible refine Grow.drewN ?_ _ | (with_reducible refine Grow.setCell ?_ ?hp _; (case hp => (simp; try omega))) | with_reducible refine Grow.trans ?_ (by assumption)))⟩
          · have e1 : (y == q) = false := by simpa using hyq
            have hin2 := hinv.out
            rw [hgk2, inv_step hlt2 (by rw [hy, hq]; exact hyq)] at hin2
            have HI2 := Lib.hid hin2
            clear hyq htx0 htx1 hinv hin2
            go_wp2_with fail
            go_quiet (fail)
            go_wp2_with fail
            go_roundg g2
            case measure => omega
            case rel => exact ⟨t + 1, rfl, by omega, Lib.hid (by have := htk.out; omega), HI2.out, HM1.out.grow ((Grow.refl wr).drewN _)⟩
        · have hUt : U = x.t := by
            have h := hinv.out
            rw [inv_end hlt2] at h
            exact h.symm
          subst hUt
          have hG := m10.out
          go_wp2_with fail
          (try simp only [Exit.inBlock, Exit.then])
          refine bodyPost_ret (v := .agg #[.int .i64 x.u, .int .i64 x.v, .int .i64 x.t]) (by rw [results_one rfl]; go_simp) rfl ⟨rfl, by (repeat (first | with_reducible exact Grow.refl _ | with_reducible refine Grow.alloc ?_ _ | with_reducible refine Grow.drew ?_ | with_reducible refine Grow.drewN ?_ _ | (with_reducible refine Grow.setCell ?_ ?hp _; (case hp => (simp; try omega))) | with_reducible refine Grow.trans ?_ (by assumption)))⟩
end Go.Proofs.Ytcgiancmponmgaa
