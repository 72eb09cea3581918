/- Walk: normal of projline. -/
import Derived.Test.YtcgiancmponmgaaPjH
import Derived.Deep.DeepCutAuto
import Derived.Deep.CutBlock
namespace Go.Proofs.Ytcgiancmponmgaa
open Go Go.RowKit

/-- The two points that normal keeps: its result's block and the least pair's. -/
def NmM (w : World) (x y z : Int) (u : World) : Prop :=
  u.cell? ⟨w.heap.size + 1, 0, none⟩ = some (.int .i64 x) ∧ u.cell? ⟨w.heap.size + 1, 1, none⟩ = some (.int .i64 y) ∧ u.cell? ⟨w.heap.size + 1, 2, none⟩ = some (.int .i64 z) ∧
    u.cell? ⟨w.heap.size, 0, none⟩ = some (.int .i64 0) ∧ u.cell? ⟨w.heap.size, 1, none⟩ = some (.int .i64 0) ∧ u.cell? ⟨w.heap.size, 2, none⟩ = some (.int .i64 0) ∧
    (∀ o, u.frozen? ⟨w.heap.size, o, none⟩ = false) ∧ (∀ o, u.frozen? ⟨w.heap.size + 1, o, none⟩ = false) ∧ w.heap.size + 2 ≤ u.heap.size ∧ Hid (Grow w u)
theorem NmM.grow {w u u' : World} {x y z : Int} (h : NmM w x y z u) (hg : Grow u u') : NmM w x y z u' := by
  obtain ⟨h1, h2, h3, h4, h5, h6, h7, h8, h9, h10⟩ := h
  have := hg.size
  exact ⟨(hg.cells _ _ (by omega)).trans h1, (hg.cells _ _ (by omega)).trans h2, (hg.cells _ _ (by omega)).trans h3, (hg.cells _ _ (by omega)).trans h4, (hg.cells _ _ (by omega)).trans h5, (hg.cells _ _ (by omega)).trans h6,
    fun o => (hg.frees _ _ (by omega)).trans (h7 o), fun o => (hg.frees _ _ (by omega)).trans (h8 o), by omega, Lib.hid (h10.out.trans hg)⟩
theorem NmM.set {w u : World} {x y z : Int} (h : NmM w x y z u) (x' y' z' : Int) : NmM w x' y' z' (((u.setCell ⟨w.heap.size + 1, 0, none⟩ (.int .i64 x')).setCell ⟨w.heap.size + 1, 1, none⟩ (.int .i64 y')).setCell ⟨w.heap.size + 1, 2, none⟩ (.int .i64 z')) := by
  obtain ⟨h1, h2, h3, h4, h5, h6, h7, h8, h9, h10⟩ := h
  have hg := h10.out
  refine ⟨?_, ?_, ?_, ?_, ?_, ?_, ?_, ?_, ?_, Lib.hid (((hg.setCell (p := ⟨w.heap.size + 1, 0, none⟩) (by simp) _).setCell (p := ⟨w.heap.size + 1, 1, none⟩) (by simp) _).setCell (p := ⟨w.heap.size + 1, 2, none⟩) (by simp) _)⟩
  · go_simp
  · go_simp
  · go_simp
  · go_simp
  · go_simp
  · go_simp
  · intro o; go_simp
  · intro o; go_simp
  · simpa [World.setCell] using h9
theorem results_one {fn : Func} {p : Tmp} {ty : TypeId} (h : fn.results = #[.cell p ty]) (tmps : Array Value) (P : Program) (w : World) :
    (results fn tmps).run P w = ((asAddr (tmps.getD p undef)).run P w).andThen fun a w₁ => (loadVar ty a).run P w₁ := by
  simp [results, h, Sem.run_bind, Result.andThen]
theorem nm_step {n c d s : Int} {x : P3} {f : Nat} (hs : s < n) : nmL n c d (f + 1) s x = nmL n c d f (s + 1) (stN n c d s x) := by
  rw [nmL, if_pos hs]
set_option maxRecDepth 20000 in
set_option maxHeartbeats 4000000 in
theorem pnormal_any (n c d : Int) (h1 : 1 ≤ n) (h2 : n ≤ 120) (hc : 0 ≤ c) (hcn : c < n) (hd : 0 ≤ d) (hdn : d < n) (w : World) :
    Calls Try.prog 33 #[.int .i64 n, .int .i64 c, .int .i64 d] w fun e w' => e = .returned (.agg #[.int .i64 (normF n c d).u, .int .i64 (normF n c d).v, .int .i64 (normF n c d).t]) ∧ Grow w w' := by
  have hspec := nmX_spec h1 h2 hc hcn hd hdn
  obtain ⟨X, hX⟩ : ∃ X, nmX n c d = X := ⟨_, rfl⟩
  obtain ⟨U, hU⟩ : ∃ U, invS n X.t 130 1 = U := ⟨_, rfl⟩
  have hN : normF n c d = ⟨X.u, X.v, U⟩ := by unfold normF; rw [hX, hU]
  rw [hN]
  rw [hX] at hspec
  have hX0 : nmL n c d 130 2 ⟨c, d, 1⟩ = X := hX
  have HX := Lib.hid hX0
  have HSP := Lib.hid hspec
  have HU := Lib.hid hU
  clear hN hX hX0 hspec hU
  have n0 : ¬ n = 0 := by omega
  have n1 : (n == 0) = false := by simpa using n0
  go_enter Try.func33, Try.ntmps33
  go_wp2_with fail
  go_loopg [8, 9] 130 (fun k t8 t9 wr => ∃ (s : Int) (x : P3), t8 = .int .i64 x.t ∧ t9 = .int .i64 s ∧ 2 ≤ s ∧ Hid (s + k = 132) ∧ Hid (nmL n c d k s x = X) ∧ NmM w x.u x.v 0 wr)
  case atStart =>
    refine ⟨2, ⟨c, d, 1⟩, rfl, rfl, by omega, Lib.hid (by omega), HX.out, ?_⟩
    refine ⟨?_, ?_, ?_, ?_, ?_, ?_, ?_, ?_, ?_, Lib.hid (by (repeat (first | with_reducible exact Grow.refl _ | with_reducible refine Grow.alloc ?_ _ | with_reducible refine Grow.drew ?_ | with_reducible refine Grow.drewN ?_ _ | (with_reducible refine Grow.setCell ?_ ?hp _; (case hp => (simp; try omega))) | with_reducible refine Grow.trans ?_ (by assumption))))⟩
    all_goals first | (go_simp; done) | (intro o; go_simp; done) | simp
  case round =>
    clear HX
    obtain ⟨s, x, rfl, rfl, hs2, hsk, hx, hm⟩ := hrel
    have HMM := Lib.hid hm
    obtain ⟨m1, m2, m3, m4, m5, m6, m7, m8, m9, m10⟩ := hm
    have z0 : w.heap.size < wr.heap.size := by omega
    have z1 : w.heap.size + 1 < wr.heap.size := by omega
    by_cases hlt : s < n
    · obtain ⟨g1, hgk⟩ : ∃ g1, gk = g1 + 1 := ⟨gk - 1, by have := hsk.out; omega⟩
      have hx2 := hx.out
      rw [hgk, nm_step hlt] at hx2
      have GC := Lib.hid (fun u => gcd_any s n (by omega) (by omega) (by omega) (by omega) u)
      obtain ⟨G, hG⟩ : ∃ G : Int, ((Int.gcd s n : Nat) : Int) = G := ⟨_, rfl⟩
      rw [hG] at GC
      have ys : IntKind.i64.wrap (s + 1) = s + 1 := IntWalk.i64_in _ (by omega)
      by_cases hg1 : G = 1
      · have e1 : (G == 1) = true := by simpa using hg1
        have e2 : (G != 1) = false := by simpa using hg1
        obtain ⟨p, hp⟩ : ∃ p, (s * c).tmod n = p := ⟨_, rfl⟩
        obtain ⟨r, hr⟩ : ∃ r, (s * d).tmod n = r := ⟨_, rfl⟩
        have hsc0 : 0 ≤ s * c := Int.mul_nonneg (by omega) hc
        have hsd0 : 0 ≤ s * d := Int.mul_nonneg (by omega) hd
        have hsc1 : s * c ≤ 120 * 120 := Int.mul_le_mul (by omega) (by omega) hc (by omega)
        have hsd1 : s * d ≤ 120 * 120 := Int.mul_le_mul (by omega) (by omega) hd (by omega)
        have p0 : 0 ≤ p := by rw [← hp]; exact Int.tmod_nonneg _ hsc0
        have p1 : p < n := by rw [← hp]; exact Int.tmod_lt_of_pos _ (by omega)
        have r0 : 0 ≤ r := by rw [← hr]; exact Int.tmod_nonneg _ hsd0
        have r1 : r < n := by rw [← hr]; exact Int.tmod_lt_of_pos _ (by omega)
        have y1 : IntKind.i64.wrap (s * c) = s * c := IntWalk.i64_in _ (by omega)
        have y2 : IntKind.i64.wrap (s * d) = s * d := IntWalk.i64_in _ (by omega)
        have y3 : IntKind.i64.wrap p = p := IntWalk.i64_in _ (by omega)
        have y4 : IntKind.i64.wrap r = r := IntWalk.i64_in _ (by omega)
        have CM := Lib.hid (fun u => compare_any ⟨p, r, 0⟩ ⟨x.u, x.v, 0⟩ u)
        obtain ⟨C, hC⟩ : ∃ C, cmpP ⟨p, r, 0⟩ ⟨x.u, x.v, 0⟩ = C := ⟨_, rfl⟩
        have hCn : C < 0 ↔ (p < x.u ∨ (p = x.u ∧ r < x.v)) := by rw [← hC]; exact cmpP_neg
        rw [hC] at CM
        by_cases hlow : C < 0
        · have hst : stN n c d s x = ⟨p, r, s⟩ := by
            unfold stN
            rw [hp, hr, if_pos ⟨by rw [hG]; exact hg1, hCn.1 hlow⟩]
          rw [hst] at hx2
          have HX2 := Lib.hid hx2
          have HP := Lib.hid hp
          clear hx2 hst hG hx hC hCn hsc0 hsd0 hsc1 hsd1
          clear m1 m2 m3 m4 m5 m6 m7 m8 m9 m10 z0 z1
          go_wp2_with (go_at_call 32; (with_reducible refine (GC.out _).mono ?_); (rintro e w1 ⟨rfl, hb1⟩; have HM1 := Lib.hid (HMM.out.grow hb1); have hm1 := HM1.out; obtain ⟨m1, m2, m3, m4, m5, m6, m7, m8, m9, m10⟩ := hm1; have z1 : w.heap.size + 1 < w1.heap.size := m9; have z0 : w.heap.size < w1.heap.size := Nat.lt_of_succ_lt z1; clear hb1))
          go_region
          all_goals go_wp2_with (go_at_call 49; refine (CM.out _).mono ?_; rintro e w2 ⟨rfl, hb2⟩; have hc2 := hb2.cells; have hf2 := hb2.frees; have hz2 := hb2.size; (try simp at hz2))
          go_roundg g1
          case measure => omega
          case rel => exact ⟨s + 1, ⟨p, r, s⟩, rfl, rfl, by omega, Lib.hid (by have := hsk.out; omega), HX2.out, (HM1.out.grow (Grow.trans (by (repeat (first | with_reducible exact Grow.refl _ | with_reducible refine Grow.alloc ?_ _ | with_reducible refine Grow.drew ?_ | with_reducible refine Grow.drewN ?_ _ | (with_reducible refine Grow.setCell ?_ ?hp _; (case hp => (simp; try omega))) | with_reducible refine Grow.trans ?_ (by assumption)))) hb2)).set p r 0⟩
        · have hst : stN n c d s x = x := by
            unfold stN
            rw [hp, hr, if_neg (fun h => hlow (hCn.2 h.2))]
          rw [hst] at hx2
          have HX2 := Lib.hid hx2
          clear hx2 hst hG hx hC hCn hsc0 hsd0 hsc1 hsd1
          clear m1 m2 m3 m4 m5 m6 m7 m8 m9 m10 z0 z1
          go_wp2_with (go_at_call 32; (with_reducible refine (GC.out _).mono ?_); (rintro e w1 ⟨rfl, hb1⟩; have HM1 := Lib.hid (HMM.out.grow hb1); have hm1 := HM1.out; obtain ⟨m1, m2, m3, m4, m5, m6, m7, m8, m9, m10⟩ := hm1; have z1 : w.heap.size + 1 < w1.heap.size := m9; have z0 : w.heap.size < w1.heap.size := Nat.lt_of_succ_lt z1; clear hb1))
          go_region
          all_goals go_wp2_with (go_at_call 49; refine (CM.out _).mono ?_; rintro e w2 ⟨rfl, hb2⟩; have hc2 := hb2.cells; have hf2 := hb2.frees; have hz2 := hb2.size; (try simp at hz2))
          go_roundg g1
          case measure => omega
          case rel => exact ⟨s + 1, x, rfl, rfl, by omega, Lib.hid (by have := hsk.out; omega), HX2.out, HM1.out.grow (Grow.trans (by (repeat (first | with_reducible exact Grow.refl _ | with_reducible refine Grow.alloc ?_ _ | with_reducible refine Grow.drew ?_ | with_reducible refine Grow.drewN ?_ _ | (with_reducible refine Grow.setCell ?_ ?hp _; (case hp => (simp; try omega))) | with_reducible refine Grow.trans ?_ (by assumption)))) hb2)⟩
      · have e1 : (G == 1) = false := by simpa using hg1
        have e2 : (G != 1) = true := by simpa using hg1
        have hst : stN n c d s x = x := by
          unfold stN
          rw [if_neg (fun h => hg1 (hG.symm.trans h.1))]
        rw [hst] at hx2
        have HX2 := Lib.hid hx2
        clear hx2 hst hG hx
        go_wp2_with (go_at_call 32; with_reducible refine (GC.out _).mono ?_; rintro e w1 ⟨rfl, hb1⟩)
        go_roundg g1
        case measure => omega
        case rel => exact ⟨s + 1, x, rfl, rfl, by omega, Lib.hid (by have := hsk.out; omega), HX2.out, HMM.out.grow hb1⟩
    · have hxX : x = X := by have h := hx.out; rwa [nmL_end hlt] at h
      subst hxX
      have hsp := HSP.out
      have u1 := hsp.t1
      have u2 := hsp.tn
      by_cases hn1 : n = 1
      · have ht1 : x.t = 1 := by omega
        have hU1 : U = 1 := by
          rw [← HU.out, ht1, hn1]
          rfl
        subst hU1
        have e1 : (n == 1) = true := by simpa using hn1
        subst hn1
        clear u1 u2 hsp hx hsk
        go_wp2_with (go_at_call 47; rw [ht1]; refine (inverse_one _).mono ?_; rintro e w1 ⟨rfl, q, rfl⟩)
        (try simp only [Exit.inBlock, Exit.then])
        have hG := m10.out
        refine bodyPost_ret (v := .agg #[.int .i64 x.u, .int .i64 x.v, .int .i64 1]) (by rw [results_one rfl]; go_simp) rfl ⟨rfl, by (repeat (first | with_reducible exact Grow.refl _ | with_reducible refine Grow.alloc ?_ _ | with_reducible refine Grow.drew ?_ | with_reducible refine Grow.drewN ?_ _ | (with_reducible refine Grow.setCell ?_ ?hp _; (case hp => (simp; try omega))) | with_reducible refine Grow.trans ?_ (by assumption)))⟩
      · have e1 : (n == 1) = false := by simpa using hn1
        have IV := Lib.hid (fun u => inverse_unit x.t n (by omega) (by omega) hsp.cop u)
        clear u1 u2 hsp hx hsk
        go_wp2_with (go_at_call 47; (refine (IV.out _).mono ?_); rintro e w1 ⟨⟨V, rfl, hv1, hv2, hv3⟩, q, rfl⟩; have HV := Lib.hid (And.intro hv1 (And.intro hv2 hv3)); clear hv1 hv2 hv3)
        (try simp only [Exit.inBlock, Exit.then])
        have hG := m10.out
        obtain ⟨hv1, hv2, hv3⟩ := HV.out
        have hsp2 := HSP.out
        have hV1 : 1 ≤ V := by
          by_cases h0 : V = 0
          · subst h0
            obtain ⟨k, hk⟩ := hv3
            have h4 : n * (-k) = 1 := by rw [Int.mul_neg]; omega
            have h5 := Int.natAbs_dvd_natAbs.2 (⟨-k, h4.symm⟩ : n ∣ 1)
            have h6 := Nat.le_of_dvd (by decide) h5
            simp at h6
            omega
          · omega
        have hUV : U = V := by
          rw [← HU.out]
          exact invS_eq h1 h2 (by have := hsp2.t1; omega) hV1 (by omega) hv3
        subst hUV
        refine bodyPost_ret (v := .agg #[.int .i64 x.u, .int .i64 x.v, .int .i64 U]) (by rw [results_one rfl]; go_simp) rfl ⟨rfl, by (repeat (first | with_reducible exact Grow.refl _ | with_reducible refine Grow.alloc ?_ _ | with_reducible refine Grow.drew ?_ | with_reducible refine Grow.drewN ?_ _ | (with_reducible refine Grow.setCell ?_ ?hp _; (case hp => (simp; try omega))) | with_reducible refine Grow.trans ?_ (by assumption)))⟩
end Go.Proofs.Ytcgiancmponmgaa
