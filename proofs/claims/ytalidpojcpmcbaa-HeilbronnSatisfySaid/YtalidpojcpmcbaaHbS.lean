/- Walk: Xgcd of arith at any two numbers. -/
import Derived.Test.YtalidpojcpmcbaaHbR
import Derived.Test.YtalidpojcpmcbaaSlC
import Derived.Test.YtalidpojcpmcbaaSlA
import Derived.Deep.LoopGhost
import Derived.Deep.QuietTactic
import Derived.BigQuiet
import Derived.BigRegion
namespace Go.Proofs.Ytalidpojcpmcbaa
open Go Go.RowKit

theorem rem_step' {p q : Int} (hq : 0 < q) : (if p.tmod q < 0 then p.tmod q + q else p.tmod q) = p % q := by
  rw [Int.tmod_eq_emod]
  have h1 := Int.emod_nonneg p (b := q) (by omega)
  have h2 := Int.emod_lt_of_pos p hq
  have e0 : (if p % q < 0 then p % q + q else p % q) = p % q := if_neg (by omega)
  by_cases hc : 0 ≤ p ∨ q ∣ p
  · rw [if_pos hc]
    simpa using e0
  · rw [if_neg hc]
    have hz : p % q ≠ 0 := fun h => hc (.inr (Int.dvd_of_emod_eq_zero h))
    have e1 : (q.natAbs : Int) = q := Int.natAbs_of_nonneg (by omega)
    rw [e1, if_pos (by omega)]
    omega
theorem residue_any (a m : Int) (hm : 0 < m) (hm' : m ≤ 4611686018427387904) (w : World) :
    Calls Try.prog 40 #[.int .i64 a, .int .i64 m] w fun e w' => e = .returned (.int .i64 (a % m)) ∧ w = w' := by
  have e0 : ¬ m = 0 := by omega
  have e1 : (m == 0) = false := by simpa using e0
  have t1 := Int.tmod_lt_of_pos a hm
  have t2 := Int.lt_tmod_of_pos a hm
  have HR := Lib.hid (rem_step' (p := a) hm)
  by_cases hr : a.tmod m < 0
  · have hs := HR.out
    rw [if_pos hr] at hs
    have y1 : IntKind.i64.wrap (a.tmod m + m) = a.tmod m + m := IntWalk.i64_in _ (by omega)
    have HS := Lib.hid hs
    clear hs
    go_enter Try.func40, Try.ntmps40
    go_wp2_with fail
    go_ret
    exact ⟨congrArg (fun z => Ending.returned (Value.int .i64 z)) HS.out, rfl⟩
  · have hs := HR.out
    rw [if_neg hr] at hs
    have HS := Lib.hid hs
    clear hs
    go_enter Try.func40, Try.ntmps40
    go_wp2_with fail
    go_ret
    exact ⟨congrArg (fun z => Ending.returned (Value.int .i64 z)) HS.out, rfl⟩

def XgOut (a b : Int) (e : Ending) : Prop := ∃ u v : Int, e = .returned (.tuple #[.int .i64 (Int.gcd a b), .int .i64 u, .int .i64 v, .int .i64 0]) ∧ u * a + v * b = Int.gcd a b ∧ u.natAbs ≤ 1073741825 ∧ v.natAbs ≤ 1073741825

set_option maxHeartbeats 1000000 in
theorem xgcd_zero (a b : Int) (ha : a.natAbs ≤ 1073741824) (hb : b = 0) (w : World) :
    Calls Try.prog 37 #[.int .i64 a, .int .i64 b] w fun e w' => XgOut a b e ∧ Grow w w' := by
  subst hb
  have k1 : ¬ a < -2147483647 := by omega
  have k2 : ¬ 2147483647 < a := by omega
  have y1 : IntKind.i64.wrap (-a) = -a := IntWalk.i64_in _ (by omega)
  have hg : (Int.gcd a 0 : Int) = a.natAbs := by rw [Int.gcd_zero_right]
  by_cases ha0 : a < 0
  · have HG : Hid ((Int.gcd a 0 : Int) = -a) := by show (Int.gcd a 0 : Int) = -a; rw [hg]; omega
    clear hg
    go_enter Try.func37, Try.ntmps37
    go_wp2_with fail
    refine bodyPost_ret (v := .tuple #[.int .i64 (-a), .int .i64 (-1), .int .i64 0, .int .i64 0]) (by simp only [results, Try.results37]; go_simp) rfl ⟨⟨-1, 0, by rw [HG.out], by rw [HG.out]; omega, by decide, by decide⟩, Grow.refl _⟩
  · have HG : Hid ((Int.gcd a 0 : Int) = a) := by show (Int.gcd a 0 : Int) = a; rw [hg]; omega
    clear hg
    by_cases h1 : a < 1
    · have h0 : a = 0 := by omega
      subst h0
      clear ha0 k1 k2 y1 h1
      go_enter Try.func37, Try.ntmps37
      go_wp2_with fail
      refine bodyPost_ret (v := .tuple #[.int .i64 0, .int .i64 0, .int .i64 0, .int .i64 0]) (by simp only [results, Try.results37]; go_simp) rfl ⟨⟨0, 0, rfl, rfl, by decide, by decide⟩, Grow.refl _⟩
    · by_cases h2 : a = 1
      · subst h2
        clear ha0 k1 k2 y1 h1
        go_enter Try.func37, Try.ntmps37
        go_wp2_with fail
        refine bodyPost_ret (v := .tuple #[.int .i64 1, .int .i64 1, .int .i64 0, .int .i64 0]) (by simp only [results, Try.results37]; go_simp) rfl ⟨⟨1, 0, rfl, rfl, by decide, by decide⟩, Grow.refl _⟩
      · have h3 : 1 < a := by omega
        have h4 : ¬ a ≤ 1 := by omega
        go_enter Try.func37, Try.ntmps37
        go_wp2_with fail
        refine bodyPost_ret (v := .tuple #[.int .i64 a, .int .i64 1, .int .i64 0, .int .i64 0]) (by simp only [results, Try.results37]; go_simp) rfl ⟨⟨1, 0, by rw [HG.out], by rw [HG.out]; omega, by decide, by decide⟩, Grow.refl _⟩

set_option maxHeartbeats 1000000 in
theorem xgcd_full (a b : Int) (ha : a.natAbs ≤ 1073741824) (hbb : b.natAbs ≤ 1073741824) (hb : b ≠ 0) (w : World) :
    Calls Try.prog 37 #[.int .i64 a, .int .i64 b] w fun e w' => XgOut a b e ∧ Grow w w' := by
  have k1 : ¬ a < -2147483647 := by omega
  have k2 : ¬ 2147483647 < a := by omega
  have k3 : ¬ b < -2147483647 := by omega
  have k4 : ¬ 2147483647 < b := by omega
  have k5 : (b == 0) = false := by simpa using hb
  have y0 : IntKind.i64.wrap (-b) = -b := IntWalk.i64_in _ (by omega)
  obtain ⟨B, hmx⟩ : ∃ B, (if b < -b then -b else b) = B := ⟨_, rfl⟩
  have hB : B = b.natAbs := by rw [← hmx]; split <;> omega
  have HB := Lib.hid hB
  clear hB
  go_enter Try.func37, Try.ntmps37
  go_wp2_with fail
  go_loopg [4, 5, 8, 9] (b.natAbs + 1) (fun k t4 t5 t8 t9 wr => ∃ g u next rest : Int, t4 = .int .i64 g ∧ t5 = .int .i64 u ∧ t8 = .int .i64 next ∧ t9 = .int .i64 rest ∧ Hid (rest.natAbs < k) ∧ Hid (YSt a b g rest u next) ∧ Hid (Grow w wr))
  case atStart => exact ⟨a, 1, 0, b, rfl, rfl, rfl, rfl, Nat.lt_succ_self _, yst_start hb ha, Grow.refl _⟩
  case round =>
    obtain ⟨g, u, next, rest, rfl, rfl, rfl, rfl, hk, hst, hgr⟩ := hrel
    have hst' := hst.out
    obtain ⟨-, -, -, b1, b2, b3, b4, -⟩ := hst'
    by_cases hr : rest = 0
    · subst hr
      obtain ⟨hg1, hdv, hub⟩ := yst_end hst.out
      clear hst hk
      have fin : ∀ (G U : Int), (Int.gcd a b : Int) = G → b ∣ G - U * a → U.natAbs ≤ 1073741824 → ∀ m, B.tdiv G = m → 0 < G ∧ G ≤ 1073741824 ∧ 0 < m ∧ m ≤ 1073741824 ∧ 0 ≤ U % m ∧ U % m ≤ 1073741824 ∧ XgOut a b (.returned (.tuple #[.int .i64 G, .int .i64 (U % m), .int .i64 ((G - (U % m) * a).tdiv b), .int .i64 0])) ∧ ((G - (U % m) * a).tdiv b).natAbs ≤ 1073741825 ∧ ((U % m) * a).natAbs ≤ 1152921504606846976 := by
        intro G U hG hd hU m hm
        rw [HB.out] at hm
        obtain ⟨e1, e2, e3, e4, e5⟩ := xg_end hG hb hd hm
        have e6 : 0 ≤ U % m := Int.emod_nonneg _ (by omega)
        have e7 : U % m < m := Int.emod_lt_of_pos _ e3
        have e8 := xg_bd (a := a) e1 e2 e6 (by omega : U % m ≤ b.natAbs)
        have e9 : ((U % m) * a).natAbs ≤ 1073741824 * 1073741824 := by rw [Int.natAbs_mul]; exact Nat.mul_le_mul (by omega) ha
        exact ⟨e1, by omega, e3, by omega, e6, by omega, ⟨_, _, by rw [hG], by rw [hG]; exact e5, by omega, by omega⟩, by omega, by omega⟩
      by_cases hneg : g < 0
      · have hG : (Int.gcd a b : Int) = -g := by omega
        have hd2 : b ∣ -g - -u * a := by
          have e : -g - -u * a = -(g - u * a) := by rw [Int.neg_mul]; omega
          rw [e]; exact Int.dvd_neg.2 hdv
        obtain ⟨m, hm⟩ : ∃ m, B.tdiv (-g) = m := ⟨_, rfl⟩
        obtain ⟨f1, f2, f3, f4, f5, f6, f7, f8, f9⟩ := fin (-g) (-u) hG hd2 (by omega) m hm
        have FO := Lib.hid f7
        have RES := Lib.hid (fun w => residue_any (-u) m f3 (by omega) w)
        clear fin hdv hd2 hG hg1 f7 hub
        generalize (-u) % m = r at *
        have hm2 : B.tdiv g = -m := by rw [← hm, Int.tdiv_neg, Int.neg_neg]
        clear hm
        have y1 : IntKind.i64.wrap (-g) = -g := IntWalk.i64_in _ (by omega)
        have y2 : IntKind.i64.wrap (-u) = -u := IntWalk.i64_in _ (by omega)
        have y3 : IntKind.i64.wrap (r * a) = r * a := IntWalk.i64_in _ (by omega)
        have y4 : IntKind.i64.wrap (-g - r * a) = -g - r * a := IntWalk.i64_in _ (by omega)
        have y5 : IntKind.i64.wrap ((-g - r * a).tdiv b) = (-g - r * a).tdiv b := IntWalk.i64_in _ (by omega)
        have y6 : IntKind.i64.wrap m = m := IntWalk.i64_in _ (by omega)
        have hgne : ¬ g = 0 := by omega
        have hgneb : (g == 0) = false := by simpa using hgne
        have hgne2 : ¬ -g = 0 := by omega
        have hgneb2 : (-g == 0) = false := by simpa using hgne2
        go_wp2_with (go_at_call 40; with_reducible refine (RES.out _).mono ?_; rintro e w1 ⟨rfl, rfl⟩)
        go_quiet (fail)
        go_wp2
        refine bodyPost_ret (v := .tuple #[.int .i64 (-g), .int .i64 r, .int .i64 ((-g - r * a).tdiv b), .int .i64 0]) (by simp only [results, Try.results37]; go_simp) rfl ⟨FO.out, hgr.out.drewN _⟩
      · have hG : (Int.gcd a b : Int) = g := by omega
        obtain ⟨m, hm⟩ : ∃ m, B.tdiv g = m := ⟨_, rfl⟩
        obtain ⟨f1, f2, f3, f4, f5, f6, f7, f8, f9⟩ := fin g u hG hdv (by omega) m hm
        have FO := Lib.hid f7
        have RES := Lib.hid (fun w => residue_any u m f3 (by omega) w)
        clear fin hdv hG hg1 f7 hub
        generalize u % m = r at *
        have y3 : IntKind.i64.wrap (r * a) = r * a := IntWalk.i64_in _ (by omega)
        have y4 : IntKind.i64.wrap (g - r * a) = g - r * a := IntWalk.i64_in _ (by omega)
        have y5 : IntKind.i64.wrap ((g - r * a).tdiv b) = (g - r * a).tdiv b := IntWalk.i64_in _ (by omega)
        have y6 : IntKind.i64.wrap m = m := IntWalk.i64_in _ (by omega)
        have hgne : ¬ g = 0 := by omega
        have hgneb : (g == 0) = false := by simpa using hgne
        go_wp2_with (go_at_call 40; with_reducible refine (RES.out _).mono ?_; rintro e w1 ⟨rfl, rfl⟩)
        go_quiet (fail)
        go_wp2
        refine bodyPost_ret (v := .tuple #[.int .i64 g, .int .i64 r, .int .i64 ((g - r * a).tdiv b), .int .i64 0]) (by simp only [results, Try.results37]; go_simp) rfl ⟨FO.out, hgr.out.drewN _⟩
    · have e1 : (rest == 0) = false := by simpa using hr
      have e2 : (rest != 0) = true := by simpa using hr
      obtain ⟨hst2, q1, q2, q3, q4⟩ := yst_step hst.out hbb hr
      have HS2 := Lib.hid hst2
      clear hst2 hst
      have hkk := hk.out
      obtain ⟨g', hgk⟩ : ∃ g', gk = g' + 1 := ⟨gk - 1, by omega⟩
      have y1 : IntKind.i64.wrap (g.tdiv rest) = g.tdiv rest := IntWalk.i64_in _ (by omega)
      have y2 : IntKind.i64.wrap (g.tdiv rest * rest) = g.tdiv rest * rest := IntWalk.i64_in _ (by omega)
      have y3 : IntKind.i64.wrap (g - g.tdiv rest * rest) = g - g.tdiv rest * rest := IntWalk.i64_in _ (by omega)
      have y4 : IntKind.i64.wrap (g.tdiv rest * next) = g.tdiv rest * next := IntWalk.i64_in _ (by omega)
      have y5 : IntKind.i64.wrap (u - g.tdiv rest * next) = u - g.tdiv rest * next := IntWalk.i64_in _ (by omega)
      go_wp2_with fail
      go_roundg g'
      case measure => omega
      case rel => exact ⟨rest, next, _, _, rfl, rfl, rfl, rfl, Lib.hid (by have h := hk.out; omega), HS2.out, hgr.out⟩
theorem xgcd_any (a b : Int) (ha : a.natAbs ≤ 1073741824) (hb : b.natAbs ≤ 1073741824) (w : World) :
    Calls Try.prog 37 #[.int .i64 a, .int .i64 b] w fun e w' => XgOut a b e ∧ Grow w w' := by
  by_cases h : b = 0
  · exact xgcd_zero a b ha h w
  · exact xgcd_full a b ha hb h w
end Go.Proofs.Ytalidpojcpmcbaa
