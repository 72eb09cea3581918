/- Lemmas, plain laws and walks that the statement LwKronecker leans on (texts MtY, HbR, HbS, XgS), conditions as each theorem says. -/
import Derived.Test.YtbpkfcohbefphaaGreatDoorProg
import Derived.WalkKit
import Derived.WalkSpells
import Derived.WalkLawsBesides
import Derived.Lib.Hide
import Derived.Deep.QuietTactic
import Derived.BigQuiet
import Derived.Deep.LoopGhost
import Derived.BigRegion
import Derived.Test.YtbpkfcohbefphaaGreatDoorTopKhG01

namespace Go.Proofs.YtbpkfcohbefphaaGreatDoor
open Go.RowKit
def at4 (f : Nat → Option Value) (o : Nat) (m : M2) : Prop := f o = some (.int .i64 m.a) ∧ f (o + 1) = some (.int .i64 m.b) ∧ f (o + 2) = some (.int .i64 m.c) ∧ f (o + 3) = some (.int .i64 m.d)
/-- The slice value v reads as the list l of matrices. -/
def RdMats (w : World) (v : Value) (l : List M2) : Prop :=
  (∃ a cap, v = .slice a 0 cap ∧ l = []) ∨ (∃ b off cap, v = .slice (some ⟨b, off, none⟩) l.length cap ∧ b < w.heap.size ∧ l.length ≤ cap ∧
    ∀ j, j < l.length → at4 (fun i => w.cell? ⟨b, i, none⟩) (off + j * 4) (l.getD j M2.zero))
theorem RdMats.grow {w w' : World} {v : Value} {l : List M2} (h : RdMats w v l) (hg : Grow w w') : RdMats w' v l := by
  rcases h with h | ⟨b, off, cap, hv, hb, hk, hc⟩
  · exact .inl h
  · refine .inr ⟨b, off, cap, hv, Nat.lt_of_lt_of_le hb hg.size, hk, fun j hj => ?_⟩
    obtain ⟨h1, h2, h3, h4⟩ := hc j hj
    exact ⟨(hg.cells b _ hb).trans h1, (hg.cells b _ hb).trans h2, (hg.cells b _ hb).trans h3, (hg.cells b _ hb).trans h4⟩
theorem RdMats.form {w : World} {v : Value} {l : List M2} (h : RdMats w v l) : ∃ a cap, v = .slice a l.length cap := by
  rcases h with ⟨a, cap, hv, hl⟩ | ⟨b, off, cap, hv, _⟩
  · exact ⟨a, cap, by rw [hv, hl]; rfl⟩
  · exact ⟨_, cap, hv⟩
def eqM (x y : M2) : Bool := decide (x.a = y.a) && decide (x.b = y.b) && decide (x.c = y.c) && decide (x.d = y.d)
theorem eqM_iff {x y : M2} : eqM x y = true ↔ x = y := by
  cases x; cases y; simp [eqM, and_assoc]
instance : DecidableEq M2 := fun _ _ => decidable_of_iff _ eqM_iff
end Go.Proofs.YtbpkfcohbefphaaGreatDoor
namespace Go.Proofs.YtbpkfcohbefphaaGreatDoor
def YSt (a b g rest u next : Int) : Prop :=
  b ∣ g - u * a ∧ b ∣ rest - next * a ∧ Int.gcd g rest = Int.gcd a b ∧ g.natAbs ≤ 1073741824 ∧ rest.natAbs ≤ b.natAbs ∧ u.natAbs ≤ b.natAbs ∧ next.natAbs ≤ b.natAbs ∧ u.natAbs * rest.natAbs + next.natAbs * g.natAbs ≤ b.natAbs
theorem yst_start {a b : Int} (hb : b ≠ 0) (ha : a.natAbs ≤ 1073741824) : YSt a b a b 1 0 :=
  ⟨by simp, by simp, rfl, ha, Nat.le_refl _, by show 1 ≤ b.natAbs; omega, by simp, by simp⟩
theorem yst_step {a b g rest u next : Int} (h : YSt a b g rest u next) (hb : b.natAbs ≤ 1073741824) (hr : rest ≠ 0) :
    YSt a b rest (g - g.tdiv rest * rest) next (u - g.tdiv rest * next) ∧ (g.tdiv rest).natAbs ≤ 1073741824 ∧ (g.tdiv rest * rest).natAbs ≤ 1073741824 ∧ (g.tdiv rest * next).natAbs ≤ 1073741824 ∧ (g - g.tdiv rest * rest).natAbs < rest.natAbs := by
  obtain ⟨h1, h2, h3, h4, h5, h6, h7, h8⟩ := h
  obtain ⟨q, hq⟩ : ∃ q, g.tdiv rest = q := ⟨_, rfl⟩
  have hmod : g - q * rest = g.tmod rest := by
    have := Int.tmod_add_mul_tdiv g rest
    rw [hq, Int.mul_comm rest q] at this
    omega
  rw [hq]
  have hqa : q.natAbs = g.natAbs / rest.natAbs := by rw [← hq, Int.natAbs_tdiv]; rfl
  have hma : (g.tmod rest).natAbs = g.natAbs % rest.natAbs := Int.natAbs_tmod g rest
  have hR : 0 < rest.natAbs := by omega
  have hdm := Nat.div_add_mod g.natAbs rest.natAbs
  have hlt := Nat.mod_lt g.natAbs hR
  rw [← hqa, ← hma] at hdm
  rw [← hma] at hlt
  have hQ : q.natAbs ≤ g.natAbs := by rw [hqa]; exact Nat.div_le_self _ _
  have hqr : (q * rest).natAbs ≤ g.natAbs := by rw [Int.natAbs_mul, Nat.mul_comm]; omega
  have hng : next.natAbs * g.natAbs ≤ b.natAbs := by omega
  have hqn : (q * next).natAbs ≤ b.natAbs := by
    rw [Int.natAbs_mul]
    exact Nat.le_trans (Nat.mul_le_mul_right _ hQ) (by rw [Nat.mul_comm]; exact hng)
  have hn2 : (u - q * next).natAbs ≤ u.natAbs + q.natAbs * next.natAbs := by
    have := Int.natAbs_mul q next
    omega
  have hkey : next.natAbs * (g.tmod rest).natAbs + (u.natAbs + q.natAbs * next.natAbs) * rest.natAbs ≤ b.natAbs := by
    have e : next.natAbs * (g.tmod rest).natAbs + (u.natAbs + q.natAbs * next.natAbs) * rest.natAbs = u.natAbs * rest.natAbs + next.natAbs * g.natAbs := by
      rw [← hdm]; grind
    omega
  have hk2 : (u - q * next).natAbs * rest.natAbs ≤ (u.natAbs + q.natAbs * next.natAbs) * rest.natAbs := Nat.mul_le_mul_right _ hn2
  have hk3 : (u - q * next).natAbs * 1 ≤ (u - q * next).natAbs * rest.natAbs := Nat.mul_le_mul_left _ hR
  refine ⟨⟨h2, ?_, ?_, by omega, ?_, h7, by omega, ?_⟩, by omega, by omega, by omega, by rw [hmod]; exact hlt⟩
  · have e : g - q * rest - (u - q * next) * a = (g - u * a) - q * (rest - next * a) := by
      rw [Int.sub_mul, Int.mul_sub, Int.mul_assoc]; omega
    rw [e]
    exact Int.dvd_sub h1 (Int.dvd_mul_of_dvd_right h2)
  · rw [hmod, ← h3]
    simp only [Int.gcd, Int.natAbs_tmod]
    rw [Nat.gcd_comm g.natAbs rest.natAbs, Nat.gcd_rec rest.natAbs g.natAbs, Nat.gcd_comm]
  · rw [hmod]; omega
  · rw [hmod]; omega
theorem yst_end {a b g u next : Int} (h : YSt a b g 0 u next) : g.natAbs = Int.gcd a b ∧ b ∣ g - u * a ∧ u.natAbs ≤ b.natAbs := by
  obtain ⟨h1, h2, h3, h4, h5, h6, h7, h8⟩ := h
  rw [Int.gcd_zero_right] at h3
  exact ⟨h3, h1, h6⟩
theorem gcd_dvd' {a b c : Int} (h : (Int.gcd a b : Int) = c) : c ∣ a ∧ c ∣ b := by
  subst h; exact ⟨Int.gcd_dvd_left .., Int.gcd_dvd_right ..⟩
/-- The end of the program's reckoning. -/
theorem xg_end {a b g u m : Int} (hg : (Int.gcd a b : Int) = g) (hb : b ≠ 0) (hd : b ∣ g - u * a) (hm : (b.natAbs : Int).tdiv g = m) : 0 < g ∧ g ≤ b.natAbs ∧ 0 < m ∧ m ≤ b.natAbs ∧ (u % m) * a + (g - (u % m) * a).tdiv b * b = g := by
  obtain ⟨⟨x, hx⟩, ⟨y, hy⟩⟩ := gcd_dvd' hg
  have hg0 : 0 < g := by
    have : Int.gcd a b ≠ 0 := fun h => hb (Int.gcd_eq_zero_iff.1 h).2
    omega
  have hb1 : (b.natAbs : Int) = g * y.natAbs := by
    have : b.natAbs = g.natAbs * y.natAbs := by rw [hy, Int.natAbs_mul]
    rw [this]; push_cast; rw [Int.natAbs_of_nonneg (by omega)] <;> omega
  have hme : m = y.natAbs := by rw [← hm, hb1]; exact Int.mul_tdiv_cancel_left _ (by omega)
  have hy0 : y ≠ 0 := by rintro rfl; simp at hy; exact hb hy
  have hm0 : 0 < m := by omega
  have h1 : g * 1 ≤ g * (y.natAbs : Int) := Int.mul_le_mul_of_nonneg_left (by omega) (by omega)
  have h2 : 1 * (y.natAbs : Int) ≤ g * (y.natAbs : Int) := Int.mul_le_mul_of_nonneg_right (by omega) (by omega)
  refine ⟨hg0, by omega, hm0, by omega, ?_⟩
  have hdv : b ∣ g - (u % m) * a := by
    have e : g - u % m * a = (g - u * a) + m * (u / m) * a := by
      have h := Int.emod_add_mul_ediv u m
      have h3 : u % m = u - m * (u / m) := by omega
      rw [h3, Int.sub_mul]; omega
    rw [e]
    refine Int.dvd_add hd ?_
    have e2 : m * (u / m) * a = (m * g) * (u / m * x) := by rw [hx]; grind
    rw [e2, hme, Int.mul_comm _ g, ← hb1]
    exact Int.dvd_mul_of_dvd_left (Int.dvd_natAbs.2 (Int.dvd_refl b))
  obtain ⟨v, hv⟩ := hdv
  rw [hv, Int.mul_tdiv_cancel_left _ hb]
  have := Int.mul_comm b v
  omega
theorem xg_bd {a b g r : Int} (hg0 : 0 < g) (hg : g ≤ b.natAbs) (hr : 0 ≤ r) (hr2 : r ≤ b.natAbs) : ((g - r * a).tdiv b).natAbs ≤ a.natAbs + 1 := by
  rw [Int.natAbs_tdiv]
  have h1 : (r * a).natAbs ≤ b.natAbs * a.natAbs := by rw [Int.natAbs_mul]; exact Nat.mul_le_mul_right _ (by omega)
  refine Nat.div_le_of_le_mul ?_
  rw [Nat.mul_add]
  omega
end Go.Proofs.YtbpkfcohbefphaaGreatDoor
namespace Go.Proofs.YtbpkfcohbefphaaGreatDoor
open Go Go.RowKit
theorem rem_step' {p q : Int} (hq : 0 < q) : (if p.tmod q < 0 then p.tmod q + q else p.tmod q) = p % q := by
  rw [Int.tmod_eq_emod]
  have h1 := Int.emod_nonneg p (b := q) (by omega)
  have h2 := Int.emod_lt_of_pos p hq
  have e0 : (if p % q < 0 then p % q + q else p % q) = p % q := if_neg (by omega)
  by_cases hc : 0 ≤ p ∨ q ∣ p
  · rw [if_pos hc]
    simpa using e0
  · rw [if_neg hc]
    have hz : p % q ≠ 0 := fun h => hc (.inr (Int.dvd_of_emod_eq_zero h))
    have e1 : (q.natAbs : Int) = q := Int.natAbs_of_nonneg (by omega)
    rw [e1, if_pos (by omega)]
    omega
theorem residue_any (a m : Int) (hm : 0 < m) (hm' : m ≤ 4611686018427387904) (w : World) :
    Calls Tryz.prog 60 #[.int .i64 a, .int .i64 m] w fun e w' => e = .returned (.int .i64 (a % m)) ∧ w = w' := by
  have e0 : ¬ m = 0 := by omega
  have e1 : (m == 0) = false := by simpa using e0
  have t1 := Int.tmod_lt_of_pos a hm
  have t2 := Int.lt_tmod_of_pos a hm
  have HR := Lib.hid (rem_step' (p := a) hm)
  by_cases hr : a.tmod m < 0
  · have hs := HR.out
    rw [if_pos hr] at hs
    have y1 : IntKind.i64.wrap (a.tmod m + m) = a.tmod m + m := IntWalk.i64_in _ (by omega)
    have HS := Lib.hid hs
    clear hs
    go_enter Tryz.func60, Tryz.ntmps60
    go_wp2_with fail
    go_ret
    exact ⟨congrArg (fun z => Ending.returned (Value.int .i64 z)) HS.out, rfl⟩
  · have hs := HR.out
    rw [if_neg hr] at hs
    have HS := Lib.hid hs
    clear hs
    go_enter Tryz.func60, Tryz.ntmps60
    go_wp2_with fail
    go_ret
    exact ⟨congrArg (fun z => Ending.returned (Value.int .i64 z)) HS.out, rfl⟩
end Go.Proofs.YtbpkfcohbefphaaGreatDoor
namespace Go.Proofs.YtbpkfcohbefphaaGreatDoor
open Go Go.RowKit
def XgOut2 (a b : Int) (e : Ending) : Prop := ∃ u v : Int, e = .returned (.tuple #[.int .i64 (Int.gcd a b), .int .i64 u, .int .i64 v, .int .i64 0]) ∧ u * a + v * b = Int.gcd a b ∧ u.natAbs ≤ 1073741825 ∧ v.natAbs ≤ 1073741825 ∧ 0 ≤ u
set_option maxHeartbeats 1000000 in
theorem xgcd_full2 (a b : Int) (ha : a.natAbs ≤ 1073741824) (hbb : b.natAbs ≤ 1073741824) (hb : b ≠ 0) (w : World) :
    Calls Tryz.prog 126 #[.int .i64 a, .int .i64 b] w fun e w' => XgOut2 a b e ∧ Grow w w' := by
  have k1 : ¬ a < -2147483647 := by omega
  have k2 : ¬ 2147483647 < a := by omega
  have k3 : ¬ b < -2147483647 := by omega
  have k4 : ¬ 2147483647 < b := by omega
  have k5 : (b == 0) = false := by simpa using hb
  have y0 : IntKind.i64.wrap (-b) = -b := IntWalk.i64_in _ (by omega)
  obtain ⟨B, hmx⟩ : ∃ B, (if b < -b then -b else b) = B := ⟨_, rfl⟩
  have hB : B = b.natAbs := by rw [← hmx]; split <;> omega
  have HB := Lib.hid hB
  clear hB
  go_enter Tryz.func126, Tryz.ntmps126
  go_wp2_with fail
  go_loopg [4, 5, 8, 9] (b.natAbs + 1) (fun k t4 t5 t8 t9 wr => ∃ g u next rest : Int, t4 = .int .i64 g ∧ t5 = .int .i64 u ∧ t8 = .int .i64 next ∧ t9 = .int .i64 rest ∧ Hid (rest.natAbs < k) ∧ Hid (YSt a b g rest u next) ∧ Hid (Grow w wr))
  case atStart => exact ⟨a, 1, 0, b, rfl, rfl, rfl, rfl, Nat.lt_succ_self _, yst_start hb ha, Grow.refl _⟩
  case round =>
    obtain ⟨g, u, next, rest, rfl, rfl, rfl, rfl, hk, hst, hgr⟩ := hrel
    have hst' := hst.out
    obtain ⟨-, -, -, b1, b2, b3, b4, -⟩ := hst'
    by_cases hr : rest = 0
    · subst hr
      obtain ⟨hg1, hdv, hub⟩ := yst_end hst.out
      clear hst hk
      have fin : ∀ (G U : Int), (Int.gcd a b : Int) = G → b ∣ G - U * a → U.natAbs ≤ 1073741824 → ∀ m, B.tdiv G = m → 0 < G ∧ G ≤ 1073741824 ∧ 0 < m ∧ m ≤ 1073741824 ∧ 0 ≤ U % m ∧ U % m ≤ 1073741824 ∧ XgOut2 a b (.returned (.tuple #[.int .i64 G, .int .i64 (U % m), .int .i64 ((G - (U % m) * a).tdiv b), .int .i64 0])) ∧ ((G - (U % m) * a).tdiv b).natAbs ≤ 1073741825 ∧ ((U % m) * a).natAbs ≤ 1152921504606846976 := by
        intro G U hG hd hU m hm
        rw [HB.out] at hm
        obtain ⟨e1, e2, e3, e4, e5⟩ := xg_end hG hb hd hm
        have e6 : 0 ≤ U % m := Int.emod_nonneg _ (by omega)
        have e7 : U % m < m := Int.emod_lt_of_pos _ e3
        have e8 := xg_bd (a := a) e1 e2 e6 (by omega : U % m ≤ b.natAbs)
        have e9 : ((U % m) * a).natAbs ≤ 1073741824 * 1073741824 := by rw [Int.natAbs_mul]; exact Nat.mul_le_mul (by omega) ha
        exact ⟨e1, by omega, e3, by omega, e6, by omega, ⟨_, _, by rw [hG], by rw [hG]; exact e5, by omega, by omega, e6⟩, by omega, by omega⟩
      by_cases hneg : g < 0
      · have hG : (Int.gcd a b : Int) = -g := by omega
        have hd2 : b ∣ -g - -u * a := by
          have e : -g - -u * a = -(g - u * a) := by rw [Int.neg_mul]; omega
          rw [e]; exact Int.dvd_neg.2 hdv
        obtain ⟨m, hm⟩ : ∃ m, B.tdiv (-g) = m := ⟨_, rfl⟩
        obtain ⟨f1, f2, f3, f4, f5, f6, f7, f8, f9⟩ := fin (-g) (-u) hG hd2 (by omega) m hm
        have FO := Lib.hid f7
        have RES := Lib.hid (fun w => residue_any (-u) m f3 (by omega) w)
        clear fin hdv hd2 hG hg1 f7 hub
        generalize (-u) % m = r at *
        have hm2 : B.tdiv g = -m := by rw [← hm, Int.tdiv_neg, Int.neg_neg]
        clear hm
        have y1 : IntKind.i64.wrap (-g) = -g := IntWalk.i64_in _ (by omega)
        have y2 : IntKind.i64.wrap (-u) = -u := IntWalk.i64_in _ (by omega)
        have y3 : IntKind.i64.wrap (r * a) = r * a := IntWalk.i64_in _ (by omega)
        have y4 : IntKind.i64.wrap (-g - r * a) = -g - r * a := IntWalk.i64_in _ (by omega)
        have y5 : IntKind.i64.wrap ((-g - r * a).tdiv b) = (-g - r * a).tdiv b := IntWalk.i64_in _ (by omega)
        have y6 : IntKind.i64.wrap m = m := IntWalk.i64_in _ (by omega)
        have hgne : ¬ g = 0 := by omega
        have hgneb : (g == 0) = false := by simpa using hgne
        have hgne2 : ¬ -g = 0 := by omega
        have hgneb2 : (-g == 0) = false := by simpa using hgne2
        go_wp2_with (go_at_call 60; with_reducible refine (RES.out _).mono ?_; rintro e w1 ⟨rfl, rfl⟩)
        go_quiet (fail)
        go_wp2
        refine bodyPost_ret (v := .tuple #[.int .i64 (-g), .int .i64 r, .int .i64 ((-g - r * a).tdiv b), .int .i64 0]) (by simp only [results, Tryz.results126]; go_simp) rfl ⟨FO.out, hgr.out.drewN _⟩
      · have hG : (Int.gcd a b : Int) = g := by omega
        obtain ⟨m, hm⟩ : ∃ m, B.tdiv g = m := ⟨_, rfl⟩
        obtain ⟨f1, f2, f3, f4, f5, f6, f7, f8, f9⟩ := fin g u hG hdv (by omega) m hm
        have FO := Lib.hid f7
        have RES := Lib.hid (fun w => residue_any u m f3 (by omega) w)
        clear fin hdv hG hg1 f7 hub
        generalize u % m = r at *
        have y3 : IntKind.i64.wrap (r * a) = r * a := IntWalk.i64_in _ (by omega)
        have y4 : IntKind.i64.wrap (g - r * a) = g - r * a := IntWalk.i64_in _ (by omega)
        have y5 : IntKind.i64.wrap ((g - r * a).tdiv b) = (g - r * a).tdiv b := IntWalk.i64_in _ (by omega)
        have y6 : IntKind.i64.wrap m = m := IntWalk.i64_in _ (by omega)
        have hgne : ¬ g = 0 := by omega
        have hgneb : (g == 0) = false := by simpa using hgne
        go_wp2_with (go_at_call 60; with_reducible refine (RES.out _).mono ?_; rintro e w1 ⟨rfl, rfl⟩)
        go_quiet (fail)
        go_wp2
        refine bodyPost_ret (v := .tuple #[.int .i64 g, .int .i64 r, .int .i64 ((g - r * a).tdiv b), .int .i64 0]) (by simp only [results, Tryz.results126]; go_simp) rfl ⟨FO.out, hgr.out.drewN _⟩
    · have e1 : (rest == 0) = false := by simpa using hr
      have e2 : (rest != 0) = true := by simpa using hr
      obtain ⟨hst2, q1, q2, q3, q4⟩ := yst_step hst.out hbb hr
      have HS2 := Lib.hid hst2
      clear hst2 hst
      have hkk := hk.out
      obtain ⟨g', hgk⟩ : ∃ g', gk = g' + 1 := ⟨gk - 1, by omega⟩
      have y1 : IntKind.i64.wrap (g.tdiv rest) = g.tdiv rest := IntWalk.i64_in _ (by omega)
      have y2 : IntKind.i64.wrap (g.tdiv rest * rest) = g.tdiv rest * rest := IntWalk.i64_in _ (by omega)
      have y3 : IntKind.i64.wrap (g - g.tdiv rest * rest) = g - g.tdiv rest * rest := IntWalk.i64_in _ (by omega)
      have y4 : IntKind.i64.wrap (g.tdiv rest * next) = g.tdiv rest * next := IntWalk.i64_in _ (by omega)
      have y5 : IntKind.i64.wrap (u - g.tdiv rest * next) = u - g.tdiv rest * next := IntWalk.i64_in _ (by omega)
      go_wp2_with fail
      go_roundg g'
      case measure => omega
      case rel => exact ⟨rest, next, _, _, rfl, rfl, rfl, rfl, Lib.hid (by have h := hk.out; omega), HS2.out, hgr.out⟩
end Go.Proofs.YtbpkfcohbefphaaGreatDoor
