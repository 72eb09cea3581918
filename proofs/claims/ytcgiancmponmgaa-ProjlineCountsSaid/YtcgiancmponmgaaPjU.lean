/- Walks: least and List of the reference; the two lists with their errors. -/
import Derived.Test.YtcgiancmponmgaaPjT
namespace Go.Proofs.Ytcgiancmponmgaa
open Go Go.RowKit

theorem leaS_step {n u v s : Int} {f : Nat} (hs : s < n) (h : ¬ ((Int.gcd s n : Int) = 1 ∧ ((s * u).tmod n < u ∨ ((s * u).tmod n = u ∧ (s * v).tmod n < v)))) : leaS n u v (f + 1) s = leaS n u v f (s + 1) := by
  rw [leaS, if_pos hs, if_neg h]
theorem leaS_hit {n u v s : Int} {f : Nat} (hs : s < n) (h : ((Int.gcd s n : Int) = 1 ∧ ((s * u).tmod n < u ∨ ((s * u).tmod n = u ∧ (s * v).tmod n < v)))) : leaS n u v (f + 1) s = false := by
  rw [leaS, if_pos hs, if_pos h]
theorem leaS_end {n u v s : Int} (hs : ¬ s < n) : ∀ f, leaS n u v f s = true
  | 0 => rfl
  | f + 1 => by rw [leaS, if_neg hs]
set_option maxRecDepth 20000 in
set_option maxHeartbeats 4000000 in
theorem refleast_any (n c d : Int) (h1 : 1 ≤ n) (h2 : n ≤ 120) (hc : 0 ≤ c) (hcn : c < n) (hd : 0 ≤ d) (hdn : d < n) (w : World) :
    Calls Try.prog 38 #[.int .i64 n, .int .i64 c, .int .i64 d] w fun e w' => e = .returned (.bool (lea n c d)) ∧ Grow w w' := by
  obtain ⟨B, hB⟩ : ∃ B, lea n c d = B := ⟨_, rfl⟩
  rw [hB]
  have HB0 : Hid (leaS n c d 130 2 = B) := hB
  clear hB
  have n0 : ¬ n = 0 := by omega
  have n1 : (n == 0) = false := by simpa using n0
  go_enter Try.func38, Try.ntmps38
  go_wp2_with fail
  go_loopg [7] 130 (fun k t7 wr => ∃ s : Int, t7 = .int .i64 s ∧ 2 ≤ s ∧ Hid (s + k = 132) ∧ Hid (leaS n c d k s = B) ∧ Hid (Grow w wr))
  case atStart => exact ⟨2, rfl, by omega, Lib.hid (by omega), HB0, Lib.hid (Grow.refl _)⟩
  case round =>
    clear HB0
    obtain ⟨s, rfl, hs2, hsk, hx, hg⟩ := hrel
    by_cases hlt : s < n
    · obtain ⟨g1, hgk⟩ : ∃ g1, gk = g1 + 1 := ⟨gk - 1, by have := hsk.out; omega⟩
      have hx2 := hx.out
      rw [hgk] at hx2
      have GC := Lib.hid (fun u => refGcd_any s n (by omega) (by omega) (by omega) (by omega) u)
      have ys : IntKind.i64.wrap (s + 1) = s + 1 := IntWalk.i64_in _ (by omega)
      obtain ⟨p, hp⟩ : ∃ p, (s * c).tmod n = p := ⟨_, rfl⟩
      obtain ⟨r, hr⟩ : ∃ r, (s * d).tmod n = r := ⟨_, rfl⟩
      have hsc0 : 0 ≤ s * c := Int.mul_nonneg (by omega) hc
      have hsd0 : 0 ≤ s * d := Int.mul_nonneg (by omega) hd
      have hsc1 : s * c ≤ 120 * 120 := Int.mul_le_mul (by omega) (by omega) hc (by omega)
      have hsd1 : s * d ≤ 120 * 120 := Int.mul_le_mul (by omega) (by omega) hd (by omega)
      have p0 : 0 ≤ p := by rw [← hp]; exact Int.tmod_nonneg _ hsc0
      have p1 : p < n := by rw [← hp]; exact Int.tmod_lt_of_pos _ (by omega)
      have r0 : 0 ≤ r := by rw [← hr]; exact Int.tmod_nonneg _ hsd0
      have r1 : r < n := by rw [← hr]; exact Int.tmod_lt_of_pos _ (by omega)
      have y1 : IntKind.i64.wrap (s * c) = s * c := IntWalk.i64_in _ (by omega)
      have y2 : IntKind.i64.wrap (s * d) = s * d := IntWalk.i64_in _ (by omega)
      have y3 : IntKind.i64.wrap p = p := IntWalk.i64_in _ (by omega)
      have y4 : IntKind.i64.wrap r = r := IntWalk.i64_in _ (by omega)
      have hst := leaS_step (u := c) (v := d) (f := g1) hlt
      have hht := leaS_hit (u := c) (v := d) (f := g1) hlt
      rw [hp, hr] at hst hht
      obtain ⟨G, hG⟩ : ∃ G : Int, ((Int.gcd s n : Nat) : Int) = G := ⟨_, rfl⟩
      rw [hG] at GC hst hht
      have HST := Lib.hid hst
      have HHT := Lib.hid hht
      have HX2 := Lib.hid hx2
      clear hx hx2 hst hht hG hsc0 hsd0 hsc1 hsd1
      by_cases hg1 : G = 1
      · have e1 : (G == 1) = true := by simpa using hg1
        by_cases c1 : p < c
        · have d1 : decide (p < c) = true := by simpa using c1
          have hx3 := HX2.out
          rw [HHT.out (⟨hg1, .inl c1⟩)] at hx3
          subst hx3
          clear HX2 HST HHT
          go_wp2_with (go_at_call 15; with_reducible refine (GC.out _).mono ?_; rintro e w1 ⟨rfl, hb1⟩)
          go_ret
          exact ⟨rfl, hg.out.trans hb1⟩
        · have d1 : decide (p < c) = false := by simpa using c1
          by_cases c2 : p = c
          · have e3 : (p == c) = true := by simpa using c2
            by_cases c3 : r < d
            · have d2 : decide (r < d) = true := by simpa using c3
              have hx3 := HX2.out
              rw [HHT.out (⟨hg1, .inr ⟨c2, c3⟩⟩)] at hx3
              subst hx3
              clear HX2 HST HHT
              go_wp2_with (go_at_call 15; with_reducible refine (GC.out _).mono ?_; rintro e w1 ⟨rfl, hb1⟩)
              go_ret
              exact ⟨rfl, hg.out.trans hb1⟩
            · have d2 : decide (r < d) = false := by simpa using c3
              have hx3 := HX2.out
              rw [HST.out (by omega)] at hx3
              have HX3 := Lib.hid hx3
              clear hx3 HX2 HST HHT
              go_wp2_with (go_at_call 15; with_reducible refine (GC.out _).mono ?_; rintro e w1 ⟨rfl, hb1⟩)
              go_roundg g1
              case measure => omega
              case rel => exact ⟨s + 1, rfl, by omega, Lib.hid (by have := hsk.out; omega), HX3, Lib.hid (hg.out.trans hb1)⟩
          · have e3 : (p == c) = false := by simpa using c2
            have hx3 := HX2.out
            rw [HST.out (by omega)] at hx3
            have HX3 := Lib.hid hx3
            clear hx3 HX2 HST HHT
            go_wp2_with (go_at_call 15; with_reducible refine (GC.out _).mono ?_; rintro e w1 ⟨rfl, hb1⟩)
            go_roundg g1
            case measure => omega
            case rel => exact ⟨s + 1, rfl, by omega, Lib.hid (by have := hsk.out; omega), HX3, Lib.hid (hg.out.trans hb1)⟩
      · have e1 : (G == 1) = false := by simpa using hg1
        have hx3 := HX2.out
        rw [HST.out (fun h => hg1 h.1)] at hx3
        have HX3 := Lib.hid hx3
        clear hx3 HX2 HST HHT
        go_wp2_with (go_at_call 15; with_reducible refine (GC.out _).mono ?_; rintro e w1 ⟨rfl, hb1⟩)
        go_roundg g1
        case measure => omega
        case rel => exact ⟨s + 1, rfl, by omega, Lib.hid (by have := hsk.out; omega), HX3, Lib.hid (hg.out.trans hb1)⟩
    · have hBt : B = true := by rw [← hx.out]; exact leaS_end hlt _
      subst hBt
      clear hx
      go_wp2_with fail
      go_ret
      exact ⟨rfl, hg.out⟩
/-- The list of the points, and the error. -/
def lsR (n : Int) : List P3 × Int := if lvE n ≠ 0 then ([], 2) else (lsF n, 0)
theorem list_bad (n : Int) (h : ¬ (1 ≤ n ∧ n ≤ 120)) (w : World) : Calls Try.prog 16 #[.int .i64 n] w fun e w' => e = .returned (.tuple #[.slice none 0 0, .int .i64 2]) ∧ Grow w w' := by
  have LV := Lib.hid (fun u => level_any n u)
  rw [lvE_bad h] at LV
  go_enter Try.func16, Try.ntmps16
  go_wp2_with (go_at_call 30; (with_reducible refine (LV.out _).mono ?_); (rintro e wq ⟨rfl, rfl⟩))
  exact bodyPost_ret (v := .tuple #[.slice none 0 0, .int .i64 2]) (by simp only [results, Try.results16]; go_simp) rfl ⟨rfl, by (repeat (first | with_reducible exact Grow.refl _ | with_reducible refine Grow.alloc ?_ _ | with_reducible refine Grow.drew ?_ | with_reducible refine Grow.drewN ?_ _ | (with_reducible refine Grow.setCell ?_ ?hp _; (case hp => (simp; try omega))) | with_reducible refine Grow.trans ?_ (by assumption)))⟩
theorem list_any (n : Int) (w : World) : Calls Try.prog 16 #[.int .i64 n] w fun e w' => ∃ v, e = .returned (.tuple #[v, .int .i64 (lsR n).2]) ∧ OwnPts w' w.heap.size v (lsR n).1 ∧ Grow w w' := by
  unfold lsR
  by_cases h : 1 ≤ n ∧ n ≤ 120
  · rw [lvE_ok h, if_neg (by simp)]
    exact list_core n h.1 h.2 w
  · rw [lvE_bad h, if_pos (by simp)]
    refine (list_bad n h w).mono fun e w' ⟨he, hg⟩ => ⟨_, he, World.ownsRow_nil _ _ _ _, hg⟩
theorem lsA_uv {n u v : Int} {k : Nat} (h1 : 1 ≤ n) (hk : (k : Int) = u * n + v) (hv : 0 ≤ v) (hvn : v < n) : lsA n (k + 1) = lsA n k ++ if okP n u v = true then [⟨u, v, 1⟩] else [] := by
  obtain ⟨d1, d2⟩ := key_div (u := u) (v := v) h1 hv hvn
  rw [lsA, hk, d1, d2]
set_option maxRecDepth 20000 in
set_option maxHeartbeats 4000000 in
theorem refList_core (n : Int) (h1 : 1 ≤ n) (h2 : n ≤ 120) (w : World) :
    Calls Try.prog 17 #[.int .i64 n] w fun e w' => ∃ v, e = .returned (.tuple #[v, .int .i64 0]) ∧ OwnPts w' w.heap.size v (lsF n) ∧ Grow w w' := by
  obtain ⟨ip, hip, ipz0, ipz1, ipz2⟩ := info_parts infoP
  have LV := Lib.hid (fun u => err_any n u)
  rw [lvE_ok ⟨h1, h2⟩] at LV
  have HL : Hid (∀ k : Nat, (k : Int) = n * n → lsF n = lsA n k) := by
    intro k hk
    show lsA n (n.toNat * n.toNat) = _
    have e : ((n.toNat * n.toNat : Nat) : Int) = n * n := by
      have : (n.toNat : Int) = n := Int.toNat_of_nonneg (by omega)
      rw [Int.natCast_mul, this]
    rw [show n.toNat * n.toNat = k by omega]
  go_enter Try.func17, Try.ntmps17
  go_wp2_with (go_at_call 35; (with_reducible refine (LV.out _).mono ?_); (rintro e wq ⟨rfl, rfl⟩))
  go_loopg [5, 6] 130 (fun k t5 t6 wr => ∃ (u : Int) (j : Nat), t6 = .int .i64 u ∧ Hid (u + k = 130) ∧ 0 ≤ u ∧ u ≤ n ∧ Hid ((j : Int) = u * n) ∧ OwnPts wr w.heap.size t5 (lsA n j) ∧ Hid (Grow w wr))
  case atStart => exact ⟨0, 0, rfl, Lib.hid (by omega), by omega, by omega, Lib.hid (by simp), World.ownsRow_nil _ _ _ _, Lib.hid (Grow.refl _)⟩
  case round =>
    obtain ⟨u, j, rfl, huk, hu0, hun, hj, hown, hgr⟩ := hrel
    have HO0 := Lib.hid hown
    clear hown
    by_cases hlt : u < n
    · obtain ⟨g1, hgk⟩ : ∃ g1, gk = g1 + 1 := ⟨gk - 1, by have := huk.out; omega⟩
      have yu : IntKind.i64.wrap (u + 1) = u + 1 := IntWalk.i64_in _ (by omega)
      obtain ⟨w0, hw0⟩ : ∃ x, x = wr := ⟨wr, rfl⟩
      subst hw0
      go_wp2_with fail
      go_loopg [5, 7] 130 (fun k t5 t7 wr => ∃ (v : Int) (i : Nat), t7 = .int .i64 v ∧ Hid (v + k = 130) ∧ 0 ≤ v ∧ v ≤ n ∧ Hid ((i : Int) = u * n + v) ∧ OwnPts wr w.heap.size t5 (lsA n i) ∧ Hid (Grow w wr))
      case atStart => exact ⟨0, j, rfl, Lib.hid (by omega), by omega, by omega, Lib.hid (by have := hj.out; omega), HO0.out, hgr⟩
      case round =>
        clear HO0
        obtain ⟨v, i, rfl, hvk, hv0, hvn, hi, hown, hgr2⟩ := hrel
        have HO := Lib.hid hown
        clear hown
        by_cases hlt2 : v < n
        · obtain ⟨g2, hgk2⟩ : ∃ g2, gk = g2 + 1 := ⟨gk - 1, by have := hvk.out; omega⟩
          have yv : IntKind.i64.wrap (v + 1) = v + 1 := IntWalk.i64_in _ (by omega)
          have hls := lsA_uv h1 hi.out hv0 hlt2
          have hlen := lsA_len (n := n) i
          have hi2 : i ≤ 14400 := by
            have h := hi.out
            have h3 : (u + 1) * n ≤ 120 * 120 := Int.mul_le_mul (by omega) (by omega) (by omega) (by omega)
            rw [Int.add_mul] at h3
            omega
          obtain ⟨g, hg⟩ : ∃ g : Nat, Int.gcd u v = g := ⟨_, rfl⟩
          have gl := gcd_lim (a := u) (b := v) (by omega) (by omega)
          have GC := Lib.hid (fun w => refGcd_any u v (by omega) (by omega) (by omega) (by omega) w)
          have hok : okP n u v = (decide ((Int.gcd (g : Int) n : Int) = 1) && lea n u v) := by unfold okP; rw [hg]
          rw [hg] at GC gl
          obtain ⟨G, hG⟩ : ∃ G : Int, ((Int.gcd (g : Int) n : Nat) : Int) = G := ⟨_, rfl⟩
          have GD := Lib.hid (fun w => refGcd_any (g : Int) n (by omega) (by omega) (by omega) (by omega) w)
          have LE := Lib.hid (fun w => refleast_any n u v h1 h2 hu0 hlt hv0 hlt2 w)
          rw [hG] at GD hok
          obtain ⟨b, hb⟩ : ∃ b, lea n u v = b := ⟨_, rfl⟩
          rw [hb] at LE hok
          rw [hok] at hls
          clear hg hG hok hb
          have hwz := hgr2.out.size
          by_cases hg1 : G = 1
          · have e1 : (G == 1) = true := by simpa using hg1
            rw [decide_eq_true hg1, Bool.true_and] at hls
            cases b
            · rw [if_neg (by simp), List.append_nil] at hls
              have HLS := Lib.hid hls
              clear hls hg1
              go_wp2_with (first
                | (go_at_call 15; (with_reducible refine (GC.out _).mono ?_); (rintro e w3 ⟨rfl, hb3⟩; have hz3 := hb3.size))
                | (go_at_call 15; (with_reducible refine (GD.out _).mono ?_); (rintro e w4 ⟨rfl, hb4⟩; have hz4 := hb4.size))
                | (go_at_call 38; (with_reducible refine (LE.out _).mono ?_); (rintro e w5 ⟨rfl, hb5⟩; have hz5 := hb5.size)))
              go_roundg g2
              case measure => omega
              case rel => exact ⟨v + 1, i + 1, rfl, Lib.hid (by have := hvk.out; omega), by omega, by omega, Lib.hid (by have := hi.out; omega), by rw [HLS.out]; exact HO.out.into ((hb3.trans hb4).trans hb5), Lib.hid (((hgr2.out.trans hb3).trans hb4).trans hb5)⟩
            · rw [if_pos rfl] at hls
              have HLS := Lib.hid hls
              clear hls hg1
              go_wp2_with (first
                | (go_at_call 15; (with_reducible refine (GC.out _).mono ?_); (rintro e w3 ⟨rfl, hb3⟩; have hz3 := hb3.size))
                | (go_at_call 15; (with_reducible refine (GD.out _).mono ?_); (rintro e w4 ⟨rfl, hb4⟩; have hz4 := hb4.size))
                | (go_at_call 38; (with_reducible refine (LE.out _).mono ?_); (rintro e w5 ⟨rfl, hb5⟩; have hz5 := hb5.size; have HO5 := Lib.hid (HO.out.into ((hb3.trans hb4).trans hb5)); have HG5 := Lib.hid (((hgr2.out.trans hb3).trans hb4).trans hb5); clear hb3 hb4 hb5))
                | (at_builtin; refine wpList_append_own _ rfl _ _ 35 rfl (w.heap.size) 24 ip (.agg #[.int .i64 0, .int .i64 0, .int .i64 0]) 3 24 Try.underlying35 hip ipz0 ipz1 ipz2 rfl (by decide) _ _ _ rfl (HO5.out.into (Grow.alloc (Grow.refl _) _)) ⟨w5.heap.size, 0, none⟩ 1 1 [.int .i64 u, .int .i64 v, .int .i64 1] rfl rfl (three_cells _ _ _ _ _ _ ?c1) (three_oneCell _ _ _) ?c3 ?c4 ?c5 ?_))
              case c1 => simp
              case c3 => unfold maxLen; omega
              case c4 => omega
              case c5 => (try simp); omega
              intro v6 w6 hown6 hgrow6 _
              have hG6 : Grow w w6 := own_grow ((HG5.out).alloc _) (HO5.out.into (Grow.alloc (Grow.refl _) _)) hgrow6 (by omega)
              have HO6 := Lib.hid hown6
              have HG6 := Lib.hid hG6
              clear hown6 hgrow6 hG6
              go_wp2_with fail
              go_roundg g2
              case measure => omega
              case rel => exact ⟨v + 1, i + 1, rfl, Lib.hid (by have := hvk.out; omega), by omega, by omega, Lib.hid (by have := hi.out; omega), by rw [HLS.out]; unfold OwnPts; rw [cellsP_snoc]; simpa using HO6.out, HG6⟩
          · have e1 : (G == 1) = false := by simpa using hg1
            rw [decide_eq_false hg1, Bool.false_and, if_neg (by simp), List.append_nil] at hls
            have HLS := Lib.hid hls
            clear hls hg1
            go_wp2_with (first
              | (go_at_call 15; (with_reducible refine (GC.out _).mono ?_); (rintro e w3 ⟨rfl, hb3⟩; have hz3 := hb3.size))
              | (go_at_call 15; (with_reducible refine (GD.out _).mono ?_); (rintro e w4 ⟨rfl, hb4⟩; have hz4 := hb4.size)))
            go_roundg g2
            case measure => omega
            case rel => exact ⟨v + 1, i + 1, rfl, Lib.hid (by have := hvk.out; omega), by omega, by omega, Lib.hid (by have := hi.out; omega), by rw [HLS.out]; exact HO.out.into (hb3.trans hb4), Lib.hid ((hgr2.out.trans hb3).trans hb4)⟩
        · have hvn2 : v = n := by omega
          go_wp2_with fail
          go_roundg g1
          case measure => omega
          case rel => exact ⟨u + 1, i, rfl, Lib.hid (by have := huk.out; omega), by omega, by omega, Lib.hid (by have := hi.out; rw [Int.add_mul]; omega), HO.out, hgr2⟩
    · have hun2 : u = n := by omega
      have hfin := HL.out j (by rw [hj.out, hun2])
      have hown : OwnPts wr w.heap.size u5 (lsF n) := by rw [hfin]; exact HO0.out
      clear hfin hun2
      go_wp2_with fail
      refine bodyPost_ret (v := .tuple #[u5, .int .i64 0]) (by simp only [results, Try.results17]; go_simp) rfl ⟨_, rfl, hown, hgr.out⟩
theorem refList_bad (n : Int) (h : ¬ (1 ≤ n ∧ n ≤ 120)) (w : World) : Calls Try.prog 17 #[.int .i64 n] w fun e w' => e = .returned (.tuple #[.slice none 0 0, .int .i64 2]) ∧ Grow w w' := by
  have LV := Lib.hid (fun u => err_any n u)
  rw [lvE_bad h] at LV
  go_enter Try.func17, Try.ntmps17
  go_wp2_with (go_at_call 35; (with_reducible refine (LV.out _).mono ?_); (rintro e wq ⟨rfl, rfl⟩))
  exact bodyPost_ret (v := .tuple #[.slice none 0 0, .int .i64 2]) (by simp only [results, Try.results17]; go_simp) rfl ⟨rfl, by (repeat (first | with_reducible exact Grow.refl _ | with_reducible refine Grow.alloc ?_ _ | with_reducible refine Grow.drew ?_ | with_reducible refine Grow.drewN ?_ _ | (with_reducible refine Grow.setCell ?_ ?hp _; (case hp => (simp; try omega))) | with_reducible refine Grow.trans ?_ (by assumption)))⟩
theorem refList_any (n : Int) (w : World) : Calls Try.prog 17 #[.int .i64 n] w fun e w' => ∃ v, e = .returned (.tuple #[v, .int .i64 (lsR n).2]) ∧ OwnPts w' w.heap.size v (lsR n).1 ∧ Grow w w' := by
  unfold lsR
  by_cases h : 1 ≤ n ∧ n ≤ 120
  · rw [lvE_ok h, if_neg (by simp)]
    exact refList_core n h.1 h.2 w
  · rw [lvE_bad h, if_pos (by simp)]
    refine (refList_bad n h w).mono fun e w' ⟨he, hg⟩ => ⟨_, he, World.ownsRow_nil _ _ _ _, hg⟩
end Go.Proofs.Ytcgiancmponmgaa
