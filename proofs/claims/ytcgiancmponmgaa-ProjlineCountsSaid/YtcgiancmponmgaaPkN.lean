/- Walks: the closures, factors, product, Psi and Count of the program. -/
import Derived.Test.YtcgiancmponmgaaPkM
import Derived.Deep.CutBlock
namespace Go.Proofs.Ytcgiancmponmgaa
open Go Go.RowKit

set_option maxHeartbeats 1000000 in
theorem psi1_any (p e : Nat) (hp : p ≤ 1000) (he1 : 1 ≤ e) (he : e ≤ 100) (hok : pwOk p (e - 1) 1 = true) (hb : pwL p (e - 1) 1 ≤ 1000000) (w : World) :
    Calls Try.prog 52 #[.int .i64 (p : Int), .int .i64 (e : Int)] w fun x w' => x = .returned (.int .i64 (ofN p e : Nat)) ∧ w = w' := by
  have PW := Lib.hid (fun u => power_any p (e - 1) hp (by omega) hok u)
  have y1 : IntKind.i64.wrap ((e : Int) - 1) = ((e - 1 : Nat) : Int) := by rw [show ((e : Int) - 1) = ((e - 1 : Nat) : Int) by omega]; exact IntWalk.i64_in _ (by omega)
  have y2 : wrap64 ((e : Int) - 1) = ((e - 1 : Nat) : Int) := by unfold wrap64; omega
  have y3 : IntKind.i64.wrap ((p : Int) + 1) = (p : Int) + 1 := IntWalk.i64_in _ (by omega)
  obtain ⟨k, hk⟩ : ∃ k, pwL p (e - 1) 1 = k := ⟨_, rfl⟩
  have hof : ofN p e = k * (p + 1) := by unfold ofN; rw [hk]
  rw [hk] at PW hb
  have hm : k * (p + 1) ≤ 1000000 * 1001 := Nat.mul_le_mul hb (by omega)
  have ym0 : ((k : Int) * ((p : Int) + 1)) = ((k * (p + 1) : Nat) : Int) := by simp
  have ym : IntKind.i64.wrap ((k : Int) * ((p : Int) + 1)) = ((k * (p + 1) : Nat) : Int) := by rw [ym0]; exact IntWalk.i64_in _ (by omega)
  rw [hof]
  clear hof hk hm ym0 hok
  go_enter Try.func52, Try.ntmps52
  go_wp2_with (go_at_call 53; (refine (PW.out _).mono ?_); (rintro x w1 ⟨rfl, rfl⟩))
  go_ret
  exact ⟨rfl, rfl⟩
/-- The two cells of product: the function and the product so far. -/
def PrM (w : World) (out : Nat) (u : World) : Prop :=
  u.cell? ⟨w.heap.size, 0, none⟩ = some (.func (.func 52) #[] #[]) ∧ u.cell? ⟨w.heap.size + 1, 0, none⟩ = some (.int .i64 (out : Int)) ∧ (∀ o, u.frozen? ⟨w.heap.size + 1, o, none⟩ = false) ∧ w.heap.size + 1 < u.heap.size ∧ Hid (Grow w u)
theorem PrM.drewN {w u : World} {out : Nat} (h : PrM w out u) (k : Nat) : PrM w out (u.drewN k) := ⟨h.1, h.2.1, h.2.2.1, h.2.2.2.1, Lib.hid (h.2.2.2.2.out.drewN k)⟩
theorem PrM.set {w u : World} {out : Nat} (h : PrM w out u) (o : Nat) : PrM w o (u.setCell ⟨w.heap.size + 1, 0, none⟩ (.int .i64 (o : Int))) := by
  obtain ⟨h1, h2, h3, h4, h5⟩ := h
  have hg := h5.out
  refine ⟨?_, ?_, ?_, ?_, Lib.hid (hg.setCell (p := ⟨w.heap.size + 1, 0, none⟩) (by simp) _)⟩
  · go_simp
  · go_simp
  · intro o; go_simp
  · simpa [World.setCell] using h4
set_option maxRecDepth 20000 in
set_option maxHeartbeats 2000000 in
theorem prod1_any (w0 : World) (p e out : Nat) (hp : p ≤ 1000) (he1 : 1 ≤ e) (he : e ≤ 100) (hok : pwOk p (e - 1) 1 = true) (hb : pwL p (e - 1) 1 ≤ 1000000) (ho : out ≤ 1000000) (hof : ofN p e ≤ 1000000) (w : World) (hM : PrM w0 out w) :
    Calls Try.prog 62 #[.int .i64 (p : Int), .int .i64 (e : Int), .pointer (some ⟨w0.heap.size + 1, 0, none⟩), .pointer (some ⟨w0.heap.size, 0, none⟩)] w fun x w' => x = .returned (.tuple #[]) ∧ PrM w0 (out * ofN p e) w' := by
  have PS := Lib.hid (fun u => psi1_any p e hp he1 he hok hb u)
  obtain ⟨k, hk⟩ : ∃ k, ofN p e = k := ⟨_, rfl⟩
  rw [hk] at PS hof ⊢
  have hm : out * k ≤ 1000000 * 1000000 := Nat.mul_le_mul ho hof
  have ym0 : ((out : Int) * (k : Int)) = ((out * k : Nat) : Int) := by simp
  have ym : IntKind.i64.wrap ((out : Int) * (k : Int)) = ((out * k : Nat) : Int) := by rw [ym0]; exact IntWalk.i64_in _ (by omega)
  have HM := Lib.hid hM
  obtain ⟨m1, m2, m3, m4, m5⟩ := hM
  have m6 : w0.heap.size < w.heap.size := by omega
  clear hk hm ym0 hok hb
  go_enter Try.func62, Try.ntmps62
  go_wp2_with fail
  go_region_with (go_at_call 52; (refine (PS.out _).mono ?_); (rintro x w1 ⟨rfl, rfl⟩))
  all_goals go_wp2_with fail
  all_goals first
    | (go_end0; exact ⟨rfl, by first | exact HM.out.set _ | exact (HM.out.drewN _).set _ | exact (HM.out.set _).drewN _⟩)
    | exact bodyPost_ret (results_none rfl _ _ _) rfl ⟨rfl, by first | exact HM.out.set _ | exact (HM.out.drewN _).set _ | exact (HM.out.set _).drewN _⟩
theorem fcOk_step {f n p out : Nat} (h : 1 < n) (h' : fcOk (f + 1) n p out = true) : 2 ≤ p ∧ p ≤ 1000 ∧ n ≤ 1000 ∧ out ≤ 1000000 ∧ 2 ≤ pN n p ∧ dvOk (pN n p) 10 n 0 = true ∧ (dvL (pN n p) 10 n 0).2 ≤ 100 ∧ pwOk (pN n p) ((dvL (pN n p) 10 n 0).2 - 1) 1 = true ∧ pwL (pN n p) ((dvL (pN n p) 10 n 0).2 - 1) 1 ≤ 1000000 ∧ ofN (pN n p) (dvL (pN n p) 10 n 0).2 ≤ 1000000 ∧
    fcOk f (dvL (pN n p) 10 n 0).1 (pN n p + 1) (bif Nat.blt 0 (dvL (pN n p) 10 n 0).2 then out * ofN (pN n p) (dvL (pN n p) 10 n 0).2 else out) = true := by
  rw [fcOk] at h'
  have : Nat.blt 1 n = true := by simp [Nat.blt]; omega
  rw [this] at h'
  simp only [cond_true, Bool.and_eq_true, Nat.ble_eq] at h'
  obtain ⟨⟨⟨⟨⟨⟨⟨⟨⟨⟨a, b⟩, c⟩, d⟩, e⟩, g⟩, i⟩, j⟩, k⟩, l⟩, m⟩ := h'
  exact ⟨a, b, c, d, e, g, i, j, k, l, m⟩
theorem fcL_step {f n p out : Nat} (h : 1 < n) : fcL (f + 1) n p out = fcL f (dvL (pN n p) 10 n 0).1 (pN n p + 1) (bif Nat.blt 0 (dvL (pN n p) 10 n 0).2 then out * ofN (pN n p) (dvL (pN n p) 10 n 0).2 else out) := by
  rw [fcL]
  have : Nat.blt 1 n = true := by simp [Nat.blt]; omega
  rw [this]; rfl
theorem fcL_end {n p out : Nat} (h : ¬ 1 < n) : ∀ f, fcL f n p out = out
  | 0 => rfl
  | f + 1 => by
    rw [fcL]
    have : Nat.blt 1 n = false := by rw [← Bool.not_eq_true]; simp [Nat.blt]; omega
    rw [this]; rfl
theorem fcOk_zero {n p out : Nat} (h : fcOk 0 n p out = true) : ¬ 1 < n := by
  intro hn
  have hb : Nat.blt 1 n = true := by simp [Nat.blt]; omega
  rw [fcOk, hb] at h
  cases h
theorem dvOk_step {p f n e : Nat} (h : n % p = 0) (h' : dvOk p f n e = true) : ∃ g, f = g + 1 ∧ n ≤ 1000 ∧ e ≤ 100 ∧ dvOk p g (n / p) (e + 1) = true ∧ dvL p f n e = dvL p g (n / p) (e + 1) := by
  have hb : Nat.beq (n % p) 0 = true := by simpa using h
  cases f with
  | zero => rw [dvOk, hb] at h'; cases h'
  | succ g =>
    rw [dvOk, hb] at h'
    simp only [cond_true, Bool.and_eq_true, Nat.ble_eq] at h'
    exact ⟨g, rfl, h'.1.1, h'.1.2, h'.2, by rw [dvL, hb]; rfl⟩
theorem dvL_end {p n e : Nat} (h : ¬ n % p = 0) : ∀ f, dvL p f n e = (n, e)
  | 0 => rfl
  | f + 1 => by
    have hb : Nat.beq (n % p) 0 = false := by rw [← Bool.not_eq_true]; simpa using h
    rw [dvL, hb]; rfl
set_option maxRecDepth 20000 in
set_option maxHeartbeats 4000000 in
theorem factors_any (w : World) (N : Nat) (hok : fcOk 30 N 2 1 = true) (w1 : World) (hM1 : PrM w 1 w1) :
    Calls Try.prog 61 #[.int .i64 (N : Int), .func (.func 62) #[] #[.pointer (some ⟨w.heap.size + 1, 0, none⟩), .pointer (some ⟨w.heap.size, 0, none⟩)]] w1 fun x w' => x = .returned (.tuple #[]) ∧ PrM w (fcL 30 N 2 1) w' := by
  obtain ⟨R, hR⟩ : ∃ R, fcL 30 N 2 1 = R := ⟨_, rfl⟩
  rw [hR]
  have HR := Lib.hid hR
  have HOK := Lib.hid hok
  have HM1 := Lib.hid hM1
  clear hR hok hM1
  go_enter Try.func61, Try.ntmps61
  go_wp2_with fail
  go_loopg [0, 4] 30 (fun k t0 t4 wr => ∃ n p out : Nat, t0 = .int .i64 (n : Int) ∧ t4 = .int .i64 (p : Int) ∧ Hid (fcOk k n p out = true) ∧ Hid (fcL k n p out = R) ∧ Hid (PrM w out wr))
  case atStart => exact ⟨N, 2, 1, rfl, rfl, HOK, HR, HM1⟩
  case round =>
    clear HR HOK HM1
    obtain ⟨n, p, out, rfl, rfl, hok, hx, hM⟩ := hrel
    by_cases hlt : 1 < n
    · obtain ⟨g1, hgk⟩ : ∃ g1, gk = g1 + 1 := by
        cases gk with
        | zero => exact absurd hlt (fcOk_zero hok.out)
        | succ g => exact ⟨g, rfl⟩
      have hok2 := hok.out
      have hx2 := hx.out
      rw [hgk] at hok2 hx2
      obtain ⟨f1, f2, f3, f4, f5, f6, f7, f8, f9, f10, f11⟩ := fcOk_step hlt hok2
      rw [fcL_step hlt] at hx2
      have hltI : (1 : Int) < (n : Int) := by omega
      have hpp : p * p ≤ 1000 * 1000 := Nat.mul_le_mul f2 f2
      have ypp0 : (p : Int) * (p : Int) = ((p * p : Nat) : Int) := by simp
      have ypp : IntKind.i64.wrap ((p : Int) * (p : Int)) = ((p * p : Nat) : Int) := by rw [ypp0]; exact IntWalk.i64_in _ (by omega)
      obtain ⟨S, hS⟩ : ∃ S, p * p = S := ⟨_, rfl⟩
      rw [hS] at ypp
      by_cases hbig : n < S
      · have hP : pN n p = n := by
          unfold pN
          rw [hS]
          have : Nat.blt n S = true := by simp [Nat.blt]; omega
          rw [this]; rfl
        have hbI : (n : Int) < (S : Int) := by omega
        rw [hP] at f5 f6 f7 f8 f9 f10 f11 hx2
        obtain ⟨M, E, hME⟩ : ∃ M E, dvL n 10 n 0 = (M, E) := ⟨_, _, rfl⟩
        rw [hME] at f7 f8 f9 f10 f11 hx2
        have DV := Lib.hid hME
        have DO := Lib.hid f6
        have FO := Lib.hid f11
        have FX := Lib.hid hx2
        have F8 := Lib.hid f8
        have F9 := Lib.hid f9
        have F10 := Lib.hid f10
        have pne : ¬ (n : Int) = 0 := by omega
        have pne2 : ((n : Int) == 0) = false := by simpa using pne
        simp only at f7 FO FX F8 F9 F10
        clear hok hx hok2 hx2 hME f6 f8 f9 f10 f11 hpp ypp0 hS hP
        have f8 := F8
        have f9 := F9
        have f10 := F10
        have hM0 := hM.out
        clear F8 F9 F10
        obtain ⟨wr0, hw0⟩ : ∃ x, x = wr := ⟨wr, rfl⟩
        subst hw0
        go_wp2_with fail
        go_loopg [0, 5] 10 (fun k t0 t5 wr => ∃ m e : Nat, t0 = .int .i64 (m : Int) ∧ t5 = .int .i64 (e : Int) ∧ m ≤ 1000 ∧ Hid (dvOk n k m e = true) ∧ Hid (dvL n k m e = (M, E)) ∧ Hid (PrM w out wr))
        case atStart => exact ⟨n, 0, rfl, rfl, by omega, DO, DV, hM⟩
        case round =>
          clear DO DV hM
          obtain ⟨m, e, rfl, rfl, hm1, hdo, hdv, hM⟩ := hrel
          have t1 := tmodN m n
          have hrl : m % n < n := Nat.mod_lt _ (by omega)
          obtain ⟨r, hr⟩ : ∃ r, m % n = r := ⟨_, rfl⟩
          rw [hr] at t1 hrl
          have yr : IntKind.i64.wrap (r : Int) = (r : Int) := IntWalk.i64_in _ (by omega)
          by_cases hr0 : r = 0
          · subst hr0
            obtain ⟨g2, hgk2, d1, d2, d3, d4⟩ := dvOk_step hr hdo.out
            have hdv2 := hdv.out
            rw [d4] at hdv2
            have HD3 := Lib.hid d3
            have HV := Lib.hid hdv2
            have t2 := tdivN m n
            have hdl : m / n ≤ m := Nat.div_le_self _ _
            obtain ⟨q, hq⟩ : ∃ q, m / n = q := ⟨_, rfl⟩
            rw [hq] at t2 hdl HD3 HV
            have yq : IntKind.i64.wrap (q : Int) = (q : Int) := IntWalk.i64_in _ (by omega)
            have ye : IntKind.i64.wrap ((e : Int) + 1) = (e : Int) + 1 := IntWalk.i64_in _ (by omega)
            clear hdo hdv hdv2 d3 d4 hr hq
            go_wp2_with fail
            go_roundg g2
            case measure => omega
            case rel => exact ⟨q, e + 1, rfl, by go_num, by omega, HD3, HV, hM⟩
          · have e1 : ((r : Int) == 0) = false := by simp; omega
            have hdv2 := hdv.out
            rw [dvL_end (by rw [hr]; exact hr0)] at hdv2
            obtain ⟨hmM, heE⟩ := Prod.mk.inj hdv2
            subst hmM
            subst heE
            clear hdv hdv2 hdo hr
            by_cases he0 : e = 0
            · subst he0
              have hn0 : ¬ (0 : Int) < ((0 : Nat) : Int) := by simp
              go_wp2_with fail
              go_roundg g1
              case measure => omega
              case rel => exact ⟨m, n + 1, out, rfl, by go_num, Lib.hid FO.out, Lib.hid FX.out, hM⟩
            · have hn0 : (0 : Int) < (e : Int) := by omega
              have hbl : Nat.blt 0 e = true := by simp [Nat.blt]; omega
              rw [hbl] at FO FX
              have PD := Lib.hid (fun u hu => prod1_any w n e out (by omega) (by omega) f7 f8.out f9.out f4 f10.out u hu)
              go_wp2_with fail
              go_at_call 62
              refine (PD.out _ hM.out).mono ?_
              rintro x w3 ⟨rfl, hM3⟩
              have HM3 := Lib.hid hM3
              clear hM3
              go_wp2_with fail
              go_roundg g1
              case measure => omega
              case rel => exact ⟨m, n + 1, out * ofN n e, rfl, by go_num, FO, FX, HM3⟩
      · have hP : pN n p = p := by
          unfold pN
          rw [hS]
          have : Nat.blt n S = false := by rw [← Bool.not_eq_true]; simp [Nat.blt]; omega
          rw [this]; rfl
        have hbI : ¬ (n : Int) < (S : Int) := by omega
        rw [hP] at f5 f6 f7 f8 f9 f10 f11 hx2
        obtain ⟨M, E, hME⟩ : ∃ M E, dvL p 10 n 0 = (M, E) := ⟨_, _, rfl⟩
        rw [hME] at f7 f8 f9 f10 f11 hx2
        have DV := Lib.hid hME
        have DO := Lib.hid f6
        have FO := Lib.hid f11
        have FX := Lib.hid hx2
        have F8 := Lib.hid f8
        have F9 := Lib.hid f9
        have F10 := Lib.hid f10
        have pne : ¬ (p : Int) = 0 := by omega
        have pne2 : ((p : Int) == 0) = false := by simpa using pne
        simp only at f7 FO FX F8 F9 F10
        clear hok hx hok2 hx2 hME f6 f8 f9 f10 f11 hpp ypp0 hS hP
        have f8 := F8
        have f9 := F9
        have f10 := F10
        have hM0 := hM.out
        clear F8 F9 F10
        obtain ⟨wr0, hw0⟩ : ∃ x, x = wr := ⟨wr, rfl⟩
        subst hw0
        go_wp2_with fail
        go_loopg [0, 5] 10 (fun k t0 t5 wr => ∃ m e : Nat, t0 = .int .i64 (m : Int) ∧ t5 = .int .i64 (e : Int) ∧ m ≤ 1000 ∧ Hid (dvOk p k m e = true) ∧ Hid (dvL p k m e = (M, E)) ∧ Hid (PrM w out wr))
        case atStart => exact ⟨n, 0, rfl, rfl, by omega, DO, DV, hM⟩
        case round =>
          clear DO DV hM
          obtain ⟨m, e, rfl, rfl, hm1, hdo, hdv, hM⟩ := hrel
          have t1 := tmodN m p
          have hrl : m % p < p := Nat.mod_lt _ (by omega)
          obtain ⟨r, hr⟩ : ∃ r, m % p = r := ⟨_, rfl⟩
          rw [hr] at t1 hrl
          have yr : IntKind.i64.wrap (r : Int) = (r : Int) := IntWalk.i64_in _ (by omega)
          by_cases hr0 : r = 0
          · subst hr0
            obtain ⟨g2, hgk2, d1, d2, d3, d4⟩ := dvOk_step hr hdo.out
            have hdv2 := hdv.out
            rw [d4] at hdv2
            have HD3 := Lib.hid d3
            have HV := Lib.hid hdv2
            have t2 := tdivN m p
            have hdl : m / p ≤ m := Nat.div_le_self _ _
            obtain ⟨q, hq⟩ : ∃ q, m / p = q := ⟨_, rfl⟩
            rw [hq] at t2 hdl HD3 HV
            have yq : IntKind.i64.wrap (q : Int) = (q : Int) := IntWalk.i64_in _ (by omega)
            have ye : IntKind.i64.wrap ((e : Int) + 1) = (e : Int) + 1 := IntWalk.i64_in _ (by omega)
            clear hdo hdv hdv2 d3 d4 hr hq
            go_wp2_with fail
            go_roundg g2
            case measure => omega
            case rel => exact ⟨q, e + 1, rfl, by go_num, by omega, HD3, HV, hM⟩
          · have e1 : ((r : Int) == 0) = false := by simp; omega
            have hdv2 := hdv.out
            rw [dvL_end (by rw [hr]; exact hr0)] at hdv2
            obtain ⟨hmM, heE⟩ := Prod.mk.inj hdv2
            subst hmM
            subst heE
            clear hdv hdv2 hdo hr
            by_cases he0 : e = 0
            · subst he0
              have hn0 : ¬ (0 : Int) < ((0 : Nat) : Int) := by simp
              go_wp2_with fail
              go_roundg g1
              case measure => omega
              case rel => exact ⟨m, p + 1, out, rfl, by go_num, Lib.hid FO.out, Lib.hid FX.out, hM⟩
            · have hn0 : (0 : Int) < (e : Int) := by omega
              have hbl : Nat.blt 0 e = true := by simp [Nat.blt]; omega
              rw [hbl] at FO FX
              have PD := Lib.hid (fun u hu => prod1_any w p e out (by omega) (by omega) f7 f8.out f9.out f4 f10.out u hu)
              go_wp2_with fail
              go_at_call 62
              refine (PD.out _ hM.out).mono ?_
              rintro x w3 ⟨rfl, hM3⟩
              have HM3 := Lib.hid hM3
              clear hM3
              go_wp2_with fail
              go_roundg g1
              case measure => omega
              case rel => exact ⟨m, p + 1, out * ofN p e, rfl, by go_num, FO, FX, HM3⟩
    · have hoR : out = R := by rw [← hx.out, fcL_end hlt]
      subst hoR
      have hltI : ¬ (1 : Int) < (n : Int) := by omega
      clear hx hok
      go_wp2_with fail
      first
        | (go_end0; exact ⟨rfl, hM.out⟩)
        | exact bodyPost_ret (results_none rfl _ _ _) rfl ⟨rfl, hM.out⟩
set_option maxRecDepth 20000 in
set_option maxHeartbeats 2000000 in
theorem psi_any (n : Nat) (h1 : 1 ≤ n) (h2 : n ≤ 120) (hok : fcOk 30 n 2 1 = true) (w : World) :
    Calls Try.prog 43 #[.int .i64 (n : Int)] w fun e w' => e = .returned (.tuple #[.int .i64 (fcL 30 n 2 1 : Nat), .int .i64 0]) ∧ Grow w w' := by
  have hprod : ∀ w : World, Calls Try.prog 51 #[.int .i64 (n : Int), .func (.func 52) #[] #[]] w fun e w' => e = .returned (.tuple #[.int .i64 (fcL 30 n 2 1 : Nat), .int .i64 0]) ∧ Grow w w' := by
    intro w
    have hmf : ∀ (fn : Fn) (first cap : Array Value) (w : World), (Instr.makeFunc fn first cap).run Try.prog w = .ok (.func fn first cap) w := fun _ _ _ _ => rfl
    have IR := Lib.hid (fun u => inRange_any (n : Int) (by omega) (by omega) u)
    have FC := Lib.hid (fun u hu => factors_any w n hok u hu)
    obtain ⟨R, hR⟩ : ∃ R, fcL 30 n 2 1 = R := ⟨_, rfl⟩
    rw [hR] at FC ⊢
    clear hR hok
    go_enter Try.func51, Try.ntmps51
    go_wp2_with (go_at_call 55; (refine (IR.out _).mono ?_); (rintro e w1 ⟨rfl, rfl⟩))
    go_at_call 61
    refine (FC.out _ ?_).mono ?_
    · refine ⟨?_, ?_, ?_, ?_, Lib.hid (by (repeat (first | with_reducible exact Grow.refl _ | with_reducible refine Grow.alloc ?_ _ | with_reducible refine Grow.drew ?_ | with_reducible refine Grow.drewN ?_ _ | (with_reducible refine Grow.setCell ?_ ?hp _; (case hp => (simp; try omega))) | with_reducible refine Grow.trans ?_ (by assumption))))⟩
      all_goals first | (go_simp; done) | (intro o; go_simp; done) | simp
    · rintro e w2 ⟨rfl, hM⟩
      obtain ⟨m1, m2, m3, m4, m5⟩ := hM
      go_wp2_with fail
      refine bodyPost_ret (v := .tuple #[.int .i64 (R : Nat), .int .i64 0]) (by simp only [results, Try.results51]; go_simp) rfl ⟨rfl, m5.out⟩
  have HP := Lib.hid hprod
  clear hprod hok
  go_enter Try.func43, Try.ntmps43
  go_wp2_with (go_at_call 51; (refine (HP.out _).mono ?_); (rintro e w1 ⟨rfl, hb1⟩))
  refine bodyPost_ret (v := .tuple #[.int .i64 (fcL 30 n 2 1 : Nat), .int .i64 0]) (by simp only [results, Try.results43]; go_simp) rfl ⟨rfl, hb1⟩
theorem count_any (n : Nat) (h1 : 1 ≤ n) (h2 : n ≤ 120) (hok : fcOk 30 n 2 1 = true) (w : World) :
    Calls Try.prog 23 #[.int .i64 (n : Int)] w fun e w' => e = .returned (.tuple #[.int .i64 (fcL 30 n 2 1 : Nat), .int .i64 0]) ∧ Grow w w' := by
  have LV := Lib.hid (fun u => level_any (n : Int) u)
  rw [lvE_ok ⟨by omega, by omega⟩] at LV
  have PS := Lib.hid (fun u => psi_any n h1 h2 hok u)
  clear hok
  go_enter Try.func23, Try.ntmps23
  go_wp2_with (first | (go_at_call 30; (refine (LV.out _).mono ?_); (rintro e wq ⟨rfl, rfl⟩)) | (go_at_call 43; (refine (PS.out _).mono ?_); (rintro e w1 ⟨rfl, hb1⟩)))
  refine bodyPost_ret (v := .tuple #[.int .i64 (fcL 30 n 2 1 : Nat), .int .i64 0]) (by simp only [results, Try.results23]; go_simp) rfl ⟨rfl, hb1⟩
theorem count_bad (n : Int) (h : ¬ (1 ≤ n ∧ n ≤ 120)) (w : World) :
    Calls Try.prog 23 #[.int .i64 n] w fun e w' => e = .returned (.tuple #[.int .i64 0, .int .i64 2]) ∧ Grow w w' := by
  have LV := Lib.hid (fun u => level_any n u)
  rw [lvE_bad h] at LV
  go_enter Try.func23, Try.ntmps23
  go_wp2_with (go_at_call 30; (refine (LV.out _).mono ?_); (rintro e wq ⟨rfl, rfl⟩))
  exact bodyPost_ret (v := .tuple #[.int .i64 0, .int .i64 2]) (by simp only [results, Try.results23]; go_simp) rfl ⟨rfl, by (repeat (first | with_reducible exact Grow.refl _ | with_reducible refine Grow.alloc ?_ _ | with_reducible refine Grow.drew ?_ | with_reducible refine Grow.drewN ?_ _ | (with_reducible refine Grow.setCell ?_ ?hp _; (case hp => (simp; try omega))) | with_reducible refine Grow.trans ?_ (by assumption)))⟩
end Go.Proofs.Ytcgiancmponmgaa
