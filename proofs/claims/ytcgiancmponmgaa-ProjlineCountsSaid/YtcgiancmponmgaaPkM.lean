/- Walks: Psi of the reference; power, the closures and Psi of the program. -/
import Derived.Test.YtcgiancmponmgaaPkL
import Derived.Test.YtcgiancmponmgaaPkE
namespace Go.Proofs.Ytcgiancmponmgaa
open Go Go.RowKit

theorem psL_step {n f p out : Nat} (h : p ≤ n) : psL n (f + 1) p out = psL n f (p + 1) (bif prL p 130 2 true && Nat.beq (n % p) 0 then out / p * (p + 1) else out) := by
  rw [psL]
  have : Nat.ble p n = true := by simpa using h
  rw [this]; rfl
theorem psL_end {n p out : Nat} (h : ¬ p ≤ n) : ∀ f, psL n f p out = out
  | 0 => rfl
  | f + 1 => by
    rw [psL]
    have : Nat.ble p n = false := by rw [← Bool.not_eq_true]; simpa using h
    rw [this]; rfl
theorem psOk_step {n f p out : Nat} (h : p ≤ n) (h' : psOk n (f + 1) p out = true) : out ≤ 1000 ∧ psOk n f (p + 1) (bif prL p 130 2 true && Nat.beq (n % p) 0 then out / p * (p + 1) else out) = true := by
  rw [psOk] at h'
  have : Nat.ble p n = true := by simpa using h
  rw [this] at h'
  simpa using h'
theorem prL_step {p f q : Nat} {b : Bool} (h : q < p) : prL p (f + 1) q b = prL p f (q + 1) (b && !(Nat.beq (p % q) 0)) := by
  rw [prL]
  have : Nat.blt q p = true := by simp [Nat.blt]; omega
  rw [this]; rfl
theorem prL_end {p q : Nat} {b : Bool} (h : ¬ q < p) : ∀ f, prL p f q b = b
  | 0 => rfl
  | f + 1 => by
    rw [prL]
    have : Nat.blt q p = false := by rw [← Bool.not_eq_true]; simp [Nat.blt]; omega
    rw [this]; rfl
theorem tmodN (a b : Nat) : (a : Int).tmod (b : Int) = ((a % b : Nat) : Int) := rfl
theorem tdivN (a b : Nat) : (a : Int).tdiv (b : Int) = ((a / b : Nat) : Int) := rfl
set_option maxRecDepth 20000 in
set_option maxHeartbeats 4000000 in
theorem refPsi_any (n : Nat) (h2 : n ≤ 120) (hok : psOk n 130 2 n = true) (w : World) :
    Calls Try.prog 24 #[.int .i64 (n : Int)] w fun e w' => e = .returned (.int .i64 (psL n 130 2 n : Nat)) ∧ Grow w w' := by
  obtain ⟨R, hR⟩ : ∃ R, psL n 130 2 n = R := ⟨_, rfl⟩
  rw [hR]
  have HR := Lib.hid hR
  have HOK := Lib.hid hok
  clear hR hok
  go_enter Try.func24, Try.ntmps24
  go_wp2_with fail
  go_loopg [3, 4] 130 (fun k t3 t4 wr => ∃ p out : Nat, t3 = .int .i64 (out : Int) ∧ t4 = .int .i64 (p : Int) ∧ 2 ≤ p ∧ Hid (p + k = 132) ∧ Hid (psOk n k p out = true) ∧ Hid (psL n k p out = R) ∧ Hid (Grow w wr))
  case atStart => exact ⟨2, n, rfl, rfl, by omega, Lib.hid (by omega), HOK, HR, Lib.hid (Grow.refl _)⟩
  case round =>
    clear HR HOK
    obtain ⟨p, out, rfl, rfl, hp2, hpk, hok, hx, hg⟩ := hrel
    by_cases hlt : p ≤ n
    · obtain ⟨g1, hgk⟩ : ∃ g1, gk = g1 + 1 := ⟨gk - 1, by have := hpk.out; omega⟩
      have hok2 := hok.out
      have hx2 := hx.out
      rw [hgk] at hok2 hx2
      obtain ⟨o1, hok3⟩ := psOk_step hlt hok2
      rw [psL_step hlt] at hx2
      have hltI : (p : Int) ≤ (n : Int) := by omega
      have yp : IntKind.i64.wrap ((p : Int) + 1) = (p : Int) + 1 := IntWalk.i64_in _ (by omega)
      obtain ⟨B, hB⟩ : ∃ B, prL p 130 2 true = B := ⟨_, rfl⟩
      have HB := Lib.hid hB
      rw [hB] at hok3 hx2
      have HX := Lib.hid hx2
      have HO := Lib.hid hok3
      have pne : ¬ (p : Int) = 0 := by omega
      have pne2 : ((p : Int) == 0) = false := by simpa using pne
      obtain ⟨w0, hw0⟩ : ∃ x, x = wr := ⟨wr, rfl⟩
      subst hw0
      clear hok hx hok2 hx2 hok3 hB
      go_wp2_with fail
      go_loopg [5, 6] 130 (fun k t5 t6 wr => ∃ (q : Nat) (b : Bool), t5 = .bool b ∧ t6 = .int .i64 (q : Int) ∧ 2 ≤ q ∧ Hid (q + k = 132) ∧ Hid (prL p k q b = B) ∧ Hid (Grow w wr))
      case atStart => exact ⟨2, true, rfl, rfl, by omega, Lib.hid (by omega), HB, hg⟩
      case round =>
        clear HB
        obtain ⟨q, b, rfl, rfl, hq2, hqk, hb, hg2⟩ := hrel
        by_cases hlt2 : q < p
        · obtain ⟨g2, hgk2⟩ : ∃ g2, gk = g2 + 1 := ⟨gk - 1, by have := hqk.out; omega⟩
          have hb2 := hb.out
          rw [hgk2, prL_step hlt2] at hb2
          have HB2 := Lib.hid hb2
          have hltI2 : (q : Int) < (p : Int) := by omega
          have yq : IntKind.i64.wrap ((q : Int) + 1) = (q : Int) + 1 := IntWalk.i64_in _ (by omega)
          have qne : ¬ (q : Int) = 0 := by omega
          have qne2 : ((q : Int) == 0) = false := by simpa using qne
          have t1 := tmodN p q
          have hrl : p % q < q := Nat.mod_lt _ (by omega)
          obtain ⟨r, hr⟩ : ∃ r, p % q = r := ⟨_, rfl⟩
          rw [hr] at t1 hrl HB2
          have yr : IntKind.i64.wrap (r : Int) = (r : Int) := IntWalk.i64_in _ (by omega)
          clear hb hb2 hr
          cases b
          · go_wp2_with fail
            go_roundg g2
            case measure => omega
            case rel => exact ⟨q + 1, false, rfl, by go_num, by omega, Lib.hid (by have := hqk.out; omega), Lib.hid (by have := HB2.out; simpa using this), hg2⟩
          · by_cases hr0 : r = 0
            · subst hr0
              go_wp2_with fail
              go_roundg g2
              case measure => omega
              case rel => exact ⟨q + 1, false, rfl, by go_num, by omega, Lib.hid (by have := hqk.out; omega), Lib.hid (by have := HB2.out; simpa using this), hg2⟩
            · have e1 : ((r : Int) != 0) = true := by simp; omega
              have e2 : Nat.beq r 0 = false := by rw [← Bool.not_eq_true]; simpa using hr0
              rw [e2] at HB2
              go_wp2_with fail
              go_roundg g2
              case measure => omega
              case rel => exact ⟨q + 1, true, rfl, by go_num, by omega, Lib.hid (by have := hqk.out; omega), Lib.hid (by have := HB2.out; simpa using this), hg2⟩
        · have hbB : b = B := by rw [← hb.out, prL_end hlt2]
          subst hbB
          clear hb
          have hltI2 : ¬ (q : Int) < (p : Int) := by omega
          have t1 := tmodN n p
          have hrl : n % p < p := Nat.mod_lt _ (by omega)
          obtain ⟨r, hr⟩ : ∃ r, n % p = r := ⟨_, rfl⟩
          rw [hr] at t1 hrl HX HO
          have yr : IntKind.i64.wrap (r : Int) = (r : Int) := IntWalk.i64_in _ (by omega)
          have t2 := tdivN out p
          have hdl : out / p ≤ out := Nat.div_le_self _ _
          obtain ⟨d, hd⟩ : ∃ d, out / p = d := ⟨_, rfl⟩
          rw [hd] at t2 hdl HX HO
          have yd : IntKind.i64.wrap (d : Int) = (d : Int) := IntWalk.i64_in _ (by omega)
          have hm : d * (p + 1) ≤ 1000 * 121 := Nat.mul_le_mul (by omega) (by omega)
          have ym0 : ((d : Int) * ((p : Int) + 1)) = ((d * (p + 1) : Nat) : Int) := by simp
          have ym : IntKind.i64.wrap ((d : Int) * ((p : Int) + 1)) = ((d * (p + 1) : Nat) : Int) := by rw [ym0]; exact IntWalk.i64_in _ (by omega)
          clear hr hd hm ym0
          cases b
          · go_wp2_with fail
            go_roundg g1
            case measure => omega
            case rel => exact ⟨p + 1, out, rfl, by go_num, by omega, Lib.hid (by have := hpk.out; omega), Lib.hid (by have := HO.out; simpa using this), Lib.hid (by have := HX.out; simpa using this), hg2⟩
          · by_cases hr0 : r = 0
            · subst hr0
              go_wp2_with fail
              go_roundg g1
              case measure => omega
              case rel => exact ⟨p + 1, d * (p + 1), rfl, by go_num, by omega, Lib.hid (by have := hpk.out; omega), Lib.hid (by have := HO.out; simpa using this), Lib.hid (by have := HX.out; simpa using this), hg2⟩
            · have e1 : ((r : Int) == 0) = false := by simp; omega
              have e2 : Nat.beq r 0 = false := by rw [← Bool.not_eq_true]; simpa using hr0
              rw [e2] at HX HO
              go_wp2_with fail
              go_roundg g1
              case measure => omega
              case rel => exact ⟨p + 1, out, rfl, by go_num, by omega, Lib.hid (by have := hpk.out; omega), Lib.hid (by have := HO.out; simpa using this), Lib.hid (by have := HX.out; simpa using this), hg2⟩
    · have hoR : out = R := by rw [← hx.out, psL_end hlt]
      subst hoR
      have hltI : ¬ (p : Int) ≤ (n : Int) := by omega
      clear hx hok
      go_wp2_with fail
      go_ret
      exact ⟨rfl, hg.out⟩
/-! The program. -/
theorem pwOk_step {p f o : Nat} (h : pwOk p (f + 1) o = true) : o ≤ 1000000 ∧ pwOk p f (o * p) = true := by
  rw [pwOk] at h
  simpa using h
set_option maxRecDepth 20000 in
set_option maxHeartbeats 2000000 in
theorem power_any (p e : Nat) (hp : p ≤ 1000) (he : e ≤ 1000) (hok : pwOk p e 1 = true) (w : World) :
    Calls Try.prog 53 #[.int .i64 (p : Int), .int .i64 (e : Int)] w fun x w' => x = .returned (.int .i64 (pwL p e 1 : Nat)) ∧ w = w' := by
  obtain ⟨R, hR⟩ : ∃ R, pwL p e 1 = R := ⟨_, rfl⟩
  rw [hR]
  have HR := Lib.hid hR
  have HOK := Lib.hid hok
  clear hR hok
  go_enter Try.func53, Try.ntmps53
  go_wp2_with fail
  go_loopg [5, 7] e (fun k t5 t7 wr => ∃ o i : Nat, t5 = .int .i64 (o : Int) ∧ t7 = .int .i64 (i : Int) ∧ i + k = e ∧ Hid (pwOk p k o = true) ∧ Hid (pwL p k o = R) ∧ wr = w)
  case atStart => exact ⟨1, 0, rfl, rfl, by omega, HOK, HR, rfl⟩
  case round =>
    clear HR HOK
    obtain ⟨o, i, rfl, rfl, hik, hok, hx, rfl⟩ := hrel
    cases gk with
    | zero =>
      have hi : i = e := by omega
      subst hi
      have hoR : o = R := hx.out
      subst hoR
      have hlt : ¬ (i : Int) < (i : Int) := by omega
      clear hx hok
      go_wp2_with fail
      go_ret
      exact ⟨rfl, rfl⟩
    | succ g1 =>
      obtain ⟨o1, o2⟩ := pwOk_step hok.out
      have hlt : (i : Int) < (e : Int) := by omega
      have yi : IntKind.i64.wrap ((i : Int) + 1) = (i : Int) + 1 := IntWalk.i64_in _ (by omega)
      have hm : o * p ≤ 1000000 * 1000 := Nat.mul_le_mul (by omega) (by omega)
      have ym0 : ((o : Int) * (p : Int)) = ((o * p : Nat) : Int) := by simp
      have ym : IntKind.i64.wrap ((o : Int) * (p : Int)) = ((o * p : Nat) : Int) := by rw [ym0]; exact IntWalk.i64_in _ (by omega)
      have HO2 := Lib.hid o2
      have HX2 := Lib.hid (show pwL p g1 (o * p) = R from hx.out)
      clear o2 hx hok hm ym0
      go_wp2_with fail
      go_roundg g1
      case measure => omega
      case rel => exact ⟨o * p, i + 1, rfl, by go_num, by omega, HO2, HX2, rfl⟩
end Go.Proofs.Ytcgiancmponmgaa
