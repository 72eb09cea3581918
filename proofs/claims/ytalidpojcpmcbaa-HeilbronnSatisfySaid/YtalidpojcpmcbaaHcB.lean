/- Walks: far; the errors of Merel and of Cremona, the program's and the reference's. -/
import Derived.Test.YtalidpojcpmcbaaHcA
import Derived.Test.YtalidpojcpmcbaaHbB
import Derived.Test.YtalidpojcpmcbaaHbE
import Derived.Test.YtalidpojcpmcbaaHcT
namespace Go.Proofs.Ytalidpojcpmcbaa
open Go Go.RowKit

theorem far_any (n : Int) (w : World) : Calls Try.prog 12 #[.int .i64 n] w fun e w' => e = .returned (.bool (decide (24 < n ∧ n ≤ 128))) ∧ Grow w w' := by
  by_cases h1 : 24 < n
  · by_cases h2 : n ≤ 128
    · have e : decide (24 < n ∧ n ≤ 128) = true := by simp [h1, h2]
      rw [e]
      go_enter Try.func12, Try.ntmps12
      go_wp2_with fail
      go_ret
      exact ⟨rfl, by (repeat (first | with_reducible exact Grow.refl _ | with_reducible refine Grow.alloc ?_ _ | with_reducible refine Grow.drew ?_ | with_reducible refine Grow.drewN ?_ _ | (with_reducible refine Grow.setCell ?_ ?hp _; (case hp => (simp; try omega))) | with_reducible refine Grow.trans ?_ (by assumption)))⟩
    · have e : decide (24 < n ∧ n ≤ 128) = false := by simp [h1]; omega
      rw [e]
      go_enter Try.func12, Try.ntmps12
      go_wp2_with fail
      go_ret
      exact ⟨rfl, by (repeat (first | with_reducible exact Grow.refl _ | with_reducible refine Grow.alloc ?_ _ | with_reducible refine Grow.drew ?_ | with_reducible refine Grow.drewN ?_ _ | (with_reducible refine Grow.setCell ?_ ?hp _; (case hp => (simp; try omega))) | with_reducible refine Grow.trans ?_ (by assumption)))⟩
  · have e : decide (24 < n ∧ n ≤ 128) = false := by simp; omega
    rw [e]
    go_enter Try.func12, Try.ntmps12
    go_wp2_with fail
    go_ret
    exact ⟨rfl, by (repeat (first | with_reducible exact Grow.refl _ | with_reducible refine Grow.alloc ?_ _ | with_reducible refine Grow.drew ?_ | with_reducible refine Grow.drewN ?_ _ | (with_reducible refine Grow.setCell ?_ ?hp _; (case hp => (simp; try omega))) | with_reducible refine Grow.trans ?_ (by assumption)))⟩
theorem merel_err (n : Int) (h : n < 1 ∨ 128 < n) (w : World) :
    Calls Try.prog 13 #[.int .i64 n] w fun e w' => e = .returned (.tuple #[.slice none 0 0, .int .i64 2]) ∧ Grow w w' := by
  by_cases h1 : n < 1
  · go_enter Try.func13, Try.ntmps13
    go_wp2_with fail
    exact bodyPost_ret (v := .tuple #[.slice none 0 0, .int .i64 2]) (by simp only [results, Try.results13]; go_simp) rfl ⟨rfl, by (repeat (first | with_reducible exact Grow.refl _ | with_reducible refine Grow.alloc ?_ _ | with_reducible refine Grow.drew ?_ | with_reducible refine Grow.drewN ?_ _ | (with_reducible refine Grow.setCell ?_ ?hp _; (case hp => (simp; try omega))) | with_reducible refine Grow.trans ?_ (by assumption)))⟩
  · have h2 : 128 < n := by omega
    go_enter Try.func13, Try.ntmps13
    go_wp2_with fail
    exact bodyPost_ret (v := .tuple #[.slice none 0 0, .int .i64 2]) (by simp only [results, Try.results13]; go_simp) rfl ⟨rfl, by (repeat (first | with_reducible exact Grow.refl _ | with_reducible refine Grow.alloc ?_ _ | with_reducible refine Grow.drew ?_ | with_reducible refine Grow.drewN ?_ _ | (with_reducible refine Grow.setCell ?_ ?hp _; (case hp => (simp; try omega))) | with_reducible refine Grow.trans ?_ (by assumption)))⟩
theorem refMerel_err (n : Int) (h : n < 1 ∨ 128 < n) (w : World) :
    Calls Try.prog 14 #[.int .i64 n] w fun e w' => e = .returned (.tuple #[.slice none 0 0, .int .i64 2]) ∧ Grow w w' := by
  by_cases h1 : n < 1
  · go_enter Try.func14, Try.ntmps14
    go_wp2_with fail
    exact bodyPost_ret (v := .tuple #[.slice none 0 0, .int .i64 2]) (by simp only [results, Try.results14]; go_simp) rfl ⟨rfl, by (repeat (first | with_reducible exact Grow.refl _ | with_reducible refine Grow.alloc ?_ _ | with_reducible refine Grow.drew ?_ | with_reducible refine Grow.drewN ?_ _ | (with_reducible refine Grow.setCell ?_ ?hp _; (case hp => (simp; try omega))) | with_reducible refine Grow.trans ?_ (by assumption)))⟩
  · have h2 : 128 < n := by omega
    go_enter Try.func14, Try.ntmps14
    go_wp2_with fail
    exact bodyPost_ret (v := .tuple #[.slice none 0 0, .int .i64 2]) (by simp only [results, Try.results14]; go_simp) rfl ⟨rfl, by (repeat (first | with_reducible exact Grow.refl _ | with_reducible refine Grow.alloc ?_ _ | with_reducible refine Grow.drew ?_ | with_reducible refine Grow.drewN ?_ _ | (with_reducible refine Grow.setCell ?_ ?hp _; (case hp => (simp; try omega))) | with_reducible refine Grow.trans ?_ (by assumption)))⟩
theorem cremona_range (n : Int) (h : n < 1 ∨ 128 < n) (w : World) :
    Calls Try.prog 16 #[.int .i64 n] w fun e w' => e = .returned (.tuple #[.slice none 0 0, .int .i64 2]) ∧ Grow w w' := by
  by_cases h1 : n < 1
  · go_enter Try.func16, Try.ntmps16
    go_wp2_with fail
    exact bodyPost_ret (v := .tuple #[.slice none 0 0, .int .i64 2]) (by simp only [results, Try.results16]; go_simp) rfl ⟨rfl, by (repeat (first | with_reducible exact Grow.refl _ | with_reducible refine Grow.alloc ?_ _ | with_reducible refine Grow.drew ?_ | with_reducible refine Grow.drewN ?_ _ | (with_reducible refine Grow.setCell ?_ ?hp _; (case hp => (simp; try omega))) | with_reducible refine Grow.trans ?_ (by assumption)))⟩
  · have h2 : 128 < n := by omega
    go_enter Try.func16, Try.ntmps16
    go_wp2_with fail
    exact bodyPost_ret (v := .tuple #[.slice none 0 0, .int .i64 2]) (by simp only [results, Try.results16]; go_simp) rfl ⟨rfl, by (repeat (first | with_reducible exact Grow.refl _ | with_reducible refine Grow.alloc ?_ _ | with_reducible refine Grow.drew ?_ | with_reducible refine Grow.drewN ?_ _ | (with_reducible refine Grow.setCell ?_ ?hp _; (case hp => (simp; try omega))) | with_reducible refine Grow.trans ?_ (by assumption)))⟩
theorem refCremona_range (n : Int) (h : n < 1 ∨ 128 < n) (w : World) :
    Calls Try.prog 17 #[.int .i64 n] w fun e w' => e = .returned (.tuple #[.slice none 0 0, .int .i64 2]) ∧ Grow w w' := by
  by_cases h1 : n < 1
  · go_enter Try.func17, Try.ntmps17
    go_wp2_with fail
    exact bodyPost_ret (v := .tuple #[.slice none 0 0, .int .i64 2]) (by simp only [results, Try.results17]; go_simp) rfl ⟨rfl, by (repeat (first | with_reducible exact Grow.refl _ | with_reducible refine Grow.alloc ?_ _ | with_reducible refine Grow.drew ?_ | with_reducible refine Grow.drewN ?_ _ | (with_reducible refine Grow.setCell ?_ ?hp _; (case hp => (simp; try omega))) | with_reducible refine Grow.trans ?_ (by assumption)))⟩
  · have h2 : 128 < n := by omega
    go_enter Try.func17, Try.ntmps17
    go_wp2_with fail
    exact bodyPost_ret (v := .tuple #[.slice none 0 0, .int .i64 2]) (by simp only [results, Try.results17]; go_simp) rfl ⟨rfl, by (repeat (first | with_reducible exact Grow.refl _ | with_reducible refine Grow.alloc ?_ _ | with_reducible refine Grow.drew ?_ | with_reducible refine Grow.drewN ?_ _ | (with_reducible refine Grow.setCell ?_ ?hp _; (case hp => (simp; try omega))) | with_reducible refine Grow.trans ?_ (by assumption)))⟩
theorem cremona_prime (p : Int) (h1 : 1 ≤ p) (h2 : p ≤ 128) (h : prF p = false ∨ p = 2) (w : World) :
    Calls Try.prog 16 #[.int .i64 p] w fun e w' => e = .returned (.tuple #[.slice none 0 0, .int .i64 8]) ∧ Grow w w' := by
  have IP := Lib.hid (fun w => isPrime_any p h1 h2 w)
  obtain ⟨b, hb⟩ : ∃ b, prF p = b := ⟨_, rfl⟩
  rw [hb] at IP h
  clear hb
  cases b with
  | true =>
    have hp : p = 2 := by rcases h with h | h; exact absurd h (by decide); exact h
    subst hp
    clear h h1 h2
    go_enter Try.func16, Try.ntmps16
    go_wp2_with (go_at_call 23; with_reducible refine (IP.out _).mono ?_; rintro e w1 ⟨rfl, hb1⟩)
    exact bodyPost_ret (v := .tuple #[.slice none 0 0, .int .i64 8]) (by simp only [results, Try.results16]; go_simp) rfl ⟨rfl, by (repeat (first | with_reducible exact Grow.refl _ | with_reducible refine Grow.alloc ?_ _ | with_reducible refine Grow.drew ?_ | with_reducible refine Grow.drewN ?_ _ | (with_reducible refine Grow.setCell ?_ ?hp _; (case hp => (simp; try omega))) | with_reducible refine Grow.trans ?_ (by assumption)))⟩
  | false =>
    clear h
    go_enter Try.func16, Try.ntmps16
    go_wp2_with (go_at_call 23; with_reducible refine (IP.out _).mono ?_; rintro e w1 ⟨rfl, hb1⟩)
    exact bodyPost_ret (v := .tuple #[.slice none 0 0, .int .i64 8]) (by simp only [results, Try.results16]; go_simp) rfl ⟨rfl, by (repeat (first | with_reducible exact Grow.refl _ | with_reducible refine Grow.alloc ?_ _ | with_reducible refine Grow.drew ?_ | with_reducible refine Grow.drewN ?_ _ | (with_reducible refine Grow.setCell ?_ ?hp _; (case hp => (simp; try omega))) | with_reducible refine Grow.trans ?_ (by assumption)))⟩
theorem refCremona_prime (p : Int) (h1 : 1 ≤ p) (h2 : p ≤ 128) (h : prR 140 p 2 = false ∨ p = 2) (w : World) :
    Calls Try.prog 17 #[.int .i64 p] w fun e w' => e = .returned (.tuple #[.slice none 0 0, .int .i64 8]) ∧ Grow w w' := by
  have IP := Lib.hid (fun w => refPrime_any p h1 h2 w)
  obtain ⟨b, hb⟩ : ∃ b, prR 140 p 2 = b := ⟨_, rfl⟩
  rw [hb] at IP h
  clear hb
  cases b with
  | true =>
    have hp : p = 2 := by rcases h with h | h; exact absurd h (by decide); exact h
    subst hp
    clear h h1 h2
    go_enter Try.func17, Try.ntmps17
    go_wp2_with (go_at_call 26; with_reducible refine (IP.out _).mono ?_; rintro e w1 ⟨rfl, hb1⟩)
    exact bodyPost_ret (v := .tuple #[.slice none 0 0, .int .i64 8]) (by simp only [results, Try.results17]; go_simp) rfl ⟨rfl, by (repeat (first | with_reducible exact Grow.refl _ | with_reducible refine Grow.alloc ?_ _ | with_reducible refine Grow.drew ?_ | with_reducible refine Grow.drewN ?_ _ | (with_reducible refine Grow.setCell ?_ ?hp _; (case hp => (simp; try omega))) | with_reducible refine Grow.trans ?_ (by assumption)))⟩
  | false =>
    clear h
    go_enter Try.func17, Try.ntmps17
    go_wp2_with (go_at_call 26; with_reducible refine (IP.out _).mono ?_; rintro e w1 ⟨rfl, hb1⟩)
    exact bodyPost_ret (v := .tuple #[.slice none 0 0, .int .i64 8]) (by simp only [results, Try.results17]; go_simp) rfl ⟨rfl, by (repeat (first | with_reducible exact Grow.refl _ | with_reducible refine Grow.alloc ?_ _ | with_reducible refine Grow.drew ?_ | with_reducible refine Grow.drewN ?_ _ | (with_reducible refine Grow.setCell ?_ ?hp _; (case hp => (simp; try omega))) | with_reducible refine Grow.trans ?_ (by assumption)))⟩
end Go.Proofs.Ytalidpojcpmcbaa
