/- Walks: the errors of Chains; the program's and the reference's. -/
import Derived.Test.YtalidpojcpmcbaaHcI
import Derived.Test.YtalidpojcpmcbaaHcB
namespace Go.Proofs.Ytalidpojcpmcbaa
open Go Go.RowKit

theorem chains_err (n : Int) (h : n < 1 ∨ 128 < n) (a : Option Addr) (len cap : Nat) (w : World) :
    Calls Try.prog 20 #[.int .i64 n, .slice a len cap] w fun e w' => e = .returned (.tuple #[.slice none 0 0, .int .i64 2]) ∧ Grow w w' := by
  by_cases h1 : n < 1
  · go_enter Try.func20, Try.ntmps20
    go_wp2_with fail
    exact bodyPost_ret (v := .tuple #[.slice none 0 0, .int .i64 2]) (by simp only [results, Try.results20]; go_simp) rfl ⟨rfl, by (repeat (first | with_reducible exact Grow.refl _ | with_reducible refine Grow.alloc ?_ _ | with_reducible refine Grow.drew ?_ | with_reducible refine Grow.drewN ?_ _ | (with_reducible refine Grow.setCell ?_ ?hp _; (case hp => (simp; try omega))) | with_reducible refine Grow.trans ?_ (by assumption)))⟩
  · have h2 : 128 < n := by omega
    go_enter Try.func20, Try.ntmps20
    go_wp2_with fail
    exact bodyPost_ret (v := .tuple #[.slice none 0 0, .int .i64 2]) (by simp only [results, Try.results20]; go_simp) rfl ⟨rfl, by (repeat (first | with_reducible exact Grow.refl _ | with_reducible refine Grow.alloc ?_ _ | with_reducible refine Grow.drew ?_ | with_reducible refine Grow.drewN ?_ _ | (with_reducible refine Grow.setCell ?_ ?hp _; (case hp => (simp; try omega))) | with_reducible refine Grow.trans ?_ (by assumption)))⟩
theorem refChains_err (n : Int) (h : n < 1 ∨ 128 < n) (a : Option Addr) (len cap : Nat) (w : World) :
    Calls Try.prog 21 #[.int .i64 n, .slice a len cap] w fun e w' => e = .returned (.tuple #[.slice none 0 0, .int .i64 2]) ∧ Grow w w' := by
  by_cases h1 : n < 1
  · go_enter Try.func21, Try.ntmps21
    go_wp2_with fail
    exact bodyPost_ret (v := .tuple #[.slice none 0 0, .int .i64 2]) (by simp only [results, Try.results21]; go_simp) rfl ⟨rfl, by (repeat (first | with_reducible exact Grow.refl _ | with_reducible refine Grow.alloc ?_ _ | with_reducible refine Grow.drew ?_ | with_reducible refine Grow.drewN ?_ _ | (with_reducible refine Grow.setCell ?_ ?hp _; (case hp => (simp; try omega))) | with_reducible refine Grow.trans ?_ (by assumption)))⟩
  · have h2 : 128 < n := by omega
    go_enter Try.func21, Try.ntmps21
    go_wp2_with fail
    exact bodyPost_ret (v := .tuple #[.slice none 0 0, .int .i64 2]) (by simp only [results, Try.results21]; go_simp) rfl ⟨rfl, by (repeat (first | with_reducible exact Grow.refl _ | with_reducible refine Grow.alloc ?_ _ | with_reducible refine Grow.drew ?_ | with_reducible refine Grow.drewN ?_ _ | (with_reducible refine Grow.setCell ?_ ?hp _; (case hp => (simp; try omega))) | with_reducible refine Grow.trans ?_ (by assumption)))⟩
theorem nil_rd (w : World) : RdMats w (.slice none 0 0) [] := .inl ⟨none, 0, rfl, rfl⟩
theorem chF_len (l : List Int) (n : Int) : (chF l n).length ≤ 100000 := by
  have := chA_len l n 30 1 0
  unfold chF
  omega
end Go.Proofs.Ytalidpojcpmcbaa
