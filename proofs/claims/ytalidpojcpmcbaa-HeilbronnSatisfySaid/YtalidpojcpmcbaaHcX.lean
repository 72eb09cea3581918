/- Tables: Merel's and Cremona's lists satisfy the condition, to 24. No program here. -/
import Derived.Test.YtalidpojcpmcbaaHbZ
import Derived.Test.YtalidpojcpmcbaaHcT
import Derived.Test.YtalidpojcpmcbaaHbE
namespace Go.Proofs.Ytalidpojcpmcbaa
abbrev Kc := Nat × K3 × C2
def codeK (k : K3) (c : C2) : Nat := ((k.a.toNat * 256 + k.b.toNat) * 2048 + (c.p + 1000).toNat) * 2048 + (c.q + 1000).toNat
def insK (x : Kc) : List Kc → List Kc
  | [] => [x]
  | y :: r => if Nat.ble x.1 y.1 = true then x :: y :: r else y :: insK x r
def sortK : List Kc → List Kc
  | [] => []
  | x :: r => insK x (sortK r)
def eqK : List Kc → List Kc → Bool
  | [], [] => true
  | x :: r, y :: s => decide (x.2.1 = y.2.1 ∧ x.2.2 = y.2.2) && eqK r s
  | _, _ => false
def cntK (k : K3) (c : C2) : List Kc → Int
  | [] => 0
  | y :: r => (if y.2.1 = k ∧ y.2.2 = c then 1 else 0) + cntK k c r
def posK : List Ev → List Kc
  | [] => []
  | e :: r => if e.2.2 = 1 then (codeK e.1 e.2.1, e.1, e.2.1) :: posK r else posK r
def negK : List Ev → List Kc
  | [] => []
  | e :: r => if e.2.2 = 1 then negK r else (codeK e.1 e.2.1, e.1, e.2.1) :: negK r
def okK (ev : List Ev) : Bool := ev.all fun e => decide (e.2.2 = 1 ∨ e.2.2 = -1)
theorem cnt_ins (k : K3) (c : C2) (x : Kc) : ∀ l, cntK k c (insK x l) = (if x.2.1 = k ∧ x.2.2 = c then 1 else 0) + cntK k c l
  | [] => rfl
  | y :: r => by
    unfold insK
    split
    · rfl
    · simp only [cntK, cnt_ins k c x r]
      omega
theorem cnt_sort (k : K3) (c : C2) : ∀ l, cntK k c (sortK l) = cntK k c l
  | [] => rfl
  | x :: r => by
    unfold sortK
    rw [cnt_ins, cnt_sort k c r]
    rfl
theorem cnt_eq (k : K3) (c : C2) : ∀ x y, eqK x y = true → cntK k c x = cntK k c y
  | [], [], _ => rfl
  | x :: r, y :: s, h => by
    simp only [eqK, Bool.and_eq_true, decide_eq_true_eq] at h
    simp only [cntK]
    rw [h.1.1, h.1.2, cnt_eq k c r s h.2]
  | [], _ :: _, h => by simp [eqK] at h
  | _ :: _, [], h => by simp [eqK] at h
theorem val_pn (k : K3) (c : C2) : ∀ ev, okK ev = true → valE ev k c = cntK k c (posK ev) - cntK k c (negK ev)
  | [], _ => rfl
  | e :: r, h => by
    simp only [okK, List.all_cons, Bool.and_eq_true, decide_eq_true_eq] at h
    have ih := val_pn k c r h.2
    simp only [valE, posK, negK]
    by_cases h1 : e.2.2 = 1
    · rw [if_pos h1, if_pos h1, h1]
      simp only [cntK]
      omega
    · have h2 : e.2.2 = -1 := by rcases h.1 with h | h; exact absurd h h1; exact h
      rw [if_neg h1, if_neg h1, h2]
      simp only [cntK]
      by_cases h3 : e.1 = k ∧ e.2.1 = c
      · rw [if_pos h3, if_pos h3]; omega
      · rw [if_neg h3, if_neg h3]; omega
def satS (n : Int) (l : List M2) : Bool := decide (1 ≤ n) && decide (n ≤ 128) && decide (l.length ≤ 4096) && l.all (fun m => fitsF m n) && okK (evAll n l) && eqK (sortK (posK (evAll n l))) (sortK (negK (evAll n l)))
theorem satS_sat {n : Int} {l : List M2} (h : satS n l = true) : SatP n l := by
  unfold satS at h
  simp only [Bool.and_eq_true, decide_eq_true_eq, List.all_eq_true] at h
  obtain ⟨⟨⟨⟨⟨h1, h2⟩, h3⟩, h4⟩, h5⟩, h6⟩ := h
  refine ⟨⟨h1, h2, h3⟩, h4, fun k c => ?_⟩
  rw [tAll_val, val_pn k c _ h5]
  have := cnt_eq k c _ _ h6
  rw [cnt_sort, cnt_sort] at this
  omega
theorem satM_1 : satS 1 (merF 1) = true := by decide +kernel
theorem satM_2 : satS 2 (merF 2) = true := by decide +kernel
theorem satM_3 : satS 3 (merF 3) = true := by decide +kernel
theorem satM_4 : satS 4 (merF 4) = true := by decide +kernel
theorem satM_5 : satS 5 (merF 5) = true := by decide +kernel
theorem satM_6 : satS 6 (merF 6) = true := by decide +kernel
theorem satM_7 : satS 7 (merF 7) = true := by decide +kernel
theorem satM_8 : satS 8 (merF 8) = true := by decide +kernel
theorem satM_9 : satS 9 (merF 9) = true := by decide +kernel
theorem satM_10 : satS 10 (merF 10) = true := by decide +kernel
theorem satM_11 : satS 11 (merF 11) = true := by decide +kernel
theorem satM_12 : satS 12 (merF 12) = true := by decide +kernel
theorem satM_13 : satS 13 (merF 13) = true := by decide +kernel
theorem satM_14 : satS 14 (merF 14) = true := by decide +kernel
theorem satM_15 : satS 15 (merF 15) = true := by decide +kernel
theorem satM_16 : satS 16 (merF 16) = true := by decide +kernel
theorem satM_17 : satS 17 (merF 17) = true := by decide +kernel
theorem satM_18 : satS 18 (merF 18) = true := by decide +kernel
theorem satM_19 : satS 19 (merF 19) = true := by decide +kernel
theorem satM_20 : satS 20 (merF 20) = true := by decide +kernel
theorem satM_21 : satS 21 (merF 21) = true := by decide +kernel
theorem satM_22 : satS 22 (merF 22) = true := by decide +kernel
theorem satM_23 : satS 23 (merF 23) = true := by decide +kernel
theorem satM_24 : satS 24 (merF 24) = true := by decide +kernel
theorem satC_3 : satS 3 (crF 3) = true := by decide +kernel
theorem satC_5 : satS 5 (crF 5) = true := by decide +kernel
theorem satC_7 : satS 7 (crF 7) = true := by decide +kernel
theorem satC_11 : satS 11 (crF 11) = true := by decide +kernel
theorem satC_13 : satS 13 (crF 13) = true := by decide +kernel
theorem satC_17 : satS 17 (crF 17) = true := by decide +kernel
theorem satC_19 : satS 19 (crF 19) = true := by decide +kernel
theorem satC_23 : satS 23 (crF 23) = true := by decide +kernel
theorem mer_sat {n : Int} (h1 : 1 ≤ n) (h2 : n ≤ 24) : SatP n (merF n) := by
  rcases (by omega : n = 1 ∨ n = 2 ∨ n = 3 ∨ n = 4 ∨ n = 5 ∨ n = 6 ∨ n = 7 ∨ n = 8 ∨ n = 9 ∨ n = 10 ∨ n = 11 ∨ n = 12 ∨ n = 13 ∨ n = 14 ∨ n = 15 ∨ n = 16 ∨ n = 17 ∨ n = 18 ∨ n = 19 ∨ n = 20 ∨ n = 21 ∨ n = 22 ∨ n = 23 ∨ n = 24) with rfl | rfl | rfl | rfl | rfl | rfl | rfl | rfl | rfl | rfl | rfl | rfl | rfl | rfl | rfl | rfl | rfl | rfl | rfl | rfl | rfl | rfl | rfl | rfl
  · exact satS_sat satM_1
  · exact satS_sat satM_2
  · exact satS_sat satM_3
  · exact satS_sat satM_4
  · exact satS_sat satM_5
  · exact satS_sat satM_6
  · exact satS_sat satM_7
  · exact satS_sat satM_8
  · exact satS_sat satM_9
  · exact satS_sat satM_10
  · exact satS_sat satM_11
  · exact satS_sat satM_12
  · exact satS_sat satM_13
  · exact satS_sat satM_14
  · exact satS_sat satM_15
  · exact satS_sat satM_16
  · exact satS_sat satM_17
  · exact satS_sat satM_18
  · exact satS_sat satM_19
  · exact satS_sat satM_20
  · exact satS_sat satM_21
  · exact satS_sat satM_22
  · exact satS_sat satM_23
  · exact satS_sat satM_24
theorem pr_dec : prF 1 = false ∧ prF 4 = false ∧ prF 6 = false ∧ prF 8 = false ∧ prF 9 = false ∧ prF 10 = false ∧ prF 12 = false ∧ prF 14 = false ∧ prF 15 = false ∧ prF 16 = false ∧ prF 18 = false ∧ prF 20 = false ∧ prF 21 = false ∧ prF 22 = false ∧ prF 24 = false := by decide +kernel
theorem cr_sat {n : Int} (h1 : 1 ≤ n) (h2 : n ≤ 24) (hp : prF n = true) (h3 : n ≠ 2) : SatP n (crF n) := by
  have pr := pr_dec
  rcases (by omega : n = 1 ∨ n = 2 ∨ n = 3 ∨ n = 4 ∨ n = 5 ∨ n = 6 ∨ n = 7 ∨ n = 8 ∨ n = 9 ∨ n = 10 ∨ n = 11 ∨ n = 12 ∨ n = 13 ∨ n = 14 ∨ n = 15 ∨ n = 16 ∨ n = 17 ∨ n = 18 ∨ n = 19 ∨ n = 20 ∨ n = 21 ∨ n = 22 ∨ n = 23 ∨ n = 24) with rfl | rfl | rfl | rfl | rfl | rfl | rfl | rfl | rfl | rfl | rfl | rfl | rfl | rfl | rfl | rfl | rfl | rfl | rfl | rfl | rfl | rfl | rfl | rfl
  · simp [pr] at hp
  · exact absurd rfl h3
  · exact satS_sat satC_3
  · simp [pr] at hp
  · exact satS_sat satC_5
  · simp [pr] at hp
  · exact satS_sat satC_7
  · simp [pr] at hp
  · simp [pr] at hp
  · simp [pr] at hp
  · exact satS_sat satC_11
  · simp [pr] at hp
  · exact satS_sat satC_13
  · simp [pr] at hp
  · simp [pr] at hp
  · simp [pr] at hp
  · exact satS_sat satC_17
  · simp [pr] at hp
  · exact satS_sat satC_19
  · simp [pr] at hp
  · simp [pr] at hp
  · simp [pr] at hp
  · exact satS_sat satC_23
  · simp [pr] at hp
end Go.Proofs.Ytalidpojcpmcbaa
