/- Plain law: the sums of Satisfies as values of a list of events. No program here. -/
import Derived.Test.YtalidpojcpmcbaaHbX
namespace Go.Proofs.Ytalidpojcpmcbaa

abbrev Ev := K3 × C2 × Int
def valE : List Ev → K3 → C2 → Int
  | [], _, _ => 0
  | e :: r, k, c => (if e.1 = k ∧ e.2.1 = c then e.2.2 else 0) + valE r k c
theorem valE_append (x y : List Ev) (k : K3) (c : C2) : valE (x ++ y) k c = valE x k c + valE y k c := by
  induction x with
  | nil => simp [valE]
  | cons e r ih => simp only [List.cons_append, valE, ih]; omega
def evM (n : Int) (m : M2) : List Ev := [(clsF m n, cuF m.a m.c, 1), (clsF m n, cuF m.b m.d, -1)]
def evB : Nat → Int → Int → Int → List Ev
  | 0, _, _, _ => []
  | f + 1, n, a, b => if b < a then (⟨a, b, n.tdiv a⟩, ⟨1, 0⟩, -1) :: (⟨a, b, n.tdiv a⟩, ⟨0, 1⟩, 1) :: evB f n a (b + 1) else []
def evA : Nat → Int → Int → List Ev
  | 0, _, _ => []
  | f + 1, n, a => if a ≤ n then (if n.tmod a = 0 then evB 130 n a 0 else []) ++ evA f n (a + 1) else []
def evL (n : Int) (l : List M2) : List Ev := l.flatMap (evM n)
def evAll (n : Int) (l : List M2) : List Ev := evL n l ++ evA 130 n 1
theorem addT_val (T : K3 → C2 → Int) (k0 : K3) (c0 : C2) (z : Int) (k : K3) (c : C2) : addT T k0 c0 z k c = T k c + (if k0 = k ∧ c0 = c then z else 0) := by
  unfold addT bump
  by_cases h : k = k0 ∧ c = c0
  · obtain ⟨rfl, rfl⟩ := h
    simp
  · have h2 : ¬ (k0 = k ∧ c0 = c) := fun e => h ⟨e.1.symm, e.2.symm⟩
    simp [h, h2]
theorem tL_val (n : Int) (l : List M2) : ∀ (T : K3 → C2 → Int) (k : K3) (c : C2), l.foldl (stM n) T k c = T k c + valE (evL n l) k c := by
  induction l with
  | nil => intro T k c; simp [evL, valE]
  | cons m r ih =>
    intro T k c
    rw [List.foldl_cons, ih]
    have : evL n (m :: r) = evM n m ++ evL n r := by simp [evL]
    rw [this, valE_append]
    unfold stM evM
    rw [addT_val, addT_val]
    simp only [valE]
    omega
theorem tB_val (n a : Int) : ∀ (f : Nat) (b : Int) (T : K3 → C2 → Int) (k : K3) (c : C2), tB f n a b T k c = T k c + valE (evB f n a b) k c
  | 0, b, T, k, c => by simp [tB, evB, valE]
  | f + 1, b, T, k, c => by
    unfold tB evB
    by_cases h : b < a
    · rw [if_pos h, if_pos h, tB_val n a f]
      unfold stK
      rw [addT_val, addT_val]
      simp only [valE]
      omega
    · rw [if_neg h, if_neg h]; simp [valE]
theorem tA_val (n : Int) : ∀ (f : Nat) (a : Int) (T : K3 → C2 → Int) (k : K3) (c : C2), tA f n a T k c = T k c + valE (evA f n a) k c
  | 0, a, T, k, c => by simp [tA, evA, valE]
  | f + 1, a, T, k, c => by
    unfold tA evA
    by_cases h : a ≤ n
    · rw [if_pos h, if_pos h, tA_val n f, valE_append]
      by_cases h2 : n.tmod a = 0
      · rw [if_pos h2, if_pos h2, tB_val]; omega
      · rw [if_neg h2, if_neg h2]; simp [valE]
    · rw [if_neg h, if_neg h]; simp [valE]
theorem tAll_val (n : Int) (l : List M2) (k : K3) (c : C2) : tAll n l k c = valE (evAll n l) k c := by
  unfold tAll evAll
  rw [tA_val, valE_append]
  unfold tL
  rw [tL_val]
  omega
def zeroE (ev : List Ev) : Bool := ev.all fun e => valE ev e.1 e.2.1 == 0
theorem valE_none {ev : List Ev} {k : K3} {c : C2} (h : ∀ e ∈ ev, ¬ (e.1 = k ∧ e.2.1 = c)) : valE ev k c = 0 := by
  induction ev with
  | nil => rfl
  | cons e r ih =>
    simp only [valE]
    rw [if_neg (h e (by simp)), ih (fun e he => h e (by simp [he]))]
    rfl
theorem zeroE_iff {ev : List Ev} : zeroE ev = true ↔ ∀ k c, valE ev k c = 0 := by
  simp only [zeroE, List.all_eq_true, beq_iff_eq]
  constructor
  · intro h k c
    by_cases hx : ∃ e ∈ ev, e.1 = k ∧ e.2.1 = c
    · obtain ⟨e, he, rfl, rfl⟩ := hx
      exact h e he
    · exact valE_none fun e he h2 => hx ⟨e, he, h2⟩
  · intro h e _
    exact h _ _
/-- What Satisfies answers. -/
def satB (n : Int) (l : List M2) : Bool := decide (1 ≤ n) && decide (n ≤ 128) && decide (l.length ≤ 4096) && l.all (fun m => fitsF m n) && zeroE (evAll n l)
theorem satB_iff {n : Int} {l : List M2} : satB n l = true ↔ SatP n l := by
  unfold satB SatP
  simp only [Bool.and_eq_true, decide_eq_true_eq, List.all_eq_true, zeroE_iff, tAll_val, and_assoc]
theorem sat_ex : satB 2 [⟨1, 0, 0, 2⟩, ⟨1, 0, 1, 2⟩, ⟨2, 0, 0, 1⟩, ⟨2, 1, 0, 1⟩] = true := by decide +kernel
end Go.Proofs.Ytalidpojcpmcbaa
