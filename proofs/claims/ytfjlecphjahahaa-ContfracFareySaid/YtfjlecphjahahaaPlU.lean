/- Plain laws of the Farey table: what the reference's insertions make of it. No program here. -/
import Derived.Test.YtfjlecphjahahaaPlT
import Derived.Test.YtfjlecphjahahaaCfR
namespace Go.Proofs.Ytfjlecphjahahaa

def ltC (a b : C2) : Prop := a.p * b.q < b.p * a.q
theorem ltC_trans {a b c : C2} (ha : 1 ≤ a.q) (hb : 1 ≤ b.q) (hc : 1 ≤ c.q) (h1 : ltC a b) (h2 : ltC b c) : ltC a c := by
  unfold ltC at *
  have e1 : a.p * b.q * c.q < b.p * a.q * c.q := Int.mul_lt_mul_of_pos_right h1 (by omega)
  have e2 : b.p * c.q * a.q < c.p * b.q * a.q := Int.mul_lt_mul_of_pos_right h2 (by omega)
  have e3 : a.p * c.q * b.q < c.p * a.q * b.q := by
    have f1 : a.p * c.q * b.q = a.p * b.q * c.q := by grind
    have f2 : b.p * a.q * c.q = b.p * c.q * a.q := by grind
    have f3 : c.p * b.q * a.q = c.p * a.q * b.q := by grind
    omega
  exact Int.lt_of_mul_lt_mul_right e3 (by omega)
theorem nb_lt : ∀ (l : List C2) (a : C2), nbB (a :: l) = true → (∀ x ∈ a :: l, smallB x = true) → ∀ x ∈ l, ltC a x
  | [], _, _, _, x, hx => by cases hx
  | b :: l, a, h, hs, x, hx => by
    simp only [nbB, Bool.and_eq_true, decide_eq_true_eq] at h
    have hab : ltC a b := by unfold ltC; omega
    rcases List.mem_cons.1 hx with rfl | hx
    · exact hab
    · have hbx := nb_lt l b h.2 (fun y hy => hs y (List.mem_cons_of_mem _ hy)) x hx
      have s1 := smallB_iff.1 (hs a (by simp))
      have s2 := smallB_iff.1 (hs b (by simp))
      have s3 := smallB_iff.1 (hs x (by simp [hx]))
      exact ltC_trans s1.2.2.1 s2.2.2.1 s3.2.2.1 hab hbx
theorem nb_pair : ∀ (l : List C2), nbB l = true → (∀ x ∈ l, smallB x = true) → l.Pairwise ltC
  | [], _, _ => List.Pairwise.nil
  | a :: l, h, hs => by
    refine List.Pairwise.cons (nb_lt l a h hs) (nb_pair l ?_ (fun y hy => hs y (List.mem_cons_of_mem _ hy)))
    cases l with
    | nil => rfl
    | cons b l => simp only [nbB, Bool.and_eq_true] at h; exact h.2
theorem mem_nats : ∀ (n k : Nat), k ∈ nats n ↔ k < n
  | 0, k => by simp [nats]
  | n + 1, k => by simp [nats, mem_nats n k]; omega
theorem tab (n : Nat) (h1 : 1 ≤ n) (h2 : n ≤ 60) : farOk 1200 n ⟨0, 1⟩ ⟨1, n⟩ = true ∧ farF n = farM.filter (fun c => decide (c.q ≤ (n : Int))) ∧ nbB (farF n) = true ∧ ∀ x ∈ farF n, smallB x = true := by
  have h := List.all_eq_true.1 far_table (n - 1) ((mem_nats 60 (n - 1)).2 (by omega))
  rw [show n - 1 + 1 = n by omega] at h
  simp only [chkT, Bool.and_eq_true, decide_eq_true_eq, List.all_eq_true] at h
  exact ⟨h.1.1.1, h.1.1.2, h.1.2, h.2⟩
theorem farM_small : ∀ x ∈ farM, smallB x = true := (tab 60 (by omega) (by omega)).2.2.2
theorem farM_pair : farM.Pairwise ltC := nb_pair farM (tab 60 (by omega) (by omega)).2.2.1 farM_small
theorem rows (q : Nat) (h1 : 1 ≤ q) (h2 : q ≤ 60) : (farM.filter (fun c => decide (c.q = Int.ofNat q))).map C2.p = ((nats (q + 1)).filter (fun p => decide (Nat.gcd p q = 1))).map Int.ofNat := by
  have h := List.all_eq_true.1 far_rows (q - 1) ((mem_nats 60 (q - 1)).2 (by omega))
  rw [show q - 1 + 1 = q by omega] at h
  simpa only [chkR, decide_eq_true_eq] using h
theorem farM_mem (p q : Nat) (h1 : 1 ≤ q) (h2 : q ≤ 60) (hp : p ≤ q) : (⟨p, q⟩ : C2) ∈ farM ↔ Nat.gcd p q = 1 := by
  have hr := rows q h1 h2
  constructor
  · intro h
    have h3 : (p : Int) ∈ (farM.filter (fun c => decide (c.q = Int.ofNat q))).map C2.p := List.mem_map.2 ⟨⟨p, q⟩, List.mem_filter.2 ⟨h, by simp⟩, rfl⟩
    rw [hr] at h3
    obtain ⟨a, ha, hap⟩ := List.mem_map.1 h3
    have := (List.mem_filter.1 ha).2
    have e : a = p := by have e0 : (a : Int) = p := by simpa using hap
                         omega
    rw [e] at this
    simpa using this
  · intro h
    have h3 : (p : Int) ∈ ((nats (q + 1)).filter (fun p => decide (Nat.gcd p q = 1))).map Int.ofNat := List.mem_map.2 ⟨p, List.mem_filter.2 ⟨(mem_nats _ _).2 (by omega), by simpa using h⟩, rfl⟩
    rw [← hr] at h3
    obtain ⟨c, hc, hcp⟩ := List.mem_map.1 h3
    obtain ⟨hc1, hc2⟩ := List.mem_filter.1 hc
    simp at hc2
    have : c = ⟨p, q⟩ := by cases c; simp_all
    rw [← this]; exact hc1

def before (p q : Int) (c : C2) : Bool := decide (c.q < q) || (decide (c.q = q) && decide (c.p < p))
def selF (p q : Int) : List C2 := farM.filter (before p q)
theorem sel_small (p q : Int) : ∀ x ∈ selF p q, smallB x = true := fun x hx => farM_small x (List.mem_filter.1 hx).1
theorem sel_start : selF 0 1 = [] := by
  unfold selF
  rw [List.filter_eq_nil_iff]
  intro c hc
  have := smallB_iff.1 (farM_small c hc)
  simp [before]; omega
theorem sel_row (q : Int) : selF (q + 1) q = selF 0 (q + 1) := by
  unfold selF
  refine List.filter_congr fun c hc => ?_
  have := smallB_iff.1 (farM_small c hc)
  simp only [before]
  rw [Bool.eq_iff_iff]
  simp; omega
theorem sel_end (n : Nat) (h1 : 1 ≤ n) (h2 : n ≤ 60) : selF 0 (n + 1) = farF n := by
  rw [(tab n h1 h2).2.1]
  unfold selF
  refine List.filter_congr fun c hc => ?_
  have := smallB_iff.1 (farM_small c hc)
  simp only [before]
  rw [Bool.eq_iff_iff]
  simp; omega
theorem sel_skip (p q : Nat) (h1 : 1 ≤ q) (h2 : q ≤ 60) (hp : p ≤ q) (hg : Nat.gcd p q ≠ 1) : selF (p + 1) q = selF p q := by
  unfold selF
  refine List.filter_congr fun c hc => ?_
  have hne : ¬ (c.q = q ∧ c.p = p) := by
    rintro ⟨e1, e2⟩
    have : c = ⟨p, q⟩ := by cases c; simp_all
    rw [this] at hc
    exact hg ((farM_mem p q h1 h2 hp).1 hc)
  simp only [before]
  rw [Bool.eq_iff_iff]
  simp; omega
/-- Where the reference puts a fraction. -/
def atF (out : List C2) (p q : Int) : Nat → Nat
  | 0 => 0
  | k + 1 => if p * (out.getD k C2.zero).q < (out.getD k C2.zero).p * q then atF out p q k else k + 1
theorem at_le (out : List C2) (p q : Int) : ∀ k, atF out p q k ≤ k
  | 0 => by simp [atF]
  | k + 1 => by
    have := at_le out p q k
    unfold atF
    split <;> omega
theorem at_app (x y : List C2) (p q : Int) (hx : ∀ c ∈ x, ¬ p * c.q < c.p * q) (hy : ∀ c ∈ y, p * c.q < c.p * q) : ∀ k, k ≤ y.length → atF (x ++ y) p q (x.length + k) = x.length
  | 0, _ => by
    cases hk : x.length with
    | zero => simp [atF]
    | succ m =>
      simp only [atF]
      rw [if_neg]
      have : (x ++ y).getD m C2.zero = x[m] := by simp [List.getD, List.getElem?_append_left (show m < x.length by omega), show m < x.length by omega]
      rw [this]
      exact hx _ (List.getElem_mem _)
  | k + 1, h => by
    rw [show x.length + (k + 1) = (x.length + k) + 1 by omega]
    simp only [atF]
    have : (x ++ y).getD (x.length + k) C2.zero = y[k] := by simp [List.getD, show k < y.length by omega]
    rw [this, if_pos (hy _ (List.getElem_mem _))]
    exact at_app x y p q hx hy k (by omega)
theorem sel_step (p q : Nat) (h1 : 1 ≤ q) (h2 : q ≤ 60) (hp : p ≤ q) (hg : Nat.gcd p q = 1) (N : Nat) (hN : atF (selF p q) p q (selF p q).length = N) :
    selF (p + 1) q = (selF p q).take N ++ (⟨p, q⟩ :: (selF p q).drop N) := by
  obtain ⟨A, B, hAB⟩ := List.append_of_mem ((farM_mem p q h1 h2 hp).2 hg)
  have hpw := farM_pair
  rw [hAB, List.pairwise_append] at hpw
  obtain ⟨-, hcB, hAc⟩ := hpw
  have hAl : ∀ x ∈ A, ltC x ⟨p, q⟩ := fun x hx => hAc x hx _ (by simp)
  have hBl : ∀ x ∈ B, ltC ⟨p, q⟩ x := fun x hx => (List.pairwise_cons.1 hcB).1 x hx
  have hirr : ∀ x : C2, x.q = q → x.p = p → ¬ ltC x ⟨p, q⟩ ∧ ¬ ltC ⟨p, q⟩ x := fun x e1 e2 => by unfold ltC; simp only; rw [e1, e2]; omega
  have eA : ∀ x ∈ A, before (p + 1) q x = before p q x := fun x hx => by
    have := hAl x hx
    have hne : ¬ (x.q = q ∧ x.p = p) := fun h => (hirr x h.1 h.2).1 this
    simp only [before]; rw [Bool.eq_iff_iff]; simp; omega
  have eB : ∀ x ∈ B, before (p + 1) q x = before p q x := fun x hx => by
    have := hBl x hx
    have hne : ¬ (x.q = q ∧ x.p = p) := fun h => (hirr x h.1 h.2).2 this
    simp only [before]; rw [Bool.eq_iff_iff]; simp; omega
  have ec1 : before (p + 1) q ⟨p, q⟩ = true := by simp [before]; omega
  have ec2 : before p q ⟨p, q⟩ = false := by simp [before]
  have s1 : selF p q = A.filter (before p q) ++ B.filter (before p q) := by
    unfold selF; rw [hAB, List.filter_append, List.filter_cons_of_neg (by rw [ec2]; simp)]
  have s2 : selF (p + 1) q = A.filter (before p q) ++ (⟨p, q⟩ :: B.filter (before p q)) := by
    unfold selF; rw [hAB, List.filter_append, List.filter_cons_of_pos ec1, List.filter_congr eA, List.filter_congr eB]
  have hat := at_app (A.filter (before p q)) (B.filter (before p q)) p q
    (fun c hc => by have := hAl c (List.mem_filter.1 hc).1; unfold ltC at this; simp only at this; omega)
    (fun c hc => by have := hBl c (List.mem_filter.1 hc).1; unfold ltC at this; simp only at this; omega) (B.filter (before p q)).length (Nat.le_refl _)
  rw [← List.length_append, ← s1, hN] at hat
  rw [s2, s1, hat]
  simp
end Go.Proofs.Ytfjlecphjahahaa
