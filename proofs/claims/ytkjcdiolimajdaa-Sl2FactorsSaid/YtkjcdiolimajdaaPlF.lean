/- Plain law: the abelian class is a homomorphism: an explicit polynomial modulo 12, checked modulo 3 and 4 on residues. -/
import Derived.Test.YtkjcdiolimajdaaPlD
namespace Go.Proofs.Ytkjcdiolimajdaa
open Go.RowKit

def chi (a b c d : Int) : Int := (1 - c * c) * (b * d + 3 * (c - 1) * d + c + 3) + c * (a + d - 3)
def homB (n : Int) (l : List Int) : Bool :=
  l.all fun a => l.all fun b => l.all fun c => l.all fun d => !((a * d - b * c - 1) % n == 0) || (l.all fun p => l.all fun q => l.all fun r => l.all fun s => !((p * s - q * r - 1) % n == 0) ||
    ((chi (a * p + b * r) (a * q + b * s) (c * p + d * r) (c * q + d * s) - chi a b c d - chi p q r s) % n == 0))
theorem hom3 : homB 3 [0, 1, 2] = true := by decide +kernel
theorem hom4 : homB 4 [0, 1, 2, 3] = true := by decide +kernel

def Cg (n a b : Int) : Prop := n ∣ a - b
theorem Cg.refl (n a : Int) : Cg n a a := ⟨0, by omega⟩
theorem Cg.add {n a b c d : Int} (h : Cg n a b) (k : Cg n c d) : Cg n (a + c) (b + d) := by
  obtain ⟨x, hx⟩ := h; obtain ⟨y, hy⟩ := k
  exact ⟨x + y, by rw [Int.mul_add, ← hx, ← hy]; omega⟩
theorem Cg.sub {n a b c d : Int} (h : Cg n a b) (k : Cg n c d) : Cg n (a - c) (b - d) := by
  obtain ⟨x, hx⟩ := h; obtain ⟨y, hy⟩ := k
  exact ⟨x - y, by rw [Int.mul_sub, ← hx, ← hy]; omega⟩
theorem Cg.mul {n a b c d : Int} (h : Cg n a b) (k : Cg n c d) : Cg n (a * c) (b * d) := by
  obtain ⟨x, hx⟩ := h; obtain ⟨y, hy⟩ := k
  exact ⟨x * c + b * y, by rw [Int.mul_add, ← Int.mul_assoc, ← hx, Int.mul_left_comm, ← hy, Int.sub_mul, Int.mul_sub]; omega⟩
theorem Cg.symm {n a b : Int} (h : Cg n a b) : Cg n b a := by obtain ⟨x, hx⟩ := h; exact ⟨-x, by rw [Int.mul_neg, ← hx]; omega⟩
theorem Cg.trans {n a b c : Int} (h : Cg n a b) (k : Cg n b c) : Cg n a c := by
  obtain ⟨x, hx⟩ := h; obtain ⟨y, hy⟩ := k
  exact ⟨x + y, by rw [Int.mul_add, ← hx, ← hy]; omega⟩
theorem Cg.mod (n a : Int) : Cg n a (a % n) := Int.dvd_self_sub_emod
theorem Cg.chi {n a b c d a' b' c' d' : Int} (ha : Cg n a a') (hb : Cg n b b') (hc : Cg n c c') (hd : Cg n d d') : Cg n (chi a b c d) (Proofs.Ytkjcdiolimajdaa.chi a' b' c' d') :=
  .add (.mul (.sub (.refl _ _) (.mul hc hc)) (.add (.add (.add (.mul hb hd) (.mul (.mul (.refl _ _) (.sub hc (.refl _ _))) hd)) hc) (.refl _ _))) (.mul hc (.sub (.add ha hd) (.refl _ _)))
theorem hom_of {n : Int} {l : List Int} (hB : homB n l = true) (hl : ∀ a : Int, a % n ∈ l) {a b c d p q r s : Int} (h1 : a * d - b * c = 1) (h2 : p * s - q * r = 1) :
    Cg n (chi (a * p + b * r) (a * q + b * s) (c * p + d * r) (c * q + d * s)) (chi a b c d + chi p q r s) := by
  have A := Cg.mod n a
  have B := Cg.mod n b
  have C := Cg.mod n c
  have D := Cg.mod n d
  have P := Cg.mod n p
  have Q := Cg.mod n q
  have R := Cg.mod n r
  have S := Cg.mod n s
  have d1 : Cg n (a * d - b * c) (a % n * (d % n) - b % n * (c % n)) := .sub (.mul A D) (.mul B C)
  have d2 : Cg n (p * s - q * r) (p % n * (s % n) - q % n * (r % n)) := .sub (.mul P S) (.mul Q R)
  rw [h1] at d1
  rw [h2] at d2
  have e1 : (a % n * (d % n) - b % n * (c % n) - 1) % n = 0 := Int.emod_eq_zero_of_dvd d1.symm
  have e2 : (p % n * (s % n) - q % n * (r % n) - 1) % n = 0 := Int.emod_eq_zero_of_dvd d2.symm
  unfold homB at hB
  have g1 := List.all_eq_true.1 hB _ (hl a)
  have g2 := List.all_eq_true.1 g1 _ (hl b)
  have g3 := List.all_eq_true.1 g2 _ (hl c)
  have g4 := List.all_eq_true.1 g3 _ (hl d)
  simp only [e1, beq_self_eq_true, Bool.not_true, Bool.false_or] at g4
  have g5 := List.all_eq_true.1 g4 _ (hl p)
  have g6 := List.all_eq_true.1 g5 _ (hl q)
  have g7 := List.all_eq_true.1 g6 _ (hl r)
  have g8 := List.all_eq_true.1 g7 _ (hl s)
  simp only [e2, beq_self_eq_true, Bool.not_true, Bool.false_or, beq_iff_eq] at g8
  have g9 := Int.dvd_of_emod_eq_zero g8
  have k1 : Cg n (chi (a * p + b * r) (a * q + b * s) (c * p + d * r) (c * q + d * s)) _ := .chi (.add (.mul A P) (.mul B R)) (.add (.mul A Q) (.mul B S)) (.add (.mul C P) (.mul D R)) (.add (.mul C Q) (.mul D S))
  have k2 := Cg.add (Cg.chi A B C D) (Cg.chi P Q R S)
  refine k1.trans (Cg.trans ?_ k2.symm)
  show n ∣ _ - _
  rwa [Int.sub_sub] at g9
theorem cg12 {a b : Int} (h3 : Cg 3 a b) (h4 : Cg 4 a b) : a % 12 = b % 12 := by
  obtain ⟨x, hx⟩ := h3
  obtain ⟨y, hy⟩ := h4
  omega
def M2.chi (m : M2) : Int := Proofs.Ytkjcdiolimajdaa.chi m.a m.b m.c m.d
theorem chi_mul {x y : M2} (hx : x.det = 1) (hy : y.det = 1) : (x.times y).chi % 12 = (x.chi + y.chi) % 12 :=
  cg12 (hom_of hom3 (fun a => by have h1 := Int.emod_nonneg a (b := 3) (by decide); have h2 := Int.emod_lt_of_pos a (b := 3) (by decide); have : a % 3 = 0 ∨ a % 3 = 1 ∨ a % 3 = 2 := by omega
                                 simpa using this) hx hy)
    (hom_of hom4 (fun a => by have h1 := Int.emod_nonneg a (b := 4) (by decide); have h2 := Int.emod_lt_of_pos a (b := 4) (by decide); have : a % 4 = 0 ∨ a % 4 = 1 ∨ a % 4 = 2 ∨ a % 4 = 3 := by omega
                              simpa using this) hx hy)
end Go.Proofs.Ytkjcdiolimajdaa
