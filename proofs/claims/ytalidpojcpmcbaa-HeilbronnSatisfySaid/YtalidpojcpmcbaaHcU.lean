/- Plain law: the condition class by class, as the reference reckons it. No program here. -/
import Derived.Test.YtalidpojcpmcbaaHcL
import Derived.Test.YtalidpojcpmcbaaHcP
namespace Go.Proofs.Ytalidpojcpmcbaa

theorem if_iff {P Q : Prop} [Decidable P] [Decidable Q] (h : P ↔ Q) (x y : Int) : (if P then x else y) = if Q then x else y := by
  by_cases hp : P
  · rw [if_pos hp, if_pos (h.1 hp)]
  · rw [if_neg hp, if_neg (fun hq => hp (h.2 hq))]
def b0 (c : C2) : Int := (if (⟨1, 0⟩ : C2) = c then -1 else 0) + (if (⟨0, 1⟩ : C2) = c then 1 else 0)
theorem evB_val (n a : Int) (k : K3) (c : C2) : ∀ (f : Nat) (b : Int), a - b ≤ f → valE (evB f n a b) k c = if (k.a = a ∧ b ≤ k.b ∧ k.b < a ∧ k.d = n.tdiv a) then b0 c else 0
  | 0, b, h => by rw [if_neg (by omega)]; rfl
  | f + 1, b, h => by
    unfold evB
    by_cases hb : b < a
    · rw [if_pos hb]
      simp only [valE]
      rw [evB_val n a k c f (b + 1) (by omega)]
      by_cases hk : (⟨a, b, n.tdiv a⟩ : K3) = k
      · subst hk
        rw [if_neg (show ¬ (a = a ∧ b + 1 ≤ b ∧ b < a ∧ n.tdiv a = n.tdiv a) from fun h => by omega), if_pos (show (a = a ∧ b ≤ b ∧ b < a ∧ n.tdiv a = n.tdiv a) from ⟨rfl, Int.le_refl _, hb, rfl⟩)]
        unfold b0
        simp only [true_and]
        omega
      · rw [if_neg (fun h => hk h.1), if_neg (fun h => hk h.1)]
        have e : (k.a = a ∧ b + 1 ≤ k.b ∧ k.b < a ∧ k.d = n.tdiv a) ↔ (k.a = a ∧ b ≤ k.b ∧ k.b < a ∧ k.d = n.tdiv a) := by
          constructor
          · rintro ⟨h1, h2, h3, h4⟩
            exact ⟨h1, by omega, h3, h4⟩
          · rintro ⟨h1, h2, h3, h4⟩
            have : k.b ≠ b := fun e => hk (by cases k; simp only at h1 h4 e; rw [h1, h4, e])
            exact ⟨h1, by omega, h3, h4⟩
        simp only [e]
        omega
    · rw [if_neg hb, if_neg (by omega)]
      rfl
theorem evA_val {n : Int} (hn : n ≤ 128) (k : K3) (c : C2) : ∀ (f : Nat) (a : Int), 1 ≤ a → n + 1 - a ≤ f → valE (evA f n a) k c = if (a ≤ k.a ∧ k.a ≤ n ∧ n.tmod k.a = 0 ∧ 0 ≤ k.b ∧ k.b < k.a ∧ k.d = n.tdiv k.a) then b0 c else 0
  | 0, a, ha, h => by rw [if_neg (by omega)]; rfl
  | f + 1, a, ha, h => by
    unfold evA
    by_cases hle : a ≤ n
    · rw [if_pos hle, valE_append, evA_val hn k c f (a + 1) (by omega) (by omega)]
      by_cases hka : k.a = a
      · rw [if_neg (show ¬ (a + 1 ≤ k.a ∧ k.a ≤ n ∧ n.tmod k.a = 0 ∧ 0 ≤ k.b ∧ k.b < k.a ∧ k.d = n.tdiv k.a) from fun h => by omega)]
        by_cases hd : n.tmod a = 0
        · rw [if_pos hd, evB_val n a k c 130 0 (by omega), hka]
          have e : (a = a ∧ 0 ≤ k.b ∧ k.b < a ∧ k.d = n.tdiv a) ↔ (a ≤ a ∧ a ≤ n ∧ n.tmod a = 0 ∧ 0 ≤ k.b ∧ k.b < a ∧ k.d = n.tdiv a) :=
            ⟨fun h => ⟨Int.le_refl _, hle, hd, h.2⟩, fun h => ⟨rfl, h.2.2.2⟩⟩
          rw [if_iff e]
          omega
        · rw [if_neg hd, hka, if_neg (fun h => hd h.2.2.1)]
          rfl
      · have e0 : valE (if n.tmod a = 0 then evB 130 n a 0 else []) k c = 0 := by
          split
          · rw [evB_val n a k c 130 0 (by omega), if_neg (fun h => hka h.1)]
          · rfl
        rw [e0]
        have e : (a + 1 ≤ k.a ∧ k.a ≤ n ∧ n.tmod k.a = 0 ∧ 0 ≤ k.b ∧ k.b < k.a ∧ k.d = n.tdiv k.a) ↔ (a ≤ k.a ∧ k.a ≤ n ∧ n.tmod k.a = 0 ∧ 0 ≤ k.b ∧ k.b < k.a ∧ k.d = n.tdiv k.a) :=
          ⟨fun h => ⟨by omega, h.2⟩, fun h => ⟨by omega, h.2⟩⟩
        simp only [e]
        omega
    · rw [if_neg hle, if_neg (by omega)]
      rfl
theorem tAll_class {n : Int} (h2 : n ≤ 128) (l : List M2) {a b : Int} (ha : 1 ≤ a) (hle : a ≤ n) (hd : n.tmod a = 0) (hb : 0 ≤ b) (hba : b < a) (c : C2) : tAll n l ⟨a, b, n.tdiv a⟩ c = b0 c + valE (evL n l) ⟨a, b, n.tdiv a⟩ c := by
  rw [tAll_val]
  unfold evAll
  rw [valE_append, evA_val h2 _ c 130 1 (by omega) (by omega), if_pos ⟨ha, hle, hd, hb, hba, rfl⟩]
  omega
theorem sat_of_classes {n : Int} (h1 : 1 ≤ n) (h2 : n ≤ 128) (l : List M2) (hlen : l.length ≤ 4096) (hf : ∀ m ∈ l, fitsF m n = true)
    (h : ∀ a b, 1 ≤ a → a ≤ n → n.tmod a = 0 → 0 ≤ b → b < a → ∀ c, b0 c + valE (evL n l) ⟨a, b, n.tdiv a⟩ c = 0) : SatP n l := by
  refine ⟨⟨h1, h2, hlen⟩, hf, fun k c => ?_⟩
  rw [tAll_val]
  unfold evAll
  rw [valE_append, evA_val h2 _ c 130 1 (by omega) (by omega)]
  by_cases hk : (1 ≤ k.a ∧ k.a ≤ n ∧ n.tmod k.a = 0 ∧ 0 ≤ k.b ∧ k.b < k.a ∧ k.d = n.tdiv k.a)
  · rw [if_pos hk]
    have := h k.a k.b hk.1 hk.2.1 hk.2.2.1 hk.2.2.2.1 hk.2.2.2.2.1 c
    rw [← hk.2.2.2.2.2] at this
    have e : (⟨k.a, k.b, k.d⟩ : K3) = k := rfl
    rw [e] at this
    omega
  · rw [if_neg hk, valE_none]
    · rfl
    · rintro e he ⟨e1, -⟩
      simp only [evL, List.mem_flatMap] at he
      obtain ⟨m, hm, he⟩ := he
      have hc : clsF m n = k := by
        simp only [evM, List.mem_cons, List.not_mem_nil, or_false] at he
        rcases he with rfl | rfl <;> exact e1
      have hfm := hf m hm
      simp only [fitsF, Bool.and_eq_true, beq_iff_eq] at hfm
      obtain ⟨-, s2, s3, s4, s5, s6, s7, s8, -⟩ := cls_spec h1 hfm.2
      rw [hc] at s2 s3 s4 s5 s6 s7 s8
      apply hk
      have g1 : n.tmod k.a = 0 := by rw [← s6]; exact Int.mul_tmod_left ..
      have g2 : k.d = n.tdiv k.a := by rw [← s6]; exact (Int.mul_tdiv_cancel _ (by omega)).symm
      have g3 : k.a ≤ n := by
        have : 1 * k.a ≤ k.d * k.a := Int.mul_le_mul_of_nonneg_right (by omega) (by omega)
        omega
      exact ⟨by omega, g3, g1, s7, s8, g2⟩

/-- What the reference's sum is after i matrices. -/
structure SumInv (n : Int) (l : List M2) (k : K3) (i : Nat) (xs : List C2) (ys : List Int) : Prop where
  nodup : xs.Nodup
  len : xs.length = ys.length
  short : xs.length ≤ 2 + 2 * i
  bd : ∀ t ∈ ys, t.natAbs ≤ 2 + 2 * i
  val : ∀ c, valS xs ys c = b0 c + valE (evL n (l.take i)) k c
theorem AddOut.len1 {cs : List C2} {ts : List Int} {c : C2} {n : Int} {cs' : List C2} {ts' : List Int} (h : AddOut cs ts c n cs' ts') (hl : cs.length = ts.length) : cs'.length = ts'.length ∧ cs'.length ≤ cs.length + 1 := h.len hl
theorem SumInv.start {n : Int} {l : List M2} {k : K3} {xs xs' : List C2} {ys ys' : List Int} (h1 : AddOut [] [] ⟨1, 0⟩ (-1) xs ys) (h2 : AddOut xs ys ⟨0, 1⟩ 1 xs' ys') : SumInv n l k 0 xs' ys' := by
  have l1 := h1.len rfl
  have l2 := h2.len l1.1
  simp only [List.length_nil] at l1
  refine ⟨h2.nodup (h1.nodup List.nodup_nil), l2.1, by omega, ?_, fun c => ?_⟩
  · exact h2.bd (by decide) (h1.bd (B := 0) (by decide) (by simp))
  · rw [h2.val l1.1, h1.val rfl]
    simp [valS, b0, evL, valE]
theorem evM_hit {n : Int} {m : M2} {k : K3} (h : clsF m n = k) (c : C2) : valE (evM n m) k c = (if cuF m.a m.c = c then 1 else 0) + (if cuF m.b m.d = c then -1 else 0) := by
  subst h
  simp only [evM, valE, true_and]
  omega
theorem evM_miss {n : Int} {m : M2} {k : K3} (h : clsF m n ≠ k) (c : C2) : valE (evM n m) k c = 0 := by
  simp only [evM, valE]
  rw [if_neg (fun e => h e.1), if_neg (fun e => h e.1)]
  rfl
theorem evL_take {n : Int} {l : List M2} {i : Nat} (hi : i < l.length) (k : K3) (c : C2) : valE (evL n (l.take (i + 1))) k c = valE (evL n (l.take i)) k c + valE (evM n (l.getD i M2.zero)) k c := by
  have e : l.take (i + 1) = l.take i ++ [l.getD i M2.zero] := by
    rw [List.take_succ_eq_append_getElem hi]; simp [hi]
  rw [e, evL_append, evL_cons]
  simp [evL, valE]
theorem SumInv.hit {n : Int} {l : List M2} {k : K3} {i : Nat} {xs xs1 xs2 : List C2} {ys ys1 ys2 : List Int} (h : SumInv n l k i xs ys) (hi : i < l.length) {m : M2} (hm : l.getD i M2.zero = m) (hk : clsF m n = k)
    (h1 : AddOut xs ys (cuF m.a m.c) 1 xs1 ys1) (h2 : AddOut xs1 ys1 (cuF m.b m.d) (-1) xs2 ys2) : SumInv n l k (i + 1) xs2 ys2 := by
  have l1 := h1.len h.len
  have l2 := h2.len l1.1
  have s := h.short
  refine ⟨h2.nodup (h1.nodup h.nodup), l2.1, by omega, ?_, fun c => ?_⟩
  · intro t ht
    have := h2.bd (by decide) (h1.bd (by decide) h.bd) t ht
    omega
  · rw [h2.val l1.1, h1.val h.len, h.val, evL_take hi, hm, evM_hit hk]
    omega
theorem SumInv.miss {n : Int} {l : List M2} {k : K3} {i : Nat} {xs : List C2} {ys : List Int} (h : SumInv n l k i xs ys) (hi : i < l.length) {m : M2} (hm : l.getD i M2.zero = m) (hk : clsF m n ≠ k) : SumInv n l k (i + 1) xs ys := by
  have s := h.short
  refine ⟨h.nodup, h.len, by omega, fun t ht => by have := h.bd t ht; omega, fun c => ?_⟩
  rw [h.val, evL_take hi, hm, evM_miss hk]
  omega
theorem valS_zero : ∀ (xs : List C2) (ys : List Int) (c : C2), (∀ j, j < ys.length → ys.getD j 0 = 0) → valS xs ys c = 0
  | [], _, _, _ => by simp [valS]
  | x :: xs, [], _, _ => by simp [valS]
  | x :: xs, y :: ys, c, h => by
    have h0 := h 0 (by simp)
    simp only [List.getD_cons_zero] at h0
    have := valS_zero xs ys c (fun j hj => by have := h (j + 1) (by simpa using hj); simpa using this)
    simp only [valS, this, h0]
    split <;> rfl
theorem SumInv.zero {n : Int} {l : List M2} {k : K3} {xs : List C2} {ys : List Int} (h : SumInv n l k l.length xs ys) (hz : ∀ j, j < ys.length → ys.getD j 0 = 0) (c : C2) : b0 c + valE (evL n l) k c = 0 := by
  have h1 := h.val c
  rw [valS_zero xs ys c hz, List.take_length] at h1
  omega
theorem SumInv.bad {n : Int} (h2 : n ≤ 128) {l : List M2} {a b : Int} (ha : 1 ≤ a) (hle : a ≤ n) (hd : n.tmod a = 0) (hb : 0 ≤ b) (hba : b < a) {xs : List C2} {ys : List Int} (h : SumInv n l ⟨a, b, n.tdiv a⟩ l.length xs ys) {j : Nat} (hj : j < ys.length) (hz : ys.getD j 0 ≠ 0) : ¬ SatP n l := by
  intro hs
  have h1 := hs.2.2 ⟨a, b, n.tdiv a⟩ (xs.getD j C2.zero)
  rw [tAll_class h2 l ha hle hd hb hba] at h1
  have h3 := h.val (xs.getD j C2.zero)
  rw [List.take_length, valS_at xs ys j h.nodup h.len (by have := h.len; omega)] at h3
  omega
end Go.Proofs.Ytalidpojcpmcbaa
