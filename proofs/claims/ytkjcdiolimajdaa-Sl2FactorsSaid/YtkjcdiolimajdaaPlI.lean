/- Plain law: the value of the word of a matrix is the matrix. No program in sight. -/
import Derived.Test.YtkjcdiolimajdaaPlG
namespace Go.Proofs.Ytkjcdiolimajdaa
open Go.RowKit

theorem fw_assoc (x y z : M2) : (x.times y).times z = x.times (y.times z) := by
  simp only [M2.times, M2.mk.injEq]
  refine ⟨?_, ?_, ?_, ?_⟩ <;> grind
/-- A row of a partial product bounds its entries by the row of the whole. -/
theorem fw_row {p p' a c : Int} (h : p.natAbs ≤ p'.natAbs) (ha : a ≠ 0) (hc : 2 * c.natAbs ≤ a.natAbs) : p'.natAbs ≤ (p' * a - p * c).natAbs := by
  have e1 : (p' * a).natAbs = p'.natAbs * a.natAbs := Int.natAbs_mul _ _
  have e2 : (p * c).natAbs = p.natAbs * c.natAbs := Int.natAbs_mul _ _
  have e3 : p.natAbs * c.natAbs ≤ p'.natAbs * c.natAbs := Nat.mul_le_mul_right _ h
  have e4 : 2 * (p'.natAbs * c.natAbs) ≤ p'.natAbs * a.natAbs := by
    have := Nat.mul_le_mul_left p'.natAbs hc
    rw [Nat.mul_left_comm] at this
    exact this
  by_cases h1 : a.natAbs ≤ 1
  · have hc0 : c = 0 := by omega
    have ha1 : a.natAbs = 1 := by omega
    rw [hc0, Int.mul_zero, Int.sub_zero, e1, ha1]; omega
  · have e5 : p'.natAbs * 2 ≤ p'.natAbs * a.natAbs := Nat.mul_le_mul_left _ (by omega)
    omega
theorem fw_grow {p p' q : Int} (h : p.natAbs ≤ p'.natAbs ∨ p' = 0) (hq : 2 ≤ q.natAbs) : p'.natAbs ≤ (-p + p' * q).natAbs := by
  rcases h with h | h
  · have e1 : (p' * q).natAbs = p'.natAbs * q.natAbs := Int.natAbs_mul _ _
    have e2 : p'.natAbs * 2 ≤ p'.natAbs * q.natAbs := Nat.mul_le_mul_left _ hq
    omega
  · subst h; omega
theorem fw_quot {a c : Int} (hc : c ≠ 0) (h : 2 * c.natAbs ≤ a.natAbs) : 2 ≤ (nearQ a c).natAbs := by
  obtain ⟨h1, h2, h3⟩ := near_spec a c hc
  generalize nearQ a c = q at *
  by_cases hq : 2 ≤ q.natAbs
  · exact hq
  · exfalso
    have e1 : (q * c).natAbs = q.natAbs * c.natAbs := Int.natAbs_mul _ _
    have e2 : q.natAbs * c.natAbs ≤ 1 * c.natAbs := Nat.mul_le_mul_right _ (by omega)
    omega
theorem fw_minus_fits {m : M2} (h : m.fits = true) : m.minus.fits = true := by
  obtain ⟨⟨b1, b2⟩, ⟨b3, b4⟩, ⟨b5, b6⟩, b7, b8⟩ := fits_bd h
  simp only [M2.fits, M2.minus]
  exact fitsB_iff.2 ⟨inB_iff.2 (by omega), inB_iff.2 (by omega), inB_iff.2 (by omega), inB_iff.2 (by omega)⟩
theorem fw_end {P r : M2} (hc : r.c = 0) (hd : r.det = 1) : (P.timesS).timesT (r.a * r.b) = if r.a < 0 then (P.timesS.times r).minus else P.timesS.times r := by
  obtain ⟨a, b, c, d⟩ := r
  simp only [M2.det] at hd hc
  subst hc
  have h1 : a * d = 1 := by omega
  rcases unit_of h1 with ⟨rfl, rfl⟩ | ⟨rfl, rfl⟩
  · simp [M2.timesT, M2.timesS, M2.times]
    grind
  · simp [M2.timesT, M2.timesS, M2.times, M2.minus]
    grind
theorem fw_shift {P r : M2} (hc : r.c ≠ 0) : ((P.timesS).timesT (nearQ r.a r.c)).timesS.times r.next = P.timesS.times r := by
  have h := step_eq hc
  have e : ((P.timesS).timesT (nearQ r.a r.c)).timesS = P.timesS.times ⟨nearQ r.a r.c, -1, 1, 0⟩ := by
    simp only [M2.timesT, M2.timesS, M2.times, M2.mk.injEq]
    refine ⟨?_, ?_, ?_, ?_⟩ <;> grind
  rw [e, fw_assoc, h]
theorem fw_val : ∀ (n : Nat) (P r m : M2), m.fits = true → P.timesS.times r = m → r.det = 1 → r.c.natAbs < 2 ^ n → 2 * r.c.natAbs ≤ r.a.natAbs →
    (P.a.natAbs ≤ P.b.natAbs ∨ P.b = 0) → (P.c.natAbs ≤ P.d.natAbs ∨ P.d = 0) → (P.a.natAbs ≤ 1073741824) → (P.c.natAbs ≤ 1073741824) →
    valR false P ((facL n r).1 ++ [(facL n r).2.a * (facL n r).2.b]) = some (if (facL n r).2.a < 0 then m.minus else m)
  | n, P, r, m, hm, hP, hd, hn, hr, h1, h2, b1, b2 => by
    by_cases hc : r.c = 0
    · rw [facL_done hc]
      have he := fw_end (P := P) hc hd
      rw [hP] at he
      simp only [List.nil_append, valR, Bool.false_eq_true, if_false]
      rw [he]
      have hf : (if r.a < 0 then m.minus else m).fits = true := by split; exact fw_minus_fits hm; exact hm
      rw [if_pos hf]
    · cases n with
      | zero => simp at hn; exact absurd hn hc
      | succ n =>
        have hs := next_small hc
        have hq := fw_quot hc hr
        have hP' := fw_shift (P := P) hc
        rw [hP] at hP'
        have g1 := fw_grow (p := P.a) (p' := P.b) h1 hq
        have g2 := fw_grow (p := P.c) (p' := P.d) h2 hq
        have ea : r.next.a = r.c := rfl
        have hna : r.next.a ≠ 0 := by rw [ea]; exact hc
        have hnr : 2 * r.next.c.natAbs ≤ r.next.a.natAbs := by rw [ea]; exact hs
        obtain ⟨⟨m1, m2⟩, ⟨m3, m4⟩, ⟨m5, m6⟩, m7, m8⟩ := fits_bd hm
        have ma : m.a = (-P.a + P.b * nearQ r.a r.c) * r.next.a - P.b * r.next.c := by
          rw [← hP']; simp only [M2.times, M2.timesS, M2.timesT]; grind
        have mc : m.c = (-P.c + P.d * nearQ r.a r.c) * r.next.a - P.d * r.next.c := by
          rw [← hP']; simp only [M2.times, M2.timesS, M2.timesT]; grind
        have k1 := fw_row g1 hna hnr
        have k2 := fw_row g2 hna hnr
        rw [← ma] at k1
        rw [← mc] at k2
        have hfit : ((P.timesS).timesT (nearQ r.a r.c)).fits = true := by
          simp only [M2.fits, M2.timesS, M2.timesT]
          exact fitsB_iff.2 ⟨inB_iff.2 (by omega), inB_iff.2 (by omega), inB_iff.2 (by omega), inB_iff.2 (by omega)⟩
        have ih := fw_val n ((P.timesS).timesT (nearQ r.a r.c)) r.next m hm hP' (next_det hc hd) (by rw [Nat.pow_succ] at hn; omega) hnr
          (.inl g1) (.inl g2) (by simp only [M2.timesS, M2.timesT]; omega) (by simp only [M2.timesS, M2.timesT]; omega)
        simp only [facL, if_neg hc, List.cons_append, valR, Bool.false_eq_true, if_false]
        rw [if_pos hfit]
        exact ih
theorem fw_all : ∀ (n : Nat) (r : M2), r.fits = true → r.det = 1 → r.c.natAbs < 2 ^ n → ((facL n r).1 ++ [(facL n r).2.a * (facL n r).2.b]).all inB = true
  | n, r, hf, hd, hn => by
    by_cases hc : r.c = 0
    · rw [facL_done hc]
      obtain ⟨⟨m1, m2⟩, ⟨m3, m4⟩, ⟨m5, m6⟩, m7, m8⟩ := fits_bd hf
      obtain ⟨a, b, c, d⟩ := r
      simp only [M2.det] at hd hc
      subst hc
      have h1 : a * d = 1 := by omega
      simp only [List.nil_append, List.all_cons, List.all_nil, Bool.and_true]
      rcases unit_of h1 with ⟨rfl, rfl⟩ | ⟨rfl, rfl⟩ <;> exact inB_iff.2 (by simp only at *; omega)
    · cases n with
      | zero => simp at hn; exact absurd hn hc
      | succ n =>
        have hs := next_small hc
        have ih := fw_all n r.next (next_fits hf hc hd) (next_det hc hd) (by rw [Nat.pow_succ] at hn; omega)
        obtain ⟨h1, h2, h3, h4⟩ := fitsB_iff.1 hf
        simp only [facL, if_neg hc, List.cons_append, List.all_cons, ih, Bool.and_true]
        exact near_q_bd hc h1 h3
theorem fw_true {n : Nat} {m : M2} (hn : m.c.natAbs < 2 ^ (n + 1)) (hf : m.fits = true) (hd : m.det = 1) : valR true M2.one ((facL (n + 1) m).1 ++ [(facL (n + 1) m).2.a * (facL (n + 1) m).2.b]) = some (if (facL (n + 1) m).2.a < 0 then m.minus else m) := by
  obtain ⟨⟨m1, m2⟩, ⟨m3, m4⟩, ⟨m5, m6⟩, m7, m8⟩ := fits_bd hf
  by_cases hc : m.c = 0
  · rw [facL_done hc]
    have he : M2.one.timesT (m.a * m.b) = if m.a < 0 then m.minus else m := by
      obtain ⟨a, b, c, d⟩ := m
      simp only [M2.det] at hd hc
      subst hc
      have h1 : a * d = 1 := by omega
      rcases unit_of h1 with ⟨rfl, rfl⟩ | ⟨rfl, rfl⟩ <;> simp [M2.timesT, M2.one, M2.minus]
    simp only [List.nil_append, valR, if_true]
    rw [he]
    have hfm : (if m.a < 0 then m.minus else m).fits = true := by split; exact fw_minus_fits hf; exact hf
    rw [if_pos hfm]
  · have hs := next_small hc
    obtain ⟨h1, h2, h3, h4⟩ := fitsB_iff.1 hf
    have hq := near_q_bd hc h1 h3
    have hq' := inB_iff.1 hq
    have hP : (M2.one.timesT (nearQ m.a m.c)).timesS.times m.next = m := by
      have e : (M2.one.timesT (nearQ m.a m.c)).timesS = ⟨nearQ m.a m.c, -1, 1, 0⟩ := by
        simp [M2.timesT, M2.timesS, M2.one]
      rw [e]; exact step_eq hc
    have hfit : (M2.one.timesT (nearQ m.a m.c)).fits = true := by
      simp only [M2.fits, M2.timesT, M2.one]
      exact fitsB_iff.2 ⟨inB_iff.2 (by omega), inB_iff.2 (by omega), inB_iff.2 (by omega), inB_iff.2 (by omega)⟩
    have ea : m.next.a = m.c := rfl
    have key := fw_val n (M2.one.timesT (nearQ m.a m.c)) m.next m hf hP (next_det hc hd) (by rw [Nat.pow_succ] at hn; omega) (by rw [ea]; exact hs)
      (by simp only [M2.timesT, M2.one]; omega) (by simp only [M2.timesT, M2.one]; omega) (by simp only [M2.timesT, M2.one]; omega) (by simp only [M2.timesT, M2.one]; omega)
    simp only [facL, if_neg hc, List.cons_append, valR, if_true]
    rw [if_pos hfit]
    exact key
theorem fw_valF {ng : Bool} {l : List Int} {R : M2} (h1 : l.length ≠ 0) (h2 : l.length ≤ 200) (h3 : l.all inB = true) (h4 : valR true M2.one l = some R) : valF ⟨ng, l⟩ = (if ng = true then R.minus else R, 0) := by
  unfold valF; rw [if_neg h1, if_neg (by simp only; omega), if_pos h3]
  simp only [h4]
theorem val_fac {m : M2} (h : checkF m = 0) : valF (facW m) = (m, 0) := by
  obtain ⟨hf, hd⟩ := checkF_zero.1 h
  obtain ⟨⟨m1, m2⟩, ⟨m3, m4⟩, ⟨m5, m6⟩, m7, m8⟩ := fits_bd hf
  have hl := facL_len 31 m
  have ha := fw_all 31 m hf hd (by omega)
  have hv := fw_true (n := 30) (m := m) (by omega) hf hd
  have hz := fw_valF (ng := decide ((facL 31 m).2.a < 0)) (by simp) (by simp; omega) ha hv
  refine hz.trans ?_
  by_cases hn : (facL 31 m).2.a < 0
  · have hn' : (facL (30 + 1) m).2.a < 0 := hn
    rw [if_pos (decide_eq_true hn), if_pos hn']
    simp [M2.minus]
  · have hn' : ¬ (facL (30 + 1) m).2.a < 0 := hn
    rw [if_neg (by simpa using hn), if_neg hn']
theorem fac_len (m : M2) : (facW m).exps.length ≤ 32 := by
  have hl := facL_len 31 m
  simp only [facW, List.length_append, List.length_cons, List.length_nil]
  omega
end Go.Proofs.Ytkjcdiolimajdaa
