/- Plain law: the chains satisfy the condition. No program here. -/
import Derived.Test.YtalidpojcpmcbaaHbZ
import Derived.Test.YtalidpojcpmcbaaHcE
namespace Go.Proofs.Ytalidpojcpmcbaa

theorem cls_next {n : Int} (hn : 1 ≤ n) {g : M2} (hdet : g.a * g.d - g.b * g.c = n) (q : Int) : clsF (nxF g q) n = clsF g n := by
  have hdet2 : (nxF g q).a * (nxF g q).d - (nxF g q).b * (nxF g q).c = n := by
    show g.b * (q * g.d - g.c) - (q * g.b - g.a) * g.d = n
    rw [← hdet]; grind
  obtain ⟨a1, a2, -, a4, a5, -, a7, a8, a9⟩ := cls_spec hn hdet
  obtain ⟨b1, b2, -, b4, b5, -, b7, b8, b9⟩ := cls_spec hn hdet2
  have hg : Int.gcd (nxF g q).c (nxF g q).d = Int.gcd g.c g.d := by
    show Int.gcd g.d (q * g.d - g.c) = Int.gcd g.c g.d
    apply Nat.dvd_antisymm
    · have e1 : ((Int.gcd g.d (q * g.d - g.c) : Nat) : Int) ∣ g.d := Int.gcd_dvd_left ..
      have e2 : ((Int.gcd g.d (q * g.d - g.c) : Nat) : Int) ∣ q * g.d - g.c := Int.gcd_dvd_right ..
      have e3 : ((Int.gcd g.d (q * g.d - g.c) : Nat) : Int) ∣ g.c := by
        have := Int.dvd_sub (Int.dvd_mul_of_dvd_right (b := q) e1) e2
        have e : q * g.d - (q * g.d - g.c) = g.c := by omega
        rwa [e] at this
      have h1 := Int.natAbs_dvd_natAbs.2 e1
      have h3 := Int.natAbs_dvd_natAbs.2 e3
      simp only [Int.natAbs_natCast] at h1 h3
      exact Nat.dvd_gcd h3 h1
    · have e1 : ((Int.gcd g.c g.d : Nat) : Int) ∣ g.d := Int.gcd_dvd_right ..
      have e2 : ((Int.gcd g.c g.d : Nat) : Int) ∣ g.c := Int.gcd_dvd_left ..
      have e3 : ((Int.gcd g.c g.d : Nat) : Int) ∣ q * g.d - g.c := Int.dvd_sub (Int.dvd_mul_of_dvd_right e1) e2
      have h1 := Int.natAbs_dvd_natAbs.2 e1
      have h3 := Int.natAbs_dvd_natAbs.2 e3
      simp only [Int.natAbs_natCast] at h1 h3
      exact Nat.dvd_gcd h1 h3
  have hd : (clsF (nxF g q) n).d = (clsF g n).d := by rw [a1, b1, hg]
  have ha : (clsF (nxF g q) n).a = (clsF g n).a := by rw [a4, b4, hd]
  have hb : (clsF (nxF g q) n).b = (clsF g n).b := by
    obtain ⟨-, u, v, huv, -⟩ := cl_end g
    have h1 := a9 u v huv
    have h2 := b9 (v + q * u) (-u) (by
      rw [hg, ← huv]
      show (v + q * u) * g.d + -u * (q * g.d - g.c) = u * g.c + v * g.d
      grind)
    rw [← h1, ← h2, ha]
    congr 1
    show g.b * (v + q * u) + (q * g.b - g.a) * -u = g.a * u + g.b * v
    grind
  generalize clsF (nxF g q) n = x at *
  generalize clsF g n = y at *
  cases x; cases y
  simp only at hd ha hb
  rw [hd, ha, hb]
theorem cls_top {n a b : Int} (hn : 1 ≤ n) (ha : 1 ≤ a) (hb : 0 ≤ b) (hba : b < a) (hd : n.tmod a = 0) : clsF ⟨a, b, 0, n.tdiv a⟩ n = ⟨a, b, n.tdiv a⟩ := by
  have e : a * n.tdiv a = n := Int.mul_tdiv_cancel' (Int.dvd_of_tmod_eq_zero hd)
  have h0 : 0 ≤ n.tdiv a := Int.tdiv_nonneg (by omega) (by omega)
  generalize n.tdiv a = D at *
  have h4 : 0 < D := by
    have h1 : D ≠ 0 := fun h => by rw [h] at e; simp at e; omega
    omega
  obtain ⟨a1, a2, -, a4, a5, a6, a7, a8, a9⟩ := cls_spec (m := ⟨a, b, 0, D⟩) hn (by simp [e])
  have hg : (Int.gcd 0 D : Int) = D := by rw [Int.gcd_zero_left]; omega
  simp only at a1 a9
  rw [hg] at a1 a9
  generalize clsF ⟨a, b, 0, D⟩ n = x at *
  have ha1 : x.a = a := by
    have h1 : D * x.a = D * a := by rw [← a1, a6, a1, Int.mul_comm, e]
    exact Int.eq_of_mul_eq_mul_left (by omega) h1
  have hb1 : x.b = b := by
    have h1 := a9 0 1 (by omega)
    rw [ha1] at h1
    simp only [Int.mul_zero, Int.mul_one, Int.zero_add] at h1
    rw [← h1, Int.emod_eq_of_lt hb hba]
  cases x
  simp only at a1 ha1 hb1
  rw [a1, ha1, hb1]
theorem cu_zero {d : Int} (hd : d ≠ 0) : cuF 0 d = ⟨0, 1⟩ := by
  have hg : (Int.gcd 0 d : Int) = d.natAbs := by simp
  unfold cuF
  rw [hg]
  by_cases h : d < 0
  · have e : (d.natAbs : Int) = -d := by omega
    have e2 : d.tdiv (-d) = -1 := by rw [Int.tdiv_neg, Int.tdiv_self hd]
    rw [e, e2]
    simp
  · have e : (d.natAbs : Int) = d := by omega
    rw [e, Int.tdiv_self hd]
    simp
theorem cu_inf {a : Int} (ha : 0 < a) : cuF a 0 = ⟨1, 0⟩ := by
  have hg : (Int.gcd a 0 : Int) = a := by simp; omega
  unfold cuF
  rw [hg, Int.tdiv_self (by omega)]
  simp
def ind (K : K3) (c0 : C2) (k : K3) (c : C2) : Int := if K = k ∧ c0 = c then 1 else 0
theorem evM_val (n : Int) (m : M2) (k : K3) (c : C2) : valE (evM n m) k c = ind (clsF m n) (cuF m.a m.c) k c - ind (clsF m n) (cuF m.b m.d) k c := by
  simp only [evM, valE, ind]
  split <;> split <;> omega
theorem evL_cons (n : Int) (m : M2) (l : List M2) (k : K3) (c : C2) : valE (evL n (m :: l)) k c = valE (evM n m) k c + valE (evL n l) k c := by
  have : evL n (m :: l) = evM n m ++ evL n l := by simp [evL]
  rw [this, valE_append]
theorem evL_append (n : Int) (x y : List M2) (k : K3) (c : C2) : valE (evL n (x ++ y)) k c = valE (evL n x) k c + valE (evL n y) k c := by
  have : evL n (x ++ y) = evL n x ++ evL n y := by simp [evL]
  rw [this, valE_append]
theorem ch_d {n : Int} (hn : 1 ≤ n) {g : M2} (h : ChInv n g) (hb : g.b = 0) : g.d ≠ 0 := by
  intro hd
  have h1 := h.1
  rw [hb, hd] at h1
  simp at h1
  omega
/-- Along a chain the sum telescopes. -/
theorem chI_val {n : Int} (h1 : 1 ≤ n) (h2 : n ≤ 24) (l : List Int) (k : K3) (c : C2) : ∀ (f : Nat) (u : Nat) (g : M2), g.b.natAbs < f → ChInv n g →
    valE (evL n (chI f l u g).1) k c = ind (clsF g n) (cuF g.b g.d) k c - ind (clsF g n) ⟨0, 1⟩ k c
  | 0, u, g, hf, _ => by omega
  | f + 1, u, g, hf, hi => by
    unfold chI
    by_cases hb : g.b = 0
    · rw [if_pos hb, hb, cu_zero (ch_d h1 hi hb)]
      simp [evL, valE]
    · rw [if_neg hb]
      obtain ⟨hi2, hb2, -, -⟩ := ch_step h1 h2 hi hb (l := l) (u := u) rfl
      have ih := chI_val h1 h2 l k c f (chU l u) (nxF g (chQ l u g.a g.b)) (by omega) hi2
      simp only
      rw [evL_cons, ih, evM_val, cls_next h1 hi.1]
      show ind (clsF g n) (cuF g.b g.d) k c - _ + (_ - _) = _
      omega
theorem chI_inv {n : Int} (h1 : 1 ≤ n) (h2 : n ≤ 24) (l : List Int) : ∀ (f : Nat) (u : Nat) (g : M2), ChInv n g → ∀ m ∈ (chI f l u g).1, ChInv n m
  | 0, u, g, hi, m, hm => by simp [chI] at hm
  | f + 1, u, g, hi, m, hm => by
    unfold chI at hm
    by_cases hb : g.b = 0
    · rw [if_pos hb] at hm; simp at hm
    · rw [if_neg hb] at hm
      obtain ⟨hi2, -, -, -⟩ := ch_step h1 h2 hi hb (l := l) (u := u) rfl
      simp only [List.mem_cons] at hm
      rcases hm with rfl | hm
      · exact hi2
      · exact chI_inv h1 h2 l f _ _ hi2 m hm
theorem chI_short {n : Int} (h1 : 1 ≤ n) (h2 : n ≤ 24) (l : List Int) : ∀ (f : Nat) (u : Nat) (g : M2), ChInv n g → (chI f l u g).1.length ≤ g.b.natAbs
  | 0, u, g, hi => by simp [chI]
  | f + 1, u, g, hi => by
    unfold chI
    by_cases hb : g.b = 0
    · rw [if_pos hb]; simp
    · rw [if_neg hb]
      obtain ⟨hi2, hb2, -, -⟩ := ch_step h1 h2 hi hb (l := l) (u := u) rfl
      have := chI_short h1 h2 l f (chU l u) _ hi2
      simp only [List.length_cons]
      omega
theorem chB_val {n a : Int} (h1 : 1 ≤ n) (h2 : n ≤ 24) (ha : 1 ≤ a) (han : a ≤ n) (hd : n.tmod a = 0) (l : List Int) (k : K3) (c : C2) : ∀ (f1 f2 : Nat) (b : Int) (u : Nat), 0 ≤ b → a - b < f1 → a - b < f2 →
    valE (evL n (chB f1 l n a b u).1) k c + valE (evB f2 n a b) k c = 0
  | 0, f2, b, u, hb, hf1, hf2 => by
    have hlt : ¬ b < a := by omega
    cases f2 with
    | zero => simp [chB, evB, evL, valE]
    | succ f2 => unfold chB evB; rw [if_neg hlt]; simp [evL, valE]
  | f1 + 1, 0, b, u, hb, hf1, hf2 => by
    have hlt : ¬ b < a := by omega
    unfold chB evB; rw [if_neg hlt]; simp [evL, valE]
  | f1 + 1, f2 + 1, b, u, hb, hf1, hf2 => by
    unfold chB evB
    by_cases hlt : b < a
    · rw [if_pos hlt, if_pos hlt]
      have hi := ch_start h1 h2 ha han hb hlt hd
      have hc := chI_val h1 h2 l k c 30 u _ (by show b.natAbs < 30; omega) hi
      have ih := chB_val h1 h2 ha han hd l k c f1 f2 (b + 1) (chI 30 l u ⟨a, b, 0, n.tdiv a⟩).2 (by omega) (by omega) (by omega)
      simp only
      rw [evL_cons, evL_append, hc, evM_val, cls_top h1 ha hb hlt hd]
      simp only [valE]
      rw [cu_inf (by omega)]
      simp only [ind]
      split <;> split <;> omega
    · rw [if_neg hlt, if_neg hlt]; simp [evL, valE]
theorem chA_val {n : Int} (h1 : 1 ≤ n) (h2 : n ≤ 24) (l : List Int) (k : K3) (c : C2) : ∀ (f1 f2 : Nat) (a : Int) (u : Nat), 1 ≤ a → n + 1 - a < f1 → n + 1 - a < f2 →
    valE (evL n (chA f1 l n a u)) k c + valE (evA f2 n a) k c = 0
  | 0, f2, a, u, ha, hf1, hf2 => by
    have hlt : ¬ a ≤ n := by omega
    cases f2 with
    | zero => simp [chA, evA, evL, valE]
    | succ f2 => unfold chA evA; rw [if_neg hlt]; simp [evL, valE]
  | f1 + 1, 0, a, u, ha, hf1, hf2 => by
    have hlt : ¬ a ≤ n := by omega
    unfold chA evA; rw [if_neg hlt]; simp [evL, valE]
  | f1 + 1, f2 + 1, a, u, ha, hf1, hf2 => by
    unfold chA evA
    by_cases hle : a ≤ n
    · rw [if_pos hle, if_pos hle]
      by_cases hd : n.tmod a = 0
      · rw [if_pos hd, if_pos hd]
        have hb := chB_val h1 h2 ha hle hd l k c 30 130 0 u (by omega) (by omega) (by omega)
        have ih := chA_val h1 h2 l k c f1 f2 (a + 1) (chB 30 l n a 0 u).2 (by omega) (by omega) (by omega)
        rw [evL_append, valE_append]
        omega
      · rw [if_neg hd, if_neg hd]
        have ih := chA_val h1 h2 l k c f1 f2 (a + 1) u (by omega) (by omega) (by omega)
        rw [List.nil_append]
        exact ih
    · rw [if_neg hle, if_neg hle]; simp [evL, valE]
theorem chB_inv {n a : Int} (h1 : 1 ≤ n) (h2 : n ≤ 24) (ha : 1 ≤ a) (han : a ≤ n) (hd : n.tmod a = 0) (l : List Int) : ∀ (f : Nat) (b : Int) (u : Nat), 0 ≤ b → ∀ m ∈ (chB f l n a b u).1, ChInv n m
  | 0, b, u, hb, m, hm => by simp [chB] at hm
  | f + 1, b, u, hb, m, hm => by
    unfold chB at hm
    by_cases hlt : b < a
    · rw [if_pos hlt] at hm
      have hi := ch_start h1 h2 ha han hb hlt hd
      simp only [List.mem_cons, List.mem_append] at hm
      rcases hm with rfl | hm | hm
      · exact hi
      · exact chI_inv h1 h2 l 30 _ _ hi m hm
      · exact chB_inv h1 h2 ha han hd l f _ _ (by omega) m hm
    · rw [if_neg hlt] at hm; simp at hm
theorem chA_inv {n : Int} (h1 : 1 ≤ n) (h2 : n ≤ 24) (l : List Int) : ∀ (f : Nat) (a : Int) (u : Nat), 1 ≤ a → ∀ m ∈ chA f l n a u, ChInv n m
  | 0, a, u, ha, m, hm => by simp [chA] at hm
  | f + 1, a, u, ha, m, hm => by
    unfold chA at hm
    by_cases hle : a ≤ n
    · rw [if_pos hle] at hm
      by_cases hd : n.tmod a = 0
      · rw [if_pos hd, List.mem_append] at hm
        rcases hm with hm | hm
        · exact chB_inv h1 h2 ha hle hd l 30 0 _ (by omega) m hm
        · exact chA_inv h1 h2 l f _ _ (by omega) m hm
      · rw [if_neg hd] at hm
        exact chA_inv h1 h2 l f _ _ (by omega) m hm
    · rw [if_neg hle] at hm; simp at hm
theorem chB_short {n a : Int} (h1 : 1 ≤ n) (h2 : n ≤ 24) (ha : 1 ≤ a) (han : a ≤ n) (hd : n.tmod a = 0) (l : List Int) : ∀ (f : Nat) (b : Int) (u : Nat), 0 ≤ b → b ≤ a →
    2 * ((chB f l n a b u).1.length : Int) + b * (b + 1) ≤ a * (a + 1)
  | 0, b, u, hb, hba => by
    have h3 : b * (b + 1) ≤ a * (a + 1) := Int.mul_le_mul hba (by omega) (by omega) (by omega)
    simp [chB]
    exact h3
  | f + 1, b, u, hb, hba => by
    have h3 : b * (b + 1) ≤ a * (a + 1) := Int.mul_le_mul hba (by omega) (by omega) (by omega)
    unfold chB
    by_cases hlt : b < a
    · rw [if_pos hlt]
      have hi := ch_start h1 h2 ha han hb hlt hd
      have hs := chI_short h1 h2 l 30 u _ hi
      have ih := chB_short h1 h2 ha han hd l f (b + 1) (chI 30 l u ⟨a, b, 0, n.tdiv a⟩).2 (by omega) (by omega)
      have e : (b + 1) * (b + 1 + 1) = b * (b + 1) + 2 * (b + 1) := by grind
      rw [e] at ih
      simp only [List.length_cons, List.length_append]
      have hs2 : (chI 30 l u ⟨a, b, 0, n.tdiv a⟩).1.length ≤ b.natAbs := hs
      omega
    · rw [if_neg hlt]
      simp
      exact h3
theorem chA_short {n : Int} (h1 : 1 ≤ n) (h2 : n ≤ 24) (l : List Int) : ∀ (f : Nat) (a : Int) (u : Nat), 1 ≤ a → a ≤ n + 1 → 6 * ((chA f l n a u).length : Int) + (a - 1) * (a * (a + 1)) ≤ n * ((n + 1) * (n + 2))
  | 0, a, u, ha, han => by
    have h3 : (a - 1) * (a * (a + 1)) ≤ n * ((n + 1) * (n + 2)) :=
      Int.mul_le_mul (by omega) (Int.mul_le_mul (by omega) (by omega) (by omega) (by omega)) (Int.mul_nonneg (by omega) (by omega)) (by omega)
    simp [chA]
    exact h3
  | f + 1, a, u, ha, han => by
    have h3 : (a - 1) * (a * (a + 1)) ≤ n * ((n + 1) * (n + 2)) :=
      Int.mul_le_mul (by omega) (Int.mul_le_mul (by omega) (by omega) (by omega) (by omega)) (Int.mul_nonneg (by omega) (by omega)) (by omega)
    unfold chA
    by_cases hle : a ≤ n
    · rw [if_pos hle]
      have e : (a + 1 - 1) * ((a + 1) * (a + 1 + 1)) = (a - 1) * (a * (a + 1)) + 3 * (a * (a + 1)) := by grind
      by_cases hd : n.tmod a = 0
      · rw [if_pos hd]
        have hb := chB_short h1 h2 ha hle hd l 30 0 u (by omega) (by omega)
        have ih := chA_short h1 h2 l f (a + 1) (chB 30 l n a 0 u).2 (by omega) (by omega)
        rw [e] at ih
        simp only [List.length_append]
        simp only [Int.zero_mul] at hb
        omega
      · rw [if_neg hd]
        have ih := chA_short h1 h2 l f (a + 1) u (by omega) (by omega)
        rw [e] at ih
        have : 0 ≤ a * (a + 1) := Int.mul_nonneg (by omega) (by omega)
        omega
    · rw [if_neg hle]
      simp
      exact h3
theorem ch_fits {n : Int} {m : M2} (h : ChInv n m) : fitsF m n = true := by
  obtain ⟨g1, g2, g3, g4, g5⟩ := h
  simp only [fitsF, Bool.and_eq_true, beq_iff_eq]
  exact ⟨okM_iff.2 (by omega), g1⟩
theorem chF_short {n : Int} (h1 : 1 ≤ n) (h2 : n ≤ 24) (l : List Int) : (chF l n).length ≤ 2600 := by
  have h := chA_short h1 h2 l 30 1 0 (by omega) (by omega)
  have h3 : n * ((n + 1) * (n + 2)) ≤ 24 * (25 * 26) :=
    Int.mul_le_mul (by omega) (Int.mul_le_mul (by omega) (by omega) (by omega) (by omega)) (Int.mul_nonneg (by omega) (by omega)) (by omega)
  unfold chF
  omega
theorem chF_inv {n : Int} (h1 : 1 ≤ n) (h2 : n ≤ 24) (l : List Int) : ∀ m ∈ chF l n, ChInv n m := chA_inv h1 h2 l 30 1 0 (by omega)
theorem chF_sat {n : Int} (h1 : 1 ≤ n) (h2 : n ≤ 24) (l : List Int) : SatP n (chF l n) := by
  refine ⟨⟨h1, by omega, by have := chF_short h1 h2 l; omega⟩, fun m hm => ch_fits (chF_inv h1 h2 l m hm), fun k c => ?_⟩
  rw [tAll_val]
  unfold evAll
  rw [valE_append]
  exact chA_val h1 h2 l k c 30 130 1 0 (by omega) (by omega) (by omega)
end Go.Proofs.Ytalidpojcpmcbaa
