/- Plain model of the chains with chosen quotients, and its bounds. No program here. -/
import Derived.Test.YtalidpojcpmcbaaHbQ
namespace Go.Proofs.Ytalidpojcpmcbaa

def chQ (l : List Int) (u : Nat) (x y : Int) : Int :=
  if l = [] then flF x y else if (l.getD (u % l.length) 0).tmod 2 ≠ 0 ∧ x.tmod y ≠ 0 then flF x y + 1 else flF x y
def chU (l : List Int) (u : Nat) : Nat := if l = [] then u else u + 1
def chI : Nat → List Int → Nat → M2 → List M2 × Nat
  | 0, _, u, _ => ([], u)
  | f + 1, l, u, g => if g.b = 0 then ([], u) else
      (nxF g (chQ l u g.a g.b) :: (chI f l (chU l u) (nxF g (chQ l u g.a g.b))).1, (chI f l (chU l u) (nxF g (chQ l u g.a g.b))).2)
def chB : Nat → List Int → Int → Int → Int → Nat → List M2 × Nat
  | 0, _, _, _, _, u => ([], u)
  | f + 1, l, n, a, b, u => if b < a then
      (⟨a, b, 0, n.tdiv a⟩ :: ((chI 30 l u ⟨a, b, 0, n.tdiv a⟩).1 ++ (chB f l n a (b + 1) (chI 30 l u ⟨a, b, 0, n.tdiv a⟩).2).1), (chB f l n a (b + 1) (chI 30 l u ⟨a, b, 0, n.tdiv a⟩).2).2) else ([], u)
def chA : Nat → List Int → Int → Int → Nat → List M2
  | 0, _, _, _, _ => []
  | f + 1, l, n, a, u => if a ≤ n then (if n.tmod a = 0 then (chB 30 l n a 0 u).1 ++ chA f l n (a + 1) (chB 30 l n a 0 u).2 else chA f l n (a + 1) u) else []
def chF (l : List Int) (n : Int) : List M2 := chA 30 l n 1 0
theorem chI_len (l : List Int) : ∀ (f : Nat) (u : Nat) (g : M2), (chI f l u g).1.length ≤ f ∧ (chI f l u g).2 ≤ u + f
  | 0, u, g => by simp [chI]
  | f + 1, u, g => by
    unfold chI
    split
    · simp
    · have h := chI_len l f (chU l u) (nxF g (chQ l u g.a g.b))
      have hu : chU l u ≤ u + 1 := by unfold chU; split <;> omega
      simp only [List.length_cons]
      omega
theorem chB_len (l : List Int) (n a : Int) : ∀ (f : Nat) (b : Int) (u : Nat), (chB f l n a b u).1.length ≤ 31 * f ∧ (chB f l n a b u).2 ≤ u + 30 * f
  | 0, b, u => by simp [chB]
  | f + 1, b, u => by
    unfold chB
    split
    · have h1 := chI_len l 30 u ⟨a, b, 0, n.tdiv a⟩
      have h2 := chB_len l n a f (b + 1) (chI 30 l u ⟨a, b, 0, n.tdiv a⟩).2
      simp only [List.length_cons, List.length_append]
      omega
    · simp
theorem chA_len (l : List Int) (n : Int) : ∀ (f : Nat) (a : Int) (u : Nat), (chA f l n a u).length ≤ 930 * f
  | 0, a, u => by simp [chA]
  | f + 1, a, u => by
    unfold chA
    split
    · split
      · have h1 := chB_len l n a 30 0 u
        have h2 := chA_len l n f (a + 1) (chB 30 l n a 0 u).2
        simp only [List.length_append]
        omega
      · have h2 := chA_len l n f (a + 1) u
        omega
    · simp
/-- What stays true along a chain. -/
def ChInv (n : Int) (g : M2) : Prop := g.a * g.d - g.b * g.c = n ∧ g.a.natAbs ≤ 24 ∧ g.b.natAbs < g.a.natAbs ∧ g.c.natAbs ≤ 600 ∧ g.d.natAbs + 24 * g.b.natAbs ≤ 600
theorem fl_rem {x y : Int} (hy : y ≠ 0) : (flF x y * y - x).natAbs < y.natAbs ∧ (x.tmod y ≠ 0 → (flF x y * y - x + y).natAbs < y.natAbs) ∧ (x.tmod y = 0 ↔ flF x y * y = x) := by
  have ht : x.tmod y = 0 ↔ y ∣ x := ⟨Int.dvd_of_tmod_eq_zero, Int.tmod_eq_zero_of_dvd⟩
  unfold flF
  by_cases h : y < 0
  · rw [if_pos h]
    have h1 := Int.emod_add_mul_ediv (-x) (-y)
    have h2 := Int.emod_nonneg (-x) (b := -y) (by omega)
    have h3 := Int.emod_lt_of_pos (-x) (b := -y) (by omega)
    have e : (-x) / (-y) * y = -((-y) * ((-x) / (-y))) := by grind
    have h4 : y ∣ x ↔ (-x) % (-y) = 0 := by
      rw [← Int.dvd_iff_emod_eq_zero, Int.neg_dvd, Int.dvd_neg]
    rw [ht, h4, e]
    omega
  · rw [if_neg h]
    have h1 := Int.emod_add_mul_ediv x y
    have h2 := Int.emod_nonneg x (b := y) (by omega)
    have h3 := Int.emod_lt_of_pos x (b := y) (by omega)
    have e : x / y * y = y * (x / y) := by grind
    have h4 : y ∣ x ↔ x % y = 0 := Int.dvd_iff_emod_eq_zero
    rw [ht, h4, e]
    omega
theorem chQ_or (l : List Int) (u : Nat) (x y : Int) : chQ l u x y = flF x y ∨ (x.tmod y ≠ 0 ∧ chQ l u x y = flF x y + 1) := by
  unfold chQ
  split
  · exact .inl rfl
  · split
    · rename_i h; exact .inr ⟨h.2, rfl⟩
    · exact .inl rfl
theorem ch_step {n : Int} (h1 : 1 ≤ n) (h2 : n ≤ 24) {g : M2} (h : ChInv n g) (hb : g.b ≠ 0) {l : List Int} {u : Nat} {q : Int} (hq : chQ l u g.a g.b = q) :
    ChInv n (nxF g q) ∧ (nxF g q).b.natAbs < g.b.natAbs ∧ -100 ≤ q ∧ q ≤ 100 := by
  obtain ⟨g1, g2, g3, g4, g5⟩ := h
  obtain ⟨r1, r2, -⟩ := fl_rem (x := g.a) hb
  have hb' : (q * g.b - g.a).natAbs < g.b.natAbs := by
    rcases chQ_or l u g.a g.b with h | ⟨ht, h⟩
    · rw [← hq, h]; exact r1
    · rw [← hq, h, Int.add_mul, Int.one_mul]
      have := r2 ht
      have e : flF g.a g.b * g.b + g.b - g.a = flF g.a g.b * g.b - g.a + g.b := by omega
      rw [e]; exact this
  have hq1 : q.natAbs * g.b.natAbs ≤ 47 := by
    rw [← Int.natAbs_mul]
    omega
  have hq2 : q.natAbs * 1 ≤ q.natAbs * g.b.natAbs := Nat.mul_le_mul_left _ (by omega)
  have hdet : g.b * (q * g.d - g.c) - (q * g.b - g.a) * g.d = n := by rw [← g1]; grind
  have hd1 : g.b.natAbs * (q * g.d - g.c).natAbs ≤ n.natAbs + (q * g.b - g.a).natAbs * g.d.natAbs := by
    rw [← Int.natAbs_mul, ← Int.natAbs_mul]
    omega
  have hd2 : (q * g.b - g.a).natAbs * g.d.natAbs ≤ g.b.natAbs * g.d.natAbs := Nat.mul_le_mul_right _ (Nat.le_of_lt hb')
  have hd3 : n.natAbs ≤ g.b.natAbs * 24 := by omega
  have hd4 : (q * g.d - g.c).natAbs ≤ 24 + g.d.natAbs := by
    have hpos : 0 < g.b.natAbs := by omega
    apply Nat.le_of_mul_le_mul_left _ hpos
    rw [Nat.mul_add]
    omega
  refine ⟨⟨hdet, ?_, hb', ?_, ?_⟩, hb', by omega, by omega⟩
  · show g.b.natAbs ≤ 24
    omega
  · show g.d.natAbs ≤ 600
    omega
  · show (q * g.d - g.c).natAbs + 24 * (q * g.b - g.a).natAbs ≤ 600
    omega
theorem ch_sm {n : Int} {g : M2} (h : ChInv n g) : smM g = true := by
  obtain ⟨g1, g2, g3, g4, g5⟩ := h
  simp only [smM, Bool.and_eq_true, decide_eq_true_eq]
  omega
theorem ch_start {n a b : Int} (h1 : 1 ≤ n) (h2 : n ≤ 24) (ha : 1 ≤ a) (han : a ≤ n) (hb : 0 ≤ b) (hba : b < a) (hd : n.tmod a = 0) : ChInv n ⟨a, b, 0, n.tdiv a⟩ := by
  have e : a * n.tdiv a = n := Int.mul_tdiv_cancel' (Int.dvd_of_tmod_eq_zero hd)
  have h3 : n.tdiv a ≤ n := Int.tdiv_le_self _ (by omega)
  have h4 : 0 ≤ n.tdiv a := Int.tdiv_nonneg (by omega) (by omega)
  refine ⟨by simp [e], ?_, ?_, by simp, ?_⟩
  · show a.natAbs ≤ 24
    omega
  · show b.natAbs < a.natAbs
    omega
  · show (n.tdiv a).natAbs + 24 * b.natAbs ≤ 600
    omega
end Go.Proofs.Ytalidpojcpmcbaa
