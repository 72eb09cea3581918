/- Plain model of the list of normal forms. No program here. -/
import Derived.Test.YtcgiancmponmgaaPjB
namespace Go.Proofs.Ytcgiancmponmgaa

def leaS (n u v : Int) : Nat → Int → Bool
  | 0, _ => true
  | f + 1, s => if s < n then (if (Int.gcd s n : Int) = 1 ∧ ((s * u).tmod n < u ∨ ((s * u).tmod n = u ∧ (s * v).tmod n < v)) then false else leaS n u v f (s + 1)) else true
def lea (n u v : Int) : Bool := leaS n u v 130 2
def okP (n u v : Int) : Bool := decide ((Int.gcd ((Int.gcd u v : Nat) : Int) n : Int) = 1) && lea n u v
def lsA (n : Int) : Nat → List P3
  | 0 => []
  | k + 1 => lsA n k ++ if okP n ((k : Int) / n) ((k : Int) % n) = true then [⟨(k : Int) / n, (k : Int) % n, 1⟩] else []
def lsF (n : Int) : List P3 := lsA n (n.toNat * n.toNat)
def unA (n : Int) : Nat → List Int
  | 0 => []
  | k + 1 => unA n k ++ if (Int.gcd ((k : Int) + 1) n : Int) = 1 then [(k : Int) + 1] else []
theorem leaS_iff {n u v : Int} (hu : 0 ≤ u) (hv : 0 ≤ v) : ∀ (f : Nat) (s : Int), n - s ≤ f → 2 ≤ s → (leaS n u v f s = true ↔ ∀ s', s ≤ s' → s' < n → Int.gcd s' n = 1 → u < (s' * u) % n ∨ (u = (s' * u) % n ∧ v ≤ (s' * v) % n))
  | 0, s, h, h2 => by
    unfold leaS
    simp only [true_iff]
    intro s' g1 g2
    omega
  | f + 1, s, h, h2 => by
    unfold leaS
    by_cases hs : s < n
    · rw [if_pos hs]
      have k1 : (s * u).tmod n = (s * u) % n := Int.tmod_eq_emod_of_nonneg (Int.mul_nonneg (by omega) hu)
      have k2 : (s * v).tmod n = (s * v) % n := Int.tmod_eq_emod_of_nonneg (Int.mul_nonneg (by omega) hv)
      rw [k1, k2]
      split
      · rename_i hb
        simp only [Bool.false_eq_true, false_iff]
        intro hall
        have := hall s (Int.le_refl _) hs (by have := hb.1; omega)
        rcases this with h | h <;> rcases hb.2 with h' | h' <;> omega
      · rename_i hb
        rw [leaS_iff hu hv f (s + 1) (by omega) (by omega)]
        constructor
        · intro hall s' g1 g2 g3
          by_cases e : s' = s
          · subst e
            have hb2 : ¬ (s' * u % n < u ∨ (s' * u % n = u ∧ s' * v % n < v)) := fun h => hb ⟨by omega, h⟩
            omega
          · exact hall s' (by omega) g2 g3
        · intro hall s' g1 g2 g3
          exact hall s' (by omega) g2 g3
    · rw [if_neg hs]
      simp only [true_iff]
      intro s' g1 g2
      omega
theorem lea_iff {n u v : Int} (h1 : 1 ≤ n) (h2 : n ≤ 120) (hu : 0 ≤ u) (hun : u < n) (hv : 0 ≤ v) (hvn : v < n) : lea n u v = true ↔ Lst n u v ⟨u, v, 1⟩ := by
  have e1 : (1 * u) % n = u := by rw [Int.one_mul]; exact Int.emod_eq_of_lt hu hun
  have e2 : (1 * v) % n = v := by rw [Int.one_mul]; exact Int.emod_eq_of_lt hv hvn
  unfold lea
  rw [leaS_iff hu hv 130 2 (by omega) (by omega)]
  constructor
  · intro hall
    refine ⟨by show (1 : Int) ≤ 1; omega, by show (1 : Int) ≤ n; omega, Int.gcd_one_left _, e1.symm, e2.symm, fun s g1 g2 g3 => ?_⟩
    show u < s * u % n ∨ (u = s * u % n ∧ v ≤ s * v % n)
    by_cases c1 : s = 1
    · subst c1; right; rw [e1, e2]; exact ⟨rfl, Int.le_refl _⟩
    · by_cases c2 : s = n
      · rw [c2, Int.gcd_self] at g3
        omega
      · exact hall s (by omega) (by omega) g3
  · intro hl s g1 g2 g3
    exact hl.least s (by omega) (by omega) g3
/-- gcd of a pair and n, by Bezout. -/
theorem g3_iff {a b n : Int} : Int.gcd ((Int.gcd a b : Nat) : Int) n = 1 ↔ ∃ x y z : Int, x * a + y * b + z * n = 1 := by
  constructor
  · intro h
    obtain ⟨u, v, huv⟩ := bez1 h
    obtain ⟨p, q, hpq⟩ := bez b.natAbs a b (Nat.le_refl _)
    exact ⟨u * p, u * q, v, by rw [← huv, ← hpq]; grind⟩
  · rintro ⟨x, y, z, h⟩
    have ha : ((Int.gcd a b : Nat) : Int) ∣ a := Int.gcd_dvd_left ..
    have hb : ((Int.gcd a b : Nat) : Int) ∣ b := Int.gcd_dvd_right ..
    obtain ⟨k, hk⟩ := ha
    obtain ⟨j, hj⟩ := hb
    refine cop_of (u := x * k + y * j) (v := z) ?_
    rw [← h]
    generalize ((Int.gcd a b : Nat) : Int) = g at *
    rw [hk, hj]
    grind
/-- Being coprime to n is a matter of the pair modulo n, and of its orbit. -/
theorem g3_move {n a b a' b' s : Int} (hs : Int.gcd s n = 1) (ea : eqN n a' (s * a)) (eb : eqN n b' (s * b)) (h : Int.gcd ((Int.gcd a b : Nat) : Int) n = 1) : Int.gcd ((Int.gcd a' b' : Nat) : Int) n = 1 := by
  obtain ⟨x, y, z, e⟩ := g3_iff.1 h
  obtain ⟨t, k, hk⟩ := unit_inv hs
  obtain ⟨p, hp⟩ := ea
  obtain ⟨q, hq⟩ := eb
  refine g3_iff.2 ⟨t * x, t * y, z - t * x * p - t * y * q - (x * a + y * b) * k, ?_⟩
  have e1 : a' = s * a + n * p := by omega
  have e2 : b' = s * b + n * q := by omega
  have e3 : t * s = 1 + n * k := by omega
  rw [e1, e2]
  have e4 : x * a + y * b = 1 - z * n := by omega
  have : t * x * (s * a + n * p) + t * y * (s * b + n * q) + (z - t * x * p - t * y * q - (x * a + y * b) * k) * n = (t * s) * (x * a + y * b) + z * n - (x * a + y * b) * k * n := by grind
  rw [this, e3]
  grind
theorem eqN.of_eq {n x y : Int} (h : x = y) : eqN n x y := h ▸ eqN.refl n x
/-- The pairs with number below k that the units lead from the points of the list. -/
def seenB (n : Int) (k : Nat) (q : Nat) : Prop := ∃ j : Nat, j < k ∧ okP n ((j : Int) / n) ((j : Int) % n) = true ∧ ∃ s, 1 ≤ s ∧ s ≤ n ∧ Int.gcd s n = 1 ∧ (q : Int) = (s * ((j : Int) / n)) % n * n + (s * ((j : Int) % n)) % n
theorem key_div {n u v : Int} (h1 : 1 ≤ n) (hv : 0 ≤ v) (hvn : v < n) : (u * n + v) / n = u ∧ (u * n + v) % n = v := by
  constructor
  · rw [Int.add_comm, Int.add_mul_ediv_right _ _ (by omega), Int.ediv_eq_zero_of_lt hv hvn]; omega
  · rw [Int.add_comm, Int.add_mul_emod_self_right, Int.emod_eq_of_lt hv hvn]
theorem key_lt {n u v u' v' : Int} (h1 : 1 ≤ n) (hv : 0 ≤ v) (hvn : v < n) (hv' : 0 ≤ v') (hvn' : v' < n) : u * n + v < u' * n + v' ↔ (u < u' ∨ (u = u' ∧ v < v')) := by
  constructor
  · intro h
    rcases Int.lt_trichotomy u u' with g | g | g
    · exact .inl g
    · subst g; exact .inr ⟨rfl, by omega⟩
    · exfalso
      have : (u' + 1) * n ≤ u * n := Int.mul_le_mul_of_nonneg_right (by omega) (by omega)
      rw [Int.add_mul] at this
      omega
  · rintro (h | ⟨h, h'⟩)
    · have : (u + 1) * n ≤ u' * n := Int.mul_le_mul_of_nonneg_right (by omega) (by omega)
      rw [Int.add_mul] at this
      omega
    · subst h; omega
theorem Lst.rng {n c d : Int} {x : P3} (h : Lst n c d x) (h1 : 1 ≤ n) : 0 ≤ x.u ∧ x.u < n ∧ 0 ≤ x.v ∧ x.v < n := by
  rw [h.eu, h.ev]
  exact ⟨Int.emod_nonneg _ (by omega), Int.emod_lt_of_pos _ (by omega), Int.emod_nonneg _ (by omega), Int.emod_lt_of_pos _ (by omega)⟩
theorem okP_iff {n u v : Int} (h1 : 1 ≤ n) (h2 : n ≤ 120) (hu : 0 ≤ u) (hun : u < n) (hv : 0 ≤ v) (hvn : v < n) : okP n u v = true ↔ (Int.gcd ((Int.gcd u v : Nat) : Int) n = 1 ∧ Lst n u v ⟨u, v, 1⟩) := by
  unfold okP
  rw [Bool.and_eq_true, decide_eq_true_eq, lea_iff h1 h2 hu hun hv hvn]
  constructor
  · rintro ⟨a, b⟩; exact ⟨by omega, b⟩
  · rintro ⟨a, b⟩; exact ⟨by omega, b⟩
/-- The least pair of a coprime pair is a point of the list. -/
theorem okP_least {n c d : Int} {x : P3} (h1 : 1 ≤ n) (h2 : n ≤ 120) (hg : Int.gcd ((Int.gcd c d : Nat) : Int) n = 1) (hx : Lst n c d x) : okP n x.u x.v = true := by
  obtain ⟨r1, r2, r3, r4⟩ := hx.rng h1
  refine (okP_iff h1 h2 r1 r2 r3 r4).2 ⟨g3_move hx.cop (eqN.iff.2 (by rw [hx.eu, Int.emod_emod])) (eqN.iff.2 (by rw [hx.ev, Int.emod_emod])) hg, ?_⟩
  have hy := nmX_spec h1 h2 r1 r2 r3 r4
  obtain ⟨e1, e2⟩ := Lst.same h1 hx hy hx.cop (eqN.iff.2 (by rw [hx.eu, Int.emod_emod])) (eqN.iff.2 (by rw [hx.ev, Int.emod_emod]))
  refine ⟨by show (1 : Int) ≤ 1; omega, by show (1 : Int) ≤ n; omega, Int.gcd_one_left _, ?_, ?_, fun s g1 g2 g3 => ?_⟩
  · show x.u = (1 * x.u) % n; rw [Int.one_mul, Int.emod_eq_of_lt r1 r2]
  · show x.v = (1 * x.v) % n; rw [Int.one_mul, Int.emod_eq_of_lt r3 r4]
  · have := hy.least s g1 g2 g3
    rw [e1, e2] at this
    exact this
theorem seen_iff {n : Int} {k : Nat} (h1 : 1 ≤ n) (h2 : n ≤ 120) (hk : (k : Int) < n * n) (hg : Int.gcd ((Int.gcd ((k : Int) / n) ((k : Int) % n) : Nat) : Int) n = 1) : (okP n ((k : Int) / n) ((k : Int) % n) = true ↔ ¬ seenB n k k) := by
  have hu : 0 ≤ (k : Int) / n := Int.ediv_nonneg (by omega) (by omega)
  have hun : (k : Int) / n < n := Int.ediv_lt_of_lt_mul (by omega) hk
  have hv : 0 ≤ (k : Int) % n := Int.emod_nonneg _ (by omega)
  have hvn : (k : Int) % n < n := Int.emod_lt_of_pos _ (by omega)
  have hkk : (k : Int) / n * n + (k : Int) % n = k := by have := Int.emod_add_mul_ediv (k : Int) n; rw [Int.mul_comm]; omega
  constructor
  · rintro hok ⟨j, hj, hjo, s, s1, s2, s3, he⟩
    have hl := ((okP_iff h1 h2 hu hun hv hvn).1 hok).2
    have ju : 0 ≤ (j : Int) / n := Int.ediv_nonneg (by omega) (by omega)
    have jv : 0 ≤ (j : Int) % n := Int.emod_nonneg _ (by omega)
    have jvn : (j : Int) % n < n := Int.emod_lt_of_pos _ (by omega)
    have jun : (j : Int) / n < n := Int.ediv_lt_of_lt_mul (by omega) (by omega)
    have hjj : (j : Int) / n * n + (j : Int) % n = j := by have := Int.emod_add_mul_ediv (j : Int) n; rw [Int.mul_comm]; omega
    obtain ⟨d1, d2⟩ := key_div (u := (s * ((j : Int) / n)) % n) (v := (s * ((j : Int) % n)) % n) h1 (Int.emod_nonneg _ (by omega)) (Int.emod_lt_of_pos _ (by omega))
    rw [← he] at d1 d2
    obtain ⟨t, ht⟩ := unit_inv s3
    have hl1 := hl.le h1 (s := t) (unit_of (t := s) (by rw [Int.mul_comm]; exact ht))
    have m1 : ∀ z, 0 ≤ z → z < n → (t * ((s * z) % n)) % n = z := fun z z0 zn => by
      have e1 := ((eqN.of_mod n (s * z)).mul t)
      have e2 := ht.mul z
      rw [Int.mul_one] at e2
      have e3 : t * (s * z) = z * (t * s) := by grind
      rw [e3] at e1
      rw [(e1.trans e2).mod, Int.emod_eq_of_lt z0 zn]
    rw [d1, d2] at hl1
    simp only at hl1
    rw [m1 _ ju jun, m1 _ jv jvn] at hl1
    have hlt := (key_lt (u := (j : Int) / n) (v := (j : Int) % n) (u' := (k : Int) / n) (v' := (k : Int) % n) h1 jv jvn hv hvn).1 (by rw [hjj, hkk]; omega)
    rw [d1, d2] at hlt
    omega
  · intro hns
    have hx := nmX_spec h1 h2 hu hun hv hvn
    obtain ⟨r1, r2, r3, r4⟩ := hx.rng h1
    have hxo := okP_least h1 h2 hg hx
    generalize nmX n ((k : Int) / n) ((k : Int) % n) = x at *
    -- the number of the least pair
    obtain ⟨j, hj⟩ : ∃ j : Nat, (j : Int) = x.u * n + x.v := ⟨(x.u * n + x.v).toNat, Int.toNat_of_nonneg (Int.add_nonneg (Int.mul_nonneg r1 (by omega)) r3)⟩
    obtain ⟨d1, d2⟩ := key_div (u := x.u) (v := x.v) h1 r3 r4
    rw [← hj] at d1 d2
    by_cases hjk : j < k
    · exfalso
      apply hns
      obtain ⟨t, ht⟩ := unit_inv hx.cop
      obtain ⟨p1, p2, p3⟩ := rep_spec h1 t
      have ut : Int.gcd t n = 1 := unit_of (t := x.t) (by rw [Int.mul_comm]; exact ht)
      refine ⟨j, hjk, by rw [d1, d2]; exact hxo, rep n t, p1, p2, unit_eq ut p3.symm, ?_⟩
      have m1 : ∀ z, 0 ≤ z → z < n → (rep n t * ((x.t * z) % n)) % n = z := fun z z0 zn => by
        have e0 := (eqN.of_mod n (x.t * z)).mul (rep n t)
        have e1 := p3.mul (x.t * z)
        have e2 := ht.mul z
        rw [Int.mul_one] at e2
        have e3 : x.t * z * t = z * (t * x.t) := by grind
        rw [e3, Int.mul_comm (x.t * z)] at e1
        rw [((e0.trans e1).trans e2).mod, Int.emod_eq_of_lt z0 zn]
      rw [d1, d2, hx.eu, hx.ev, m1 _ hu hun, m1 _ hv hvn]
      exact hkk.symm
    · have hle := hx.least 1 (by omega) h1 (Int.gcd_one_left _)
      rw [Int.one_mul, Int.one_mul, Int.emod_eq_of_lt hu hun, Int.emod_eq_of_lt hv hvn] at hle
      have hge : ¬ (x.u * n + x.v < (k : Int) / n * n + (k : Int) % n) := by rw [← hj, hkk]; omega
      rw [key_lt h1 r3 r4 hv hvn] at hge
      have e1 : x.u = (k : Int) / n := by omega
      have e2 : x.v = (k : Int) % n := by omega
      rw [← e1, ← e2]
      exact hxo
theorem lsA_mem {n : Int} : ∀ (k : Nat) (x : P3), x ∈ lsA n k ↔ ∃ j : Nat, j < k ∧ okP n ((j : Int) / n) ((j : Int) % n) = true ∧ x = ⟨(j : Int) / n, (j : Int) % n, 1⟩
  | 0, x => by simp [lsA]
  | k + 1, x => by
    rw [lsA, List.mem_append, lsA_mem k x]
    constructor
    · rintro (⟨j, h, h', h''⟩ | h)
      · exact ⟨j, by omega, h', h''⟩
      · split at h
        · rename_i hk
          rw [List.mem_singleton] at h
          exact ⟨k, by omega, hk, h⟩
        · cases h
    · rintro ⟨j, h, h', h''⟩
      by_cases e : j = k
      · subst e; right; rw [if_pos h', List.mem_singleton]; exact h''
      · exact .inl ⟨j, by omega, h', h''⟩
theorem lsF_mem {n : Int} (h1 : 1 ≤ n) (x : P3) : x ∈ lsF n ↔ (0 ≤ x.u ∧ x.u < n ∧ 0 ≤ x.v ∧ x.v < n ∧ x.t = 1 ∧ okP n x.u x.v = true) := by
  unfold lsF
  rw [lsA_mem]
  have hnn : ((n.toNat * n.toNat : Nat) : Int) = n * n := by
    have : (n.toNat : Int) = n := Int.toNat_of_nonneg (by omega)
    rw [Int.natCast_mul, this]
  constructor
  · rintro ⟨j, h, h', rfl⟩
    have hj : (j : Int) < n * n := by rw [← hnn]; omega
    exact ⟨Int.ediv_nonneg (by omega) (by omega), Int.ediv_lt_of_lt_mul (by omega) hj, Int.emod_nonneg _ (by omega), Int.emod_lt_of_pos _ (by omega), rfl, h'⟩
  · rintro ⟨a, b, c, d, e, f⟩
    have h0 : 0 ≤ x.u * n + x.v := Int.add_nonneg (Int.mul_nonneg a (by omega)) c
    obtain ⟨d1, d2⟩ := key_div (u := x.u) (v := x.v) h1 c d
    refine ⟨(x.u * n + x.v).toNat, ?_, ?_, ?_⟩
    · have : x.u * n + x.v < n * n := by
        have : (x.u + 1) * n ≤ n * n := Int.mul_le_mul_of_nonneg_right (by omega) (by omega)
        rw [Int.add_mul] at this
        omega
      omega
    · rw [Int.toNat_of_nonneg h0, d1, d2]; exact f
    · rw [Int.toNat_of_nonneg h0, d1, d2]
      cases x; simp_all
theorem lsA_len {n : Int} : ∀ k : Nat, (lsA n k).length ≤ k
  | 0 => by simp [lsA]
  | k + 1 => by
    have := lsA_len (n := n) k
    rw [lsA, List.length_append]
    split <;> simp <;> omega
theorem lsF_len {n : Int} (h1 : 1 ≤ n) (h2 : n ≤ 120) : (lsF n).length ≤ 14400 := by
  have h := lsA_len (n := n) (n.toNat * n.toNat)
  have : n.toNat * n.toNat ≤ 120 * 120 := Nat.mul_le_mul (by omega) (by omega)
  unfold lsF
  omega
def keyP (n : Int) (x : P3) : Int := x.u * n + x.v
theorem lsA_sorted {n : Int} (h1 : 1 ≤ n) : ∀ k : Nat, (lsA n k).Pairwise (fun x y => keyP n x < keyP n y)
  | 0 => by simp [lsA]
  | k + 1 => by
    rw [lsA, List.pairwise_append]
    refine ⟨lsA_sorted h1 k, ?_, ?_⟩
    · split <;> simp
    · intro a ha b hb
      split at hb
      · rw [List.mem_singleton] at hb
        obtain ⟨j, hj, -, rfl⟩ := (lsA_mem k a).1 ha
        subst hb
        have e : ∀ q : Nat, keyP n ⟨(q : Int) / n, (q : Int) % n, 1⟩ = q := fun q => by
          unfold keyP
          have := Int.emod_add_mul_ediv (q : Int) n
          show (q : Int) / n * n + (q : Int) % n = q
          rw [Int.mul_comm]; omega
        rw [e, e]
        omega
      · cases hb
end Go.Proofs.Ytcgiancmponmgaa
