/- Plain model of the class of a matrix and of a cusp in lowest terms. No program here. -/
import Derived.Test.YtalidpojcpmcbaaHbR
namespace Go.Proofs.Ytalidpojcpmcbaa

structure K3 where
  a : Int
  b : Int
  d : Int
def clsL : Nat → M2 → M2
  | 0, m => m
  | f + 1, m => if m.c = 0 then m else clsL f ⟨flF m.d m.c * m.a - m.b, m.a, flF m.d m.c * m.c - m.d, m.c⟩
def clsE (m : M2) : M2 := clsL (m.c.natAbs + 1) m
def clsF (m : M2) (n : Int) : K3 :=
  ⟨n.tdiv (clsE m).d.natAbs, (if (clsE m).d < 0 then -(clsE m).b else (clsE m).b) % (n.tdiv (clsE m).d.natAbs), (clsE m).d.natAbs⟩
def cuF (x y : Int) : C2 :=
  if y.tdiv (Int.gcd x y) < 0 ∨ (y.tdiv (Int.gcd x y) = 0 ∧ x.tdiv (Int.gcd x y) < 0) then ⟨-(x.tdiv (Int.gcd x y)), -(y.tdiv (Int.gcd x y))⟩ else ⟨x.tdiv (Int.gcd x y), y.tdiv (Int.gcd x y)⟩

theorem fl_step {d c : Int} (hc : c ≠ 0) : (flF d c * c - d).natAbs < c.natAbs := by
  unfold flF
  by_cases h : c < 0
  · rw [if_pos h]
    have h1 := Int.emod_add_mul_ediv (-d) (-c)
    have h2 := Int.emod_nonneg (-d) (b := -c) (by omega)
    have h3 := Int.emod_lt_of_pos (-d) (b := -c) (by omega)
    have e : (-d) / (-c) * c = -((-c) * ((-d) / (-c))) := by grind
    rw [e]
    omega
  · rw [if_neg h]
    have h1 := Int.emod_add_mul_ediv d c
    have h2 := Int.emod_nonneg d (b := c) (by omega)
    have h3 := Int.emod_lt_of_pos d (b := c) (by omega)
    have e : d / c * c = c * (d / c) := by grind
    rw [e]
    omega
def ClInv (m e : M2) : Prop :=
  ∃ p q r s : Int, p * s - q * r = 1 ∧ e.a = m.a * p + m.b * r ∧ e.b = m.a * q + m.b * s ∧ e.c = m.c * p + m.d * r ∧ e.d = m.c * q + m.d * s
theorem cl_start (m : M2) : ClInv m m := ⟨1, 0, 0, 1, by decide, by simp, by simp, by simp, by simp⟩
theorem cl_step {m e : M2} (h : ClInv m e) (k : Int) : ClInv m ⟨k * e.a - e.b, e.a, k * e.c - e.d, e.c⟩ := by
  obtain ⟨p, q, r, s, h1, h2, h3, h4, h5⟩ := h
  refine ⟨k * p - q, p, k * r - s, r, ?_, ?_, ?_, ?_, ?_⟩
  · grind
  · show k * e.a - e.b = _
    rw [h2, h3]; grind
  · exact h2
  · show k * e.c - e.d = _
    rw [h4, h5]; grind
  · exact h4
theorem cl_loop (m : M2) : ∀ (f : Nat) (e : M2), e.c.natAbs < f → ClInv m e → ClInv m (clsL f e) ∧ (clsL f e).c = 0
  | 0, e, h, _ => by omega
  | f + 1, e, h, hi => by
    unfold clsL
    by_cases hc : e.c = 0
    · rw [if_pos hc]; exact ⟨hi, hc⟩
    · rw [if_neg hc]
      have := fl_step (d := e.d) hc
      exact cl_loop m f _ (by show (flF e.d e.c * e.c - e.d).natAbs < f; omega) (cl_step hi _)
/-- What the class is. -/
theorem cl_end (m : M2) : (clsE m).d.natAbs = Int.gcd m.c m.d ∧ ∃ u v : Int, u * m.c + v * m.d = Int.gcd m.c m.d ∧ (if (clsE m).d < 0 then -(clsE m).b else (clsE m).b) = m.a * u + m.b * v := by
  obtain ⟨⟨p, q, r, s, h1, h2, h3, h4, h5⟩, hc⟩ := cl_loop m (m.c.natAbs + 1) m (Nat.lt_succ_self _) (cl_start m)
  change (clsE m).c = 0 at hc
  change (clsE m).c = _ at h4
  change (clsE m).d = _ at h5
  change (clsE m).b = _ at h3
  rw [hc] at h4
  have d1 : (clsE m).d ∣ m.c := ⟨-r, by rw [h5]; grind⟩
  have d2 : (clsE m).d ∣ m.d := ⟨p, by rw [h5]; grind⟩
  have d3 : ((Int.gcd m.c m.d : Nat) : Int) ∣ (clsE m).d := by
    rw [h5]
    exact Int.dvd_add (Int.dvd_mul_of_dvd_left (Int.gcd_dvd_left ..)) (Int.dvd_mul_of_dvd_left (Int.gcd_dvd_right ..))
  have hd : (clsE m).d.natAbs = Int.gcd m.c m.d := by
    apply Nat.dvd_antisymm
    · exact Nat.dvd_gcd (Int.natAbs_dvd_natAbs.2 d1) (Int.natAbs_dvd_natAbs.2 d2)
    · have h := Int.natAbs_dvd_natAbs.2 d3
      simpa using h
  refine ⟨hd, ?_⟩
  by_cases hn : (clsE m).d < 0
  · refine ⟨-q, -s, ?_, ?_⟩
    · rw [← hd]
      have : ((clsE m).d.natAbs : Int) = -(clsE m).d := by omega
      rw [this, h5]; grind
    · rw [if_pos hn, h3]; grind
  · refine ⟨q, s, ?_, ?_⟩
    · rw [← hd]
      have : ((clsE m).d.natAbs : Int) = (clsE m).d := by omega
      rw [this, h5]; grind
    · rw [if_neg hn, h3]
theorem cls_uniq {A B C D d a u v u2 v2 : Int} (hd : d ≠ 0) (h1 : u * C + v * D = d) (h2 : u2 * C + v2 * D = d) (hc : d ∣ C) (hdd : d ∣ D) (hn : A * D - B * C = d * a) : (A * u + B * v) % a = (A * u2 + B * v2) % a := by
  obtain ⟨c, rfl⟩ := hc
  obtain ⟨e, rfl⟩ := hdd
  have g1 : u * c + v * e = 1 := by
    have : d * (u * c + v * e) = d * 1 := by grind
    exact Int.eq_of_mul_eq_mul_left hd this
  have g2 : u2 * c + v2 * e = 1 := by
    have : d * (u2 * c + v2 * e) = d * 1 := by grind
    exact Int.eq_of_mul_eq_mul_left hd this
  have g3 : A * e - B * c = a := by
    have : d * (A * e - B * c) = d * a := by grind
    exact Int.eq_of_mul_eq_mul_left hd this
  have g4 : (u - u2) * c + (v - v2) * e = 0 := by grind
  obtain ⟨t, ht⟩ : ∃ t, (u - u2) * v2 - (v - v2) * u2 = t := ⟨_, rfl⟩
  have g5 : u - u2 = e * t := by subst ht; grind
  have g6 : v - v2 = -(c * t) := by subst ht; grind
  have g7 : A * u + B * v = A * u2 + B * v2 + a * t := by
    have e1 : u = u2 + e * t := by omega
    have e2 : v = v2 - c * t := by omega
    rw [e1, e2, ← g3]; grind
  rw [g7, Int.add_mul_emod_self_left]
/-- The class as the program reckons it. -/
theorem cls_spec {m : M2} {n : Int} (hn : 1 ≤ n) (hdet : m.a * m.d - m.b * m.c = n) :
    (clsF m n).d = Int.gcd m.c m.d ∧ 0 < (clsF m n).d ∧ n.tmod (clsF m n).d = 0 ∧ (clsF m n).a = n.tdiv (clsF m n).d ∧ 0 < (clsF m n).a ∧ (clsF m n).d * (clsF m n).a = n ∧ 0 ≤ (clsF m n).b ∧ (clsF m n).b < (clsF m n).a ∧
      ∀ u v : Int, u * m.c + v * m.d = Int.gcd m.c m.d → (m.a * u + m.b * v) % (clsF m n).a = (clsF m n).b := by
  obtain ⟨h1, u0, v0, h2, h3⟩ := cl_end m
  have hc : ((Int.gcd m.c m.d : Nat) : Int) ∣ m.c := Int.gcd_dvd_left ..
  have hd : ((Int.gcd m.c m.d : Nat) : Int) ∣ m.d := Int.gcd_dvd_right ..
  have e0 : (clsF m n).d = Int.gcd m.c m.d := by show ((clsE m).d.natAbs : Int) = _; rw [h1]
  have e1 : (clsF m n).a = n.tdiv (clsF m n).d := rfl
  have e2 : (clsF m n).b = (m.a * u0 + m.b * v0) % (clsF m n).a := by
    show (if (clsE m).d < 0 then -(clsE m).b else (clsE m).b) % _ = _
    rw [h3]; rfl
  generalize clsF m n = k at *
  rw [← e0] at hc hd h2 ⊢
  have hdn : k.d ∣ n := by
    rw [← hdet]
    exact Int.dvd_sub (Int.dvd_mul_of_dvd_right hd) (Int.dvd_mul_of_dvd_right hc)
  have hk0 : 0 < k.d := by
    have : k.d ≠ 0 := by
      intro h
      rw [h] at hdn
      have := Int.zero_dvd.1 hdn
      omega
    omega
  have hda : k.d * k.a = n := by rw [e1]; exact Int.mul_tdiv_cancel' hdn
  have ha : 0 < k.a := by
    by_cases h : 0 < k.a
    · exact h
    · have := Int.mul_nonneg (a := k.d) (b := -k.a) (by omega) (by omega)
      rw [Int.mul_neg] at this
      omega
  refine ⟨rfl, hk0, ?_, e1, ha, hda, ?_, ?_, ?_⟩
  · exact Int.tmod_eq_zero_of_dvd hdn
  · rw [e2]; exact Int.emod_nonneg _ (by omega)
  · rw [e2]; exact Int.emod_lt_of_pos _ ha
  · intro u v huv
    rw [e2]
    exact cls_uniq (by omega) huv h2 hc hd (by rw [hdet, hda])
end Go.Proofs.Ytalidpojcpmcbaa
