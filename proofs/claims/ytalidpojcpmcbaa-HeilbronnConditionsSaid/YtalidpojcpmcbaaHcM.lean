/- A row of matrices that is written; plain laws on lists with a matrix replaced. -/
import Derived.Test.YtalidpojcpmcbaaHcL
import Derived.Test.YtalidpojcpmcbaaMtY
namespace Go.Proofs.Ytalidpojcpmcbaa
open Go Go.RowKit

structure RowM (w : World) (g : Nat) (l : List M2) : Prop where
  lt : g < w.heap.size
  cells : ∀ j, j < l.length → at4 (fun o => w.cell? ⟨g, o, none⟩) (j * 4) (l.getD j M2.zero)
  free : ∀ o, w.frozen? ⟨g, o, none⟩ = false
theorem RowM.rd {w : World} {g : Nat} {l : List M2} (h : RowM w g l) {cap : Nat} (hc : l.length ≤ cap) : RdMats w (.slice (some ⟨g, 0, none⟩) l.length cap) l :=
  .inr ⟨g, 0, cap, rfl, h.lt, hc, fun j hj => by rw [Nat.zero_add]; exact h.cells j hj⟩
theorem RowM.of_own {w : World} {base : Nat} {v : Value} {l : List M2} (h : OwnMats w base v l) (h0 : 0 < l.length) : ∃ g cap, v = .slice (some ⟨g, 0, none⟩) l.length cap ∧ base ≤ g ∧ RowM w g l ∧ l.length ≤ cap := by
  have hrd := h.rd
  rcases h.2 with ⟨_, h1⟩ | ⟨g, cap, cur, rfl, hb, hg, hle, hm, hsz, _⟩
  · omega
  · refine ⟨g, cap, rfl, hb, ⟨(Array.getElem?_eq_some_iff.1 hg).1, ?_, fun o => ?_⟩, hle⟩
    · rcases hrd with ⟨_, _, _, h2⟩ | ⟨b, off, c, hv, _, _, hc⟩
      · rw [h2] at h0; simp at h0
      · simp only [Value.slice.injEq, Option.some.injEq, Addr.mk.injEq, and_true, true_and] at hv
        obtain ⟨⟨rfl, rfl⟩, rfl⟩ := hv
        intro j hj
        have := hc j hj
        rwa [Nat.zero_add] at this
    · unfold World.frozen?
      simp only [hg]
      simp
theorem RowM.grow {w w' : World} {g : Nat} {l : List M2} (h : RowM w g l) (hg : Grow w w') : RowM w' g l := by
  refine ⟨Nat.lt_of_lt_of_le h.lt hg.size, fun j hj => ?_, fun o => (hg.frees _ _ h.lt).trans (h.free o)⟩
  obtain ⟨a, b, c, d⟩ := h.cells j hj
  exact ⟨(hg.cells _ _ h.lt).trans a, (hg.cells _ _ h.lt).trans b, (hg.cells _ _ h.lt).trans c, (hg.cells _ _ h.lt).trans d⟩
theorem getD_set {l : List M2} {i j : Nat} {m : M2} (hi : i < l.length) : (l.set i m).getD j M2.zero = if i = j then m else l.getD j M2.zero := by
  simp only [List.getD_eq_getElem?_getD, List.getElem?_set]
  by_cases h : i = j
  · subst h; simp [hi]
  · simp [h]
theorem RowM.set {w : World} {g : Nat} {l : List M2} (h : RowM w g l) {i : Nat} (hi : i < l.length) (m : M2) :
    RowM ((((w.setCell ⟨g, i * 4, none⟩ (.int .i64 m.a)).setCell ⟨g, i * 4 + 1, none⟩ (.int .i64 m.b)).setCell ⟨g, i * 4 + 2, none⟩ (.int .i64 m.c)).setCell ⟨g, i * 4 + 3, none⟩ (.int .i64 m.d)) g (l.set i m) := by
  refine ⟨by simpa [World.setCell] using h.lt, fun j hj => ?_, fun o => ?_⟩
  · rw [List.length_set] at hj
    rw [getD_set hi]
    obtain ⟨a, b, c, d⟩ := h.cells j hj
    simp only at a b c d
    by_cases hij : i = j
    · subst hij
      rw [if_pos rfl]
      unfold at4
      simp only
      refine ⟨?_, ?_, ?_, ?_⟩
      · rw [World.cell?_setCell_other _ _ _ _ (by simp), World.cell?_setCell_other _ _ _ _ (by simp), World.cell?_setCell_other _ _ _ _ (by simp), World.cell?_setCell_same _ _ _ a]
      · rw [World.cell?_setCell_other _ _ _ _ (by simp), World.cell?_setCell_other _ _ _ _ (by simp), World.cell?_setCell_same _ _ _ (u := .int .i64 (l.getD i M2.zero).b) (by rw [World.cell?_setCell_other _ _ _ _ (by simp)]; exact b)]
      · rw [World.cell?_setCell_other _ _ _ _ (by simp), World.cell?_setCell_same _ _ _ (u := .int .i64 (l.getD i M2.zero).c) (by rw [World.cell?_setCell_other _ _ _ _ (by simp), World.cell?_setCell_other _ _ _ _ (by simp)]; exact c)]
      · rw [World.cell?_setCell_same _ _ _ (u := .int .i64 (l.getD i M2.zero).d) (by rw [World.cell?_setCell_other _ _ _ _ (by simp), World.cell?_setCell_other _ _ _ _ (by simp), World.cell?_setCell_other _ _ _ _ (by simp)]; exact d)]
    · rw [if_neg hij]
      have far : ∀ r, r < 4 → ∀ x, x < 4 → (⟨g, i * 4 + r, none⟩ : Addr) ≠ ⟨g, j * 4 + x, none⟩ := by
        intro r hr x hx e
        injection e with _ e2 _
        omega
      have f0 : ∀ x, x < 4 → (⟨g, i * 4, none⟩ : Addr) ≠ ⟨g, j * 4 + x, none⟩ := fun x hx => far 0 (by omega) x hx
      unfold at4
      simp only
      refine ⟨?_, ?_, ?_, ?_⟩
      · have g3 := far 3 (by omega) 0 (by omega)
        have g2 := far 2 (by omega) 0 (by omega)
        have g1 := far 1 (by omega) 0 (by omega)
        have g0 := f0 0 (by omega)
        simp only [Nat.add_zero] at g0 g1 g2 g3
        rw [World.cell?_setCell_other _ _ _ _ g3, World.cell?_setCell_other _ _ _ _ g2, World.cell?_setCell_other _ _ _ _ g1, World.cell?_setCell_other _ _ _ _ g0]; exact a
      · rw [World.cell?_setCell_other _ _ _ _ (far 3 (by omega) 1 (by omega)), World.cell?_setCell_other _ _ _ _ (far 2 (by omega) 1 (by omega)), World.cell?_setCell_other _ _ _ _ (far 1 (by omega) 1 (by omega)), World.cell?_setCell_other _ _ _ _ (f0 1 (by omega))]; exact b
      · rw [World.cell?_setCell_other _ _ _ _ (far 3 (by omega) 2 (by omega)), World.cell?_setCell_other _ _ _ _ (far 2 (by omega) 2 (by omega)), World.cell?_setCell_other _ _ _ _ (far 1 (by omega) 2 (by omega)), World.cell?_setCell_other _ _ _ _ (f0 2 (by omega))]; exact c
      · rw [World.cell?_setCell_other _ _ _ _ (far 3 (by omega) 3 (by omega)), World.cell?_setCell_other _ _ _ _ (far 2 (by omega) 3 (by omega)), World.cell?_setCell_other _ _ _ _ (far 1 (by omega) 3 (by omega)), World.cell?_setCell_other _ _ _ _ (f0 3 (by omega))]; exact d
  · rw [World.frozen?_setCell, World.frozen?_setCell, World.frozen?_setCell, World.frozen?_setCell]
    exact h.free o

def negM (m : M2) : M2 := ⟨-m.a, -m.b, -m.c, -m.d⟩
theorem cu_neg (x y : Int) : cuF (-x) (-y) = cuF x y := by
  have hg : Int.gcd (-x) (-y) = Int.gcd x y := by simp [Int.gcd]
  unfold cuF
  rw [hg, Int.neg_tdiv, Int.neg_tdiv]
  generalize y.tdiv _ = q
  generalize x.tdiv _ = p
  by_cases h1 : q < 0
  · rw [if_neg (by omega), if_pos (.inl h1)]
  · by_cases h2 : q = 0 ∧ p < 0
    · rw [if_neg (by omega), if_pos (.inr h2)]
    · by_cases h3 : q = 0 ∧ p = 0
      · obtain ⟨rfl, rfl⟩ := h3
        rfl
      · rw [if_pos (by omega), if_neg (by omega)]
        simp
theorem cls_neg {n : Int} (hn : 1 ≤ n) {m : M2} (hdet : m.a * m.d - m.b * m.c = n) : clsF (negM m) n = clsF m n := by
  have hdet2 : (negM m).a * (negM m).d - (negM m).b * (negM m).c = n := by
    show -m.a * -m.d - -m.b * -m.c = n
    rw [← hdet]; grind
  obtain ⟨a1, a2, -, a4, a5, -, a7, a8, a9⟩ := cls_spec hn hdet
  obtain ⟨b1, b2, -, b4, b5, -, b7, b8, b9⟩ := cls_spec hn hdet2
  have hg : Int.gcd (negM m).c (negM m).d = Int.gcd m.c m.d := by
    show Int.gcd (-m.c) (-m.d) = _
    simp [Int.gcd]
  have hd : (clsF (negM m) n).d = (clsF m n).d := by rw [a1, b1, hg]
  have ha : (clsF (negM m) n).a = (clsF m n).a := by rw [a4, b4, hd]
  have hb : (clsF (negM m) n).b = (clsF m n).b := by
    obtain ⟨-, u, v, huv, -⟩ := cl_end m
    have h1 := a9 u v huv
    have h2 := b9 (-u) (-v) (by
      rw [hg, ← huv]
      show -u * -m.c + -v * -m.d = u * m.c + v * m.d
      grind)
    rw [← h1, ← h2, ha]
    congr 1
    show -m.a * -u + -m.b * -v = m.a * u + m.b * v
    grind
  generalize clsF (negM m) n = x at *
  generalize clsF m n = y at *
  cases x; cases y
  simp only at hd ha hb
  rw [hd, ha, hb]
theorem evM_neg {n : Int} (hn : 1 ≤ n) {m : M2} (hdet : m.a * m.d - m.b * m.c = n) : evM n (negM m) = evM n m := by
  unfold evM
  rw [cls_neg hn hdet]
  show [(clsF m n, cuF (-m.a) (-m.c), 1), (clsF m n, cuF (-m.b) (-m.d), -1)] = _
  rw [cu_neg, cu_neg]
theorem evL_set (n : Int) (m : M2) (k : K3) (c : C2) : ∀ (l : List M2) (i : Nat), i < l.length → valE (evL n (l.set i m)) k c = valE (evL n l) k c - valE (evM n (l.getD i M2.zero)) k c + valE (evM n m) k c
  | [], i, h => by simp at h
  | x :: r, 0, _ => by
    simp only [List.set_cons_zero, evL_cons, List.getD_cons_zero]
    omega
  | x :: r, i + 1, h => by
    have := evL_set n m k c r i (by simpa using h)
    simp only [List.set_cons_succ, evL_cons, List.getD_cons_succ]
    omega
theorem evL_drop (n : Int) (k : K3) (c : C2) (l : List M2) (i : Nat) (hi : i < l.length) : valE (evL n (l.take i ++ l.drop (i + 1))) k c = valE (evL n l) k c - valE (evM n (l.getD i M2.zero)) k c := by
  have h1 : l = l.take i ++ (l.getD i M2.zero :: l.drop (i + 1)) := by
    have : l.getD i M2.zero = l[i] := by simp [hi]
    rw [this, List.getElem_cons_drop]
    simp
  have h2 := congrArg (fun z => valE (evL n z) k c) h1
  simp only [evL_append, evL_cons] at h2 ⊢
  omega
theorem fits_neg {n : Int} {m : M2} (h : fitsF m n = true) : fitsF (negM m) n = true := by
  simp only [fitsF, Bool.and_eq_true, beq_iff_eq] at h ⊢
  obtain ⟨h1, h2⟩ := h
  rw [okM_iff] at h1 ⊢
  refine ⟨?_, ?_⟩
  · show (-m.a).natAbs ≤ _ ∧ (-m.b).natAbs ≤ _ ∧ (-m.c).natAbs ≤ _ ∧ (-m.d).natAbs ≤ _
    simp only [Int.natAbs_neg]
    exact h1
  · show -m.a * -m.d - -m.b * -m.c = n
    rw [← h2]; grind
theorem getD_mem {l : List M2} {i : Nat} (h : i < l.length) : l.getD i M2.zero ∈ l := by
  rw [List.getD_eq_getElem?_getD, List.getElem?_eq_getElem h]
  simp
/-- A matrix turned to the front, and negated there. -/
theorem turns_sat {n : Int} {l : List M2} (h : SatP n l) {i : Nat} (hi : i < l.length) : SatP n ((l.set i (l.getD 0 M2.zero)).set 0 (negM (l.getD i M2.zero))) := by
  obtain ⟨⟨h1, h2, h3⟩, h4, h5⟩ := h
  have h0 : 0 < l.length := by omega
  refine ⟨⟨h1, h2, by simpa using h3⟩, fun m hm => ?_, fun k c => ?_⟩
  · rcases List.mem_or_eq_of_mem_set hm with hm | rfl
    · rcases List.mem_or_eq_of_mem_set hm with hm | rfl
      · exact h4 m hm
      · exact h4 _ (getD_mem h0)
    · exact fits_neg (h4 _ (getD_mem hi))
  · have h6 := h5 k c
    rw [tAll_val] at h6 ⊢
    unfold evAll at h6 ⊢
    rw [valE_append] at h6 ⊢
    have hf := h4 _ (getD_mem hi)
    simp only [fitsF, Bool.and_eq_true, beq_iff_eq] at hf
    rw [evL_set _ _ _ _ _ _ (by simpa using h0), evL_set _ _ _ _ _ _ hi, evM_neg h1 hf.2, getD_set hi]
    split
    · rename_i e
      subst e
      omega
    · omega
theorem cu_ne {n : Int} (hn : 1 ≤ n) {m : M2} (hdet : m.a * m.d - m.b * m.c = n) : cuF m.a m.c ≠ cuF m.b m.d := by
  have hx : ∀ x y : Int, ∃ g : Int, x = g * (cuF x y).p ∧ y = g * (cuF x y).q := by
    intro x y
    have e1 : ((Int.gcd x y : Nat) : Int) * x.tdiv (Int.gcd x y) = x := Int.mul_tdiv_cancel' (Int.gcd_dvd_left ..)
    have e2 : ((Int.gcd x y : Nat) : Int) * y.tdiv (Int.gcd x y) = y := Int.mul_tdiv_cancel' (Int.gcd_dvd_right ..)
    unfold cuF
    split
    · exact ⟨-(Int.gcd x y : Int), by simp only [Int.neg_mul_neg]; exact e1.symm, by simp only [Int.neg_mul_neg]; exact e2.symm⟩
    · exact ⟨(Int.gcd x y : Int), e1.symm, e2.symm⟩
  intro e
  obtain ⟨g1, a1, a2⟩ := hx m.a m.c
  obtain ⟨g2, b1, b2⟩ := hx m.b m.d
  rw [← e] at b1 b2
  have : m.a * m.d - m.b * m.c = 0 := by
    rw [a1, a2, b1, b2]
    grind
  omega
/-- Without one of its matrices a list does not satisfy the condition. -/
theorem less_sat {n : Int} {l : List M2} (h : SatP n l) {i : Nat} (hi : i < l.length) : ¬ SatP n (l.take i ++ l.drop (i + 1)) := by
  obtain ⟨⟨h1, h2, h3⟩, h4, h5⟩ := h
  rintro ⟨-, -, h6⟩
  have hf := h4 _ (getD_mem hi)
  simp only [fitsF, Bool.and_eq_true, beq_iff_eq] at hf
  generalize hm : l.getD i M2.zero = m at hf
  have h7 := h5 (clsF m n) (cuF m.a m.c)
  have h8 := h6 (clsF m n) (cuF m.a m.c)
  rw [tAll_val] at h7 h8
  unfold evAll at h7 h8
  rw [valE_append] at h7 h8
  rw [evL_drop _ _ _ _ _ hi, hm, evM_val] at h8
  unfold ind at h8
  rw [if_pos ⟨rfl, rfl⟩, if_neg (fun e => cu_ne h1 hf.2 e.2.symm)] at h8
  omega
end Go.Proofs.Ytalidpojcpmcbaa
