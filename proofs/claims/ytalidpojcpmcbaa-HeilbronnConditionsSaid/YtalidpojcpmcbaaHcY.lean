/- From a walk to a row: a list of matrices is opened. -/
import Derived.Test.YtalidpojcpmcbaaHcN
import Derived.Test.YtalidpojcpmcbaaCfZ
import Derived.Deep.Slices
namespace Go.Proofs.Ytalidpojcpmcbaa
open Go Go.RowKit Go.ChangeShapes Go.WideShapes Go.ChangeAt Go.Joins Go.Deep

theorem one_mat : ∃ f0 f1 f2 f3 : Field, Try.prog.underlying 39 = some (.struct #[f0, f1, f2, f3]) ∧ oneCellFields Try.prog #[f0, f1, f2, f3] = true ∧ f0.type = 3 ∧ f1.type = 3 ∧ f2.type = 3 ∧ f3.type = 3 :=
  ⟨_, _, _, _, Try.underlying39, by kernel_rfl, rfl, rfl, rfl, rfl⟩
theorem mat_at {H : Type} {enc : TypeId × Value → H} {w : World} {base n : Nat} {spare : Nat → Bool} {held : Bool} {cs : List Value} {x : DataW H × List MemPlace} (h : DataW.trod enc Try.prog w base spare held n 39 cs = some x) (hl : cs.length = 4) :
    ∃ m : M2, cs = [.int .i64 m.a, .int .i64 m.b, .int .i64 m.c, .int .i64 m.d] := by
  match cs, hl with
  | [c0, c1, c2, c3], _ =>
    obtain ⟨f0, f1, f2, f3, hs, hone, t0, t1, t2, t3⟩ := one_mat
    obtain ⟨y0, y1, y2, y3, n, hx, _, h0, h1, h2, h3⟩ := trod_struct4 hs h
    obtain ⟨o0, k0⟩ := hone_of hone 0 f0 rfl
    obtain ⟨o1, k1⟩ := hone_of hone 1 f1 rfl
    obtain ⟨o2, k2⟩ := hone_of hone 2 f2 rfl
    obtain ⟨o3, k3⟩ := hone_of hone 3 f3 rfl
    have g0 : DataW.trod enc Try.prog w base spare held n f0.type [c0] = some y0 := by simpa [o0, k0] using h0
    have g1 : DataW.trod enc Try.prog w base spare held n f1.type [c1] = some y1 := by simpa [o1, k1] using h1
    have g2 : DataW.trod enc Try.prog w base spare held n f2.type [c2] = some y2 := by simpa [o2, k2] using h2
    have g3 : DataW.trod enc Try.prog w base spare held n f3.type [c3] = some y3 := by simpa [o3, k3] using h3
    rw [t0] at g0
    rw [t1] at g1
    rw [t2] at g2
    rw [t3] at g3
    obtain ⟨a, e0, -, -⟩ := DataW.trod_int Try.underlying3 g0
    obtain ⟨b, e1, -, -⟩ := DataW.trod_int Try.underlying3 g1
    obtain ⟨c, e2, -, -⟩ := DataW.trod_int Try.underlying3 g2
    obtain ⟨d, e3, -, -⟩ := DataW.trod_int Try.underlying3 g3
    simp at e0 e1 e2 e3
    subst e0 e1 e2 e3
    exact ⟨⟨a, b, c, d⟩, rfl⟩
theorem open_mats {H : Type} {enc : TypeId × Value → H} {w : World} {v : Value} {d : DataW H} {p : List MemPlace} {base : Nat} {spare : Nat → Bool} {held : Bool}
    {r : Reach} {b0 : Nat} (hv : Value.okWide Try.prog w r b0 24 v) (h0 : DataW.Trod enc Try.prog w base spare held 24 v d p) : ∃ l : List M2, RdMats w v l := by
  obtain ⟨a0, n0, c0, rfl⟩ := okWide_slice Try.underlying24 hv
  obtain ⟨fuel, h1⟩ := h0
  rcases open_slice Try.underlying24 h1 with ⟨e1, -⟩ | ⟨a, len, cap, m, n, D, Pl, e1, hb, hl, hm, hmm, -, hx⟩
  · simp [Value.cells] at e1
    obtain ⟨rfl, rfl, rfl⟩ := e1
    exact ⟨[], .inl ⟨none, 0, rfl, rfl⟩⟩
  · simp [Value.cells] at e1
    obtain ⟨rfl, rfl, rfl⟩ := e1
    have hlm : n0 ≤ m := by rw [hmm]; split <;> omega
    have each : ∀ i, i < n0 → ∃ q : M2, w.cell? (a.add (i * 4)) = some (.int .i64 q.a) ∧ w.cell? (a.add (i * 4 + 1)) = some (.int .i64 q.b) ∧ w.cell? (a.add (i * 4 + 2)) = some (.int .i64 q.c) ∧ w.cell? (a.add (i * 4 + 3)) = some (.int .i64 q.d) := by
      intro i hi
      obtain ⟨cs', h2, h3⟩ := hx i (by omega)
      rw [cells_mat] at h2
      obtain ⟨_, hlen, hcell⟩ := World.cells?_some h2
      obtain ⟨q, rfl⟩ := mat_at h3 hlen
      have e0 := hcell 0 (by omega)
      have e1 := hcell 1 (by omega)
      have e2 := hcell 2 (by omega)
      have e3 := hcell 3 (by omega)
      rw [add_add] at e0 e1 e2 e3
      exact ⟨q, by simpa using e0, by simpa using e1, by simpa using e2, by simpa using e3⟩
    haveI : Inhabited M2 := ⟨M2.zero⟩
    obtain ⟨q, hq⟩ := choose_lt each
    have hl2 : ((List.range n0).map q).length = n0 := by simp
    refine ⟨(List.range n0).map q, ?_⟩
    by_cases h0 : n0 = 0
    · subst h0
      exact .inl ⟨some a, c0, rfl, by simp⟩
    · have hs : a.spot = none := by
        have hc0 := (hq 0 (by omega)).1
        simp only [Addr.add, Nat.zero_mul, if_true] at hc0
        unfold World.cell? at hc0
        split at hc0
        · split at hc0
          · cases hc0
          · rename_i hsp
            simpa using hsp
        · cases hc0
      obtain ⟨ab, ao, asp⟩ := a
      simp only at hs
      subst hs
      refine .inr ⟨ab, ao, c0, by rw [hl2], World.block_lt_of_cell? _ _ (by have := (hq 0 (by omega)).1; simpa only [Addr.add, Nat.zero_mul, if_true] using this), by rw [hl2]; exact hl, fun j hj => ?_⟩
      rw [hl2] at hj
      obtain ⟨g0, g1, g2, g3⟩ := hq j hj
      rw [Addr.add_lit] at g0 g1 g2 g3
      have e : ((List.range n0).map q).getD j M2.zero = q j := by simp [List.getD_eq_getElem?_getD, hj]
      rw [e]
      exact ⟨g0, by rw [Nat.add_assoc]; exact g1, by rw [Nat.add_assoc]; exact g2, by rw [Nat.add_assoc]; exact g3⟩
end Go.Proofs.Ytalidpojcpmcbaa
