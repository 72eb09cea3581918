/- The index of a point in the list; walks: find of the program and of the reference, point. -/
import Derived.Test.YtcgiancmponmgaaPjV
namespace Go.Proofs.Ytcgiancmponmgaa
open Go Go.RowKit

def ixF (n : Int) (x : P3) : Nat := (lsF n).findIdx (fun y => decide (y.u = x.u ∧ y.v = x.v))
theorem lsF_at {n : Int} (h1 : 1 ≤ n) {j : Nat} (hj : j < (lsF n).length) : ∃ y, (lsF n).getD j P3.zero = y ∧ 0 ≤ y.u ∧ y.u < n ∧ 0 ≤ y.v ∧ y.v < n ∧ y.t = 1 ∧ okP n y.u y.v = true := by
  refine ⟨_, rfl, ?_⟩
  have hm : (lsF n).getD j P3.zero ∈ lsF n := by
    rw [List.getD_eq_getElem?_getD, List.getElem?_eq_getElem hj]
    exact List.getElem_mem hj
  exact (lsF_mem h1 _).1 hm
theorem lsF_lt {n : Int} (h1 : 1 ≤ n) {i j : Nat} (hij : i < j) (hj : j < (lsF n).length) : ltP ((lsF n).getD i P3.zero) ((lsF n).getD j P3.zero) := by
  have hs : (lsF n).Pairwise (fun x y => keyP n x < keyP n y) := lsA_sorted h1 (n.toNat * n.toNat)
  have hi : i < (lsF n).length := Nat.lt_trans hij hj
  have h := (List.pairwise_iff_getElem.1 hs) i j hi hj hij
  obtain ⟨y, ey, a1, a2, a3, a4, -, -⟩ := lsF_at h1 hi
  obtain ⟨z, ez, b1, b2, b3, b4, -, -⟩ := lsF_at h1 hj
  have ey2 : (lsF n)[i] = y := by rw [← ey, List.getD_eq_getElem?_getD, List.getElem?_eq_getElem hi]; rfl
  have ez2 : (lsF n)[j] = z := by rw [← ez, List.getD_eq_getElem?_getD, List.getElem?_eq_getElem hj]; rfl
  rw [ey2, ez2] at h
  rw [ey, ez]
  exact (key_lt h1 a3 a4 b3 b4).1 h
/-- The pair of x stands in the list. -/
def InL (n : Int) (x : P3) : Prop := 0 ≤ x.u ∧ x.u < n ∧ 0 ≤ x.v ∧ x.v < n ∧ okP n x.u x.v = true
theorem ix_spec {n : Int} (h1 : 1 ≤ n) {x : P3} (h : InL n x) :
    ixF n x < (lsF n).length ∧ (lsF n).getD (ixF n x) P3.zero = ⟨x.u, x.v, 1⟩ ∧ (∀ j, j < ixF n x → ltP ((lsF n).getD j P3.zero) x) ∧ (∀ j, ixF n x ≤ j → j < (lsF n).length → ¬ ltP ((lsF n).getD j P3.zero) x) := by
  obtain ⟨r1, r2, r3, r4, hok⟩ := h
  have hm : (⟨x.u, x.v, 1⟩ : P3) ∈ lsF n := (lsF_mem h1 _).2 ⟨r1, r2, r3, r4, rfl, hok⟩
  have hlt : ixF n x < (lsF n).length := List.findIdx_lt_length_of_exists ⟨_, hm, by simp⟩
  have hg := List.findIdx_getElem (w := hlt)
  have hge : (lsF n).getD (ixF n x) P3.zero = (lsF n)[ixF n x] := by rw [List.getD_eq_getElem?_getD, List.getElem?_eq_getElem hlt]; rfl
  obtain ⟨y, ey, a1, a2, a3, a4, a5, a6⟩ := lsF_at h1 hlt
  have hy : y = ⟨x.u, x.v, 1⟩ := by
    have h2 : decide (((lsF n)[ixF n x]).u = x.u ∧ ((lsF n)[ixF n x]).v = x.v) = true := hg
    rw [← hge, ey, decide_eq_true_eq] at h2
    cases y; simp_all
  rw [hy] at ey
  refine ⟨hlt, ey, fun j hj => ?_, fun j hj hjl => ?_⟩
  · have := lsF_lt h1 hj hlt
    rw [ey] at this
    exact this
  · intro hl
    by_cases e : ixF n x = j
    · rw [← e, ey] at hl
      unfold ltP at hl
      simp at hl
    · have := lsF_lt h1 (show ixF n x < j by omega) hjl
      rw [ey] at this
      unfold ltP at this hl
      simp only at this
      omega
theorem ix_self {n : Int} (h1 : 1 ≤ n) {j : Nat} (hj : j < (lsF n).length) {x : P3} (hx : (lsF n).getD j P3.zero = x) : InL n x ∧ ixF n x = j := by
  obtain ⟨y, ey, a1, a2, a3, a4, a5, a6⟩ := lsF_at h1 hj
  rw [hx] at ey
  subst ey
  have hin : InL n x := ⟨a1, a2, a3, a4, a6⟩
  refine ⟨hin, ?_⟩
  obtain ⟨s1, s2, s3, s4⟩ := ix_spec h1 hin
  rcases Nat.lt_trichotomy (ixF n x) j with h | h | h
  · have := lsF_lt h1 h hj
    rw [s2, hx] at this
    unfold ltP at this
    simp at this
  · exact h
  · have := s3 j h
    rw [hx] at this
    unfold ltP at this
    omega
theorem own_pts_cells {w : World} {base g : Nat} {v : Value} {l : List P3} (h : OwnPts w base v l) (hv : v.ownBlock = some g) : ∀ j, j < l.length → at3 (fun i => w.cell? ⟨g, i, none⟩) (0 + j * 3) (l.getD j P3.zero) := by
  intro j hj
  obtain ⟨a1, a2, a3⟩ := cellsP_at l j hj
  have h1 := World.ownsRow.cells h (g := g) hv _ _ a1
  have h2 := World.ownsRow.cells h (g := g) hv _ _ a2
  have h3 := World.ownsRow.cells h (g := g) hv _ _ a3
  rw [Addr.add_lit] at h1 h2 h3
  exact ⟨h1, by rw [Nat.add_assoc]; exact h2, by rw [Nat.add_assoc]; exact h3⟩
set_option maxRecDepth 20000 in
set_option maxHeartbeats 4000000 in
theorem find_any (n : Int) (x : P3) (h1 : 1 ≤ n) (h2 : n ≤ 120) (hin : InL n x) (w : World) :
    Calls Try.prog 39 #[.int .i64 n, .agg #[.int .i64 x.u, .int .i64 x.v, .int .i64 x.t]] w fun e w' => e = .returned (.int .i64 (ixF n x)) ∧ Grow w w' := by
  obtain ⟨s1, s2, s3, s4⟩ := ix_spec h1 hin
  have LS := Lib.hid (fun u => list_core n h1 h2 u)
  have hlen := lsF_len h1 h2
  obtain ⟨l, hl⟩ : ∃ l, lsF n = l := ⟨_, rfl⟩
  obtain ⟨p, hp⟩ : ∃ p, ixF n x = p := ⟨_, rfl⟩
  rw [hl, hp] at s1 s3 s4
  rw [hl] at LS hlen
  rw [hp]
  have S3 := Lib.hid s3
  have S4 := Lib.hid s4
  obtain ⟨m, hm⟩ : ∃ m, l.length = m := ⟨_, rfl⟩
  rw [hm] at s1 S4 hlen
  have HM := Lib.hid hm
  clear hin s2 s3 s4 hl hp hm
  go_enter Try.func39, Try.ntmps39
  go_wp2_with (go_at_call 16; (with_reducible refine (LS.out _).mono ?_); (rintro e w1 ⟨v, rfl, hown, hb1⟩; have hc1 := hb1.cells; have hf1 := hb1.frees; have hz1 := hb1.size; (try simp at hz1)))
  obtain ⟨g, cap, rfl, hg1, hg2⟩ := own_slice hown (by rw [HM.out]; omega)
  have hcs := own_pts_cells hown rfl
  rw [HM.out] at hcs ⊢
  have BS := Lib.hid (fun (u : World) (hu : Grow w1 u) => bs_any l x g 0 cap m p hlen (by omega) u (Nat.lt_of_lt_of_le hg2 hu.size) (Lib.hid (fun j hj => by
    obtain ⟨a1, a2, a3⟩ := hcs j hj
    exact ⟨(hu.cells _ _ hg2).trans a1, (hu.cells _ _ hg2).trans a2, (hu.cells _ _ hg2).trans a3⟩)) S3 S4)
  have x0 : w1.cell? ⟨w.heap.size, 0, none⟩ = some (.int .i64 x.u) := by rw [hc1 _ _ (by simp)]; go_simp
  have x1 : w1.cell? ⟨w.heap.size, 1, none⟩ = some (.int .i64 x.v) := by rw [hc1 _ _ (by simp)]; go_simp
  have x2 : w1.cell? ⟨w.heap.size, 2, none⟩ = some (.int .i64 x.t) := by rw [hc1 _ _ (by simp)]; go_simp
  have HB := Lib.hid hb1
  clear hown hcs hb1 hc1 hf1 S3 S4
  go_wp2_with (go_at_call 50; (refine (BS.out _ (Grow.refl _)).mono ?_); (rintro e w2 ⟨bo, rfl, hb2⟩))
  go_ret
  exact ⟨rfl, (((Grow.refl w).alloc _).trans HB.out).trans hb2⟩
set_option maxRecDepth 20000 in
set_option maxHeartbeats 4000000 in
theorem refFind_any (n : Int) (x : P3) (h1 : 1 ≤ n) (h2 : n ≤ 120) (hin : InL n x) (v : Value) (w : World) (hrd : RdPts w v (lsF n)) :
    Calls Try.prog 40 #[v, .agg #[.int .i64 x.u, .int .i64 x.v, .int .i64 x.t]] w fun e w' => e = .returned (.int .i64 (ixF n x)) ∧ Grow w w' := by
  obtain ⟨s1, s2, s3, s4⟩ := ix_spec h1 hin
  have hlen := lsF_len h1 h2
  obtain ⟨l, hl⟩ : ∃ l, lsF n = l := ⟨_, rfl⟩
  obtain ⟨p, hp⟩ : ∃ p, ixF n x = p := ⟨_, rfl⟩
  rw [hl, hp] at s1 s2 s3
  rw [hl] at hrd hlen
  rw [hp]
  obtain ⟨m, hm⟩ : ∃ m, l.length = m := ⟨_, rfl⟩
  rcases hrd with ⟨a, cap, -, rfl⟩ | ⟨b, off, cap, rfl, hb, hk, hcells⟩
  · simp at s1
  rw [hm] at s1 hk hlen hcells ⊢
  have HC := Lib.hid hcells
  have S2 := Lib.hid s2
  have S3 := Lib.hid s3
  clear hin s2 s3 s4 hl hp hm hcells
  go_enter Try.func40, Try.ntmps40
  go_wp2_with fail
  go_loopg [5] m (fun k t5 wr => ∃ i : Nat, t5 = .int .i64 (i : Int) ∧ i ≤ p ∧ Hid (i + k = m) ∧ Hid (Grow (w.alloc (.cells #[.int .i64 x.u, .int .i64 x.v, .int .i64 x.t] 24)) wr))
  case atStart => exact ⟨0, rfl, by omega, Lib.hid (by omega), Lib.hid (Grow.refl _)⟩
  case round =>
    obtain ⟨i, rfl, hip, hk', hg⟩ := hrel
    obtain ⟨g1, hgk⟩ : ∃ g1, gk = g1 + 1 := ⟨gk - 1, by have := hk'.out; omega⟩
    have him : i < m := by omega
    have him2 : (i : Int) < (m : Int) := by omega
    have hi0 : (0 : Int) ≤ (i : Int) := by omega
    have yi : IntKind.i64.wrap ((i : Int) + 1) = (i : Int) + 1 := IntWalk.i64_in _ (by omega)
    have hgc := hg.out.cells
    have hgz := hg.out.size
    (try simp at hgz)
    have x0 : wr.cell? ⟨w.heap.size, 0, none⟩ = some (.int .i64 x.u) := by rw [hgc _ _ (by simp)]; go_simp
    have x1 : wr.cell? ⟨w.heap.size, 1, none⟩ = some (.int .i64 x.v) := by rw [hgc _ _ (by simp)]; go_simp
    have x2 : wr.cell? ⟨w.heap.size, 2, none⟩ = some (.int .i64 x.t) := by rw [hgc _ _ (by simp)]; go_simp
    have hcw : at3 (fun o => wr.cell? ⟨b, o, none⟩) (off + i * 3) (l.getD i P3.zero) := by
      obtain ⟨a1, a2, a3⟩ := HC.out i him
      have e : ∀ o, wr.cell? ⟨b, o, none⟩ = w.cell? ⟨b, o, none⟩ := fun o => by
        rw [hgc _ _ (by simp; omega)]
        exact ((Grow.refl w).alloc _).cells b o hb
      exact ⟨(e _).trans a1, (e _).trans a2, (e _).trans a3⟩
    obtain ⟨y, hy⟩ : ∃ y, l.getD i P3.zero = y := ⟨_, rfl⟩
    rw [hy] at hcw
    obtain ⟨c0, c1, c2⟩ := hcw
    simp only at c0 c1 c2
    have z0 : w.heap.size < wr.heap.size := by omega
    have zb : b < wr.heap.size := by omega
    by_cases heq : y.u = x.u
    · have e1 : (y.u == x.u) = true := by simpa using heq
      by_cases hev : y.v = x.v
      · have e2 : (y.v == x.v) = true := by simpa using hev
        have hipe : i = p := by
          by_cases e : i = p
          · exact e
          · have h := S3.out i (by omega)
            rw [hy] at h
            unfold ltP at h
            omega
        subst hipe
        clear heq hev hgc hy
        go_wp2_with fail
        go_quiet (fail)
        go_wp2_with fail
        go_ret
        exact ⟨rfl, (((Grow.refl w).alloc _).trans hg.out).drewN _⟩
      · have e2 : (y.v == x.v) = false := by simpa using hev
        have hipe : i ≠ p := by
          intro e
          have h := S2.out
          rw [← e, hy] at h
          rw [h] at hev
          exact hev rfl
        clear heq hev hgc hy
        go_wp2_with fail
        go_quiet (fail)
        go_wp2_with fail
        go_roundg g1
        case measure => omega
        case rel => exact ⟨i + 1, by go_num, by omega, Lib.hid (by have := hk'.out; omega), Lib.hid (hg.out.drewN _)⟩
    · have e1 : (y.u == x.u) = false := by simpa using heq
      have hipe : i ≠ p := by
        intro e
        have h := S2.out
        rw [← e, hy] at h
        rw [h] at heq
        exact heq rfl
      clear heq hgc hy
      go_wp2_with fail
      go_quiet (fail)
      go_wp2_with fail
      go_roundg g1
      case measure => omega
      case rel => exact ⟨i + 1, by go_num, by omega, Lib.hid (by have := hk'.out; omega), Lib.hid (hg.out.drewN _)⟩
end Go.Proofs.Ytcgiancmponmgaa
