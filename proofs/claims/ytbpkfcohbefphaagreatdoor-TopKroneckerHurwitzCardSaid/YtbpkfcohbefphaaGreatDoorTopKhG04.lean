/- Lemmas, plain laws and walks that the statement LwKronecker leans on (texts BiK, BiL, BiM), conditions as each theorem says. -/
import Derived.Deep.DeepCutAuto
import Derived.Deep.CutBlock
import Derived.Test.YtbpkfcohbefphaaGreatDoorTopKhG03

namespace Go.Proofs.YtbpkfcohbefphaaGreatDoor
open Go Go.RowKit
theorem divmod_any (z1 z2 : Int) (m1 m2 : Value) (h0 : z2 ≠ 0) (w : World) (h1 : MagR w m1 z1.natAbs) (h2 : MagR w m2 z2.natAbs) :
    Calls Tryz.prog 77 #[.agg #[.bool (sgB z1), m1], .agg #[.bool (sgB z2), m2]] w fun e w' => ∃ q r, e = .returned (.tuple #[.agg #[.bool (sgB (z1 / z2)), q], .agg #[.bool false, r], .int .i64 0]) ∧ MagR w' q (z1 / z2).natAbs ∧ MagR w' r (z1 % z2).natAbs ∧ Grow w w' := by
  have hn : 0 < z2.natAbs := by omega
  by_cases hz : z1 < 0
  · have e1 : sgB z1 = true := by simp [sgB, hz]
    have e2 : (!(sgB z1 == sgB z2)) = !(sgB z2) := by rw [e1]; cases sgB z2 <;> rfl
    by_cases hR : z1.natAbs % z2.natAbs = 0
    · obtain ⟨f1, f2, f3⟩ := div_plain (z1 := z1) hn (fun h => h.2 hR)
      rw [e2] at f3
      have := dm_zero (sgB z2) _ _ m1 m2 hn hR w h1 h2
      rw [f3] at this
      rw [f1, f2, e1]
      exact this
    · obtain ⟨f1, f2, f3⟩ := div_low (z1 := z1) hn ⟨hz, hR⟩
      rw [e2] at f3
      have := dm_low (sgB z2) _ _ m1 m2 hn hR w h1 h2
      rw [f3] at this
      rw [f1, f2, e1]
      exact this
  · have e1 : sgB z1 = false := by simp [sgB]; omega
    have e2 : (!(sgB z1 == sgB z2)) = sgB z2 := by rw [e1]; cases sgB z2 <;> rfl
    obtain ⟨f1, f2, f3⟩ := div_plain (z1 := z1) hn (fun h => hz h.1)
    rw [e2] at f3
    have := dm_pos (sgB z2) _ _ m1 m2 hn w h1 h2
    rw [f3] at this
    rw [f1, f2, e1]
    exact this
set_option maxRecDepth 20000 in
set_option maxHeartbeats 4000000 in
theorem exact_any (z1 z2 : Int) (m1 m2 : Value) (h0 : z2 ≠ 0) (hd : z2 ∣ z1) (w : World) (h1 : MagR w m1 z1.natAbs) (h2 : MagR w m2 z2.natAbs) :
    Calls Tryz.prog 50 #[.agg #[.bool (sgB z1), m1], .agg #[.bool (sgB z2), m2]] w fun e w' => ∃ m, e = .returned (.tuple #[.agg #[.bool (sgB (z1 / z2)), m], .int .i64 0]) ∧ MagR w' m (z1 / z2).natAbs ∧ Grow w w' := by
  have DM := Lib.hid (fun u hu => divmod_any z1 z2 m1 m2 h0 u (h1.grow hu) (h2.grow hu))
  have hr : (z1 % z2).natAbs = 0 := by rw [Int.emod_eq_zero_of_dvd hd]; rfl
  rw [hr] at DM
  obtain ⟨s1, hs1⟩ : ∃ s1, sgB z1 = s1 := ⟨_, rfl⟩
  obtain ⟨s2, hs2⟩ : ∃ s2, sgB z2 = s2 := ⟨_, rfl⟩
  obtain ⟨D, hD⟩ : ∃ D, sgB (z1 / z2) = D := ⟨_, rfl⟩
  obtain ⟨n, hn⟩ : ∃ n, (z1 / z2).natAbs = n := ⟨_, rfl⟩
  rw [hs1, hs2, hD, hn] at DM
  rw [hs1, hs2, hD, hn]
  obtain ⟨a1, c1, rfl⟩ := h1.form
  obtain ⟨a2, c2, rfl⟩ := h2.form
  generalize (if z1.natAbs = 0 then 0 else 1) = l1 at *
  generalize (if z2.natAbs = 0 then 0 else 1) = l2 at *
  clear hs1 hs2 hD hn h1 h2 hr hd h0
  go_enter Tryz.func50, Tryz.ntmps50
  go_wp2_with fail
  have c0 : ∀ u : World, Grow (((w.alloc (.cells #[.bool s1, .slice a1 l1 c1] 25)).alloc (.cells #[.bool s2, .slice a2 l2 c2] 25)).alloc (.cells #[.bool false, .slice none 0 0] 25)) u → u.cell? ⟨w.heap.size, 0, none⟩ = some (.bool s1) ∧ u.cell? ⟨w.heap.size, 1, none⟩ = some (.slice a1 l1 c1) ∧ u.cell? ⟨w.heap.size + 1, 0, none⟩ = some (.bool s2) ∧ u.cell? ⟨w.heap.size + 1, 1, none⟩ = some (.slice a2 l2 c2) := by
    intro u hg
    refine ⟨(hg.cells _ _ (by (try simp); try omega)).trans ?_, (hg.cells _ _ (by (try simp); try omega)).trans ?_, (hg.cells _ _ (by (try simp); try omega)).trans ?_, (hg.cells _ _ (by (try simp); try omega)).trans ?_⟩ <;> go_simp
  have C0 := Lib.hid c0
  have r0 : ∀ u : World, Grow (((w.alloc (.cells #[.bool s1, .slice a1 l1 c1] 25)).alloc (.cells #[.bool s2, .slice a2 l2 c2] 25)).alloc (.cells #[.bool false, .slice none 0 0] 25)) u → u.cell? ⟨w.heap.size + 1 + 1, 0, none⟩ = some (.bool false) ∧ u.cell? ⟨w.heap.size + 1 + 1, 1, none⟩ = some (.slice none 0 0) ∧ (∀ o, u.frozen? ⟨w.heap.size + 1 + 1, o, none⟩ = false) ∧ NoU u (w.heap.size + 1 + 1) ∧ w.heap.size + 1 + 1 < u.heap.size ∧ Grow w u := by
    intro u hg
    have hz := hg.size
    simp at hz
    refine ⟨(hg.cells _ _ (by simp)).trans ?_, (hg.cells _ _ (by simp)).trans ?_, fun o => (hg.frees _ _ (by simp)).trans ?_, ?_, by omega, Grow.trans (by (repeat (first | with_reducible exact Grow.refl _ | with_reducible refine Grow.alloc ?_ _ | with_reducible refine Grow.drew ?_ | with_reducible refine Grow.drewN ?_ _ | (with_reducible refine Grow.setCell ?_ ?hp _; (case hp => (simp; try omega))) | with_reducible refine Grow.trans ?_ (by assumption)))) hg⟩
    · go_simp
    · go_simp
    · go_simp
    · have h := NoU.alloc ((w.alloc (.cells #[.bool s1, .slice a1 l1 c1] 25)).alloc (.cells #[.bool s2, .slice a2 l2 c2] 25)) _ 25 (noU2 false none 0 0)
      simp at h
      exact h.grow (by simp) hg
  have R0 := Lib.hid r0
  clear c0 r0
  go_wp2_with (go_at_call 77; (with_reducible refine (DM.out _ (by (repeat (first | with_reducible exact Grow.refl _ | with_reducible refine Grow.alloc ?_ _ | with_reducible refine Grow.drew ?_ | with_reducible refine Grow.drewN ?_ _ | (with_reducible refine Grow.setCell ?_ ?hp _; (case hp => (simp; try omega))) | with_reducible refine Grow.trans ?_ (by assumption))))).mono ?_); (rintro e w3 ⟨mq, mr, rfl, hmq, hmr, hb3⟩; obtain ⟨aq, cq, rfl⟩ := hmq.form; generalize (if n = 0 then 0 else 1) = lq at hmq ⊢; obtain ⟨ar, cr, rfl⟩ := hmr.form; rw [if_pos rfl]; obtain ⟨q0, q1, qf, NU7, hz7, HB7⟩ := R0.out w3 (by (repeat (first | with_reducible exact Grow.refl _ | with_reducible refine Grow.alloc ?_ _ | with_reducible refine Grow.drew ?_ | with_reducible refine Grow.drewN ?_ _ | (with_reducible refine Grow.setCell ?_ ?hp _; (case hp => (simp; try omega))) | with_reducible refine Grow.trans ?_ (by assumption)))); have NU := Lib.hid NU7; have HB := Lib.hid HB7; have HMQ := Lib.hid hmq; have hz7c : w.heap.size + 1 + 1 < w3.heap.size + 1 := (by omega); have hz7d : w.heap.size + 1 + 1 < w3.heap.size + 1 + 1 := (by omega); clear NU7 HB7 hmq hmr))
  (try simp only [Exit.inBlock, Exit.then])
  refine bodyPost_ret (v := .tuple #[.agg #[.bool D, .slice aq lq cq], .int .i64 0]) (by rw [results_cell_tmp rfl]; go_simp) rfl ⟨_, rfl, ?_, by have h9 := HB.out; (repeat (first | with_reducible exact Grow.refl _ | with_reducible refine Grow.alloc ?_ _ | with_reducible refine Grow.drew ?_ | with_reducible refine Grow.drewN ?_ _ | (with_reducible refine Grow.setCell ?_ ?hp _; (case hp => (simp; try omega))) | with_reducible refine Grow.trans ?_ (by assumption)))⟩
  exact (HMQ.out.set2 NU.out _ _ _ _).grow (Grow.alloc (Grow.alloc (Grow.refl _) _) _)
end Go.Proofs.YtbpkfcohbefphaaGreatDoor
namespace Go.Proofs.YtbpkfcohbefphaaGreatDoor
open Go Go.RowKit
set_option maxRecDepth 20000 in
set_option maxHeartbeats 4000000 in
theorem one_any (z : Int) (m : Value) (w : World) (h : MagR w m z.natAbs) :
    Calls Tryz.prog 23 #[.agg #[.bool (sgB z), m]] w fun e w' => e = .returned (.bool (decide (z = 1))) ∧ Grow w w' := by
  obtain ⟨R, hR⟩ : ∃ R, decide (z = 1) = R := ⟨_, rfl⟩
  obtain ⟨s, hs⟩ : ∃ s, sgB z = s := ⟨_, rfl⟩
  rw [hR, hs]
  rcases h with ⟨h0, a, c, rfl⟩ | ⟨h0, h1, b, off, cap, rfl, hk, hb, hc⟩
  · have e1 : R = false := by rw [← hR]; simp; omega
    subst e1
    clear hR hs h0
    go_enter Tryz.func23, Tryz.ntmps23
    go_wp2
    go_ret
    exact ⟨rfl, by (repeat (first | with_reducible exact Grow.refl _ | with_reducible refine Grow.alloc ?_ _ | with_reducible refine Grow.drew ?_ | with_reducible refine Grow.drewN ?_ _ | (with_reducible refine Grow.setCell ?_ ?hp _; (case hp => (simp; try omega))) | with_reducible refine Grow.trans ?_ (by assumption)))⟩
  · by_cases hn : z.natAbs = 1
    · rw [hn] at hc
      have e1 : R = !s := by rw [← hR, ← hs]; simp [sgB]; by_cases h : z < 0 <;> simp [h] <;> omega
      subst e1
      clear hR hs h0 h1 hn
      go_enter Tryz.func23, Tryz.ntmps23
      go_wp2
      go_ret
      exact ⟨rfl, by (repeat (first | with_reducible exact Grow.refl _ | with_reducible refine Grow.alloc ?_ _ | with_reducible refine Grow.drew ?_ | with_reducible refine Grow.drewN ?_ _ | (with_reducible refine Grow.setCell ?_ ?hp _; (case hp => (simp; try omega))) | with_reducible refine Grow.trans ?_ (by assumption)))⟩
    · have e1 : R = false := by rw [← hR]; simp; omega
      subst e1
      obtain ⟨n, hn'⟩ : ∃ n, z.natAbs = n := ⟨_, rfl⟩
      rw [hn'] at hc hn
      have e2 : ((n : Int) == 1) = false := by simp; omega
      clear hR hs h0 h1 hn hn'
      go_enter Tryz.func23, Tryz.ntmps23
      go_wp2
      go_ret
      exact ⟨rfl, by (repeat (first | with_reducible exact Grow.refl _ | with_reducible refine Grow.alloc ?_ _ | with_reducible refine Grow.drew ?_ | with_reducible refine Grow.drewN ?_ _ | (with_reducible refine Grow.setCell ?_ ?hp _; (case hp => (simp; try omega))) | with_reducible refine Grow.trans ?_ (by assumption)))⟩
/-- Two cells written. -/
def st2 (u : World) (b : Nat) (s : Bool) (m : Value) : World := (u.setCell ⟨b, 0, none⟩ (.bool s)).setCell ⟨b, 1, none⟩ m
theorem NoU.set {w : World} {B : Nat} (h : NoU w B) (p : Addr) (v : Value) (hv : ∀ k x, v ≠ .int k x) (hp : (w.cell? p).isSome = true) : NoU (w.setCell p v) B := fun o k x => by
  by_cases hpo : p = ⟨B, o, none⟩
  · subst hpo
    obtain ⟨y, hc⟩ := Option.isSome_iff_exists.1 hp
    rw [World.cell?_setCell_same _ _ _ hc]
    intro hx
    exact hv k x (by injection hx)
  · rw [World.cell?_setCell_other _ _ _ _ hpo]; exact h o k x
/-- The box b holds the integer z. -/
def BxV (u : World) (b : Nat) (z : Int) : Prop :=
  b < u.heap.size ∧ NoU u b ∧ (∀ o, u.frozen? ⟨b, o, none⟩ = false) ∧ ∃ a l c, u.cell? ⟨b, 0, none⟩ = some (.bool (sgB z)) ∧ u.cell? ⟨b, 1, none⟩ = some (.slice a l c) ∧ MagR u (.slice a l c) z.natAbs
theorem BxV.grow {u u' : World} {b : Nat} {z : Int} (h : BxV u b z) (hg : Grow u u') : BxV u' b z := by
  obtain ⟨h1, h2, h3, a, l, c, h4, h5, h6⟩ := h
  exact ⟨Nat.lt_of_lt_of_le h1 hg.size, h2.grow h1 hg, fun o => (hg.frees _ _ h1).trans (h3 o), a, l, c, (hg.cells _ _ h1).trans h4, (hg.cells _ _ h1).trans h5, h6.grow hg⟩
theorem BxV.put {u : World} {b : Nat} {z0 z : Int} {a l c} (h : BxV u b z0) (hm : MagR u (.slice a l c) z.natAbs) : BxV (st2 u b (sgB z) (.slice a l c)) b z := by
  obtain ⟨h1, h2, h3, a', l', c', h4, h5, -⟩ := h
  refine ⟨by simpa [st2, World.setCell] using h1, (h2.set _ _ (by simp) (by rw [h4]; rfl)).set _ _ (by simp) (by rw [World.cell?_setCell_other _ _ _ _ (by simp), h5]; rfl), fun o => by simpa [st2] using h3 o, a, l, c, ?_, ?_, hm.set2 h2 _ _ _ _⟩
  · unfold st2; rw [World.cell?_setCell_other _ _ _ _ (by simp), World.cell?_setCell_same _ _ _ h4]
  · unfold st2; exact World.cell?_setCell_same _ _ _ (by rw [World.cell?_setCell_other _ _ _ _ (by simp)]; exact h5)
theorem BxV.off {u : World} {b B : Nat} {z : Int} (s : Bool) (m : Value) (h : BxV u b z) (hB : NoU u B) (hne : B ≠ b) : BxV (st2 u B s m) b z := by
  obtain ⟨h1, h2, h3, a, l, c, h4, h5, h6⟩ := h
  have hc : ∀ o, (st2 u B s m).cell? ⟨b, o, none⟩ = u.cell? ⟨b, o, none⟩ := fun o => by
    unfold st2; rw [World.cell?_setCell_other _ _ _ _ (by simp), World.cell?_setCell_other _ _ _ _ (by simp)]
  exact ⟨by simpa [st2, World.setCell] using h1, fun o k x => by rw [hc]; exact h2 o k x, fun o => by simpa [st2] using h3 o, a, l, c, (hc _).trans h4, (hc _).trans h5, h6.set2 hB _ _ _ _⟩
theorem BxV.lay {w : World} {z : Int} {a l c} (h : MagR w (.slice a l c) z.natAbs) (t : TypeId) : BxV (w.alloc (.cells #[.bool (sgB z), .slice a l c] t)) w.heap.size z := by
  refine ⟨by simp, NoU.alloc w _ t (noU2 _ _ _ _), fun o => ?_, a, l, c, ?_, ?_, h.grow ((Grow.refl w).alloc _)⟩
  · go_simp
  · go_simp
  · go_simp
/-- The result's cell of type Rat, not yet written. -/
def R4 (u : World) (b : Nat) : Prop :=
  b < u.heap.size ∧ NoU u b ∧ (∀ o, u.frozen? ⟨b, o, none⟩ = false) ∧ u.cell? ⟨b, 0, none⟩ = some (.bool false) ∧ u.cell? ⟨b, 1, none⟩ = some (.slice none 0 0) ∧ u.cell? ⟨b, 2, none⟩ = some (.bool false) ∧ u.cell? ⟨b, 3, none⟩ = some (.slice none 0 0)
theorem R4.grow {u u' : World} {b : Nat} (h : R4 u b) (hg : Grow u u') : R4 u' b := by
  obtain ⟨h1, h2, h3, h4, h5, h6, h7⟩ := h
  exact ⟨Nat.lt_of_lt_of_le h1 hg.size, h2.grow h1 hg, fun o => (hg.frees _ _ h1).trans (h3 o), (hg.cells _ _ h1).trans h4, (hg.cells _ _ h1).trans h5, (hg.cells _ _ h1).trans h6, (hg.cells _ _ h1).trans h7⟩
theorem R4.off {u : World} {b B : Nat} (s : Bool) (m : Value) (h : R4 u b) (hne : B ≠ b) : R4 (st2 u B s m) b := by
  obtain ⟨h1, h2, h3, h4, h5, h6, h7⟩ := h
  have hc : ∀ o, (st2 u B s m).cell? ⟨b, o, none⟩ = u.cell? ⟨b, o, none⟩ := fun o => by
    unfold st2; rw [World.cell?_setCell_other _ _ _ _ (by simp), World.cell?_setCell_other _ _ _ _ (by simp)]
  exact ⟨by simpa [st2, World.setCell] using h1, fun o k x => by rw [hc]; exact h2 o k x, fun o => by simpa [st2] using h3 o, (hc _).trans h4, (hc _).trans h5, (hc _).trans h6, (hc _).trans h7⟩
theorem R4.lay (w : World) (t : TypeId) : R4 (w.alloc (.cells #[.bool false, .slice none 0 0, .bool false, .slice none 0 0] t)) w.heap.size := by
  refine ⟨by simp, NoU.alloc w _ t (noU4 _ _ _ _ _ _ _ _), fun o => ?_, ?_, ?_, ?_, ?_⟩ <;> go_simp
/-- over's memory. -/
def OvS (w : World) (n d : Int) (u : World) : Prop := Grow w u ∧ BxV u w.heap.size n ∧ BxV u (w.heap.size + 1) d ∧ R4 u (w.heap.size + 1 + 1)
theorem OvS.grow {w u u' : World} {n d : Int} (h : OvS w n d u) (hg : Grow u u') : OvS w n d u' := ⟨h.1.trans hg, h.2.1.grow hg, h.2.2.1.grow hg, h.2.2.2.grow hg⟩
theorem Grow.st2 {w u : World} (h : Grow w u) {b : Nat} (hb : w.heap.size ≤ b) (s : Bool) (m : Value) : Grow w (st2 u b s m) := Grow.setCell (Grow.setCell h hb _) hb _
theorem OvS.put1 {w u : World} {n0 d n : Int} {a l c} (h : OvS w n0 d u) (hm : MagR u (.slice a l c) n.natAbs) : OvS w n d (Go.Proofs.YtbpkfcohbefphaaGreatDoor.st2 u w.heap.size (sgB n) (.slice a l c)) :=
  ⟨h.1.st2 (Nat.le_refl _) _ _, h.2.1.put hm, h.2.2.1.off _ _ h.2.1.2.1 (by omega), h.2.2.2.off _ _ (by omega)⟩
theorem OvS.put2 {w u : World} {n d0 d : Int} {a l c} (h : OvS w n d0 u) (hm : MagR u (.slice a l c) d.natAbs) : OvS w n d (Go.Proofs.YtbpkfcohbefphaaGreatDoor.st2 u (w.heap.size + 1) (sgB d) (.slice a l c)) :=
  ⟨h.1.st2 (by omega) _ _, h.2.1.off _ _ h.2.2.1.2.1 (by omega), h.2.2.1.put hm, h.2.2.2.off _ _ (by omega)⟩
theorem OvS.put {w u : World} {n0 d0 n d : Int} {a l c a' l' c'} (h : OvS w n0 d0 u) (hm : MagR u (.slice a l c) n.natAbs) (hm' : MagR u (.slice a' l' c') d.natAbs) :
    OvS w n d ((((u.setCell ⟨w.heap.size, 0, none⟩ (.bool (sgB n))).setCell ⟨w.heap.size, 1, none⟩ (.slice a l c)).setCell ⟨w.heap.size + 1, 0, none⟩ (.bool (sgB d))).setCell ⟨w.heap.size + 1, 1, none⟩ (.slice a' l' c')) :=
  (h.put1 hm).put2 (hm'.set2 h.2.1.2.1 _ _ _ _)
theorem OvS.lay {w : World} {n d : Int} {a l c a' l' c'} (h : MagR w (.slice a l c) n.natAbs) (h' : MagR w (.slice a' l' c') d.natAbs) (t t' t'' : TypeId) :
    OvS w n d (((w.alloc (.cells #[.bool (sgB n), .slice a l c] t)).alloc (.cells #[.bool (sgB d), .slice a' l' c'] t')).alloc (.cells #[.bool false, .slice none 0 0, .bool false, .slice none 0 0] t'')) := by
  have g1 := (Grow.refl w).alloc (.cells #[.bool (sgB n), .slice a l c] t)
  have k1 := BxV.lay h t
  have k2 := BxV.lay (h'.grow g1) t'
  have k3 := R4.lay ((w.alloc (.cells #[.bool (sgB n), .slice a l c] t)).alloc (.cells #[.bool (sgB d), .slice a' l' c'] t')) t''
  simp only [World.size_alloc] at k2 k3
  have g2 := (Grow.refl (w.alloc (.cells #[.bool (sgB n), .slice a l c] t))).alloc (.cells #[.bool (sgB d), .slice a' l' c'] t')
  have g3 := (Grow.refl ((w.alloc (.cells #[.bool (sgB n), .slice a l c] t)).alloc (.cells #[.bool (sgB d), .slice a' l' c'] t'))).alloc (.cells #[.bool false, .slice none 0 0, .bool false, .slice none 0 0] t'')
  exact ⟨(g1.trans g2).trans g3, (k1.grow g2).grow g3, k2.grow g3, k3⟩
/-- What the walk reads of it, in every grown world. -/
def OvC (w : World) (s1 s2 : Bool) (a1 : Option Addr) (l1 c1 : Nat) (a2 : Option Addr) (l2 c2 : Nat) (u : World) : Prop :=
  u.cell? ⟨w.heap.size, 0, none⟩ = some (.bool s1) ∧ u.cell? ⟨w.heap.size, 1, none⟩ = some (.slice a1 l1 c1) ∧ u.cell? ⟨w.heap.size + 1, 0, none⟩ = some (.bool s2) ∧ u.cell? ⟨w.heap.size + 1, 1, none⟩ = some (.slice a2 l2 c2) ∧
  (∀ o, u.frozen? ⟨w.heap.size, o, none⟩ = false) ∧ (∀ o, u.frozen? ⟨w.heap.size + 1, o, none⟩ = false) ∧ (∀ o, u.frozen? ⟨w.heap.size + 1 + 1, o, none⟩ = false) ∧
  u.cell? ⟨w.heap.size + 1 + 1, 0, none⟩ = some (.bool false) ∧ u.cell? ⟨w.heap.size + 1 + 1, 1, none⟩ = some (.slice none 0 0) ∧ u.cell? ⟨w.heap.size + 1 + 1, 2, none⟩ = some (.bool false) ∧ u.cell? ⟨w.heap.size + 1 + 1, 3, none⟩ = some (.slice none 0 0) ∧ w.heap.size + 1 + 1 < u.heap.size
theorem OvS.read {w u : World} {n d : Int} (h : OvS w n d u) : ∃ a1 l1 c1 a2 l2 c2, MagR u (.slice a1 l1 c1) n.natAbs ∧ MagR u (.slice a2 l2 c2) d.natAbs ∧ ∀ u', Grow u u' → OvC w (sgB n) (sgB d) a1 l1 c1 a2 l2 c2 u' := by
  obtain ⟨h0, ⟨p1, -, p3, a1, l1, c1, p4, p5, p6⟩, ⟨q1, -, q3, a2, l2, c2, q4, q5, q6⟩, ⟨r1, -, r3, r4, r5, r6, r7⟩⟩ := h
  refine ⟨a1, l1, c1, a2, l2, c2, p6, q6, fun u' hg => ⟨(hg.cells _ _ p1).trans p4, (hg.cells _ _ p1).trans p5, (hg.cells _ _ q1).trans q4, (hg.cells _ _ q1).trans q5, fun o => (hg.frees _ _ p1).trans (p3 o), fun o => (hg.frees _ _ q1).trans (q3 o), fun o => (hg.frees _ _ r1).trans (r3 o), (hg.cells _ _ r1).trans r4, (hg.cells _ _ r1).trans r5, (hg.cells _ _ r1).trans r6, (hg.cells _ _ r1).trans r7, Nat.lt_of_lt_of_le r1 hg.size⟩⟩
theorem OvC.lay (w : World) (s1 s2 : Bool) (a1 : Option Addr) (l1 c1 : Nat) (a2 : Option Addr) (l2 c2 : Nat) (t t' t'' : TypeId) (u' : World)
    (hg : Grow (((w.alloc (.cells #[.bool s1, .slice a1 l1 c1] t)).alloc (.cells #[.bool s2, .slice a2 l2 c2] t')).alloc (.cells #[.bool false, .slice none 0 0, .bool false, .slice none 0 0] t'')) u') : OvC w s1 s2 a1 l1 c1 a2 l2 c2 u' := by
  have hz := hg.size
  simp at hz
  refine ⟨(hg.cells _ _ (by simp; try omega)).trans ?_, (hg.cells _ _ (by simp; try omega)).trans ?_, (hg.cells _ _ (by simp; try omega)).trans ?_, (hg.cells _ _ (by simp; try omega)).trans ?_, fun o => (hg.frees _ _ (by simp; try omega)).trans ?_, fun o => (hg.frees _ _ (by simp; try omega)).trans ?_, fun o => (hg.frees _ _ (by simp; try omega)).trans ?_, (hg.cells _ _ (by simp; try omega)).trans ?_, (hg.cells _ _ (by simp; try omega)).trans ?_, (hg.cells _ _ (by simp; try omega)).trans ?_, (hg.cells _ _ (by simp; try omega)).trans ?_, by omega⟩ <;> go_simp
theorem OvS.nou {w u u' : World} {n d : Int} (h : OvS w n d u) (hg : Grow u u') : NoU u' (w.heap.size + 1 + 1) := h.2.2.2.2.1.grow h.2.2.2.1 hg
theorem MagR.len0 {u : World} {a l c} (h : MagR u (.slice a l c) 0) : l = 0 := by
  rcases h with ⟨-, a', c', h⟩ | ⟨h, -⟩
  · injection h
  · omega
theorem MagR.len1 {u : World} {a l c n} (h : MagR u (.slice a l c) n) (hn : n ≠ 0) : l = 1 := by
  rcases h with ⟨h0, -⟩ | ⟨-, -, b, o, c', h, -⟩
  · exact absurd h0 hn
  · injection h
/-- The value v is the fraction x. -/
def RatR (w : World) (v : Value) (x : Rat) : Prop := ∃ m1 m2, v = .agg #[.bool (sgB x.num), m1, .bool false, m2] ∧ MagR w m1 x.num.natAbs ∧ MagR w m2 x.den
theorem RatR.grow {w w' : World} {v : Value} {x : Rat} (h : RatR w v x) (hg : Grow w w') : RatR w' v x := by
  obtain ⟨m1, m2, hv, h1, h2⟩ := h
  exact ⟨m1, m2, hv, h1.grow hg, h2.grow hg⟩
/-- A fraction's fields in lowest terms. -/
theorem divInt_low {n d : Int} (hd : 0 < d) : (Rat.divInt n d).num = n / (Int.gcd n d : Int) ∧ ((Rat.divInt n d).den : Int) = d / (Int.gcd n d : Int) := by
  constructor
  · rw [Rat.num_divInt, Int.sign_eq_one_of_pos hd, Int.one_mul, Int.gcd_comm]
  · rw [Rat.den_divInt, if_neg (by omega), Int.gcd_comm]
    have : (d.natAbs : Int) = d := by omega
    rw [Int.natCast_ediv, this]
theorem RatR.mk {w : World} {n d : Int} {X : Rat} {m1 m2 : Value} (g : Nat) (hd : 0 < d) (hX : Rat.divInt n d = X) (hg : Int.gcd n d = g) (h1 : MagR w m1 (n / (g : Int)).natAbs) (h2 : MagR w m2 (d / (g : Int)).natAbs) :
    RatR w (.agg #[.bool (sgB (n / (g : Int))), m1, .bool false, m2]) X := by
  obtain ⟨e1, e2⟩ := divInt_low (n := n) hd
  rw [hX, hg] at e1 e2
  have e3 : X.den = (d / (g : Int)).natAbs := by omega
  exact ⟨m1, m2, by rw [e1], by rw [e1]; exact h1, by rw [e3]; exact h2⟩
theorem OvC.grow {w : World} {s1 s2 : Bool} {a1 : Option Addr} {l1 c1 : Nat} {a2 : Option Addr} {l2 c2 : Nat} {u u' : World} (h : OvC w s1 s2 a1 l1 c1 a2 l2 c2 u) (hg : Grow u u') : OvC w s1 s2 a1 l1 c1 a2 l2 c2 u' := by
  obtain ⟨h1, h2, h3, h4, f1, f2, f3, r1, r2, r3, r4, hz⟩ := h
  have hs := hg.size
  exact ⟨(hg.cells _ _ (by omega)).trans h1, (hg.cells _ _ (by omega)).trans h2, (hg.cells _ _ (by omega)).trans h3, (hg.cells _ _ (by omega)).trans h4, fun o => (hg.frees _ _ (by omega)).trans (f1 o), fun o => (hg.frees _ _ (by omega)).trans (f2 o), fun o => (hg.frees _ _ (by omega)).trans (f3 o), (hg.cells _ _ (by omega)).trans r1, (hg.cells _ _ (by omega)).trans r2, (hg.cells _ _ (by omega)).trans r3, (hg.cells _ _ (by omega)).trans r4, by omega⟩
theorem OvC.put1 {w : World} {s1 s2 : Bool} {a1 : Option Addr} {l1 c1 : Nat} {a2 : Option Addr} {l2 c2 : Nat} {u : World} (h : OvC w s1 s2 a1 l1 c1 a2 l2 c2 u) (s : Bool) (a : Option Addr) (l c : Nat) :
    OvC w s s2 a l c a2 l2 c2 ((u.setCell ⟨w.heap.size, 0, none⟩ (.bool s)).setCell ⟨w.heap.size, 1, none⟩ (.slice a l c)) := by
  obtain ⟨h1, h2, h3, h4, f1, f2, f3, r1, r2, r3, r4, hz⟩ := h
  refine ⟨?_, ?_, ?_, ?_, fun o => ?_, fun o => ?_, fun o => ?_, ?_, ?_, ?_, ?_, ?_⟩ <;> go_simp
theorem OvC.put2 {w : World} {s1 s2 : Bool} {a1 : Option Addr} {l1 c1 : Nat} {a2 : Option Addr} {l2 c2 : Nat} {u : World} (h : OvC w s1 s2 a1 l1 c1 a2 l2 c2 u) (s : Bool) (a : Option Addr) (l c : Nat) :
    OvC w s1 s a1 l1 c1 a l c ((u.setCell ⟨w.heap.size + 1, 0, none⟩ (.bool s)).setCell ⟨w.heap.size + 1, 1, none⟩ (.slice a l c)) := by
  obtain ⟨h1, h2, h3, h4, f1, f2, f3, r1, r2, r3, r4, hz⟩ := h
  refine ⟨?_, ?_, ?_, ?_, fun o => ?_, fun o => ?_, fun o => ?_, ?_, ?_, ?_, ?_, ?_⟩ <;> go_simp
theorem gbx (u : World) (s : Bool) (a : Option Addr) (l c : Nat) (t : TypeId) (u' : World) (hg : Grow (u.alloc (.cells #[.bool s, .slice a l c] t)) u') :
    u'.cell? ⟨u.heap.size, 0, none⟩ = some (.bool s) ∧ u'.cell? ⟨u.heap.size, 1, none⟩ = some (.slice a l c) ∧ u.heap.size < u'.heap.size := by
  have hz := hg.size
  simp at hz
  refine ⟨(hg.cells _ _ (by simp)).trans ?_, (hg.cells _ _ (by simp)).trans ?_, by omega⟩ <;> go_simp
theorem NoU.off {u : World} {B b : Nat} (h : NoU u b) (hne : B ≠ b) (o1 o2 : Nat) (v1 v2 : Value) : NoU ((u.setCell ⟨B, o1, none⟩ v1).setCell ⟨B, o2, none⟩ v2) b := fun o k x => by
  rw [World.cell?_setCell_far _ _ _ _ hne, World.cell?_setCell_far _ _ _ _ hne]; exact h o k x
theorem OvS.nou1 {w u u' : World} {n d : Int} (h : OvS w n d u) (hg : Grow u u') : NoU u' w.heap.size := h.2.1.2.1.grow h.2.1.1 hg
theorem OvS.nou2 {w u u' : World} {n d : Int} (h : OvS w n d u) (hg : Grow u u') : NoU u' (w.heap.size + 1) := h.2.2.1.2.1.grow h.2.2.1.1 hg
end Go.Proofs.YtbpkfcohbefphaaGreatDoor
namespace Go.Proofs.YtbpkfcohbefphaaGreatDoor
open Go Go.RowKit
set_option maxRecDepth 20000 in
set_option maxHeartbeats 16000000 in
theorem over_any (n d : Int) (m1 m2 : Value) (w : World) (h1 : MagR w m1 n.natAbs) (h2 : MagR w m2 d.natAbs) :
    Calls Tryz.prog 26 #[.agg #[.bool (sgB n), m1], .agg #[.bool (sgB d), m2]] w fun e w' => ∃ v, e = .returned v ∧ RatR w' v (Rat.divInt n d) ∧ Grow w w' := by
  obtain ⟨a1, c1, rfl⟩ := h1.form
  obtain ⟨a2, c2, rfl⟩ := h2.form
  obtain ⟨X, hX⟩ : ∃ X, Rat.divInt n d = X := ⟨_, rfl⟩
  rw [hX]
  have N1 := Lib.hid (fun u hu => normal_any n _ u (h1.grow hu))
  have N2 := Lib.hid (fun u hu => normal_any d _ u (h2.grow hu))
  have OV := Lib.hid (OvS.lay h1 h2 25 25 27)
  obtain ⟨nn, hnn⟩ : ∃ nn, n.natAbs = nn := ⟨_, rfl⟩
  obtain ⟨nd, hnd⟩ : ∃ nd, d.natAbs = nd := ⟨_, rfl⟩
  obtain ⟨s1, hs1⟩ : ∃ s, sgB n = s := ⟨_, rfl⟩
  obtain ⟨s2, hs2⟩ : ∃ s, sgB d = s := ⟨_, rfl⟩
  rw [hnn] at N1 h1
  rw [hnd] at N2 h2
  simp only [hnn, hnd, hs1, hs2] at OV
  rw [hs1] at N1 ⊢
  rw [hs2] at N2 ⊢
  rw [hnn]
  rw [hnd]
  have HX := Lib.hid hX
  have HNN := Lib.hid hnn
  have HND := Lib.hid hnd
  have HS1 := Lib.hid hs1
  have HS2 := Lib.hid hs2
  generalize (if nn = 0 then 0 else 1) = l1 at *
  generalize (if nd = 0 then 0 else 1) = l2 at *
  clear h1 h2 hnn hnd hs1 hs2 hX
  go_enter Tryz.func26, Tryz.ntmps26
  have CC := Lib.hid (OvC.lay w s1 s2 a1 l1 c1 a2 l2 c2 25 25 27)
  go_upto_region 1 with fail
  go_cut [] (fun wx => Hid (OvS w n d wx))
  case first =>
    go_region_with (go_at_call 48; first | ((with_reducible refine (N1.out _ (by (repeat (first | with_reducible exact Grow.refl _ | with_reducible refine Grow.alloc ?_ _ | with_reducible refine Grow.drew ?_ | with_reducible refine Grow.drewN ?_ _ | (with_reducible refine Grow.setCell ?_ ?hp _; (case hp => (simp; try omega))) | with_reducible refine Grow.trans ?_ (by assumption))))).mono ?_); (rintro e u4 ⟨m4, rfl, hm4, hb4⟩; obtain ⟨a4, c4, rfl⟩ := hm4.form; generalize (if nn = 0 then 0 else 1) = l4 at hm4 ⊢; have HM4 := Lib.hid hm4; clear hm4; obtain ⟨x204, x214, x304, x314, xf24, xf34, xf44, x404, x414, x424, x434, xz4⟩ := CC.out u4 (by (repeat (first | with_reducible exact Grow.refl _ | with_reducible refine Grow.alloc ?_ _ | with_reducible refine Grow.drew ?_ | with_reducible refine Grow.drewN ?_ _ | (with_reducible refine Grow.setCell ?_ ?hp _; (case hp => (simp; try omega))) | with_reducible refine Grow.trans ?_ (by assumption)))))) | ((with_reducible refine (N2.out _ (by (repeat (first | with_reducible exact Grow.refl _ | with_reducible refine Grow.alloc ?_ _ | with_reducible refine Grow.drew ?_ | with_reducible refine Grow.drewN ?_ _ | (with_reducible refine Grow.setCell ?_ ?hp _; (case hp => (simp; try omega))) | with_reducible refine Grow.trans ?_ (by assumption))))).mono ?_); (rintro e u5 ⟨m5, rfl, hm5, hb5⟩; obtain ⟨a5, c5, rfl⟩ := hm5.form; generalize (if nd = 0 then 0 else 1) = l5 at hm5 ⊢; have HM5 := Lib.hid hm5; clear hm5; obtain ⟨x205, x215, x305, x315, xf25, xf35, xf45, x405, x415, x425, x435, xz5⟩ := CC.out u5 (by (repeat (first | with_reducible exact Grow.refl _ | with_reducible refine Grow.alloc ?_ _ | with_reducible refine Grow.drew ?_ | with_reducible refine Grow.drewN ?_ _ | (with_reducible refine Grow.setCell ?_ ?hp _; (case hp => (simp; try omega))) | with_reducible refine Grow.trans ?_ (by assumption)))))))
    all_goals go_wp2
    all_goals go_meet
    all_goals (have q4 := HM4.out.grow hb5; rw [← HNN.out] at q4; have q5 := HM5.out; rw [← HND.out] at q5; rw [← HS1.out, ← HS2.out]; exact Lib.hid (OvS.put (OV.out.grow (by (repeat (first | with_reducible exact Grow.refl _ | with_reducible refine Grow.alloc ?_ _ | with_reducible refine Grow.drew ?_ | with_reducible refine Grow.drewN ?_ _ | (with_reducible refine Grow.setCell ?_ ?hp _; (case hp => (simp; try omega))) | with_reducible refine Grow.trans ?_ (by assumption))))) q4 q5))
  case rest =>
    clear CC N1 N2 OV HNN HND HS1 HS2
    obtain ⟨wx, rfl⟩ : ∃ wx, wx = wc := ⟨_, rfl⟩
    have OV := hcut
    clear hcut
    have hgx := OV.out.1
    go_upto_block 0 with fail
    go_cut [] (fun wy => ∃ n' d' : Int, Hid (0 < d' ∧ n' ≠ 0 ∧ Rat.divInt n' d' = X) ∧ Hid (OvS w n' d' wy))
    case first =>
      obtain ⟨a0, l0, c0, b0, k0, e0, hm0, hn0, cc0⟩ := OV.out.read
      have CC0 := Lib.hid cc0
      clear cc0
      obtain ⟨y200, y210, y300, y310, yf20, yf30, yf40, y400, y410, y420, y430, yz0⟩ := CC0.out wx (Grow.refl _)
      obtain ⟨nn, hnn⟩ : ∃ nn, n.natAbs = nn := ⟨_, rfl⟩
      obtain ⟨nd, hnd⟩ : ∃ nd, d.natAbs = nd := ⟨_, rfl⟩
      by_cases hd0 : d = 0
      · have hl : k0 = 0 := by subst hd0; exact hn0.len0
        subst hl
        have hX0 : Rat.divInt n d = 0 := by rw [hd0]; exact Rat.divInt_zero n
        have HX0 := Lib.hid hX0
        clear hm0 hn0 hd0 hX0 hnn hnd
        have OF1 := Lib.hid (fun u => of_any 1 (by decide) u)
        rw [show sgB 1 = false from rfl, show Int.natAbs 1 = 1 from rfl] at OF1
        go_wp2_with (go_at_call 19; (with_reducible refine (OF1.out _).mono ?_); (rintro e u6 ⟨m6, rfl, hm6, hb6⟩; obtain ⟨a6, c6, rfl⟩ := hm6.form; rw [if_neg (by decide)] at hm6 ⊢; have HM6 := Lib.hid hm6; clear hm6; obtain ⟨y206, y216, y306, y316, yf26, yf36, yf46, y406, y416, y426, y436, yz6⟩ := CC0.out u6 (by (repeat (first | with_reducible exact Grow.refl _ | with_reducible refine Grow.alloc ?_ _ | with_reducible refine Grow.drew ?_ | with_reducible refine Grow.drewN ?_ _ | (with_reducible refine Grow.setCell ?_ ?hp _; (case hp => (simp; try omega))) | with_reducible refine Grow.trans ?_ (by assumption))))))
        refine bodyPost_ret (v := .agg #[.bool false, .slice none 0 0, .bool false, .slice a6 1 c6]) (by rw [results_one rfl]; go_simp) rfl ⟨_, rfl, ?_, by (repeat (first | with_reducible exact Grow.refl _ | with_reducible refine Grow.alloc ?_ _ | with_reducible refine Grow.drew ?_ | with_reducible refine Grow.drewN ?_ _ | (with_reducible refine Grow.setCell ?_ ?hp _; (case hp => (simp; try omega))) | with_reducible refine Grow.trans ?_ (by assumption)))⟩
        rw [← HX.out, HX0.out]
        exact ⟨_, _, rfl, .inl ⟨rfl, none, 0, rfl⟩, HM6.out.set4 (OV.out.nou (by (repeat (first | with_reducible exact Grow.refl _ | with_reducible refine Grow.alloc ?_ _ | with_reducible refine Grow.drew ?_ | with_reducible refine Grow.drewN ?_ _ | (with_reducible refine Grow.setCell ?_ ?hp _; (case hp => (simp; try omega))) | with_reducible refine Grow.trans ?_ (by assumption))))) _ _ _ _ _ _ _ _⟩

      · by_cases hn0' : n = 0
        · have hl : k0 = 1 := hn0.len1 (by omega)
          have hl2 : l0 = 0 := by subst hn0'; exact hm0.len0
          subst hl hl2
          have hX0 : Rat.divInt n d = 0 := by rw [hn0']; exact Rat.zero_divInt d
          have HX0 := Lib.hid hX0
          clear hm0 hn0 hd0 hn0' hX0 hnn hnd
          have OF1 := Lib.hid (fun u => of_any 1 (by decide) u)
          rw [show sgB 1 = false from rfl, show Int.natAbs 1 = 1 from rfl] at OF1
          go_wp2_with (go_at_call 19; (with_reducible refine (OF1.out _).mono ?_); (rintro e u6 ⟨m6, rfl, hm6, hb6⟩; obtain ⟨a6, c6, rfl⟩ := hm6.form; rw [if_neg (by decide)] at hm6 ⊢; have HM6 := Lib.hid hm6; clear hm6; obtain ⟨y206, y216, y306, y316, yf26, yf36, yf46, y406, y416, y426, y436, yz6⟩ := CC0.out u6 (by (repeat (first | with_reducible exact Grow.refl _ | with_reducible refine Grow.alloc ?_ _ | with_reducible refine Grow.drew ?_ | with_reducible refine Grow.drewN ?_ _ | (with_reducible refine Grow.setCell ?_ ?hp _; (case hp => (simp; try omega))) | with_reducible refine Grow.trans ?_ (by assumption))))))
          refine bodyPost_ret (v := .agg #[.bool false, .slice none 0 0, .bool false, .slice a6 1 c6]) (by rw [results_one rfl]; go_simp) rfl ⟨_, rfl, ?_, by (repeat (first | with_reducible exact Grow.refl _ | with_reducible refine Grow.alloc ?_ _ | with_reducible refine Grow.drew ?_ | with_reducible refine Grow.drewN ?_ _ | (with_reducible refine Grow.setCell ?_ ?hp _; (case hp => (simp; try omega))) | with_reducible refine Grow.trans ?_ (by assumption)))⟩
          rw [← HX.out, HX0.out]
          exact ⟨_, _, rfl, .inl ⟨rfl, none, 0, rfl⟩, HM6.out.set4 (OV.out.nou (by (repeat (first | with_reducible exact Grow.refl _ | with_reducible refine Grow.alloc ?_ _ | with_reducible refine Grow.drew ?_ | with_reducible refine Grow.drewN ?_ _ | (with_reducible refine Grow.setCell ?_ ?hp _; (case hp => (simp; try omega))) | with_reducible refine Grow.trans ?_ (by assumption))))) _ _ _ _ _ _ _ _⟩

        · have hl : k0 = 1 := hn0.len1 (by omega)
          have hl2 : l0 = 1 := hm0.len1 (by omega)
          subst hl hl2
          by_cases hneg : d < 0
          · have e1 : sgB d = true := by simp [sgB, hneg]
            have HP := Lib.hid (show 0 < -d ∧ -n ≠ 0 ∧ Rat.divInt (-n) (-d) = X from ⟨by omega, by omega, by rw [Rat.neg_divInt_neg]; exact HX.out⟩)
            have N1 := Lib.hid (fun u hu => neg_any n _ u (hm0.grow hu))
            have N2 := Lib.hid (fun u hu => neg_any d _ u (hn0.grow hu))
            obtain ⟨s1, hs1⟩ : ∃ s, sgB n = s := ⟨_, rfl⟩
            obtain ⟨t1, ht1⟩ : ∃ s, sgB (-n) = s := ⟨_, rfl⟩
            obtain ⟨t2, ht2⟩ : ∃ s, sgB (-d) = s := ⟨_, rfl⟩
            obtain ⟨mn, hmn⟩ : ∃ s, (-n).natAbs = s := ⟨_, rfl⟩
            obtain ⟨md, hmd⟩ : ∃ s, (-d).natAbs = s := ⟨_, rfl⟩
            rw [hs1] at N1 CC0 y200
            rw [ht1, hmn] at N1
            rw [ht2, hmd] at N2
            rw [e1] at N2 CC0 y300
            have HT1 := Lib.hid ht1
            have HT2 := Lib.hid ht2
            have HMN := Lib.hid hmn
            have HMD := Lib.hid hmd
            clear hm0 hn0 hd0 hn0' hneg hnn hnd e1 hs1 ht1 ht2 hmn hmd
            have CC := CC0
            go_upto_region 5 with fail
            go_region_with (go_at_call 39; first | ((with_reducible refine (N1.out _ (by (repeat (first | with_reducible exact Grow.refl _ | with_reducible refine Grow.alloc ?_ _ | with_reducible refine Grow.drew ?_ | with_reducible refine Grow.drewN ?_ _ | (with_reducible refine Grow.setCell ?_ ?hp _; (case hp => (simp; try omega))) | with_reducible refine Grow.trans ?_ (by assumption))))).mono ?_); (rintro e u4 ⟨m4, rfl, hm4, hb4⟩; obtain ⟨a4, c4, rfl⟩ := hm4.form; generalize (if mn = 0 then 0 else 1) = l4 at hm4 ⊢; have HM4 := Lib.hid hm4; clear hm4; obtain ⟨x204, x214, x304, x314, xf24, xf34, xf44, x404, x414, x424, x434, xz4⟩ := CC.out u4 (by (repeat (first | with_reducible exact Grow.refl _ | with_reducible refine Grow.alloc ?_ _ | with_reducible refine Grow.drew ?_ | with_reducible refine Grow.drewN ?_ _ | (with_reducible refine Grow.setCell ?_ ?hp _; (case hp => (simp; try omega))) | with_reducible refine Grow.trans ?_ (by assumption)))))) | ((with_reducible refine (N2.out _ (by (repeat (first | with_reducible exact Grow.refl _ | with_reducible refine Grow.alloc ?_ _ | with_reducible refine Grow.drew ?_ | with_reducible refine Grow.drewN ?_ _ | (with_reducible refine Grow.setCell ?_ ?hp _; (case hp => (simp; try omega))) | with_reducible refine Grow.trans ?_ (by assumption))))).mono ?_); (rintro e u5 ⟨m5, rfl, hm5, hb5⟩; obtain ⟨a5, c5, rfl⟩ := hm5.form; generalize (if md = 0 then 0 else 1) = l5 at hm5 ⊢; have HM5 := Lib.hid hm5; clear hm5; obtain ⟨x205, x215, x305, x315, xf25, xf35, xf45, x405, x415, x425, x435, xz5⟩ := CC.out u5 (by (repeat (first | with_reducible exact Grow.refl _ | with_reducible refine Grow.alloc ?_ _ | with_reducible refine Grow.drew ?_ | with_reducible refine Grow.drewN ?_ _ | (with_reducible refine Grow.setCell ?_ ?hp _; (case hp => (simp; try omega))) | with_reducible refine Grow.trans ?_ (by assumption)))))))
            all_goals go_wp2
            all_goals go_meet
            all_goals (have q4 := HM4.out.grow hb5; rw [← HMN.out] at q4; have q5 := HM5.out; rw [← HMD.out] at q5; rw [← HT1.out, ← HT2.out]; exact ⟨_, _, HP, Lib.hid (OvS.put (OV.out.grow (by (repeat (first | with_reducible exact Grow.refl _ | with_reducible refine Grow.alloc ?_ _ | with_reducible refine Grow.drew ?_ | with_reducible refine Grow.drewN ?_ _ | (with_reducible refine Grow.setCell ?_ ?hp _; (case hp => (simp; try omega))) | with_reducible refine Grow.trans ?_ (by assumption))))) q4 q5)⟩)
          · have e1 : sgB d = false := by simp [sgB]; omega
            have HP := Lib.hid (show 0 < d ∧ n ≠ 0 ∧ Rat.divInt n d = X from ⟨by omega, hn0', HX.out⟩)
            rw [e1] at CC0 y300
            clear hm0 hn0 hd0 hn0' hneg hnn hnd e1
            go_wp2
            go_meet
            exact ⟨_, _, HP, OV⟩
    case rest =>
      obtain ⟨n', d', HP, OV1⟩ := hcut
      clear OV hgx
      obtain ⟨wy, rfl⟩ : ∃ wy, wy = wc := ⟨_, rfl⟩
      have hgy := OV1.out.1
      obtain ⟨a1, l1, c1, b1, k1, e1', hm1, hn1, cc1⟩ := OV1.out.read
      have CC1 := Lib.hid cc1
      clear cc1
      obtain ⟨y201, y211, y301, y311, yf21, yf31, yf41, y401, y411, y421, y431, yz1⟩ := CC1.out wy (Grow.refl _)
      have hp := HP.out
      have hl : k1 = 1 := hn1.len1 (by omega)
      have hl2 : l1 = 1 := hm1.len1 (by omega)
      subst hl hl2
      have e1 : sgB d' = false := by simp [sgB]; omega
      rw [e1] at CC1 y301
      have ON := Lib.hid (fun u hu => one_any d' _ u (hn1.grow hu))
      rw [e1] at ON
      by_cases h1 : d' = 1
      · simp only [decide_eq_true h1] at ON
        have HR := Lib.hid (fun (u : World) (q1 : MagR u (.slice a1 1 c1) n'.natAbs) (q2 : MagR u (.slice b1 1 e1') d'.natAbs) => RatR.mk (w := u) (m1 := .slice a1 1 c1) (m2 := .slice b1 1 e1') 1 hp.1 hp.2.2 (by rw [h1]; simp) (by simpa using q1) (by simpa using q2))
        simp only [Int.natCast_one, Int.ediv_one] at HR
        obtain ⟨T, hT⟩ : ∃ T, sgB n' = T := ⟨_, rfl⟩
        rw [hT] at CC1 y201
        simp only [hT] at HR
        have HM1 := Lib.hid hm1
        have HN1 := Lib.hid hn1
        clear hp hm1 hn1 e1 h1 hT
        go_wp2_with (go_at_call 23; (with_reducible refine (ON.out _ (by (repeat (first | with_reducible exact Grow.refl _ | with_reducible refine Grow.alloc ?_ _ | with_reducible refine Grow.drew ?_ | with_reducible refine Grow.drewN ?_ _ | (with_reducible refine Grow.setCell ?_ ?hp _; (case hp => (simp; try omega))) | with_reducible refine Grow.trans ?_ (by assumption))))).mono ?_); (rintro e u7 ⟨rfl, hb7⟩; obtain ⟨y207, y217, y307, y317, yf27, yf37, yf47, y407, y417, y427, y437, yz7⟩ := CC1.out u7 (by (repeat (first | with_reducible exact Grow.refl _ | with_reducible refine Grow.alloc ?_ _ | with_reducible refine Grow.drew ?_ | with_reducible refine Grow.drewN ?_ _ | (with_reducible refine Grow.setCell ?_ ?hp _; (case hp => (simp; try omega))) | with_reducible refine Grow.trans ?_ (by assumption))))))
        refine bodyPost_ret (v := .agg #[.bool T, .slice a1 1 c1, .bool false, .slice b1 1 e1']) (by rw [results_one rfl]; go_simp) rfl ⟨_, rfl, ?_, by (repeat (first | with_reducible exact Grow.refl _ | with_reducible refine Grow.alloc ?_ _ | with_reducible refine Grow.drew ?_ | with_reducible refine Grow.drewN ?_ _ | (with_reducible refine Grow.setCell ?_ ?hp _; (case hp => (simp; try omega))) | with_reducible refine Grow.trans ?_ (by assumption)))⟩
        exact HR.out _ ((HM1.out.grow (by (repeat (first | with_reducible exact Grow.refl _ | with_reducible refine Grow.alloc ?_ _ | with_reducible refine Grow.drew ?_ | with_reducible refine Grow.drewN ?_ _ | (with_reducible refine Grow.setCell ?_ ?hp _; (case hp => (simp; try omega))) | with_reducible refine Grow.trans ?_ (by assumption))))).set4 (OV1.out.nou (by (repeat (first | with_reducible exact Grow.refl _ | with_reducible refine Grow.alloc ?_ _ | with_reducible refine Grow.drew ?_ | with_reducible refine Grow.drewN ?_ _ | (with_reducible refine Grow.setCell ?_ ?hp _; (case hp => (simp; try omega))) | with_reducible refine Grow.trans ?_ (by assumption))))) _ _ _ _ _ _ _ _) ((HN1.out.grow (by (repeat (first | with_reducible exact Grow.refl _ | with_reducible refine Grow.alloc ?_ _ | with_reducible refine Grow.drew ?_ | with_reducible refine Grow.drewN ?_ _ | (with_reducible refine Grow.setCell ?_ ?hp _; (case hp => (simp; try omega))) | with_reducible refine Grow.trans ?_ (by assumption))))).set4 (OV1.out.nou (by (repeat (first | with_reducible exact Grow.refl _ | with_reducible refine Grow.alloc ?_ _ | with_reducible refine Grow.drew ?_ | with_reducible refine Grow.drewN ?_ _ | (with_reducible refine Grow.setCell ?_ ?hp _; (case hp => (simp; try omega))) | with_reducible refine Grow.trans ?_ (by assumption))))) _ _ _ _ _ _ _ _)
      · simp only [decide_eq_false h1] at ON
        have GC := Lib.hid (fun u hu => gcdI_any n' d' _ _ u (hm1.grow hu) (hn1.grow hu))
        rw [e1] at GC
        obtain ⟨g, hg⟩ : ∃ g, Int.gcd n' d' = g := ⟨_, rfl⟩
        rw [hg] at GC
        have hg0 : g ≠ 0 := by rw [← hg]; intro h; rw [Int.gcd_eq_zero_iff] at h; omega
        have hgd : (g : Int) ∣ d' := by rw [← hg]; exact Int.gcd_dvd_right ..
        have hgn : (g : Int) ∣ n' := by rw [← hg]; exact Int.gcd_dvd_left ..
        have hd1 : d' / (g : Int) ≠ 0 := by intro h; have := Int.ediv_mul_cancel hgd; rw [h] at this; omega
        have hn1' : n' / (g : Int) ≠ 0 := by intro h; have := Int.ediv_mul_cancel hgn; rw [h] at this; omega
        have hds : sgB (d' / (g : Int)) = false := by
          have : 0 ≤ d' / (g : Int) := Int.ediv_nonneg (by omega) (by omega)
          simp [sgB]; omega
        have HR := Lib.hid (fun (u : World) (m1 m2 : Value) (q1 : MagR u m1 (n' / (g : Int)).natAbs) (q2 : MagR u m2 (d' / (g : Int)).natAbs) => RatR.mk (w := u) g hp.1 hp.2.2 hg q1 q2)
        have EX1 := Lib.hid (fun u m1 m2 (q1 : MagR u m1 n'.natAbs) (q2 : MagR u m2 g) => exact_any n' (g : Int) m1 m2 (by omega) hgn u q1 (by simpa using q2))
        have EX2 := Lib.hid (fun u m1 m2 (q1 : MagR u m1 d'.natAbs) (q2 : MagR u m2 g) => exact_any d' (g : Int) m1 m2 (by omega) hgd u q1 (by simpa using q2))
        have OG := Lib.hid (fun u m (q : MagR u m g) => one_any (g : Int) m u (by simpa using q))
        simp only [sgB_nat, hds, e1] at EX1 EX2 OG
        obtain ⟨T, hT⟩ : ∃ T, sgB n' = T := ⟨_, rfl⟩
        rw [hT] at CC1 y201 GC
        simp only [hT] at EX1
        obtain ⟨nn, hnn⟩ : ∃ nn, n'.natAbs = nn := ⟨_, rfl⟩
        obtain ⟨nd, hnd⟩ : ∃ nn, d'.natAbs = nn := ⟨_, rfl⟩
        rw [hnn] at hm1
        rw [hnd] at hn1
        simp only [hnn] at EX1
        simp only [hnd] at EX2
        have HM1 := Lib.hid hm1
        have HN1 := Lib.hid hn1
        have HG0 := Lib.hid hg0
        by_cases h2 : g = 1
        · have h3 : ((g : Int) = 1) := by omega
          simp only [decide_eq_true h3] at OG
          have f1 : n' / (g : Int) = n' := by rw [h3, Int.ediv_one]
          have f2 : d' / (g : Int) = d' := by rw [h3, Int.ediv_one]
          simp only [f1, f2, hT, hnn, hnd] at HR
          clear EX1 EX2 hp hm1 hn1 e1 h1 hT hnn hnd hg hg0 hgd hgn hd1 hn1' hds h2 h3 f1 f2
          go_wp2_with (first | (go_at_call 23; (with_reducible refine (ON.out _ (by (repeat (first | with_reducible exact Grow.refl _ | with_reducible refine Grow.alloc ?_ _ | with_reducible refine Grow.drew ?_ | with_reducible refine Grow.drewN ?_ _ | (with_reducible refine Grow.setCell ?_ ?hp _; (case hp => (simp; try omega))) | with_reducible refine Grow.trans ?_ (by assumption))))).mono ?_); (rintro e u7 ⟨rfl, hb7⟩; obtain ⟨y207, y217, y307, y317, yf27, yf37, yf47, y407, y417, y427, y437, yz7⟩ := CC1.out u7 (by (repeat (first | with_reducible exact Grow.refl _ | with_reducible refine Grow.alloc ?_ _ | with_reducible refine Grow.drew ?_ | with_reducible refine Grow.drewN ?_ _ | (with_reducible refine Grow.setCell ?_ ?hp _; (case hp => (simp; try omega))) | with_reducible refine Grow.trans ?_ (by assumption)))))) | (go_at_call 49; (with_reducible refine (GC.out _ (by (repeat (first | with_reducible exact Grow.refl _ | with_reducible refine Grow.alloc ?_ _ | with_reducible refine Grow.drew ?_ | with_reducible refine Grow.drewN ?_ _ | (with_reducible refine Grow.setCell ?_ ?hp _; (case hp => (simp; try omega))) | with_reducible refine Grow.trans ?_ (by assumption))))).mono ?_); (rintro e u8 ⟨m8, rfl, hm8, hb8⟩; obtain ⟨a8, c8, rfl⟩ := hm8.form; rw [if_neg HG0.out] at hm8 ⊢; have HM8 := Lib.hid hm8; clear hm8; obtain ⟨y208, y218, y308, y318, yf28, yf38, yf48, y408, y418, y428, y438, yz8⟩ := CC1.out u8 (by (repeat (first | with_reducible exact Grow.refl _ | with_reducible refine Grow.alloc ?_ _ | with_reducible refine Grow.drew ?_ | with_reducible refine Grow.drewN ?_ _ | (with_reducible refine Grow.setCell ?_ ?hp _; (case hp => (simp; try omega))) | with_reducible refine Grow.trans ?_ (by assumption)))))) | (go_at_call 23; (with_reducible refine (OG.out _ _ (HM8.out.grow ((Grow.refl _).alloc _))).mono ?_); (rintro e u9 ⟨rfl, hb9⟩; obtain ⟨y209, y219, y309, y319, yf29, yf39, yf49, y409, y419, y429, y439, yz9⟩ := CC1.out u9 (by (repeat (first | with_reducible exact Grow.refl _ | with_reducible refine Grow.alloc ?_ _ | with_reducible refine Grow.drew ?_ | with_reducible refine Grow.drewN ?_ _ | (with_reducible refine Grow.setCell ?_ ?hp _; (case hp => (simp; try omega))) | with_reducible refine Grow.trans ?_ (by assumption)))))))
          refine bodyPost_ret (v := .agg #[.bool T, .slice a1 1 c1, .bool false, .slice b1 1 e1']) (by rw [results_one rfl]; go_simp) rfl ⟨_, rfl, ?_, by (repeat (first | with_reducible exact Grow.refl _ | with_reducible refine Grow.alloc ?_ _ | with_reducible refine Grow.drew ?_ | with_reducible refine Grow.drewN ?_ _ | (with_reducible refine Grow.setCell ?_ ?hp _; (case hp => (simp; try omega))) | with_reducible refine Grow.trans ?_ (by assumption)))⟩
          exact HR.out _ _ _ ((HM1.out.grow (by (repeat (first | with_reducible exact Grow.refl _ | with_reducible refine Grow.alloc ?_ _ | with_reducible refine Grow.drew ?_ | with_reducible refine Grow.drewN ?_ _ | (with_reducible refine Grow.setCell ?_ ?hp _; (case hp => (simp; try omega))) | with_reducible refine Grow.trans ?_ (by assumption))))).set4 (OV1.out.nou (by (repeat (first | with_reducible exact Grow.refl _ | with_reducible refine Grow.alloc ?_ _ | with_reducible refine Grow.drew ?_ | with_reducible refine Grow.drewN ?_ _ | (with_reducible refine Grow.setCell ?_ ?hp _; (case hp => (simp; try omega))) | with_reducible refine Grow.trans ?_ (by assumption))))) _ _ _ _ _ _ _ _) ((HN1.out.grow (by (repeat (first | with_reducible exact Grow.refl _ | with_reducible refine Grow.alloc ?_ _ | with_reducible refine Grow.drew ?_ | with_reducible refine Grow.drewN ?_ _ | (with_reducible refine Grow.setCell ?_ ?hp _; (case hp => (simp; try omega))) | with_reducible refine Grow.trans ?_ (by assumption))))).set4 (OV1.out.nou (by (repeat (first | with_reducible exact Grow.refl _ | with_reducible refine Grow.alloc ?_ _ | with_reducible refine Grow.drew ?_ | with_reducible refine Grow.drewN ?_ _ | (with_reducible refine Grow.setCell ?_ ?hp _; (case hp => (simp; try omega))) | with_reducible refine Grow.trans ?_ (by assumption))))) _ _ _ _ _ _ _ _)
        · have h3 : ¬ ((g : Int) = 1) := by omega
          simp only [decide_eq_false h3] at OG
          obtain ⟨T2, hT2⟩ : ∃ T, sgB (n' / (g : Int)) = T := ⟨_, rfl⟩
          obtain ⟨Q1, hQ1⟩ : ∃ T, (n' / (g : Int)).natAbs = T := ⟨_, rfl⟩
          obtain ⟨Q2, hQ2⟩ : ∃ T, (d' / (g : Int)).natAbs = T := ⟨_, rfl⟩
          have hq1 : Q1 ≠ 0 := by omega
          have hq2 : Q2 ≠ 0 := by omega
          simp only [hT2, hQ1] at EX1
          simp only [hQ2] at EX2
          simp only [hT2, hQ1, hQ2] at HR
          have HQ1 := Lib.hid hq1
          have HQ2 := Lib.hid hq2
          clear hp hm1 hn1 e1 h1 hT hnn hnd hg hg0 hgd hgn hd1 hn1' hds h2 h3 hT2 hQ1 hQ2 hq1 hq2
          go_wp2_with (first | (go_at_call 23; (with_reducible refine (ON.out _ (by (repeat (first | with_reducible exact Grow.refl _ | with_reducible refine Grow.alloc ?_ _ | with_reducible refine Grow.drew ?_ | with_reducible refine Grow.drewN ?_ _ | (with_reducible refine Grow.setCell ?_ ?hp _; (case hp => (simp; try omega))) | with_reducible refine Grow.trans ?_ (by assumption))))).mono ?_); (rintro e u7 ⟨rfl, hb7⟩; obtain ⟨y207, y217, y307, y317, yf27, yf37, yf47, y407, y417, y427, y437, yz7⟩ := CC1.out u7 (by (repeat (first | with_reducible exact Grow.refl _ | with_reducible refine Grow.alloc ?_ _ | with_reducible refine Grow.drew ?_ | with_reducible refine Grow.drewN ?_ _ | (with_reducible refine Grow.setCell ?_ ?hp _; (case hp => (simp; try omega))) | with_reducible refine Grow.trans ?_ (by assumption)))))) | (go_at_call 49; (with_reducible refine (GC.out _ (by (repeat (first | with_reducible exact Grow.refl _ | with_reducible refine Grow.alloc ?_ _ | with_reducible refine Grow.drew ?_ | with_reducible refine Grow.drewN ?_ _ | (with_reducible refine Grow.setCell ?_ ?hp _; (case hp => (simp; try omega))) | with_reducible refine Grow.trans ?_ (by assumption))))).mono ?_); (rintro e u8 ⟨m8, rfl, hm8, hb8⟩; obtain ⟨a8, c8, rfl⟩ := hm8.form; rw [if_neg HG0.out] at hm8 ⊢; have HM8 := Lib.hid hm8; clear hm8; obtain ⟨y208, y218, y308, y318, yf28, yf38, yf48, y408, y418, y428, y438, yz8⟩ := CC1.out u8 (by (repeat (first | with_reducible exact Grow.refl _ | with_reducible refine Grow.alloc ?_ _ | with_reducible refine Grow.drew ?_ | with_reducible refine Grow.drewN ?_ _ | (with_reducible refine Grow.setCell ?_ ?hp _; (case hp => (simp; try omega))) | with_reducible refine Grow.trans ?_ (by assumption)))))) | (go_at_call 23; (with_reducible refine (OG.out _ _ (HM8.out.grow ((Grow.refl _).alloc _))).mono ?_); (rintro e u9 ⟨rfl, hb9⟩; obtain ⟨y209, y219, y309, y319, yf29, yf39, yf49, y409, y419, y429, y439, yz9⟩ := CC1.out u9 (by (repeat (first | with_reducible exact Grow.refl _ | with_reducible refine Grow.alloc ?_ _ | with_reducible refine Grow.drew ?_ | with_reducible refine Grow.drewN ?_ _ | (with_reducible refine Grow.setCell ?_ ?hp _; (case hp => (simp; try omega))) | with_reducible refine Grow.trans ?_ (by assumption)))); have gb9 := gbx _ _ _ _ _ _ u9 (by (repeat (first | with_reducible exact Grow.refl _ | with_reducible refine Grow.alloc ?_ _ | with_reducible refine Grow.drew ?_ | with_reducible refine Grow.drewN ?_ _ | (with_reducible refine Grow.setCell ?_ ?hp _; (case hp => (simp; try omega))) | with_reducible refine Grow.trans ?_ (by assumption)))); obtain ⟨gc9, gd9, gz9⟩ := gb9)) | (go_at_call 50; (with_reducible refine (EX1.out _ _ _ (HM1.out.grow (by (repeat (first | with_reducible exact Grow.refl _ | with_reducible refine Grow.alloc ?_ _ | with_reducible refine Grow.drew ?_ | with_reducible refine Grow.drewN ?_ _ | (with_reducible refine Grow.setCell ?_ ?hp _; (case hp => (simp; try omega))) | with_reducible refine Grow.trans ?_ (by assumption))))) (HM8.out.grow (by (repeat (first | with_reducible exact Grow.refl _ | with_reducible refine Grow.alloc ?_ _ | with_reducible refine Grow.drew ?_ | with_reducible refine Grow.drewN ?_ _ | (with_reducible refine Grow.setCell ?_ ?hp _; (case hp => (simp; try omega))) | with_reducible refine Grow.trans ?_ (by assumption)))))).mono ?_); (rintro e u10 ⟨m10, rfl, hm10, hb10⟩; obtain ⟨a10, c10, rfl⟩ := hm10.form; rw [if_neg HQ1.out] at hm10 ⊢; have HM10 := Lib.hid hm10; clear hm10; obtain ⟨y2010, y2110, y3010, y3110, yf210, yf310, yf410, y4010, y4110, y4210, y4310, yz10⟩ := CC1.out u10 (by (repeat (first | with_reducible exact Grow.refl _ | with_reducible refine Grow.alloc ?_ _ | with_reducible refine Grow.drew ?_ | with_reducible refine Grow.drewN ?_ _ | (with_reducible refine Grow.setCell ?_ ?hp _; (case hp => (simp; try omega))) | with_reducible refine Grow.trans ?_ (by assumption)))); have gb10 := gbx _ _ _ _ _ _ u10 (Grow.trans hb9 hb10); obtain ⟨gc10, gd10, gz10⟩ := gb10)) | (go_at_call 50; (with_reducible refine (EX2.out _ _ _ ((HN1.out.grow (by (repeat (first | with_reducible exact Grow.refl _ | with_reducible refine Grow.alloc ?_ _ | with_reducible refine Grow.drew ?_ | with_reducible refine Grow.drewN ?_ _ | (with_reducible refine Grow.setCell ?_ ?hp _; (case hp => (simp; try omega))) | with_reducible refine Grow.trans ?_ (by assumption))))).set2 (OV1.out.nou1 (by (repeat (first | with_reducible exact Grow.refl _ | with_reducible refine Grow.alloc ?_ _ | with_reducible refine Grow.drew ?_ | with_reducible refine Grow.drewN ?_ _ | (with_reducible refine Grow.setCell ?_ ?hp _; (case hp => (simp; try omega))) | with_reducible refine Grow.trans ?_ (by assumption))))) _ _ _ _) ((HM8.out.grow (by (repeat (first | with_reducible exact Grow.refl _ | with_reducible refine Grow.alloc ?_ _ | with_reducible refine Grow.drew ?_ | with_reducible refine Grow.drewN ?_ _ | (with_reducible refine Grow.setCell ?_ ?hp _; (case hp => (simp; try omega))) | with_reducible refine Grow.trans ?_ (by assumption))))).set2 (OV1.out.nou1 (by (repeat (first | with_reducible exact Grow.refl _ | with_reducible refine Grow.alloc ?_ _ | with_reducible refine Grow.drew ?_ | with_reducible refine Grow.drewN ?_ _ | (with_reducible refine Grow.setCell ?_ ?hp _; (case hp => (simp; try omega))) | with_reducible refine Grow.trans ?_ (by assumption))))) _ _ _ _)).mono ?_); (rintro e u11 ⟨m11, rfl, hm11, hb11⟩; obtain ⟨a11, c11, rfl⟩ := hm11.form; rw [if_neg HQ2.out] at hm11 ⊢; have HM11 := Lib.hid hm11; clear hm11; obtain ⟨y2011, y2111, y3011, y3111, yf211, yf311, yf411, y4011, y4111, y4211, y4311, yz11⟩ := ((CC1.out u10 (by (repeat (first | with_reducible exact Grow.refl _ | with_reducible refine Grow.alloc ?_ _ | with_reducible refine Grow.drew ?_ | with_reducible refine Grow.drewN ?_ _ | (with_reducible refine Grow.setCell ?_ ?hp _; (case hp => (simp; try omega))) | with_reducible refine Grow.trans ?_ (by assumption))))).put1 T2 a10 1 c10).grow hb11)))
          refine bodyPost_ret (v := .agg #[.bool T2, .slice a10 1 c10, .bool false, .slice a11 1 c11]) (by rw [results_one rfl]; go_simp) rfl ⟨_, rfl, ?_, by (repeat (first | with_reducible exact Grow.refl _ | with_reducible refine Grow.alloc ?_ _ | with_reducible refine Grow.drew ?_ | with_reducible refine Grow.drewN ?_ _ | (with_reducible refine Grow.setCell ?_ ?hp _; (case hp => (simp; try omega))) | with_reducible refine Grow.trans ?_ (by assumption)))⟩
          have N3 : NoU u11 (w.heap.size + 1) := ((OV1.out.nou2 (by (repeat (first | with_reducible exact Grow.refl _ | with_reducible refine Grow.alloc ?_ _ | with_reducible refine Grow.drew ?_ | with_reducible refine Grow.drewN ?_ _ | (with_reducible refine Grow.setCell ?_ ?hp _; (case hp => (simp; try omega))) | with_reducible refine Grow.trans ?_ (by assumption)))) : NoU u10 _).off (by omega) 0 1 (.bool T2) (.slice a10 1 c10)).grow (by (try simp); omega) hb11
          have N4 : NoU u11 (w.heap.size + 1 + 1) := ((OV1.out.nou (by (repeat (first | with_reducible exact Grow.refl _ | with_reducible refine Grow.alloc ?_ _ | with_reducible refine Grow.drew ?_ | with_reducible refine Grow.drewN ?_ _ | (with_reducible refine Grow.setCell ?_ ?hp _; (case hp => (simp; try omega))) | with_reducible refine Grow.trans ?_ (by assumption)))) : NoU u10 _).off (by omega) 0 1 (.bool T2) (.slice a10 1 c10)).grow (by (try simp); omega) hb11
          exact HR.out _ _ _ ((((HM10.out.set2 (OV1.out.nou1 (by (repeat (first | with_reducible exact Grow.refl _ | with_reducible refine Grow.alloc ?_ _ | with_reducible refine Grow.drew ?_ | with_reducible refine Grow.drewN ?_ _ | (with_reducible refine Grow.setCell ?_ ?hp _; (case hp => (simp; try omega))) | with_reducible refine Grow.trans ?_ (by assumption))))) _ _ _ _).grow hb11).set2 N3 _ _ _ _).set4 (N4.off (by omega) _ _ _ _) _ _ _ _ _ _ _ _) ((HM11.out.set2 N3 _ _ _ _).set4 (N4.off (by omega) _ _ _ _) _ _ _ _ _ _ _ _)
end Go.Proofs.YtbpkfcohbefphaaGreatDoor
