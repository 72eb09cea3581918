/- Walk: add of the reference. -/
import Derived.Test.YtalidpojcpmcbaaHcQ
import Derived.Deep.DeepCutAuto
import Derived.Deep.RegionHeld3
import Derived.Deep.CutBlock
namespace Go.Proofs.Ytalidpojcpmcbaa
open Go Go.RowKit

/-- The cells that add lays for itself. -/
def AddM (w : World) (cv tv : Value) (c : C2) (u : World) : Prop :=
  u.cell? ⟨w.heap.size, 0, none⟩ = some cv ∧ u.cell? ⟨w.heap.size, 1, none⟩ = some tv ∧ u.cell? ⟨w.heap.size + 1, 0, none⟩ = some (.int .i64 c.p) ∧ u.cell? ⟨w.heap.size + 1, 1, none⟩ = some (.int .i64 c.q) ∧
    u.cell? ⟨w.heap.size + 2, 0, none⟩ = some (.slice none 0 0) ∧ u.cell? ⟨w.heap.size + 2, 1, none⟩ = some (.slice none 0 0) ∧ (∀ o, u.frozen? ⟨w.heap.size + 2, o, none⟩ = false) ∧ w.heap.size + 3 ≤ u.heap.size
theorem AddM.grow {w u u' : World} {cv tv : Value} {c : C2} (h : AddM w cv tv c u) (hg : Grow u u') : AddM w cv tv c u' := by
  obtain ⟨h1, h2, h3, h4, h5, h6, h7, h8⟩ := h
  have := hg.size
  exact ⟨(hg.cells _ _ (by omega)).trans h1, (hg.cells _ _ (by omega)).trans h2, (hg.cells _ _ (by omega)).trans h3, (hg.cells _ _ (by omega)).trans h4, (hg.cells _ _ (by omega)).trans h5, (hg.cells _ _ (by omega)).trans h6, fun o => (hg.frees _ _ (by omega)).trans (h7 o), by omega⟩
theorem AddM.same {w u u' : World} {cv tv : Value} {c : C2} (h : AddM w cv tv c u) (hs : Same w u u') : AddM w cv tv c u' := by
  obtain ⟨h1, h2, h3, h4, h5, h6, h7, h8⟩ := h
  obtain ⟨a, b, d⟩ := hs
  exact ⟨(a _ _ (by omega) (by omega)).trans h1, (a _ _ (by omega) (by omega)).trans h2, (a _ _ (by omega) (by omega)).trans h3, (a _ _ (by omega) (by omega)).trans h4, (a _ _ (by omega) (by omega)).trans h5, (a _ _ (by omega) (by omega)).trans h6, fun o => (b _ _ (by omega) (by omega)).trans (h7 o), by omega⟩
theorem AddM.four {w u : World} {cv tv x y : Value} {c : C2} (h : AddM w cv tv c u) (hx : x = cv) (hy : y = tv) : u.cell? ⟨w.heap.size, 0, none⟩ = some x ∧ u.cell? ⟨w.heap.size, 1, none⟩ = some y ∧ u.cell? ⟨w.heap.size + 1, 0, none⟩ = some (.int .i64 c.p) ∧ u.cell? ⟨w.heap.size + 1, 1, none⟩ = some (.int .i64 c.q) := by
  subst hx hy
  exact ⟨h.1, h.2.1, h.2.2.1, h.2.2.2.1⟩
theorem four_set {w u : World} {x y : Value} {c : C2} (h : u.cell? ⟨w.heap.size, 0, none⟩ = some x ∧ u.cell? ⟨w.heap.size, 1, none⟩ = some y ∧ u.cell? ⟨w.heap.size + 1, 0, none⟩ = some (.int .i64 c.p) ∧ u.cell? ⟨w.heap.size + 1, 1, none⟩ = some (.int .i64 c.q)) (o : Nat) (z : Value) :
    (u.setCell ⟨w.heap.size + 1 + 1, o, none⟩ z).cell? ⟨w.heap.size, 0, none⟩ = some x ∧ (u.setCell ⟨w.heap.size + 1 + 1, o, none⟩ z).cell? ⟨w.heap.size, 1, none⟩ = some y ∧ (u.setCell ⟨w.heap.size + 1 + 1, o, none⟩ z).cell? ⟨w.heap.size + 1, 0, none⟩ = some (.int .i64 c.p) ∧ (u.setCell ⟨w.heap.size + 1 + 1, o, none⟩ z).cell? ⟨w.heap.size + 1, 1, none⟩ = some (.int .i64 c.q) := by
  obtain ⟨h1, h2, h3, h4⟩ := h
  have k : ∀ b i, b ≠ w.heap.size + 1 + 1 → (u.setCell ⟨w.heap.size + 1 + 1, o, none⟩ z).cell? ⟨b, i, none⟩ = u.cell? ⟨b, i, none⟩ := fun b i hb => World.cell?_of_block (Below.heap_setCell _ _ _ _ hb)
  exact ⟨(k _ _ (by omega)).trans h1, (k _ _ (by omega)).trans h2, (k _ _ (by omega)).trans h3, (k _ _ (by omega)).trans h4⟩
theorem form3c {w : World} {base : Nat} {v : Value} {l : List C2} (h : OwnCusps w base v l) : ∃ a n c, v = .slice a n c := by
  obtain ⟨a, c, h⟩ := h.rd.form
  exact ⟨a, _, c, h⟩
theorem form3t {w : World} {base : Nat} {v : Value} {l : List Int} (h : OwnInts w base v l) : ∃ a n c, v = .slice a n c := by
  obtain ⟨a, c, h⟩ := h.rd.form
  exact ⟨a, _, c, h⟩
theorem results_onecell {fn : Func} {p : Tmp} {ty : TypeId} (h : fn.results = #[.cell p ty]) (tmps : Array Value) (P : Program) (w : World) :
    (results fn tmps).run P w = ((asAddr (tmps.getD p undef)).run P w).andThen fun a w₁ => (loadVar ty a).run P w₁ := by
  simp [results, h, Sem.run_bind, Result.andThen]
theorem own_free {w : World} {base g : Nat} {e : TypeId} {size : Nat} {v : Value} {n : Nat} {xs : List Value} (h : w.ownsRow base e size v n xs) (hv : v.ownBlock = some g) (o : Nat) : w.frozen? ⟨g, o, none⟩ = false := by
  rcases h.2 with ⟨rfl, _⟩ | ⟨g', cap, cur, rfl, hb, hg, _⟩
  · cases hv
  · simp only [Value.ownBlock, Option.some.injEq] at hv
    subst hv
    unfold World.frozen?
    simp only [hg]
    simp

theorem own_cusp_at {w : World} {base g k : Nat} {v : Value} {l : List C2} (h : OwnCusps w base v l) (hk : k < l.length) (hv : v.ownBlock = some g) : w.cell? ⟨g, k * 2, none⟩ = some (.int .i64 (l.getD k C2.zero).p) ∧ w.cell? ⟨g, k * 2 + 1, none⟩ = some (.int .i64 (l.getD k C2.zero).q) := by
  obtain ⟨a1, a2⟩ := cellsC_at l k hk
  have h1 := World.ownsRow.cells h (g := g) hv _ _ a1
  have h2 := World.ownsRow.cells h (g := g) hv _ _ a2
  rw [Addr.add_lit, Nat.zero_add] at h1 h2
  exact ⟨h1, h2⟩
theorem own_int_at {w : World} {base g k : Nat} {v : Value} {l : List Int} (h : OwnInts w base v l) (hk : k < l.length) (hv : v.ownBlock = some g) : w.cell? ⟨g, k, none⟩ = some (.int .i64 (l.getD k 0)) := by
  have h1 := World.ownsRow.cells h (g := g) hv k (.int .i64 (l.getD k 0)) (by simp [List.getD_eq_getElem?_getD, hk])
  rw [Addr.add_lit, Nat.zero_add] at h1
  exact h1
set_option maxRecDepth 20000 in
set_option maxHeartbeats 4000000 in
theorem add_any (cs : List C2) (ts : List Int) (c : C2) (n : Int) (hn : n.natAbs ≤ 1) (hl : cs.length ≤ 100000) (hb : ∀ t ∈ ts, t.natAbs ≤ 1000000) (base : Nat) (cv tv : Value) (w : World) (hs : SumOwn w base cv tv cs ts) (hbase : base ≤ w.heap.size) :
    Calls Try.prog 32 #[.agg #[cv, tv], .agg #[.int .i64 c.p, .int .i64 c.q], .int .i64 n] w fun e w' => ∃ cv' tv' cs' ts', e = .returned (.agg #[cv', tv']) ∧ AddOut cs ts c n cs' ts' ∧ St w w' base cv tv cv' tv' cs' ts' := by
  obtain ⟨i0, hi, iz0, iz1, iz2⟩ := info_parts infoCu
  obtain ⟨i1, hi1, it0, it1, it2⟩ := info_parts infoIn
  have hrc := hs.1.rd
  have hrt := hs.2.1.rd
  have hlen := hs.2.2.1
  have hcb : ∀ k, cv.ownBlock = some k → k < w.heap.size := fun k hk => (World.ownsRow.lt hs.1 k hk).2
  have htb : ∀ k, tv.ownBlock = some k → k < w.heap.size := fun k hk => (World.ownsRow.lt hs.2.1 k hk).2
  have HST := Lib.hid (St.start hs)
  obtain ⟨ac, cc, hcv⟩ := hrc.form
  obtain ⟨at', ct, htv⟩ := hrt.form
  have HS := Lib.hid hs
  have HCB := Lib.hid hcb
  have HTB := Lib.hid htb
  have HB := Lib.hid hb
  have HLEN := Lib.hid hlen
  have HCV := Lib.hid hcv
  have HTV := Lib.hid htv
  clear hs hcb htb hb hrc hrt hlen hcv htv
  obtain ⟨m, hm⟩ : ∃ m, cs.length = m := ⟨_, rfl⟩
  have HM := Lib.hid hm
  clear hm
  have hm1 : m ≤ 100000 := by have := HM.out; omega
  go_enter Try.func32, Try.ntmps32
  go_wp2_with fail
  go_loopw [7] (fun i wr => ∃ k : Nat, k ≤ m ∧ i = .int .i64 k ∧ Hid (∀ j, j < k → cs.getD j C2.zero ≠ c) ∧ AddM w cv tv c wr ∧ Hid (Grow w wr)) (fun i _ => m - (intOf i).toNat)
  case atStart =>
    refine ⟨0, Nat.zero_le _, rfl, Lib.hid (fun j hj => by omega), ?_⟩
    refine ⟨⟨?_, ?_, ?_, ?_, ?_, ?_, ?_, ?_⟩, Lib.hid (by (repeat (first | with_reducible exact Grow.refl _ | with_reducible refine Grow.alloc ?_ _ | with_reducible refine Grow.drew ?_ | with_reducible refine Grow.drewN ?_ _ | (with_reducible refine Grow.setCell ?_ ?hp _; (case hp => (simp; try omega))) | with_reducible refine Grow.trans ?_ (by assumption))))⟩
    all_goals first | (go_simp; done) | (intro o; go_simp; done) | simp
  case round =>
    obtain ⟨k, hk, rfl, hno, hma, hg⟩ := hrel
    have HM0 := Lib.hid hma
    obtain ⟨m1, m2, m3, m4, m5, m6, m7, m8⟩ := hma
    have hG := Lib.hid hg.out
    have zs0 : w.heap.size < wr.heap.size := by omega
    have zs1 : w.heap.size + 1 < wr.heap.size := by omega
    have zs2 : w.heap.size + 2 < wr.heap.size := by omega
    by_cases hlt : k < m
    · obtain ⟨gc, cap, hcv2, hge, hgc⟩ := own_slice HS.out.1 (by have := HM.out; omega)
      obtain ⟨gt, capt, htv2, hget, hgt⟩ := own_slice HS.out.2.1 (by have := HM.out; have := HLEN.out; omega)
      have hel := own_cusp_at HS.out.1 (k := k) (by have := HM.out; omega) (g := gc) (by rw [hcv2]; rfl)
      have hti := own_int_at HS.out.2.1 (k := k) (by have := HM.out; have := HLEN.out; omega) (g := gt) (by rw [htv2]; rfl)
      have hfr := own_free HS.out.2.1 (g := gt) (by rw [htv2]; rfl) k
      have d1 := (hG.out.cells _ _ hgc).trans hel.1
      have d2 := (hG.out.cells _ _ hgc).trans hel.2
      have d3 := (hG.out.cells _ _ hgt).trans hti
      have d4 := (hG.out.frees _ _ hgt).trans hfr
      have hgc2 : gc < wr.heap.size := by omega
      have hgt2 : gt < wr.heap.size := by omega
      have htb : (ts.getD k 0).natAbs ≤ 1000000 := by
        have := HM.out
        have := HLEN.out
        refine HB.out _ ?_
        rw [List.getD_eq_getElem?_getD, List.getElem?_eq_getElem (by omega)]
        exact List.getElem_mem _
      obtain ⟨x, hx⟩ : ∃ x, cs.getD k C2.zero = x := ⟨_, rfl⟩
      obtain ⟨t, ht⟩ : ∃ t, ts.getD k 0 = t := ⟨_, rfl⟩
      rw [hx] at d1 d2
      rw [ht] at d3 htb
      rw [hcv2, HM.out] at m1
      have m2' := m2
      rw [htv2, ← HLEN.out, HM.out] at m2'
      have yw : IntKind.i64.wrap (t + n) = t + n := IntWalk.i64_in _ (by omega)
      have hkm : (k : Int) < m := by omega
      have hk0 : (0 : Int) ≤ k := by omega
      have HX := Lib.hid hx
      have HT := Lib.hid ht
      have HC2 := Lib.hid hcv2
      have HT2 := Lib.hid htv2
      clear hx ht hel hti hfr htb hcv2 htv2
      by_cases he : x = c
      · have e1 : (x.p == c.p) = true := by simp [he]
        have e2 : (x.q == c.q) = true := by simp [he]
        have HE := Lib.hid he
        clear he m2
        go_wp2_with fail
        go_quiet (fail)
        go_wp2_with fail
        (try simp only [Exit.inBlock, Exit.then])
        refine bodyPost_ret (v := .agg #[cv, tv]) (by rw [results_onecell rfl, HC2.out, HT2.out, ← HLEN.out, HM.out]; go_simp) rfl ?_
        refine ⟨cv, tv, cs, ts.set k (ts.getD k 0 + n), rfl, .inr ⟨k, by have := HM.out; omega, HX.out.trans HE.out, rfl, rfl⟩, ?_⟩
        have hne1 : ∀ j, cv.ownBlock = some j → j ≠ w.heap.size + 1 + 1 := fun j hj => by have := HCB.out j hj; omega
        have hne2 : ∀ j, tv.ownBlock = some j → j ≠ w.heap.size + 1 + 1 := fun j hj => by have := HTB.out j hj; omega
        rw [HT.out]
        exact (((HST.out.grow (hG.out.drewN _)).setT (by rw [HT2.out]; rfl) (by have := HM.out; have := HLEN.out; omega) (t + n)).put (by omega) hne1 hne2 0 _).put (by omega) hne1 hne2 1 _
      · have HNX : Hid (∀ j, j < k + 1 → cs.getD j C2.zero ≠ c) := Lib.hid (fun j hj e => by
          by_cases h : j = k
          · subst h; exact he (HX.out.symm.trans e)
          · exact hno.out j (by omega) e)
        have HAM := Lib.hid (fun d => (⟨HM0.out.grow ((Grow.refl wr).drewN d), Lib.hid (hG.out.drewN d)⟩ : AddM w cv tv c (wr.drewN d) ∧ Hid (Grow w (wr.drewN d))))
        by_cases e0 : x.p = c.p
        · have e1 : (x.p == c.p) = true := by simp [e0]
          have e2 : (x.q == c.q) = false := by
            simp only [beq_eq_false_iff_ne, ne_eq]
            intro h; apply he; cases x; cases c; simp_all
          clear he e0
          go_wp2_with fail
          go_quiet (fail)
          go_wp2
          go_roundw
          case rel => exact ⟨k + 1, by omega, by go_num, HNX.out, HAM.out _⟩
          case measure => simp [intOf]; omega
        · have e1 : (x.p == c.p) = false := by simpa using e0
          clear he e0
          go_wp2_with fail
          go_quiet (fail)
          go_wp2
          go_roundw
          case rel => exact ⟨k + 1, by omega, by go_num, HNX.out, HAM.out _⟩
          case measure => simp [intOf]; omega
    · have hkm : k = m := by omega
      subst hkm
      have HCV1 : Hid (Value.slice ac k cc = cv) := Lib.hid (by rw [HCV.out, HM.out])
      have HTV1 : Hid (Value.slice at' k ct = tv) := Lib.hid (by rw [HTV.out, ← HLEN.out, HM.out])
      have m1' := m1
      have m2' := m2
      rw [← HCV1.out] at m1'
      rw [← HTV1.out] at m2'
      clear m1 m2
      have HCN : Hid (c ∉ cs) := Lib.hid (fun h => by
        obtain ⟨j, hj, e⟩ := List.getElem_of_mem h
        refine hno.out j (by have := HM.out; omega) ?_
        rw [List.getD_eq_getElem?_getD, List.getElem?_eq_getElem hj]
        simpa using e)
      have HST1 := Lib.hid (HST.out.grow hG.out)
      go_wp2_with fail
      go_region_held3 (fun w' => w'.cell? ⟨w.heap.size, 0, none⟩ = some (.slice ac k cc) ∧ w'.cell? ⟨w.heap.size, 1, none⟩ = some (.slice at' k ct) ∧ w'.cell? ⟨w.heap.size + 1, 0, none⟩ = some (.int .i64 c.p) ∧ w'.cell? ⟨w.heap.size + 1, 1, none⟩ = some (.int .i64 c.q))
        (first | exact ⟨m1', m2', m3, m4⟩ | exact four_set (four_set (HMT.out.four HCV1.out HTV1.out) _ _) _ _ | exact (HMT.out.grow (by (repeat (first | with_reducible exact Grow.refl _ | with_reducible refine Grow.alloc ?_ _ | with_reducible refine Grow.drew ?_ | with_reducible refine Grow.drewN ?_ _ | (with_reducible refine Grow.setCell ?_ ?hp _; (case hp => (simp; try omega))) | with_reducible refine Grow.trans ?_ (by assumption))))).four HCV1.out HTV1.out | exact (HMC.out.grow (by (repeat (first | with_reducible exact Grow.refl _ | with_reducible refine Grow.alloc ?_ _ | with_reducible refine Grow.drew ?_ | with_reducible refine Grow.drewN ?_ _ | (with_reducible refine Grow.setCell ?_ ?hp _; (case hp => (simp; try omega))) | with_reducible refine Grow.trans ?_ (by assumption))))).four HCV1.out HTV1.out | exact (HM0.out.grow (by (repeat (first | with_reducible exact Grow.refl _ | with_reducible refine Grow.alloc ?_ _ | with_reducible refine Grow.drew ?_ | with_reducible refine Grow.drewN ?_ _ | (with_reducible refine Grow.setCell ?_ ?hp _; (case hp => (simp; try omega))) | with_reducible refine Grow.trans ?_ (by assumption))))).four HCV1.out HTV1.out)
        (first
          | ((refine step_st_c (by rfl) _ _ _ (by rfl) i0 _ Try.underlying55 hi iz0 iz1 iz2 rfl w base cv tv tv cs ts hbase hl HCB.out (by exact HCV1.out) _ c.p c.q (by rfl) (HST1.out.grow (by (repeat (first | with_reducible exact Grow.refl _ | with_reducible refine Grow.alloc ?_ _ | with_reducible refine Grow.drew ?_ | with_reducible refine Grow.drewN ?_ _ | (with_reducible refine Grow.setCell ?_ ?hp _; (case hp => (simp; try omega))) | with_reducible refine Grow.trans ?_ (by assumption))))) ?_ ?_ ?_; (· go_simp); (· go_simp); intro vC wC hstC hsC hbC; obtain ⟨aC, nC, kC, rfl⟩ := form3c hstC.oc; have HSC := Lib.hid hstC; have HMC := Lib.hid ((HM0.out.grow (by (repeat (first | with_reducible exact Grow.refl _ | with_reducible refine Grow.alloc ?_ _ | with_reducible refine Grow.drew ?_ | with_reducible refine Grow.drewN ?_ _ | (with_reducible refine Grow.setCell ?_ ?hp _; (case hp => (simp; try omega))) | with_reducible refine Grow.trans ?_ (by assumption))))).same hsC); have hcC := hsC.1; have hzC := hsC.2.2; (try simp at hzC); have q5 := HMC.out.2.2.2.2.1; have q6 := HMC.out.2.2.2.2.2.1; have q7 := HMC.out.2.2.2.2.2.2.1; have q8 := HMC.out.2.2.2.2.2.2.2; have HBC : Hid (∀ k, (Value.slice aC nC kC).ownBlock = some k → k ≠ w.heap.size + 1 + 1) := Lib.hid (fun k hk => by rcases hbC k hk with h | h; omega; ((try simp at h); omega)); clear hstC hsC hbC))
          | ((refine step_st_t (by rfl) _ _ _ (by rfl) i1 _ Try.underlying32 hi1 it0 it1 it2 rfl w base cv tv _ _ ts hbase (by have := HLEN.out; omega) HTB.out (by exact HTV1.out) _ n (by rfl) (HSC.out.grow (by (repeat (first | with_reducible exact Grow.refl _ | with_reducible refine Grow.alloc ?_ _ | with_reducible refine Grow.drew ?_ | with_reducible refine Grow.drewN ?_ _ | (with_reducible refine Grow.setCell ?_ ?hp _; (case hp => (simp; try omega))) | with_reducible refine Grow.trans ?_ (by assumption))))) ?_ ?_; (· (first | (go_simp; done) | (rw [hcC _ _ (by (try simp); (try omega)) (by (try simp); (try omega))]; go_simp; done))); intro vT wT hstT hsT hbT; obtain ⟨aT, nT, kT, rfl⟩ := form3t hstT.ot; have HSTT := Lib.hid hstT; have HMT := Lib.hid ((HMC.out.grow (by (repeat (first | with_reducible exact Grow.refl _ | with_reducible refine Grow.alloc ?_ _ | with_reducible refine Grow.drew ?_ | with_reducible refine Grow.drewN ?_ _ | (with_reducible refine Grow.setCell ?_ ?hp _; (case hp => (simp; try omega))) | with_reducible refine Grow.trans ?_ (by assumption))))).same hsT); have hzT := hsT.2.2; have q5' := HMT.out.2.2.2.2.1; have q6' := HMT.out.2.2.2.2.2.1; have q7' := HMT.out.2.2.2.2.2.2.1; have q8' := HMT.out.2.2.2.2.2.2.2; have HBT : Hid (∀ k, (Value.slice aT nT kT).ownBlock = some k → k ≠ w.heap.size + 1 + 1) := Lib.hid (fun k hk => by rcases hbT k hk with h | h; omega; ((try simp at h); omega)); clear hstT hsT hbT)))
      all_goals go_wp2
      all_goals (try simp only [Exit.inBlock, Exit.then])
      all_goals refine bodyPost_ret (v := .agg #[.slice aC nC kC, .slice aT nT kT]) (by rw [results_onecell rfl]; go_simp) rfl ⟨_, _, _, _, rfl, .inl ⟨HCN.out, rfl, rfl⟩, ?_⟩
      all_goals exact (HSTT.out.put (by omega) HBC.out HBT.out 0 _).put (by omega) HBC.out HBT.out 1 _
end Go.Proofs.Ytalidpojcpmcbaa
