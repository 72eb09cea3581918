/- Lemmas, plain laws and walks that the statement LwKronecker leans on (texts GnA, QdA), conditions as each theorem says. -/
import Derived.Maps.AppendAt
import Derived.Test.YtbpkfcohbefphaaGreatDoorTopKhG20
import Derived.Test.YtbpkfcohbefphaaGreatDoorTopKhG23
import Derived.Test.YtbpkfcohbefphaaGreatDoorTopKhG32

namespace Go.Proofs.YtbpkfcohbefphaaGreatDoor
open Go Go.RowKit
theorem withinQ (n : Nat) (h1 : 1 ≤ n) (h2 : n ≤ 60) (w : World) : Calls Tryz.prog 112 #[.int .i64 (n : Int)] w fun e w' => e = .returned (.bool true) ∧ w = w' := by
  have y1 : decide ((n : Int) ≥ 1) = true := by simp; omega
  have y2 : decide ((n : Int) ≤ 60) = true := by simp; omega
  have y3 : decide (1 ≤ n) = true := by simp; omega
  go_enter Tryz.func112, Tryz.ntmps112
  go_wp2_with fail
  go_ret
  exact ⟨rfl, rfl⟩
theorem own_apart {u1 w8 : World} {base : Nat} {e : TypeId} {size : Nat} {v : Value} {n : Nat} {xs : List Value} {row : Option Nat} (h : u1.ownsRow base e size v n xs) (hg : u1.grownBy w8 row) (hne : ∀ k, v.ownBlock = some k → row ≠ some k) : w8.ownsRow base e size v n xs := by
  refine ⟨h.1, ?_⟩
  rcases h.2 with h2 | ⟨g, cap, cur, hv, hb, hh, h3⟩
  · exact .inl h2
  · exact .inr ⟨g, cap, cur, hv, hb, (hg.block g (Array.getElem?_eq_some_iff.1 hh).1 (fun e => hne g (by rw [hv]; rfl) e.symm)).trans hh, h3⟩
theorem FrX.putC {w0 u : World} {t : TypeId} {F : Nat} (h : FrX w0 u (.cells #[.int .i64 0, .int .i64 0] t) F) (x y : Int) :
    Grow w0 ((u.setCell ⟨F, 0, none⟩ (.int .i64 x)).setCell ⟨F, 1, none⟩ (.int .i64 y)) ∧ ((u.setCell ⟨F, 0, none⟩ (.int .i64 x)).setCell ⟨F, 1, none⟩ (.int .i64 y)).cell? ⟨F, 0, none⟩ = some (.int .i64 x) ∧ F < ((u.setCell ⟨F, 0, none⟩ (.int .i64 x)).setCell ⟨F, 1, none⟩ (.int .i64 y)).heap.size ∧ w0.heap.size ≤ F := by
  obtain ⟨y0, h1, rfl, h3⟩ := h
  obtain ⟨c0, c1, c2, c3⟩ := ak2 rfl u h3
  have hle := h1.size
  have hg : Grow w0 u := h1.trans (((Grow.refl y0).alloc _).trans h3)
  exact ⟨(hg.setCell hle _).setCell hle _, (World.cell?_setCell_other _ _ _ _ (by simp)).trans (World.cell?_setCell_same _ _ _ c0), by simpa [World.setCell] using c3, hle⟩
/-- Two lists of ints, of the call's own, of one length. -/
structure GnSt (b0 : Nat) (u4 : World) (G O : List Int) (a5 a6 : Option Addr) (m c5 c6 : Nat) (u : World) : Prop where
  grow : Grow u4 u
  lg : G.length = m
  lo : O.length = m
  o5 : u.ownsRow b0 3 1 (.slice a5 m c5) m (G.map (Value.int .i64))
  o6 : u.ownsRow b0 3 1 (.slice a6 m c6) m (O.map (Value.int .i64))
  ne : ∀ k, (Value.slice a5 m c5).ownBlock = some k → (Value.slice a6 m c6).ownBlock ≠ some k
  okG : ∀ x ∈ G, 0 ≤ x ∧ x < 60
  okO : ∀ x ∈ O, 0 ≤ x ∧ x ≤ 60
theorem GnSt.go {b0 : Nat} {u4 u u' : World} {G O : List Int} {a5 a6 : Option Addr} {m c5 c6 : Nat} (h : GnSt b0 u4 G O a5 a6 m c5 c6 u) (hg : Grow u u') : GnSt b0 u4 G O a5 a6 m c5 c6 u' :=
  ⟨h.grow.trans hg, h.lg, h.lo, own_into h.o5 hg, own_into h.o6 hg, h.ne, h.okG, h.okO⟩
theorem GnSt.lt6 {b0 : Nat} {u4 u : World} {G O : List Int} {a5 a6 : Option Addr} {m c5 c6 : Nat} (h : GnSt b0 u4 G O a5 a6 m c5 c6 u) : ∀ k, (Value.slice a6 m c6).ownBlock = some k → k < u.heap.size := fun k hk => (World.ownsRow.lt h.o6 k hk).2
/-- Behind both appends. -/
theorem GnSt.push {u4 u u1 w8 u2 w9 : World} {G O : List Int} {a5 a6 : Option Addr} {m c5 c6 : Nat} (h : GnSt u4.heap.size u4 G O a5 a6 m c5 c6 u) (h1 : Grow u u1) {v8 v9 : Value} {x y : Int}
    (ho8 : w8.ownsRow u4.heap.size 3 1 v8 (m + 1) (G.map (Value.int .i64) ++ [.int .i64 x])) (hg8 : u1.grownBy w8 (Value.slice a5 m c5).ownBlock) (hb8 : v8.ownBlock = (Value.slice a5 m c5).ownBlock ∨ v8.ownBlock = some u1.heap.size)
    (h2 : Grow w8 u2)
    (ho9 : w9.ownsRow u4.heap.size 3 1 v9 (m + 1) (O.map (Value.int .i64) ++ [.int .i64 y])) (hg9 : u2.grownBy w9 (Value.slice a6 m c6).ownBlock) (hb9 : v9.ownBlock = (Value.slice a6 m c6).ownBlock ∨ v9.ownBlock = some u2.heap.size)
    (hx : 0 ≤ x ∧ x < 60) (hy : 0 ≤ y ∧ y ≤ 60) : ∃ a8 c8 a9 c9, v8 = .slice a8 (m + 1) c8 ∧ v9 = .slice a9 (m + 1) c9 ∧ GnSt u4.heap.size u4 (G ++ [x]) (O ++ [y]) a8 a9 (m + 1) c8 c9 w9 := by
  obtain ⟨a8, c8, rfl⟩ := own_shape ho8
  obtain ⟨a9, c9, rfl⟩ := own_shape ho9
  have hlt6 : ∀ k, (Value.slice a6 m c6).ownBlock = some k → k < u1.heap.size := fun k hk => Nat.lt_of_lt_of_le (h.lt6 k hk) h1.size
  have hlt8 : ∀ k, (Value.slice a8 (m + 1) c8).ownBlock = some k → k < u2.heap.size := fun k hk => Nat.lt_of_lt_of_le (World.ownsRow.lt ho8 k hk).2 h2.size
  have ne8 : ∀ k, (Value.slice a8 (m + 1) c8).ownBlock = some k → (Value.slice a6 m c6).ownBlock ≠ some k := fun k hk e => by
    rcases hb8 with e8 | e8
    · exact h.ne k (e8 ▸ hk) e
    · rw [e8] at hk; injection hk with hk; have := hlt6 k e; omega
  refine ⟨a8, c8, a9, c9, rfl, rfl, ?_, by rw [List.length_append, h.lg]; rfl, by rw [List.length_append, h.lo]; rfl, ?_, by rw [List.map_append]; exact ho9, ?_, ?_, ?_⟩
  · exact ((((h.grow.trans h1).grown hg8 (fun q hq => (World.ownsRow.lt h.o5 q hq).1)).trans h2).grown hg9 (fun q hq => (World.ownsRow.lt h.o6 q hq).1))
  · rw [List.map_append]
    exact own_apart (own_into ho8 h2) hg9 (fun k hk => ne8 k hk)
  · intro k hk e
    rcases hb9 with e9 | e9
    · exact ne8 k hk (e9 ▸ e)
    · rw [e9] at e; injection e with e; have := hlt8 k hk; omega
  · intro z hz
    rcases List.mem_append.1 hz with hz | hz
    · exact h.okG z hz
    · simp at hz; subst hz; exact hx
  · intro z hz
    rcases List.mem_append.1 hz with hz | hz
    · exact h.okO z hz
    · simp at hz; subst hz; exact hy
set_option maxRecDepth 20000 in
set_option maxHeartbeats 8000000 in
theorem gensQ (n : Nat) (h1 : 1 ≤ n) (h2 : n ≤ 60) (hg : gmB n = true) (w : World) :
    Calls Tryz.prog 90 #[.int .i64 (n : Int)] w fun e w' => (∃ (G O : List Int) (a5 a6 : Option Addr) (m c5 c6 : Nat) (u4 : World), e = .returned (.tuple #[.slice a5 m c5, .slice a6 m c6, .int .i64 0]) ∧ m ≤ 20 ∧ Grow w u4 ∧ GnSt u4.heap.size u4 G O a5 a6 m c5 c6 w') ∧ Grow w w' := by
  have WI := Lib.hid (fun u => withinQ n h1 h2 u)
  have PT := Lib.hid (fun u => partsQ n h1 h2 hg u)
  obtain ⟨ii, hii, iiz0, iiz1, iiz2⟩ := info_parts infoInt
  clear hg
  go_enter Tryz.func90, Tryz.ntmps90
  go_upto_region 5 with (first
    | (go_at_call 112; (with_reducible refine (WI.out _).mono ?_); (rintro e u2 ⟨rfl, rfl⟩))
    | (go_at_call 113; (with_reducible refine (PT.out _).mono ?_); (rintro e u4 ⟨⟨T, aT, K, cT, rfl, hlen, hK20, hok, hown⟩, hb4⟩; have HL := Lib.hid hlen; have HOK := Lib.hid hok; have HOW := Lib.hid hown; have HG4 := Lib.hid hb4; clear hlen hok hown hb4)))
  go_loopg [5, 6, 17] K (fun gk t5 t6 t17 wr => ∃ (i : Nat) (G O : List Int) (a5 a6 : Option Addr) (c5 c6 : Nat), t17 = .int .i64 (i : Int) ∧ t5 = .slice a5 i c5 ∧ t6 = .slice a6 i c6 ∧ i ≤ K ∧ Hid (gk = K - i) ∧ Hid (GnSt u4.heap.size u4 G O a5 a6 i c5 c6 wr))
  case atStart => exact ⟨0, [], [], none, none, 0, 0, rfl, rfl, rfl, Nat.zero_le _, Lib.hid rfl, Lib.hid ⟨Grow.refl _, rfl, rfl, World.ownsRow_nil _ _ _ _, World.ownsRow_nil _ _ _ _, fun k hk => (by simp [Value.ownBlock] at hk), fun x hx => (by cases hx), fun x hx => (by cases hx)⟩⟩
  case round =>
    obtain ⟨i, G, O, a5, a6, c5, c6, rfl, rfl, rfl, hi, HGK, HS⟩ := hrel
    by_cases hik : i = K
    · have y1 : decide ((i : Int) < (K : Int)) = false := by simp; omega
      have y1' : decide (i < K) = false := by simp; omega
      clear hik
      go_wp2_with fail
      have hi20 : i ≤ 20 := by omega
      refine bodyPost_ret (v := .tuple #[.slice a5 i c5, .slice a6 i c6, .int .i64 0]) (by simp only [results, Tryz.results90]; go_simp) rfl ?_
      exact ⟨⟨G, O, a5, a6, i, c5, c6, u4, rfl, hi20, HG4.out, HS.out⟩, HG4.out.trans HS.out.grow⟩
    · have hik : i < K := by omega
      have y0 : (0 : Int) ≤ (i : Int) := by omega
      have y1 : decide ((i : Int) < (K : Int)) = true := by simp; omega
      have y2 : (i : Int) < (K : Int) := by omega
      obtain ⟨g4, cg4, he4, -, hlt4⟩ := own_slice HOW.out (by omega)
      injection he4 with he4 _ he5
      clear he5
      have hc3 := cells3_at T i (by rw [HL.out]; exact hik)
      have k1 := World.ownsRow.cells HOW.out (g := g4) (by rw [he4]; rfl) _ _ hc3.1
      have k2 := World.ownsRow.cells HOW.out (g := g4) (by rw [he4]; rfl) _ _ hc3.2.1
      have k3 := World.ownsRow.cells HOW.out (g := g4) (by rw [he4]; rfl) _ _ hc3.2.2
      have e0 : ∀ j, (⟨g4, 0, none⟩ : Addr).add j = ⟨g4, j, none⟩ := fun j => by cases j <;> simp [Addr.add]
      rw [e0] at k1 k2 k3
      have hok := HOK.out (T.getD i (0, 0, 0)) (by rw [List.getD_eq_getElem?_getD, List.getElem?_eq_getElem (by rw [HL.out]; exact hik)]; simp)
      obtain ⟨x, hx⟩ : ∃ x, T.getD i (0, 0, 0) = x := ⟨_, rfl⟩
      rw [hx] at k1 k2 k3 hok
      obtain ⟨r, od, q⟩ := x
      simp only at k1 k2 k3
      have k1 := (HS.out.grow.cells _ _ hlt4).trans k1
      have k2 := (HS.out.grow.cells _ _ hlt4).trans k2
      have k3 := (HS.out.grow.cells _ _ hlt4).trans k3
      have hlt4 := Nat.lt_of_lt_of_le hlt4 HS.out.grow.size
      obtain ⟨o1, o2, o3, o4, o5, o6⟩ := hok
      simp only at o1 o2 o3 o4 o5 o6
      obtain ⟨M2, hM2⟩ : ∃ M2, n / q = M2 := ⟨_, rfl⟩
      rw [hM2] at o4 o5 o6
      have CT := Lib.hid (fun B u hB h0 h1 h2 h3 => crtQ r q M2 B o3 o4 o5 o6 o1 u hB h0 h1 h2 h3)
      have TM : Hid (Int.tdiv (n : Int) (q : Int) = (M2 : Int)) := Lib.hid (by rw [← hM2, Int.natCast_ediv]; exact Int.tdiv_eq_ediv_of_nonneg (by omega))
      have VM := Lib.hid (w64n (n := (M2 : Int)) (by have : M2 ≤ n := by rw [← hM2]; exact Nat.div_le_self _ _
                                                     omega))
      have hqz : ¬ ((q : Int) = 0) := by omega
      have hqn : ¬ (q = 0) := by omega
      have EI := Lib.hid (inc_wrap (i := i) (n := 100) (by omega) (by omega))
      have HO2 := Lib.hid o2
      clear hc3 hik hx o1 o2 o3 o4 o5 o6 hM2
      subst he4
      go_upto_region 7 with fail
      clear k1 k2 k3 hlt4
      obtain ⟨W6, hW6⟩ : ∃ W6 : World, W6 = wr.alloc (.cells #[.int .i64 (r : Int), .int .i64 (od : Int), .int .i64 (q : Int)] 144) := ⟨_, rfl⟩
      rw [← hW6]
      have K6 := Lib.hid (ak3 hW6)
      have HG6 := Lib.hid (ag hW6)
      obtain ⟨C, hC⟩ : ∃ C, wr.heap.size = C := ⟨_, rfl⟩
      rw [hC] at K6
      try rw [hC]
      have HC := Lib.hid hC
      clear hW6 hC
      have tm := TM.out
      obtain ⟨vm, vm'⟩ := VM.out
      refine region_flex (id := 7) W6 [⟨15, 9, .cells #[.int .i64 0, .int .i64 0] 146⟩] [0, 1, 2, 3, 4, 5, 6, 7, 8, 9, 10, 11, 12, 13, 14] [16, 17] (kdL [0, 1, 0, 1, 0, 0, 0, 1, 0, 0, 2, 2, 0, 0, 0, 2, 3, 0]) (by kernel_rfl) (by kernel_rfl) (fun t ht => kdL_lt _ t ht) (by simp) (by simp) ?hgq ?halq ?_
      case hgq => (repeat (first | with_reducible exact Grow.refl _ | with_reducible refine Grow.alloc ?_ _ | with_reducible refine Grow.drew ?_ | with_reducible refine Grow.drewN ?_ _ | (with_reducible refine Grow.setCell ?_ ?hp _; (case hp => (simp; try omega))) | with_reducible refine Grow.trans ?_ (by assumption)))
      case halq => (intro x hx; simp only [List.mem_cons, List.not_mem_nil, or_false] at hx; subst hx; all_goals (refine ⟨⟨_, rfl, rfl⟩, fun K a u hK => ?_⟩; refine wpOp_step rfl (fun K' hK' => ?_); go_simp; exact hK' _ _ hK))
      refine flex_quiet (v := ?vq0) rfl rfl (fun t => Or.inl ⟨by rfl, ?hyq0⟩) ?_
      case hyq0 => (intro u hu; simp only [aof, List.foldl_cons, List.foldl_nil, Act.put, List.setIfInBounds_toArray, List.set_cons_zero, List.set_cons_succ]; go_simp; (try with_reducible rfl))
      (try simp only [Act.put, List.setIfInBounds_toArray, List.set_cons_zero, List.set_cons_succ])
      refine flex_read (v := ?vq1) rfl rfl (fun t => Or.inl ⟨by rfl, ?hyq1⟩) ?_
      case hyq1 => (intro u hu; obtain ⟨f0, f1, f2, f3, f4⟩ := K6.out u hu; simp only [aof, List.foldl_cons, List.foldl_nil, Act.put, List.setIfInBounds_toArray, List.set_cons_zero, List.set_cons_succ]; go_simp; (try with_reducible rfl))
      (try simp only [Act.put, List.setIfInBounds_toArray, List.set_cons_zero, List.set_cons_succ])
      refine flex_quiet (v := ?vq2) rfl rfl (fun t => Or.inl ⟨by rfl, ?hyq2⟩) ?_
      case hyq2 => (intro u hu; simp only [aof, List.foldl_cons, List.foldl_nil, Act.put, List.setIfInBounds_toArray, List.set_cons_zero, List.set_cons_succ]; go_simp; (try with_reducible rfl))
      (try simp only [Act.put, List.setIfInBounds_toArray, List.set_cons_zero, List.set_cons_succ])
      refine flex_read (v := ?vq3) rfl rfl (fun t => Or.inl ⟨by rfl, ?hyq3⟩) ?_
      case hyq3 => (intro u hu; obtain ⟨f0, f1, f2, f3, f4⟩ := K6.out u hu; simp only [aof, List.foldl_cons, List.foldl_nil, Act.put, List.setIfInBounds_toArray, List.set_cons_zero, List.set_cons_succ]; go_simp; (try with_reducible rfl))
      (try simp only [Act.put, List.setIfInBounds_toArray, List.set_cons_zero, List.set_cons_succ])
      refine flex_quiet (v := ?vq4) rfl rfl (fun t => Or.inl ⟨by rfl, ?hyq4⟩) ?_
      case hyq4 => (intro u hu; simp only [aof, List.foldl_cons, List.foldl_nil, Act.put, List.setIfInBounds_toArray, List.set_cons_zero, List.set_cons_succ]; go_simp; (try with_reducible rfl))
      (try simp only [Act.put, List.setIfInBounds_toArray, List.set_cons_zero, List.set_cons_succ])
      refine flex_quiet (v := ?vq5) rfl rfl (fun t => Or.inl ⟨by rfl, ?hyq5⟩) ?_
      case hyq5 => (intro u hu; simp only [aof, List.foldl_cons, List.foldl_nil, Act.put, List.setIfInBounds_toArray, List.set_cons_zero, List.set_cons_succ]; go_simp; (try with_reducible rfl))
      (try simp only [Act.put, List.setIfInBounds_toArray, List.set_cons_zero, List.set_cons_succ])
      refine flex_quiet (v := ?vq6) rfl rfl (fun t => Or.inl ⟨by rfl, ?hyq6⟩) ?_
      case hyq6 => (intro u hu; simp only [aof, List.foldl_cons, List.foldl_nil, Act.put, List.setIfInBounds_toArray, List.set_cons_zero, List.set_cons_succ]; go_simp; (try with_reducible rfl))
      (try simp only [Act.put, List.setIfInBounds_toArray, List.set_cons_zero, List.set_cons_succ])
      refine flex_read (v := ?vq7) rfl rfl (fun t => Or.inl ⟨by rfl, ?hyq7⟩) ?_
      case hyq7 => (intro u hu; obtain ⟨f0, f1, f2, f3, f4⟩ := K6.out u hu; simp only [aof, List.foldl_cons, List.foldl_nil, Act.put, List.setIfInBounds_toArray, List.set_cons_zero, List.set_cons_succ]; go_simp; (try with_reducible rfl))
      (try simp only [Act.put, List.setIfInBounds_toArray, List.set_cons_zero, List.set_cons_succ])
      refine flex_quiet (v := ?vq8) rfl rfl (fun t => Or.inl ⟨by rfl, ?hyq8⟩) ?_
      case hyq8 => (intro u hu; simp only [aof, List.foldl_cons, List.foldl_nil, Act.put, List.setIfInBounds_toArray, List.set_cons_zero, List.set_cons_succ]; go_simp; (try with_reducible rfl))
      (try simp only [Act.put, List.setIfInBounds_toArray, List.set_cons_zero, List.set_cons_succ])
      refine flex_quiet (v := ?vq9) rfl rfl (fun t => Or.inl ⟨by rfl, ?hyq9⟩) ?_
      case hyq9 => (intro u hu; simp only [aof, List.foldl_cons, List.foldl_nil, Act.put, List.setIfInBounds_toArray, List.set_cons_zero, List.set_cons_succ]; go_simp; (try with_reducible rfl))
      (try simp only [Act.put, List.setIfInBounds_toArray, List.set_cons_zero, List.set_cons_succ])
      refine flex_op rfl rfl (fun t10 u10 hu10 K hK => ?_)
      simp only [aof, List.foldl_cons, List.foldl_nil, Act.put, List.setIfInBounds_toArray, List.set_cons_zero, List.set_cons_succ]
      go_simp
      skip
      (try go_wp2_with fail)
      refine hK.out _ (.slice (some ⟨u10.heap.size, 0, none⟩) 2 2) _ ?heq10 ?hgq10 ?_
      case heq10 => (simp only [aof, List.foldl_cons, List.foldl_nil, Act.put, List.setIfInBounds_toArray, List.set_cons_zero, List.set_cons_succ])
      case hgq10 => (repeat (first | with_reducible exact Grow.refl _ | with_reducible refine Grow.alloc ?_ _ | with_reducible refine Grow.drew ?_ | with_reducible refine Grow.drewN ?_ _ | (with_reducible refine Grow.setCell ?_ ?hp _; (case hp => (simp; try omega))) | with_reducible refine Grow.trans ?_ (by assumption)))
      clear hK K t10
      (try simp only [Act.put, List.setIfInBounds_toArray, List.set_cons_zero, List.set_cons_succ])
      refine flex_op rfl rfl (fun t11 u11 hu11 K hK => ?_)
      simp only [aof, List.foldl_cons, List.foldl_nil, Act.put, List.setIfInBounds_toArray, List.set_cons_zero, List.set_cons_succ]
      go_simp
      obtain ⟨z0, z1, z2, z3, z4, z5⟩ := ak4 rfl u11 hu11; (go_at_call 114; (with_reducible refine (CT.out u10.heap.size u11 z5 z0 z1 z2 z3).mono ?_); (rintro x u31 ⟨⟨R, M, rfl, hR60, hM60⟩, hb31⟩; have HR60 := Lib.hid hR60; clear z0 z1 z2 z3 z4 z5 hR60 hM60))
      (try go_wp2_with fail)
      refine hK.out _ (.tuple #[.agg #[.int .i64 (R : Int), .int .i64 (M : Int)], .int .i64 0]) _ ?heq11 ?hgq11 ?_
      case heq11 => (simp only [aof, List.foldl_cons, List.foldl_nil, Act.put, List.setIfInBounds_toArray, List.set_cons_zero, List.set_cons_succ])
      case hgq11 => (repeat (first | with_reducible exact Grow.refl _ | with_reducible refine Grow.alloc ?_ _ | with_reducible refine Grow.drew ?_ | with_reducible refine Grow.drewN ?_ _ | (with_reducible refine Grow.setCell ?_ ?hp _; (case hp => (simp; try omega))) | with_reducible refine Grow.trans ?_ (by assumption)))
      clear hK K t11
      (try simp only [Act.put, List.setIfInBounds_toArray, List.set_cons_zero, List.set_cons_succ])
      refine flex_quiet (v := ?vq12) rfl rfl (fun t => Or.inl ⟨by rfl, ?hyq12⟩) ?_
      case hyq12 => (intro u hu; simp only [aof, List.foldl_cons, List.foldl_nil, Act.put, List.setIfInBounds_toArray, List.set_cons_zero, List.set_cons_succ]; go_simp; (try with_reducible rfl))
      (try simp only [Act.put, List.setIfInBounds_toArray, List.set_cons_zero, List.set_cons_succ])
      refine flex_quiet (v := ?vq13) rfl rfl (fun t => Or.inl ⟨by rfl, ?hyq13⟩) ?_
      case hyq13 => (intro u hu; simp only [aof, List.foldl_cons, List.foldl_nil, Act.put, List.setIfInBounds_toArray, List.set_cons_zero, List.set_cons_succ]; go_simp; (try with_reducible rfl))
      (try simp only [Act.put, List.setIfInBounds_toArray, List.set_cons_zero, List.set_cons_succ])
      refine flex_quiet (v := ?vq14) rfl rfl (fun t => Or.inl ⟨by rfl, ?hyq14⟩) ?_
      case hyq14 => (intro u hu; simp only [aof, List.foldl_cons, List.foldl_nil, Act.put, List.setIfInBounds_toArray, List.set_cons_zero, List.set_cons_succ]; go_simp; (try with_reducible rfl))
      (try simp only [Act.put, List.setIfInBounds_toArray, List.set_cons_zero, List.set_cons_succ])
      refine flex_done (fun Fq uq huq hFq hNq => ?_)
      have hFq0 := hFq ⟨15, 9, .cells #[.int .i64 0, .int .i64 0] 146⟩ (by simp)
      clear hFq hNq
      (try simp only [aof, List.foldl_cons, List.foldl_nil, Act.put, List.setIfInBounds_toArray, List.set_cons_zero, List.set_cons_succ, ptrX])
      generalize Fq 15 = Fbq0 at *
      clear Fq
      have hFX := hFq0
      obtain ⟨hFx, hF1, hF2, hF3⟩ := hFq0
      obtain ⟨o0, o1, o2, o3⟩ := ak2 rfl _ hF3
      rw [hF2] at o0 o1 o2 o3
      refine held_last rfl rfl (fun K hK => ?_)
      go_simp
      refine hK.out _ _ ?_
      clear hK K
      (try simp only [Act.put])
      refine held_quiet (v := ?vq17) rfl rfl (Or.inl ⟨by rfl, ?hyq17⟩) ?_
      case hyq17 => (intro u hu; go_simp; (try with_reducible rfl))
      (try simp only [Act.put])
      refine held_done ?_
      clear tm vm vm'
      obtain ⟨hG10, p0, hpl, hFl⟩ := hFX.putC (R : Int) (M : Int)
      obtain ⟨w10, hw10⟩ : ∃ w10, (uq.setCell ⟨Fbq0, 0, none⟩ (.int .i64 (R : Int))).setCell ⟨Fbq0, 1, none⟩ (.int .i64 (M : Int)) = w10 := ⟨_, rfl⟩
      rw [hw10] at hG10 p0 hpl
      rw [hw10]
      have HG10 := Lib.hid (HG6.out.trans hG10)
      have K10 := Lib.hid (fun (u : World) (hu : Grow w10 u) => K6.out u (hG10.trans hu))
      have HS10 := Lib.hid (HS.out.go HG10.out)
      clear hw10 hG10 hFX o0 o1 o2 o3 hFx hF1 hF2 hF3 huq
      obtain ⟨k0, k1, k2, k3, k4⟩ := K10.out w10 (Grow.refl _)
      have hs4 : u4.heap.size ≤ w10.heap.size := (HS10.out.grow).size
      go_simp
      go_wp2_with (at_builtin; refine wpList_append_own_at _ rfl _ _ 33 rfl u4.heap.size 3 ii (.int .i64 0) 1 8 Tryz.underlying33 hii iiz0 iiz1 iiz2 rfl (by decide) _ _ _ rfl (World.ownsRow.alloc HS10.out.o5 _) ⟨w10.heap.size, 0, none⟩ 1 1 [.int .i64 (R : Int)] rfl rfl (one_cells _ _ _ _ ?c1) (one_oneCell _ _) ?c3 ?c4 ?c5 ?_)
      case c1 => simp
      case c3 => unfold maxLen; omega
      case c4 => omega
      case c5 => (try simp); omega
      intro v8 w8 ho8 hg8 _ hb8
      have hcb : w8.heap[C]? = (w10.alloc (.cells #[.int .i64 (R : Int)] 3)).heap[C]? := hg8.block C (by simp; omega) (fun e => by
        have h5 := (World.ownsRow.lt HS.out.o5 C e.symm).2
        rw [HC.out] at h5
        omega)
      have x1 : w8.cell? ⟨C, 1, none⟩ = some (.int .i64 (od : Int)) := by
        rw [World.cell?_of_block hcb]; exact (((Grow.refl w10).alloc _).cells _ _ k4).trans k1
      have x2 : C < w8.heap.size := by have := hg8.size; simp at this; omega
      have hs8 : u4.heap.size ≤ w8.heap.size := by have := hg8.size; simp at this; omega
      have ho6 := own_apart (own_into HS10.out.o6 ((Grow.refl w10).alloc _)) hg8 (fun k h5 h6 => HS10.out.ne k h6 h5)
      have HO8 := Lib.hid ho8
      have HG8 := Lib.hid hg8
      have HB8 := Lib.hid hb8
      have HO6 := Lib.hid ho6
      clear p0 hpl hFl k0 k1 k2 k3 k4 hcb ho8 hg8 hb8 ho6
      obtain ⟨a8, c8, e8⟩ := own_shape HO8.out
      subst e8
      go_upto_region 9 with fail
      go_wp2_with (at_builtin; refine wpList_append_own_at _ rfl _ _ 33 rfl u4.heap.size 3 ii (.int .i64 0) 1 8 Tryz.underlying33 hii iiz0 iiz1 iiz2 rfl (by decide) _ _ _ rfl (World.ownsRow.alloc HO6.out _) ⟨w8.heap.size, 0, none⟩ 1 1 [.int .i64 (od : Int)] rfl rfl (one_cells _ _ _ _ ?c1) (one_oneCell _ _) ?c3 ?c4 ?c5 ?_)
      case c1 => simp
      case c3 => unfold maxLen; omega
      case c4 => omega
      case c5 => (try simp); omega
      intro v9 w9 ho9 hg9 _ hb9
      obtain ⟨a8', c8', a9, c9, e8, rfl, hp⟩ := HS10.out.push ((Grow.refl w10).alloc _) HO8.out HG8.out (by have h := HB8.out; simpa using h) ((Grow.refl w8).alloc _) ho9 hg9 (by simpa using hb9) (by have := HR60.out; omega) (by have := HO2.out; omega)
      have HP := Lib.hid hp
      injection e8 with e8 _ e9
      subst e8
      subst e9
      clear ho9 hg9 hb9 hp x1 x2
      obtain ⟨ei, ei'⟩ := EI.out
      go_wp2_with fail
      clear ei ei'
      go_roundg (K - (i + 1))
      case measure => have := HGK.out; omega
      case rel => exact ⟨i + 1, _, _, a8, a9, c8, c9, rfl, rfl, rfl, by omega, Lib.hid rfl, HP⟩
end Go.Proofs.YtbpkfcohbefphaaGreatDoor
namespace Go.Proofs.YtbpkfcohbefphaaGreatDoor
open Go Go.RowKit
set_option maxHeartbeats 2000000 in
theorem kron0Q (a : Int) (w : World) : Calls Tryz.prog 35 #[.int .i64 a, .int .i64 0] w fun e w' => (∃ z : Int, e = .returned (.int .i64 z)) ∧ w = w' := by
  by_cases h1 : a = 1
  · subst h1
    go_enter Tryz.func35, Tryz.ntmps35
    go_wp2_with fail
    go_ret
    exact ⟨⟨_, rfl⟩, rfl⟩
  · have y1 : (a == 1) = false := by simpa using h1
    by_cases h2 : a = -1
    · subst h2
      go_enter Tryz.func35, Tryz.ntmps35
      go_wp2_with fail
      go_ret
      exact ⟨⟨_, rfl⟩, rfl⟩
    · have y2 : (a == -1) = false := by simpa using h2
      clear h1 h2
      go_enter Tryz.func35, Tryz.ntmps35
      go_wp2_with fail
      go_ret
      exact ⟨⟨_, rfl⟩, rfl⟩
theorem kronZQ (a x : Int) (ha : a.natAbs ≤ 100) (h0 : 0 ≤ x) (h1 : x < 128) (w : World) (hT : TabB w) : Calls Tryz.prog 35 #[.int .i64 a, .int .i64 x] w fun e w' => (∃ z : Int, e = .returned (.int .i64 z)) ∧ w = w' := by
  obtain ⟨n, rfl⟩ : ∃ n : Nat, x = (n : Int) := ⟨x.toNat, by omega⟩
  rcases Nat.eq_zero_or_pos n with h | h
  · subst h; exact kron0Q a w
  · exact (kroneckerQ a n ha h (by omega) w hT).mono fun e w' ⟨h1, h2⟩ => ⟨⟨_, h1⟩, h2⟩
/-- What the closure of Quadratic hands back. -/
def RtV (e : Ending) : Prop := ∃ num den : Int, e = .returned (.agg #[.bool false, .int .i64 num, .int .i64 den]) ∧ (num = 0 ∨ num = 1) ∧ (den = 1 ∨ den = 2)
set_option maxRecDepth 20000 in
set_option maxHeartbeats 4000000 in
theorem quad1Q (d x : Int) (b1 : Nat) (hd : d.natAbs ≤ 60) (h0 : 0 ≤ x) (h1 : x < 60) (w : World) (hT : TabB w) (hb : b1 < w.heap.size) (hc : w.cell? ⟨b1, 0, none⟩ = some (.int .i64 d)) :
    Calls Tryz.prog 55 #[.int .i64 x, .pointer (some ⟨b1, 0, none⟩)] w fun e w' => RtV e ∧ Grow w w' := by
  obtain ⟨W1, hW1⟩ : ∃ W1 : World, W1 = w.alloc (.cells #[.bool false, .int .i64 0, .int .i64 0] 85) := ⟨_, rfl⟩
  have hg1 := ag hW1
  have KR := Lib.hid (kronZQ d x (by omega) h0 (by omega) W1 (hT.grow hg1))
  have c1 := (hg1.cells _ _ hb).trans hc
  have l1 := Nat.lt_of_lt_of_le hb hg1.size
  obtain ⟨k0, k1, k2, k3, k4⟩ := ak3 hW1 W1 (Grow.refl _)
  have HG1 := Lib.hid hg1
  have HW1 := Lib.hid hW1
  clear hW1 hg1 hT hb hc h0 h1 hd
  go_enter Tryz.func55, Tryz.ntmps55
  go_upto_region 1 with fail
  rw [← HW1.out]
  go_upto_if 7 with (go_at_call 35; (with_reducible refine KR.out.mono ?_); (rintro e u2 ⟨⟨z, rfl⟩, rfl⟩))
  by_cases hz : z < 0
  · have y1 : decide (z < 0) = true := by simp; omega
    go_wp2_with fail
    refine bodyPost_ret (v := .agg #[.bool false, .int .i64 1, .int .i64 2]) (by rw [results_one rfl]; go_simp) rfl ?_
    exact ⟨⟨1, 2, rfl, .inr rfl, .inr rfl⟩, by have h := HG1.out; (repeat (first | with_reducible exact Grow.refl _ | with_reducible refine Grow.alloc ?_ _ | with_reducible refine Grow.drew ?_ | with_reducible refine Grow.drewN ?_ _ | (with_reducible refine Grow.setCell ?_ ?hp _; (case hp => (simp; try omega))) | with_reducible refine Grow.trans ?_ (by assumption)))⟩
  · have y1 : decide (z < 0) = false := by simp; omega
    have hz2 : 0 ≤ z := by omega
    go_wp2_with fail
    refine bodyPost_ret (v := .agg #[.bool false, .int .i64 0, .int .i64 1]) (by rw [results_one rfl]; go_simp) rfl ?_
    exact ⟨⟨0, 1, rfl, .inl rfl, .inl rfl⟩, by have h := HG1.out; (repeat (first | with_reducible exact Grow.refl _ | with_reducible refine Grow.alloc ?_ _ | with_reducible refine Grow.drew ?_ | with_reducible refine Grow.drewN ?_ _ | (with_reducible refine Grow.setCell ?_ ?hp _; (case hp => (simp; try omega))) | with_reducible refine Grow.trans ?_ (by assumption)))⟩
theorem run_append_ints (w : World) {t ty : TypeId} {P : Program} {i : TypeInfo} (ht : P.underlying t = some (.slice 3)) (hi : P.info? 3 = some i) (hz : i.zero = some (.int .i64 0)) (hsize : i.size = 1) (hby : i.bytes = 8)
    (base : Nat) (v : Value) (n : Nat) (xs : List Value) (hown : w.ownsRow base 3 1 v n xs) (ad : Addr) (c : Nat) (x : Int) (hc : w.cell? ad = some (.int .i64 x)) (hl : n + 1 ≤ 1000000) (hb : base ≤ w.heap.size) :
    ∃ v' w', (Builtin.append_ #[t, t] ty #[v, .slice (some ad) 1 c]).run P w = .ok v' w' ∧ w'.ownsRow base 3 1 v' (n + 1) (xs ++ [.int .i64 x]) ∧ w.grownBy w' v.ownBlock := by
  obtain ⟨v', w', h1, h2, h3, -⟩ := run_append_own (P := P) (w := w) base t ty 3 i (.int .i64 0) 1 8 ht hi hz hsize hby rfl (by decide) v n xs hown ad 1 c [.int .i64 x] rfl (fun j u hj => by
    match j, hj with
    | 0, hj => simp at hj; subst hj; simpa [Addr.add] using hc) (one_oneCell _ _) (by unfold maxLen; omega) (by omega) hb
  exact ⟨v', w', h1, h2, h3⟩
theorem step_append_ints {ops : Array Oper} {P : Program} {o : Oper} {a : Act} {w : World} {K : Act → World → Prop} {Q : Exit → Act → World → Prop} {E : Prop} (hgd : o.guard = none) (s x : Operand) (t : TypeId)
    (ho : o.op = .call { callee := .builtin .append, args := #[s, x], argTypes := #[t, t] }) {i : TypeInfo} (ht : P.underlying t = some (.slice 3)) (hi : P.info? 3 = some i) (hz : i.zero = some (.int .i64 0)) (hsize : i.size = 1) (hby : i.bytes = 8)
    (base : Nat) (v : Value) (n : Nat) (xs : List Value) (hs : a.eval s = v) (hown : w.ownsRow base 3 1 v n xs) (ad : Addr) (c : Nat) (y : Int) (hx : a.eval x = .slice (some ad) 1 c) (hc : w.cell? ad = some (.int .i64 y)) (hl : n + 1 ≤ 1000000) (hb : base ≤ w.heap.size)
    (h : ∀ v' w', w'.ownsRow base 3 1 v' (n + 1) (xs ++ [.int .i64 y]) → w.grownBy w' v.ownBlock → K (a.put o.dst v') w') : if Region.wanted o (yielded ops a.tmps) = true then Oper.wp P o a w K Q else E := by
  have hw : Region.wanted o (yielded ops a.tmps) = true := by simp [Region.wanted, hgd]
  rw [if_pos hw]
  obtain ⟨v', w', hrun, r1, r2⟩ := run_append_ints (P := P) (ty := o.type) w ht hi hz hsize hby base v n xs hown ad c y hc hl hb
  unfold Oper.wp
  simp [execOp, ho, resolve, invoke, builtin, hs, hx, hrun, Result.andThen]
  exact h v' w' r1 r2
/-- The character so far: its cell and its row. -/
structure FmSt (w0 u3 : World) (b5 n i : Nat) (a : Option Addr) (c : Nat) (u : World) : Prop where
  grow : Grow w0 u
  le : w0.heap.size ≤ b5
  sz : u3.heap.size ≤ u.heap.size
  keep : ∀ b, b < u3.heap.size → b ≠ b5 → u.heap[b]? = u3.heap[b]?
  lt : b5 < u3.heap.size
  fr : ∀ o, u.frozen? ⟨b5, o, none⟩ = false
  c0 : u.cell? ⟨b5, 0, none⟩ = some (.int .i64 (n : Int))
  c1 : u.cell? ⟨b5, 1, none⟩ = some (.slice a i c)
  row : ∃ xs, u.ownsRow u3.heap.size 3 1 (.slice a i c) i xs
theorem FmSt.go {w0 u3 u u' : World} {b5 n i : Nat} {a : Option Addr} {c : Nat} (h : FmSt w0 u3 b5 n i a c u) (hg : Grow u u') : FmSt w0 u3 b5 n i a c u' := by
  have hl : b5 < u.heap.size := Nat.lt_of_lt_of_le h.lt h.sz
  obtain ⟨xs, hx⟩ := h.row
  exact ⟨h.grow.trans hg, h.le, Nat.le_trans h.sz hg.size, fun b hb hne => (Below.block hg b (Nat.lt_of_lt_of_le hb h.sz)).trans (h.keep b hb hne), h.lt, fun o => (hg.frees _ _ hl).trans (h.fr o), (hg.cells _ _ hl).trans h.c0, (hg.cells _ _ hl).trans h.c1, xs, own_into hx hg⟩
/-- Behind the append and the store. -/
theorem FmSt.put {w0 u3 u w8 : World} {b5 n i : Nat} {a a' : Option Addr} {c c' : Nat} {ys : List Value} (h : FmSt w0 u3 b5 n i a c u) (ho : w8.ownsRow u3.heap.size 3 1 (.slice a' (i + 1) c') (i + 1) ys) (hg : u.grownBy w8 (Value.slice a i c).ownBlock) :
    w8.cell? ⟨b5, 1, none⟩ = some (.slice a i c) ∧ (∀ o, w8.frozen? ⟨b5, o, none⟩ = false) ∧ b5 < w8.heap.size ∧ FmSt w0 u3 b5 n (i + 1) a' c' (w8.setCell ⟨b5, 1, none⟩ (.slice a' (i + 1) c')) := by
  obtain ⟨xs, hx⟩ := h.row
  have hl : b5 < u.heap.size := Nat.lt_of_lt_of_le h.lt h.sz
  have hrow : ∀ b, (Value.slice a i c).ownBlock = some b → u3.heap.size ≤ b := fun b hb => (World.ownsRow.lt hx b hb).1
  have hbk : w8.heap[b5]? = u.heap[b5]? := hg.block b5 hl (fun e => by have := hrow b5 e.symm; have := h.lt; omega)
  have hc1 : w8.cell? ⟨b5, 1, none⟩ = some (.slice a i c) := (World.cell?_of_block hbk).trans h.c1
  have hfr : ∀ o, w8.frozen? ⟨b5, o, none⟩ = false := fun o => (World.frozen?_of_block hbk).trans (h.fr o)
  have hl8 : b5 < w8.heap.size := Nat.lt_of_lt_of_le hl hg.size
  have hc0 : w8.cell? ⟨b5, 0, none⟩ = some (.int .i64 (n : Int)) := (World.cell?_of_block hbk).trans h.c0
  have hw0 : w0.heap.size ≤ u3.heap.size := by have := h.le; have := h.lt; omega
  refine ⟨hc1, hfr, hl8, (h.grow.grown hg (fun q hq => Nat.le_trans hw0 (hrow q hq))).setCell h.le _, h.le, by have := h.sz; have := hg.size; simp [World.setCell]; omega, fun b hb hne => ?_, h.lt, fun o => by simpa using hfr o, (World.cell?_setCell_other _ _ _ _ (by simp)).trans hc0, World.cell?_setCell_same _ _ _ hc1, ys, own_set ho h.lt _⟩
  have h2 : (w8.setCell ⟨b5, 1, none⟩ (.slice a' (i + 1) c')).heap[b]? = w8.heap[b]? := by
    simp only [World.setCell, Array.getElem?_modify]
    rw [if_neg (fun e => hne e.symm)]
  rw [h2, hg.block b (Nat.lt_of_lt_of_le hb h.sz) (fun e => by have := hrow b e.symm; omega)]
  exact h.keep b hb hne
set_option maxRecDepth 20000 in
set_option maxHeartbeats 8000000 in
theorem fromQ (n : Nat) (h1 : 1 ≤ n) (h2 : n ≤ 60) (hg : gmB n = true) (b1 : Nat) (w : World)
    (CL : ∀ (x : Int) (u : World), 0 ≤ x → x < 60 → Grow w u → Calls Tryz.prog 55 #[.int .i64 x, .pointer (some ⟨b1, 0, none⟩)] u fun e w' => RtV e ∧ Grow u w') :
    Calls Tryz.prog 54 #[.int .i64 (n : Int), .func (.func 55) #[] #[.pointer (some ⟨b1, 0, none⟩)]] w fun e w' => (∃ (a : Option Addr) (m c : Nat), e = .returned (.agg #[.int .i64 (n : Int), .slice a m c])) ∧ Grow w w' := by
  have GQ := Lib.hid (fun u => gensQ n h1 h2 hg u)
  have HCL := Lib.hid CL
  obtain ⟨ii, hii, iiz0, iiz1, iiz2⟩ := info_parts infoInt
  clear hg CL h1 h2
  obtain ⟨W1, hW1⟩ : ∃ W1 : World, W1 = w.alloc (.cells #[.int .i64 0, .slice none 0 0] 54) := ⟨_, rfl⟩
  obtain ⟨W2, hW2⟩ : ∃ W2 : World, W2 = W1.alloc (.cells #[.int .i64 (n : Int), .slice none 0 0] 54) := ⟨_, rfl⟩
  have hz1 : W1.heap.size = w.heap.size + 1 := by rw [hW1]; simp
  have hg2 : Grow w W2 := (ag hW1).trans (ag hW2)
  have K1 : Hid (∀ u : World, Grow W1 u → u.cell? ⟨w.heap.size, 0, none⟩ = some (.int .i64 0) ∧ u.cell? ⟨w.heap.size, 1, none⟩ = some (.slice none 0 0) ∧ (∀ o, u.frozen? ⟨w.heap.size, o, none⟩ = false) ∧ w.heap.size < u.heap.size) := Lib.hid (fun u hu => ak2 hW1 u hu)
  have K2 : Hid (∀ u : World, Grow W2 u → u.cell? ⟨w.heap.size + 1, 0, none⟩ = some (.int .i64 (n : Int)) ∧ u.cell? ⟨w.heap.size + 1, 1, none⟩ = some (.slice none 0 0) ∧ (∀ o, u.frozen? ⟨w.heap.size + 1, o, none⟩ = false) ∧ w.heap.size + 1 < u.heap.size) := Lib.hid (fun u hu => by have := ak2 hW2 u hu; rw [hz1] at this; exact this)
  have HG1 := Lib.hid (ag hW1)
  have HG12 := Lib.hid (ag hW2)
  have HW1 := Lib.hid hW1
  have HW2 := Lib.hid hW2
  have HZ1 := Lib.hid hz1
  clear hW1 hW2 hz1 hg2
  go_enter Tryz.func54, Tryz.ntmps54
  go_upto_region 1 with fail
  rw [← HW1.out]
  go_upto_region 2 with fail
  rw [← HW2.out, HZ1.out]
  go_upto_region 4 with (go_at_call 90; (with_reducible refine (GQ.out _).mono ?_); (rintro e u3 ⟨⟨G, O, a5, a6, m, c5, c6, u4, rfl, hm20, hgu4, hgn⟩, hb3⟩; have HGN := Lib.hid hgn; have HG4 := Lib.hid hgu4; have HG3 := Lib.hid hb3; clear hgn hgu4 hb3))
  have HF : Hid (FmSt W1 u3 (w.heap.size + 1) n 0 none 0 u3) := Lib.hid (by
    obtain ⟨b0, b1', b2, b3⟩ := K2.out u3 HG3.out
    exact ⟨HG12.out.trans HG3.out, by have := HZ1.out; omega, Nat.le_refl _, fun _ _ _ => rfl, b3, b2, b0, b1', [], World.ownsRow_nil _ _ _ _⟩)
  go_loopg [22] m (fun gk t22 wr => ∃ (i : Nat) (a : Option Addr) (c : Nat), t22 = .int .i64 (i : Int) ∧ i ≤ m ∧ Hid (gk = m - i) ∧ Hid (FmSt W1 u3 (w.heap.size + 1) n i a c wr))
  case atStart => exact ⟨0, none, 0, rfl, Nat.zero_le _, Lib.hid rfl, HF⟩
  case round =>
    obtain ⟨i, a, c, rfl, hi, HGK, HS⟩ := hrel
    have c0 := HS.out.c0
    have c1 := HS.out.c1
    have fr := HS.out.fr
    have lt : w.heap.size + 1 < wr.heap.size := Nat.lt_of_lt_of_le HS.out.lt HS.out.sz
    by_cases him : i = m
    · have y1 : decide ((i : Int) < (m : Int)) = false := by simp; omega
      have y1' : decide (i < m) = false := by simp; omega
      obtain ⟨k0, k1, k2, k3⟩ := K1.out wr HS.out.grow
      clear him
      go_wp2_with fail
      refine bodyPost_ret (v := .agg #[.int .i64 (n : Int), .slice a i c]) (by rw [results_one rfl]; go_simp) rfl ?_
      exact ⟨⟨a, i, c, rfl⟩, ((HG1.out.trans HS.out.grow).setCell (Nat.le_refl _) _).setCell (Nat.le_refl _) _⟩
    · have him : i < m := by omega
      have y0 : (0 : Int) ≤ (i : Int) := by omega
      have y1 : decide ((i : Int) < (m : Int)) = true := by simp; omega
      have y2 : (i : Int) < (m : Int) := by omega
      obtain ⟨g5, cg5, he5, hb5, hlt5⟩ := own_slice HGN.out.o5 (by omega)
      obtain ⟨g6, cg6, he6, hb6, hlt6⟩ := own_slice HGN.out.o6 (by omega)
      injection he5 with he5 _ hx5
      injection he6 with he6 _ hx6
      clear hx5 hx6
      have hG : (G.map (Value.int .i64))[i]? = some (.int .i64 (G.getD i 0)) := by rw [List.getElem?_map]; simp [show i < G.length by rw [HGN.out.lg]; exact him]
      have hO : (O.map (Value.int .i64))[i]? = some (.int .i64 (O.getD i 0)) := by rw [List.getElem?_map]; simp [show i < O.length by rw [HGN.out.lo]; exact him]
      have k1 := World.ownsRow.cells HGN.out.o5 (g := g5) (by rw [he5]; rfl) _ _ hG
      have k2 := World.ownsRow.cells HGN.out.o6 (g := g6) (by rw [he6]; rfl) _ _ hO
      have e0 : ∀ g j, (⟨g, 0, none⟩ : Addr).add j = ⟨g, j, none⟩ := fun g j => by cases j <;> simp [Addr.add]
      rw [e0] at k1 k2
      have hxG := HGN.out.okG (G.getD i 0) (by rw [List.getD_eq_getElem?_getD, List.getElem?_eq_getElem (by rw [HGN.out.lg]; exact him)]; simp)
      have hxO := HGN.out.okO (O.getD i 0) (by rw [List.getD_eq_getElem?_getD, List.getElem?_eq_getElem (by rw [HGN.out.lo]; exact him)]; simp)
      have hne : w.heap.size + 1 < W2.heap.size := (K2.out W2 (Grow.refl _)).2.2.2
      have hn5 : g5 ≠ w.heap.size + 1 := by have := HG4.out.size; omega
      have hn6 : g6 ≠ w.heap.size + 1 := by have := HG4.out.size; omega
      have k1 := (World.cell?_of_block (HS.out.keep g5 hlt5 hn5)).trans k1
      have k2 := (World.cell?_of_block (HS.out.keep g6 hlt6 hn6)).trans k2
      have hlt5 := Nat.lt_of_lt_of_le hlt5 HS.out.sz
      have hlt6 := Nat.lt_of_lt_of_le hlt6 HS.out.sz
      obtain ⟨x, hx⟩ : ∃ x, G.getD i 0 = x := ⟨_, rfl⟩
      obtain ⟨y, hy⟩ : ∃ y, O.getD i 0 = y := ⟨_, rfl⟩
      rw [hx] at k1 hxG
      rw [hy] at k2 hxO
      have KX := Lib.hid (fun (u : World) (hu : Grow wr u) => (⟨(hu.cells _ _ hlt6).trans k2, Nat.lt_of_lt_of_le hlt6 hu.size⟩ : u.cell? ⟨g6, i, none⟩ = some (.int .i64 y) ∧ g6 < u.heap.size))
      have QC := Lib.hid (fun u (hu : Grow wr u) => HCL.out x u hxG.1 hxG.2 (HG1.out.trans (HS.out.grow.trans hu)))
      have EI := Lib.hid (inc_wrap (i := i) (n := 100) (by omega) (by omega))
      have HYB := Lib.hid hxO
      clear hG hO e0 hxG hxO hx hy hne hn5 hn6 k2 hlt6 hb5 hb6 him
      subst he5
      subst he6
      clear c0 c1 fr lt
      go_upto_region 7 with (go_at_call 55; (with_reducible refine (QC.out _ (Grow.refl _)).mono ?_); (rintro e u5 ⟨⟨num, den, rfl, hnum, hden⟩, hb5⟩; have HG5 := Lib.hid hb5; have HND := Lib.hid (show (num = 0 ∨ num = 1) ∧ (den = 1 ∨ den = 2) from ⟨hnum, hden⟩); clear hb5 hnum hden))
      clear k1 hlt5
      obtain ⟨W6, hW6⟩ : ∃ W6 : World, W6 = u5.alloc (.cells #[.bool false, .int .i64 num, .int .i64 den] 85) := ⟨_, rfl⟩
      rw [← hW6]
      have K6 := Lib.hid (ak3 hW6)
      have hg6 : Grow wr W6 := HG5.out.trans (ag hW6)
      have HG6 := Lib.hid hg6
      have HS6 := Lib.hid (HS.out.go hg6)
      obtain ⟨xs, hxs⟩ := HS6.out.row
      have HXS := Lib.hid (fun u (hu : Grow W6 u) => own_into hxs hu)
      have hsz6 : u3.heap.size ≤ W6.heap.size := HS6.out.sz
      obtain ⟨C, hC⟩ : ∃ C, u5.heap.size = C := ⟨_, rfl⟩
      rw [hC] at K6
      try rw [hC]
      clear hW6 hC hg6 hxs
      obtain ⟨p, hp⟩ : ∃ p, num * y = p := ⟨_, rfl⟩
      have hpb : p.natAbs ≤ 60 := by
        rw [← hp]
        rcases HND.out.1 with h | h <;> rw [h] <;> simp <;> have := HYB.out <;> omega
      obtain ⟨q, hq⟩ : ∃ q, Int.tdiv p den = q := ⟨_, rfl⟩
      have hqb : q.natAbs ≤ 60 := by
        rw [← hq, Int.natAbs_tdiv]; exact Nat.le_trans (Nat.div_le_self _ _) hpb
      have E1 : Hid (IntKind.i64.wrap (num * y) = p ∧ wrap64 (num * y) = p) := Lib.hid (by rw [hp]; exact w64n (by omega))
      have T1 := Lib.hid hq
      have V1 := Lib.hid (w64n (n := q) (by omega))
      have hdz : ¬ (den = 0) := by have := HND.out.2; omega
      have DD := Lib.hid (fun (u : World) (hu : Grow W6 u) => (⟨(HS6.out.go hu).c1, Nat.lt_of_lt_of_le (HS6.out.go hu).lt (HS6.out.go hu).sz, K6.out u hu, KX.out u (HG6.out.trans hu)⟩ : u.cell? ⟨w.heap.size + 1, 1, none⟩ = some (.slice a i c) ∧ w.heap.size + 1 < u.heap.size ∧ _ ∧ _))
      clear hp hpb hq hqb
      obtain ⟨e1, e1'⟩ := E1.out
      have t1 := T1.out
      obtain ⟨v1, v1'⟩ := V1.out
      refine region_held (id := 7) (fun v => Grow W6 v) [0, 1, 2, 3, 4, 5, 6, 7, 8, 9, 10, 11, 12, 13, 14, 15] (kdL [0, 1, 0, 1, 0, 0, 0, 1, 0, 0, 1, 0, 2, 3, 0, 3]) (by kernel_rfl) (by kernel_rfl) (fun t ht => kdL_lt _ t ht) ?hS0p ?_
      case hS0p => ((try dsimp only); (repeat (first | with_reducible exact Grow.refl _ | with_reducible refine Grow.alloc ?_ _ | with_reducible refine Grow.drew ?_ | with_reducible refine Grow.drewN ?_ _ | (with_reducible refine Grow.setCell ?_ ?hp _; (case hp => (simp; try omega))) | with_reducible refine Grow.trans ?_ (by assumption))))
      refine held_quiet (v := ?vp0) rfl rfl (Or.inl ⟨by rfl, ?hyp0⟩) ?_
      case hyp0 => (intro u hu; go_simp; (try with_reducible rfl))
      (try simp only [Act.put, List.setIfInBounds_toArray, List.set_cons_zero, List.set_cons_succ])
      refine held_read (v := ?vp1) rfl rfl (Or.inl ⟨by rfl, ?hyp1⟩) ?_
      case hyp1 => (intro u hu; obtain ⟨d0, d1, ⟨d2, d3, d4, d5, d6⟩, d7, d8⟩ := DD.out u hu; go_simp; (try with_reducible rfl))
      (try simp only [Act.put, List.setIfInBounds_toArray, List.set_cons_zero, List.set_cons_succ])
      refine held_quiet (v := ?vp2) rfl rfl (Or.inl ⟨by rfl, ?hyp2⟩) ?_
      case hyp2 => (intro u hu; go_simp; (try with_reducible rfl))
      (try simp only [Act.put, List.setIfInBounds_toArray, List.set_cons_zero, List.set_cons_succ])
      refine held_read (v := ?vp3) rfl rfl (Or.inl ⟨by rfl, ?hyp3⟩) ?_
      case hyp3 => (intro u hu; obtain ⟨d0, d1, ⟨d2, d3, d4, d5, d6⟩, d7, d8⟩ := DD.out u hu; go_simp; (try with_reducible rfl))
      (try simp only [Act.put, List.setIfInBounds_toArray, List.set_cons_zero, List.set_cons_succ])
      refine held_quiet (v := ?vp4) rfl rfl (Or.inl ⟨by rfl, ?hyp4⟩) ?_
      case hyp4 => (intro u hu; go_simp; (try with_reducible rfl))
      (try simp only [Act.put, List.setIfInBounds_toArray, List.set_cons_zero, List.set_cons_succ])
      refine held_quiet (v := ?vp5) rfl rfl (Or.inl ⟨by rfl, ?hyp5⟩) ?_
      case hyp5 => (intro u hu; go_simp; (try with_reducible rfl))
      (try simp only [Act.put, List.setIfInBounds_toArray, List.set_cons_zero, List.set_cons_succ])
      refine held_quiet (v := ?vp6) rfl rfl (Or.inl ⟨by rfl, ?hyp6⟩) ?_
      case hyp6 => (intro u hu; go_simp; (try with_reducible rfl))
      (try simp only [Act.put, List.setIfInBounds_toArray, List.set_cons_zero, List.set_cons_succ])
      refine held_read (v := ?vp7) rfl rfl (Or.inl ⟨by rfl, ?hyp7⟩) ?_
      case hyp7 => (intro u hu; obtain ⟨d0, d1, ⟨d2, d3, d4, d5, d6⟩, d7, d8⟩ := DD.out u hu; go_simp; (try with_reducible rfl))
      (try simp only [Act.put, List.setIfInBounds_toArray, List.set_cons_zero, List.set_cons_succ])
      refine held_quiet (v := ?vp8) rfl rfl (Or.inl ⟨by rfl, ?hyp8⟩) ?_
      case hyp8 => (intro u hu; go_simp; (try with_reducible rfl))
      (try simp only [Act.put, List.setIfInBounds_toArray, List.set_cons_zero, List.set_cons_succ])
      refine held_quiet (v := ?vp9) rfl rfl (Or.inl ⟨by rfl, ?hyp9⟩) ?_
      case hyp9 => (intro u hu; go_simp; (try with_reducible rfl))
      (try simp only [Act.put, List.setIfInBounds_toArray, List.set_cons_zero, List.set_cons_succ])
      refine held_read (v := ?vp10) rfl rfl (Or.inl ⟨by rfl, ?hyp10⟩) ?_
      case hyp10 => (intro u hu; obtain ⟨d0, d1, ⟨d2, d3, d4, d5, d6⟩, d7, d8⟩ := DD.out u hu; go_simp; (try with_reducible rfl))
      (try simp only [Act.put, List.setIfInBounds_toArray, List.set_cons_zero, List.set_cons_succ])
      refine held_quiet (v := ?vp11) rfl rfl (Or.inl ⟨by rfl, ?hyp11⟩) ?_
      case hyp11 => (intro u hu; go_simp; (try with_reducible rfl))
      (try simp only [Act.put, List.setIfInBounds_toArray, List.set_cons_zero, List.set_cons_succ])
      refine held_op rfl rfl (fun K hK => ?_)
      go_simp
      refine hK.out _ _ ?hSp12 ?_
      case hSp12 => ((try dsimp only); (repeat (first | with_reducible exact Grow.refl _ | with_reducible refine Grow.alloc ?_ _ | with_reducible refine Grow.drew ?_ | with_reducible refine Grow.drewN ?_ _ | (with_reducible refine Grow.setCell ?_ ?hp _; (case hp => (simp; try omega))) | with_reducible refine Grow.trans ?_ (by assumption))))
      clear hK K
      (try simp only [Act.put, List.setIfInBounds_toArray, List.set_cons_zero, List.set_cons_succ])
      refine held_last rfl rfl (fun K hK => ?_)
      refine step_append_ints (by rfl) _ _ _ (by rfl) Tryz.underlying33 hii iiz0 iiz1 iiz2 u3.heap.size _ i xs (by rfl) (HXS.out _ (by (repeat (first | with_reducible exact Grow.refl _ | with_reducible refine Grow.alloc ?_ _ | with_reducible refine Grow.drew ?_ | with_reducible refine Grow.drewN ?_ _ | (with_reducible refine Grow.setCell ?_ ?hp _; (case hp => (simp; try omega))) | with_reducible refine Grow.trans ?_ (by assumption))))) ⟨W6.heap.size, 0, none⟩ 1 q (by rfl) (ak1 rfl _ (Grow.refl _)).1 (by omega) (by (try simp); omega) ?_
      intro v8 w8 ho8 hg8
      obtain ⟨a8, c8, e8⟩ := own_shape ho8
      subst e8
      obtain ⟨m1, m2, m3, hp8⟩ := (HS6.out.go (by (repeat (first | with_reducible exact Grow.refl _ | with_reducible refine Grow.alloc ?_ _ | with_reducible refine Grow.drew ?_ | with_reducible refine Grow.drewN ?_ _ | (with_reducible refine Grow.setCell ?_ ?hp _; (case hp => (simp; try omega))) | with_reducible refine Grow.trans ?_ (by assumption))))).put ho8 hg8
      have HP8 := Lib.hid hp8
      clear hp8 ho8 hg8
      refine hK.out _ _ ?_
      clear hK K
      (try simp only [Act.put, List.setIfInBounds_toArray, List.set_cons_zero, List.set_cons_succ])
      refine held_quiet (v := ?vp14) rfl rfl (Or.inl ⟨by rfl, ?hyp14⟩) ?_
      case hyp14 => (intro u hu; go_simp; (try with_reducible rfl))
      (try simp only [Act.put, List.setIfInBounds_toArray, List.set_cons_zero, List.set_cons_succ])
      refine held_last rfl rfl (fun K hK => ?_)
      go_simp
      refine hK.out _ _ ?_
      clear hK K
      (try simp only [Act.put, List.setIfInBounds_toArray, List.set_cons_zero, List.set_cons_succ])
      refine held_done ?_
      clear e1 e1' t1 v1 v1' hdz
      obtain ⟨ei, ei'⟩ := EI.out
      go_simp
      go_wp2_with fail
      clear ei ei'
      go_roundg (m - (i + 1))
      case measure => have := HGK.out; omega
      case rel => exact ⟨i + 1, a8, c8, rfl, by omega, Lib.hid rfl, HP8⟩
/-- Where dirichlet.Quadratic names a character. -/
def QdOK (d : Int) : Prop := d ≠ 0 ∧ d.natAbs ≤ 60 ∧ fdB d = true
set_option maxRecDepth 20000 in
set_option maxHeartbeats 8000000 in
theorem quadraticQ (d : Int) (w : World) (hT : TabB w) :
    Calls Tryz.prog 32 #[.int .i64 d] w fun e w' => (∃ (x : Int) (a : Option Addr) (m c : Nat) (z : Int), e = .returned (.tuple #[.agg #[.int .i64 x, .slice a m c], .int .i64 z]) ∧ (z = 0 ↔ QdOK d)) ∧ Grow w w' := by
  obtain ⟨W1, hW1⟩ : ∃ W1 : World, W1 = w.alloc (.cells #[.int .i64 d] 3) := ⟨_, rfl⟩
  obtain ⟨W2, hW2⟩ : ∃ W2 : World, W2 = W1.alloc (.cells #[.int .i64 0, .slice none 0 0] 54) := ⟨_, rfl⟩
  have hz1 : W1.heap.size = w.heap.size + 1 := by rw [hW1]; simp
  have hg2 : Grow w W2 := (ag hW1).trans (ag hW2)
  have K1 : Hid (∀ u : World, Grow W2 u → u.cell? ⟨w.heap.size, 0, none⟩ = some (.int .i64 d) ∧ (∀ o, u.frozen? ⟨w.heap.size, o, none⟩ = false) ∧ w.heap.size < u.heap.size) := Lib.hid (fun u hu => ak1 hW1 u ((ag hW2).trans hu))
  have K2 : Hid (∀ u : World, Grow W2 u → u.cell? ⟨w.heap.size + 1, 0, none⟩ = some (.int .i64 0) ∧ u.cell? ⟨w.heap.size + 1, 1, none⟩ = some (.slice none 0 0) ∧ (∀ o, u.frozen? ⟨w.heap.size + 1, o, none⟩ = false) ∧ w.heap.size + 1 < u.heap.size) := Lib.hid (fun u hu => by have := ak2 hW2 u hu; rw [hz1] at this; exact this)
  have HG2 := Lib.hid hg2
  have HT2 := Lib.hid (hT.grow hg2)
  have HW1 := Lib.hid hW1
  have HW2 := Lib.hid hW2
  have HZ1 := Lib.hid hz1
  clear hW1 hW2 hz1 hg2 hT
  obtain ⟨f0, f1, f2⟩ := K1.out W2 (Grow.refl _)
  obtain ⟨g0, g1, g2, g3⟩ := K2.out W2 (Grow.refl _)
  by_cases hr : d ≠ 0 ∧ d.natAbs ≤ 60
  · obtain ⟨hd0, hd60⟩ := hr
    have FU := Lib.hid (fun u => fundQ d hd0 hd60 u)
    have hok : QdOK d ↔ fdB d = true := ⟨fun h => h.2.2, fun h => ⟨hd0, hd60, h⟩⟩
    have HOK := Lib.hid hok
    have x1 : (d == 0) = false := by simpa using hd0
    have x2 : decide (d < -60) = false := by simp; omega
    have x3 : decide (d > 60) = false := by simp; omega
    obtain ⟨n, hn⟩ : ∃ n, d.natAbs = n := ⟨_, rfl⟩
    have hm1 : max d (-d) = (n : Int) := by omega
    have hm2 : (if -d > d then -d else d) = (n : Int) := by split <;> omega
    have M1 := Lib.hid hm1
    have M2 := Lib.hid hm2
    have EN := Lib.hid (w64n (n := -d) (by omega))
    have FM : Hid (fdB d = true → ∀ u, Grow W2 u → Calls Tryz.prog 54 #[.int .i64 (n : Int), .func (.func 55) #[] #[.pointer (some ⟨w.heap.size, 0, none⟩)]] u fun e w' => (∃ (a : Option Addr) (m c : Nat), e = .returned (.agg #[.int .i64 (n : Int), .slice a m c])) ∧ Grow u w') :=
      Lib.hid (fun hf u hu => fromQ n (by omega) (by omega) (by rw [← hn]; exact gm_of_fd hd0 hd60 hf) w.heap.size u (fun x v h0 h1 hv => quad1Q d x w.heap.size hd60 h0 h1 v (HT2.out.grow (hu.trans hv)) ((K1.out v (hu.trans hv)).2.2) ((K1.out v (hu.trans hv)).1)))
    have hmf : ∀ (fn : Fn) (first cap : Array Value) (w : World), (Instr.makeFunc fn first cap).run Tryz.prog w = .ok (.func fn first cap) w := fun _ _ _ _ => rfl
    clear hok hd0 hd60 hn hm1 hm2
    go_enter Tryz.func32, Tryz.ntmps32
    go_upto_region 1 with fail
    rw [← HW1.out, ← HW2.out]
    try rw [HZ1.out]
    go_upto_region 4 with (go_at_call 53; (with_reducible refine (FU.out _).mono ?_); (rintro e u3 ⟨⟨q, f, z, rfl, hfz, hfb⟩, hb3⟩; have HFZ := Lib.hid hfz; have HG3 := Lib.hid hb3; clear hfz hfb hb3))
    clear x1 x2 x3 f0 f1 f2 g0 g1 g2 g3
    obtain ⟨f0, f1, f2⟩ := K1.out u3 HG3.out
    obtain ⟨g0, g1, g2, g3⟩ := K2.out u3 HG3.out
    by_cases hzf : z = 0 ∧ f = 1
    · obtain ⟨rfl, rfl⟩ := hzf
      have hfd : fdB d = true := HFZ.out.1 ⟨rfl, rfl⟩
      have FM2 := Lib.hid (FM.out hfd u3 HG3.out)
      have HQ : Hid (QdOK d) := Lib.hid (HOK.out.2 hfd)
      obtain ⟨en, en'⟩ := EN.out
      have m1 := M1.out
      have m2 := M2.out
      clear hfd
      go_wp2_with (go_at_call 54; (with_reducible refine FM2.out.mono ?_); (rintro e u5 ⟨⟨a, m, c, rfl⟩, hb5⟩; have HG5 := Lib.hid (HG3.out.trans hb5); clear hb5 g0 g1 g2 g3; obtain ⟨g0, g1, g2, g3⟩ := K2.out u5 HG5.out))
      refine bodyPost_ret (v := .tuple #[.agg #[.int .i64 (n : Int), .slice a m c], .int .i64 0]) (by rw [results_cell_tmp rfl]; go_simp) rfl ?_
      exact ⟨⟨_, a, m, c, 0, rfl, fun _ => HQ.out, fun _ => rfl⟩, ((HG2.out.trans HG5.out).setCell (Nat.le_succ _) _).setCell (Nat.le_succ _) _⟩
    · have hnq : ¬ QdOK d := fun h => hzf (HFZ.out.2 (HOK.out.1 h))
      have HNQ := Lib.hid hnq
      have hc : (z != 0) = true ∨ ((z != 0) = false ∧ (f != 1) = true) := by simp; omega
      have HC := Lib.hid hc
      clear hnq hzf hc
      rcases HC.out with h5 | ⟨h5, h6⟩
      all_goals
        go_wp2_with fail
        refine bodyPost_ret (v := .tuple #[.agg #[.int .i64 0, .slice none 0 0], .int .i64 15]) (by rw [results_cell_tmp rfl]; go_simp) rfl ?_
        exact ⟨⟨0, none, 0, 0, 15, rfl, fun h => (by omega), fun h => absurd h HNQ.out⟩, ((HG2.out.trans HG3.out).setCell (Nat.le_succ _) _).setCell (Nat.le_succ _) _⟩
  · have hnq : ¬ QdOK d := fun h => hr ⟨h.1, h.2.1⟩
    have HNQ := Lib.hid hnq
    have hc : (d == 0) = true ∨ ((d == 0) = false ∧ decide (d < -60) = true) ∨ ((d == 0) = false ∧ decide (d < -60) = false ∧ decide (d > 60) = true) := by simp; omega
    have HC := Lib.hid hc
    clear hnq hr hc
    rcases HC.out with h5 | ⟨h5, h6⟩ | ⟨h5, h6, h7⟩
    all_goals
      go_enter Tryz.func32, Tryz.ntmps32
      go_upto_region 1 with fail
      rw [← HW1.out, ← HW2.out]
      try rw [HZ1.out]
      go_wp2_with fail
      refine bodyPost_ret (v := .tuple #[.agg #[.int .i64 0, .slice none 0 0], .int .i64 2]) (by rw [results_cell_tmp rfl]; go_simp) rfl ?_
      exact ⟨⟨0, none, 0, 0, 2, rfl, fun h => (by omega), fun h => absurd h HNQ.out⟩, (HG2.out.setCell (Nat.le_succ _) _).setCell (Nat.le_succ _) _⟩
end Go.Proofs.YtbpkfcohbefphaaGreatDoor
