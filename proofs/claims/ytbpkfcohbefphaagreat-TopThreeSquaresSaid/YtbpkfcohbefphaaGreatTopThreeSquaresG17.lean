/- Lemmas, plain laws and walks that the statement LwThreeSquares leans on (texts BiS, BiT, RwV), conditions as each theorem says. -/
import Derived.Test.YtbpkfcohbefphaaGreatTopThreeSquaresG05
import Derived.Test.YtbpkfcohbefphaaGreatTopThreeSquaresG08
import Derived.Test.YtbpkfcohbefphaaGreatTopThreeSquaresG13
import Derived.Test.YtbpkfcohbefphaaGreatTopThreeSquaresG14
import Derived.Test.YtbpkfcohbefphaaGreatTopThreeSquaresG15
import Derived.Test.YtbpkfcohbefphaaGreatTopThreeSquaresG16

/- Walks over integers: Small; the number of binary digits, by the library's Len32, Len64, Len. -/
namespace Go.Proofs.YtbpkfcohbefphaaGreat
open Go Go.RowKit

theorem len32Q (x : Nat) (h : x < 4294967296) (w : World) : Calls Tryz.prog 127 #[.int .u32 (x : Int)] w fun e w' => e = .returned (.int .i64 (Lib.bitLen x : Nat)) ∧ w = w' :=
  (len32_int (x : Int) w (by omega) (by omega)).mono fun e w' ⟨h1, h2⟩ => ⟨by rw [h1, Int.toNat_natCast], h2.symm⟩
set_option maxHeartbeats 1000000 in
theorem bitsV (z : Int) (v : Value) (w : World) (h : IntR w v z) : Calls Tryz.prog 115 #[v] w fun e w' => e = .returned (.int .i64 (Lib.bitLen z.natAbs : Nat)) ∧ Grow w w' := by
  obtain ⟨m, rfl, h⟩ := h
  have hlt := h.lt
  obtain ⟨n, hn⟩ : ∃ n : Nat, z.natAbs = n := ⟨_, rfl⟩
  rw [hn] at h hlt ⊢
  generalize sgB z = s
  have TR := Lib.hid (fun (u : World) (hu : Grow w u) => trimmed_mag m n u (h.grow hu))
  rcases h with ⟨h0, a, cap, rfl⟩ | ⟨h0, h1, b, off, cap, rfl, hk, hb, hc⟩
  · subst h0
    have e : Lib.bitLen 0 = 0 := rfl
    rw [e]
    clear hn
    go_enter Tryz.func115, Tryz.ntmps115
    go_wp2_with (go_at_call 78; (with_reducible refine (TR.out _ (by (repeat (first | with_reducible exact Grow.refl _ | with_reducible refine Grow.alloc ?_ _ | with_reducible refine Grow.drew ?_ | with_reducible refine Grow.drewN ?_ _ | (with_reducible refine Grow.setCell ?_ ?hp _; (case hp => (simp; try omega))) | with_reducible refine Grow.trans ?_ (by assumption))))).mono ?_); (rintro e u1 ⟨rfl, rfl⟩))
    go_ret
    exact ⟨rfl, by (repeat (first | with_reducible exact Grow.refl _ | with_reducible refine Grow.alloc ?_ _ | with_reducible refine Grow.drew ?_ | with_reducible refine Grow.drewN ?_ _ | (with_reducible refine Grow.setCell ?_ ?hp _; (case hp => (simp; try omega))) | with_reducible refine Grow.trans ?_ (by assumption)))⟩
  · have LN := Lib.hid (fun u => len32Q n hlt u)
    obtain ⟨k, hk2⟩ : ∃ k, Lib.bitLen n = k := ⟨_, rfl⟩
    have hkb : k ≤ 32 := by rw [← hk2]; exact Lib.bitLen_le n 32 (by omega) hlt
    rw [hk2] at LN ⊢
    have y1 : IntKind.i64.wrap (0 + (k : Int)) = (k : Int) := by rw [Int.zero_add]; exact IntWalk.i64_in _ (by omega)
    have y2 : IntKind.i64.wrap (k : Int) = (k : Int) := IntWalk.i64_in _ (by omega)
    have y3 : wrap64 (k : Int) = (k : Int) := by unfold wrap64; omega
    clear hn hk2
    go_enter Tryz.func115, Tryz.ntmps115
    go_wp2_with (first
      | (go_at_call 78; (with_reducible refine (TR.out _ (by (repeat (first | with_reducible exact Grow.refl _ | with_reducible refine Grow.alloc ?_ _ | with_reducible refine Grow.drew ?_ | with_reducible refine Grow.drewN ?_ _ | (with_reducible refine Grow.setCell ?_ ?hp _; (case hp => (simp; try omega))) | with_reducible refine Grow.trans ?_ (by assumption))))).mono ?_); (rintro e u1 ⟨rfl, rfl⟩))
      | (go_at_call 127; (with_reducible refine (LN.out _).mono ?_); (rintro e u2 ⟨rfl, rfl⟩)))
    go_ret
    exact ⟨by simp, by (repeat (first | with_reducible exact Grow.refl _ | with_reducible refine Grow.alloc ?_ _ | with_reducible refine Grow.drew ?_ | with_reducible refine Grow.drewN ?_ _ | (with_reducible refine Grow.setCell ?_ ?hp _; (case hp => (simp; try omega))) | with_reducible refine Grow.trans ?_ (by assumption)))⟩
theorem results_pair {fn : Func} {p q : Tmp} (h : fn.results = #[.tmp p, .tmp q]) (tmps : Array Value) (P : Program) (w : World) :
    (results fn tmps).run P w = .ok (.tuple #[tmps.getD p undef, tmps.getD q undef]) w := by
  simp [results, h]
set_option maxHeartbeats 1000000 in
theorem smallV (z : Int) (v : Value) (w : World) (h : IntR w v z) : Calls Tryz.prog 53 #[v] w fun e w' => e = .returned (.tuple #[.int .i64 z, .bool true]) ∧ Grow w w' := by
  obtain ⟨m, rfl, h⟩ := h
  have hlt := h.lt
  obtain ⟨n, hn⟩ : ∃ n : Nat, z.natAbs = n := ⟨_, rfl⟩
  rw [hn] at h hlt
  have TR := Lib.hid (fun (u : World) (hu : Grow w u) => trimmed_mag m n u (h.grow hu))
  have WR := Lib.hid (fun (u : World) (hu : Grow w u) => word_any m n u (h.grow hu))
  obtain ⟨a, cap, rfl⟩ := h.form
  obtain ⟨l, hl⟩ : ∃ l, (if n = 0 then 0 else 1) = l := ⟨_, rfl⟩
  have hl2 : l ≤ 1 := by rw [← hl]; split <;> omega
  rw [hl] at TR WR ⊢
  have e0 : decide ((l : Int) > 2) = false := by simp; omega
  have e1 : decide ((n : Int) > 9223372036854775808) = false := by simp; omega
  have e2 : ((n : Int) == 9223372036854775808) = false := by simp; omega
  clear hl h
  by_cases hz : z < 0
  · have hs : sgB z = true := by simp [sgB, hz]
    rw [hs]
    have hzn : z = -(n : Int) := by omega
    obtain ⟨W, hW⟩ : ∃ W, (18446744073709551616 : Int) - (n : Int) = W := ⟨_, rfl⟩
    have y1 : IntKind.u64.wrap (-(n : Int)) = W := by rw [← hW]; simp [IntKind.wrap, IntKind.bits, IntKind.signed]; omega
    have y2 : IntKind.i64.wrap W = z := by rw [← hW, hzn]; simp [IntKind.wrap, IntKind.bits, IntKind.signed]; omega
    have y3 : wrap64 W = z := by rw [← hW, hzn]; unfold wrap64; omega
    clear hn hzn hs hW hz
    go_enter Tryz.func53, Tryz.ntmps53
    go_wp2_with (first
      | (go_at_call 78; (with_reducible refine (TR.out _ (by (repeat (first | with_reducible exact Grow.refl _ | with_reducible refine Grow.alloc ?_ _ | with_reducible refine Grow.drew ?_ | with_reducible refine Grow.drewN ?_ _ | (with_reducible refine Grow.setCell ?_ ?hp _; (case hp => (simp; try omega))) | with_reducible refine Grow.trans ?_ (by assumption))))).mono ?_); (rintro e u1 ⟨rfl, rfl⟩))
      | (go_at_call 88; (with_reducible refine (WR.out _ (by (repeat (first | with_reducible exact Grow.refl _ | with_reducible refine Grow.alloc ?_ _ | with_reducible refine Grow.drew ?_ | with_reducible refine Grow.drewN ?_ _ | (with_reducible refine Grow.setCell ?_ ?hp _; (case hp => (simp; try omega))) | with_reducible refine Grow.trans ?_ (by assumption))))).mono ?_); (rintro e u2 ⟨rfl, rfl⟩)))
    exact bodyPost_ret (v := .tuple #[.int .i64 z, .bool true]) (by rw [results_pair rfl]; rfl) rfl ⟨rfl, by (repeat (first | with_reducible exact Grow.refl _ | with_reducible refine Grow.alloc ?_ _ | with_reducible refine Grow.drew ?_ | with_reducible refine Grow.drewN ?_ _ | (with_reducible refine Grow.setCell ?_ ?hp _; (case hp => (simp; try omega))) | with_reducible refine Grow.trans ?_ (by assumption)))⟩
  · have hs : sgB z = false := by simp [sgB, hz]
    rw [hs]
    have hzn : (n : Int) = z := by omega
    have y2 : IntKind.i64.wrap (n : Int) = z := by rw [hzn]; exact IntWalk.i64_in _ (by omega)
    have y3 : wrap64 (n : Int) = z := by unfold wrap64; omega
    clear hn hzn hs hz
    go_enter Tryz.func53, Tryz.ntmps53
    go_wp2_with (first
      | (go_at_call 78; (with_reducible refine (TR.out _ (by (repeat (first | with_reducible exact Grow.refl _ | with_reducible refine Grow.alloc ?_ _ | with_reducible refine Grow.drew ?_ | with_reducible refine Grow.drewN ?_ _ | (with_reducible refine Grow.setCell ?_ ?hp _; (case hp => (simp; try omega))) | with_reducible refine Grow.trans ?_ (by assumption))))).mono ?_); (rintro e u1 ⟨rfl, rfl⟩))
      | (go_at_call 88; (with_reducible refine (WR.out _ (by (repeat (first | with_reducible exact Grow.refl _ | with_reducible refine Grow.alloc ?_ _ | with_reducible refine Grow.drew ?_ | with_reducible refine Grow.drewN ?_ _ | (with_reducible refine Grow.setCell ?_ ?hp _; (case hp => (simp; try omega))) | with_reducible refine Grow.trans ?_ (by assumption))))).mono ?_); (rintro e u2 ⟨rfl, rfl⟩)))
    exact bodyPost_ret (v := .tuple #[.int .i64 z, .bool true]) (by rw [results_pair rfl]; rfl) rfl ⟨rfl, by (repeat (first | with_reducible exact Grow.refl _ | with_reducible refine Grow.alloc ?_ _ | with_reducible refine Grow.drew ?_ | with_reducible refine Grow.drewN ?_ _ | (with_reducible refine Grow.setCell ?_ ?hp _; (case hp => (simp; try omega))) | with_reducible refine Grow.trans ?_ (by assumption)))⟩
end Go.Proofs.YtbpkfcohbefphaaGreat
/- Walks over integers: Cmp of naturals; powers of 2. -/
namespace Go.Proofs.YtbpkfcohbefphaaGreat
open Go Go.RowKit

theorem sgI_nat (n : Nat) : sgI (n : Int) = if n = 0 then 0 else 1 := by
  unfold sgI
  by_cases h : n = 0
  · subst h; rfl
  · rw [if_neg (by omega), if_pos (by omega), if_neg h]
theorem int_cells {w : World} {B : Nat} {z : Int} (h : BxV w B z) : ∃ s a l c, (∀ u, Grow w u → u.cell? ⟨B, 0, none⟩ = some (.bool s) ∧ u.cell? ⟨B, 1, none⟩ = some (.slice a l c) ∧ (∀ o, u.frozen? ⟨B, o, none⟩ = false) ∧ B < u.heap.size) ∧ IntR w (.agg #[.bool s, .slice a l c]) z := by
  obtain ⟨h1, h2, h3, a, l, c, h4, h5, h6⟩ := h
  exact ⟨sgB z, a, l, c, fun u hg => ⟨(hg.cells _ _ h1).trans h4, (hg.cells _ _ h1).trans h5, fun o => (hg.frees _ _ h1).trans (h3 o), Nat.lt_of_lt_of_le h1 hg.size⟩, ⟨_, rfl, h6⟩⟩
theorem IntR.eqs {u : World} {s : Bool} {m : Value} {z : Int} (h : IntR u (.agg #[.bool s, m]) z) : s = sgB z ∧ MagR u m z.natAbs := by
  obtain ⟨p, hv, h1⟩ := h
  simp only [Value.agg.injEq, Array.mk.injEq, List.cons.injEq, Value.bool.injEq, and_true] at hv
  obtain ⟨e1, rfl⟩ := hv
  exact ⟨e1, h1⟩
theorem BxV.putI {u : World} {b : Nat} {z0 z : Int} {s : Bool} {a : Option Addr} {l c : Nat} (h : BxV u b z0) (hm : IntR u (.agg #[.bool s, .slice a l c]) z) : BxV ((u.setCell ⟨b, 0, none⟩ (.bool s)).setCell ⟨b, 1, none⟩ (.slice a l c)) b z := by
  obtain ⟨e, h1⟩ := hm.eqs
  rw [e]; exact h.put h1
theorem BxV.offI {u : World} {b B : Nat} {z : Int} (s : Bool) (m : Value) (h : BxV u b z) (hB : NoU u B) (hne : B ≠ b) : BxV ((u.setCell ⟨B, 0, none⟩ (.bool s)).setCell ⟨B, 1, none⟩ m) b z := h.off s m hB hne
theorem BxV.layI {u : World} {z : Int} {s : Bool} {a : Option Addr} {l c : Nat} (hm : IntR u (.agg #[.bool s, .slice a l c]) z) (t : TypeId) : BxV (u.alloc (.cells #[.bool s, .slice a l c] t)) u.heap.size z := by
  obtain ⟨e, h1⟩ := hm.eqs
  rw [e]; exact BxV.lay h1 t
theorem BxV.zero (u : World) (t : TypeId) : BxV (u.alloc (.cells #[.bool false, .slice none 0 0] t)) u.heap.size 0 := by
  have h := BxV.lay (w := u) (z := 0) (a := none) (l := 0) (c := 0) (.inl ⟨rfl, none, 0, rfl⟩) t
  exact h
theorem w64i {x : Int} (h : x.natAbs ≤ 1) : IntKind.i64.wrap (1 * x) = x := by rw [Int.one_mul]; exact IntWalk.i64_in _ (by omega)
set_option maxRecDepth 20000 in
set_option maxHeartbeats 8000000 in
theorem cmpNV (y z : Nat) (u1 u2 : Value) (w : World) (h1 : IntR w u1 y) (h2 : IntR w u2 z) : Calls Tryz.prog 116 #[u1, u2] w fun e w' => e = .returned (.int .i64 (cmpN y z)) ∧ Grow w w' := by
  obtain ⟨s1, a1, l1, c1, rfl⟩ := h1.form
  obtain ⟨s2, a2, l2, c2, rfl⟩ := h2.form
  have S1 := Lib.hid (fun (u : World) (hu : Grow w u) => signV y _ u (h1.grow hu))
  have S2 := Lib.hid (fun (u : World) (hu : Grow w u) => signV z _ u (h2.grow hu))
  rw [sgI_nat] at S1 S2
  have T1 := Lib.hid (fun (u : World) (hu : Grow w u) => trimmed_mag _ y u (by have := h1.eqs.2; simpa using this.grow hu))
  have T2 := Lib.hid (fun (u : World) (hu : Grow w u) => trimmed_mag _ z u (by have := h2.eqs.2; simpa using this.grow hu))
  have CM := Lib.hid (fun (u : World) (hu : Grow w u) => compare_any _ _ y z u (by have := h1.eqs.2; simpa using this.grow hu) (by have := h2.eqs.2; simpa using this.grow hu))
  obtain ⟨W1, hW1⟩ : ∃ W1 : World, W1 = w.alloc (.cells #[.bool s1, .slice a1 l1 c1] 34) := ⟨_, rfl⟩
  obtain ⟨W2, hW2⟩ : ∃ W2 : World, W2 = W1.alloc (.cells #[.bool s2, .slice a2 l2 c2] 34) := ⟨_, rfl⟩
  have hg2 : Grow w W2 := (ag hW1).trans (ag hW2)
  have K1 := Lib.hid (fun u (hu : Grow W2 u) => ak2 hW1 u ((ag hW2).trans hu))
  have K2 := Lib.hid (ak2 hW2)
  have hz1 : W1.heap.size = w.heap.size + 1 := by rw [hW1]; simp
  rw [hz1] at K2
  have HW1 := Lib.hid hW1
  have HW2 := Lib.hid hW2
  have G2 := Lib.hid hg2
  clear h1 h2 hW1 hW2 hz1
  obtain ⟨x, hx⟩ : ∃ x, cmpN y z = x := ⟨_, rfl⟩
  have HX := Lib.hid hx
  rw [hx] at CM ⊢
  clear hx
  obtain ⟨sy, hsy⟩ : ∃ sy : Int, (if y = 0 then (0 : Int) else 1) = sy := ⟨_, rfl⟩
  obtain ⟨sz, hsz⟩ : ∃ sz : Int, (if z = 0 then (0 : Int) else 1) = sz := ⟨_, rfl⟩
  rw [hsy] at S1
  rw [hsz] at S2
  by_cases hs : sy = sz
  · subst hs
    have y1 : IntKind.i64.wrap (sy * x) = x := by
      by_cases hy : y = 0
      · by_cases hz : z = 0
        · have hx : x = 0 := by rw [← HX.out, hy, hz]; rfl
          rw [hx, Int.mul_zero]; rfl
        · rw [← hsy, if_pos hy, if_neg hz] at hsz; omega
      · have hxb : x.natAbs ≤ 1 := by rw [← HX.out]; unfold cmpN; split <;> (try split) <;> omega
        rw [← hsy, if_neg hy]; exact w64i hxb
    have y2 : wrap64 (sy * x) = x := by rw [← wrap64_eq]; exact y1
    clear hsy hsz HX
    go_enter Tryz.func116, Tryz.ntmps116
    go_upto_region 1 with fail
    rw [← HW1.out, ← HW2.out]
    refine region_held (id := 1) (fun u => Grow W2 u) [0, 2, 1, 3, 4, 5] (kdL [1, 2, 1, 2, 0, 0]) (by kernel_rfl) (by kernel_rfl) (fun t ht => kdL_lt _ t ht) ?hS0p ?_
    case hS0p => ((try dsimp only); (repeat (first | with_reducible exact Grow.refl _ | with_reducible refine Grow.alloc ?_ _ | with_reducible refine Grow.drew ?_ | with_reducible refine Grow.drewN ?_ _ | (with_reducible refine Grow.setCell ?_ ?hp _; (case hp => (simp; try omega))) | with_reducible refine Grow.trans ?_ (by assumption))))
    refine held_read (v := ?vp0) rfl rfl (Or.inl ⟨by rfl, ?hyp0⟩) ?_
    case hyp0 => (intro u hu; obtain ⟨f0, f1, f2, f3⟩ := K1.out u (by (repeat (first | with_reducible exact Grow.refl _ | with_reducible refine Grow.alloc ?_ _ | with_reducible refine Grow.drew ?_ | with_reducible refine Grow.drewN ?_ _ | (with_reducible refine Grow.setCell ?_ ?hp _; (case hp => (simp; try omega))) | with_reducible refine Grow.trans ?_ (by assumption)))); obtain ⟨g0, g1, g2, g3⟩ := K2.out u (by (repeat (first | with_reducible exact Grow.refl _ | with_reducible refine Grow.alloc ?_ _ | with_reducible refine Grow.drew ?_ | with_reducible refine Grow.drewN ?_ _ | (with_reducible refine Grow.setCell ?_ ?hp _; (case hp => (simp; try omega))) | with_reducible refine Grow.trans ?_ (by assumption)))); go_simp; (try with_reducible rfl))
    (try simp only [Act.put, List.setIfInBounds_toArray])
    refine held_read (v := ?vp2) rfl rfl (Or.inl ⟨by rfl, ?hyp2⟩) ?_
    case hyp2 => (intro u hu; obtain ⟨f0, f1, f2, f3⟩ := K1.out u (by (repeat (first | with_reducible exact Grow.refl _ | with_reducible refine Grow.alloc ?_ _ | with_reducible refine Grow.drew ?_ | with_reducible refine Grow.drewN ?_ _ | (with_reducible refine Grow.setCell ?_ ?hp _; (case hp => (simp; try omega))) | with_reducible refine Grow.trans ?_ (by assumption)))); obtain ⟨g0, g1, g2, g3⟩ := K2.out u (by (repeat (first | with_reducible exact Grow.refl _ | with_reducible refine Grow.alloc ?_ _ | with_reducible refine Grow.drew ?_ | with_reducible refine Grow.drewN ?_ _ | (with_reducible refine Grow.setCell ?_ ?hp _; (case hp => (simp; try omega))) | with_reducible refine Grow.trans ?_ (by assumption)))); go_simp; (try with_reducible rfl))
    (try simp only [Act.put])
    refine held_op rfl rfl (fun K hK => ?_)
    go_simp
    (go_at_call 56; (with_reducible refine (S1.out _ (G2.out.trans (by (repeat (first | with_reducible exact Grow.refl _ | with_reducible refine Grow.alloc ?_ _ | with_reducible refine Grow.drew ?_ | with_reducible refine Grow.drewN ?_ _ | (with_reducible refine Grow.setCell ?_ ?hp _; (case hp => (simp; try omega))) | with_reducible refine Grow.trans ?_ (by assumption)))))).mono ?_); (rintro e u7 ⟨rfl, hb7⟩))
    (try go_wp2_with fail)
    refine hK.out _ _ ?hSp1 ?_
    case hSp1 => ((try dsimp only); (repeat (first | with_reducible exact Grow.refl _ | with_reducible refine Grow.alloc ?_ _ | with_reducible refine Grow.drew ?_ | with_reducible refine Grow.drewN ?_ _ | (with_reducible refine Grow.setCell ?_ ?hp _; (case hp => (simp; try omega))) | with_reducible refine Grow.trans ?_ (by assumption))))
    clear hK K
    (try simp only [Act.put])
    refine held_op rfl rfl (fun K hK => ?_)
    go_simp
    (go_at_call 56; (with_reducible refine (S2.out _ (G2.out.trans (by (repeat (first | with_reducible exact Grow.refl _ | with_reducible refine Grow.alloc ?_ _ | with_reducible refine Grow.drew ?_ | with_reducible refine Grow.drewN ?_ _ | (with_reducible refine Grow.setCell ?_ ?hp _; (case hp => (simp; try omega))) | with_reducible refine Grow.trans ?_ (by assumption)))))).mono ?_); (rintro e u8 ⟨rfl, hb8⟩))
    (try go_wp2_with fail)
    refine hK.out _ _ ?hSp3 ?_
    case hSp3 => ((try dsimp only); (repeat (first | with_reducible exact Grow.refl _ | with_reducible refine Grow.alloc ?_ _ | with_reducible refine Grow.drew ?_ | with_reducible refine Grow.drewN ?_ _ | (with_reducible refine Grow.setCell ?_ ?hp _; (case hp => (simp; try omega))) | with_reducible refine Grow.trans ?_ (by assumption))))
    clear hK K
    (try simp only [Act.put])
    refine held_quiet (v := .int .i64 sy) rfl rfl (Or.inl ⟨by rfl, ?hyp4⟩) ?_
    case hyp4 => (intro u hu; go_simp; (try with_reducible rfl))
    (try simp only [Act.put])
    refine held_quiet (v := .int .i64 sy) rfl rfl (Or.inl ⟨by rfl, ?hyp5⟩) ?_
    case hyp5 => (intro u hu; go_simp; (try with_reducible rfl))
    (try simp only [Act.put])
    refine held_done ?_
    have HG8 : Hid (Grow W2 u8) := Lib.hid (by (repeat (first | with_reducible exact Grow.refl _ | with_reducible refine Grow.alloc ?_ _ | with_reducible refine Grow.drew ?_ | with_reducible refine Grow.drewN ?_ _ | (with_reducible refine Grow.setCell ?_ ?hp _; (case hp => (simp; try omega))) | with_reducible refine Grow.trans ?_ (by assumption))))
    clear S1 S2
    go_upto_region 4 with fail
    refine region_held (id := 4) (fun u => Grow W2 u) [0, 1, 2, 4, 5, 3, 6, 7, 8, 9] (kdL [0, 0, 1, 2, 0, 1, 2, 2, 0, 0]) (by kernel_rfl) (by kernel_rfl) (fun t ht => kdL_lt _ t ht) ?hS0q ?_
    case hS0q => ((try dsimp only); (repeat (first | with_reducible exact Grow.refl _ | with_reducible refine Grow.alloc ?_ _ | with_reducible refine Grow.drew ?_ | with_reducible refine Grow.drewN ?_ _ | (with_reducible refine Grow.setCell ?_ ?hp _; (case hp => (simp; try omega))) | with_reducible refine Grow.trans ?_ (by assumption))))
    refine held_quiet (v := ?vq0) rfl rfl (Or.inl ⟨by rfl, ?hyq0⟩) ?_
    case hyq0 => (intro u hu; go_simp; (try with_reducible rfl))
    (try simp only [Act.put, List.setIfInBounds_toArray])
    refine held_quiet (v := ?vq1) rfl rfl (Or.inl ⟨by rfl, ?hyq1⟩) ?_
    case hyq1 => (intro u hu; go_simp; (try with_reducible rfl))
    (try simp only [Act.put])
    refine held_read (v := ?vq2) rfl rfl (Or.inl ⟨by rfl, ?hyq2⟩) ?_
    case hyq2 => (intro u hu; obtain ⟨f0, f1, f2, f3⟩ := K1.out u (by (repeat (first | with_reducible exact Grow.refl _ | with_reducible refine Grow.alloc ?_ _ | with_reducible refine Grow.drew ?_ | with_reducible refine Grow.drewN ?_ _ | (with_reducible refine Grow.setCell ?_ ?hp _; (case hp => (simp; try omega))) | with_reducible refine Grow.trans ?_ (by assumption)))); obtain ⟨g0, g1, g2, g3⟩ := K2.out u (by (repeat (first | with_reducible exact Grow.refl _ | with_reducible refine Grow.alloc ?_ _ | with_reducible refine Grow.drew ?_ | with_reducible refine Grow.drewN ?_ _ | (with_reducible refine Grow.setCell ?_ ?hp _; (case hp => (simp; try omega))) | with_reducible refine Grow.trans ?_ (by assumption)))); go_simp; (try with_reducible rfl))
    (try simp only [Act.put])
    refine held_quiet (v := ?vq4) rfl rfl (Or.inl ⟨by rfl, ?hyq4⟩) ?_
    case hyq4 => (intro u hu; go_simp; (try with_reducible rfl))
    (try simp only [Act.put])
    refine held_read (v := ?vq5) rfl rfl (Or.inl ⟨by rfl, ?hyq5⟩) ?_
    case hyq5 => (intro u hu; obtain ⟨f0, f1, f2, f3⟩ := K1.out u (by (repeat (first | with_reducible exact Grow.refl _ | with_reducible refine Grow.alloc ?_ _ | with_reducible refine Grow.drew ?_ | with_reducible refine Grow.drewN ?_ _ | (with_reducible refine Grow.setCell ?_ ?hp _; (case hp => (simp; try omega))) | with_reducible refine Grow.trans ?_ (by assumption)))); obtain ⟨g0, g1, g2, g3⟩ := K2.out u (by (repeat (first | with_reducible exact Grow.refl _ | with_reducible refine Grow.alloc ?_ _ | with_reducible refine Grow.drew ?_ | with_reducible refine Grow.drewN ?_ _ | (with_reducible refine Grow.setCell ?_ ?hp _; (case hp => (simp; try omega))) | with_reducible refine Grow.trans ?_ (by assumption)))); go_simp; (try with_reducible rfl))
    (try simp only [Act.put])
    refine held_op rfl rfl (fun K hK => ?_)
    go_simp
    (go_at_call 78; (with_reducible refine (T1.out _ (G2.out.trans (by (repeat (first | with_reducible exact Grow.refl _ | with_reducible refine Grow.alloc ?_ _ | with_reducible refine Grow.drew ?_ | with_reducible refine Grow.drewN ?_ _ | (with_reducible refine Grow.setCell ?_ ?hp _; (case hp => (simp; try omega))) | with_reducible refine Grow.trans ?_ (by assumption)))))).mono ?_); (rintro e u9 ⟨rfl, rfl⟩))
    (try go_wp2_with fail)
    refine hK.out _ _ ?hSq3 ?_
    case hSq3 => ((try dsimp only); (repeat (first | with_reducible exact Grow.refl _ | with_reducible refine Grow.alloc ?_ _ | with_reducible refine Grow.drew ?_ | with_reducible refine Grow.drewN ?_ _ | (with_reducible refine Grow.setCell ?_ ?hp _; (case hp => (simp; try omega))) | with_reducible refine Grow.trans ?_ (by assumption))))
    clear hK K
    (try simp only [Act.put])
    refine held_op rfl rfl (fun K hK => ?_)
    go_simp
    (go_at_call 78; (with_reducible refine (T2.out _ (G2.out.trans (by (repeat (first | with_reducible exact Grow.refl _ | with_reducible refine Grow.alloc ?_ _ | with_reducible refine Grow.drew ?_ | with_reducible refine Grow.drewN ?_ _ | (with_reducible refine Grow.setCell ?_ ?hp _; (case hp => (simp; try omega))) | with_reducible refine Grow.trans ?_ (by assumption)))))).mono ?_); (rintro e u10 ⟨rfl, rfl⟩))
    (try go_wp2_with fail)
    refine hK.out _ _ ?hSq6 ?_
    case hSq6 => ((try dsimp only); (repeat (first | with_reducible exact Grow.refl _ | with_reducible refine Grow.alloc ?_ _ | with_reducible refine Grow.drew ?_ | with_reducible refine Grow.drewN ?_ _ | (with_reducible refine Grow.setCell ?_ ?hp _; (case hp => (simp; try omega))) | with_reducible refine Grow.trans ?_ (by assumption))))
    clear hK K
    (try simp only [Act.put])
    refine held_op rfl rfl (fun K hK => ?_)
    go_simp
    (go_at_call 109; (with_reducible refine (CM.out _ (G2.out.trans (by (repeat (first | with_reducible exact Grow.refl _ | with_reducible refine Grow.alloc ?_ _ | with_reducible refine Grow.drew ?_ | with_reducible refine Grow.drewN ?_ _ | (with_reducible refine Grow.setCell ?_ ?hp _; (case hp => (simp; try omega))) | with_reducible refine Grow.trans ?_ (by assumption)))))).mono ?_); (rintro e u11 ⟨rfl, hb11⟩))
    (try go_wp2_with fail)
    refine hK.out _ _ ?hSq7 ?_
    case hSq7 => ((try dsimp only); (repeat (first | with_reducible exact Grow.refl _ | with_reducible refine Grow.alloc ?_ _ | with_reducible refine Grow.drew ?_ | with_reducible refine Grow.drewN ?_ _ | (with_reducible refine Grow.setCell ?_ ?hp _; (case hp => (simp; try omega))) | with_reducible refine Grow.trans ?_ (by assumption))))
    clear hK K
    (try simp only [Act.put])
    refine held_quiet (v := ?vq8) rfl rfl (Or.inl ⟨by rfl, ?hyq8⟩) ?_
    case hyq8 => (intro u hu; go_simp; (try with_reducible rfl))
    (try simp only [Act.put])
    refine held_quiet (v := ?vq9) rfl rfl (Or.inl ⟨by rfl, ?hyq9⟩) ?_
    case hyq9 => (intro u hu; go_simp; (try with_reducible rfl))
    (try simp only [Act.put])
    refine held_done ?_
    go_wp2_with fail
    go_ret
    exact ⟨rfl, by have h9 := hg2; (repeat (first | with_reducible exact Grow.refl _ | with_reducible refine Grow.alloc ?_ _ | with_reducible refine Grow.drew ?_ | with_reducible refine Grow.drewN ?_ _ | (with_reducible refine Grow.setCell ?_ ?hp _; (case hp => (simp; try omega))) | with_reducible refine Grow.trans ?_ (by assumption)))⟩
  · have y0 : (sy != sz) = true := by simpa using hs
    have hd : (y = 0 ∧ sy = 0 ∧ sz = 1 ∧ x = -1) ∨ (sy = 1 ∧ sz = 0 ∧ x = 1) := by
      by_cases hy : y = 0
      · left
        by_cases hz : z = 0
        · rw [if_pos hy] at hsy; rw [if_pos hz] at hsz; omega
        · rw [if_pos hy] at hsy; rw [if_neg hz] at hsz
          refine ⟨hy, hsy.symm, hsz.symm, ?_⟩
          rw [← HX.out, hy]; unfold cmpN; rw [if_pos (by omega)]
      · right
        by_cases hz : z = 0
        · rw [if_neg hy] at hsy; rw [if_pos hz] at hsz
          refine ⟨hsy.symm, hsz.symm, ?_⟩
          rw [← HX.out, hz]; unfold cmpN; rw [if_neg (by omega), if_pos (by omega)]
        · rw [if_neg hy] at hsy; rw [if_neg hz] at hsz; omega
    have SG := Lib.hid (fun u => sign_any x u)
    have hsx : (if x < 0 then (-1 : Int) else if 0 < x then 1 else 0) = x := by rcases hd with ⟨-, -, -, h⟩ | ⟨-, -, h⟩ <;> subst h <;> decide
    rw [hsx] at SG
    have y1 : IntKind.i64.wrap (sy - sz) = x := by
      have : sy - sz = x := by rcases hd with ⟨-, h1, h2, h3⟩ | ⟨h1, h2, h3⟩ <;> omega
      rw [this]; exact IntWalk.i64_in _ (by rcases hd with ⟨-, h1, h2, h3⟩ | ⟨h1, h2, h3⟩ <;> omega)
    have y2 : wrap64 (sy - sz) = x := by rw [← wrap64_eq]; exact y1
    clear hsy hsz HX hd hsx CM T1 T2
    go_enter Tryz.func116, Tryz.ntmps116
    go_upto_region 1 with fail
    rw [← HW1.out, ← HW2.out]
    refine region_held (id := 1) (fun u => Grow W2 u) [0, 2, 1, 3, 4, 5] (kdL [1, 2, 1, 2, 0, 0]) (by kernel_rfl) (by kernel_rfl) (fun t ht => kdL_lt _ t ht) ?hS0p ?_
    case hS0p => ((try dsimp only); (repeat (first | with_reducible exact Grow.refl _ | with_reducible refine Grow.alloc ?_ _ | with_reducible refine Grow.drew ?_ | with_reducible refine Grow.drewN ?_ _ | (with_reducible refine Grow.setCell ?_ ?hp _; (case hp => (simp; try omega))) | with_reducible refine Grow.trans ?_ (by assumption))))
    refine held_read (v := ?vp0) rfl rfl (Or.inl ⟨by rfl, ?hyp0⟩) ?_
    case hyp0 => (intro u hu; obtain ⟨f0, f1, f2, f3⟩ := K1.out u (by (repeat (first | with_reducible exact Grow.refl _ | with_reducible refine Grow.alloc ?_ _ | with_reducible refine Grow.drew ?_ | with_reducible refine Grow.drewN ?_ _ | (with_reducible refine Grow.setCell ?_ ?hp _; (case hp => (simp; try omega))) | with_reducible refine Grow.trans ?_ (by assumption)))); obtain ⟨g0, g1, g2, g3⟩ := K2.out u (by (repeat (first | with_reducible exact Grow.refl _ | with_reducible refine Grow.alloc ?_ _ | with_reducible refine Grow.drew ?_ | with_reducible refine Grow.drewN ?_ _ | (with_reducible refine Grow.setCell ?_ ?hp _; (case hp => (simp; try omega))) | with_reducible refine Grow.trans ?_ (by assumption)))); go_simp; (try with_reducible rfl))
    (try simp only [Act.put, List.setIfInBounds_toArray])
    refine held_read (v := ?vp2) rfl rfl (Or.inl ⟨by rfl, ?hyp2⟩) ?_
    case hyp2 => (intro u hu; obtain ⟨f0, f1, f2, f3⟩ := K1.out u (by (repeat (first | with_reducible exact Grow.refl _ | with_reducible refine Grow.alloc ?_ _ | with_reducible refine Grow.drew ?_ | with_reducible refine Grow.drewN ?_ _ | (with_reducible refine Grow.setCell ?_ ?hp _; (case hp => (simp; try omega))) | with_reducible refine Grow.trans ?_ (by assumption)))); obtain ⟨g0, g1, g2, g3⟩ := K2.out u (by (repeat (first | with_reducible exact Grow.refl _ | with_reducible refine Grow.alloc ?_ _ | with_reducible refine Grow.drew ?_ | with_reducible refine Grow.drewN ?_ _ | (with_reducible refine Grow.setCell ?_ ?hp _; (case hp => (simp; try omega))) | with_reducible refine Grow.trans ?_ (by assumption)))); go_simp; (try with_reducible rfl))
    (try simp only [Act.put])
    refine held_op rfl rfl (fun K hK => ?_)
    go_simp
    (go_at_call 56; (with_reducible refine (S1.out _ (G2.out.trans (by (repeat (first | with_reducible exact Grow.refl _ | with_reducible refine Grow.alloc ?_ _ | with_reducible refine Grow.drew ?_ | with_reducible refine Grow.drewN ?_ _ | (with_reducible refine Grow.setCell ?_ ?hp _; (case hp => (simp; try omega))) | with_reducible refine Grow.trans ?_ (by assumption)))))).mono ?_); (rintro e u7 ⟨rfl, hb7⟩))
    (try go_wp2_with fail)
    refine hK.out _ _ ?hSp1 ?_
    case hSp1 => ((try dsimp only); (repeat (first | with_reducible exact Grow.refl _ | with_reducible refine Grow.alloc ?_ _ | with_reducible refine Grow.drew ?_ | with_reducible refine Grow.drewN ?_ _ | (with_reducible refine Grow.setCell ?_ ?hp _; (case hp => (simp; try omega))) | with_reducible refine Grow.trans ?_ (by assumption))))
    clear hK K
    (try simp only [Act.put])
    refine held_op rfl rfl (fun K hK => ?_)
    go_simp
    (go_at_call 56; (with_reducible refine (S2.out _ (G2.out.trans (by (repeat (first | with_reducible exact Grow.refl _ | with_reducible refine Grow.alloc ?_ _ | with_reducible refine Grow.drew ?_ | with_reducible refine Grow.drewN ?_ _ | (with_reducible refine Grow.setCell ?_ ?hp _; (case hp => (simp; try omega))) | with_reducible refine Grow.trans ?_ (by assumption)))))).mono ?_); (rintro e u8 ⟨rfl, hb8⟩))
    (try go_wp2_with fail)
    refine hK.out _ _ ?hSp3 ?_
    case hSp3 => ((try dsimp only); (repeat (first | with_reducible exact Grow.refl _ | with_reducible refine Grow.alloc ?_ _ | with_reducible refine Grow.drew ?_ | with_reducible refine Grow.drewN ?_ _ | (with_reducible refine Grow.setCell ?_ ?hp _; (case hp => (simp; try omega))) | with_reducible refine Grow.trans ?_ (by assumption))))
    clear hK K
    (try simp only [Act.put])
    refine held_quiet (v := .int .i64 sy) rfl rfl (Or.inl ⟨by rfl, ?hyp4⟩) ?_
    case hyp4 => (intro u hu; go_simp; (try with_reducible rfl))
    (try simp only [Act.put])
    refine held_quiet (v := .int .i64 sz) rfl rfl (Or.inl ⟨by rfl, ?hyp5⟩) ?_
    case hyp5 => (intro u hu; go_simp; (try with_reducible rfl))
    (try simp only [Act.put])
    refine held_done ?_
    have HG8 : Hid (Grow W2 u8) := Lib.hid (by (repeat (first | with_reducible exact Grow.refl _ | with_reducible refine Grow.alloc ?_ _ | with_reducible refine Grow.drew ?_ | with_reducible refine Grow.drewN ?_ _ | (with_reducible refine Grow.setCell ?_ ?hp _; (case hp => (simp; try omega))) | with_reducible refine Grow.trans ?_ (by assumption))))
    clear S1 S2
    go_wp2_with (go_at_call 130; (with_reducible refine (SG.out _).mono ?_); (rintro e w1 ⟨rfl, rfl⟩))
    go_ret
    exact ⟨rfl, by (repeat (first | with_reducible exact Grow.refl _ | with_reducible refine Grow.alloc ?_ _ | with_reducible refine Grow.drew ?_ | with_reducible refine Grow.drewN ?_ _ | (with_reducible refine Grow.setCell ?_ ?hp _; (case hp => (simp; try omega))) | with_reducible refine Grow.trans ?_ (by assumption)))⟩
end Go.Proofs.YtbpkfcohbefphaaGreat
/- Walk: Inverse. -/
namespace Go.Proofs.YtbpkfcohbefphaaGreat
open Go Go.RowKit

/-- The matrix beside the unit. -/
def besU (n : Nat) (M : Nat → Nat → Rat) : Nat → Nat → Rat := fun i k => if k < n then M i k else if i = k - n then 1 else 0
/-- The grid while its rows are cut. -/
structure CutS (u : World) (G n m : Nat) (R O C : Nat → Nat) (N : Nat → Nat → Rat) (i : Nat) : Prop where
  lt : G < u.heap.size
  free : ∀ o, u.frozen? ⟨G, o, none⟩ = false
  done : ∀ k, k < n → k < i → u.cell? ⟨G, k, none⟩ = some (.slice (some ⟨R k, O k + n * 4, none⟩) n (C k - n))
  left : ∀ k, k < n → i ≤ k → u.cell? ⟨G, k, none⟩ = some (.slice (some ⟨R k, O k, none⟩) m (C k))
  row : ∀ k, k < n → RowQ u (R k) (O k) m (N k)
  far : ∀ k, k < n → R k ≠ G
theorem CutS.grow {u u' : World} {G n m i : Nat} {R O C : Nat → Nat} {N : Nat → Nat → Rat} (h : CutS u G n m R O C N i) (hg : Grow u u') : CutS u' G n m R O C N i :=
  ⟨Nat.lt_of_lt_of_le h.lt hg.size, fun o => (hg.frees _ _ h.lt).trans (h.free o), fun k hk hi => (hg.cells _ _ h.lt).trans (h.done k hk hi), fun k hk hi => (hg.cells _ _ h.lt).trans (h.left k hk hi), fun k hk => RowP.grow (h.row k hk) hg, h.far⟩
theorem CutS.next {u : World} {G n m i : Nat} {R O C : Nat → Nat} {N : Nat → Nat → Rat} (h : CutS u G n m R O C N i) (hi : i < n) : CutS (u.setCell ⟨G, i, none⟩ (.slice (some ⟨R i, O i + n * 4, none⟩) n (C i - n))) G n m R O C N (i + 1) := by
  have hb : But (fun b => b = G) u (u.setCell ⟨G, i, none⟩ (.slice (some ⟨R i, O i + n * 4, none⟩) n (C i - n))) := (But.refl _ u).set _ (.inr rfl) (fun x => by rw [h.left i hi (Nat.le_refl _)]; simp)
  refine ⟨by simpa [World.setCell] using h.lt, fun o => by simpa using h.free o, fun k hk hki => ?_, fun k hk hki => ?_, fun k hk => RowP.but (h.row k hk) (h.far k hk) hb, h.far⟩
  · by_cases e : k = i
    · subst e; exact World.cell?_setCell_same _ _ _ (h.left k hk (Nat.le_refl _))
    · rw [World.cell?_setCell_other _ _ _ _ (by simp; try omega)]
      exact h.done k hk (by omega)
  · rw [World.cell?_setCell_other _ _ _ _ (by simp; try omega)]
    exact h.left k hk (by omega)
theorem CutS.grid {u : World} {G n m : Nat} {R O C : Nat → Nat} {N : Nat → Nat → Rat} (h : CutS u G n m R O C N n) (hm : m = n + n) (hc : ∀ i, i < n → m ≤ C i) (hj : ∀ i k, i < n → k < n → R i = R k → i = k) : GridQ u G n R (fun i => O i + n * 4) (fun i => C i - n) n (fun i k => N i (n + k)) := by
  refine ⟨h.lt, h.free, fun i hi => ?_, fun i hi => by have := hc i hi; omega, fun i hi => ?_, h.far, hj⟩
  · exact h.done i hi hi
  · have h1 := RowP.tail (h.row i hi) n (by omega)
    rw [hm, Nat.add_sub_cancel] at h1
    exact h1
theorem set3_but {u : World} {B : Nat} {v0 v1 v2 : Value} (h : O3 u B v0 v1 v2) (h0 : ∀ x, v0 ≠ .int .u32 x) (h1 : ∀ x, v1 ≠ .int .u32 x) (h2 : ∀ x, v2 ≠ .int .u32 x) (x0 x1 x2 : Value) :
    But (fun b => b = B) u (((u.setCell ⟨B, 0, none⟩ x0).setCell ⟨B, 1, none⟩ x1).setCell ⟨B, 2, none⟩ x2) := by
  have e0 := (But.refl (fun b => b = B) u).set (B := B) (o := 0) x0 (.inr rfl) (fun x => by rw [h.c0]; exact fun e => h0 x (by injection e))
  have e1 := e0.set (B := B) (o := 1) x1 (.inr rfl) (fun x => by rw [(h.set0 x0).c1]; exact fun e => h1 x (by injection e))
  exact e1.set (B := B) (o := 2) x2 (.inr rfl) (fun x => by rw [((h.set0 x0).set1 x1).c2]; exact fun e => h2 x (by injection e))
set_option maxRecDepth 20000 in
set_option maxHeartbeats 8000000 in
theorem inverseMQ (n N Ba oa ca : Nat) (r0 : Nat → Rat) (M : Nat → Nat → Rat) (hN : N = n * n) (hn0 : 0 < n) (hn : n ≤ 500) (hM : ∀ i j, M i j = r0 (i * n + j))
    (hB : ∀ c, c < n → RedB n (n + n) c (redD n c (besU n M)) (redM n c (besU n M))) (w : World) (hA : RowQ w Ba oa N r0) :
    Calls Tryz.prog 113 #[.agg #[.int .i64 (n : Int), .int .i64 (n : Int), .slice (some ⟨Ba, oa, none⟩) N ca]] w fun e w' =>
    ∃ B L c, e = .returned (.tuple #[.agg #[.int .i64 (n : Int), .int .i64 (n : Int), .slice (some ⟨B, 0, none⟩) L c], .int .i64 0]) ∧ L = n * n ∧ RowQ w' B 0 L (fun k => redM n n (besU n M) (k / n) (n + k % n)) ∧ Grow w w' := by
  have SQ := Lib.hid (fun u => squareQ n N hN (by omega) (some ⟨Ba, oa, none⟩) ca u)
  have hM2 : (fun i k => r0 (i * n + k)) = M := by funext i k; rw [hM]
  have LD := Lib.hid (fun (u : World) (hu : Grow w u) => loadQ n n N hN (by omega) (by omega) Ba oa ca r0 u (RowP.grow hA hu))
  rw [hM2] at LD
  have UN := Lib.hid (fun u => unitQ n (by omega) u)
  obtain ⟨Nn, hNn⟩ : ∃ Nn, redM n n (besU n M) = Nn := ⟨_, rfl⟩
  rw [hNn]
  have HNN := Lib.hid hNn
  clear hNn
  have HB := Lib.hid hB
  clear hA hN hM hM2 hB
  obtain ⟨W1, hW1⟩ : ∃ W1 : World, W1 = w.alloc (.cells #[.int .i64 (n : Int), .int .i64 (n : Int), .slice (some ⟨Ba, oa, none⟩) N ca] 95) := ⟨_, rfl⟩
  obtain ⟨W2, hW2⟩ : ∃ W2 : World, W2 = W1.alloc (.cells #[.int .i64 0, .int .i64 0, .slice none 0 0] 95) := ⟨_, rfl⟩
  have hg2 : Grow w W2 := (ag hW1).trans (ag hW2)
  have K1 := Lib.hid (fun u (hu : Grow W2 u) => ak3 hW1 u ((ag hW2).trans hu))
  have hz1 : W1.heap.size = w.heap.size + 1 := by rw [hW1]; simp
  have RB : Hid (O3 W2 (w.heap.size + 1) (.int .i64 0) (.int .i64 0) (.slice none 0 0)) := Lib.hid (by rw [← hz1]; exact O3.lay hW2)
  have hw2 : w.heap.size + 1 < W2.heap.size := RB.out.lt
  have HW1 := Lib.hid hW1
  have HW2 := Lib.hid hW2
  have G2 := Lib.hid hg2
  clear hW1 hW2 hz1 hg2
  go_enter Tryz.func113, Tryz.ntmps113
  go_upto_region 1 with fail
  rw [← HW1.out, ← HW2.out]
  obtain ⟨b0, b1, b2, b3, b4⟩ := K1.out W2 (Grow.refl _)
  go_upto_region 3 with (go_at_call 92; (with_reducible refine (SQ.out _).mono ?_); (rintro e u1 ⟨rfl, hb1⟩))
  refine region_held (id := 3) (fun u => Grow W2 u) [0, 2, 3, 1, 4, 5, 6] (kdL [1, 2, 0, 1, 2, 2, 0]) (by kernel_rfl) (by kernel_rfl) (fun t ht => kdL_lt _ t ht) ?hS0p ?_
  case hS0p => ((try dsimp only); (repeat (first | with_reducible exact Grow.refl _ | with_reducible refine Grow.alloc ?_ _ | with_reducible refine Grow.drew ?_ | with_reducible refine Grow.drewN ?_ _ | (with_reducible refine Grow.setCell ?_ ?hp _; (case hp => (simp; try omega))) | with_reducible refine Grow.trans ?_ (by assumption))))
  refine held_read (v := ?vp0) rfl rfl (Or.inl ⟨by rfl, ?hyp0⟩) ?_
  case hyp0 => (intro u hu; obtain ⟨f0, f1, f2, f3, f4⟩ := K1.out u (by (repeat (first | with_reducible exact Grow.refl _ | with_reducible refine Grow.alloc ?_ _ | with_reducible refine Grow.drew ?_ | with_reducible refine Grow.drewN ?_ _ | (with_reducible refine Grow.setCell ?_ ?hp _; (case hp => (simp; try omega))) | with_reducible refine Grow.trans ?_ (by assumption)))); go_simp; (try with_reducible rfl))
  (try simp only [Act.put, List.setIfInBounds_toArray])
  refine held_quiet (v := ?vp2) rfl rfl (Or.inl ⟨by rfl, ?hyp2⟩) ?_
  case hyp2 => (intro u hu; go_simp; (try with_reducible rfl))
  (try simp only [Act.put])
  refine held_read (v := ?vp3) rfl rfl (Or.inl ⟨by rfl, ?hyp3⟩) ?_
  case hyp3 => (intro u hu; obtain ⟨f0, f1, f2, f3, f4⟩ := K1.out u (by (repeat (first | with_reducible exact Grow.refl _ | with_reducible refine Grow.alloc ?_ _ | with_reducible refine Grow.drew ?_ | with_reducible refine Grow.drewN ?_ _ | (with_reducible refine Grow.setCell ?_ ?hp _; (case hp => (simp; try omega))) | with_reducible refine Grow.trans ?_ (by assumption)))); go_simp; (try with_reducible rfl))
  (try simp only [Act.put])
  refine held_op rfl rfl (fun K hK => ?_)
  go_simp
  (go_at_call 93; (with_reducible refine (LD.out _ (G2.out.trans (by (repeat (first | with_reducible exact Grow.refl _ | with_reducible refine Grow.alloc ?_ _ | with_reducible refine Grow.drew ?_ | with_reducible refine Grow.drewN ?_ _ | (with_reducible refine Grow.setCell ?_ ?hp _; (case hp => (simp; try omega))) | with_reducible refine Grow.trans ?_ (by assumption)))))).mono ?_); (rintro e u2 ⟨G2', rfl, hge2, hb2⟩; obtain ⟨hb2G, R2, O2, C2, hgq2, -⟩ := hge2; have HGQ2 := Lib.hid hgq2; clear hgq2 hb2G))
  (try go_wp2_with fail)
  refine hK.out _ _ ?hSp1 ?_
  case hSp1 => ((try dsimp only); (repeat (first | with_reducible exact Grow.refl _ | with_reducible refine Grow.alloc ?_ _ | with_reducible refine Grow.drew ?_ | with_reducible refine Grow.drewN ?_ _ | (with_reducible refine Grow.setCell ?_ ?hp _; (case hp => (simp; try omega))) | with_reducible refine Grow.trans ?_ (by assumption))))
  clear hK K
  (try simp only [Act.put])
  refine held_op rfl rfl (fun K hK => ?_)
  go_simp
  (go_at_call 134; (with_reducible refine (UN.out _).mono ?_); (rintro e u3 ⟨G3', rfl, hge3, hb3⟩; obtain ⟨hb3G, R3, O3', C3, hgq3, -⟩ := hge3; have HGQ3 := Lib.hid hgq3; clear hgq3 hb3G))
  (try go_wp2_with fail)
  refine hK.out _ _ ?hSp4 ?_
  case hSp4 => ((try dsimp only); (repeat (first | with_reducible exact Grow.refl _ | with_reducible refine Grow.alloc ?_ _ | with_reducible refine Grow.drew ?_ | with_reducible refine Grow.drewN ?_ _ | (with_reducible refine Grow.setCell ?_ ?hp _; (case hp => (simp; try omega))) | with_reducible refine Grow.trans ?_ (by assumption))))
  clear hK K
  (try simp only [Act.put])
  refine held_op rfl rfl (fun K hK => ?_)
  go_simp
  (go_at_call 133; (with_reducible refine (besideQ n n n G2' G3' n n R2 O2 C2 R3 O3' C3 M (fun i k => if i = k then 1 else 0) (by omega) hn0 (by omega) (by omega) _ (HGQ2.out.grow (by (repeat (first | with_reducible exact Grow.refl _ | with_reducible refine Grow.alloc ?_ _ | with_reducible refine Grow.drew ?_ | with_reducible refine Grow.drewN ?_ _ | (with_reducible refine Grow.setCell ?_ ?hp _; (case hp => (simp; try omega))) | with_reducible refine Grow.trans ?_ (by assumption))))) HGQ3.out).mono ?_); (rintro e u4 ⟨G4, rfl, hge4, hb4⟩))
  (try go_wp2_with fail)
  refine hK.out _ _ ?hSp5 ?_
  case hSp5 => ((try dsimp only); (repeat (first | with_reducible exact Grow.refl _ | with_reducible refine Grow.alloc ?_ _ | with_reducible refine Grow.drew ?_ | with_reducible refine Grow.drewN ?_ _ | (with_reducible refine Grow.setCell ?_ ?hp _; (case hp => (simp; try omega))) | with_reducible refine Grow.trans ?_ (by assumption))))
  clear hK K
  (try simp only [Act.put])
  refine held_quiet (v := ?vp6) rfl rfl (Or.inl ⟨by rfl, ?hyp6⟩) ?_
  case hyp6 => (intro u hu; go_simp; (try with_reducible rfl))
  (try simp only [Act.put])
  refine held_done ?_
  have hgb : Grow W2 u4 := by (repeat (first | with_reducible exact Grow.refl _ | with_reducible refine Grow.alloc ?_ _ | with_reducible refine Grow.drew ?_ | with_reducible refine Grow.drewN ?_ _ | (with_reducible refine Grow.setCell ?_ ?hp _; (case hp => (simp; try omega))) | with_reducible refine Grow.trans ?_ (by assumption)))
  obtain ⟨hbG, R, O, C, hgq, hbR⟩ := hge4
  have hz3 : w.heap.size ≤ u3.heap.size := (G2.out.trans (show Grow W2 u3 by (repeat (first | with_reducible exact Grow.refl _ | with_reducible refine Grow.alloc ?_ _ | with_reducible refine Grow.drew ?_ | with_reducible refine Grow.drewN ?_ _ | (with_reducible refine Grow.setCell ?_ ?hp _; (case hp => (simp; try omega))) | with_reducible refine Grow.trans ?_ (by assumption))))).size
  have HGQ := Lib.hid hgq
  have HBR := Lib.hid (fun i (hi : i < n) => hbR i hi)
  have RED := Lib.hid (fun (u : World) (hu : Grow u4 u) => reduceQ n (n + n) G4 n R O C (besU n M) (by omega) (by omega) (by omega) HB.out u (HGQ.out.grow hu))
  have hRW : ∀ b, (∃ i, i < n ∧ b = R i) → W2.heap.size ≤ b := by
    rintro b ⟨i, hi, rfl⟩
    have h1 := hbR i hi
    have h2 := (show Grow W2 u3 by (repeat (first | with_reducible exact Grow.refl _ | with_reducible refine Grow.alloc ?_ _ | with_reducible refine Grow.drew ?_ | with_reducible refine Grow.drewN ?_ _ | (with_reducible refine Grow.setCell ?_ ?hp _; (case hp => (simp; try omega))) | with_reducible refine Grow.trans ?_ (by assumption)))).size
    omega
  have hGb := HGQ.out.far
  have HGW : Hid (W2.heap.size ≤ G4) := Lib.hid (by have h2 := (show Grow W2 u3 by (repeat (first | with_reducible exact Grow.refl _ | with_reducible refine Grow.alloc ?_ _ | with_reducible refine Grow.drew ?_ | with_reducible refine Grow.drewN ?_ _ | (with_reducible refine Grow.setCell ?_ ?hp _; (case hp => (simp; try omega))) | with_reducible refine Grow.trans ?_ (by assumption)))).size; omega)
  have HRW := Lib.hid hRW
  have HCAP := Lib.hid HGQ.out.cap
  have HINJ := Lib.hid HGQ.out.inj
  obtain ⟨g0, g1, g2, g3, g4⟩ := K1.out u4 hgb
  clear hgq hbR hbG hRW hz3 b0 b1 b2 b3 b4
  go_upto_region 5 with (go_at_call 135; (with_reducible refine (RED.out _ (by (repeat (first | with_reducible exact Grow.refl _ | with_reducible refine Grow.alloc ?_ _ | with_reducible refine Grow.drew ?_ | with_reducible refine Grow.drewN ?_ _ | (with_reducible refine Grow.setCell ?_ ?hp _; (case hp => (simp; try omega))) | with_reducible refine Grow.trans ?_ (by assumption))))).mono ?_); (rintro e u5 ⟨av, cv, v5, rfl, hb5, hg5, hv5⟩; obtain ⟨s5, a5, l5, c5, t5, d5, k5, e5, rfl⟩ := hv5.form))
  have hG5 : Grow W2 u5 := ((hgb.but _).trans hb5).asGrow HRW.out
  obtain ⟨w6, hw6⟩ : ∃ w6, u5.alloc (.cells #[.bool s5, .slice a5 l5 c5, .bool t5, .slice d5 k5 e5] 36) = w6 := ⟨_, rfl⟩
  have hg6 : Grow u5 w6 := by rw [← hw6]; exact (Grow.refl _).alloc _
  rw [hw6]
  rw [HNN.out] at hg5
  have hgq6 := hg5.grow hg6
  have HC6 : Hid (CutS w6 G4 n (n + n) R O C Nn 0) := Lib.hid ⟨hgq6.lt, hgq6.free, fun k hk hi => absurd hi (Nat.not_lt_zero _), fun k hk _ => hgq6.cell k hk, hgq6.row, hgq6.far⟩
  have HG6 := Lib.hid (hG5.trans hg6)
  clear hw6 hg6 hg5 hgq6 hG5 hb5 hv5 hgb HGQ HBR RED g0 g1 g2 g3 g4 hb1 hb2 hb3 hb4 SQ LD UN HB HGQ2 HGQ3 HRW hGb
  obtain ⟨b0, b1, b2, b3, b4⟩ := K1.out w6 HG6.out
  go_upto_region 7 with fail
  clear b0 b1 b2 b3 b4
  go_wp2_with fail
  go_loopg [33] n (fun gk t33 wr => ∃ i : Nat, t33 = .int .i64 (i : Int) ∧ i ≤ n ∧ Hid (gk = n - i) ∧ Hid (CutS wr G4 n (n + n) R O C Nn i) ∧ Hid (Grow W2 wr))
  case atStart => exact ⟨0, rfl, Nat.zero_le _, Lib.hid rfl, HC6, HG6⟩
  case round =>
    clear HC6 HG6
    obtain ⟨i, rfl, hi2, HGK, HC, HG⟩ := hrel
    obtain ⟨b0, b1, b2, b3, b4⟩ := K1.out wr HG.out
    by_cases hin : i = n
    · have y1 : decide ((i : Int) < (n : Int)) = false := by simp; omega
      subst hin
      have hgr := HC.out.grid rfl HCAP.out HINJ.out
      have ST := Lib.hid (fun (u : World) (hu : Grow wr u) => storeQ i i G4 i R _ _ _ hn0 (by omega) hn0 (by omega) u (hgr.grow hu))
      clear hgr
      obtain ⟨r0, r1, r2, r3, r4⟩ := RB.out.grow HG.out
      go_wp2_with (go_at_call 136; (with_reducible refine (ST.out _ (by (repeat (first | with_reducible exact Grow.refl _ | with_reducible refine Grow.alloc ?_ _ | with_reducible refine Grow.drew ?_ | with_reducible refine Grow.drewN ?_ _ | (with_reducible refine Grow.setCell ?_ ?hp _; (case hp => (simp; try omega))) | with_reducible refine Grow.trans ?_ (by assumption))))).mono ?_); (rintro e u8 ⟨B8, L8, c8, rfl, hL8, hc8, hB8, hr8, hb8⟩; have HL8 := Lib.hid hL8; clear hL8; obtain ⟨m0, m1, m2, m3, m4⟩ := (RB.out.grow HG.out).grow (show Grow wr u8 by (repeat (first | with_reducible exact Grow.refl _ | with_reducible refine Grow.alloc ?_ _ | with_reducible refine Grow.drew ?_ | with_reducible refine Grow.drewN ?_ _ | (with_reducible refine Grow.setCell ?_ ?hp _; (case hp => (simp; try omega))) | with_reducible refine Grow.trans ?_ (by assumption))))))
      clear r0 r1 r2 r3 r4 b0 b1 b2 b3 b4
      have hzw := (G2.out.trans HG.out).size
      have hzr := (RB.out.grow HG.out).lt
      have hbt : But (fun b => b = w.heap.size + 1) u8 (((u8.setCell ⟨w.heap.size + 1, 0, none⟩ (.int .i64 (i : Int))).setCell ⟨w.heap.size + 1, 1, none⟩ (.int .i64 (i : Int))).setCell ⟨w.heap.size + 1, 2, none⟩ (.slice (some ⟨B8, 0, none⟩) L8 c8)) :=
        set3_but ⟨m0, m1, m2, m3, m4⟩ (by simp) (by simp) (by simp) _ _ _
      have hrF := RowP.but (X := fun b => b = w.heap.size + 1) hr8 (by omega) hbt
      have hgF : Grow w (((u8.setCell ⟨w.heap.size + 1, 0, none⟩ (.int .i64 (i : Int))).setCell ⟨w.heap.size + 1, 1, none⟩ (.int .i64 (i : Int))).setCell ⟨w.heap.size + 1, 2, none⟩ (.slice (some ⟨B8, 0, none⟩) L8 c8)) :=
        ((((G2.out.trans HG.out).trans (show Grow wr u8 by (repeat (first | with_reducible exact Grow.refl _ | with_reducible refine Grow.alloc ?_ _ | with_reducible refine Grow.drew ?_ | with_reducible refine Grow.drewN ?_ _ | (with_reducible refine Grow.setCell ?_ ?hp _; (case hp => (simp; try omega))) | with_reducible refine Grow.trans ?_ (by assumption))))).setCell (by show w.heap.size ≤ w.heap.size + 1; omega) _).setCell (by show w.heap.size ≤ w.heap.size + 1; omega) _).setCell (by show w.heap.size ≤ w.heap.size + 1; omega) _
      exact bodyPost_ret (v := .tuple #[.agg #[.int .i64 (i : Int), .int .i64 (i : Int), .slice (some ⟨B8, 0, none⟩) L8 c8], .int .i64 0]) (by rw [results_cell_tmp rfl]; go_simp) rfl ⟨B8, L8, c8, rfl, HL8.out, hrF, hgF⟩
    · have hi : i < n := by omega
      have y0 : (0 : Int) ≤ (i : Int) := by omega
      have y1 : (i : Int) < (n : Int) := by omega
      have hci := HCAP.out i hi
      have y2 : (n : Int) ≤ (n : Int) + (n : Int) := by omega
      have y3 : ¬ C i = n := by omega
      have D0 := Lib.hid (fun (u : World) (hu : Grow wr u) => (HC.out.grow hu).left i hi (Nat.le_refl _))
      have KC := Lib.hid (fun (u : World) (hu : Grow wr u) => K1.out u (HG.out.trans hu))
      have q0 := D0.out wr (Grow.refl _)
      have hlt := HC.out.lt
      have hfr := HC.out.free
      clear b0 b1 b2 b3 b4
      go_upto_region 10 with fail
      refine region_held (id := 10) (fun u => Grow wr u) [0, 1, 2, 3, 4, 5, 6, 7, 8, 9, 10] (kdL [0, 0, 0, 0, 0, 1, 0, 1, 0, 0, 3]) (by kernel_rfl) (by kernel_rfl) (fun t ht => kdL_lt _ t ht) ?hS0q ?_
      case hS0q => ((try dsimp only); (repeat (first | with_reducible exact Grow.refl _ | with_reducible refine Grow.alloc ?_ _ | with_reducible refine Grow.drew ?_ | with_reducible refine Grow.drewN ?_ _ | (with_reducible refine Grow.setCell ?_ ?hp _; (case hp => (simp; try omega))) | with_reducible refine Grow.trans ?_ (by assumption))))
      refine held_quiet (v := ?vq0) rfl rfl (Or.inl ⟨by rfl, ?hyq0⟩) ?_
      case hyq0 => (intro u hu; go_simp; (try with_reducible rfl))
      (try simp only [Act.put, List.setIfInBounds_toArray])
      refine held_quiet (v := ?vq1) rfl rfl (Or.inl ⟨by rfl, ?hyq1⟩) ?_
      case hyq1 => (intro u hu; go_simp; (try with_reducible rfl))
      (try simp only [Act.put])
      refine held_quiet (v := ?vq2) rfl rfl (Or.inl ⟨by rfl, ?hyq2⟩) ?_
      case hyq2 => (intro u hu; go_simp; (try with_reducible rfl))
      (try simp only [Act.put])
      refine held_quiet (v := ?vq3) rfl rfl (Or.inl ⟨by rfl, ?hyq3⟩) ?_
      case hyq3 => (intro u hu; go_simp; (try with_reducible rfl))
      (try simp only [Act.put])
      refine held_quiet (v := ?vq4) rfl rfl (Or.inl ⟨by rfl, ?hyq4⟩) ?_
      case hyq4 => (intro u hu; go_simp; (try with_reducible rfl))
      (try simp only [Act.put])
      refine held_read (v := ?vq5) rfl rfl (Or.inl ⟨by rfl, ?hyq5⟩) ?_
      case hyq5 => (intro u hu; have f0 := D0.out u hu; obtain ⟨g0, g1, g2, g3, g4⟩ := KC.out u hu; go_simp; (try with_reducible rfl))
      (try simp only [Act.put])
      refine held_quiet (v := ?vq6) rfl rfl (Or.inl ⟨by rfl, ?hyq6⟩) ?_
      case hyq6 => (intro u hu; go_simp; (try with_reducible rfl))
      (try simp only [Act.put])
      refine held_read (v := ?vq7) rfl rfl (Or.inl ⟨by rfl, ?hyq7⟩) ?_
      case hyq7 => (intro u hu; have f0 := D0.out u hu; obtain ⟨g0, g1, g2, g3, g4⟩ := KC.out u hu; go_simp; (try with_reducible rfl))
      (try simp only [Act.put])
      refine held_quiet (v := ?vq8) rfl rfl (Or.inl ⟨by rfl, ?hyq8⟩) ?_
      case hyq8 => (intro u hu; go_simp; (try with_reducible rfl))
      (try simp only [Act.put])
      refine held_quiet (v := ?vq9) rfl rfl (Or.inl ⟨by rfl, ?hyq9⟩) ?_
      case hyq9 => (intro u hu; go_simp; (try with_reducible rfl))
      (try simp only [Act.put])
      refine held_last rfl rfl (fun K hK => ?_)
      go_simp
      refine hK.out _ _ ?_
      clear hK K
      (try simp only [Act.put])
      refine held_done ?_
      have hcn := HC.out.next hi
      have hgn := (HG.out.setCell (p := ⟨G4, i, none⟩) HGW.out (.slice (some ⟨R i, O i + n * 4, none⟩) n (C i - n))).drew
      have hcn := hcn.grow (Grow.refl _).drew
      have y4 : IntKind.i64.wrap ((i : Int) + 1) = ((i + 1 : Nat) : Int) := (IntWalk.i64_in ((i : Int) + 1) (by omega)).trans (by omega)
      have y5 : wrap64 ((i : Int) + 1) = ((i + 1 : Nat) : Int) := by rw [← wrap64_eq]; exact y4
      go_wp2_with fail
      clear y4 y5
      go_roundg (n - (i + 1))
      case measure => have := HGK.out; omega
      case rel => exact ⟨i + 1, rfl, by omega, Lib.hid rfl, Lib.hid hcn, Lib.hid hgn⟩
end Go.Proofs.YtbpkfcohbefphaaGreat
