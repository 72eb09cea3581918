/- Lemmas, plain laws and walks that the statement LwKronecker leans on (texts BnA, BnB), conditions as each theorem says. -/
import Derived.Test.YtbpkfcohbefphaaGreatDoorTopKhG20
import Derived.Test.YtbpkfcohbefphaaGreatDoorTopKhG23

namespace Go.Proofs.YtbpkfcohbefphaaGreatDoor
open Go Go.RowKit
theorem exactV (y z : Int) (u v : Value) (h0 : z ≠ 0) (hd : z ∣ y) (w : World) (h1 : IntR w u y) (h2 : IntR w v z) : Calls Tryz.prog 50 #[u, v] w fun e w' => ∃ q, e = .returned (.tuple #[q, .int .i64 0]) ∧ IntR w' q (y / z) ∧ Grow w w' := by
  obtain ⟨m1, rfl, h1⟩ := h1
  obtain ⟨m2, rfl, h2⟩ := h2
  exact (exact_any y z m1 m2 h0 hd w h1 h2).mono fun _ _ ⟨m, he, hm, hg⟩ => ⟨_, he, ⟨m, rfl, hm⟩, hg⟩
/-- The cells xs are n integers. -/
structure ListZ (w : World) (xs : List Value) (n : Nat) (r : Nat → Int) : Prop where
  len : xs.length = n * 2
  at2 : ∀ j, j < n → ∃ s a l c, xs[j * 2]? = some (.bool s) ∧ xs[j * 2 + 1]? = some (.slice a l c) ∧ IntR w (.agg #[.bool s, .slice a l c]) (r j)
theorem ListZ.but {X : Nat → Prop} {w w' : World} {xs : List Value} {n : Nat} {r : Nat → Int} (h : ListZ w xs n r) (hg : But X w w') : ListZ w' xs n r :=
  ⟨h.len, fun j hj => by
    obtain ⟨s, a, l, c, h1, h2, h3⟩ := h.at2 j hj
    exact ⟨s, a, l, c, h1, h2, h3.but hg⟩⟩
theorem ListZ.grow {w w' : World} {xs : List Value} {n : Nat} {r : Nat → Int} (h : ListZ w xs n r) (hg : Grow w w') : ListZ w' xs n r := h.but (X := fun _ => False) (hg.but _)
theorem ListZ.snoc {w : World} {xs : List Value} {n : Nat} {r : Nat → Int} {s : Bool} {a : Option Addr} {l c : Nat} (h : ListZ w xs n r) (hx : IntR w (.agg #[.bool s, .slice a l c]) (r n)) : ListZ w (xs ++ [.bool s, .slice a l c]) (n + 1) r := by
  have hl := h.len
  refine ⟨by rw [List.length_append, hl]; simp; omega, fun j hj => ?_⟩
  by_cases hjn : j < n
  · obtain ⟨s, a, l, c, h1, h2, h3⟩ := h.at2 j hjn
    exact ⟨s, a, l, c, (List.getElem?_append_left (by omega)).trans h1, (List.getElem?_append_left (by omega)).trans h2, h3⟩
  · obtain rfl : j = n := by omega
    refine ⟨s, a, l, c, ?_, ?_, hx⟩
    · exact (List.getElem?_append_right (by omega)).trans (by rw [show j * 2 - xs.length = 0 by omega]; rfl)
    · exact (List.getElem?_append_right (by omega)).trans (by rw [show j * 2 + 1 - xs.length = 1 by omega]; rfl)
theorem ListZ.nil (w : World) (r : Nat → Int) : ListZ w [] 0 r := ⟨rfl, fun _ h => absurd h (Nat.not_lt_zero _)⟩
/-- Block B holds m integers from its start on. -/
structure RowZ (w : World) (B m : Nat) (r : Nat → Int) : Prop where
  lt : B < w.heap.size
  at2 : ∀ j, j < m → ∃ s a l c, w.cell? ⟨B, j * 2, none⟩ = some (.bool s) ∧ w.cell? ⟨B, j * 2 + 1, none⟩ = some (.slice a l c) ∧ IntR w (.agg #[.bool s, .slice a l c]) (r j)
theorem RowZ.grow {w w' : World} {B m : Nat} {r : Nat → Int} (h : RowZ w B m r) (hg : Grow w w') : RowZ w' B m r :=
  ⟨Nat.lt_of_lt_of_le h.lt hg.size, fun j hj => by
    obtain ⟨s, a, l, c, h1, h2, h3⟩ := h.at2 j hj
    exact ⟨s, a, l, c, (hg.cells _ _ h.lt).trans h1, (hg.cells _ _ h.lt).trans h2, h3.grow hg⟩⟩
theorem own_rowz {w : World} {base g n cap : Nat} {t : TypeId} {xs : List Value} {r : Nat → Int} (h : w.ownsRow base t 2 (.slice (some ⟨g, 0, none⟩) n cap) n xs) (hl : ListZ w xs n r) : RowZ w g n r := by
  obtain ⟨h1, h2, h3, h4, h5⟩ := own_cells h
  refine ⟨h1, fun j hj => ?_⟩
  obtain ⟨s, a, l, c, q1, q2, q3⟩ := hl.at2 j hj
  exact ⟨s, a, l, c, h5 _ _ q1, h5 _ _ q2, q3⟩
theorem infoInt2 : (Tryz.prog.info? 25).map (fun i => (i.zero, i.size, i.bytes)) = some (some (.agg #[.bool false, .slice none 0 0]), 2, 32) := by kernel_rfl
theorem int_news (u : World) (s : Bool) (a : Option Addr) (l c : Nat) (ty : TypeId) : ∀ j x, [Value.bool s, .slice a l c][j]? = some x → (u.alloc (.cells #[.bool s, .slice a l c] ty)).cell? ((⟨u.heap.size, 0, none⟩ : Addr).add j) = some x := by
  intro j x hj
  rw [Addr.add_lit, Nat.zero_add, World.cell?_alloc_at _ _ _ _ rfl]
  match j, hj with
  | 0, hj => simpa using hj
  | 1, hj => simpa using hj
  | j + 2, hj => simp at hj
theorem int_one (s : Bool) (a : Option Addr) (l c : Nat) : ∀ x ∈ [Value.bool s, .slice a l c], x.oneCell' = true := by
  intro x hx
  simp only [List.mem_cons, List.not_mem_nil, or_false] at hx
  rcases hx with rfl | rfl <;> rfl
theorem int_nu (s : Bool) (a : Option Addr) (l c : Nat) : ∀ x ∈ [Value.bool s, .slice a l c], NU x := by
  intro x hx
  simp only [List.mem_cons, List.not_mem_nil, or_false] at hx
  rcases hx with rfl | rfl
  · exact nu_bool _
  · exact nu_slice _ _ _
theorem int_zero_nu : ∀ u ∈ (Value.agg #[.bool false, .slice none 0 0]).cells.toList, NU u := by
  intro u hu
  simp [Value.cells] at hu
  rcases hu with rfl | rfl
  · exact nu_bool _
  · exact nu_slice _ _ _
/-- A block laid by buildSlice with one element, as an own row. -/
theorem OwnG.lay {u : World} {base size : Nat} {t : TypeId} {news : Array Value} (hb : base ≤ u.heap.size) (hs : news.size = size) (hn : ∀ x ∈ news.toList, NU x) : OwnG (u.alloc (.cells news t)) base t size (.slice (some ⟨u.heap.size, 0, none⟩) 1 1) 1 news.toList :=
  ⟨by simp [hs], .inr ⟨u.heap.size, 1, news, rfl, hb, heap_alloc_new u _, Nat.le_refl _, by unfold maxLen; omega, by omega, by rw [Nat.one_mul, ← hs]; exact List.take_of_length_le (by simp), hn⟩⟩
/-- Binomials of 1 and 2. -/
def bnN (n j : Nat) : Int := if n = 2 ∧ j = 1 then 2 else 1
theorem bn_tab (n : Nat) (hn : n = 1 ∨ n = 2) (k q m : Nat) (hk : k = q + 1) (hm : m + k = n + 1) (hk2 : k ≤ n) : (k : Int) ∣ bnN n q * (m : Int) ∧ bnN n q * (m : Int) / (k : Int) = bnN n k ∧ (bnN n q * (m : Int)).natAbs < 4294967296 := by
  rcases hn with rfl | rfl
  · obtain rfl : q = 0 := by omega
    obtain rfl : k = 1 := by omega
    obtain rfl : m = 1 := by omega
    decide
  · rcases (show q = 0 ∨ q = 1 by omega) with rfl | rfl
    · obtain rfl : k = 1 := by omega
      obtain rfl : m = 2 := by omega
      decide
    · obtain rfl : k = 2 := by omega
      obtain rfl : m = 1 := by omega
      decide
set_option maxRecDepth 20000 in
set_option maxHeartbeats 8000000 in
theorem bnrowQ (n : Nat) (hn : n = 1 ∨ n = 2) (w : World) : Calls Tryz.prog 92 #[.int .i64 (n : Int)] w fun e w' => ∃ g c, e = .returned (.slice (some ⟨g, 0, none⟩) (n + 1) c) ∧ RowZ w' g (n + 1) (bnN n) ∧ Grow w w' ∧ w.heap.size ≤ g := by
  obtain ⟨ir, hir, irz0, irz1, irz2⟩ := info_parts infoInt2
  have O1 := Lib.hid (fun u => ofV 1 (by decide) u)
  have HN := Lib.hid hn
  have hn3 : n ≤ 2 := by omega
  have hn1 : 1 ≤ n := by omega
  clear hn
  go_enter Tryz.func92, Tryz.ntmps92
  go_upto_region 2 with (go_at_call 19; (with_reducible refine (O1.out _).mono ?_); (rintro e u2 ⟨v2, rfl, hv2, hb2⟩; obtain ⟨s2, a2, l2, c2, rfl⟩ := hv2.form; have HV2 := Lib.hid hv2; have HG2 := Lib.hid hb2; clear hv2 hb2))
  obtain ⟨W3, hW3⟩ : ∃ W3 : World, W3 = u2.alloc (.cells #[.bool s2, .slice a2 l2 c2] 25) := ⟨_, rfl⟩
  rw [← hW3]
  have HO : Hid (OwnG W3 w.heap.size 25 2 (.slice (some ⟨u2.heap.size, 0, none⟩) 1 1) 1 [.bool s2, .slice a2 l2 c2]) := Lib.hid (by rw [hW3]; exact OwnG.lay HG2.out.size rfl (int_nu s2 a2 l2 c2))
  have hbn0 : bnN n 0 = 1 := by simp [bnN]
  have HL : Hid (ListZ W3 [.bool s2, .slice a2 l2 c2] 1 (bnN n)) := Lib.hid ((ListZ.nil W3 (bnN n)).snoc (by rw [hbn0]; exact HV2.out.grow (ag hW3)))
  have HG3 := Lib.hid (HG2.out.trans (ag hW3))
  obtain ⟨g3, hg3⟩ : ∃ g3, u2.heap.size = g3 := ⟨_, rfl⟩
  rw [hg3] at HO
  rw [hg3]
  clear hW3 hg3 HV2 HG2 O1
  go_wp2_with fail
  go_loopg [3, 4] n (fun gk t3 t4 wr => ∃ (k g c : Nat) (xs : List Value), t3 = .slice (some ⟨g, 0, none⟩) k c ∧ t4 = .int .i64 (k : Int) ∧ 1 ≤ k ∧ k ≤ n + 1 ∧ Hid (gk = n + 1 - k) ∧ Hid (OwnG wr w.heap.size 25 2 (.slice (some ⟨g, 0, none⟩) k c) k xs) ∧ Hid (ListZ wr xs k (bnN n)) ∧ Hid (Grow w wr))
  case atStart => exact ⟨1, g3, 1, _, rfl, rfl, Nat.le_refl _, by omega, Lib.hid (by omega), HO, HL, HG3⟩
  case round =>
    clear HO HL HG3
    obtain ⟨k, g, c, xs, rfl, rfl, hk1, hk2, HGK, HO, HL, HG⟩ := hrel
    by_cases hkn : k = n + 1
    · have y1 : decide ((k : Int) ≤ (n : Int)) = false := by simp; omega
      have y1n : decide (k ≤ n) = false := by simp; omega
      go_wp2_with fail
      clear y1 y1n
      subst hkn
      go_ret
      exact ⟨g, c, rfl, own_rowz HO.out.own HL.out, HG.out, (own_cells HO.out.own).2.1⟩
    · have y1 : decide ((k : Int) ≤ (n : Int)) = true := by simp; omega
      have y1n : decide (k ≤ n) = true := by simp; omega
      obtain ⟨q, hq⟩ : ∃ q, k = q + 1 := ⟨k - 1, by omega⟩
      obtain ⟨m, hm⟩ : ∃ m, m + k = n + 1 := ⟨n + 1 - k, by omega⟩
      obtain ⟨hdv, hex, hbd⟩ := bn_tab n HN.out k q m hq hm (by omega)
      have hrz := own_rowz HO.out.own HL.out
      obtain ⟨se, ae, le, ce, p0, p1, hve⟩ := hrz.at2 q (by omega)
      have hglt := hrz.lt
      have DD := Lib.hid (fun (u : World) (hu : Grow wr u) => (⟨(hu.cells _ _ hglt).trans p0, (hu.cells _ _ hglt).trans p1⟩ : _ ∧ _))
      have OM := Lib.hid (fun u => ofV (m : Int) (by omega) u)
      have OK := Lib.hid (fun u => ofV (k : Int) (by omega) u)
      have ML := Lib.hid (fun (u : World) (v : Value) (hu : Grow wr u) (hv : IntR u v (m : Int)) => mulV (bnN n q) (m : Int) _ v hbd u (hve.grow hu) hv)
      have EX := Lib.hid (fun (u : World) (v v' : Value) (hv : IntR u v (bnN n q * (m : Int))) (hv' : IntR u v' (k : Int)) => exactV _ (k : Int) v v' (by omega) hdv u hv hv')
      rw [hex] at EX
      have E1 : Hid (IntKind.i64.wrap ((k : Int) - 1) = (q : Int) ∧ wrap64 ((k : Int) - 1) = (q : Int)) := Lib.hid (by rw [show (k : Int) - 1 = (q : Int) by omega]; exact w64n (by omega))
      have E2 : Hid (IntKind.i64.wrap ((n : Int) + 1) = ((n + 1 : Nat) : Int) ∧ wrap64 ((n : Int) + 1) = ((n + 1 : Nat) : Int)) := Lib.hid (inc_wrap (i := n) (n := 100) (by omega) (by omega))
      have E3 : Hid (IntKind.i64.wrap ((n : Int) + 1 - (k : Int)) = (m : Int) ∧ wrap64 ((n : Int) + 1 - (k : Int)) = (m : Int)) := Lib.hid (by rw [show (n : Int) + 1 - (k : Int) = (m : Int) by omega]; exact w64n (by omega))
      have E4 : Hid (IntKind.i64.wrap (((n + 1 : Nat) : Int) - (k : Int)) = (m : Int) ∧ wrap64 (((n + 1 : Nat) : Int) - (k : Int)) = (m : Int)) := Lib.hid (by rw [show ((n + 1 : Nat) : Int) - (k : Int) = (m : Int) by omega]; exact w64n (by omega))
      have z0 : (0 : Int) ≤ (q : Int) := by omega
      have z1 : (q : Int) < (k : Int) := by omega
      have z2 : q < k := by omega
      have EI := Lib.hid (inc_wrap (i := k) (n := 100) (by omega) (by omega))
      have hk3 : k ≤ n := by omega
      have hgk3 : n + 1 - (k + 1) < n + 1 - k := by omega
      clear p0 p1 hve hrz hq hm hdv hex hbd hkn
      obtain ⟨e1, e1'⟩ := E1.out
      obtain ⟨e2, e2'⟩ := E2.out
      obtain ⟨e3, e3'⟩ := E3.out
      obtain ⟨e4, e4'⟩ := E4.out
      go_upto_region 5 with fail
      refine region_flex (id := 5) wr [⟨17, 5, .cells #[.bool false, .slice none 0 0] 25⟩] [0, 1, 2, 3, 4, 5, 6, 7, 8, 11, 9, 10, 12, 13, 14, 15, 16] [18, 19] (kdL [0, 0, 0, 0, 1, 0, 0, 0, 0, 2, 2, 0, 2, 2, 0, 0, 0, 2, 3, 0]) (by kernel_rfl) (by kernel_rfl) (fun t ht => kdL_lt _ t ht) (by simp) (by simp) ?hgp ?halp ?_
      case hgp => (repeat (first | with_reducible exact Grow.refl _ | with_reducible refine Grow.alloc ?_ _ | with_reducible refine Grow.drew ?_ | with_reducible refine Grow.drewN ?_ _ | (with_reducible refine Grow.setCell ?_ ?hp _; (case hp => (simp; try omega))) | with_reducible refine Grow.trans ?_ (by assumption)))
      case halp => (intro x hx; simp only [List.mem_cons, List.not_mem_nil, or_false] at hx; subst hx; all_goals (refine ⟨⟨_, rfl, rfl⟩, fun K a u hK => ?_⟩; refine wpOp_step rfl (fun K' hK' => ?_); go_simp; exact hK' _ _ hK))
      refine flex_quiet (v := ?vp0) rfl rfl (fun t => Or.inl ⟨by rfl, ?hyp0⟩) ?_
      case hyp0 => (intro u hu; simp only [aof, List.foldl_cons, List.foldl_nil, Act.put, List.setIfInBounds_toArray, List.set_cons_zero, List.set_cons_succ]; go_simp; (try with_reducible rfl))
      (try simp only [Act.put, List.setIfInBounds_toArray, List.set_cons_zero, List.set_cons_succ])
      refine flex_quiet (v := ?vp1) rfl rfl (fun t => Or.inl ⟨by rfl, ?hyp1⟩) ?_
      case hyp1 => (intro u hu; simp only [aof, List.foldl_cons, List.foldl_nil, Act.put, List.setIfInBounds_toArray, List.set_cons_zero, List.set_cons_succ]; go_simp; (try with_reducible rfl))
      (try simp only [Act.put, List.setIfInBounds_toArray, List.set_cons_zero, List.set_cons_succ])
      refine flex_quiet (v := ?vp2) rfl rfl (fun t => Or.inl ⟨by rfl, ?hyp2⟩) ?_
      case hyp2 => (intro u hu; simp only [aof, List.foldl_cons, List.foldl_nil, Act.put, List.setIfInBounds_toArray, List.set_cons_zero, List.set_cons_succ]; go_simp; (try with_reducible rfl))
      (try simp only [Act.put, List.setIfInBounds_toArray, List.set_cons_zero, List.set_cons_succ])
      refine flex_quiet (v := ?vp3) rfl rfl (fun t => Or.inl ⟨by rfl, ?hyp3⟩) ?_
      case hyp3 => (intro u hu; simp only [aof, List.foldl_cons, List.foldl_nil, Act.put, List.setIfInBounds_toArray, List.set_cons_zero, List.set_cons_succ]; go_simp; (try with_reducible rfl))
      (try simp only [Act.put, List.setIfInBounds_toArray, List.set_cons_zero, List.set_cons_succ])
      refine flex_read (v := ?vp4) rfl rfl (fun t => Or.inl ⟨by rfl, ?hyp4⟩) ?_
      case hyp4 => (intro u hu; obtain ⟨d0, d1⟩ := DD.out u hu; simp only [aof, List.foldl_cons, List.foldl_nil, Act.put, List.setIfInBounds_toArray, List.set_cons_zero, List.set_cons_succ]; go_simp; (try with_reducible rfl))
      (try simp only [Act.put, List.setIfInBounds_toArray, List.set_cons_zero, List.set_cons_succ])
      refine flex_quiet (v := ?vp5) rfl rfl (fun t => Or.inl ⟨by rfl, ?hyp5⟩) ?_
      case hyp5 => (intro u hu; simp only [aof, List.foldl_cons, List.foldl_nil, Act.put, List.setIfInBounds_toArray, List.set_cons_zero, List.set_cons_succ]; go_simp; (try with_reducible rfl))
      (try simp only [Act.put, List.setIfInBounds_toArray, List.set_cons_zero, List.set_cons_succ])
      refine flex_quiet (v := ?vp6) rfl rfl (fun t => Or.inl ⟨by rfl, ?hyp6⟩) ?_
      case hyp6 => (intro u hu; simp only [aof, List.foldl_cons, List.foldl_nil, Act.put, List.setIfInBounds_toArray, List.set_cons_zero, List.set_cons_succ]; go_simp; (try with_reducible rfl))
      (try simp only [Act.put, List.setIfInBounds_toArray, List.set_cons_zero, List.set_cons_succ])
      refine flex_quiet (v := ?vp7) rfl rfl (fun t => Or.inl ⟨by rfl, ?hyp7⟩) ?_
      case hyp7 => (intro u hu; simp only [aof, List.foldl_cons, List.foldl_nil, Act.put, List.setIfInBounds_toArray, List.set_cons_zero, List.set_cons_succ]; go_simp; (try with_reducible rfl))
      (try simp only [Act.put, List.setIfInBounds_toArray, List.set_cons_zero, List.set_cons_succ])
      refine flex_quiet (v := ?vp8) rfl rfl (fun t => Or.inl ⟨by rfl, ?hyp8⟩) ?_
      case hyp8 => (intro u hu; simp only [aof, List.foldl_cons, List.foldl_nil, Act.put, List.setIfInBounds_toArray, List.set_cons_zero, List.set_cons_succ]; go_simp; (try with_reducible rfl))
      (try simp only [Act.put, List.setIfInBounds_toArray, List.set_cons_zero, List.set_cons_succ])
      refine flex_quiet (v := ?vp11) rfl rfl (fun t => Or.inl ⟨by rfl, ?hyp11⟩) ?_
      case hyp11 => (intro u hu; simp only [aof, List.foldl_cons, List.foldl_nil, Act.put, List.setIfInBounds_toArray, List.set_cons_zero, List.set_cons_succ]; go_simp; (try with_reducible rfl))
      (try simp only [Act.put, List.setIfInBounds_toArray, List.set_cons_zero, List.set_cons_succ])
      refine flex_op rfl rfl (fun t9 u9 hu9 K hK => ?_)
      simp only [aof, List.foldl_cons, List.foldl_nil, Act.put, List.setIfInBounds_toArray, List.set_cons_zero, List.set_cons_succ]
      go_simp
      (go_at_call 19; (with_reducible refine (OM.out _).mono ?_); (rintro e u4 ⟨v4, rfl, hv4, hb4⟩; obtain ⟨s4, a4, l4, c4, rfl⟩ := hv4.form; have HV4 := Lib.hid hv4; clear hv4))
      (try go_wp2_with fail)
      refine hK.out _ (.agg #[.bool s4, .slice a4 l4 c4]) _ ?hep9 ?hgp9 ?_
      case hep9 => (simp only [aof, List.foldl_cons, List.foldl_nil, Act.put, List.setIfInBounds_toArray, List.set_cons_zero, List.set_cons_succ])
      case hgp9 => (repeat (first | with_reducible exact Grow.refl _ | with_reducible refine Grow.alloc ?_ _ | with_reducible refine Grow.drew ?_ | with_reducible refine Grow.drewN ?_ _ | (with_reducible refine Grow.setCell ?_ ?hp _; (case hp => (simp; try omega))) | with_reducible refine Grow.trans ?_ (by assumption)))
      clear hK K t9
      (try simp only [Act.put, List.setIfInBounds_toArray, List.set_cons_zero, List.set_cons_succ])
      refine flex_op rfl rfl (fun t10 u10 hu10 K hK => ?_)
      simp only [aof, List.foldl_cons, List.foldl_nil, Act.put, List.setIfInBounds_toArray, List.set_cons_zero, List.set_cons_succ]
      go_simp
      (go_at_call 25; (with_reducible refine (ML.out _ _ (by (repeat (first | with_reducible exact Grow.refl _ | with_reducible refine Grow.alloc ?_ _ | with_reducible refine Grow.drew ?_ | with_reducible refine Grow.drewN ?_ _ | (with_reducible refine Grow.setCell ?_ ?hp _; (case hp => (simp; try omega))) | with_reducible refine Grow.trans ?_ (by assumption)))) (HV4.out.grow (by (repeat (first | with_reducible exact Grow.refl _ | with_reducible refine Grow.alloc ?_ _ | with_reducible refine Grow.drew ?_ | with_reducible refine Grow.drewN ?_ _ | (with_reducible refine Grow.setCell ?_ ?hp _; (case hp => (simp; try omega))) | with_reducible refine Grow.trans ?_ (by assumption)))))).mono ?_); (rintro e u5 ⟨v5, rfl, hv5, hb5⟩; obtain ⟨s5, a5, l5, c5, rfl⟩ := hv5.form; have HV5 := Lib.hid hv5; clear hv5))
      (try go_wp2_with fail)
      refine hK.out _ (.agg #[.bool s5, .slice a5 l5 c5]) _ ?hep10 ?hgp10 ?_
      case hep10 => (simp only [aof, List.foldl_cons, List.foldl_nil, Act.put, List.setIfInBounds_toArray, List.set_cons_zero, List.set_cons_succ])
      case hgp10 => (repeat (first | with_reducible exact Grow.refl _ | with_reducible refine Grow.alloc ?_ _ | with_reducible refine Grow.drew ?_ | with_reducible refine Grow.drewN ?_ _ | (with_reducible refine Grow.setCell ?_ ?hp _; (case hp => (simp; try omega))) | with_reducible refine Grow.trans ?_ (by assumption)))
      clear hK K t10
      (try simp only [Act.put, List.setIfInBounds_toArray, List.set_cons_zero, List.set_cons_succ])
      refine flex_op rfl rfl (fun t12 u12 hu12 K hK => ?_)
      simp only [aof, List.foldl_cons, List.foldl_nil, Act.put, List.setIfInBounds_toArray, List.set_cons_zero, List.set_cons_succ]
      go_simp
      (go_at_call 19; (with_reducible refine (OK.out _).mono ?_); (rintro e u6 ⟨v6, rfl, hv6, hb6⟩; obtain ⟨s6, a6, l6, c6, rfl⟩ := hv6.form; have HV6 := Lib.hid hv6; clear hv6))
      (try go_wp2_with fail)
      refine hK.out _ (.agg #[.bool s6, .slice a6 l6 c6]) _ ?hep12 ?hgp12 ?_
      case hep12 => (simp only [aof, List.foldl_cons, List.foldl_nil, Act.put, List.setIfInBounds_toArray, List.set_cons_zero, List.set_cons_succ])
      case hgp12 => (repeat (first | with_reducible exact Grow.refl _ | with_reducible refine Grow.alloc ?_ _ | with_reducible refine Grow.drew ?_ | with_reducible refine Grow.drewN ?_ _ | (with_reducible refine Grow.setCell ?_ ?hp _; (case hp => (simp; try omega))) | with_reducible refine Grow.trans ?_ (by assumption)))
      clear hK K t12
      (try simp only [Act.put, List.setIfInBounds_toArray, List.set_cons_zero, List.set_cons_succ])
      refine flex_op rfl rfl (fun t13 u13 hu13 K hK => ?_)
      simp only [aof, List.foldl_cons, List.foldl_nil, Act.put, List.setIfInBounds_toArray, List.set_cons_zero, List.set_cons_succ]
      go_simp
      (go_at_call 50; (with_reducible refine (EX.out _ _ _ (HV5.out.grow (by (repeat (first | with_reducible exact Grow.refl _ | with_reducible refine Grow.alloc ?_ _ | with_reducible refine Grow.drew ?_ | with_reducible refine Grow.drewN ?_ _ | (with_reducible refine Grow.setCell ?_ ?hp _; (case hp => (simp; try omega))) | with_reducible refine Grow.trans ?_ (by assumption))))) (HV6.out.grow (by (repeat (first | with_reducible exact Grow.refl _ | with_reducible refine Grow.alloc ?_ _ | with_reducible refine Grow.drew ?_ | with_reducible refine Grow.drewN ?_ _ | (with_reducible refine Grow.setCell ?_ ?hp _; (case hp => (simp; try omega))) | with_reducible refine Grow.trans ?_ (by assumption)))))).mono ?_); (rintro e u7 ⟨v7, rfl, hv7, hb7⟩; obtain ⟨s7, a7, l7, c7, rfl⟩ := hv7.form; have HV7 := Lib.hid hv7; clear hv7))
      (try go_wp2_with fail)
      refine hK.out _ (.tuple #[.agg #[.bool s7, .slice a7 l7 c7], .int .i64 0]) _ ?hep13 ?hgp13 ?_
      case hep13 => (simp only [aof, List.foldl_cons, List.foldl_nil, Act.put, List.setIfInBounds_toArray, List.set_cons_zero, List.set_cons_succ])
      case hgp13 => (repeat (first | with_reducible exact Grow.refl _ | with_reducible refine Grow.alloc ?_ _ | with_reducible refine Grow.drew ?_ | with_reducible refine Grow.drewN ?_ _ | (with_reducible refine Grow.setCell ?_ ?hp _; (case hp => (simp; try omega))) | with_reducible refine Grow.trans ?_ (by assumption)))
      clear hK K t13
      (try simp only [Act.put, List.setIfInBounds_toArray, List.set_cons_zero, List.set_cons_succ])
      refine flex_quiet (v := ?vp14) rfl rfl (fun t => Or.inl ⟨by rfl, ?hyp14⟩) ?_
      case hyp14 => (intro u hu; simp only [aof, List.foldl_cons, List.foldl_nil, Act.put, List.setIfInBounds_toArray, List.set_cons_zero, List.set_cons_succ]; go_simp; (try with_reducible rfl))
      (try simp only [Act.put, List.setIfInBounds_toArray, List.set_cons_zero, List.set_cons_succ])
      refine flex_quiet (v := ?vp15) rfl rfl (fun t => Or.inl ⟨by rfl, ?hyp15⟩) ?_
      case hyp15 => (intro u hu; simp only [aof, List.foldl_cons, List.foldl_nil, Act.put, List.setIfInBounds_toArray, List.set_cons_zero, List.set_cons_succ]; go_simp; (try with_reducible rfl))
      (try simp only [Act.put, List.setIfInBounds_toArray, List.set_cons_zero, List.set_cons_succ])
      refine flex_quiet (v := ?vp16) rfl rfl (fun t => Or.inl ⟨by rfl, ?hyp16⟩) ?_
      case hyp16 => (intro u hu; simp only [aof, List.foldl_cons, List.foldl_nil, Act.put, List.setIfInBounds_toArray, List.set_cons_zero, List.set_cons_succ]; go_simp; (try with_reducible rfl))
      (try simp only [Act.put, List.setIfInBounds_toArray, List.set_cons_zero, List.set_cons_succ])
      refine flex_done (fun Fp up hup hFp hNp => ?_)
      have hFp0 := hFp ⟨17, 5, .cells #[.bool false, .slice none 0 0] 25⟩ (by simp)
      clear hFp hNp
      (try simp only [aof, List.foldl_cons, List.foldl_nil, Act.put, List.setIfInBounds_toArray, List.set_cons_zero, List.set_cons_succ, ptrX])
      generalize Fp 17 = Fbp0 at *
      clear Fp
      have hFX := hFp0
      obtain ⟨hFx, hF1, hF2, hF3⟩ := hFp0
      obtain ⟨o0, o1, of, oz⟩ := ak2 rfl _ hF3
      rw [hF2] at o0 o1 of oz
      refine held_last rfl rfl (fun K hK => ?_)
      go_simp
      refine hK.out _ _ ?_
      clear hK K
      (try simp only [Act.put])
      refine held_quiet (v := ?vp19) rfl rfl (Or.inl ⟨by rfl, ?hyp19⟩) ?_
      case hyp19 => (intro u hu; go_simp; (try with_reducible rfl))
      (try simp only [Act.put])
      refine held_done ?_
      obtain ⟨hG3, hX3, hX⟩ := hFX.putI (HV7.out.grow hup)
      obtain ⟨w3, hw3⟩ : ∃ w3, (up.setCell ⟨Fbp0, 0, none⟩ (.bool s7)).setCell ⟨Fbp0, 1, none⟩ (.slice a7 l7 c7) = w3 := ⟨_, rfl⟩
      rw [hw3] at hG3 hX3 ⊢
      have HG3 := Lib.hid hG3
      have HX3 := Lib.hid hX3
      clear hw3 hG3 hX3 HV7 HV4 HV5 HV6 hup hFX o0 o1 of oz hFx hF1 hF2 hF3 hb4 hb5 hb6 hb7
      clear e1 e1' e2 e2' e3 e3' e4 e4' y1 y1n DD OM OK ML EX hX
      generalize Fbp0 = X at *
      obtain ⟨sx, ax, lx, cx, hcX, hvX⟩ := int_cells HX3.out
      obtain ⟨x0, x1, x2, x3⟩ := hcX w3 (Grow.refl _)
      have HVX := Lib.hid hvX
      clear hcX hvX
      go_wp2_with (at_builtin; go_loud (refine wpList_append_g _ rfl _ _ 120 rfl 25 ir _ 2 32 Tryz.underlying120 hir irz0 irz1 irz2 rfl (by decide) int_zero_nu (by decide) w.heap.size _ k xs rfl (HO.out.grow (HG3.out.trans (by (repeat (first | with_reducible exact Grow.refl _ | with_reducible refine Grow.alloc ?_ _ | with_reducible refine Grow.drew ?_ | with_reducible refine Grow.drewN ?_ _ | (with_reducible refine Grow.setCell ?_ ?hp _; (case hp => (simp; try omega))) | with_reducible refine Grow.trans ?_ (by assumption)))))) ⟨w3.heap.size, 0, none⟩ 1 [.bool sx, .slice ax lx cx] rfl rfl (int_news w3 sx ax lx cx 25) (int_one sx ax lx cx) (int_nu sx ax lx cx) (by omega) (Nat.le_trans (HG.out.trans HG3.out).size (by simp)) ?_))
      intro v7 w7 hown7 hb7
      obtain ⟨g7, c7, hv7, hg7a, hg7b⟩ := own_slice hown7.own (by omega)
      subst hv7
      have hga : Grow wr (w3.alloc (.cells #[.bool sx, .slice ax lx cx] 25)) := HG3.out.trans (by (repeat (first | with_reducible exact Grow.refl _ | with_reducible refine Grow.alloc ?_ _ | with_reducible refine Grow.drew ?_ | with_reducible refine Grow.drewN ?_ _ | (with_reducible refine Grow.setCell ?_ ?hp _; (case hp => (simp; try omega))) | with_reducible refine Grow.trans ?_ (by assumption))))
      have HL7 := Lib.hid (((HL.out.grow hga).snoc (HVX.out.grow (by (repeat (first | with_reducible exact Grow.refl _ | with_reducible refine Grow.alloc ?_ _ | with_reducible refine Grow.drew ?_ | with_reducible refine Grow.drewN ?_ _ | (with_reducible refine Grow.setCell ?_ ?hp _; (case hp => (simp; try omega))) | with_reducible refine Grow.trans ?_ (by assumption)))))).but hb7)
      have HO7 := Lib.hid hown7
      have HG7 := Lib.hid ((((HG.out.trans hga).but _).trans hb7).asGrow (fun b hb => hb))
      clear hga hown7 hb7 x0 x1 x2 x3 hg7a hg7b
      obtain ⟨ei, ei'⟩ := EI.out
      go_wp2_with fail
      clear ei ei'
      go_roundg (n + 1 - (k + 1))
      case measure => have := HGK.out; omega
      case rel => exact ⟨k + 1, g7, c7, _, rfl, rfl, by omega, by omega, Lib.hid rfl, HO7, HL7, HG7⟩
end Go.Proofs.YtbpkfcohbefphaaGreatDoor
namespace Go.Proofs.YtbpkfcohbefphaaGreatDoor
open Go Go.RowKit
theorem mulQk (x y z : Rat) (h : x * y = z ∧ (x.num * y.num).natAbs < 4294967296 ∧ ((x.den : Int) * (y.den : Int)).natAbs < 4294967296) (v1 v2 : Value) (w : World) (h1 : RatR w v1 x) (h2 : RatR w v2 y) : Calls Tryz.prog 34 #[v1, v2] w fun e w' => ∃ v, e = .returned v ∧ RatR w' v z ∧ Grow w w' := by
  have h3 := mulQ x y v1 v2 h.2.1 h.2.2 w h1 h2
  rw [h.1] at h3
  exact h3
theorem addQk (x y z : Rat) (h : x + y = z ∧ (x.num * (y.den : Int)).natAbs < 4294967296 ∧ (y.num * (x.den : Int)).natAbs < 4294967296 ∧ (x.num * (y.den : Int) + y.num * (x.den : Int)).natAbs < 4294967296 ∧ ((x.den : Int) * (y.den : Int)).natAbs < 4294967296) (v1 v2 : Value) (w : World) (h1 : RatR w v1 x) (h2 : RatR w v2 y) : Calls Tryz.prog 8 #[v1, v2] w fun e w' => ∃ v, e = .returned v ∧ RatR w' v z ∧ Grow w w' := by
  have h3 := addQ x y v1 v2 h.2 w h1 h2
  rw [h.1] at h3
  exact h3
theorem quoQk (x y z : Rat) (h : x / y = z ∧ y ≠ 0 ∧ (x.num * (y.den : Int)).natAbs < 4294967296 ∧ ((x.den : Int) * y.num).natAbs < 4294967296) (v1 v2 : Value) (w : World) (h1 : RatR w v1 x) (h2 : RatR w v2 y) : Calls Tryz.prog 115 #[v1, v2] w fun e w' => ∃ v, e = .returned (.tuple #[v, .int .i64 0]) ∧ RatR w' v z ∧ Grow w w' := by
  have h3 := quoQ x y v1 v2 h.2.1 h.2.2.1 h.2.2.2 w h1 h2
  rw [h.1] at h3
  exact h3
/-- The first two Bernoulli numbers. -/
def nbN (j : Nat) : Rat := if j = 0 then 1 else mkRat (-1) 2
theorem OwnG.butg {X : Nat → Prop} {w w1 : World} {base g c size n : Nat} {t : TypeId} {xs : List Value} (h : OwnG w base t size (.slice (some ⟨g, 0, none⟩) n c) n xs) (hg : But X w w1) (hX : ¬ X g) : OwnG w1 base t size (.slice (some ⟨g, 0, none⟩) n c) n xs := by
  refine ⟨h.1, ?_⟩
  rcases h.2 with h2 | ⟨g', cap, cur, hv, hb, hh, h3⟩
  · exact .inl h2
  · refine .inr ⟨g', cap, cur, hv, hb, ?_, h3⟩
    injection hv with e1 e2 e3
    injection e1 with e1
    injection e1 with e1
    subst e1
    exact (hg.block g (Array.getElem?_eq_some_iff.1 hh).1 hX).trans hh
theorem RowZ.butg {X : Nat → Prop} {w w' : World} {B m : Nat} {r : Nat → Int} (h : RowZ w B m r) (hg : But X w w') (hX : ¬ X B) : RowZ w' B m r :=
  ⟨Nat.lt_of_lt_of_le h.lt hg.size, fun j hj => by
    obtain ⟨s, a, l, c, h1, h2, h3⟩ := h.at2 j hj
    exact ⟨s, a, l, c, (hg.cells _ _ h.lt hX).trans h1, (hg.cells _ _ h.lt hX).trans h2, h3.but hg⟩⟩
/-- One cell block of a fraction: what it reads as later. -/
theorem RowQ.cell4 {w : World} {B : Nat} {r : Nat → Rat} (h : RowQ w B 0 1 r) : ∃ s a l c t b k e, (∀ u, Grow w u → u.cell? ⟨B, 0, none⟩ = some (.bool s) ∧ u.cell? ⟨B, 1, none⟩ = some (.slice a l c) ∧ u.cell? ⟨B, 2, none⟩ = some (.bool t) ∧ u.cell? ⟨B, 3, none⟩ = some (.slice b k e) ∧ (∀ o, u.frozen? ⟨B, o, none⟩ = false) ∧ B < u.heap.size) ∧ RatR w (.agg #[.bool s, .slice a l c, .bool t, .slice b k e]) (r 0) := by
  obtain ⟨s, a, l, c, t, b, k, e, ⟨p0, p1, p2, p3⟩, hv⟩ := RowQ.at4 h (show 0 < 1 by omega)
  rw [Nat.zero_mul, Nat.add_zero] at p0 p1 p2 p3
  have hl := h.lt
  have hf := h.free
  exact ⟨s, a, l, c, t, b, k, e, fun u hg => ⟨(hg.cells _ _ hl).trans p0, (hg.cells _ _ hl).trans p1, (hg.cells _ _ hl).trans p2, (hg.cells _ _ hl).trans p3, fun o => (hg.frees _ _ hl).trans (hf o), Nat.lt_of_lt_of_le hl hg.size⟩, hv⟩
/-- A fraction stored into its cell. -/
theorem RowQ.put {w u : World} {B : Nat} {r : Nat → Rat} (h : RowQ w B 0 1 r) (hu : Grow w u) {s : Bool} {a : Option Addr} {l c : Nat} {t : Bool} {b : Option Addr} {k e : Nat} {x : Rat} (hx : RatR u (.agg #[.bool s, .slice a l c, .bool t, .slice b k e]) x) :
    RowQ (st4 u B 0 (.bool s) (.slice a l c) (.bool t) (.slice b k e)) B 0 1 (fun _ => x) ∧ But (fun y => y = B) w (st4 u B 0 (.bool s) (.slice a l c) (.bool t) (.slice b k e)) := by
  have h1 := RowP.set (RowP.grow h hu) (show 0 < 1 by omega) hx
  have h2 := But.st4 (X := fun b => b = B) (hu.but _) (.inr rfl) ((RowP.grow h hu).q4 (show 0 < 1 by omega)) s a l c t b k e
  simp only [Nat.zero_mul, Nat.add_zero] at h1 h2
  exact ⟨RowP.mono h1 (Nat.le_refl _) (fun j x hj hx => by rw [if_pos (by omega)]; exact hx), h2⟩
/-- An element of an own row. -/
theorem RowQ.cellj {w : World} {B n : Nat} {r : Nat → Rat} (h : RowQ w B 0 n r) (j : Nat) (hj : j < n) : ∃ s a l c t b k e, (∀ u, Grow w u → u.cell? ⟨B, j * 4, none⟩ = some (.bool s) ∧ u.cell? ⟨B, j * 4 + 1, none⟩ = some (.slice a l c) ∧ u.cell? ⟨B, j * 4 + 2, none⟩ = some (.bool t) ∧ u.cell? ⟨B, j * 4 + 3, none⟩ = some (.slice b k e)) ∧ RatR w (.agg #[.bool s, .slice a l c, .bool t, .slice b k e]) (r j) := by
  obtain ⟨s, a, l, c, t, b, k, e, ⟨p0, p1, p2, p3⟩, hv⟩ := RowQ.at4 h hj
  rw [Nat.zero_add] at p0 p1 p2 p3
  have hl := h.lt
  exact ⟨s, a, l, c, t, b, k, e, fun u hg => ⟨(hg.cells _ _ hl).trans p0, (hg.cells _ _ hl).trans p1, (hg.cells _ _ hl).trans p2, (hg.cells _ _ hl).trans p3⟩, hv⟩
set_option maxRecDepth 20000 in
set_option maxHeartbeats 8000000 in
theorem numbers1Q (w : World) : Calls Tryz.prog 91 #[.int .i64 1] w fun e w' => ∃ g c, e = .returned (.slice (some ⟨g, 0, none⟩) 2 c) ∧ RowQ w' g 0 2 nbN ∧ Grow w w' ∧ w.heap.size ≤ g := by
  obtain ⟨ir, hir, irz0, irz1, irz2⟩ := info_parts infoRat
  have O1 := Lib.hid (fun u => ofQ 1 (by decide) u)
  have O0 := Lib.hid (fun u => ofQ 0 (by decide) u)
  have BR : Hid (∀ u, Calls Tryz.prog 92 #[.int .i64 2] u fun e w' => ∃ g c, e = .returned (.slice (some ⟨g, 0, none⟩) 3 c) ∧ RowZ w' g 3 (bnN 2) ∧ Grow u w' ∧ u.heap.size ≤ g) := Lib.hid (fun u => bnrowQ 2 (.inr rfl) u)
  go_enter Tryz.func91, Tryz.ntmps91
  go_upto_region 2 with (go_at_call 20; (with_reducible refine (O1.out _).mono ?_); (rintro e u2 ⟨v2, rfl, hv2, hb2⟩; obtain ⟨s2, a2, l2, c2, t2, b2, k2, e2, rfl⟩ := hv2.form; have HV2 := Lib.hid hv2; have HG2 := Lib.hid hb2; clear hv2 hb2))
  obtain ⟨W3, hW3⟩ : ∃ W3 : World, W3 = u2.alloc (.cells #[.bool s2, .slice a2 l2 c2, .bool t2, .slice b2 k2 e2] 27) := ⟨_, rfl⟩
  rw [← hW3]
  have HO : Hid (OwnG W3 w.heap.size 27 4 (.slice (some ⟨u2.heap.size, 0, none⟩) 1 1) 1 [.bool s2, .slice a2 l2 c2, .bool t2, .slice b2 k2 e2]) := Lib.hid (by rw [hW3]; exact OwnG.lay HG2.out.size rfl (rat_nu s2 a2 l2 c2 t2 b2 k2 e2))
  have hn00 : nbN 0 = ((1 : Int) : Rat) := by decide +kernel
  have HL : Hid (ListR W3 [.bool s2, .slice a2 l2 c2, .bool t2, .slice b2 k2 e2] 1 nbN) := Lib.hid (((listr_one HV2.out).grow (ag hW3)).cong (fun j hj => by rw [show j = 0 by omega, hn00]))
  have HG3 := Lib.hid (HG2.out.trans (ag hW3))
  obtain ⟨g3, hg3⟩ : ∃ g3, u2.heap.size = g3 := ⟨_, rfl⟩
  rw [hg3] at HO
  rw [hg3]
  clear hW3 hg3 HV2 HG2 O1
  go_wp2_with fail
  go_loopg [3, 4] 1 (fun gk t3 t4 wr => ∃ (g c : Nat), (t3 = .slice (some ⟨g, 0, none⟩) 1 c ∧ t4 = .int .i64 1 ∧ Hid (gk = 1) ∧ Hid (∃ xs, OwnG wr w.heap.size 27 4 (.slice (some ⟨g, 0, none⟩) 1 c) 1 xs ∧ ListR wr xs 1 nbN) ∧ Hid (Grow w wr)) ∨ (t3 = .slice (some ⟨g, 0, none⟩) 2 c ∧ t4 = .int .i64 2 ∧ Hid (gk = 0) ∧ Hid (RowQ wr g 0 2 nbN ∧ w.heap.size ≤ g) ∧ Hid (Grow w wr)))
  case atStart => exact ⟨g3, 1, .inl ⟨rfl, rfl, Lib.hid rfl, Lib.hid ⟨_, HO.out, HL.out⟩, HG3⟩⟩
  case round =>
    clear HO HL HG3
    obtain ⟨g, c, ⟨rfl, rfl, HGK, HX, HG⟩ | ⟨rfl, rfl, HGK, HR, HG⟩⟩ := hrel
    case inr =>
      go_wp2_with fail
      go_ret
      exact ⟨g, c, rfl, HR.out.1, HG.out, HR.out.2⟩
    case inl =>
      obtain ⟨xs, hO, hL⟩ := HX.out
      have HO := Lib.hid hO
      have HL := Lib.hid hL
      clear HX hO hL
      have HRG := Lib.hid (own_rowq HO.out.own HL.out)
      have hgl := HRG.out.lt
      have hgb := (own_cells HO.out.own).2.1
      go_upto_region 6 with (go_at_call 20; (with_reducible refine (O0.out _).mono ?_); (rintro e u4 ⟨v4, rfl, hv4, hb4⟩; obtain ⟨s4, a4, l4, c4, t4, b4, k4, e4, rfl⟩ := hv4.form; have HV4 := Lib.hid hv4; have HG4 := Lib.hid hb4; clear hv4 hb4))
      obtain ⟨W5, hW5⟩ : ∃ W5 : World, W5 = u4.alloc (.cells #[.bool s4, .slice a4 l4 c4, .bool t4, .slice b4 k4 e4] 27) := ⟨_, rfl⟩
      rw [← hW5]
      have HX5 := Lib.hid (rowq_lay hW5 HV4.out)
      have HG5 := Lib.hid (HG4.out.trans (ag hW5))
      have hzx : wr.heap.size ≤ u4.heap.size := HG4.out.size
      have hz5 : W5.heap.size = u4.heap.size + 1 := by rw [hW5]; simp
      obtain ⟨X, hX⟩ : ∃ X, u4.heap.size = X := ⟨_, rfl⟩
      rw [hX] at HX5 hzx hz5
      rw [hX]
      clear hW5 hX HV4 HG4
      have hwX : w.heap.size ≤ X := Nat.le_trans HG.out.size hzx
      go_upto_region 7 with (go_at_call 92; (with_reducible refine (BR.out _).mono ?_); (rintro e u6 ⟨g6, c6, rfl, hz6, hb6, hgg6⟩; have HZ6 := Lib.hid hz6; have HG6 := Lib.hid hb6; clear hz6 hb6))
      have HX6 := Lib.hid (RowP.grow HX5.out HG6.out)
      have HG56 := Lib.hid (HG5.out.trans HG6.out)
      have hgX : ¬ g = X := by omega
      have hg6X : ¬ g6 = X := by omega
      clear HX5 O0 BR
      go_wp2_with fail
      go_loopg [24] 1 (fun gi t24 wr => (t24 = .int .i64 0 ∧ Hid (gi = 1) ∧ Hid (RowQ wr X 0 1 (fun _ => ((0 : Int) : Rat))) ∧ Hid (But (fun y => y = X) u6 wr)) ∨ (t24 = .int .i64 1 ∧ Hid (gi = 0) ∧ Hid (RowQ wr X 0 1 (fun _ => ((1 : Int) : Rat))) ∧ Hid (But (fun y => y = X) u6 wr)))
      case atStart => exact .inl ⟨rfl, Lib.hid rfl, HX6, Lib.hid (But.refl _ _)⟩
      case round =>
        clear HX6
        obtain ⟨rfl, HGI, HX, HB⟩ | ⟨rfl, HGI, HX, HB⟩ := hrel
        case inl =>
          have hbw := (HG56.out.but (fun y => y = X)).trans HB.out
          have HRI := Lib.hid (RowP.but HRG.out hgX hbw)
          have HZI := Lib.hid (HZ6.out.butg HB.out hg6X)
          obtain ⟨s7, a7, l7, c7, t7, b7, k7, e7, hcg, hvg⟩ := RowQ.cellj HRI.out 0 (by omega)
          obtain ⟨s8, a8, l8, c8, z0, z1, hvz⟩ := HZI.out.at2 0 (by omega)
          obtain ⟨s9, a9, l9, c9, t9, b9, k9, e9, hcx, hvx⟩ := RowQ.cell4 HX.out
          simp only [Nat.zero_mul, Nat.zero_add] at hcg z0 z1
          have hg6l := HZI.out.lt
          obtain ⟨p0, p1, p2, p3⟩ := hcg wr (Grow.refl _)
          go_upto_region 10 with fail
          obtain ⟨W9, hW9⟩ : ∃ W9 : World, W9 = wr.alloc (.cells #[.bool s7, .slice a7 l7 c7, .bool t7, .slice b7 k7 e7] 27) := ⟨_, rfl⟩
          rw [← hW9]
          have hg9 : Grow wr W9 := ag hW9
          have hn0 : nbN 0 = ((1 : Int) : Rat) := by decide +kernel
          have hb0 : bnN 2 0 = 1 := by decide
          rw [hn0] at hvg
          rw [hb0] at hvz
          have HE := Lib.hid (hvg.grow hg9)
          have HVB := Lib.hid (hvx.grow hg9)
          have D0 := Lib.hid (fun u (hu : Grow W9 u) => hcx u (hg9.trans hu))
          have D1 := Lib.hid (fun (u : World) (hu : Grow W9 u) => (⟨((hg9.trans hu).cells _ _ hg6l).trans z0, ((hg9.trans hu).cells _ _ hg6l).trans z1⟩ : _ ∧ _))
          have D2 := Lib.hid (ak4 hW9)
          have WH := Lib.hid (fun (u : World) (hu : Grow W9 u) => wholeQ 1 _ u ((hvz.grow hg9).grow hu))
          have MU := Lib.hid (fun v1 v2 (u : World) h1 h2 => mulQk ((1 : Int) : Rat) ((1 : Int) : Rat) ((1 : Int) : Rat) (by decide +kernel) v1 v2 u h1 h2)
          have AD := Lib.hid (fun v1 v2 (u : World) h1 h2 => addQk ((0 : Int) : Rat) ((1 : Int) : Rat) ((1 : Int) : Rat) (by decide +kernel) v1 v2 u h1 h2)
          have HX9 := Lib.hid (RowP.grow HX.out hg9)
          have HB9 := Lib.hid (HB.out.grow hg9)
          clear hW9 hg9 hcg hvg z0 z1 hvz hcx hvx p0 p1 p2 p3 hg6l hbw hn0 hb0
          refine region_held (id := 10) (fun u => Grow W9 u) [0, 1, 2, 3, 4, 6, 5, 7, 8, 9] (kdL [1, 0, 0, 0, 1, 2, 1, 2, 2, 3]) (by kernel_rfl) (by kernel_rfl) (fun t ht => kdL_lt _ t ht) ?hS0q ?_
          case hS0q => ((try dsimp only); (repeat (first | with_reducible exact Grow.refl _ | with_reducible refine Grow.alloc ?_ _ | with_reducible refine Grow.drew ?_ | with_reducible refine Grow.drewN ?_ _ | (with_reducible refine Grow.setCell ?_ ?hp _; (case hp => (simp; try omega))) | with_reducible refine Grow.trans ?_ (by assumption))))
          refine held_read (v := ?vq0) rfl rfl (Or.inl ⟨by rfl, ?hyq0⟩) ?_
          case hyq0 => (intro u hu; obtain ⟨d0, d1, d2, d3, d4, d5⟩ := D0.out u hu; obtain ⟨f0, f1⟩ := D1.out u hu; obtain ⟨k0, k1, k2, k3, k4, k5⟩ := D2.out u hu; go_simp; (try with_reducible rfl))
          (try simp only [Act.put, List.setIfInBounds_toArray, List.set_cons_zero, List.set_cons_succ])
          refine held_quiet (v := ?vq1) rfl rfl (Or.inl ⟨by rfl, ?hyq1⟩) ?_
          case hyq1 => (intro u hu; go_simp; (try with_reducible rfl))
          (try simp only [Act.put, List.setIfInBounds_toArray, List.set_cons_zero, List.set_cons_succ])
          refine held_quiet (v := ?vq2) rfl rfl (Or.inl ⟨by rfl, ?hyq2⟩) ?_
          case hyq2 => (intro u hu; go_simp; (try with_reducible rfl))
          (try simp only [Act.put, List.setIfInBounds_toArray, List.set_cons_zero, List.set_cons_succ])
          refine held_quiet (v := ?vq3) rfl rfl (Or.inl ⟨by rfl, ?hyq3⟩) ?_
          case hyq3 => (intro u hu; go_simp; (try with_reducible rfl))
          (try simp only [Act.put, List.setIfInBounds_toArray, List.set_cons_zero, List.set_cons_succ])
          refine held_read (v := ?vq4) rfl rfl (Or.inl ⟨by rfl, ?hyq4⟩) ?_
          case hyq4 => (intro u hu; obtain ⟨d0, d1, d2, d3, d4, d5⟩ := D0.out u hu; obtain ⟨f0, f1⟩ := D1.out u hu; obtain ⟨k0, k1, k2, k3, k4, k5⟩ := D2.out u hu; go_simp; (try with_reducible rfl))
          (try simp only [Act.put, List.setIfInBounds_toArray, List.set_cons_zero, List.set_cons_succ])
          refine held_read (v := ?vq6) rfl rfl (Or.inl ⟨by rfl, ?hyq6⟩) ?_
          case hyq6 => (intro u hu; obtain ⟨d0, d1, d2, d3, d4, d5⟩ := D0.out u hu; obtain ⟨f0, f1⟩ := D1.out u hu; obtain ⟨k0, k1, k2, k3, k4, k5⟩ := D2.out u hu; go_simp; (try with_reducible rfl))
          (try simp only [Act.put, List.setIfInBounds_toArray, List.set_cons_zero, List.set_cons_succ])
          refine held_op rfl rfl (fun K hK => ?_)
          go_simp
          (go_at_call 93; (with_reducible refine (WH.out _ (by (repeat (first | with_reducible exact Grow.refl _ | with_reducible refine Grow.alloc ?_ _ | with_reducible refine Grow.drew ?_ | with_reducible refine Grow.drewN ?_ _ | (with_reducible refine Grow.setCell ?_ ?hp _; (case hp => (simp; try omega))) | with_reducible refine Grow.trans ?_ (by assumption))))).mono ?_); (rintro x u25 ⟨v25, rfl, hv25, hb25⟩; obtain ⟨s25, a25, l25, c25, t25, b25, k25, e25, rfl⟩ := hv25.form; have HV25 := Lib.hid hv25; clear hv25))
          (try go_wp2_with fail)
          refine hK.out _ _ ?hSq5 ?_
          case hSq5 => ((try dsimp only); (repeat (first | with_reducible exact Grow.refl _ | with_reducible refine Grow.alloc ?_ _ | with_reducible refine Grow.drew ?_ | with_reducible refine Grow.drewN ?_ _ | (with_reducible refine Grow.setCell ?_ ?hp _; (case hp => (simp; try omega))) | with_reducible refine Grow.trans ?_ (by assumption))))
          clear hK K
          (try simp only [Act.put, List.setIfInBounds_toArray, List.set_cons_zero, List.set_cons_succ])
          refine held_op rfl rfl (fun K hK => ?_)
          go_simp
          (go_at_call 34; (with_reducible refine (MU.out _ _ _ (HV25.out.grow (by (repeat (first | with_reducible exact Grow.refl _ | with_reducible refine Grow.alloc ?_ _ | with_reducible refine Grow.drew ?_ | with_reducible refine Grow.drewN ?_ _ | (with_reducible refine Grow.setCell ?_ ?hp _; (case hp => (simp; try omega))) | with_reducible refine Grow.trans ?_ (by assumption))))) (HE.out.grow (by (repeat (first | with_reducible exact Grow.refl _ | with_reducible refine Grow.alloc ?_ _ | with_reducible refine Grow.drew ?_ | with_reducible refine Grow.drewN ?_ _ | (with_reducible refine Grow.setCell ?_ ?hp _; (case hp => (simp; try omega))) | with_reducible refine Grow.trans ?_ (by assumption)))))).mono ?_); (rintro x u27 ⟨v27, rfl, hv27, hb27⟩; obtain ⟨s27, a27, l27, c27, t27, b27, k27, e27, rfl⟩ := hv27.form; have HV27 := Lib.hid hv27; clear hv27))
          (try go_wp2_with fail)
          refine hK.out _ _ ?hSq7 ?_
          case hSq7 => ((try dsimp only); (repeat (first | with_reducible exact Grow.refl _ | with_reducible refine Grow.alloc ?_ _ | with_reducible refine Grow.drew ?_ | with_reducible refine Grow.drewN ?_ _ | (with_reducible refine Grow.setCell ?_ ?hp _; (case hp => (simp; try omega))) | with_reducible refine Grow.trans ?_ (by assumption))))
          clear hK K
          (try simp only [Act.put, List.setIfInBounds_toArray, List.set_cons_zero, List.set_cons_succ])
          refine held_op rfl rfl (fun K hK => ?_)
          go_simp
          (go_at_call 8; (with_reducible refine (AD.out _ _ _ (HVB.out.grow (by (repeat (first | with_reducible exact Grow.refl _ | with_reducible refine Grow.alloc ?_ _ | with_reducible refine Grow.drew ?_ | with_reducible refine Grow.drewN ?_ _ | (with_reducible refine Grow.setCell ?_ ?hp _; (case hp => (simp; try omega))) | with_reducible refine Grow.trans ?_ (by assumption))))) (HV27.out.grow (by (repeat (first | with_reducible exact Grow.refl _ | with_reducible refine Grow.alloc ?_ _ | with_reducible refine Grow.drew ?_ | with_reducible refine Grow.drewN ?_ _ | (with_reducible refine Grow.setCell ?_ ?hp _; (case hp => (simp; try omega))) | with_reducible refine Grow.trans ?_ (by assumption)))))).mono ?_); (rintro x u28 ⟨v28, rfl, hv28, hb28⟩; obtain ⟨s28, a28, l28, c28, t28, b28, k28, e28, rfl⟩ := hv28.form; have HV28 := Lib.hid hv28; clear hv28); obtain ⟨d0, d1, d2, d3, d4, d5⟩ := D0.out u28 (by (repeat (first | with_reducible exact Grow.refl _ | with_reducible refine Grow.alloc ?_ _ | with_reducible refine Grow.drew ?_ | with_reducible refine Grow.drewN ?_ _ | (with_reducible refine Grow.setCell ?_ ?hp _; (case hp => (simp; try omega))) | with_reducible refine Grow.trans ?_ (by assumption)))))
          (try go_wp2_with fail)
          refine hK.out _ _ ?hSq8 ?_
          case hSq8 => ((try dsimp only); (repeat (first | with_reducible exact Grow.refl _ | with_reducible refine Grow.alloc ?_ _ | with_reducible refine Grow.drew ?_ | with_reducible refine Grow.drewN ?_ _ | (with_reducible refine Grow.setCell ?_ ?hp _; (case hp => (simp; try omega))) | with_reducible refine Grow.trans ?_ (by assumption))))
          clear hK K
          (try simp only [Act.put, List.setIfInBounds_toArray, List.set_cons_zero, List.set_cons_succ])
          refine held_last rfl rfl (fun K hK => ?_)
          go_simp
          refine hK.out _ _ ?_
          clear hK K
          (try simp only [Act.put, List.setIfInBounds_toArray, List.set_cons_zero, List.set_cons_succ])
          refine held_done ?_
          go_simp
          obtain ⟨hst1, hst2⟩ := RowQ.put HX9.out (show Grow W9 u28 by (repeat (first | with_reducible exact Grow.refl _ | with_reducible refine Grow.alloc ?_ _ | with_reducible refine Grow.drew ?_ | with_reducible refine Grow.drewN ?_ _ | (with_reducible refine Grow.setCell ?_ ?hp _; (case hp => (simp; try omega))) | with_reducible refine Grow.trans ?_ (by assumption)))) HV28.out
          go_wp2_with fail
          go_roundg 0
          case measure => have := HGI.out; omega
          case rel => exact .inr ⟨rfl, Lib.hid rfl, Lib.hid hst1, Lib.hid (HB9.out.trans hst2)⟩
        case inr =>
          go_upto_region 12 with fail
          have hbw := (HG56.out.but (fun y => y = X)).trans HB.out
          have HOI := Lib.hid (HO.out.butg hbw hgX)
          have HLI := Lib.hid (HL.out.but hbw)
          have HGI2 := Lib.hid (((HG.out.but _).trans hbw).asGrow (fun b hb => by omega))
          obtain ⟨s9, a9, l9, c9, t9, b9, k9, e9, hcx, hvx⟩ := RowQ.cell4 HX.out
          have HVB := Lib.hid hvx
          have DX := Lib.hid hcx
          have OM := Lib.hid (fun u => ofQ (-2) (by decide) u)
          have QU := Lib.hid (fun v1 v2 (u : World) h1 h2 => quoQk ((1 : Int) : Rat) ((-2 : Int) : Rat) (mkRat (-1) 2) (by decide +kernel) v1 v2 u h1 h2)
          have m1 : IntKind.i64.wrap (-1) = -1 := by decide
          have m2 : IntKind.i64.wrap (-2) = -2 := by decide
          clear hbw hcx hvx
          refine region_flex (id := 12) wr [⟨9, 9, .cells #[.bool false, .slice none 0 0, .bool false, .slice none 0 0] 27⟩] [0, 1, 2, 3, 4, 5, 6, 7, 8] [10, 11] (kdL [1, 0, 0, 0, 2, 2, 0, 0, 0, 2, 3, 0]) (by kernel_rfl) (by kernel_rfl) (fun t ht => kdL_lt _ t ht) (by simp) (by simp) ?hgp ?halp ?_
          case hgp => (repeat (first | with_reducible exact Grow.refl _ | with_reducible refine Grow.alloc ?_ _ | with_reducible refine Grow.drew ?_ | with_reducible refine Grow.drewN ?_ _ | (with_reducible refine Grow.setCell ?_ ?hp _; (case hp => (simp; try omega))) | with_reducible refine Grow.trans ?_ (by assumption)))
          case halp => (intro x hx; simp only [List.mem_cons, List.not_mem_nil, or_false] at hx; subst hx; all_goals (refine ⟨⟨_, rfl, rfl⟩, fun K a u hK => ?_⟩; refine wpOp_step rfl (fun K' hK' => ?_); go_simp; exact hK' _ _ hK))
          refine flex_read (v := ?vp0) rfl rfl (fun t => Or.inl ⟨by rfl, ?hyp0⟩) ?_
          case hyp0 => (intro u hu; obtain ⟨d0, d1, d2, d3, d4, d5⟩ := DX.out u hu; simp only [aof, List.foldl_cons, List.foldl_nil, Act.put, List.setIfInBounds_toArray, List.set_cons_zero, List.set_cons_succ]; go_simp; (try with_reducible rfl))
          (try simp only [Act.put, List.setIfInBounds_toArray, List.set_cons_zero, List.set_cons_succ])
          refine flex_quiet (v := ?vp1) rfl rfl (fun t => Or.inl ⟨by rfl, ?hyp1⟩) ?_
          case hyp1 => (intro u hu; simp only [aof, List.foldl_cons, List.foldl_nil, Act.put, List.setIfInBounds_toArray, List.set_cons_zero, List.set_cons_succ]; go_simp; (try with_reducible rfl))
          (try simp only [Act.put, List.setIfInBounds_toArray, List.set_cons_zero, List.set_cons_succ])
          refine flex_quiet (v := ?vp2) rfl rfl (fun t => Or.inl ⟨by rfl, ?hyp2⟩) ?_
          case hyp2 => (intro u hu; simp only [aof, List.foldl_cons, List.foldl_nil, Act.put, List.setIfInBounds_toArray, List.set_cons_zero, List.set_cons_succ]; go_simp; (try with_reducible rfl))
          (try simp only [Act.put, List.setIfInBounds_toArray, List.set_cons_zero, List.set_cons_succ])
          refine flex_quiet (v := ?vp3) rfl rfl (fun t => Or.inl ⟨by rfl, ?hyp3⟩) ?_
          case hyp3 => (intro u hu; simp only [aof, List.foldl_cons, List.foldl_nil, Act.put, List.setIfInBounds_toArray, List.set_cons_zero, List.set_cons_succ]; go_simp; (try with_reducible rfl))
          (try simp only [Act.put, List.setIfInBounds_toArray, List.set_cons_zero, List.set_cons_succ])
          refine flex_op rfl rfl (fun t4 u4 hu4 K hK => ?_)
          simp only [aof, List.foldl_cons, List.foldl_nil, Act.put, List.setIfInBounds_toArray, List.set_cons_zero, List.set_cons_succ]
          go_simp
          (go_at_call 20; (with_reducible refine (OM.out _).mono ?_); (rintro x u34 ⟨v34, rfl, hv34, hb34⟩; obtain ⟨s34, a34, l34, c34, t34, b34, k34, e34, rfl⟩ := hv34.form; have HV34 := Lib.hid hv34; clear hv34))
          (try go_wp2_with fail)
          refine hK.out _ (.agg #[.bool s34, .slice a34 l34 c34, .bool t34, .slice b34 k34 e34]) _ ?hep4 ?hgp4 ?_
          case hep4 => (simp only [aof, List.foldl_cons, List.foldl_nil, Act.put, List.setIfInBounds_toArray, List.set_cons_zero, List.set_cons_succ])
          case hgp4 => (repeat (first | with_reducible exact Grow.refl _ | with_reducible refine Grow.alloc ?_ _ | with_reducible refine Grow.drew ?_ | with_reducible refine Grow.drewN ?_ _ | (with_reducible refine Grow.setCell ?_ ?hp _; (case hp => (simp; try omega))) | with_reducible refine Grow.trans ?_ (by assumption)))
          clear hK K t4
          (try simp only [Act.put, List.setIfInBounds_toArray, List.set_cons_zero, List.set_cons_succ])
          refine flex_op rfl rfl (fun t5 u5 hu5 K hK => ?_)
          simp only [aof, List.foldl_cons, List.foldl_nil, Act.put, List.setIfInBounds_toArray, List.set_cons_zero, List.set_cons_succ]
          go_simp
          (go_at_call 115; (with_reducible refine (QU.out _ _ _ (HVB.out.grow (by (repeat (first | with_reducible exact Grow.refl _ | with_reducible refine Grow.alloc ?_ _ | with_reducible refine Grow.drew ?_ | with_reducible refine Grow.drewN ?_ _ | (with_reducible refine Grow.setCell ?_ ?hp _; (case hp => (simp; try omega))) | with_reducible refine Grow.trans ?_ (by assumption))))) (HV34.out.grow (by (repeat (first | with_reducible exact Grow.refl _ | with_reducible refine Grow.alloc ?_ _ | with_reducible refine Grow.drew ?_ | with_reducible refine Grow.drewN ?_ _ | (with_reducible refine Grow.setCell ?_ ?hp _; (case hp => (simp; try omega))) | with_reducible refine Grow.trans ?_ (by assumption)))))).mono ?_); (rintro x u35 ⟨v35, rfl, hv35, hb35⟩; obtain ⟨s35, a35, l35, c35, t35, b35, k35, e35, rfl⟩ := hv35.form; have HV35 := Lib.hid hv35; clear hv35))
          (try go_wp2_with fail)
          refine hK.out _ (.tuple #[.agg #[.bool s35, .slice a35 l35 c35, .bool t35, .slice b35 k35 e35], .int .i64 0]) _ ?hep5 ?hgp5 ?_
          case hep5 => (simp only [aof, List.foldl_cons, List.foldl_nil, Act.put, List.setIfInBounds_toArray, List.set_cons_zero, List.set_cons_succ])
          case hgp5 => (repeat (first | with_reducible exact Grow.refl _ | with_reducible refine Grow.alloc ?_ _ | with_reducible refine Grow.drew ?_ | with_reducible refine Grow.drewN ?_ _ | (with_reducible refine Grow.setCell ?_ ?hp _; (case hp => (simp; try omega))) | with_reducible refine Grow.trans ?_ (by assumption)))
          clear hK K t5
          (try simp only [Act.put, List.setIfInBounds_toArray, List.set_cons_zero, List.set_cons_succ])
          refine flex_quiet (v := ?vp6) rfl rfl (fun t => Or.inl ⟨by rfl, ?hyp6⟩) ?_
          case hyp6 => (intro u hu; simp only [aof, List.foldl_cons, List.foldl_nil, Act.put, List.setIfInBounds_toArray, List.set_cons_zero, List.set_cons_succ]; go_simp; (try with_reducible rfl))
          (try simp only [Act.put, List.setIfInBounds_toArray, List.set_cons_zero, List.set_cons_succ])
          refine flex_quiet (v := ?vp7) rfl rfl (fun t => Or.inl ⟨by rfl, ?hyp7⟩) ?_
          case hyp7 => (intro u hu; simp only [aof, List.foldl_cons, List.foldl_nil, Act.put, List.setIfInBounds_toArray, List.set_cons_zero, List.set_cons_succ]; go_simp; (try with_reducible rfl))
          (try simp only [Act.put, List.setIfInBounds_toArray, List.set_cons_zero, List.set_cons_succ])
          refine flex_quiet (v := ?vp8) rfl rfl (fun t => Or.inl ⟨by rfl, ?hyp8⟩) ?_
          case hyp8 => (intro u hu; simp only [aof, List.foldl_cons, List.foldl_nil, Act.put, List.setIfInBounds_toArray, List.set_cons_zero, List.set_cons_succ]; go_simp; (try with_reducible rfl))
          (try simp only [Act.put, List.setIfInBounds_toArray, List.set_cons_zero, List.set_cons_succ])
          refine flex_done (fun Fp up hup hFp hNp => ?_)
          have hFp0 := hFp ⟨9, 9, .cells #[.bool false, .slice none 0 0, .bool false, .slice none 0 0] 27⟩ (by simp)
          clear hFp hNp
          (try simp only [aof, List.foldl_cons, List.foldl_nil, Act.put, List.setIfInBounds_toArray, List.set_cons_zero, List.set_cons_succ, ptrX])
          generalize Fp 9 = Fbp0 at *
          clear Fp
          have hFX := hFp0
          obtain ⟨hFx, hF1, hF2, hF3⟩ := hFp0
          obtain ⟨o0, o1, o2, o3, of, oz⟩ := ak4 rfl _ hF3
          rw [hF2] at o0 o1 o2 o3 of oz
          refine held_last rfl rfl (fun K hK => ?_)
          go_simp
          refine hK.out _ _ ?_
          clear hK K
          (try simp only [Act.put])
          refine held_quiet (v := ?vp11) rfl rfl (Or.inl ⟨by rfl, ?hyp11⟩) ?_
          case hyp11 => (intro u hu; go_simp; (try with_reducible rfl))
          (try simp only [Act.put])
          refine held_done ?_
          have hst := FrX.putR hFX (HV35.out.grow hup)
          obtain ⟨w8, hw8⟩ : ∃ w8, st4 up Fbp0 0 (.bool s35) (.slice a35 l35 c35) (.bool t35) (.slice b35 k35 e35) = w8 := ⟨_, rfl⟩
          have hw9 : ((((up.setCell ⟨Fbp0, 0, none⟩ (.bool s35)).setCell ⟨Fbp0, 1, none⟩ (.slice a35 l35 c35)).setCell ⟨Fbp0, 2, none⟩ (.bool t35)).setCell ⟨Fbp0, 3, none⟩ (.slice b35 k35 e35)) = w8 := hw8
          rw [hw8] at hst
          rw [hw9]
          obtain ⟨hr8, hg8⟩ := hst
          obtain ⟨sx, ax, lx, cx, tx, bx, kx, ex, hcF, hvF⟩ := RowQ.cell4 hr8
          obtain ⟨x0, x1, x2, x3, x4, x5⟩ := hcF w8 (Grow.refl _)
          have HVF := Lib.hid hvF
          have HG8 := Lib.hid hg8
          have HO8 := Lib.hid (HOI.out.grow hg8)
          have HL8 := Lib.hid (HLI.out.grow hg8)
          have HGW := Lib.hid (HGI2.out.trans hg8)
          clear m1 m2 hw8 hw9 hr8 hcF hvF hg8 o0 o1 o2 o3 of oz hFx hF1 hF2 hF3 hFX HV34 HV35 hb34 hb35 hup DX OM QU
          go_wp2_with (at_builtin; go_loud (refine wpList_append_g _ rfl _ _ 57 rfl 27 ir _ 4 64 Tryz.underlying57 hir irz0 irz1 irz2 rfl (by decide) rat_zero_nu (by decide) w.heap.size _ 1 _ rfl (HO8.out.grow (by (repeat (first | with_reducible exact Grow.refl _ | with_reducible refine Grow.alloc ?_ _ | with_reducible refine Grow.drew ?_ | with_reducible refine Grow.drewN ?_ _ | (with_reducible refine Grow.setCell ?_ ?hp _; (case hp => (simp; try omega))) | with_reducible refine Grow.trans ?_ (by assumption))))) ⟨w8.heap.size, 0, none⟩ 1 [.bool sx, .slice ax lx cx, .bool tx, .slice bx kx ex] rfl rfl (rat_news w8 sx ax lx cx tx bx kx ex 27) (rat_one sx ax lx cx tx bx kx ex) (rat_nu sx ax lx cx tx bx kx ex) (by omega) (Nat.le_trans HGW.out.size (by simp)) ?_))
          intro v7 w7 hown7 hb7
          obtain ⟨g7, c7, hv7, hg7a, hg7b⟩ := own_slice hown7.own (by omega)
          subst hv7
          have hga : Grow w8 (w8.alloc (.cells #[.bool sx, .slice ax lx cx, .bool tx, .slice bx kx ex] 27)) := by (repeat (first | with_reducible exact Grow.refl _ | with_reducible refine Grow.alloc ?_ _ | with_reducible refine Grow.drew ?_ | with_reducible refine Grow.drewN ?_ _ | (with_reducible refine Grow.setCell ?_ ?hp _; (case hp => (simp; try omega))) | with_reducible refine Grow.trans ?_ (by assumption)))
          have hn1 : nbN 1 = mkRat (-1) 2 := by decide +kernel
          have hl7 := ((HL8.out.grow hga).append ((listr_one HVF.out).grow hga)).but hb7
          have HR7 := Lib.hid (own_rowq hown7.own (hl7.cong (r' := nbN) (fun j hj => by
            rcases (show j = 0 ∨ j = 1 by omega) with rfl | rfl
            · rfl
            · rw [hn1]; rfl)))
          have HB7 := Lib.hid (own_cells hown7.own).2.1
          have HG7 := Lib.hid (((HGW.out.trans hga).but _).trans hb7 |>.asGrow (fun b hb => hb))
          clear hga hl7 hb7 hown7 hg7a hg7b hn1 x0 x1 x2 x3 x4 x5
          go_wp2_with fail
          go_roundg 0
          case measure => have := HGK.out; omega
          case rel => exact ⟨g7, c7, .inr ⟨rfl, rfl, Lib.hid rfl, Lib.hid ⟨HR7.out, HB7.out⟩, HG7⟩⟩
end Go.Proofs.YtbpkfcohbefphaaGreatDoor
