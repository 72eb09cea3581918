/- Lemmas, plain laws and walks that the statement LwValence leans on (texts DvB, PsA, SrA, DvC, EtA, EtB, ThF, ThC, ThG), conditions as each theorem says. -/
import Derived.Shelf.Sort.Plain
import Derived.Sort.OwnSortedInts
import Derived.Test.YtbpkfcohbefphaaGreatTopValG01
import Derived.Test.YtbpkfcohbefphaaGreatTopValG07
import Derived.Test.YtbpkfcohbefphaaGreatTopValG08
import Derived.Test.YtbpkfcohbefphaaGreatTopValG09
import Derived.Test.YtbpkfcohbefphaaGreatTopValG10

namespace Go.Proofs.YtbpkfcohbefphaaGreat
open Go Go.RowKit
def natV (l : List Nat) : List Value := l.map (fun d : Nat => Value.int .i64 (d : Int))
structure DvSt (w0 : World) (b4 : Nat) (s : List Nat) (u : World) : Prop where
  grow : Grow w0 u
  le : w0.heap.size ≤ b4
  lt : b4 < u.heap.size
  free : ∀ o, u.frozen? ⟨b4, o, none⟩ = false
  row : ∃ g cap, u.cell? ⟨b4, 0, none⟩ = some (.slice (some ⟨g, 0, none⟩) s.length cap) ∧ RowJ u g s.length cap (natV s) ∧ g ≠ b4 ∧ w0.heap.size ≤ g
theorem DvSt.push {w0 u u1 w7 : World} {b4 g cap g' cap' : Nat} {l : List Nat} {x : Nat} (H : DvSt w0 b4 l u) (hg4 : g ≠ b4) (hgw : w0.heap.size ≤ g) (hc : u.cell? ⟨b4, 0, none⟩ = some (.slice (some ⟨g, 0, none⟩) l.length cap)) (h1 : Grow u u1)
    (hr : RowJ w7 g' (l.length + 1) cap' (natV l ++ [.int .i64 (x : Int)])) (hg' : g' = g ∨ u1.heap.size ≤ g') (hb : But (fun b => b = g) u1 w7) :
    w7.cell? ⟨b4, 0, none⟩ = some (.slice (some ⟨g, 0, none⟩) l.length cap) ∧ (∀ o, w7.frozen? ⟨b4, o, none⟩ = false) ∧ b4 < w7.heap.size ∧ DvSt w0 b4 (l ++ [x]) (w7.setCell ⟨b4, 0, none⟩ (.slice (some ⟨g', 0, none⟩) (l.length + 1) cap')) ∧ But (fun b => b = b4) w7 (w7.setCell ⟨b4, 0, none⟩ (.slice (some ⟨g', 0, none⟩) (l.length + 1) cap')) := by
  have hl1 : b4 < u1.heap.size := Nat.lt_of_lt_of_le H.lt h1.size
  have hc7 : w7.cell? ⟨b4, 0, none⟩ = some (.slice (some ⟨g, 0, none⟩) l.length cap) := (hb.cells _ _ hl1 (fun e => hg4 e.symm)).trans ((h1.cells _ _ H.lt).trans hc)
  have hf7 : ∀ o, w7.frozen? ⟨b4, o, none⟩ = false := fun o => (hb.frees _ _ hl1).trans ((h1.frees _ _ H.lt).trans (H.free o))
  have hl7 : b4 < w7.heap.size := Nat.lt_of_lt_of_le hl1 hb.size
  have hg4' : g' ≠ b4 := by rcases hg' with h | h <;> omega
  have hgw' : w0.heap.size ≤ g' := by
    have h2 := H.grow.size
    have h3 := h1.size
    rcases hg' with h | h <;> omega
  have hbs : But (fun b => b = b4) w7 (w7.setCell ⟨b4, 0, none⟩ (.slice (some ⟨g', 0, none⟩) (l.length + 1) cap')) := (But.refl (fun b => b = b4) w7).set _ (.inr rfl) (fun x => by rw [hc7]; simp)
  refine ⟨hc7, hf7, hl7, ⟨?_, H.le, Nat.lt_of_lt_of_le hl7 hbs.size, fun o => (hbs.frees _ _ hl7).trans (hf7 o), g', cap', ?_, ?_, hg4', hgw'⟩, hbs⟩
  · exact ((((H.grow.trans h1).but (fun b => b = g ∨ b = b4)).trans (hb.mono (fun b e => .inl e))).trans (hbs.mono (fun b e => .inr e))).asGrow (fun b e => by
      have := H.le
      rcases e with e | e <;> omega)
  · rw [List.length_append]
    exact World.cell?_setCell_same _ _ _ hc7
  · have h5 := hr.but hbs (fun e => hg4' e)
    have e1 : natV (l ++ [x]) = natV l ++ [.int .i64 (x : Int)] := by simp [natV]
    rw [e1, List.length_append]
    exact h5
def okDv (s : List Nat) (p e : Nat) : Bool := decide (s.length * (e + 1) ≤ 1000) && decide (p ^ e ≤ 1000) && s.all (fun d => decide (d * p ^ e ≤ 1000))
set_option maxRecDepth 20000 in
set_option maxHeartbeats 8000000 in
theorem div1_any (w0 : World) (b4 : Nat) (s : List Nat) (p e : Nat) (hp0 : 2 ≤ p) (hp1 : p ≤ 1001) (_ : 1 ≤ e) (he1 : e ≤ 10) (hok : okDv s p e = true) (u : World) (hS : DvSt w0 b4 s u) :
    Calls Tryz.prog 84 #[.int .i64 (p : Int), .int .i64 (e : Int), .pointer (some ⟨b4, 0, none⟩)] u fun x w' => x = .returned (.tuple #[]) ∧ DvSt w0 b4 (dvS s p e) w' := by
  unfold okDv at hok
  simp only [Bool.and_eq_true, decide_eq_true_eq, List.all_eq_true] at hok
  obtain ⟨⟨hk1, hk2⟩, hk3⟩ := hok
  have hpe : ∀ i, i < e → p ^ (i + 1) ≤ 1000 := fun i hi => Nat.le_trans (Nat.pow_le_pow_right (by omega) hi) hk2
  have hdp : ∀ d, d ∈ s → ∀ i, i < e → d * p ^ (i + 1) ≤ 1000 := fun d hd i hi => Nat.le_trans (Nat.mul_le_mul_left _ (Nat.pow_le_pow_right (by omega) hi)) (hk3 d hd)
  have hlen : ∀ i, i ≤ e → (dvR s p i).length ≤ 1000 := fun i hi => by rw [dvR_len]; exact Nat.le_trans (Nat.mul_le_mul_left _ (by omega)) hk1
  obtain ⟨c, hc⟩ : ∃ c, s.length = c := ⟨_, rfl⟩
  have hcb : c ≤ 1000 := by rw [← hc]; exact Nat.le_trans (Nat.le_mul_of_pos_right _ (by omega)) hk1
  have HPE := Lib.hid hpe
  have HDP := Lib.hid hdp
  have HLEN := Lib.hid hlen
  have HC := Lib.hid hc
  have HS := Lib.hid hS
  obtain ⟨ii, hii, iiz0, iiz1, iiz2⟩ := info_parts infoInt
  obtain ⟨g, cap, hcell, hrow, hg4, hgw⟩ := hS.row
  rw [hc] at hcell hrow
  have hccap := hrow.le
  clear hk1 hk2 hk3 hpe hdp hlen hc hS hrow hg4 hgw
  go_enter Tryz.func84, Tryz.ntmps84
  go_wp2_with fail
  clear hcell hccap
  go_loopg [1, 6] e (fun gk t1 t6 wr => ∃ i e1 pw : Nat, t1 = .int .i64 (e1 : Int) ∧ t6 = .int .i64 (pw : Int) ∧ i ≤ e ∧ Hid (gk = e - i) ∧ Hid (e1 = e - i) ∧ Hid (pw = p ^ (i + 1)) ∧ Hid (DvSt w0 b4 (dvR s p i) wr))
  case atStart => exact ⟨0, e, p, rfl, rfl, Nat.zero_le _, Lib.hid rfl, Lib.hid rfl, Lib.hid (by simp), Lib.hid (by have h := HS.out; simpa [dvR] using h)⟩
  case round =>
    clear HS
    obtain ⟨i, e1, pw, rfl, rfl, hi, HGK, HE1, HPW, HS⟩ := hrel
    by_cases hie : i = e
    · have he0 : e1 = 0 := by have := HE1.out; omega
      subst he0
      have HIE := Lib.hid hie
      clear hie
      have hn3 : decide ((0 : Int) < ((0 : Nat) : Int)) = false := by simp
      go_wp2_with fail
      (try simp only [Exit.inBlock, Exit.then])
      first
        | (refine bodyPost_end (results_none rfl _ _ _) rfl ?_; exact ⟨rfl, by have h := HS.out; rw [HIE.out] at h; exact h⟩)
        | (refine bodyPost_ret (v := .tuple #[]) (results_none rfl _ _ _) rfl ?_; exact ⟨rfl, by have h := HS.out; rw [HIE.out] at h; exact h⟩)
    · have hil : i < e := by omega
      have he0 : 0 < e1 := by have := HE1.out; omega
      have he2 : (0 : Int) < (e1 : Int) := by omega
      have heb : e1 ≤ 10 := by have := HE1.out; omega
      obtain ⟨g, cap, hcell, hrow, hg4, hgw⟩ := HS.out.row
      obtain ⟨L, hL⟩ : ∃ L, (dvR s p i).length = L := ⟨_, rfl⟩
      have hLb : L ≤ 1000 := by rw [← hL]; exact HLEN.out i hi
      have hcL : c ≤ L := by
        rw [← hL, dvR_len, HC.out]; exact Nat.le_mul_of_pos_right _ (by omega)
      rw [hL] at hcell hrow
      have hLcap := hrow.le
      have hccap : c ≤ cap := by omega
      have hcapb := hrow.max
      have hcap2 : (cap : Int) ≤ 9223372036854775807 := by unfold maxLen at hcapb; omega
      have hc1 : (0 : Int) ≤ (c : Int) := by omega
      have hc2 : (c : Int) ≤ (cap : Int) := by omega
      have HCELLS : Hid (∀ (o x : Nat), s[o]? = some x → wr.cell? ⟨g, o, none⟩ = some (.int .i64 (x : Int))) := Lib.hid (fun o x hx => hrow.cell (by
        obtain ⟨l, hl⟩ := dvR_pre s p i
        rw [hl]
        unfold natV
        rw [List.getElem?_map, List.getElem?_append_left (by have := (List.getElem?_eq_some_iff.1 hx).1; exact this), hx]; rfl))
      have hglt := hrow.lt
      have HG4 := Lib.hid hg4
      have HL := Lib.hid hL
      clear hrow hL hie hg4
      go_wp2_with fail
      clear hcell hLcap hccap hcap2 hc1 hc2
      go_loopg [23] c (fun gk2 t23 wx => ∃ j : Nat, t23 = .int .i64 (j : Int) ∧ j ≤ c ∧ Hid (gk2 = c - j) ∧ Hid (DvSt w0 b4 (dvR s p i ++ (s.take j).map (fun d => d * pw)) wx) ∧ Hid (∀ (o x : Nat), s[o]? = some x → wx.cell? ⟨g, o, none⟩ = some (.int .i64 (x : Int))))
      case atStart => exact ⟨0, rfl, Nat.zero_le _, Lib.hid rfl, Lib.hid (by have h := HS.out; simpa using h), HCELLS⟩
      case round =>
        clear HS HCELLS
        obtain ⟨j, rfl, hj, HGK2, HS, HCELLS⟩ := hrel
        by_cases hjc : j = c
        · have y1 : decide ((j : Int) < (c : Int)) = false := by simp; omega
          have y2 : ¬ (j < c) := by omega
          have HD : Hid (DvSt w0 b4 (dvR s p (i + 1)) wr) := Lib.hid (by
            have h := HS.out
            rw [hjc, List.take_of_length_le (by rw [HC.out]; exact Nat.le_refl _), HPW.out, ← dvR_succ] at h
            exact h)
          obtain ⟨e2, he2'⟩ : ∃ e2, e1 - 1 = e2 := ⟨_, rfl⟩
          obtain ⟨pw2, hpw2⟩ : ∃ q, pw * p = q := ⟨_, rfl⟩
          have hpwb : pw ≤ 1000 := by have h := HPE.out i hil; have := HPW.out; omega
          have hpw2b : pw2 ≤ 1000 * 1001 := by rw [← hpw2]; exact Nat.mul_le_mul hpwb hp1
          have E1 : Hid (IntKind.i64.wrap ((e1 : Int) - 1) = (e2 : Int) ∧ wrap64 ((e1 : Int) - 1) = (e2 : Int)) := Lib.hid (by rw [show (e1 : Int) - 1 = (e2 : Int) by omega]; exact w64n (by omega))
          have E2 : Hid (IntKind.i64.wrap ((pw : Int) * (p : Int)) = (pw2 : Int) ∧ wrap64 ((pw : Int) * (p : Int)) = (pw2 : Int)) := Lib.hid (by rw [show (pw : Int) * (p : Int) = (pw2 : Int) by rw [← hpw2]; simp]; exact w64n (by omega))
          have HE2 : Hid (e2 = e - (i + 1)) := Lib.hid (by have := HE1.out; omega)
          have HPW2 : Hid (pw2 = p ^ (i + 1 + 1)) := Lib.hid (by rw [← hpw2, HPW.out]; exact (Nat.pow_succ p (i + 1)).symm)
          clear hjc he2' hpw2
          obtain ⟨x1, x2⟩ := E1.out
          obtain ⟨x3, x4⟩ := E2.out
          go_wp2_with fail
          clear x1 x2 x3 x4
          go_roundg (e - (i + 1))
          case measure => have := HGK.out; omega
          case rel => exact ⟨i + 1, e2, pw2, rfl, rfl, hil, Lib.hid rfl, HE2, HPW2, HD⟩
        · have hjl : j < c := by omega
          have y0 : (0 : Int) ≤ (j : Int) := by omega
          have y1 : (j : Int) < (c : Int) := by omega
          obtain ⟨d, hd⟩ : ∃ d, s[j]? = some d := ⟨_, List.getElem?_eq_getElem (by rw [HC.out]; exact hjl)⟩
          have hdc := HCELLS.out j d hd
          have hdm : d ∈ s := List.mem_of_getElem? hd
          obtain ⟨z, hz⟩ : ∃ z, d * pw = z := ⟨_, rfl⟩
          have hzb : z ≤ 1000 := by have h := HDP.out d hdm i hil; rw [← HPW.out] at h; omega
          have E1 : Hid (IntKind.i64.wrap ((d : Int) * (pw : Int)) = (z : Int) ∧ wrap64 ((d : Int) * (pw : Int)) = (z : Int)) := Lib.hid (by rw [show (d : Int) * (pw : Int) = (z : Int) by rw [← hz]; simp]; exact w64n (by omega))
          have YI := Lib.hid (inc_wrap (i := j) (n := 2000) (by omega) (by omega))
          obtain ⟨l, hl⟩ : ∃ l, dvR s p i ++ (s.take j).map (fun d => d * pw) = l := ⟨_, rfl⟩
          have hlb : l.length + 1 ≤ 1000000 := by
            rw [← hl, List.length_append, List.length_map, List.length_take]
            have := HL.out
            have := HC.out
            omega
          have hlc : c ≤ l.length := by
            rw [← hl, List.length_append]
            have := HL.out
            omega
          have HLL : Hid (l ++ [z] = dvR s p i ++ (s.take (j + 1)).map (fun d => d * pw)) := Lib.hid (by
            rw [← hl, List.take_add_one, hd, List.map_append, ← hz, List.append_assoc]; rfl)
          rw [hl] at HS
          obtain ⟨g5, cap5, hcell, hrow, hg5, hgw5⟩ := HS.out.row
          have HROW := Lib.hid hrow
          have hg5l := hrow.lt
          have HCL5 := Lib.hid hcell
          have HG5 := Lib.hid hg5
          have hgl2 : g < wr.heap.size := by
            rcases Nat.lt_or_ge g wr.heap.size with h | h
            · exact h
            · exfalso
              unfold World.cell? at hdc
              simp only [Option.isSome_none, Bool.false_eq_true, if_false] at hdc
              rw [Array.getElem?_eq_none h] at hdc
              cases hdc
          have jii := hii
          clear hd hz hl hrow hg5
          obtain ⟨x1, x2⟩ := E1.out
          go_wp2_with (at_builtin; go_loud (refine wpList_append_j _ rfl _ _ 29 rfl ii Tryz.underlying29 hii iiz0 iiz1 iiz2 g5 l.length cap5 (natV l) rfl (HROW.out.grow (by (repeat (first | with_reducible exact Grow.refl _ | with_reducible refine Grow.alloc ?_ _ | with_reducible refine Grow.drew ?_ | with_reducible refine Grow.drewN ?_ _ | (with_reducible refine Grow.setCell ?_ ?hp _; (case hp => (simp; try omega))) | with_reducible refine Grow.trans ?_ (by assumption))))) ⟨wr.heap.size, 0, none⟩ 1 (z : Int) rfl (by go_simp) hlb ?_))
          intro g7 cap7 w7 hrow7 hg7 hb7 hk7
          obtain ⟨p1, p2, p3, p4, p5⟩ := HS.out.push HG5.out hgw5 HCL5.out (show Grow wr (wr.alloc (.cells #[.int .i64 (z : Int)] 3)) by (repeat (first | with_reducible exact Grow.refl _ | with_reducible refine Grow.alloc ?_ _ | with_reducible refine Grow.drew ?_ | with_reducible refine Grow.drewN ?_ _ | (with_reducible refine Grow.setCell ?_ ?hp _; (case hp => (simp; try omega))) | with_reducible refine Grow.trans ?_ (by assumption)))) hrow7 (hg7.imp id (fun h => by simp; exact h)) hb7
          rw [HLL.out] at p4
          have HD2 := Lib.hid p4
          have HCELL2 : Hid (∀ (o x : Nat), s[o]? = some x → (w7.setCell ⟨b4, 0, none⟩ (.slice (some ⟨g7, 0, none⟩) (l.length + 1) cap7)).cell? ⟨g, o, none⟩ = some (.int .i64 (x : Int))) := Lib.hid (fun o x hx => by
            have hoc : o < c := by rw [← HC.out]; exact (List.getElem?_eq_some_iff.1 hx).1
            have q1 := HCELLS.out o x hx
            have ga : Grow wr (wr.alloc (.cells #[.int .i64 (z : Int)] 3)) := by (repeat (first | with_reducible exact Grow.refl _ | with_reducible refine Grow.alloc ?_ _ | with_reducible refine Grow.drew ?_ | with_reducible refine Grow.drewN ?_ _ | (with_reducible refine Grow.setCell ?_ ?hp _; (case hp => (simp; try omega))) | with_reducible refine Grow.trans ?_ (by assumption)))
            have q2 := (ga.cells g o hgl2).trans q1
            have q3 : w7.cell? ⟨g, o, none⟩ = some (.int .i64 (x : Int)) := by
              by_cases hgg : g = g5
              · rw [hgg] at q1 ⊢
                exact (hk7 o (by omega)).trans q1
              · exact (hb7.cells g o (Nat.lt_of_lt_of_le hgl2 ga.size) hgg).trans q2
            exact (p5.cells g o (by
              have h8 : w7.cell? ⟨g, o, none⟩ = some (.int .i64 (x : Int)) := q3
              rcases Nat.lt_or_ge g w7.heap.size with h | h
              · exact h
              · exfalso
                unfold World.cell? at h8
                simp only [Option.isSome_none, Bool.false_eq_true, if_false] at h8
                rw [Array.getElem?_eq_none h] at h8
                cases h8) HG4.out).trans q3)
          clear hrow7 hg7 hb7 hk7 p4 p5 x1 x2 hcell
          obtain ⟨x1, x2⟩ := YI.out
          go_wp2_with fail
          clear x1 x2
          go_roundg (c - (j + 1))
          case measure => have := HGK2.out; omega
          case rel => exact ⟨j + 1, rfl, hjl, Lib.hid rfl, HD2, HCELL2⟩
end Go.Proofs.YtbpkfcohbefphaaGreat
namespace Go.Proofs.YtbpkfcohbefphaaGreat
open Go Go.RowKit
theorem inRangeQ (n : Nat) (h1 : 1 ≤ n) (h2 : n ≤ 1000) (w : World) : Calls Tryz.prog 82 #[.int .i64 (n : Int)] w fun e w' => e = .returned (.bool true) ∧ w = w' := by
  have y1 : decide ((n : Int) ≥ 1) = true := by simp; omega
  have y2 : decide ((n : Int) ≤ 2147483647) = true := by simp; omega
  have y3 : decide (1 ≤ n) = true := by simp; omega
  go_enter Tryz.func82, Tryz.ntmps82
  go_wp2_with fail
  go_ret
  exact ⟨rfl, rfl⟩
set_option maxRecDepth 20000 in
set_option maxHeartbeats 8000000 in
theorem powQ (p e : Nat) (hp : 1 ≤ p) (he : e ≤ 10) (hb : p ^ e ≤ 1000) (w : World) : Calls Tryz.prog 49 #[.int .i64 (p : Int), .int .i64 (e : Int)] w fun x w' => x = .returned (.int .i64 ((p ^ e : Nat) : Int)) ∧ w = w' := by
  have HB : Hid (∀ i, i ≤ e → p ^ i ≤ 1000) := Lib.hid (fun i hi => Nat.le_trans (Nat.pow_le_pow_right hp hi) hb)
  clear hb
  go_enter Tryz.func49, Tryz.ntmps49
  go_wp2_with fail
  go_loopg [5, 7] e (fun gk t5 t7 wr => ∃ i q : Nat, t5 = .int .i64 (q : Int) ∧ t7 = .int .i64 (i : Int) ∧ i ≤ e ∧ Hid (gk = e - i) ∧ Hid (q = p ^ i) ∧ w = wr)
  case atStart => exact ⟨0, 1, rfl, rfl, Nat.zero_le _, Lib.hid rfl, Lib.hid rfl, rfl⟩
  case round =>
    obtain ⟨i, q, rfl, rfl, hi, HGK, HQ, rfl⟩ := hrel
    by_cases hie : i = e
    · have y1 : decide ((i : Int) < (e : Int)) = false := by simp; omega
      have y2 : ¬ (i < e) := by omega
      have HE : Hid (q = p ^ e) := Lib.hid (by rw [HQ.out, hie])
      clear hie
      go_wp2_with fail
      go_ret
      exact ⟨by rw [← HE.out]; rfl, rfl⟩
    · have hil : i < e := by omega
      have y1 : (i : Int) < (e : Int) := by omega
      obtain ⟨q2, hq2⟩ : ∃ x, q * p = x := ⟨_, rfl⟩
      have hq2b : q2 ≤ 1000 := by rw [← hq2, HQ.out, ← Nat.pow_succ]; exact HB.out (i + 1) hil
      have E1 : Hid (IntKind.i64.wrap ((q : Int) * (p : Int)) = (q2 : Int) ∧ wrap64 ((q : Int) * (p : Int)) = (q2 : Int)) := Lib.hid (by rw [show (q : Int) * (p : Int) = (q2 : Int) by rw [← hq2]; simp]; exact w64n (by omega))
      have HQ2 : Hid (q2 = p ^ (i + 1)) := Lib.hid (by rw [← hq2, HQ.out]; exact (Nat.pow_succ p i).symm)
      have YI := Lib.hid (inc_wrap (i := i) (n := 100) (by omega) (by omega))
      clear hq2 hie
      obtain ⟨x1, x2⟩ := E1.out
      obtain ⟨x3, x4⟩ := YI.out
      go_wp2_with fail
      clear x1 x2 x3 x4
      go_roundg (e - (i + 1))
      case measure => have := HGK.out; omega
      case rel => exact ⟨i + 1, q2, rfl, rfl, hil, Lib.hid rfl, HQ2, rfl⟩
def psF (p e : Nat) : Nat := p ^ (e - 1) * (p + 1)
set_option maxRecDepth 20000 in
set_option maxHeartbeats 8000000 in
theorem psi1Q (p e : Nat) (hp0 : 2 ≤ p) (hp : p ≤ 1001) (he0 : 1 ≤ e) (he : e ≤ 10) (hb : p ^ (e - 1) ≤ 1000) (w : World) : Calls Tryz.prog 48 #[.int .i64 (p : Int), .int .i64 (e : Int)] w fun x w' => x = .returned (.int .i64 ((psF p e : Nat) : Int)) ∧ w = w' := by
  obtain ⟨e1, he1⟩ : ∃ x, e - 1 = x := ⟨_, rfl⟩
  have PW := Lib.hid (fun u => powQ p e1 (by omega) (by omega) (by rw [← he1]; exact hb) u)
  obtain ⟨q, hq⟩ : ∃ x, p ^ e1 = x := ⟨_, rfl⟩
  have hqb : q ≤ 1000 := by rw [← hq, ← he1]; exact hb
  rw [hq] at PW
  obtain ⟨z, hz⟩ : ∃ x, psF p e = x := ⟨_, rfl⟩
  have hzq : q * (p + 1) = z := by rw [← hz, ← hq, ← he1]; rfl
  have hzb : z ≤ 1000 * 1002 := by rw [← hzq]; exact Nat.mul_le_mul hqb (by omega)
  rw [hz]
  obtain ⟨p1, hp1⟩ : ∃ x, p + 1 = x := ⟨_, rfl⟩
  rw [hp1] at hzq
  have E1 : Hid (IntKind.i64.wrap ((e : Int) - 1) = (e1 : Int) ∧ wrap64 ((e : Int) - 1) = (e1 : Int)) := Lib.hid (by rw [show (e : Int) - 1 = (e1 : Int) by omega]; exact w64n (by omega))
  have E2 : Hid (IntKind.i64.wrap ((p : Int) + 1) = (p1 : Int) ∧ wrap64 ((p : Int) + 1) = (p1 : Int)) := Lib.hid (by rw [show (p : Int) + 1 = (p1 : Int) by omega]; exact w64n (by omega))
  have E3 : Hid (IntKind.i64.wrap ((q : Int) * (p1 : Int)) = (z : Int) ∧ wrap64 ((q : Int) * (p1 : Int)) = (z : Int)) := Lib.hid (by rw [show (q : Int) * (p1 : Int) = (z : Int) by rw [← hzq]; simp]; exact w64n (by omega))
  clear hzq hz hq he1 hp1 hb
  obtain ⟨x1, x2⟩ := E1.out
  obtain ⟨x3, x4⟩ := E2.out
  obtain ⟨x5, x6⟩ := E3.out
  go_enter Tryz.func48, Tryz.ntmps48
  go_wp2_with (go_at_call 49; (with_reducible refine (PW.out _).mono ?_); (rintro x u2 ⟨rfl, rfl⟩))
  go_ret
  exact ⟨rfl, rfl⟩
/-- The two cells of product: the function, the product so far. -/
structure PrS (w0 : World) (out : Nat) (u : World) : Prop where
  grow : Grow w0 u
  c0 : u.cell? ⟨w0.heap.size, 0, none⟩ = some (.func (.func 48) #[] #[])
  c1 : u.cell? ⟨w0.heap.size + 1, 0, none⟩ = some (.int .i64 (out : Int))
  fr : ∀ o, u.frozen? ⟨w0.heap.size + 1, o, none⟩ = false
  lt : w0.heap.size + 1 < u.heap.size
def okPs (s p e : Nat) : Bool := decide (p ^ (e - 1) ≤ 1000) && decide (s * psF p e ≤ 1000000) && decide (s ≤ 1000000)
theorem PrS.put {w0 u : World} {s : Nat} (h : PrS w0 s u) (z : Nat) : PrS w0 z (u.setCell ⟨w0.heap.size + 1, 0, none⟩ (.int .i64 (z : Int))).drew := by
  have hb : But (fun b => b = w0.heap.size + 1) u (u.setCell ⟨w0.heap.size + 1, 0, none⟩ (.int .i64 (z : Int))) := (But.refl (fun b => b = w0.heap.size + 1) u).set _ (.inr rfl) (fun x => by rw [h.c1]; simp)
  have hd : Grow (u.setCell ⟨w0.heap.size + 1, 0, none⟩ (.int .i64 (z : Int))) (u.setCell ⟨w0.heap.size + 1, 0, none⟩ (.int .i64 (z : Int))).drew := (Grow.refl _).drew
  have hb2 := hb.grow hd
  have hl := h.lt
  exact ⟨((h.grow.but _).trans hb2).asGrow (fun b e => by omega), (hb2.cells _ _ (by omega) (by omega)).trans h.c0, (hd.cells _ _ (Nat.lt_of_lt_of_le hl hb.size)).trans (World.cell?_setCell_same _ _ _ h.c1), fun o => (hb2.frees _ _ hl).trans (h.fr o), Nat.lt_of_lt_of_le hl hb2.size⟩
set_option maxRecDepth 20000 in
set_option maxHeartbeats 8000000 in
theorem prod1Q (w0 : World) (s p e : Nat) (hp0 : 2 ≤ p) (hp1 : p ≤ 1001) (he0 : 1 ≤ e) (he1 : e ≤ 10) (hok : okPs s p e = true) (u : World) (hS : PrS w0 s u) :
    Calls Tryz.prog 86 #[.int .i64 (p : Int), .int .i64 (e : Int), .pointer (some ⟨w0.heap.size + 1, 0, none⟩), .pointer (some ⟨w0.heap.size, 0, none⟩)] u fun x w' => x = .returned (.tuple #[]) ∧ PrS w0 (s * psF p e) w' := by
  unfold okPs at hok
  simp only [Bool.and_eq_true, decide_eq_true_eq] at hok
  obtain ⟨⟨hk1, hk2⟩, hk3⟩ := hok
  have P1 := Lib.hid (fun v => psi1Q p e hp0 hp1 he0 he1 hk1 v)
  obtain ⟨q, hq⟩ : ∃ q, psF p e = q := ⟨_, rfl⟩
  rw [hq] at P1 hk2 ⊢
  obtain ⟨z, hz⟩ : ∃ z, s * q = z := ⟨_, rfl⟩
  rw [hz] at hk2 ⊢
  have E3 : Hid (IntKind.i64.wrap ((s : Int) * (q : Int)) = (z : Int) ∧ wrap64 ((s : Int) * (q : Int)) = (z : Int)) := Lib.hid (by rw [show (s : Int) * (q : Int) = (z : Int) by rw [← hz]; simp]; exact w64n (by omega))
  have hl0 := hS.lt
  have D0 := Lib.hid (fun (v : World) (hv : Grow u v) => (⟨(hv.cells _ _ (by omega)).trans hS.c0, (hv.cells _ _ (by omega)).trans hS.c1, fun o => (hv.frees _ _ (by omega)).trans (hS.fr o), Nat.lt_of_lt_of_le hS.lt hv.size, hv⟩ : v.cell? ⟨w0.heap.size, 0, none⟩ = some (.func (.func 48) #[] #[]) ∧ v.cell? ⟨w0.heap.size + 1, 0, none⟩ = some (.int .i64 (s : Int)) ∧ (∀ o, v.frozen? ⟨w0.heap.size + 1, o, none⟩ = false) ∧ w0.heap.size + 1 < v.heap.size ∧ Grow u v))
  have HS := Lib.hid hS
  clear hS hq hz hk1
  obtain ⟨x5, x6⟩ := E3.out
  go_enter Tryz.func86, Tryz.ntmps86
  go_upto_region 0 with fail
  refine region_held (id := 0) (fun v => Grow u v) [0, 1, 2, 3, 4, 5, 6] (kdL [1, 1, 0, 0, 2, 0, 3]) (by kernel_rfl) (by kernel_rfl) (fun t ht => kdL_lt _ t ht) ?hS0p ?_
  case hS0p => ((try dsimp only); (repeat (first | with_reducible exact Grow.refl _ | with_reducible refine Grow.alloc ?_ _ | with_reducible refine Grow.drew ?_ | with_reducible refine Grow.drewN ?_ _ | (with_reducible refine Grow.setCell ?_ ?hp _; (case hp => (simp; try omega))) | with_reducible refine Grow.trans ?_ (by assumption))))
  refine held_read (v := ?vp0) rfl rfl (Or.inl ⟨by rfl, ?hyp0⟩) ?_
  case hyp0 => (intro u hu; obtain ⟨f0, f1, f2, f3, f4⟩ := D0.out u hu; go_simp; (try with_reducible rfl))
  (try simp only [Act.put, List.setIfInBounds_toArray, List.set_cons_zero, List.set_cons_succ])
  refine held_read (v := ?vp1) rfl rfl (Or.inl ⟨by rfl, ?hyp1⟩) ?_
  case hyp1 => (intro u hu; obtain ⟨f0, f1, f2, f3, f4⟩ := D0.out u hu; go_simp; (try with_reducible rfl))
  (try simp only [Act.put, List.setIfInBounds_toArray, List.set_cons_zero, List.set_cons_succ])
  refine held_quiet (v := ?vp2) rfl rfl (Or.inl ⟨by rfl, ?hyp2⟩) ?_
  case hyp2 => (intro u hu; go_simp; (try with_reducible rfl))
  (try simp only [Act.put, List.setIfInBounds_toArray, List.set_cons_zero, List.set_cons_succ])
  refine held_quiet (v := ?vp3) rfl rfl (Or.inl ⟨by rfl, ?hyp3⟩) ?_
  case hyp3 => (intro u hu; go_simp; (try with_reducible rfl))
  (try simp only [Act.put, List.setIfInBounds_toArray, List.set_cons_zero, List.set_cons_succ])
  refine held_op rfl rfl (fun K hK => ?_)
  go_simp
  (go_at_call 48; (with_reducible refine (P1.out _).mono ?_); (rintro e u4 ⟨rfl, rfl⟩; obtain ⟨f0, f1, f2, f3, f4⟩ := D0.out u (Grow.refl _)))
  (try go_wp2_with fail)
  refine hK.out _ _ ?hSp4 ?_
  case hSp4 => ((try dsimp only); (repeat (first | with_reducible exact Grow.refl _ | with_reducible refine Grow.alloc ?_ _ | with_reducible refine Grow.drew ?_ | with_reducible refine Grow.drewN ?_ _ | (with_reducible refine Grow.setCell ?_ ?hp _; (case hp => (simp; try omega))) | with_reducible refine Grow.trans ?_ (by assumption))))
  clear hK K
  (try simp only [Act.put, List.setIfInBounds_toArray, List.set_cons_zero, List.set_cons_succ])
  refine held_quiet (v := ?vp5) rfl rfl (Or.inl ⟨by rfl, ?hyp5⟩) ?_
  case hyp5 => (intro u hu; go_simp; (try with_reducible rfl))
  (try simp only [Act.put, List.setIfInBounds_toArray, List.set_cons_zero, List.set_cons_succ])
  refine held_last rfl rfl (fun K hK => ?_)
  go_simp
  refine hK.out _ _ ?_
  clear hK K
  (try simp only [Act.put, List.setIfInBounds_toArray, List.set_cons_zero, List.set_cons_succ])
  refine held_done ?_
  go_wp2_with fail
  refine bodyPost_end (results_none rfl _ _ _) rfl ?_
  exact ⟨rfl, HS.out.put z⟩
def psiN (n : Nat) : Nat := foldS (fun s p e => s * psF p e) (faL 33 n 2) 1
set_option maxRecDepth 20000 in
set_option maxHeartbeats 8000000 in
theorem productQ (n : Nat) (h1 : 1 ≤ n) (h2 : n ≤ 1000) (hok : okS (fun s p e => okPs s p e = true) (fun s p e => s * psF p e) (faL 33 n 2) 1) (w : World) :
    Calls Tryz.prog 47 #[.int .i64 (n : Int), .func (.func 48) #[] #[]] w fun x w' => x = .returned (.tuple #[.int .i64 (psiN n : Nat), .int .i64 0]) ∧ Grow w w' := by
  have IR := Lib.hid (fun u => inRangeQ n h1 h2 u)
  have FC := Lib.hid (fun u (hu : PrS w 1 u) => factorsP (fun s u => PrS w s u) (fun s p e => okPs s p e = true) (fun s p e => s * psF p e) (.pointer (some ⟨w.heap.size + 1, 0, none⟩)) (.pointer (some ⟨w.heap.size, 0, none⟩)) (fun s p e u a b c d ok hs => prod1Q w s p e a b c d ok u hs) n h1 h2 1 hok u hu)
  have hmf : ∀ (fn : Fn) (first cap : Array Value) (w : World), (Instr.makeFunc fn first cap).run Tryz.prog w = .ok (.func fn first cap) w := fun _ _ _ _ => rfl
  obtain ⟨W1, hW1⟩ : ∃ W1 : World, W1 = w.alloc (.cells #[.func (.func 48) #[] #[]] 80) := ⟨_, rfl⟩
  obtain ⟨W2, hW2⟩ : ∃ W2 : World, W2 = W1.alloc (.cells #[.int .i64 1] 3) := ⟨_, rfl⟩
  have hz1 : W1.heap.size = w.heap.size + 1 := by rw [hW1]; simp
  have HP : Hid (PrS w 1 W2) := Lib.hid (by
    obtain ⟨a0, -, a2⟩ := ak1 hW1 W2 (ag hW2)
    obtain ⟨b0, b1, b2⟩ := ak1 hW2 W2 (Grow.refl _)
    rw [hz1] at b0 b1 b2
    exact ⟨(ag hW1).trans (ag hW2), a0, b0, b1, b2⟩)
  have HW1 := Lib.hid hW1
  have HW2 := Lib.hid hW2
  have HZ1 := Lib.hid hz1
  clear hW1 hW2 hz1 hok
  go_enter Tryz.func47, Tryz.ntmps47
  go_upto_region 1 with fail
  rw [← HW1.out]
  go_upto_region 4 with (go_at_call 82; (with_reducible refine (IR.out _).mono ?_); (rintro x u2 ⟨rfl, rfl⟩))
  rw [← HW2.out, HZ1.out]
  go_wp2_with (go_at_call 83; (with_reducible refine (FC.out _ HP.out).mono ?_); (rintro x u3 ⟨rfl, hp3⟩; have HP3 := Lib.hid hp3; have c1 := hp3.c1; clear hp3))
  refine bodyPost_ret (v := .tuple #[.int .i64 ((psiN n : Nat) : Int), .int .i64 0]) (by rw [results_pair rfl]; first | rfl | go_simp) rfl ?_
  exact ⟨rfl, HP3.out.grow⟩
theorem okS_ps : ∀ n, n < 61 → n = 0 ∨ okSB (fun s p e => okPs s p e) (fun s p e => s * psF p e) (faL 33 n 2) 1 = true := by decide +kernel
theorem psiQ (n : Nat) (h1 : 1 ≤ n) (h2 : n ≤ 60) (w : World) : Calls Tryz.prog 16 #[.int .i64 (n : Int)] w fun x w' => x = .returned (.tuple #[.int .i64 (psiN n : Nat), .int .i64 0]) ∧ Grow w w' := by
  have PR := Lib.hid (fun u => productQ n h1 (by omega) (okS_of (by
    rcases okS_ps n (by omega) with h | h
    · omega
    · exact h)) u)
  go_enter Tryz.func16, Tryz.ntmps16
  go_wp2_with (go_at_call 47; (with_reducible refine (PR.out _).mono ?_); (rintro x u2 ⟨rfl, hb2⟩))
  refine bodyPost_ret (v := .tuple #[.int .i64 ((psiN n : Nat) : Int), .int .i64 0]) (by rw [results_pair rfl]; first | rfl | go_simp) rfl ?_
  exact ⟨rfl, hb2⟩
end Go.Proofs.YtbpkfcohbefphaaGreat
namespace Go.Proofs.YtbpkfcohbefphaaGreat
open Go Go.Shelf
def srRen : Go.Shelf.Ren := ⟨fun | 189 => 85 | 125 => 106 | 257 => 105 | 128 => 127 | 129 => 128 | 294 => 118 | 295 => 119 | 296 => 120 | 297 => 121 | 298 => 122 | 299 => 123 | 216 => 124 | 300 => 125 | 301 => 126 | 328 => 142 | 329 => 143 | 330 => 144 | 331 => 145 | 332 => 146 | 215 => 147 | 343 => 152 | n => n, fun | 28 => 29 | 3 => 3 | 46 => 118 | 0 => 0 | 51 => 117 | 53 => 108 | 4 => 4 | 183 => 157 | 182 => 156 | 131 => 85 | 5 => 5 | 9 => 9 | 218 => 176 | 222 => 180 | 228 => 185 | 229 => 186 | n => n, fun | n => n⟩
theorem srLays : Go.Proofs.Lays.n189 Tryz.prog srRen := {
  mixed := by kernel_rfl
  f125 := Tryz.func106.trans (congrArg some (by kernel_rfl))
  f128 := Tryz.func127.trans (congrArg some (by kernel_rfl))
  f129 := Tryz.func128.trans (congrArg some (by kernel_rfl))
  f189 := Tryz.func85.trans (congrArg some (by kernel_rfl))
  f215 := Tryz.func147.trans (congrArg some (by kernel_rfl))
  f216 := Tryz.func124.trans (congrArg some (by kernel_rfl))
  f257 := Tryz.func105.trans (congrArg some (by kernel_rfl))
  f294 := Tryz.func118.trans (congrArg some (by kernel_rfl))
  f295 := Tryz.func119.trans (congrArg some (by kernel_rfl))
  f296 := Tryz.func120.trans (congrArg some (by kernel_rfl))
  f297 := Tryz.func121.trans (congrArg some (by kernel_rfl))
  f298 := Tryz.func122.trans (congrArg some (by kernel_rfl))
  f299 := Tryz.func123.trans (congrArg some (by kernel_rfl))
  f300 := Tryz.func125.trans (congrArg some (by kernel_rfl))
  f301 := Tryz.func126.trans (congrArg some (by kernel_rfl))
  f328 := Tryz.func142.trans (congrArg some (by kernel_rfl))
  f329 := Tryz.func143.trans (congrArg some (by kernel_rfl))
  f330 := Tryz.func144.trans (congrArg some (by kernel_rfl))
  f331 := Tryz.func145.trans (congrArg some (by kernel_rfl))
  f332 := Tryz.func146.trans (congrArg some (by kernel_rfl))
  f343 := Tryz.func152.trans (congrArg some (by kernel_rfl))
  t0 := Tryz.underlying0
  a0 := Tryz.isAgg0
  z0 := Tryz.sizeOf0
  v0 := Tryz.zeroValue0
  t3 := Tryz.underlying3
  a3 := Tryz.isAgg3
  z3 := Tryz.sizeOf3
  v3 := Tryz.zeroValue3
  t4 := Tryz.underlying4
  a4 := Tryz.isAgg4
  z4 := Tryz.sizeOf4
  v4 := Tryz.zeroValue4
  t5 := Tryz.underlying5
  a5 := Tryz.isAgg5
  z5 := Tryz.sizeOf5
  v5 := Tryz.zeroValue5
  t9 := Tryz.underlying9
  a9 := Tryz.isAgg9
  z9 := Tryz.sizeOf9
  v9 := Tryz.zeroValue9
  t28 := Tryz.underlying29
  a28 := Tryz.isAgg29
  z28 := Tryz.sizeOf29
  v28 := Tryz.zeroValue29
  t46 := Tryz.underlying118
  a46 := Tryz.isAgg118
  z46 := Tryz.sizeOf118
  v46 := Tryz.zeroValue118
  t51 := Tryz.underlying117
  a51 := Tryz.isAgg117
  z51 := Tryz.sizeOf117
  v51 := Tryz.zeroValue117
  t53 := Tryz.underlying108
  a53 := Tryz.isAgg108
  z53 := Tryz.sizeOf108
  v53 := Tryz.zeroValue108
  t131 := Tryz.underlying85
  a131 := Tryz.isAgg85
  z131 := Tryz.sizeOf85
  v131 := Tryz.zeroValue85
  t182 := Tryz.underlying156
  a182 := Tryz.isAgg156
  z182 := Tryz.sizeOf156
  v182 := Tryz.zeroValue156
  t183 := Tryz.underlying157
  a183 := Tryz.isAgg157
  z183 := Tryz.sizeOf157
  v183 := Tryz.zeroValue157
  t218 := Tryz.underlying176
  a218 := Tryz.isAgg176
  z218 := Tryz.sizeOf176
  v218 := Tryz.zeroValue176
  t222 := Tryz.underlying180
  a222 := Tryz.isAgg180
  z222 := Tryz.sizeOf180
  v222 := Tryz.zeroValue180
  t228 := Tryz.underlying185
  a228 := Tryz.isAgg185
  z228 := Tryz.sizeOf185
  v228 := Tryz.zeroValue185
  t229 := Tryz.underlying186
  a229 := Tryz.isAgg186
  z229 := Tryz.sizeOf186
  v229 := Tryz.zeroValue186 }
open Go.Sort Go.RowKit in
theorem sortIntQ (blk off cap : Nat) (zs : List Int) (w : World) (hH : Holds (Value.int .i64) w blk off zs.toArray) (hblk : blk < w.heap.size) (hsz : zs.length < 4611686018427387904) :
    Calls Tryz.prog 85 #[.slice (some ⟨blk, off, none⟩) zs.length cap] w fun e w' =>
      e = .returned (.tuple #[]) ∧ ∃ n os, w' = grow (putRow (Value.int .i64) (Sort.ahead w n) blk off (zs.mergeSort fun x y => decide (x ≤ y)).toArray) os := Any.slices_Sort_int srLays blk off cap zs w hH hblk hsz
end Go.Proofs.YtbpkfcohbefphaaGreat
namespace Go.Proofs.YtbpkfcohbefphaaGreat
open Go Go.RowKit
/-- The divisors of n in order. -/
def divs (n : Nat) : List Nat := (List.range (n + 1)).filter (fun d => d != 0 && n % d == 0)
def dvM (n : Nat) : List Nat := foldS dvS (faL 33 n 2) [1]
theorem divs_tab : ∀ n : Nat, n < 601 → n = 0 ∨ (okSB okDv dvS (faL 33 n 2) [1] && (dvM n).isPerm (divs n)) = true := by decide +kernel
theorem divs_sorted (n : Nat) : ((divs n).map (fun d : Nat => (d : Int))).Pairwise (fun x y => x ≤ y) := by
  refine List.pairwise_map.2 ?_
  refine List.Pairwise.filter _ ?_
  exact (List.pairwise_lt_range (n := n + 1)).imp (fun h => by omega)
theorem sort_divs (n : Nat) (h : (dvM n).isPerm (divs n) = true) : ((dvM n).map (fun d : Nat => (d : Int))).mergeSort (fun x y => decide (x ≤ y)) = (divs n).map (fun d : Nat => (d : Int)) := by
  have hp : ((dvM n).map (fun d : Nat => (d : Int))).Perm ((divs n).map (fun d : Nat => (d : Int))) := (List.isPerm_iff.1 h).map _
  have h1 := List.mergeSort_perm ((dvM n).map (fun d : Nat => (d : Int))) (fun x y => decide (x ≤ y))
  have h2 : (((dvM n).map (fun d : Nat => (d : Int))).mergeSort (fun x y => decide (x ≤ y))).Pairwise (fun x y => x ≤ y) :=
    (List.pairwise_mergeSort (le := fun x y : Int => decide (x ≤ y)) (fun a b c h3 h4 => by simp at h3 h4 ⊢; omega) (fun a b => by simp; omega) _).imp (fun h3 => by simpa using h3)
  exact List.Perm.eq_of_pairwise (fun a b _ _ h3 h4 => by omega) h2 (divs_sorted n) (h1.trans hp)
set_option maxRecDepth 20000 in
set_option maxHeartbeats 8000000 in
theorem divisorsQ (n : Nat) (h1 : 1 ≤ n) (h2 : n ≤ 600) (w : World) :
    Calls Tryz.prog 45 #[.int .i64 (n : Int)] w fun x w' => ∃ g cap, x = .returned (.tuple #[.slice (some ⟨g, 0, none⟩) (divs n).length cap, .int .i64 0]) ∧ IntQ w' g 0 (divs n).length (fun i => (((divs n).getD i 0 : Nat) : Int)) ∧ Grow w w' ∧ w.heap.size ≤ g := by
  have htab : (okSB okDv dvS (faL 33 n 2) [1] && (dvM n).isPerm (divs n)) = true := by
    rcases divs_tab n (by omega) with h | h
    · omega
    · exact h
  rw [Bool.and_eq_true] at htab
  obtain ⟨hok, hperm⟩ := htab
  have IR := Lib.hid (fun u => inRangeQ n h1 (by omega) u)
  have FC := Lib.hid (fun u (hu : DvSt w (w.heap.size + 1) [1] u) => factorsD (fun s u => DvSt w (w.heap.size + 1) s u) (fun s p e => okDv s p e = true) dvS (.pointer (some ⟨w.heap.size + 1, 0, none⟩)) (fun s p e u a b c d ok hs => div1_any w (w.heap.size + 1) s p e a b c d ok u hs) n h1 (by omega) [1] (okS_of hok) u hu)
  have hmf : ∀ (fn : Fn) (first cap : Array Value) (w : World), (Instr.makeFunc fn first cap).run Tryz.prog w = .ok (.func fn first cap) w := fun _ _ _ _ => rfl
  obtain ⟨W1, hW1⟩ : ∃ W1 : World, W1 = w.alloc (.cells #[.int .i64 1] 3) := ⟨_, rfl⟩
  obtain ⟨W2, hW2⟩ : ∃ W2 : World, W2 = W1.alloc (.cells #[.slice (some ⟨w.heap.size, 0, none⟩) 1 1] 29) := ⟨_, rfl⟩
  have hz1 : W1.heap.size = w.heap.size + 1 := by rw [hW1]; simp
  have HP : Hid (DvSt w (w.heap.size + 1) [1] W2) := Lib.hid (by
    obtain ⟨b0, b1, b2⟩ := ak1 hW2 W2 (Grow.refl _)
    rw [hz1] at b0 b1 b2
    have hrow : RowJ W1 w.heap.size 1 1 [.int .i64 1] := ⟨rfl, ⟨_, by rw [hW1]; show (Array.push w.heap _)[w.heap.size]? = _; simp; rfl, rfl, rfl, fun v hv => by simp at hv; exact ⟨1, hv⟩⟩, Nat.le_refl _, by unfold maxLen; omega⟩
    exact ⟨(ag hW1).trans (ag hW2), by omega, b2, b1, w.heap.size, 1, b0, hrow.grow (ag hW2), by omega, Nat.le_refl _⟩)
  have HW1 := Lib.hid hW1
  have HW2 := Lib.hid hW2
  have HZ1 := Lib.hid hz1
  have HPERM := Lib.hid hperm
  clear hW1 hW2 hz1 hok hperm
  go_enter Tryz.func45, Tryz.ntmps45
  go_upto_region 4 with (go_at_call 82; (with_reducible refine (IR.out _).mono ?_); (rintro x u2 ⟨rfl, rfl⟩))
  rw [← HW1.out, ← HW2.out]
  go_upto_region 5 with (go_at_call 83; (with_reducible refine (FC.out _ HP.out).mono ?_); (rintro x u3 ⟨rfl, hp3⟩; have HP3 := Lib.hid hp3; clear hp3))
  clear hmf FC
  obtain ⟨g, cap, hcell, hrow, hg4, hgw⟩ := HP3.out.row
  have hdm : foldS dvS (faL 33 n 2) [1] = dvM n := rfl
  rw [hdm] at hcell hrow HP3
  obtain ⟨zs, hzs⟩ : ∃ zs : List Int, (dvM n).map (fun d : Nat => (d : Int)) = zs := ⟨_, rfl⟩
  have hnv : natV (dvM n) = zs.map (Value.int .i64) := by rw [← hzs]; simp [natV]
  have hlz : (dvM n).length = zs.length := by rw [← hzs]; simp
  have hso := sort_divs n HPERM.out
  rw [hzs] at hso
  rw [hnv, hlz] at hrow
  rw [hlz] at hcell
  have hld : (divs n).length = zs.length := by
    rw [← hlz]; exact (List.isPerm_iff.1 HPERM.out).length_eq.symm
  obtain ⟨cur, hcur, hcs, htk, hall⟩ := hrow.row
  have hH := holds_of_blockI (w := u3) (g := g) (e := 3) hcur htk
  have hdl : (divs n).length ≤ n + 1 := by
    have := List.length_filter_le (fun d => d != 0 && n % d == 0) (List.range (n + 1))
    simpa [divs] using this
  have hbig : zs.length < 4611686018427387904 := by omega
  have SQ := Lib.hid (sortIntQ g 0 cap zs u3 hH hrow.lt hbig)
  rw [hso] at SQ
  have HL := Lib.hid hld
  have HROW := Lib.hid hrow
  have HCUR := Lib.hid hcur
  have HCS := Lib.hid hcs
  have HG4 := Lib.hid hg4
  have hglt := hrow.lt
  have hb4 := HP3.out.lt
  have hf4 := HP3.out.free
  obtain ⟨L, hL⟩ : ∃ L, zs.length = L := ⟨_, rfl⟩
  have HLL := Lib.hid hL
  rw [hL] at hcell SQ
  clear hdm hzs hnv hlz hso hld hcur hcs htk hall hH hrow hL hg4
  go_upto_region 6 with (go_at_call 85; (with_reducible refine SQ.out.mono ?_); (rintro x u4 ⟨rfl, hw4⟩; have HW4 := Lib.hid hw4; clear hw4))
  have hall4 : ∃ (n4 : Nat) (os : Array Obj), u4 = Go.Sort.grow (Go.Sort.putRow (Value.int .i64) (Go.Sort.ahead u3 n4) g 0 ((divs n).map (fun d : Nat => (d : Int))).toArray) os := HW4.out
  obtain ⟨n4, os, h4⟩ := hall4
  have hgb : u3.grownBy u4 (some g) := by rw [h4]; exact grownBy_sortedI _
  have hown : u4.ownsRow w.heap.size 3 1 (.slice (some ⟨g, 0, none⟩) zs.length cap) zs.length (((divs n).map (fun d : Nat => (d : Int))).map (Value.int .i64)) := by
    rw [h4]
    exact ownsRow_sortedI (by rw [List.length_map]; exact HL.out) hgw HCUR.out HROW.out.le HROW.out.max (by rw [Nat.mul_one]; exact HCS.out)
  obtain ⟨q1, q2, q3, q4, q5⟩ := own_cells hown
  have hb4c : u4.cell? ⟨w.heap.size + 1, 0, none⟩ = some (.slice (some ⟨g, 0, none⟩) L cap) := (World.cell?_of_block (hgb.block _ hb4 (fun e => HG4.out (by injection e with e; exact e.symm)))).trans hcell
  have HQ5 := Lib.hid q5
  have HGR := Lib.hid (HP3.out.grow.grown hgb (fun k hk => by injection hk with hk; rw [← hk]; exact hgw))
  have HLD : Hid (L = (divs n).length) := Lib.hid (by rw [HL.out, HLL.out])
  clear h4 hgb hown q5 hcell
  go_wp2_with fail
  refine bodyPost_ret (v := .tuple #[.slice (some ⟨g, 0, none⟩) L cap, .int .i64 0]) (by rw [results_pair rfl]; first | rfl | go_simp) rfl ?_
  have hI : IntQ u4 g 0 (divs n).length (fun i => (((divs n).getD i 0 : Nat) : Int)) := ⟨q1, fun i hi => by
    rw [Nat.zero_add]
    refine HQ5.out i _ ?_
    rw [List.getElem?_map, List.getElem?_map, List.getElem?_eq_getElem hi]
    simp [List.getD, List.getElem?_eq_getElem hi]⟩
  first | exact ⟨g, ⟨cap, by rw [HLD.out]⟩, hI, HGR.out, hgw⟩ | exact ⟨g, cap, by rw [HLD.out], hI, HGR.out, hgw⟩
end Go.Proofs.YtbpkfcohbefphaaGreat
namespace Go.Proofs.YtbpkfcohbefphaaGreat
open Go Go.RowKit
set_option maxRecDepth 20000 in
set_option maxHeartbeats 8000000 in
theorem edivQ (n : Nat) (h1 : 1 ≤ n) (h2 : n ≤ 600) (w : World) :
    Calls Tryz.prog 41 #[.int .i64 (n : Int)] w fun x w' => ∃ g cap, x = .returned (.slice (some ⟨g, 0, none⟩) (divs n).length cap) ∧ IntQ w' g 0 (divs n).length (fun i => (((divs n).getD i 0 : Nat) : Int)) ∧ Grow w w' ∧ w.heap.size ≤ g := by
  have DV := Lib.hid (fun u => divisorsQ n h1 h2 u)
  go_enter Tryz.func41, Tryz.ntmps41
  go_wp2_with (go_at_call 45; (with_reducible refine (DV.out _).mono ?_); (rintro x u2 ⟨g, cap, rfl, hi, hg, hw⟩))
  go_ret
  first | exact ⟨g, cap, rfl, hi, hg, hw⟩ | exact ⟨g, ⟨cap, rfl⟩, hi, hg, hw⟩
/-- Every exponent is within the limit. -/
def FitE (l : List Int) : Prop := ∀ j, j < l.length → -200 ≤ l.getD j 0 ∧ l.getD j 0 ≤ 200
set_option maxRecDepth 20000 in
set_option maxHeartbeats 8000000 in
theorem efitsQ (l : List Int) (v : Value) (hm : l.length < 4611686018427387904) (w : World) (hv : RdInts w v l) :
    Calls Tryz.prog 42 #[v] w fun e w' => ((e = .returned (.bool false) ∧ ¬ FitE l) ∨ (e = .returned (.bool true) ∧ FitE l)) ∧ w = w' := by
  obtain ⟨P, hP⟩ : ∃ P, FitE l = P := ⟨_, rfl⟩
  have HP := Lib.hid hP
  rw [hP]
  clear hP
  rcases hv with ⟨a, cap, rfl, hl⟩ | ⟨B, off, cap, rfl, hlt, hc⟩
  · have hp : P := by rw [← HP.out, hl]; intro j hj; simp at hj
    have HPP := Lib.hid hp
    clear hp
    go_enter Tryz.func42, Tryz.ntmps42
    go_wp2_with fail
    go_loopg [7] 1 (fun gk t7 wr => t7 = .int .i64 0 ∧ wr = w)
    case atStart => exact ⟨rfl, rfl⟩
    case round =>
      obtain ⟨rfl, rfl⟩ := hrel
      go_wp2_with fail
      go_ret
      exact ⟨Or.inr ⟨rfl, HPP.out⟩, rfl⟩
  · have HC := Lib.hid hc
    obtain ⟨n, hn⟩ : ∃ n, l.length = n := ⟨_, rfl⟩
    have HN := Lib.hid hn
    rw [hn] at hm
    rw [hn]
    clear hc hn
    go_enter Tryz.func42, Tryz.ntmps42
    go_wp2_with fail
    go_loopg [7] n (fun gk t7 wr => ∃ i : Nat, t7 = .int .i64 (i : Int) ∧ i ≤ n ∧ Hid (gk = n - i) ∧ Hid (∀ j, j < i → -200 ≤ l.getD j 0 ∧ l.getD j 0 ≤ 200) ∧ wr = w)
    case atStart => exact ⟨0, rfl, Nat.zero_le _, Lib.hid rfl, Lib.hid (fun j hj => by omega), rfl⟩
    case round =>
      obtain ⟨i, rfl, hi2, HGK, HO, rfl⟩ := hrel
      by_cases hin : i = n
      · have y1 : decide ((i : Int) < (n : Int)) = false := by simp; omega
        have hp : P := by rw [← HP.out]; intro j hj; exact HO.out j (by have := HN.out; omega)
        have HPP := Lib.hid hp
        clear hp
        go_wp2_with fail
        go_ret
        exact ⟨Or.inr ⟨rfl, HPP.out⟩, rfl⟩
      · have hi : i < n := by omega
        have y0 : (0 : Int) ≤ (i : Int) := by omega
        have y2 : (i : Int) < (n : Int) := by omega
        have hcl := HC.out i (by have := HN.out; omega)
        obtain ⟨r, hr⟩ : ∃ r, l.getD i 0 = r := ⟨_, rfl⟩
        have HR := Lib.hid hr
        rw [hr] at hcl
        clear hr
        have hbad : (r < -200 ∨ 200 < r) → ¬ P := fun h => by
          rw [← HP.out]; intro h2
          have := h2 i (by have := HN.out; omega)
          rw [HR.out] at this
          omega
        have HB := Lib.hid hbad
        clear hbad
        by_cases h5 : r < -200
        · have y5 : decide (r < -200) = true := by simp; omega
          have hnp := Lib.hid (HB.out (Or.inl h5))
          go_wp2_with fail
          go_ret
          exact ⟨Or.inl ⟨rfl, hnp.out⟩, rfl⟩
        · have y5 : decide (r < -200) = false := by simp; omega
          by_cases h6 : r > 200
          · have y6 : decide (r > 200) = true := by simp; omega
            have hnp := Lib.hid (HB.out (Or.inr h6))
            go_wp2_with fail
            go_ret
            exact ⟨Or.inl ⟨rfl, hnp.out⟩, rfl⟩
          · have y6 : decide (r > 200) = false := by simp; omega
            have HO2 : Hid (∀ j, j < i + 1 → -200 ≤ l.getD j 0 ∧ l.getD j 0 ≤ 200) := Lib.hid (fun j hj => by
              by_cases hji : j = i
              · subst hji; rw [HR.out]; omega
              · exact HO.out j (by omega))
            have y4 := (w64n (n := (i : Int) + 1) (by omega)).2
            go_wp2_with fail
            clear y4
            go_roundg (n - (i + 1))
            case measure => have := HGK.out; omega
            case rel => exact ⟨i + 1, rfl, by omega, Lib.hid rfl, HO2, rfl⟩
end Go.Proofs.YtbpkfcohbefphaaGreat
namespace Go.Proofs.YtbpkfcohbefphaaGreat
open Go Go.RowKit
theorem divs_len (n : Nat) : (divs n).length ≤ n + 1 := by
  have := List.length_filter_le (fun d => d != 0 && n % d == 0) (List.range (n + 1))
  simpa [divs] using this
theorem divs_pos (n : Nat) (h : 1 ≤ n) : 0 < (divs n).length := by
  refine List.length_pos_of_mem (a := 1) ?_
  unfold divs
  rw [List.mem_filter]
  exact ⟨List.mem_range.2 (by omega), by simp [Nat.mod_one]⟩
/-- What eta.Check asks. -/
def EOK (N : Int) (l : List Int) : Prop := (1 ≤ N ∧ N ≤ 600) ∧ l.length = (divs N.toNat).length ∧ FitE l
set_option maxRecDepth 20000 in
set_option maxHeartbeats 8000000 in
theorem echeckQ (N : Int) (l : List Int) (v : Value) (w : World) (hv : RdInts w v l) :
    Calls Tryz.prog 13 #[.agg #[.int .i64 N, v]] w fun e w' => (∃ x : Int, e = .returned (.int .i64 x) ∧ (x = 0 ↔ EOK N l)) ∧ Grow w w' := by
  obtain ⟨a, cap, rfl⟩ := hv.form
  obtain ⟨W1, hW1⟩ : ∃ W1 : World, W1 = w.alloc (.cells #[.int .i64 N, .slice a l.length cap] 45) := ⟨_, rfl⟩
  have K1 := Lib.hid (ak2 hW1)
  have hg1 := ag hW1
  have HW1 := Lib.hid hW1
  obtain ⟨P, hP⟩ : ∃ P, EOK N l = P := ⟨_, rfl⟩
  have HP := Lib.hid hP
  rw [hP]
  have HV := Lib.hid hv
  clear hW1 hP hv
  obtain ⟨b0, b1, b2, b3⟩ := K1.out W1 (Grow.refl _)
  by_cases h1 : N < 1
  · have y1 : decide (N < 1) = true := by simp; omega
    have hn : ¬ P := by rw [← HP.out]; intro h; have := h.1; omega
    have HN := Lib.hid hn
    clear hn
    go_enter Tryz.func13, Tryz.ntmps13
    go_upto_region 1 with fail
    rw [← HW1.out]
    go_wp2_with fail
    go_ret
    exact ⟨⟨2, rfl, ⟨fun h => by omega, fun h => absurd h HN.out⟩⟩, hg1⟩
  · have y1 : decide (N < 1) = false := by simp; omega
    by_cases h2 : N > 600
    · have y2 : decide (N > 600) = true := by simp; omega
      have hn : ¬ P := by rw [← HP.out]; intro h; have := h.1; omega
      have HN := Lib.hid hn
      clear hn
      go_enter Tryz.func13, Tryz.ntmps13
      go_upto_region 1 with fail
      rw [← HW1.out]
      go_wp2_with fail
      go_ret
      exact ⟨⟨2, rfl, ⟨fun h => by omega, fun h => absurd h HN.out⟩⟩, hg1⟩
    · have y2 : decide (N > 600) = false := by simp; omega
      obtain ⟨n, rfl⟩ : ∃ n : Nat, N = (n : Int) := ⟨N.toNat, by omega⟩
      have DQ := Lib.hid (fun u => edivQ n (by omega) (by omega) u)
      have hdl := divs_len n
      obtain ⟨k, hk⟩ : ∃ k, (divs n).length = k := ⟨_, rfl⟩
      have HK := Lib.hid hk
      rw [hk] at DQ hdl
      obtain ⟨m, hm⟩ : ∃ m, l.length = m := ⟨_, rfl⟩
      have HM := Lib.hid hm
      rw [hm] at HV K1 HW1 b1
      rw [hm]
      have hpe : P ↔ m = k ∧ FitE l := by
        rw [← HP.out, ← hm, ← hk]
        unfold EOK
        rw [show ((n : Int)).toNat = n by omega]
        exact ⟨fun h => h.2, fun h => ⟨⟨by omega, by omega⟩, h⟩⟩
      have HPE := Lib.hid hpe
      have hn6 : n ≤ 600 := by omega
      clear hm hk hpe h1 h2
      go_enter Tryz.func13, Tryz.ntmps13
      go_upto_region 1 with fail
      rw [← HW1.out]
      go_upto_region 3 with fail
      refine region_held (id := 3) (fun u => Grow W1 u) [0, 1, 2, 3, 4, 5, 6, 7] (kdL [0, 1, 0, 0, 1, 2, 0, 0]) (by kernel_rfl) (by kernel_rfl) (fun t ht => kdL_lt _ t ht) ?hS0q ?_
      case hS0q => ((try dsimp only); (repeat (first | with_reducible exact Grow.refl _ | with_reducible refine Grow.alloc ?_ _ | with_reducible refine Grow.drew ?_ | with_reducible refine Grow.drewN ?_ _ | (with_reducible refine Grow.setCell ?_ ?hp _; (case hp => (simp; try omega))) | with_reducible refine Grow.trans ?_ (by assumption))))
      refine held_quiet (v := ?vq0) rfl rfl (Or.inl ⟨by rfl, ?hyq0⟩) ?_
      case hyq0 => (intro u hu; go_simp; (try with_reducible rfl))
      (try simp only [Act.put, List.setIfInBounds_toArray])
      refine held_read (v := ?vq1) rfl rfl (Or.inl ⟨by rfl, ?hyq1⟩) ?_
      case hyq1 => (intro u hu; obtain ⟨f0, f1, f2, f3⟩ := K1.out u hu; go_simp; (try with_reducible rfl))
      (try simp only [Act.put])
      refine held_quiet (v := ?vq2) rfl rfl (Or.inl ⟨by rfl, ?hyq2⟩) ?_
      case hyq2 => (intro u hu; go_simp; (try with_reducible rfl))
      (try simp only [Act.put])
      refine held_quiet (v := ?vq3) rfl rfl (Or.inl ⟨by rfl, ?hyq3⟩) ?_
      case hyq3 => (intro u hu; go_simp; (try with_reducible rfl))
      (try simp only [Act.put])
      refine held_read (v := ?vq4) rfl rfl (Or.inl ⟨by rfl, ?hyq4⟩) ?_
      case hyq4 => (intro u hu; obtain ⟨f0, f1, f2, f3⟩ := K1.out u hu; go_simp; (try with_reducible rfl))
      (try simp only [Act.put])
      refine held_op rfl rfl (fun K hK => ?_)
      go_simp
      (go_at_call 41; (with_reducible refine (DQ.out _).mono ?_); (rintro e u5 ⟨g5, cap5, rfl, hi5, hb5, hw5⟩))
      (try go_wp2_with fail)
      refine hK.out _ _ ?hSq5 ?_
      case hSq5 => ((try dsimp only); (repeat (first | with_reducible exact Grow.refl _ | with_reducible refine Grow.alloc ?_ _ | with_reducible refine Grow.drew ?_ | with_reducible refine Grow.drewN ?_ _ | (with_reducible refine Grow.setCell ?_ ?hp _; (case hp => (simp; try omega))) | with_reducible refine Grow.trans ?_ (by assumption))))
      clear hK K
      (try simp only [Act.put])
      refine held_quiet (v := ?vq6) rfl rfl (Or.inl ⟨by rfl, ?hyq6⟩) ?_
      case hyq6 => (intro u hu; go_simp; (try with_reducible rfl))
      (try simp only [Act.put])
      refine held_quiet (v := ?vq7) rfl rfl (Or.inl ⟨by rfl, ?hyq7⟩) ?_
      case hyq7 => (intro u hu; go_simp; (try with_reducible rfl))
      (try simp only [Act.put])
      refine held_done ?_
      by_cases h3 : m = k
      · subst h3
        have y3 : ((m : Int) != (m : Int)) = false := by simp
        obtain ⟨c0, c1, c2, c3⟩ := K1.out u5 (by (repeat (first | with_reducible exact Grow.refl _ | with_reducible refine Grow.alloc ?_ _ | with_reducible refine Grow.drew ?_ | with_reducible refine Grow.drewN ?_ _ | (with_reducible refine Grow.setCell ?_ ?hp _; (case hp => (simp; try omega))) | with_reducible refine Grow.trans ?_ (by assumption))))
        have hmm : l.length < 4611686018427387904 := by rw [HM.out]; omega
        have FQ := Lib.hid (fun u hu => efitsQ l (.slice a m cap) hmm u hu)
        have HV5 := Lib.hid (RdInts.grow HV.out (w' := u5) (by (repeat (first | with_reducible exact Grow.refl _ | with_reducible refine Grow.alloc ?_ _ | with_reducible refine Grow.drew ?_ | with_reducible refine Grow.drewN ?_ _ | (with_reducible refine Grow.setCell ?_ ?hp _; (case hp => (simp; try omega))) | with_reducible refine Grow.trans ?_ (by assumption)))))
        clear hmm
        go_wp2_with (go_at_call 42; (with_reducible refine (FQ.out _ HV5.out).mono ?_); (rintro e u6 ⟨hb6, rfl⟩; rcases hb6 with ⟨rfl, hf⟩ | ⟨rfl, hf⟩))
        · go_wp2_with fail
          go_ret
          exact ⟨⟨2, rfl, ⟨fun h => by omega, fun h => absurd (HPE.out.1 h).2 hf⟩⟩, by (repeat (first | with_reducible exact Grow.refl _ | with_reducible refine Grow.alloc ?_ _ | with_reducible refine Grow.drew ?_ | with_reducible refine Grow.drewN ?_ _ | (with_reducible refine Grow.setCell ?_ ?hp _; (case hp => (simp; try omega))) | with_reducible refine Grow.trans ?_ (by assumption)))⟩
        · go_wp2_with fail
          go_ret
          exact ⟨⟨0, rfl, ⟨fun _ => HPE.out.2 ⟨(by first | trivial | rfl), hf⟩, fun _ => rfl⟩⟩, by (repeat (first | with_reducible exact Grow.refl _ | with_reducible refine Grow.alloc ?_ _ | with_reducible refine Grow.drew ?_ | with_reducible refine Grow.drewN ?_ _ | (with_reducible refine Grow.setCell ?_ ?hp _; (case hp => (simp; try omega))) | with_reducible refine Grow.trans ?_ (by assumption)))⟩
      · have y3 : ((m : Int) != (k : Int)) = true := by simp; omega
        go_wp2_with fail
        go_ret
        exact ⟨⟨4, rfl, ⟨fun h => by omega, fun h => absurd (HPE.out.1 h).1 h3⟩⟩, by (repeat (first | with_reducible exact Grow.refl _ | with_reducible refine Grow.alloc ?_ _ | with_reducible refine Grow.drew ?_ | with_reducible refine Grow.drewN ?_ _ | (with_reducible refine Grow.setCell ?_ ?hp _; (case hp => (simp; try omega))) | with_reducible refine Grow.trans ?_ (by assumption)))⟩
end Go.Proofs.YtbpkfcohbefphaaGreat
namespace Go.Proofs.YtbpkfcohbefphaaGreat
open Go Go.RowKit
theorem IntQ.upd {w : World} {B n : Nat} {f : Nat → Int} (h : IntQ w B 0 n f) {j : Nat} (hj : j < n) (x : Int) :
    IntQ (w.setCell ⟨B, j, none⟩ (.int .i64 x)) B 0 n (upd f j x) ∧ But (fun b => b = B) w (w.setCell ⟨B, j, none⟩ (.int .i64 x)) := by
  have h1 := h.set hj x
  rw [Nat.zero_add] at h1
  exact ⟨h1.1.cong (fun i hi => by by_cases e : i = j <;> simp [Go.Proofs.YtbpkfcohbefphaaGreat.upd, e]), h1.2⟩
/-- The memory of each: its form at Z, its point at Z + 1, what the closure counts. -/
structure EaS (w u : World) (Z N n c B off p2 p3 p4 Mb cM prec : Nat) (x h : Nat → Int) : Prop where
  chg : But (fun y => y = Mb ∨ Z ≤ y) w u
  lt : Z + 1 < u.heap.size
  g0 : u.cell? ⟨Z, 0, none⟩ = some (.int .i64 (n : Int))
  g1 : u.cell? ⟨Z, 1, none⟩ = some (.slice (some ⟨B, off, none⟩) N c)
  row : IntQ u (Z + 1) 0 n x
  free : ∀ o, u.frozen? ⟨Z + 1, o, none⟩ = false
  man : ManS u p2 p3 p4 Mb cM prec h
  m1 : Mb < Z
  m2 : p2 < Z
  m3 : p3 < Z
  m4 : p4 < Z
theorem EaS.grow {w u u' : World} {Z N n c B off p2 p3 p4 Mb cM prec : Nat} {x h : Nat → Int} (H : EaS w u Z N n c B off p2 p3 p4 Mb cM prec x h) (hg : Grow u u') : EaS w u' Z N n c B off p2 p3 p4 Mb cM prec x h :=
  ⟨H.chg.trans (hg.but _), Nat.lt_of_lt_of_le H.lt hg.size, (hg.cells _ _ (by have := H.lt; omega)).trans H.g0, (hg.cells _ _ (by have := H.lt; omega)).trans H.g1, H.row.grow hg, fun o => (hg.frees _ _ H.lt).trans (H.free o), H.man.but (X := fun _ => False) (hg.but _) (fun e => e) (fun e => e) (fun e => e) (fun e => e), H.m1, H.m2, H.m3, H.m4⟩
theorem EaS.put {w u : World} {Z N n c B off p2 p3 p4 Mb cM prec : Nat} {x h : Nat → Int} (H : EaS w u Z N n c B off p2 p3 p4 Mb cM prec x h) {j : Nat} (hj : j < n) (v : Int) : EaS w (u.setCell ⟨Z + 1, j, none⟩ (.int .i64 v)) Z N n c B off p2 p3 p4 Mb cM prec (upd x j v) h := by
  obtain ⟨h1, h2⟩ := H.row.upd hj v
  have hl := H.lt
  exact ⟨H.chg.trans (h2.mono (fun b e => .inr (by omega))), Nat.lt_of_lt_of_le H.lt h2.size, (h2.cells _ _ (by omega) (by omega)).trans H.g0, (h2.cells _ _ (by omega) (by omega)).trans H.g1, h1, fun o => (h2.frees _ _ hl).trans (H.free o), H.man.but h2 (by have := H.m2; omega) (by have := H.m3; omega) (by have := H.m4; omega) (by have := H.m1; omega), H.m1, H.m2, H.m3, H.m4⟩
theorem EaS.call {w u u' : World} {Z N n c B off p2 p3 p4 Mb cM prec : Nat} {x h h' : Nat → Int} (H : EaS w u Z N n c B off p2 p3 p4 Mb cM prec x h) (hm : ManS u' p2 p3 p4 Mb cM prec h') (hb : But (fun b => b = Mb) u u') : EaS w u' Z N n c B off p2 p3 p4 Mb cM prec x h' := by
  have hl := H.lt
  have h1 := H.m1
  exact ⟨H.chg.trans (hb.mono (fun b e => .inl e)), Nat.lt_of_lt_of_le H.lt hb.size, (hb.cells _ _ (by omega) (by omega)).trans H.g0, (hb.cells _ _ (by omega) (by omega)).trans H.g1, H.row.but (by omega) hb, fun o => (hb.frees _ _ hl).trans (H.free o), hm, H.m1, H.m2, H.m3, H.m4⟩
/-- The form's row and the box's row, unchanged. -/
theorem EaS.old {w u : World} {Z N n c B off p2 p3 p4 Mb cM prec : Nat} {x h : Nat → Int} (H : EaS w u Z N n c B off p2 p3 p4 Mb cM prec x h) (hz : Z = w.heap.size) {B' off' n' : Nat} {f : Nat → Int} (hA : IntQ w B' off' n' f) (hne : B' ≠ Mb) : IntQ u B' off' n' f :=
  hA.but (by have := hA.lt; omega) H.chg
end Go.Proofs.YtbpkfcohbefphaaGreat
namespace Go.Proofs.YtbpkfcohbefphaaGreat
/-- A fraction with a small numerator and a small denominator. -/
def Sm (x : Rat) (a b : Nat) : Prop := x.num.natAbs ≤ a ∧ x.den ≤ b
theorem Sm.mono {x : Rat} {a b a' b' : Nat} (h : Sm x a b) (ha : a ≤ a') (hb : b ≤ b') : Sm x a' b' := ⟨Nat.le_trans h.1 ha, Nat.le_trans h.2 hb⟩
theorem sm_mk (p : Int) (q : Nat) (hq : 0 < q) : Sm (mkRat p q) p.natAbs q := by
  have hr := Rat.num_mkRat p q
  have hd := Rat.den_mkRat p q
  have hne : q ≠ 0 := by omega
  rw [if_neg hne] at hr hd
  constructor
  · rw [hr, Int.natAbs_ediv_of_dvd (Int.natAbs_dvd_natAbs.1 (by simpa using Nat.gcd_dvd_right _ _))]
    exact Nat.div_le_self _ _
  · rw [hd]
    exact Nat.div_le_self _ _
theorem sm_div (p : Int) (q : Nat) (hq : 0 < q) : Sm ((p : Rat) / (q : Rat)) p.natAbs q := by
  rw [← Rat.mkRat_eq_div]; exact sm_mk p q hq
theorem sm_int (z : Int) : Sm (z : Rat) z.natAbs 1 := ⟨by simp, by simp⟩
theorem Sm.neg {x : Rat} {a b : Nat} (h : Sm x a b) : Sm (-x) a b := ⟨by simpa using h.1, by simpa using h.2⟩
theorem Sm.add {x y : Rat} {a b c d : Nat} (h : Sm x a b) (h' : Sm y c d) : Sm (x + y) (a * d + c * b) (b * d) := by
  rw [Rat.add_def']
  refine (sm_mk _ _ (Nat.mul_pos x.den_pos y.den_pos)).mono ?_ (Nat.mul_le_mul h.2 h'.2)
  refine Nat.le_trans (Int.natAbs_add_le _ _) (Nat.add_le_add ?_ ?_)
  · rw [Int.natAbs_mul]; exact Nat.mul_le_mul h.1 (by simpa using h'.2)
  · rw [Int.natAbs_mul]; exact Nat.mul_le_mul h'.1 (by simpa using h.2)
theorem Sm.mulB {x y : Rat} {a b c d : Nat} (h : Sm x a b) (h' : Sm y c d) (h1 : a * c < 4294967296) (h2 : b * d < 4294967296) : MulB x y := by
  constructor
  · rw [Int.natAbs_mul]; exact Nat.lt_of_le_of_lt (Nat.mul_le_mul h.1 h'.1) h1
  · rw [Int.natAbs_mul]; exact Nat.lt_of_le_of_lt (Nat.mul_le_mul (by simpa using h.2) (by simpa using h'.2)) h2
theorem Sm.quoB {x y : Rat} {a b c d : Nat} (h : Sm x a b) (h' : Sm y c d) (h1 : a * d < 4294967296) (h2 : b * c < 4294967296) : QuoB x y := by
  constructor
  · rw [Int.natAbs_mul]; exact Nat.lt_of_le_of_lt (Nat.mul_le_mul h.1 (by simpa using h'.2)) h1
  · rw [Int.natAbs_mul]; exact Nat.lt_of_le_of_lt (Nat.mul_le_mul (by simpa using h.2) h'.1) h2
theorem Sm.addB {x y : Rat} {a b c d : Nat} (h : Sm x a b) (h' : Sm y c d) (h1 : a * d + c * b < 4294967296) (h2 : b * d < 4294967296) : AddB x y := by
  have e1 : (x.num * (y.den : Int)).natAbs ≤ a * d := by rw [Int.natAbs_mul]; exact Nat.mul_le_mul h.1 (by simpa using h'.2)
  have e2 : (y.num * (x.den : Int)).natAbs ≤ c * b := by rw [Int.natAbs_mul]; exact Nat.mul_le_mul h'.1 (by simpa using h.2)
  have e3 : ((x.den : Int) * (y.den : Int)).natAbs ≤ b * d := by rw [Int.natAbs_mul]; exact Nat.mul_le_mul (by simpa using h.2) (by simpa using h'.2)
  have e4 := Int.natAbs_add_le (x.num * (y.den : Int)) (y.num * (x.den : Int))
  exact ⟨by omega, by omega, by omega, by omega⟩
section
variable {M : Nat → Nat → Rat} {p q r D : Int}
end
end Go.Proofs.YtbpkfcohbefphaaGreat
namespace Go.Proofs.YtbpkfcohbefphaaGreat
open Go Go.RowKit
theorem floor_frac (a : Int) {b : Int} (hb : 0 < b) : ((a : Rat) / (b : Rat)).num / (((a : Rat) / (b : Rat)).den : Int) = a / b := by
  rw [← Rat.divInt_eq_div]
  obtain ⟨h1, h2⟩ := divInt_low (n := a) hb
  rw [h1, h2]
  obtain ⟨g, hg⟩ : ∃ g : Int, (Int.gcd a b : Int) = g := ⟨_, rfl⟩
  have hg0 : 0 < g := by rw [← hg]; have := Int.gcd_pos_of_ne_zero_right a (show b ≠ 0 by omega); omega
  obtain ⟨a', ha⟩ : g ∣ a := by rw [← hg]; exact Int.gcd_dvd_left _ _
  obtain ⟨b', hb'⟩ : g ∣ b := by rw [← hg]; exact Int.gcd_dvd_right _ _
  rw [hg, ha, hb', Int.mul_ediv_cancel_left _ (by omega), Int.mul_ediv_cancel_left _ (by omega), Int.mul_ediv_mul_of_pos _ _ hg0]
end Go.Proofs.YtbpkfcohbefphaaGreat
