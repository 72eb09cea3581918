/- Walk: Cremona of the program. -/
import Derived.Test.YtalidpojcpmcbaaHbE
import Derived.Test.YtalidpojcpmcbaaHbA
import Derived.Maps.AppendAt
import Derived.Laws.OwnMore
namespace Go.Proofs.Ytalidpojcpmcbaa
open Go Go.RowKit

theorem own_far {w0 w w' : World} {base : Nat} {e : TypeId} {size : Nat} {v : Value} {n : Nat} {xs : List Value} (h : w0.ownsRow base e size v n xs) (hg : w.grownBy w' v.ownBlock) (b : Nat) (hb : w0.heap.size ≤ b) (hb2 : b < w.heap.size) :
    (∀ o, w'.cell? ⟨b, o, none⟩ = w.cell? ⟨b, o, none⟩) ∧ (∀ o, w'.frozen? ⟨b, o, none⟩ = w.frozen? ⟨b, o, none⟩) := by
  have hk : w'.heap[b]? = w.heap[b]? := hg.block b hb2 (fun e => by have := (h.lt b e.symm).2; omega)
  exact ⟨fun o => World.cell?_of_block hk, fun o => World.frozen?_of_block hk⟩
theorem own_by {w w' : World} {v : Value} (hg : w.grownBy w' v.ownBlock) (b : Nat) (hne : ∀ k, v.ownBlock = some k → k ≠ b) (hb2 : b < w.heap.size) :
    (∀ o, w'.cell? ⟨b, o, none⟩ = w.cell? ⟨b, o, none⟩) ∧ (∀ o, w'.frozen? ⟨b, o, none⟩ = w.frozen? ⟨b, o, none⟩) := by
  have hk : w'.heap[b]? = w.heap[b]? := hg.block b hb2 (fun e => hne b e.symm rfl)
  exact ⟨fun o => World.cell?_of_block hk, fun o => World.frozen?_of_block hk⟩
theorem own_put {w : World} {base : Nat} {e : TypeId} {size : Nat} {v : Value} {n : Nat} {xs : List Value} (h : w.ownsRow base e size v n xs) {a : Addr} (hne : ∀ k, v.ownBlock = some k → k ≠ a.block) (u : Value) : (w.setCell a u).ownsRow base e size v n xs := by
  refine ⟨h.1, ?_⟩
  rcases h.2 with h2 | ⟨g, cap, cur, hv, hb, hg, h3⟩
  · exact .inl h2
  · refine .inr ⟨g, cap, cur, hv, hb, ?_, h3⟩
    have hgne : g ≠ a.block := hne g (by rw [hv]; rfl)
    simp [World.setCell, Array.getElem?_modify, Ne.symm hgne, hg]
theorem fl_bd {a b : Int} (ha : -5000 ≤ a) (ha' : a ≤ 5000) (hb : b ≠ 0) : -10000 ≤ flF a b ∧ flF a b ≤ 10000 := by
  have h := tdiv_bd' a b 5000 ha ha'
  rw [fl_prog hb]
  split <;> omega

theorem lit_own (w : World) (a b c d : Int) : OwnMats (w.alloc (.cells #[.int .i64 a, .int .i64 b, .int .i64 c, .int .i64 d] 39)) w.heap.size (.slice (some ⟨w.heap.size, 0, none⟩) 1 1) [⟨a, b, c, d⟩] :=
  World.ownsRow_lit (base := w.heap.size) (e := 39) (size := 4) w #[.int .i64 a, .int .i64 b, .int .i64 c, .int .i64 d] 1 (Nat.le_refl _) (by decide) rfl

/-- The memory of the inner loop: the matrix in its box, the row elsewhere. -/
def CrMem (w0 : World) (B : Nat) (m : M2) (v : Value) (acc : List M2) (wr : World) : Prop :=
  wr.cell? ⟨B, 0, none⟩ = some (.int .i64 m.a) ∧ wr.cell? ⟨B, 1, none⟩ = some (.int .i64 m.b) ∧ wr.cell? ⟨B, 2, none⟩ = some (.int .i64 m.c) ∧ wr.cell? ⟨B, 3, none⟩ = some (.int .i64 m.d) ∧
    (∀ o, wr.frozen? ⟨B, o, none⟩ = false) ∧ B < wr.heap.size ∧ w0.heap.size ≤ B ∧ Hid (OwnMats wr w0.heap.size v acc ∧ (∀ k, v.ownBlock = some k → k ≠ B) ∧ Grow w0 wr)

set_option maxRecDepth 20000 in
set_option maxHeartbeats 4000000 in
theorem cremona_core (p : Int) (h1 : 1 ≤ p) (h2 : p ≤ 128) (hp2 : p ≠ 2) (hpr : Hid (prF p = true)) (hok : Hid (crROk 200 p ((-(p - 1)).tdiv 2) = true)) (M : List M2) (hM : Hid (crF p = M)) (hML : M.length ≤ 100000) (w : World) :
    Calls Try.prog 16 #[.int .i64 p] w fun e w' => ∃ v, e = .returned (.tuple #[v, .int .i64 0]) ∧ OwnMats w' w.heap.size v M ∧ Grow w w' := by
  obtain ⟨i0, hi, iz0, iz1, iz2⟩ := info_parts infoM
  have k1 : ¬ p < 1 := by omega
  have k2 : ¬ 128 < p := by omega
  have k3 : (p == 2) = false := by simpa using hp2
  have IP := Lib.hid (fun w => isPrime_any p h1 h2 w)
  rw [hpr.out] at IP
  obtain ⟨R, hR⟩ : ∃ R, (-(p - 1)).tdiv 2 = R := ⟨_, rfl⟩
  obtain ⟨T, hT⟩ : ∃ T, (p - 1).tdiv 2 = T := ⟨_, rfl⟩
  have hRb := tdiv_bd' (-(p - 1)) 2 128 (by omega) (by omega)
  have hTb := tdiv_bd' (p - 1) 2 128 (by omega) (by omega)
  rw [hR] at hRb
  rw [hT] at hTb
  obtain ⟨hR0, hR1⟩ := hRb
  obtain ⟨hT0, hT1⟩ := hTb
  have y1 : IntKind.i64.wrap (p - 1) = p - 1 := IntWalk.i64_in _ (by omega)
  have y2 : IntKind.i64.wrap (-(p - 1)) = -(p - 1) := IntWalk.i64_in _ (by omega)
  have y3 : IntKind.i64.wrap R = R := IntWalk.i64_in _ (by omega)
  have y4 : IntKind.i64.wrap T = T := IntWalk.i64_in _ (by omega)
  have y5 : IntKind.i64.wrap (-p) = -p := IntWalk.i64_in _ (by omega)
  have HOk := Lib.hid hok.out
  have HM := Lib.hid hM.out
  rw [hR] at HOk
  simp only [crF] at HM
  rw [hR] at HM
  clear hp2 hok hM
  go_enter Try.func16, Try.ntmps16
  go_wp2_with fail
  (go_at_call 23; refine (IP.out _).mono ?_; rintro e w1 ⟨rfl, hb1⟩; have hc1 := hb1.cells; have hf1 := hb1.frees; have hz1 := hb1.size; (try simp at hz1))
  clear hc1 hf1
  go_wp2_with fail
  have hO := OwnMats.into (lit_own w1 1 0 0 p) (Grow.refl _)
  have HO := Lib.hid (own_base hO (base' := w.heap.size) hz1)
  have HG1 := Lib.hid hb1
  clear hO hb1 k1 k2 k3
  go_loopg [6, 7] 200 (fun k t6 t7 wr => ∃ (r : Int) (acc : List M2), t7 = .int .i64 r ∧ Hid (crROk k p r = true) ∧ Hid (acc ++ crR k p r = M) ∧ Hid (OwnMats wr w.heap.size t6 acc) ∧ Hid (Grow w wr))
  case atStart => exact ⟨R, [⟨1, 0, 0, p⟩], rfl, HOk.out, HM.out, HO.out, HG1.out.alloc _⟩
  case round =>
    clear HO HG1 HOk HM hz1
    obtain ⟨r, acc, rfl, hok, hacc, hown, hgr⟩ := hrel
    obtain ⟨wr0, hw0⟩ : ∃ x, x = wr := ⟨wr, rfl⟩
    subst hw0
    have hok2 := hok.out
    have hacc2 := hacc.out
    cases gk with
    | zero => simp [crROk] at hok2
    | succ g1 =>
      simp only [crROk, Bool.and_eq_true, decide_eq_true_eq] at hok2
      simp only [crR] at hacc2
      rw [hT] at hok2 hacc2
      obtain ⟨⟨hr0, hr1⟩, hok3⟩ := hok2
      have y6 : IntKind.i64.wrap (-r) = -r := IntWalk.i64_in _ (by omega)
      have hzz := hgr.out.size
      by_cases hrT : r ≤ T
      · rw [if_pos hrT] at hok3 hacc2
        simp only [Bool.and_eq_true] at hok3
        obtain ⟨hk1, hk2⟩ := hok3
        have hlen := acc_le hacc2 hML
        have HK1 := Lib.hid hk1
        have HK2 := Lib.hid hk2
        have HA := Lib.hid hacc2
        clear hok hacc hacc2 hk1 hk2
        go_wp2_with (at_builtin; refine wpList_append_own_at _ rfl _ _ 24 rfl (w.heap.size) 39 i0 (.agg #[.int .i64 0, .int .i64 0, .int .i64 0, .int .i64 0]) 4 32 Try.underlying24 hi iz0 iz1 iz2 rfl (by decide) _ _ _ rfl ((hown.out.alloc _).alloc _) ⟨wr0.heap.size + 1, 0, none⟩ 1 1 [.int .i64 (p), .int .i64 (-r), .int .i64 (0), .int .i64 (1)] rfl rfl (four_cells _ _ _ _ _ _ _ ?c1) (four_oneCell _ _ _ _) ?c3 ?c4 ?c5 ?_)
        case c1 => simp
        case c3 => unfold maxLen; omega
        case c4 => omega
        case c5 => (try simp); omega
        intro v2 w2 hown2 hgrow2 _ hat2
        have hG2 : Grow w w2 := own_grow ((hgr.out.alloc _).alloc _) ((hown.out.alloc _).alloc _) hgrow2 (Nat.le_refl _)
        obtain ⟨hcc, hff⟩ := own_far hown.out hgrow2 wr0.heap.size (Nat.le_refl _) (by (try simp); omega)
        have hsz := hgrow2.size
        simp at hsz
        have hh2 : wr0.heap.size < wr0.heap.size + 1 + 1 := by omega
        have hne2 : ∀ k, v2.ownBlock = some k → k ≠ wr0.heap.size := by
          intro k hk
          rcases hat2 with h | h
          · rw [h] at hk; have := (hown.out.lt k hk).2; omega
          · rw [h] at hk; simp at hk; omega
        have HC : Hid (CrMem w wr0.heap.size ⟨p, -r, 0, 1⟩ v2 (acc ++ [(⟨p, -r, 0, 1⟩ : M2)]) w2) := by
          refine ⟨?_, ?_, ?_, ?_, ?_, by omega, hzz, ?_, hne2, hG2⟩
          · rw [hcc]; go_simp
          · rw [hcc]; go_simp
          · rw [hcc]; go_simp
          · rw [hcc]; go_simp
          · intro o; rw [hff]; go_simp
          · unfold OwnMats; rw [cellsM_snoc]; simpa using hown2
        clear hown2 hgrow2 hat2 hG2 hcc hff hne2 hown hgr hlen
        go_wp2_with fail
        go_loopg [6, 9, 10] 40 (fun k t6 t9 t10 wx => ∃ (m : M2) (s t : Int) (acc : List M2), t9 = .int .i64 s ∧ t10 = .int .i64 t ∧ Hid (crOk k m s t = true) ∧ Hid (acc ++ (crT k m s t ++ crR g1 p (r + 1)) = M) ∧ Hid (CrMem w wr0.heap.size m t6 acc wx))
        case atStart => exact ⟨⟨p, -r, 0, 1⟩, -p, r, acc ++ [(⟨p, -r, 0, 1⟩ : M2)], rfl, rfl, HK1.out, (List.append_assoc _ _ _).trans HA.out, HC.out⟩
        case round =>
          clear HA HC HK1 hh2
          obtain ⟨m, s, t, acc, rfl, rfl, hok, hacc, hmem⟩ := hrel
          obtain ⟨m1, m2, m3, m4, mfz, mlt, mge, mrest⟩ := hmem.out
          have mltH := Lib.hid mlt
          have hok2 := hok.out
          have hacc2 := hacc.out
          cases gk with
          | zero => simp [crOk] at hok2
          | succ g2 =>
            simp only [crOk, Bool.and_eq_true, Bool.or_eq_true, decide_eq_true_eq] at hok2
            simp only [crT] at hacc2
            obtain ⟨⟨⟨⟨⟨hsm, hs1⟩, hs2⟩, ht1⟩, ht2⟩, hrest⟩ := hok2
            obtain ⟨hown, hne, hgr⟩ := mrest.out
            have HOW := Lib.hid hown
            have HNE := Lib.hid hne
            have HGR := Lib.hid hgr
            have hz2 := hgr.size
            clear hown hne hgr mrest hok hmem hacc
            by_cases ht0 : t = 0
            · have tn : (t != 0) = false := by simpa using ht0
              rw [if_pos ht0, List.nil_append] at hacc2
              have HA := Lib.hid hacc2
              clear hacc2 ht0 hrest
              go_wp2_with fail
              go_roundg g1
              case measure => omega
              case rel => exact ⟨r + 1, acc, rfl, HK2.out, HA.out, HOW.out, HGR.out⟩
            · have tn : (t != 0) = true := by simpa using ht0
              rw [if_neg ht0] at hacc2
              have hrest := hrest.resolve_left ht0
              have h2t : 2 * t ≠ 0 := by omega
              obtain ⟨q, hq⟩ : ∃ q, flF (2 * s + t) (2 * t) = q := ⟨_, rfl⟩
              obtain ⟨hq1, hq2⟩ := fl_bd (a := 2 * s + t) (b := 2 * t) (by omega) (by omega) h2t
              have IFL := floor_any (2 * s + t) (2 * t) (by omega) (by omega) h2t
              rw [hq] at hrest hacc2 hq1 hq2 IFL
              obtain ⟨m', hm'⟩ : ∃ m', nxF m q = m' := ⟨_, rfl⟩
              have INX := next_any m q hsm hq1 hq2
              rw [hm'] at hrest hacc2 INX
              obtain ⟨j1, j2⟩ := mul_bd (a := q) (x := t) 10000 1000 hq1 hq2 ht1 ht2
              have y7 : IntKind.i64.wrap (2 * s) = 2 * s := IntWalk.i64_in _ (by omega)
              have y8 : IntKind.i64.wrap (2 * s + t) = 2 * s + t := IntWalk.i64_in _ (by omega)
              have y9 : IntKind.i64.wrap (2 * t) = 2 * t := IntWalk.i64_in _ (by omega)
              have y10 : IntKind.i64.wrap (-t) = -t := IntWalk.i64_in _ (by omega)
              have y11 : IntKind.i64.wrap (q * t) = q * t := IntWalk.i64_in _ (by omega)
              have y12 : IntKind.i64.wrap (s - q * t) = s - q * t := IntWalk.i64_in _ (by omega)
              have HK3 := Lib.hid hrest
              rw [List.cons_append] at hacc2
              have hlen := acc_le hacc2 hML
              have HA := Lib.hid hacc2
              have IFLH := Lib.hid IFL
              have INXH := Lib.hid INX
              clear hacc2 hrest hq hm' IFL INX j1 j2 ht0 h2t
              go_wp2_with fail
              (go_at_call 24; refine (IFLH.out _).mono ?_; rintro e w1 ⟨rfl, rfl⟩)
              go_wp2_with fail
              (go_at_call 25; refine (INXH.out _).mono ?_; rintro e w1 ⟨rfl, hb1⟩; have hc1 := hb1.cells; have hf1 := hb1.frees; have hz1 := hb1.size; (try simp at hz1))
              have mlt1 := Nat.lt_of_lt_of_le mltH.out hz1
              have HO1 := Lib.hid (OwnMats.into HOW.out hb1)
              have GR1 := Lib.hid (HGR.out.trans hb1)
              have HO2 := Lib.hid ((own_put (own_put (own_put (own_put HO1.out (a := ⟨wr0.heap.size, 0, none⟩) HNE.out (.int .i64 m'.a)) (a := ⟨wr0.heap.size, 1, none⟩) HNE.out (.int .i64 m'.b)) (a := ⟨wr0.heap.size, 2, none⟩) HNE.out (.int .i64 m'.c)) (a := ⟨wr0.heap.size, 3, none⟩) HNE.out (.int .i64 m'.d)).alloc (.cells #[.int .i64 m'.a, .int .i64 m'.b, .int .i64 m'.c, .int .i64 m'.d] 39))
              have GR2 := Lib.hid (((((GR1.out.setCell (p := ⟨wr0.heap.size, 0, none⟩) mge (.int .i64 m'.a)).setCell (p := ⟨wr0.heap.size, 1, none⟩) mge (.int .i64 m'.b)).setCell (p := ⟨wr0.heap.size, 2, none⟩) mge (.int .i64 m'.c)).setCell (p := ⟨wr0.heap.size, 3, none⟩) mge (.int .i64 m'.d)).alloc (.cells #[.int .i64 m'.a, .int .i64 m'.b, .int .i64 m'.c, .int .i64 m'.d] 39))
              go_wp2_with (at_builtin; refine wpList_append_own_at _ rfl _ _ 24 rfl (w.heap.size) 39 i0 (.agg #[.int .i64 0, .int .i64 0, .int .i64 0, .int .i64 0]) 4 32 Try.underlying24 hi iz0 iz1 iz2 rfl (by decide) _ _ _ rfl HO2.out ⟨w1.heap.size, 0, none⟩ 1 1 [.int .i64 m'.a, .int .i64 m'.b, .int .i64 m'.c, .int .i64 m'.d] rfl rfl (four_cells _ _ _ _ _ _ _ ?c1) (four_oneCell _ _ _ _) ?c3 ?c4 ?c5 ?_)
              case c1 => simp
              case c3 => unfold maxLen; omega
              case c4 => omega
              case c5 => (try simp); omega
              intro v2 w2 hown2 hgrow2 hbeg2 hat2
              have hG2 : Grow w w2 := own_grow GR2.out HO2.out hgrow2 (Nat.le_refl _)
              obtain ⟨hcc, hff⟩ := own_by hgrow2 wr0.heap.size HNE.out (by (try simp); omega)
              have hsz := hgrow2.size
              simp at hsz
              have HC2 : Hid (CrMem w wr0.heap.size m' v2 (acc ++ [m']) w2) := by
                refine ⟨?_, ?_, ?_, ?_, ?_, by omega, mge, ?_, ?_, hG2⟩
                · rw [hcc]; go_simp
                · rw [hcc]; go_simp
                · rw [hcc]; go_simp
                · rw [hcc]; go_simp
                · intro o; rw [hff]; go_simp
                · unfold OwnMats; rw [cellsM_snoc]; simpa using hown2
                · intro k hk
                  rcases hat2 with h | h
                  · rw [h] at hk; exact HNE.out k hk
                  · rw [h] at hk; simp at hk; omega
              clear hown2 hgrow2 hat2 hbeg2 hG2 hcc hff HO1 HO2 GR1 GR2 HOW HNE HGR
              go_wp2
              go_roundg g2
              case measure => omega
              case rel => exact ⟨m', -t, s - q * t, acc ++ [m'], rfl, rfl, HK3.out, (List.append_assoc _ _ _).trans HA.out, HC2.out⟩
      · rw [if_neg hrT] at hacc2
        have HA := Lib.hid hacc2
        clear hok hok3 hacc hacc2
        go_wp2_with fail
        refine bodyPost_ret (v := .tuple #[u6, .int .i64 0]) (by simp only [results, Try.results16]; go_simp) rfl ⟨_, rfl, ?_, hgr.out⟩
        have h := HA.out
        rw [List.append_nil] at h
        rw [← h]
        exact hown.out
end Go.Proofs.Ytalidpojcpmcbaa
