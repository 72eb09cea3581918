/- Walk: Chains of the program. -/
import Derived.Test.YtalidpojcpmcbaaHcG
import Derived.Deep.DeepCutAuto
import Derived.Deep.RegionHeld3
import Derived.Deep.CutBlock
namespace Go.Proofs.Ytalidpojcpmcbaa
open Go Go.RowKit

def cI (f : Nat) (l : List Int) (u : Nat) (g : M2) (k : Nat → List M2) : List M2 := (chI f l u g).1 ++ k (chI f l u g).2
def cB (f : Nat) (l : List Int) (n a b : Int) (u : Nat) (k : Nat → List M2) : List M2 := (chB f l n a b u).1 ++ k (chB f l n a b u).2
theorem cI_end {f : Nat} {l : List Int} {u : Nat} {g : M2} {k : Nat → List M2} (h : g.b = 0) : cI (f + 1) l u g k = k u := by
  unfold cI chI; rw [if_pos h]; rfl
theorem cI_step {f : Nat} {l : List Int} {u : Nat} {g : M2} {k : Nat → List M2} (h : g.b ≠ 0) : cI (f + 1) l u g k = nxF g (chQ l u g.a g.b) :: cI f l (chU l u) (nxF g (chQ l u g.a g.b)) k := by
  unfold cI; rw [chI, if_neg h]; rfl
theorem cB_end {f : Nat} {l : List Int} {n a b : Int} {u : Nat} {k : Nat → List M2} (h : ¬ b < a) : cB (f + 1) l n a b u k = k u := by
  unfold cB chB; rw [if_neg h]; rfl
theorem cB_step {f : Nat} {l : List Int} {n a b : Int} {u : Nat} {k : Nat → List M2} (h : b < a) : cB (f + 1) l n a b u k = ⟨a, b, 0, n.tdiv a⟩ :: cI 30 l u ⟨a, b, 0, n.tdiv a⟩ (fun u2 => cB f l n a (b + 1) u2 k) := by
  unfold cB cI; rw [chB, if_pos h]; simp
theorem chA_step {f : Nat} {l : List Int} {n a : Int} {u : Nat} (h : a ≤ n) (h2 : n.tmod a = 0) : chA (f + 1) l n a u = cB 30 l n a 0 u (fun u2 => chA f l n (a + 1) u2) := by
  unfold cB; rw [chA, if_pos h, if_pos h2]
theorem chA_skip {f : Nat} {l : List Int} {n a : Int} {u : Nat} (h : a ≤ n) (h2 : n.tmod a ≠ 0) : chA (f + 1) l n a u = chA f l n (a + 1) u := by
  rw [chA, if_pos h, if_neg h2]
theorem chA_end {f : Nat} {l : List Int} {n a : Int} {u : Nat} (h : ¬ a ≤ n) : chA (f + 1) l n a u = [] := by
  rw [chA, if_neg h]
theorem chU_le (l : List Int) (u : Nat) : chU l u ≤ u + 1 := by unfold chU; split <;> omega
def GM (w0 : World) (B : Nat) (g : M2) (v : Value) (acc : List M2) (vc : Value) (u : Nat) (w : World) : Prop :=
  w.cell? ⟨B, 0, none⟩ = some (.int .i64 g.a) ∧ w.cell? ⟨B, 1, none⟩ = some (.int .i64 g.b) ∧ w.cell? ⟨B, 2, none⟩ = some (.int .i64 g.c) ∧ w.cell? ⟨B, 3, none⟩ = some (.int .i64 g.d) ∧
    (∀ o, w.frozen? ⟨B, o, none⟩ = false) ∧ B < w.heap.size ∧ w0.heap.size + 2 ≤ B ∧ Hid (OwnMats w (w0.heap.size + 2) v acc ∧ (∀ k, v.ownBlock = some k → k ≠ B) ∧ Grow w0 w ∧ ChM w0.heap.size vc u w)

theorem ChM.set {S B : Nat} {vc : Value} {u : Nat} {w : World} (h : ChM S vc u w) (hB : S + 2 ≤ B) (o : Nat) (x : Value) : ChM S vc u (w.setCell ⟨B, o, none⟩ x) :=
  h.of (fun b o' hb => World.cell?_of_block (Below.heap_setCell _ _ _ _ (by show b ≠ B; omega))) (fun b o' hb => World.frozen?_of_block (Below.heap_setCell _ _ _ _ (by show b ≠ B; omega))) (by simp [World.setCell])
theorem gm_store {w0 w : World} {B : Nat} {g m : M2} {v : Value} {acc : List M2} {vc : Value} {u : Nat} (h : GM w0 B g v acc vc u w) :
    GM w0 B m v acc vc u ((((w.setCell ⟨B, 0, none⟩ (.int .i64 m.a)).setCell ⟨B, 1, none⟩ (.int .i64 m.b)).setCell ⟨B, 2, none⟩ (.int .i64 m.c)).setCell ⟨B, 3, none⟩ (.int .i64 m.d)) := by
  obtain ⟨m1, m2, m3, m4, mfz, mlt, mge, mrest⟩ := h
  obtain ⟨hown, hne, hgr, hch⟩ := mrest.out
  have mge' : w0.heap.size ≤ B := by omega
  refine ⟨?_, ?_, ?_, ?_, ?_, ?_, mge, ?_, hne, ?_, ?_⟩
  · go_simp
  · go_simp
  · go_simp
  · go_simp
  · intro o; go_simp
  · simpa [World.setCell] using mlt
  · exact own_put (own_put (own_put (own_put hown (a := ⟨B, 0, none⟩) hne _) (a := ⟨B, 1, none⟩) hne _) (a := ⟨B, 2, none⟩) hne _) (a := ⟨B, 3, none⟩) hne _
  · exact (((hgr.setCell (p := ⟨B, 0, none⟩) mge' _).setCell (p := ⟨B, 1, none⟩) mge' _).setCell (p := ⟨B, 2, none⟩) mge' _).setCell (p := ⟨B, 3, none⟩) mge' _
  · exact (((hch.set mge 0 _).set mge 1 _).set mge 2 _).set mge 3 _
theorem gm_grow {w0 w w' : World} {B : Nat} {g : M2} {v : Value} {acc : List M2} {vc : Value} {u : Nat} (h : GM w0 B g v acc vc u w) (hb : Grow w w') : GM w0 B g v acc vc u w' := by
  obtain ⟨m1, m2, m3, m4, mfz, mlt, mge, mrest⟩ := h
  obtain ⟨hown, hne, hgr, hch⟩ := mrest.out
  exact ⟨(hb.cells _ _ mlt).trans m1, (hb.cells _ _ mlt).trans m2, (hb.cells _ _ mlt).trans m3, (hb.cells _ _ mlt).trans m4, fun o => (hb.frees _ o mlt).trans (mfz o), Nat.lt_of_lt_of_le mlt hb.size, mge, OwnMats.into hown hb, hne, hgr.trans hb, hch.grow hb⟩
theorem gm_used {w0 w w' : World} {B : Nat} {g : M2} {v : Value} {acc : List M2} {vc : Value} {u u' : Nat} (h : GM w0 B g v acc vc u w) (hby : w.grownBy w' (some (w0.heap.size + 1))) (hch' : ChM w0.heap.size vc u' w') : GM w0 B g v acc vc u' w' := by
  obtain ⟨m1, m2, m3, m4, mfz, mlt, mge, mrest⟩ := h
  obtain ⟨hown, hne, hgr, -⟩ := mrest.out
  have hblk : w'.heap[B]? = w.heap[B]? := hby.block _ mlt (fun e => by have := Option.some.inj e; omega)
  refine ⟨(World.cell?_of_block (a := ⟨B, 0, none⟩) hblk).trans m1, (World.cell?_of_block (a := ⟨B, 1, none⟩) hblk).trans m2, (World.cell?_of_block (a := ⟨B, 2, none⟩) hblk).trans m3, (World.cell?_of_block (a := ⟨B, 3, none⟩) hblk).trans m4,
    fun o => (World.frozen?_of_block (a := ⟨B, o, none⟩) hblk).trans (mfz o), Nat.lt_of_lt_of_le mlt hby.size, mge, own_other hown hby (fun k hk e => by have := (hown.lt k hk).1; injection e with e; omega), hne, hgr.grown hby (fun j hj => by have := Option.some.inj hj; omega), hch'⟩

set_option maxRecDepth 20000 in
set_option maxHeartbeats 4000000 in
theorem chains_core (n : Int) (l : List Int) (vc : Value) (h1 : 1 ≤ n) (h2 : n ≤ 24) (M : List M2) (hM : Hid (chF l n = M)) (hML : M.length ≤ 100000) (hlen : l.length ≤ 1152921504606846976) (w : World) (hrd : RdInts w vc l) :
    Calls Try.prog 20 #[.int .i64 n, vc] w fun e w' => ∃ v, e = .returned (.tuple #[v, .int .i64 0]) ∧ OwnMats w' w.heap.size v M ∧ Grow w w' := by
  obtain ⟨i0, hi, iz0, iz1, iz2⟩ := info_parts infoM
  have hmf : ∀ (fn : Fn) (first cap : Array Value) (w : World), (Instr.makeFunc fn first cap).run Try.prog w = .ok (.func fn first cap) w := fun _ _ _ _ => rfl
  have k1 : ¬ n < 1 := by omega
  have k2 : ¬ 128 < n := by omega
  obtain ⟨ac, cc, rfl⟩ := hrd.form
  have HRD := Lib.hid hrd
  have HLEN := Lib.hid hlen
  clear hrd hlen
  go_enter Try.func20, Try.ntmps20
  go_wp2_with fail
  go_loopg [8, 9] 30 (fun f t8 t9 wr => ∃ (a : Int) (u : Nat) (acc : List M2), t9 = .int .i64 a ∧ 1 ≤ a ∧ Hid (a + f = 31 ∧ a ≤ 25 ∧ u + 900 * f ≤ 27000) ∧ Hid (acc ++ chA f l n a u = M) ∧ Hid (OwnMats wr (w.heap.size + 2) t8 acc) ∧ Hid (Grow w wr) ∧ Hid (ChM w.heap.size (.slice ac l.length cc) u wr))
  case atStart =>
    refine ⟨1, 0, [], rfl, by omega, Lib.hid (by omega), hM.out, World.ownsRow_nil _ _ _ _, ?_, ?_, ?_, ?_, ?_⟩
    · show Grow w _
      (repeat (first | with_reducible exact Grow.refl _ | with_reducible refine Grow.alloc ?_ _ | with_reducible refine Grow.drew ?_ | with_reducible refine Grow.drewN ?_ _ | (with_reducible refine Grow.setCell ?_ ?hp _; (case hp => (simp; try omega))) | with_reducible refine Grow.trans ?_ (by assumption)))
    · go_simp
    · go_simp
    · intro o; go_simp
    · simp
  case round =>
    clear hM
    obtain ⟨a, u, acc, rfl, ha1, hfu, hacc, hown, hgr, hch⟩ := hrel
    have hzch := hch.out.2.2.2
    obtain ⟨g1, hgk⟩ : ∃ g1, gk = g1 + 1 := ⟨gk - 1, by have := hfu.out; omega⟩
    by_cases hle : a ≤ n
    · have k4 : ¬ a = 0 := by omega
      have k5 : (a == 0) = false := by simpa using k4
      have k6 : ¬ n < a := by omega
      obtain ⟨q, hq⟩ : ∃ q, n.tdiv a = q := ⟨_, rfl⟩
      obtain ⟨t, ht⟩ : ∃ t, n.tmod a = t := ⟨_, rfl⟩
      have hq0 : 0 ≤ q := by rw [← hq]; exact Int.tdiv_nonneg (by omega) (by omega)
      have hq1 : q ≤ 24 := by rw [← hq]; exact Int.le_trans (Int.tdiv_le_self _ (by omega)) h2
      have ht0 : 0 ≤ t := by rw [← ht]; exact Int.tmod_nonneg _ (by omega)
      have ht1 : t < a := by rw [← ht]; exact Int.tmod_lt_of_pos _ (by omega)
      have y1 : IntKind.i64.wrap q = q := IntWalk.i64_in _ (by omega)
      have y2 : IntKind.i64.wrap t = t := IntWalk.i64_in _ (by omega)
      by_cases hmod : t = 0
      · subst hmod
        have hacc2 := hacc.out
        rw [hgk, chA_step hle ht] at hacc2
        have HA := Lib.hid hacc2
        have HT := Lib.hid ht
        clear hacc hacc2 ht0 ht1
        obtain ⟨wr0, hw0⟩ : ∃ x, x = wr := ⟨wr, rfl⟩
        subst hw0
        go_wp2_with fail
        go_loopg [8, 10] 30 (fun f t8 t10 wr => ∃ (b : Int) (u2 : Nat) (acc : List M2), t10 = .int .i64 b ∧ 0 ≤ b ∧ Hid (b + f = 30 ∧ b ≤ a ∧ u2 + 30 * f ≤ u + 900) ∧ Hid (acc ++ cB f l n a b u2 (fun u3 => chA g1 l n (a + 1) u3) = M) ∧ Hid (OwnMats wr (w.heap.size + 2) t8 acc) ∧ Hid (Grow w wr) ∧ Hid (ChM w.heap.size (.slice ac l.length cc) u2 wr))
        case atStart => exact ⟨0, u, acc, rfl, by omega, Lib.hid (by omega), HA.out, hown.out, hgr.out, hch.out⟩
        case round =>
          clear HA hown hgr hch hzch
          obtain ⟨b, u2, acc, rfl, hb0, hfb, hacc, hown, hgr, hch⟩ := hrel
          obtain ⟨g2, hgk2⟩ : ∃ g2, gk = g2 + 1 := ⟨gk - 1, by have := hfb.out; have := hfu.out; omega⟩
          have hzch := hch.out.2.2.2
          by_cases hlt : b < a
          · have hacc2 := hacc.out
            rw [hgk2, cB_step hlt, hq] at hacc2
            have hinv := ch_start (n := n) (a := a) (b := b) h1 h2 ha1 hle hb0 hlt HT.out
            rw [hq] at hinv
            have hlen := acc_le hacc2 hML
            have HA := Lib.hid hacc2
            have HIN := Lib.hid hinv
            clear hacc hacc2 hinv
            obtain ⟨wr1, hw1⟩ : ∃ x, x = wr := ⟨wr, rfl⟩
            subst hw1
            have hzz : w.heap.size + 2 ≤ wr1.heap.size := by omega
            go_wp2_with (at_builtin; refine wpList_append_own_at _ rfl _ _ 24 rfl (w.heap.size + 2) 39 i0 (.agg #[.int .i64 0, .int .i64 0, .int .i64 0, .int .i64 0]) 4 32 Try.underlying24 hi iz0 iz1 iz2 rfl (by decide) _ _ _ rfl ((hown.out.alloc _).alloc _) ⟨wr1.heap.size + 1, 0, none⟩ 1 1 [.int .i64 a, .int .i64 b, .int .i64 0, .int .i64 q] rfl rfl (four_cells _ _ _ _ _ _ _ ?c1) (four_oneCell _ _ _ _) ?c3 ?c4 ?c5 ?_)
            case c1 => simp
            case c3 => unfold maxLen; omega
            case c4 => omega
            case c5 => (try simp); omega
            intro v2 w2 hown2 hgrow2 _ hat2
            have hG2 : Grow w w2 := own_grow ((hgr.out.alloc _).alloc _) ((hown.out.alloc _).alloc _) hgrow2 (by omega)
            obtain ⟨hcc, hff⟩ := own_far hown.out hgrow2 wr1.heap.size (Nat.le_refl _) (by (try simp); omega)
            have hsz := hgrow2.size
            simp at hsz
            have hh2 : wr1.heap.size < wr1.heap.size + 1 + 1 := by omega
            have hne2 : ∀ k, v2.ownBlock = some k → k ≠ wr1.heap.size := by
              intro k hk
              rcases hat2 with h | h
              · rw [h] at hk; have := (hown.out.lt k hk).2; omega
              · rw [h] at hk; simp at hk; omega
            have hkept := own_kept ((hown.out.alloc _).alloc _) hgrow2 (by (try simp); omega)
            have hch2 : ChM w.heap.size (.slice ac l.length cc) u2 w2 := (hch.out.grow (((Grow.refl wr1).alloc _).alloc _)).of hkept.1 hkept.2 (by (try simp); omega)
            have HC : Hid (GM w wr1.heap.size ⟨a, b, 0, q⟩ v2 (acc ++ [(⟨a, b, 0, q⟩ : M2)]) (.slice ac l.length cc) u2 w2) := by
              refine ⟨?_, ?_, ?_, ?_, ?_, by omega, hzz, ?_, hne2, hG2, hch2⟩
              · rw [hcc]; go_simp
              · rw [hcc]; go_simp
              · rw [hcc]; go_simp
              · rw [hcc]; go_simp
              · intro o; rw [hff]; go_simp
              · unfold OwnMats; rw [cellsM_snoc]; simpa using hown2
            clear hown2 hgrow2 hat2 hG2 hcc hff hne2 hown hgr hch hkept hch2 hlen
            go_wp2_with fail
            go_loopg [8] 30 (fun f t8 wx => ∃ (g : M2) (u3 : Nat) (acc : List M2), Hid (g.b.natAbs < f ∧ u3 + f ≤ u2 + 30) ∧ Hid (ChInv n g) ∧ Hid (acc ++ cI f l u3 g (fun u4 => cB g2 l n a (b + 1) u4 (fun u5 => chA g1 l n (a + 1) u5)) = M) ∧ Hid (GM w wr1.heap.size g t8 acc (.slice ac l.length cc) u3 wx))
            case atStart => exact ⟨⟨a, b, 0, q⟩, u2, acc ++ [(⟨a, b, 0, q⟩ : M2)], Lib.hid (by show b.natAbs < 30 ∧ _; have := hfb.out; have := hfu.out; omega), HIN.out, (List.append_assoc _ _ _).trans HA.out, HC.out⟩
            case round =>
              clear HA HC hh2 HIN
              obtain ⟨g, u3, acc, hfg, hinv, hacc, hmem⟩ := hrel
              obtain ⟨m1, m2, m3, m4, mfz, mlt, mge, mrest⟩ := hmem.out
              obtain ⟨hown, hne, hgr, hch⟩ := mrest.out
              obtain ⟨g3, hgk3⟩ : ∃ g3, gk = g3 + 1 := ⟨gk - 1, by have := hfg.out; omega⟩
              have HOW := Lib.hid hown
              have HNE := Lib.hid hne
              have HGR := Lib.hid hgr
              have HCH := Lib.hid hch
              have hz2 := hgr.size
              clear hown hne hgr hch mrest
              by_cases hb0' : g.b = 0
              · have e1 : (g.b == 0) = true := by simpa using hb0'
                have e2 : (g.b != 0) = false := by simpa using hb0'
                have hacc2 := hacc.out
                rw [hgk3, cI_end hb0'] at hacc2
                have HA := Lib.hid hacc2
                clear hacc hacc2 hb0'
                go_wp2_with fail
                go_roundg g2
                case measure => omega
                case rel =>
                  have hf := hfb.out
                  have hf2 := hfg.out
                  exact ⟨b + 1, u3, acc, rfl, by omega, Lib.hid (by omega), HA.out, HOW.out, HGR.out, HCH.out⟩
              · have e1 : (g.b == 0) = false := by simpa using hb0'
                have e2 : (g.b != 0) = true := by simpa using hb0'
                obtain ⟨qq, hqq⟩ : ∃ qq, chQ l u3 g.a g.b = qq := ⟨_, rfl⟩
                obtain ⟨hinv2, hb2, hq1', hq2'⟩ := ch_step h1 h2 hinv.out hb0' hqq
                have hsm := ch_sm hinv.out
                have hacc2 := hacc.out
                rw [hgk3, cI_step hb0', hqq] at hacc2
                obtain ⟨m', hm'⟩ : ∃ m', nxF g qq = m' := ⟨_, rfl⟩
                have INX := Lib.hid (fun w => next_any g qq hsm (by omega) (by omega) w)
                rw [hm'] at INX hacc2 hinv2 hb2
                have hu3 : u3 ≤ 1000000 := by have := hfg.out; have := hfb.out; have := hfu.out; omega
                have CHO := Lib.hid (fun (w9 : World) (h9 : ChM w.heap.size (.slice ac l.length cc) u3 w9) (hr9 : RdInts w9 (.slice ac l.length cc) l) => choose_any l (.slice ac l.length cc) u3 g.a g.b hu3 hinv.out.2.1 hb0' HLEN.out w.heap.size w9 h9 hr9)
                rw [hqq] at CHO
                have hlen := acc_le hacc2 hML
                have HA := Lib.hid hacc2
                have HI2 := Lib.hid hinv2
                have HB2 := Lib.hid hb2
                clear hacc hacc2 hinv hinv2 hb2 hqq hm' hb0' hsm hq1' hq2' hu3
                go_upto_region 16 with fail
                go_cut [] (fun wc => Hid (GM w wr1.heap.size m' u8 acc (.slice ac l.length cc) (chU l u3) wc))
                case first =>
                  go_region_with (first
                    | (go_at_call 34; refine (CHO.out _ (HCH.out.grow (Grow.refl wr).drew) (HRD.out.grow (HGR.out.trans (Grow.refl wr).drew))).mono ?_; rintro e wA ⟨rfl, hchA, hbyA⟩; have GA := Lib.hid (gm_used (gm_grow hmem.out (Grow.refl wr).drew) hbyA hchA); obtain ⟨n1, n2, n3, n4, nf, nlt, -, -⟩ := GA.out; clear hchA hbyA)
                    | (go_at_call 25; refine (INX.out _).mono ?_; rintro e wB ⟨rfl, hbB⟩; have GB := Lib.hid (gm_grow GA.out hbB); obtain ⟨p1, p2, p3, p4, pf, plt, -, -⟩ := GB.out; clear hbB))
                  all_goals (go_wp2; go_meet)
                  all_goals exact gm_store GB.out
                case rest =>
                  clear m1 m2 m3 m4 mfz mlt HOW HGR HCH hmem CHO INX e1 e2 hz2
                  obtain ⟨m1, m2, m3, m4, mfz, mlt, -, mrest⟩ := hcut.out
                  have hown := Lib.hid mrest.out.1
                  have hgr := Lib.hid mrest.out.2.2.1
                  have hch := Lib.hid mrest.out.2.2.2
                  have hz2 := hgr.out.size
                  clear mrest hcut
                  go_wp2_with (at_builtin; refine wpList_append_own_at _ rfl _ _ 24 rfl (w.heap.size + 2) 39 i0 (.agg #[.int .i64 0, .int .i64 0, .int .i64 0, .int .i64 0]) 4 32 Try.underlying24 hi iz0 iz1 iz2 rfl (by decide) _ _ _ rfl (hown.out.alloc _) ⟨wc.heap.size, 0, none⟩ 1 1 [.int .i64 m'.a, .int .i64 m'.b, .int .i64 m'.c, .int .i64 m'.d] rfl rfl (four_cells _ _ _ _ _ _ _ ?c1) (four_oneCell _ _ _ _) ?c3 ?c4 ?c5 ?_)
                  case c1 => simp
                  case c3 => unfold maxLen; omega
                  case c4 => omega
                  case c5 => (try simp); omega
                  intro v2 w2 hown2 hgrow2 hbeg2 hat2
                  have hG2 : Grow w w2 := own_grow (hgr.out.alloc _) (hown.out.alloc _) hgrow2 (by omega)
                  obtain ⟨hcc, hff⟩ := own_by hgrow2 wr1.heap.size HNE.out (by (try simp); omega)
                  have hsz := hgrow2.size
                  simp at hsz
                  have hkept := own_kept (hown.out.alloc _) hgrow2 (by (try simp); omega)
                  have hch2 : ChM w.heap.size (.slice ac l.length cc) (chU l u3) w2 := (hch.out.grow ((Grow.refl wc).alloc _)).of hkept.1 hkept.2 (by (try simp); omega)
                  have HC2 : Hid (GM w wr1.heap.size m' v2 (acc ++ [m']) (.slice ac l.length cc) (chU l u3) w2) := by
                    refine ⟨?_, ?_, ?_, ?_, ?_, by omega, mge, ?_, ?_, hG2, hch2⟩
                    · rw [hcc]; go_simp
                    · rw [hcc]; go_simp
                    · rw [hcc]; go_simp
                    · rw [hcc]; go_simp
                    · intro o; rw [hff]; go_simp
                    · unfold OwnMats; rw [cellsM_snoc]; simpa using hown2
                    · intro k hk
                      rcases hat2 with h | h
                      · rw [h] at hk; exact HNE.out k hk
                      · rw [h] at hk; simp at hk; omega
                  clear hown2 hgrow2 hat2 hbeg2 hG2 hcc hff hown hgr hch hkept hch2 m1 m2 m3 m4 mfz
                  go_wp2
                  go_roundg g3
                  case measure => omega
                  case rel =>
                    have hf := hfg.out
                    have hul := chU_le l u3
                    exact ⟨m', chU l u3, acc ++ [m'], Lib.hid (by have := HB2.out; omega), HI2.out, (List.append_assoc _ _ _).trans HA.out, HC2.out⟩
          · have hbe : b = a := by have := hfb.out; omega
            have hacc2 := hacc.out
            rw [hgk2, cB_end hlt] at hacc2
            have HA := Lib.hid hacc2
            have HBE := Lib.hid hbe
            clear hacc hacc2 hbe
            go_wp2_with fail
            go_roundg g1
            case measure => omega
            case rel =>
              have hf := hfu.out
              have hf2 := hfb.out
              exact ⟨a + 1, u2, acc, rfl, by omega, Lib.hid (by omega), HA.out, hown.out, hgr.out, hch.out⟩
      · have e1 : (t == 0) = false := by simpa using hmod
        have e2 : (t != 0) = true := by simpa using hmod
        have hacc2 := hacc.out
        rw [hgk, chA_skip hle (by rw [ht]; exact hmod)] at hacc2
        have HA := Lib.hid hacc2
        clear hacc hacc2
        go_wp2_with fail
        go_roundg g1
        case measure => omega
        case rel =>
          have hf := hfu.out
          exact ⟨a + 1, u, acc, rfl, by omega, Lib.hid (by omega), HA.out, hown.out, hgr.out, hch.out⟩
    · have hacc2 := hacc.out
      rw [hgk, chA_end hle, List.append_nil] at hacc2
      subst hacc2
      clear hacc
      go_wp2_with fail
      refine bodyPost_ret (v := .tuple #[u8, .int .i64 0]) (by simp only [results, Try.results20]; go_simp) rfl ⟨_, rfl, ?_, hgr.out⟩
      exact own_base hown.out (by omega)
end Go.Proofs.Ytalidpojcpmcbaa
