/- Lemmas, plain laws and walks that the statement LwClassNumber leans on (texts SrD, DvC, GaA, TbA, TbB), conditions as each theorem says. -/
import Derived.Shelf.Sort.Plain
import Derived.Sort.OwnSortedInts
import Derived.Test.YtbpkfcohbefphaaGreatDoorTopCnG10
import Derived.Test.YtbpkfcohbefphaaGreatDoorTopCnG11
import Derived.Test.YtbpkfcohbefphaaGreatDoorTopCnG17
import Derived.Test.YtbpkfcohbefphaaGreatDoorTopCnG18
import Derived.Test.YtbpkfcohbefphaaGreatDoorTopCnG24

namespace Go.Proofs.YtbpkfcohbefphaaGreatDoor
open Go Go.Shelf
def srRen : Go.Shelf.Ren := ⟨fun | 189 => 30 | 125 => 52 | 257 => 51 | 128 => 87 | 129 => 88 | 294 => 78 | 295 => 79 | 296 => 80 | 297 => 81 | 298 => 82 | 299 => 83 | 216 => 84 | 300 => 85 | 301 => 86 | 328 => 106 | 329 => 107 | 330 => 108 | 331 => 109 | 332 => 110 | 215 => 111 | 343 => 124 | n => n, fun | 28 => 33 | 3 => 3 | 46 => 71 | 0 => 0 | 51 => 70 | 53 => 69 | 4 => 4 | 183 => 109 | 182 => 108 | 131 => 114 | 5 => 5 | 9 => 9 | 218 => 135 | 222 => 139 | 228 => 156 | 229 => 157 | n => n, fun | n => n⟩
theorem srLays : Go.Proofs.Lays.n189 Tryz.prog srRen := {
  mixed := by kernel_rfl
  f125 := Tryz.func52.trans (congrArg some (by kernel_rfl))
  f128 := Tryz.func87.trans (congrArg some (by kernel_rfl))
  f129 := Tryz.func88.trans (congrArg some (by kernel_rfl))
  f189 := Tryz.func30.trans (congrArg some (by kernel_rfl))
  f215 := Tryz.func111.trans (congrArg some (by kernel_rfl))
  f216 := Tryz.func84.trans (congrArg some (by kernel_rfl))
  f257 := Tryz.func51.trans (congrArg some (by kernel_rfl))
  f294 := Tryz.func78.trans (congrArg some (by kernel_rfl))
  f295 := Tryz.func79.trans (congrArg some (by kernel_rfl))
  f296 := Tryz.func80.trans (congrArg some (by kernel_rfl))
  f297 := Tryz.func81.trans (congrArg some (by kernel_rfl))
  f298 := Tryz.func82.trans (congrArg some (by kernel_rfl))
  f299 := Tryz.func83.trans (congrArg some (by kernel_rfl))
  f300 := Tryz.func85.trans (congrArg some (by kernel_rfl))
  f301 := Tryz.func86.trans (congrArg some (by kernel_rfl))
  f328 := Tryz.func106.trans (congrArg some (by kernel_rfl))
  f329 := Tryz.func107.trans (congrArg some (by kernel_rfl))
  f330 := Tryz.func108.trans (congrArg some (by kernel_rfl))
  f331 := Tryz.func109.trans (congrArg some (by kernel_rfl))
  f332 := Tryz.func110.trans (congrArg some (by kernel_rfl))
  f343 := Tryz.func124.trans (congrArg some (by kernel_rfl))
  t0 := Tryz.underlying0
  a0 := Tryz.isAgg0
  z0 := Tryz.sizeOf0
  v0 := Tryz.zeroValue0
  t3 := Tryz.underlying3
  a3 := Tryz.isAgg3
  z3 := Tryz.sizeOf3
  v3 := Tryz.zeroValue3
  t4 := Tryz.underlying4
  a4 := Tryz.isAgg4
  z4 := Tryz.sizeOf4
  v4 := Tryz.zeroValue4
  t5 := Tryz.underlying5
  a5 := Tryz.isAgg5
  z5 := Tryz.sizeOf5
  v5 := Tryz.zeroValue5
  t9 := Tryz.underlying9
  a9 := Tryz.isAgg9
  z9 := Tryz.sizeOf9
  v9 := Tryz.zeroValue9
  t28 := Tryz.underlying33
  a28 := Tryz.isAgg33
  z28 := Tryz.sizeOf33
  v28 := Tryz.zeroValue33
  t46 := Tryz.underlying71
  a46 := Tryz.isAgg71
  z46 := Tryz.sizeOf71
  v46 := Tryz.zeroValue71
  t51 := Tryz.underlying70
  a51 := Tryz.isAgg70
  z51 := Tryz.sizeOf70
  v51 := Tryz.zeroValue70
  t53 := Tryz.underlying69
  a53 := Tryz.isAgg69
  z53 := Tryz.sizeOf69
  v53 := Tryz.zeroValue69
  t131 := Tryz.underlying114
  a131 := Tryz.isAgg114
  z131 := Tryz.sizeOf114
  v131 := Tryz.zeroValue114
  t182 := Tryz.underlying108
  a182 := Tryz.isAgg108
  z182 := Tryz.sizeOf108
  v182 := Tryz.zeroValue108
  t183 := Tryz.underlying109
  a183 := Tryz.isAgg109
  z183 := Tryz.sizeOf109
  v183 := Tryz.zeroValue109
  t218 := Tryz.underlying135
  a218 := Tryz.isAgg135
  z218 := Tryz.sizeOf135
  v218 := Tryz.zeroValue135
  t222 := Tryz.underlying139
  a222 := Tryz.isAgg139
  z222 := Tryz.sizeOf139
  v222 := Tryz.zeroValue139
  t228 := Tryz.underlying156
  a228 := Tryz.isAgg156
  z228 := Tryz.sizeOf156
  v228 := Tryz.zeroValue156
  t229 := Tryz.underlying157
  a229 := Tryz.isAgg157
  z229 := Tryz.sizeOf157
  v229 := Tryz.zeroValue157 }
open Go.Sort Go.RowKit in
theorem sortIntQ (blk off cap : Nat) (zs : List Int) (w : World) (hH : Holds (Value.int .i64) w blk off zs.toArray) (hblk : blk < w.heap.size) (hsz : zs.length < 4611686018427387904) :
    Calls Tryz.prog 30 #[.slice (some ⟨blk, off, none⟩) zs.length cap] w fun e w' =>
      e = .returned (.tuple #[]) ∧ ∃ n os, w' = grow (putRow (Value.int .i64) (Sort.ahead w n) blk off (zs.mergeSort fun x y => decide (x ≤ y)).toArray) os := Any.slices_Sort_int srLays blk off cap zs w hH hblk hsz
end Go.Proofs.YtbpkfcohbefphaaGreatDoor
namespace Go.Proofs.YtbpkfcohbefphaaGreatDoor
open Go Go.RowKit
theorem divs_tab (n : Nat) (h : n < 1001) : n = 0 ∨ (okSB okDv dvS (faL 33 n 2) [1] && (dvM n).isPerm (divs n)) = true := by
  by_cases h1 : n < 400
  · exact divs_t0 n h1
  · by_cases h2 : n < 601
    · have h3 := divs_t1 (n - 400) (by omega)
      rw [show n - 400 + 400 = n by omega] at h3
      exact .inr h3
    · by_cases h4 : n < 801
      · have h3 := divs_dvu (n - 601) (by omega)
        rw [show n - 601 + 601 = n by omega] at h3
        exact .inr h3
      · have h3 := divs_dvv (n - 801) (by omega)
        rw [show n - 801 + 801 = n by omega] at h3
        exact .inr h3
theorem divs_sorted (n : Nat) : ((divs n).map (fun d : Nat => (d : Int))).Pairwise (fun x y => x ≤ y) := by
  refine List.pairwise_map.2 ?_
  refine List.Pairwise.filter _ ?_
  exact (List.pairwise_lt_range (n := n + 1)).imp (fun h => by omega)
theorem sort_divs (n : Nat) (h : (dvM n).isPerm (divs n) = true) : ((dvM n).map (fun d : Nat => (d : Int))).mergeSort (fun x y => decide (x ≤ y)) = (divs n).map (fun d : Nat => (d : Int)) := by
  have hp : ((dvM n).map (fun d : Nat => (d : Int))).Perm ((divs n).map (fun d : Nat => (d : Int))) := (List.isPerm_iff.1 h).map _
  have h1 := List.mergeSort_perm ((dvM n).map (fun d : Nat => (d : Int))) (fun x y => decide (x ≤ y))
  have h2 : (((dvM n).map (fun d : Nat => (d : Int))).mergeSort (fun x y => decide (x ≤ y))).Pairwise (fun x y => x ≤ y) :=
    (List.pairwise_mergeSort (le := fun x y : Int => decide (x ≤ y)) (fun a b c h3 h4 => by simp at h3 h4 ⊢; omega) (fun a b => by simp; omega) _).imp (fun h3 => by simpa using h3)
  exact List.Perm.eq_of_pairwise (fun a b _ _ h3 h4 => by omega) h2 (divs_sorted n) (h1.trans hp)
set_option maxRecDepth 20000 in
set_option maxHeartbeats 8000000 in
theorem divisorsQ (n : Nat) (h1 : 1 ≤ n) (h2 : n ≤ 1000) (w : World) :
    Calls Tryz.prog 9 #[.int .i64 (n : Int)] w fun x w' => ∃ g cap, x = .returned (.tuple #[.slice (some ⟨g, 0, none⟩) (divs n).length cap, .int .i64 0]) ∧ IntQ w' g 0 (divs n).length (fun i => (((divs n).getD i 0 : Nat) : Int)) ∧ Grow w w' ∧ w.heap.size ≤ g := by
  have htab : (okSB okDv dvS (faL 33 n 2) [1] && (dvM n).isPerm (divs n)) = true := by
    rcases divs_tab n (by omega) with h | h
    · omega
    · exact h
  rw [Bool.and_eq_true] at htab
  obtain ⟨hok, hperm⟩ := htab
  have IR := Lib.hid (fun u => inRangeQ n h1 (by omega) u)
  have FC := Lib.hid (fun u (hu : DvSt w (w.heap.size + 1) [1] u) => factorsD (fun s u => DvSt w (w.heap.size + 1) s u) (fun s p e => okDv s p e = true) dvS (.pointer (some ⟨w.heap.size + 1, 0, none⟩)) (fun s p e u a b c d ok hs => div1_any w (w.heap.size + 1) s p e a b c d ok u hs) n h1 (by omega) [1] (okS_of hok) u hu)
  have hmf : ∀ (fn : Fn) (first cap : Array Value) (w : World), (Instr.makeFunc fn first cap).run Tryz.prog w = .ok (.func fn first cap) w := fun _ _ _ _ => rfl
  obtain ⟨W1, hW1⟩ : ∃ W1 : World, W1 = w.alloc (.cells #[.int .i64 1] 3) := ⟨_, rfl⟩
  obtain ⟨W2, hW2⟩ : ∃ W2 : World, W2 = W1.alloc (.cells #[.slice (some ⟨w.heap.size, 0, none⟩) 1 1] 33) := ⟨_, rfl⟩
  have hz1 : W1.heap.size = w.heap.size + 1 := by rw [hW1]; simp
  have HP : Hid (DvSt w (w.heap.size + 1) [1] W2) := Lib.hid (by
    obtain ⟨b0, b1, b2⟩ := ak1 hW2 W2 (Grow.refl _)
    rw [hz1] at b0 b1 b2
    have hrow : RowJ W1 w.heap.size 1 1 [.int .i64 1] := ⟨rfl, ⟨_, by rw [hW1]; show (Array.push w.heap _)[w.heap.size]? = _; simp; rfl, rfl, rfl, fun v hv => by simp at hv; exact ⟨1, hv⟩⟩, Nat.le_refl _, by unfold maxLen; omega⟩
    exact ⟨(ag hW1).trans (ag hW2), by omega, b2, b1, w.heap.size, 1, b0, hrow.grow (ag hW2), by omega, Nat.le_refl _⟩)
  have HW1 := Lib.hid hW1
  have HW2 := Lib.hid hW2
  have HZ1 := Lib.hid hz1
  have HPERM := Lib.hid hperm
  clear hW1 hW2 hz1 hok hperm
  go_enter Tryz.func9, Tryz.ntmps9
  go_upto_region 4 with (go_at_call 27; (with_reducible refine (IR.out _).mono ?_); (rintro x u2 ⟨rfl, rfl⟩))
  rw [← HW1.out, ← HW2.out]
  go_upto_region 5 with (go_at_call 28; (with_reducible refine (FC.out _ HP.out).mono ?_); (rintro x u3 ⟨rfl, hp3⟩; have HP3 := Lib.hid hp3; clear hp3))
  clear hmf FC
  obtain ⟨g, cap, hcell, hrow, hg4, hgw⟩ := HP3.out.row
  have hdm : foldS dvS (faL 33 n 2) [1] = dvM n := rfl
  rw [hdm] at hcell hrow HP3
  obtain ⟨zs, hzs⟩ : ∃ zs : List Int, (dvM n).map (fun d : Nat => (d : Int)) = zs := ⟨_, rfl⟩
  have hnv : natV (dvM n) = zs.map (Value.int .i64) := by rw [← hzs]; simp [natV]
  have hlz : (dvM n).length = zs.length := by rw [← hzs]; simp
  have hso := sort_divs n HPERM.out
  rw [hzs] at hso
  rw [hnv, hlz] at hrow
  rw [hlz] at hcell
  have hld : (divs n).length = zs.length := by
    rw [← hlz]; exact (List.isPerm_iff.1 HPERM.out).length_eq.symm
  obtain ⟨cur, hcur, hcs, htk, hall⟩ := hrow.row
  have hH := holds_of_blockI (w := u3) (g := g) (e := 3) hcur htk
  have hdl : (divs n).length ≤ n + 1 := by
    have := List.length_filter_le (fun d => d != 0 && n % d == 0) (List.range (n + 1))
    simpa [divs] using this
  have hbig : zs.length < 4611686018427387904 := by omega
  have SQ := Lib.hid (sortIntQ g 0 cap zs u3 hH hrow.lt hbig)
  rw [hso] at SQ
  have HL := Lib.hid hld
  have HROW := Lib.hid hrow
  have HCUR := Lib.hid hcur
  have HCS := Lib.hid hcs
  have HG4 := Lib.hid hg4
  have hglt := hrow.lt
  have hb4 := HP3.out.lt
  have hf4 := HP3.out.free
  obtain ⟨L, hL⟩ : ∃ L, zs.length = L := ⟨_, rfl⟩
  have HLL := Lib.hid hL
  rw [hL] at hcell SQ
  clear hdm hzs hnv hlz hso hld hcur hcs htk hall hH hrow hL hg4
  go_upto_region 6 with (go_at_call 30; (with_reducible refine SQ.out.mono ?_); (rintro x u4 ⟨rfl, hw4⟩; have HW4 := Lib.hid hw4; clear hw4))
  have hall4 : ∃ (n4 : Nat) (os : Array Obj), u4 = Go.Sort.grow (Go.Sort.putRow (Value.int .i64) (Go.Sort.ahead u3 n4) g 0 ((divs n).map (fun d : Nat => (d : Int))).toArray) os := HW4.out
  obtain ⟨n4, os, h4⟩ := hall4
  have hgb : u3.grownBy u4 (some g) := by rw [h4]; exact grownBy_sortedI _
  have hown : u4.ownsRow w.heap.size 3 1 (.slice (some ⟨g, 0, none⟩) zs.length cap) zs.length (((divs n).map (fun d : Nat => (d : Int))).map (Value.int .i64)) := by
    rw [h4]
    exact ownsRow_sortedI (by rw [List.length_map]; exact HL.out) hgw HCUR.out HROW.out.le HROW.out.max (by rw [Nat.mul_one]; exact HCS.out)
  obtain ⟨q1, q2, q3, q4, q5⟩ := own_cells hown
  have hb4c : u4.cell? ⟨w.heap.size + 1, 0, none⟩ = some (.slice (some ⟨g, 0, none⟩) L cap) := (World.cell?_of_block (hgb.block _ hb4 (fun e => HG4.out (by injection e with e; exact e.symm)))).trans hcell
  have HQ5 := Lib.hid q5
  have HGR := Lib.hid (HP3.out.grow.grown hgb (fun k hk => by injection hk with hk; rw [← hk]; exact hgw))
  have HLD : Hid (L = (divs n).length) := Lib.hid (by rw [HL.out, HLL.out])
  clear h4 hgb hown q5 hcell
  go_wp2_with fail
  refine bodyPost_ret (v := .tuple #[.slice (some ⟨g, 0, none⟩) L cap, .int .i64 0]) (by rw [results_pair rfl]; first | rfl | go_simp) rfl ?_
  have hI : IntQ u4 g 0 (divs n).length (fun i => (((divs n).getD i 0 : Nat) : Int)) := ⟨q1, fun i hi => by
    rw [Nat.zero_add]
    refine HQ5.out i _ ?_
    rw [List.getElem?_map, List.getElem?_map, List.getElem?_eq_getElem hi]
    simp [List.getD, List.getElem?_eq_getElem hi]⟩
  first | exact ⟨g, ⟨cap, by rw [HLD.out]⟩, hI, HGR.out, hgw⟩ | exact ⟨g, cap, by rw [HLD.out], hI, HGR.out, hgw⟩
end Go.Proofs.YtbpkfcohbefphaaGreatDoor
namespace Go.Proofs.YtbpkfcohbefphaaGreatDoor
open Go Go.RowKit
theorem swithinQ (w : World) : Calls Tryz.prog 65 #[.int .i64 11] w fun e w' => e = .returned (.bool true) ∧ w = w' := by
  go_enter Tryz.func65, Tryz.ntmps65
  go_wp2_with fail
  go_ret
  exact ⟨rfl, rfl⟩
theorem level4Q (w : World) : Calls Tryz.prog 41 #[.int .i64 4] w fun e w' => e = .returned (.int .i64 0) ∧ w = w' := by
  go_enter Tryz.func41, Tryz.ntmps41
  go_wp2_with fail
  go_ret
  exact ⟨rfl, rfl⟩
set_option maxHeartbeats 4000000 in
theorem count4Q (w : World) : Calls Tryz.prog 15 #[.int .i64 4] w fun e w' => e = .returned (.tuple #[.int .i64 6, .int .i64 0]) ∧ Grow w w' := by
  have PS : Hid (∀ u, Calls Tryz.prog 42 #[.int .i64 4] u fun x w' => x = .returned (.tuple #[.int .i64 6, .int .i64 0]) ∧ Grow u w') := Lib.hid (fun u => by
    have h := psiQ 4 (by omega) (by omega) u
    rw [show psiN 4 = 6 by decide +kernel] at h
    exact h)
  go_enter Tryz.func15, Tryz.ntmps15
  go_wp2_with (first
    | (go_at_call 41; (with_reducible refine (level4Q _).mono ?_); (rintro e u2 ⟨rfl, rfl⟩))
    | (go_at_call 42; (with_reducible refine (PS.out _).mono ?_); (rintro e u3 ⟨rfl, hb3⟩)))
  refine bodyPost_ret (v := .tuple #[.int .i64 6, .int .i64 0]) (by rw [results_pair rfl]; first | rfl | go_simp) rfl ?_
  exact ⟨rfl, hb3⟩
/-- A signature in memory. -/
structure O7 (u : World) (B : Nat) (x0 x1 x2 x3 x4 x5 : Int) (b : Bool) : Prop where
  c0 : u.cell? ⟨B, 0, none⟩ = some (.int .i64 x0)
  c1 : u.cell? ⟨B, 1, none⟩ = some (.int .i64 x1)
  c2 : u.cell? ⟨B, 2, none⟩ = some (.int .i64 x2)
  c3 : u.cell? ⟨B, 3, none⟩ = some (.int .i64 x3)
  c4 : u.cell? ⟨B, 4, none⟩ = some (.int .i64 x4)
  c5 : u.cell? ⟨B, 5, none⟩ = some (.int .i64 x5)
  c6 : u.cell? ⟨B, 6, none⟩ = some (.bool b)
  fr : ∀ o, u.frozen? ⟨B, o, none⟩ = false
  lt : B < u.heap.size
section
variable {u u' : World} {B : Nat} {x0 x1 x2 x3 x4 x5 : Int} {b : Bool}
theorem O7.but {X : Nat → Prop} (h : O7 u B x0 x1 x2 x3 x4 x5 b) (hg : But X u u') (hX : ¬ X B) : O7 u' B x0 x1 x2 x3 x4 x5 b :=
  ⟨(hg.cells _ _ h.lt hX).trans h.c0, (hg.cells _ _ h.lt hX).trans h.c1, (hg.cells _ _ h.lt hX).trans h.c2, (hg.cells _ _ h.lt hX).trans h.c3, (hg.cells _ _ h.lt hX).trans h.c4, (hg.cells _ _ h.lt hX).trans h.c5, (hg.cells _ _ h.lt hX).trans h.c6, fun o => (hg.frees _ _ h.lt).trans (h.fr o), Nat.lt_of_lt_of_le h.lt hg.size⟩
theorem O7.grow (h : O7 u B x0 x1 x2 x3 x4 x5 b) (hg : Grow u u') : O7 u' B x0 x1 x2 x3 x4 x5 b := h.but (X := fun _ => False) (hg.but _) (fun h => h)
theorem O7.all (h : O7 u B x0 x1 x2 x3 x4 x5 b) : ∀ w, Grow u w → w.cell? ⟨B, 0, none⟩ = some (.int .i64 x0) ∧ w.cell? ⟨B, 1, none⟩ = some (.int .i64 x1) ∧ w.cell? ⟨B, 2, none⟩ = some (.int .i64 x2) ∧ w.cell? ⟨B, 3, none⟩ = some (.int .i64 x3) ∧ w.cell? ⟨B, 4, none⟩ = some (.int .i64 x4) ∧ w.cell? ⟨B, 5, none⟩ = some (.int .i64 x5) ∧ w.cell? ⟨B, 6, none⟩ = some (.bool b) ∧ (∀ o, w.frozen? ⟨B, o, none⟩ = false) ∧ B < w.heap.size := fun w hg => by
  obtain ⟨a, b, c, d, e, f, g, h, i⟩ := h.grow hg
  exact ⟨a, b, c, d, e, f, g, h, i⟩
theorem O7.set0 (h : O7 u B x0 x1 x2 x3 x4 x5 b) (y : Int) : O7 (u.setCell ⟨B, 0, none⟩ (.int .i64 y)) B y x1 x2 x3 x4 x5 b ∧ But (fun z => z = B) u (u.setCell ⟨B, 0, none⟩ (.int .i64 y)) := by
  have f : ∀ i, i ≠ 0 → (u.setCell ⟨B, 0, none⟩ (.int .i64 y)).cell? ⟨B, i, none⟩ = u.cell? ⟨B, i, none⟩ := fun i hi => World.cell?_setCell_other _ _ _ _ (by simp; try omega)
  exact ⟨⟨World.cell?_setCell_same _ _ _ h.c0, (f 1 (by omega)).trans h.c1, (f 2 (by omega)).trans h.c2, (f 3 (by omega)).trans h.c3, (f 4 (by omega)).trans h.c4, (f 5 (by omega)).trans h.c5, (f 6 (by omega)).trans h.c6, fun i => by simpa using h.fr i, by simpa [World.setCell] using h.lt⟩, (But.refl _ u).set _ (.inr rfl) (fun x => by rw [h.c0]; simp)⟩
theorem O7.set2 (h : O7 u B x0 x1 x2 x3 x4 x5 b) (y : Int) : O7 (u.setCell ⟨B, 2, none⟩ (.int .i64 y)) B x0 x1 y x3 x4 x5 b ∧ But (fun z => z = B) u (u.setCell ⟨B, 2, none⟩ (.int .i64 y)) := by
  have f : ∀ i, i ≠ 2 → (u.setCell ⟨B, 2, none⟩ (.int .i64 y)).cell? ⟨B, i, none⟩ = u.cell? ⟨B, i, none⟩ := fun i hi => World.cell?_setCell_other _ _ _ _ (by simp; try omega)
  exact ⟨⟨(f 0 (by omega)).trans h.c0, (f 1 (by omega)).trans h.c1, World.cell?_setCell_same _ _ _ h.c2, (f 3 (by omega)).trans h.c3, (f 4 (by omega)).trans h.c4, (f 5 (by omega)).trans h.c5, (f 6 (by omega)).trans h.c6, fun i => by simpa using h.fr i, by simpa [World.setCell] using h.lt⟩, (But.refl _ u).set _ (.inr rfl) (fun x => by rw [h.c2]; simp)⟩
theorem O7.set3 (h : O7 u B x0 x1 x2 x3 x4 x5 b) (y : Int) : O7 (u.setCell ⟨B, 3, none⟩ (.int .i64 y)) B x0 x1 x2 y x4 x5 b ∧ But (fun z => z = B) u (u.setCell ⟨B, 3, none⟩ (.int .i64 y)) := by
  have f : ∀ i, i ≠ 3 → (u.setCell ⟨B, 3, none⟩ (.int .i64 y)).cell? ⟨B, i, none⟩ = u.cell? ⟨B, i, none⟩ := fun i hi => World.cell?_setCell_other _ _ _ _ (by simp; try omega)
  exact ⟨⟨(f 0 (by omega)).trans h.c0, (f 1 (by omega)).trans h.c1, (f 2 (by omega)).trans h.c2, World.cell?_setCell_same _ _ _ h.c3, (f 4 (by omega)).trans h.c4, (f 5 (by omega)).trans h.c5, (f 6 (by omega)).trans h.c6, fun i => by simpa using h.fr i, by simpa [World.setCell] using h.lt⟩, (But.refl _ u).set _ (.inr rfl) (fun x => by rw [h.c3]; simp)⟩
theorem O7.set4 (h : O7 u B x0 x1 x2 x3 x4 x5 b) (y : Int) : O7 (u.setCell ⟨B, 4, none⟩ (.int .i64 y)) B x0 x1 x2 x3 y x5 b ∧ But (fun z => z = B) u (u.setCell ⟨B, 4, none⟩ (.int .i64 y)) := by
  have f : ∀ i, i ≠ 4 → (u.setCell ⟨B, 4, none⟩ (.int .i64 y)).cell? ⟨B, i, none⟩ = u.cell? ⟨B, i, none⟩ := fun i hi => World.cell?_setCell_other _ _ _ _ (by simp; try omega)
  exact ⟨⟨(f 0 (by omega)).trans h.c0, (f 1 (by omega)).trans h.c1, (f 2 (by omega)).trans h.c2, (f 3 (by omega)).trans h.c3, World.cell?_setCell_same _ _ _ h.c4, (f 5 (by omega)).trans h.c5, (f 6 (by omega)).trans h.c6, fun i => by simpa using h.fr i, by simpa [World.setCell] using h.lt⟩, (But.refl _ u).set _ (.inr rfl) (fun x => by rw [h.c4]; simp)⟩
end
theorem O7.lay {w W : World} {x0 x1 x2 x3 x4 x5 : Int} {b : Bool} {t : TypeId} (hW : W = w.alloc (.cells #[.int .i64 x0, .int .i64 x1, .int .i64 x2, .int .i64 x3, .int .i64 x4, .int .i64 x5, .bool b] t)) : O7 W w.heap.size x0 x1 x2 x3 x4 x5 b := by
  subst hW
  exact ⟨by go_simp, by go_simp, by go_simp, by go_simp, by go_simp, by go_simp, by go_simp, fun o => by go_simp, by simp⟩
set_option maxRecDepth 20000 in
set_option maxHeartbeats 8000000 in
theorem sgenusQ (w : World) : Calls Tryz.prog 69 #[.agg #[.int .i64 12, .int .i64 0, .int .i64 0, .int .i64 0, .int .i64 2, .int .i64 0, .bool true]] w fun e w' => e = .returned (.agg #[.int .i64 12, .int .i64 1, .int .i64 0, .int .i64 0, .int .i64 2, .int .i64 0, .bool true]) ∧ Grow w w' := by
  have m0 : IntKind.i64.wrap 0 = 0 := by decide
  go_enter Tryz.func69, Tryz.ntmps69
  go_wp2_with fail
  refine bodyPost_ret (v := .agg #[.int .i64 12, .int .i64 1, .int .i64 0, .int .i64 0, .int .i64 2, .int .i64 0, .bool true]) (by rw [results_one rfl]; go_simp) rfl ⟨rfl, ?_⟩
  (repeat (first | with_reducible exact Grow.refl _ | with_reducible refine Grow.alloc ?_ _ | with_reducible refine Grow.drew ?_ | with_reducible refine Grow.drewN ?_ _ | (with_reducible refine Grow.setCell ?_ ?hp _; (case hp => (simp; try omega))) | with_reducible refine Grow.trans ?_ (by assumption)))
set_option maxRecDepth 20000 in
set_option maxHeartbeats 8000000 in
theorem formulaQ (w : World) (hT : TabB w) : Calls Tryz.prog 40 #[.int .i64 11] w fun e w' => e = .returned (.tuple #[.agg #[.int .i64 12, .int .i64 1, .int .i64 0, .int .i64 0, .int .i64 2, .int .i64 0, .bool true], .int .i64 0]) ∧ Grow w w' := by
  have PS : Hid (∀ u, Calls Tryz.prog 42 #[.int .i64 11] u fun x w' => x = .returned (.tuple #[.int .i64 12, .int .i64 0]) ∧ Grow u w') := Lib.hid (fun u => by
    have h := psiQ 11 (by omega) (by omega) u
    rw [show psiN 11 = 12 by decide +kernel] at h
    exact h)
  have FC : Hid (∀ u, Calls Tryz.prog 66 #[.int .i64 11] u fun x w' => ∃ v, x = .returned (.tuple #[v, .int .i64 0]) ∧ w'.ownsRow u.heap.size 101 2 v 1 [.int .i64 11, .int .i64 1] ∧ Grow u w') := Lib.hid (fun u => by
    have h := factorQ 11 (by omega) (by omega) u
    rw [show faL 33 11 2 = [(11, 1)] by decide +kernel] at h
    exact h)
  have DV : Hid (∀ u, Calls Tryz.prog 9 #[.int .i64 11] u fun x w' => ∃ g cap, x = .returned (.tuple #[.slice (some ⟨g, 0, none⟩) 2 cap, .int .i64 0]) ∧ IntQ w' g 0 2 (fun i => if i = 0 then 1 else 11) ∧ Grow u w' ∧ u.heap.size ≤ g) := Lib.hid (fun u => by
    have h := divisorsQ 11 (by omega) (by omega) u
    rw [show divs 11 = [1, 11] by decide +kernel] at h
    refine h.mono ?_
    rintro e w' ⟨g, cap, rfl, hi, hg, hb⟩
    refine ⟨g, cap, rfl, ⟨hi.lt, fun i hi2 => ?_⟩, hg, hb⟩
    rw [hi.cell i hi2]
    rcases (show i = 0 ∨ i = 1 by omega) with rfl | rfl <;> rfl)
  have PH : Hid (∀ u, Calls Tryz.prog 67 #[.int .i64 1] u fun x w' => x = .returned (.tuple #[.int .i64 1, .int .i64 0]) ∧ Grow u w') := Lib.hid (fun u => by
    have h := phiQ 1 (by omega) (by omega) u
    rw [show phiN 1 = 1 by decide +kernel] at h
    exact h)
  have GE := Lib.hid (fun u => sgenusQ u)
  obtain ⟨W1, hW1⟩ : ∃ W1 : World, W1 = w.alloc (.cells #[.int .i64 0, .int .i64 0, .int .i64 0, .int .i64 0, .int .i64 0, .int .i64 0, .bool false] 66) := ⟨_, rfl⟩
  obtain ⟨W2, hW2⟩ : ∃ W2 : World, W2 = W1.alloc (.cells #[.int .i64 0, .int .i64 0, .int .i64 1, .int .i64 1, .int .i64 0, .int .i64 0, .bool true] 66) := ⟨_, rfl⟩
  have hz1 : W1.heap.size = w.heap.size + 1 := by rw [hW1]; simp
  have HW1 := Lib.hid hW1
  have HW2 := Lib.hid hW2
  have HR : Hid (O7 W2 w.heap.size 0 0 0 0 0 0 false) := Lib.hid ((O7.lay hW1).grow (ag hW2))
  have HS : Hid (O7 W2 (w.heap.size + 1) 0 0 1 1 0 0 true) := Lib.hid (by rw [← hz1]; exact O7.lay hW2)
  have HG2 : Hid (Grow w W2) := Lib.hid ((ag hW1).trans (ag hW2))
  have HZ1 := Lib.hid hz1
  clear hW1 hW2 hz1
  go_enter Tryz.func40, Tryz.ntmps40
  go_upto_region 4 with (go_at_call 65; (with_reducible refine (swithinQ _).mono ?_); (rintro e u2 ⟨rfl, rfl⟩))
  rw [← HW1.out, ← HW2.out]
  try rw [HZ1.out]
  obtain ⟨B, hB⟩ : ∃ B, w.heap.size + 1 = B := ⟨_, rfl⟩
  rw [hB] at HS
  rw [hB]
  have hBw : w.heap.size < B := by omega
  clear hB HW1 HW2
  go_upto_region 5 with (go_at_call 42; (with_reducible refine (PS.out _).mono ?_); (rintro e u3 ⟨rfl, hb3⟩; have HG3 := Lib.hid hb3; clear hb3; obtain ⟨d0, d1, d2, d3, d4, d5, d6, d7, d8⟩ := HS.out.all u3 HG3.out))
  clear d0 d1 d2 d3 d4 d5 d6 d7 d8 PS
  obtain ⟨hs4, hb4⟩ := (HS.out.grow HG3.out).set0 12
  obtain ⟨W4, hW4⟩ : ∃ W4, u3.setCell ⟨B, 0, none⟩ (.int .i64 12) = W4 := ⟨_, rfl⟩
  rw [hW4] at hs4 hb4
  rw [hW4]
  have HS4 := Lib.hid hs4
  have HB4 : Hid (But (fun z => z = B) W2 W4) := Lib.hid ((HG3.out.but _).trans hb4)
  clear hs4 hb4 hW4 HS HG3
  go_upto_region 6 with (go_at_call 66; (with_reducible refine (FC.out _).mono ?_); (rintro e u5 ⟨v5, rfl, ho5, hb5⟩; have HO5 := Lib.hid ho5; have HG5 := Lib.hid hb5; clear ho5 hb5))
  obtain ⟨g5, cap5, hv5, hgb5, hgl5⟩ := own_slice HO5.out (by omega)
  subst hv5
  obtain ⟨-, -, -, -, hcl⟩ := own_cells HO5.out
  have q0 := hcl 0 _ rfl
  have q1 := hcl 1 _ rfl
  have Q5 := Lib.hid (⟨q0, q1⟩ : _ ∧ _)
  have hgB : ¬ g5 = B := by have := HB4.out.size; have := HG5.out.size; have := (HR.out).lt; have := HS4.out.lt; omega
  have hbw0 : But (fun z => z = B) W2 u5 := HB4.out.grow HG5.out
  have HS5 := Lib.hid (HS4.out.grow HG5.out)
  have HBW := Lib.hid hbw0
  clear hcl q0 q1 hbw0 HO5 FC HS4 HB4 HG5 hgb5
  go_wp2_with fail
  go_loopg [33] 1 (fun gk t33 wr => (t33 = .int .i64 0 ∧ Hid (gk = 1) ∧ Hid (O7 wr B 12 0 1 1 0 0 true) ∧ Hid (But (fun z => z = B) u5 wr)) ∨ (t33 = .int .i64 1 ∧ Hid (gk = 0) ∧ Hid (O7 wr B 12 0 0 0 0 0 true) ∧ Hid (But (fun z => z = B) u5 wr)))
  case atStart => exact .inl ⟨rfl, Lib.hid rfl, HS5, Lib.hid (But.refl _ _)⟩
  case round =>
    clear HS5
    obtain ⟨rfl, HGK, HS, HB⟩ | ⟨rfl, HGK, HS, HB⟩ := hrel
    case inl =>
      have hgr : Grow w wr := ((HG2.out.but _).trans (HBW.out.trans HB.out)).asGrow (fun z hz => by omega)
      have q0 := (HB.out.cells _ 0 hgl5 hgB).trans Q5.out.1
      have q1 := (HB.out.cells _ 1 hgl5 hgB).trans Q5.out.2
      have KA : Hid (∀ u, Grow wr u → Calls Tryz.prog 35 #[.int .i64 (-4), .int .i64 11] u fun e w' => e = .returned (.int .i64 (-1)) ∧ u = w') := Lib.hid (fun u hu => by
        have h := kroneckerQ (-4) 11 (by decide) (by omega) (by omega) u (hT.grow (hgr.trans hu))
        rw [show krN (-4) 11 = -1 by decide +kernel] at h
        exact h)
      have KB : Hid (∀ u, Grow wr u → Calls Tryz.prog 35 #[.int .i64 (-3), .int .i64 11] u fun e w' => e = .returned (.int .i64 (-1)) ∧ u = w') := Lib.hid (fun u hu => by
        have h := kroneckerQ (-3) 11 (by decide) (by omega) (by omega) u (hT.grow (hgr.trans hu))
        rw [show krN (-3) 11 = -1 by decide +kernel] at h
        exact h)
      have m0 : IntKind.i64.wrap 0 = 0 := by decide
      go_upto_region 9 with fail
      obtain ⟨W8, hW8⟩ : ∃ W8 : World, W8 = wr.alloc (.cells #[.int .i64 11, .int .i64 1] 101) := ⟨_, rfl⟩
      rw [← hW8]
      have D0 := Lib.hid (HS.out.grow (ag hW8)).all
      have D1 := Lib.hid (ak2 hW8)
      have HS8 := Lib.hid (HS.out.grow (ag hW8))
      have HB8 := Lib.hid (HB.out.grow (ag hW8))
      have KA2 := Lib.hid (fun u (hu : Grow W8 u) => KA.out u ((ag hW8).trans hu))
      have KB2 := Lib.hid (fun u (hu : Grow wr u) => KB.out u hu)
      have hg8 := ag hW8
      have P8 := Lib.hid (ak2 hW8 W8 (Grow.refl _))
      have hwx : ¬ wr.heap.size = B := by have := HS.out.lt; omega
      clear KA KB q0 q1 hgr hW8
      have KA := KA2
      have KB := KB2
      clear KA2 KB2
      refine region_held (id := 9) (fun u => Grow W8 u) [0, 1, 2, 3, 4, 5, 6, 7, 8] (kdL [0, 1, 0, 1, 2, 0, 0, 0, 3]) (by kernel_rfl) (by kernel_rfl) (fun t ht => kdL_lt _ t ht) ?hS0q ?_
      case hS0q => ((try dsimp only); (repeat (first | with_reducible exact Grow.refl _ | with_reducible refine Grow.alloc ?_ _ | with_reducible refine Grow.drew ?_ | with_reducible refine Grow.drewN ?_ _ | (with_reducible refine Grow.setCell ?_ ?hp _; (case hp => (simp; try omega))) | with_reducible refine Grow.trans ?_ (by assumption))))
      refine held_quiet (v := ?vq0) rfl rfl (Or.inl ⟨by rfl, ?hyq0⟩) ?_
      case hyq0 => (intro u hu; go_simp; (try with_reducible rfl))
      (try simp only [Act.put, List.setIfInBounds_toArray, List.set_cons_zero, List.set_cons_succ])
      refine held_read (v := ?vq1) rfl rfl (Or.inl ⟨by rfl, ?hyq1⟩) ?_
      case hyq1 => (intro u hu; obtain ⟨d0, d1, d2, d3, d4, d5, d6, d7, d8⟩ := D0.out u hu; obtain ⟨f0, f1, f2, f3⟩ := D1.out u hu; go_simp; (try with_reducible rfl))
      (try simp only [Act.put, List.setIfInBounds_toArray, List.set_cons_zero, List.set_cons_succ])
      refine held_quiet (v := ?vq2) rfl rfl (Or.inl ⟨by rfl, ?hyq2⟩) ?_
      case hyq2 => (intro u hu; go_simp; (try with_reducible rfl))
      (try simp only [Act.put, List.setIfInBounds_toArray, List.set_cons_zero, List.set_cons_succ])
      refine held_read (v := ?vq3) rfl rfl (Or.inl ⟨by rfl, ?hyq3⟩) ?_
      case hyq3 => (intro u hu; obtain ⟨d0, d1, d2, d3, d4, d5, d6, d7, d8⟩ := D0.out u hu; obtain ⟨f0, f1, f2, f3⟩ := D1.out u hu; go_simp; (try with_reducible rfl))
      (try simp only [Act.put, List.setIfInBounds_toArray, List.set_cons_zero, List.set_cons_succ])
      refine held_op rfl rfl (fun K hK => ?_)
      go_simp
      (go_at_call 35; (with_reducible refine (KA.out _ (by (repeat (first | with_reducible exact Grow.refl _ | with_reducible refine Grow.alloc ?_ _ | with_reducible refine Grow.drew ?_ | with_reducible refine Grow.drewN ?_ _ | (with_reducible refine Grow.setCell ?_ ?hp _; (case hp => (simp; try omega))) | with_reducible refine Grow.trans ?_ (by assumption))))).mono ?_); (rintro x u24 ⟨rfl, rfl⟩); obtain ⟨d0, d1, d2, d3, d4, d5, d6, d7, d8⟩ := D0.out _ (by (repeat (first | with_reducible exact Grow.refl _ | with_reducible refine Grow.alloc ?_ _ | with_reducible refine Grow.drew ?_ | with_reducible refine Grow.drewN ?_ _ | (with_reducible refine Grow.setCell ?_ ?hp _; (case hp => (simp; try omega))) | with_reducible refine Grow.trans ?_ (by assumption)))))
      (try go_wp2_with fail)
      refine hK.out _ _ ?hSq4 ?_
      case hSq4 => ((try dsimp only); (repeat (first | with_reducible exact Grow.refl _ | with_reducible refine Grow.alloc ?_ _ | with_reducible refine Grow.drew ?_ | with_reducible refine Grow.drewN ?_ _ | (with_reducible refine Grow.setCell ?_ ?hp _; (case hp => (simp; try omega))) | with_reducible refine Grow.trans ?_ (by assumption))))
      clear hK K
      (try simp only [Act.put, List.setIfInBounds_toArray, List.set_cons_zero, List.set_cons_succ])
      refine held_quiet (v := ?vq5) rfl rfl (Or.inl ⟨by rfl, ?hyq5⟩) ?_
      case hyq5 => (intro u hu; go_simp; (try with_reducible rfl))
      (try simp only [Act.put, List.setIfInBounds_toArray, List.set_cons_zero, List.set_cons_succ])
      refine held_quiet (v := ?vq6) rfl rfl (Or.inl ⟨by rfl, ?hyq6⟩) ?_
      case hyq6 => (intro u hu; go_simp; (try with_reducible rfl))
      (try simp only [Act.put, List.setIfInBounds_toArray, List.set_cons_zero, List.set_cons_succ])
      refine held_quiet (v := ?vq7) rfl rfl (Or.inl ⟨by rfl, ?hyq7⟩) ?_
      case hyq7 => (intro u hu; go_simp; (try with_reducible rfl))
      (try simp only [Act.put, List.setIfInBounds_toArray, List.set_cons_zero, List.set_cons_succ])
      refine held_last rfl rfl (fun K hK => ?_)
      go_simp
      refine hK.out _ _ ?_
      clear hK K
      (try simp only [Act.put, List.setIfInBounds_toArray, List.set_cons_zero, List.set_cons_succ])
      refine held_done ?_
      go_simp
      obtain ⟨hs9, hb9⟩ := HS8.out.set2 0
      have hs9 := hs9.grow ((Grow.refl _).drew)
      have hb9 := hb9.drew
      obtain ⟨W9, hW9⟩ : ∃ W9, (W8.setCell ⟨B, 2, none⟩ (.int .i64 0)).drew = W9 := ⟨_, rfl⟩
      rw [hW9] at hs9 hb9
      rw [hW9]
      have hg9 : Grow w W9 := ((HG2.out.but _).trans ((HBW.out.trans HB8.out).trans hb9)).asGrow (fun z hz => by omega)
      have KB : Hid (∀ u, Grow W9 u → Calls Tryz.prog 35 #[.int .i64 (-3), .int .i64 11] u fun e w' => e = .returned (.int .i64 (-1)) ∧ u = w') := Lib.hid (fun u hu => by
        have h := kroneckerQ (-3) 11 (by decide) (by omega) (by omega) u (hT.grow (hg9.trans hu))
        rw [show krN (-3) 11 = -1 by decide +kernel] at h
        exact h)
      have k0 := (hb9.cells _ 0 P8.out.2.2.2 hwx).trans P8.out.1
      have k1 := (hb9.cells _ 1 P8.out.2.2.2 hwx).trans P8.out.2.1
      have kl : wr.heap.size < W9.heap.size := Nat.lt_of_lt_of_le P8.out.2.2.2 hb9.size
      have D0 := Lib.hid hs9.all
      have D1 := Lib.hid (fun (u : World) (hu : Grow W9 u) => (⟨(hu.cells _ _ kl).trans k0, (hu.cells _ _ kl).trans k1, trivial, trivial⟩ : _ ∧ _ ∧ True ∧ True))
      have HS9 := Lib.hid hs9
      have HB9 := Lib.hid (HB8.out.trans hb9)
      clear hs9 hb9 hW9 hg9 k0 k1 kl d0 d1 d2 d3 d4 d5 d6 d7 d8
      go_upto_region 10 with fail
      refine region_held (id := 10) (fun u => Grow W9 u) [0, 1, 2, 3, 4, 5, 6, 7, 8] (kdL [0, 1, 0, 1, 2, 0, 0, 0, 3]) (by kernel_rfl) (by kernel_rfl) (fun t ht => kdL_lt _ t ht) ?hS0r ?_
      case hS0r => ((try dsimp only); (repeat (first | with_reducible exact Grow.refl _ | with_reducible refine Grow.alloc ?_ _ | with_reducible refine Grow.drew ?_ | with_reducible refine Grow.drewN ?_ _ | (with_reducible refine Grow.setCell ?_ ?hp _; (case hp => (simp; try omega))) | with_reducible refine Grow.trans ?_ (by assumption))))
      refine held_quiet (v := ?vr0) rfl rfl (Or.inl ⟨by rfl, ?hyr0⟩) ?_
      case hyr0 => (intro u hu; go_simp; (try with_reducible rfl))
      (try simp only [Act.put, List.setIfInBounds_toArray, List.set_cons_zero, List.set_cons_succ])
      refine held_read (v := ?vr1) rfl rfl (Or.inl ⟨by rfl, ?hyr1⟩) ?_
      case hyr1 => (intro u hu; obtain ⟨d0, d1, d2, d3, d4, d5, d6, d7, d8⟩ := D0.out u hu; obtain ⟨f0, f1, -, -⟩ := D1.out u hu; go_simp; (try with_reducible rfl))
      (try simp only [Act.put, List.setIfInBounds_toArray, List.set_cons_zero, List.set_cons_succ])
      refine held_quiet (v := ?vr2) rfl rfl (Or.inl ⟨by rfl, ?hyr2⟩) ?_
      case hyr2 => (intro u hu; go_simp; (try with_reducible rfl))
      (try simp only [Act.put, List.setIfInBounds_toArray, List.set_cons_zero, List.set_cons_succ])
      refine held_read (v := ?vr3) rfl rfl (Or.inl ⟨by rfl, ?hyr3⟩) ?_
      case hyr3 => (intro u hu; obtain ⟨d0, d1, d2, d3, d4, d5, d6, d7, d8⟩ := D0.out u hu; obtain ⟨f0, f1, -, -⟩ := D1.out u hu; go_simp; (try with_reducible rfl))
      (try simp only [Act.put, List.setIfInBounds_toArray, List.set_cons_zero, List.set_cons_succ])
      refine held_op rfl rfl (fun K hK => ?_)
      go_simp
      (go_at_call 35; (with_reducible refine (KB.out _ (by (repeat (first | with_reducible exact Grow.refl _ | with_reducible refine Grow.alloc ?_ _ | with_reducible refine Grow.drew ?_ | with_reducible refine Grow.drewN ?_ _ | (with_reducible refine Grow.setCell ?_ ?hp _; (case hp => (simp; try omega))) | with_reducible refine Grow.trans ?_ (by assumption))))).mono ?_); (rintro x u24 ⟨rfl, rfl⟩); obtain ⟨d0, d1, d2, d3, d4, d5, d6, d7, d8⟩ := D0.out _ (by (repeat (first | with_reducible exact Grow.refl _ | with_reducible refine Grow.alloc ?_ _ | with_reducible refine Grow.drew ?_ | with_reducible refine Grow.drewN ?_ _ | (with_reducible refine Grow.setCell ?_ ?hp _; (case hp => (simp; try omega))) | with_reducible refine Grow.trans ?_ (by assumption)))))
      (try go_wp2_with fail)
      refine hK.out _ _ ?hSr4 ?_
      case hSr4 => ((try dsimp only); (repeat (first | with_reducible exact Grow.refl _ | with_reducible refine Grow.alloc ?_ _ | with_reducible refine Grow.drew ?_ | with_reducible refine Grow.drewN ?_ _ | (with_reducible refine Grow.setCell ?_ ?hp _; (case hp => (simp; try omega))) | with_reducible refine Grow.trans ?_ (by assumption))))
      clear hK K
      (try simp only [Act.put, List.setIfInBounds_toArray, List.set_cons_zero, List.set_cons_succ])
      refine held_quiet (v := ?vr5) rfl rfl (Or.inl ⟨by rfl, ?hyr5⟩) ?_
      case hyr5 => (intro u hu; go_simp; (try with_reducible rfl))
      (try simp only [Act.put, List.setIfInBounds_toArray, List.set_cons_zero, List.set_cons_succ])
      refine held_quiet (v := ?vr6) rfl rfl (Or.inl ⟨by rfl, ?hyr6⟩) ?_
      case hyr6 => (intro u hu; go_simp; (try with_reducible rfl))
      (try simp only [Act.put, List.setIfInBounds_toArray, List.set_cons_zero, List.set_cons_succ])
      refine held_quiet (v := ?vr7) rfl rfl (Or.inl ⟨by rfl, ?hyr7⟩) ?_
      case hyr7 => (intro u hu; go_simp; (try with_reducible rfl))
      (try simp only [Act.put, List.setIfInBounds_toArray, List.set_cons_zero, List.set_cons_succ])
      refine held_last rfl rfl (fun K hK => ?_)
      go_simp
      refine hK.out _ _ ?_
      clear hK K
      (try simp only [Act.put, List.setIfInBounds_toArray, List.set_cons_zero, List.set_cons_succ])
      refine held_done ?_
      go_simp
      obtain ⟨hs10, hb10⟩ := HS9.out.set3 0
      have hs10 := Lib.hid (hs10.grow ((Grow.refl _).drew))
      have hb10 := Lib.hid (HB9.out.trans hb10.drew)
      clear d0 d1 d2 d3 d4 d5 d6 d7 d8
      go_wp2_with fail
      go_roundg 0
      case measure => have := HGK.out; omega
      case rel => exact .inr ⟨rfl, Lib.hid rfl, hs10, hb10⟩
    case inr =>
      have hgr : Grow w wr := ((HG2.out.but _).trans (HBW.out.trans HB.out)).asGrow (fun z hz => by omega)
      have HBX := Lib.hid (HBW.out.trans HB.out)
      clear HB hT
      go_upto_region 17 with (go_at_call 9; (with_reducible refine (DV.out _).mono ?_); (rintro e u6 ⟨g6, cap6, rfl, hi6, hb6, hgg6⟩; have HI6 := Lib.hid hi6; have HG6 := Lib.hid hb6; clear hi6 hb6))
      have HS6 := Lib.hid (HS.out.grow HG6.out)
      have HB6 := Lib.hid (HBX.out.grow HG6.out)
      have hg6B : ¬ g6 = B := by have := HS.out.lt; omega
      clear HS HBX DV hgg6 hgr Q5
      go_wp2_with fail
      go_loopg [69] 2 (fun gk t69 wr => ∃ k : Nat, t69 = .int .i64 (k : Int) ∧ k ≤ 2 ∧ Hid (gk = 2 - k) ∧ Hid (O7 wr B 12 0 0 0 (k : Int) 0 true) ∧ Hid (But (fun z => z = B) u6 wr))
      case atStart => exact ⟨0, rfl, by omega, Lib.hid rfl, HS6, Lib.hid (But.refl _ _)⟩
      case round =>
        clear HS6
        obtain ⟨k, rfl, hk2, HGJ, HS, HB⟩ := hrel
        have hbw := HB6.out.trans HB.out
        obtain ⟨d0, d1, d2, d3, d4, d5, d6, d7, d8⟩ := HS.out.all wr (Grow.refl _)
        by_cases hk : k = 2
        · subst hk
          have hgw : Grow w wr := ((HG2.out.but _).trans hbw).asGrow (fun z hz => by omega)
          have HR9 := Lib.hid (HR.out.but hbw (by omega))
          have HGW := Lib.hid hgw
          clear hbw hgw
          go_wp2_with (go_at_call 69; (with_reducible refine (GE.out _).mono ?_); (rintro e u9 ⟨rfl, hb9⟩; have HG9 := Lib.hid hb9; clear hb9; obtain ⟨r0, r1, r2, r3, r4, r5, r6, r7, r8⟩ := HR9.out.all u9 HG9.out))
          refine bodyPost_ret (v := .tuple #[.agg #[.int .i64 12, .int .i64 1, .int .i64 0, .int .i64 0, .int .i64 2, .int .i64 0, .bool true], .int .i64 0]) (by rw [results_cell_tmp rfl]; go_simp) rfl ⟨rfl, ?_⟩
          exact (((((((HGW.out.trans HG9.out).setCell (Nat.le_refl _) _).setCell (Nat.le_refl _) _).setCell (Nat.le_refl _) _).setCell (Nat.le_refl _) _).setCell (Nat.le_refl _) _).setCell (Nat.le_refl _) _).setCell (Nat.le_refl _) _
        · have y0 : (0 : Int) ≤ (k : Int) := by omega
          have y1 : decide ((k : Int) < 2) = true := by simp; omega
          have y1n : decide (k < 2) = true := by simp; omega
          have y2 : (k : Int) < 2 := by omega
          obtain ⟨D, hD⟩ : ∃ D : Int, (if k = 0 then 1 else 11) = D := ⟨_, rfl⟩
          obtain ⟨E, hE⟩ : ∃ E : Int, (if k = 0 then 11 else 1) = E := ⟨_, rfl⟩
          have hc := HI6.out.cell k (by omega)
          rw [Nat.zero_add] at hc
          rw [hD] at hc
          have hc := (HB.out.cells _ k HI6.out.lt hg6B).trans hc
          have hq : Hid (Int.tdiv 11 D = E ∧ IntKind.i64.wrap E = E ∧ wrap64 E = E ∧ ¬ D = 0 ∧ D.natAbs ≤ 11 ∧ E.natAbs ≤ 11 ∧ Int.gcd D E = 1) := Lib.hid (by
            rcases (show k = 0 ∨ k = 1 by omega) with rfl | rfl
            · subst hD hE; decide +kernel
            · subst hD hE; decide +kernel)
          obtain ⟨q1, q2, q3, q4, q5, q6, q7⟩ := hq.out
          have GC : Hid (∀ u, Calls Tryz.prog 68 #[.int .i64 D, .int .i64 E] u fun e w' => e = .returned (.int .i64 1) ∧ Grow u w') := Lib.hid (fun u => by
            have h := gcW_any D E (by omega) (by omega) (by omega) (by omega) u
            rw [hq.out.2.2.2.2.2.2] at h
            exact h)
          have E3 := Lib.hid (inc_wrap (i := k) (n := 2) (by omega) (by omega))
          clear hD hE q5 q6 q7 hbw
          go_upto_region 21 with (first
            | (go_at_call 68; (with_reducible refine (GC.out _).mono ?_); (rintro e u7 ⟨rfl, hb7⟩; have HG7 := Lib.hid hb7; clear hb7))
            | (go_at_call 67; (with_reducible refine (PH.out _).mono ?_); (rintro e u8 ⟨rfl, hb8⟩; have HG8 := Lib.hid (HG7.out.trans hb8); clear hb8)))
          clear d0 d1 d2 d3 d4 d5 d6 d7 d8 q1 q2 q3 q4
          have HS8 := Lib.hid (HS.out.grow HG8.out)
          obtain ⟨d0, d1, d2, d3, d4, d5, d6, d7, d8⟩ := HS8.out.all u8 (Grow.refl _)
          have m1 : IntKind.i64.wrap 1 = 1 := by decide
          obtain ⟨e3, e3'⟩ := E3.out
          obtain ⟨hs9, hb9⟩ := HS8.out.set4 ((k + 1 : Nat) : Int)
          have HS9 := Lib.hid hs9
          have HB9 := Lib.hid ((HB.out.grow HG8.out).trans hb9)
          clear hs9 hb9
          go_wp2_with fail
          clear e3 e3' d0 d1 d2 d3 d4 d5 d6 d7 d8
          go_roundg (2 - (k + 1))
          case measure => have := HGJ.out; omega
          case rel => exact ⟨k + 1, by first | rfl | simp, by omega, Lib.hid rfl, HS9, HB9⟩
end Go.Proofs.YtbpkfcohbefphaaGreatDoor
namespace Go.Proofs.YtbpkfcohbefphaaGreatDoor
open Go Go.RowKit
theorem mag_own {w : World} {base : Nat} {t : TypeId} {v : Value} {n : Nat} (hn : n < 4294967296) (h0 : 0 < n) (h : w.ownsRow base t 1 v 1 [.int .u32 (n : Int)]) : MagR w v n :=
  MagR.of_row hn (by rw [if_neg (by omega), if_neg (by omega)]; exact own_rdrow h (by intro u hu; simp at hu; subst hu; rfl))
theorem ser_cell {w u : World} {B : Nat} (hB : w.heap.size ≤ B) (_ : B < u.heap.size) {v0 v1 : Value} (h0 : u.cell? ⟨B, 0, none⟩ = some v0) (h1 : u.cell? ⟨B, 1, none⟩ = some v1) (n0 : ∀ x, v0 ≠ .int .u32 x) (n1 : ∀ x, v1 ≠ .int .u32 x) (hg : Grow w u) (x0 x1 : Value) (_ : ∀ x, x0 ≠ .int .u32 x) :
    But (fun b => b = B) u ((u.setCell ⟨B, 0, none⟩ x0).setCell ⟨B, 1, none⟩ x1) ∧ Grow w ((u.setCell ⟨B, 0, none⟩ x0).setCell ⟨B, 1, none⟩ x1) := by
  have hb : But (fun b => b = B) u ((u.setCell ⟨B, 0, none⟩ x0).setCell ⟨B, 1, none⟩ x1) := ((But.refl (fun b => b = B) u).set x0 (.inr rfl) (fun x => by rw [h0]; intro e; injection e with e; exact n0 x e)).set x1 (.inr rfl) (fun x => by
    rw [World.cell?_setCell_other _ _ _ _ (by simp : (⟨B, 0, none⟩ : Addr) ≠ ⟨B, 1, none⟩), h1]; intro e; injection e with e; exact n1 x e)
  exact ⟨hb, ((hg.but _).trans hb).asGrow (fun b e => by omega)⟩
structure ZS (w wr : World) (B2 : Nat) (sg : Bool) (a : Option Addr) (l c : Nat) : Prop where
  g : Grow w wr
  c0 : wr.cell? ⟨B2, 0, none⟩ = some (.bool sg)
  c1 : wr.cell? ⟨B2, 1, none⟩ = some (.slice a l c)
  cf : ∀ o, wr.frozen? ⟨B2, o, none⟩ = false
  cl : B2 < wr.heap.size
  r0 : wr.cell? ⟨w.heap.size, 0, none⟩ = some (.bool false)
  r1 : wr.cell? ⟨w.heap.size, 1, none⟩ = some (.slice none 0 0)
  rf : ∀ o, wr.frozen? ⟨w.heap.size, o, none⟩ = false
  ne : w.heap.size < B2
theorem ZS.grow {w u u' : World} {B2 : Nat} {sg : Bool} {a : Option Addr} {l c : Nat} (h : ZS w u B2 sg a l c) (hg : Grow u u') : ZS w u' B2 sg a l c :=
  ⟨h.g.trans hg, (hg.cells _ _ h.cl).trans h.c0, (hg.cells _ _ h.cl).trans h.c1, fun o => (hg.frees _ _ h.cl).trans (h.cf o), Nat.lt_of_lt_of_le h.cl hg.size, (hg.cells _ _ (Nat.lt_trans h.ne h.cl)).trans h.r0, (hg.cells _ _ (Nat.lt_trans h.ne h.cl)).trans h.r1, fun o => (hg.frees _ _ (Nat.lt_trans h.ne h.cl)).trans (h.rf o), h.ne⟩
theorem ZS.put {w u : World} {B2 : Nat} {sg : Bool} {a : Option Addr} {l c : Nat} (h : ZS w u B2 sg a l c) (a' : Option Addr) (l' c' : Nat) :
    But (fun b => b = B2) u (u.setCell ⟨B2, 1, none⟩ (.slice a' l' c')) ∧ ZS w (u.setCell ⟨B2, 1, none⟩ (.slice a' l' c')) B2 sg a' l' c' := by
  have hb : But (fun b => b = B2) u (u.setCell ⟨B2, 1, none⟩ (.slice a' l' c')) := (But.refl (fun b => b = B2) u).set _ (.inr rfl) (fun x => by rw [h.c1]; simp)
  have hl := Nat.lt_trans h.ne h.cl
  have hne : ¬ (w.heap.size = B2) := by have := h.ne; omega
  exact ⟨hb, h.g.setCell (Nat.le_of_lt h.ne) _, (World.cell?_setCell_other _ _ _ _ (by simp)).trans h.c0, World.cell?_setCell_same _ _ _ h.c1, fun o => (hb.frees _ _ h.cl).trans (h.cf o), Nat.lt_of_lt_of_le h.cl hb.size, (hb.cells _ _ hl hne).trans h.r0, (hb.cells _ _ hl hne).trans h.r1, fun o => (hb.frees _ _ hl).trans (h.rf o), h.ne⟩
set_option maxRecDepth 20000 in
set_option maxHeartbeats 8000000 in
theorem zbCore (z u0 : Int) (n : Nat) (sg : Bool) (hn : n < 4294967296) (hz : z.natAbs = n) (hsg : sgB z = sg) (hu : IntKind.u64.wrap z = u0) (hu2 : sg = true → IntKind.u64.wrap (-u0) = (n : Int)) (hu3 : sg = false → u0 = (n : Int)) (w : World) :
    Calls Tryz.prog 17 #[.int .i64 z] w fun e w' => ∃ v, e = .returned v ∧ IntR w' v z ∧ Grow w w' := by
  obtain ⟨iu, hiu, iuz0, iuz1, iuz2⟩ := info_parts infoU
  have hdz : decide (z < 0) = sg := hsg
  have HZ := Lib.hid hz
  have HSG := Lib.hid hsg
  clear hz hsg
  obtain ⟨W1, hW1⟩ : ∃ W1 : World, W1 = w.alloc (.cells #[.bool false, .slice none 0 0] 25) := ⟨_, rfl⟩
  have HG1 := Lib.hid (ag hW1)
  have K1 := Lib.hid (ak2 hW1)
  have HZ1 : Hid (W1.heap.size = w.heap.size + 1) := Lib.hid (by rw [hW1]; simp)
  have HW1 := Lib.hid hW1
  clear hW1
  have hu4 : (sg = false ∧ u0 = (n : Int)) ∨ (sg = true ∧ IntKind.u64.wrap (-u0) = (n : Int)) := by
    cases sg
    · exact .inl ⟨rfl, hu3 rfl⟩
    · exact .inr ⟨rfl, hu2 rfl⟩
  clear hu2 hu3
  rcases hu4 with ⟨rfl, rfl⟩ | ⟨rfl, hu4⟩
  all_goals
    go_enter Tryz.func17, Tryz.ntmps17
    go_upto_region 1 with fail
    rw [← HW1.out]
    go_upto_block 0 with fail
    obtain ⟨W2, hW2⟩ : ∃ W2 : World, W2 = W1.alloc (.cells #[.bool (sgB z), .slice none 0 0] 25) := ⟨_, rfl⟩
    rw [HSG.out] at hW2
    rw [← hW2]
    have HS : Hid (ZS w W2 W1.heap.size (sgB z) none 0 0) := Lib.hid (by
      rw [HSG.out]
      obtain ⟨c0, c1, c2, c3⟩ := K1.out W2 (ag hW2)
      obtain ⟨d0, d1, d2, d3⟩ := ak2 hW2 W2 (Grow.refl _)
      exact ⟨HG1.out.trans (ag hW2), d0, d1, d2, d3, c0, c1, c2, by rw [HZ1.out]; omega⟩)
    clear hW2
    go_wp2_with fail
    go_loopg [3] 1 (fun gk t3 wr => ∃ (k l c : Nat) (a : Option Addr), t3 = .int .u64 (k : Int) ∧ Hid (k ≠ 0 → 1 ≤ gk) ∧ Hid (ZS w wr W1.heap.size (sgB z) a l c) ∧ Hid ((k = n ∧ a = none ∧ l = 0 ∧ c = 0) ∨ (k = 0 ∧ MagR wr (.slice a l c) n)))
    case atStart => exact ⟨n, 0, 0, none, rfl, Lib.hid (fun _ => Nat.le_refl _), HS, Lib.hid (.inl ⟨rfl, rfl, rfl, rfl⟩)⟩
    case round =>
      clear HS
      obtain ⟨k, l, c, a, rfl, HGK, HS, HC⟩ := hrel
      obtain ⟨s1, s2, s3, s4, s5, s6, s7, s8, s9⟩ := HS.out
      have HNE := Lib.hid s9
      clear s9
      rcases HC.out with ⟨rfl, rfl, rfl, rfl⟩ | ⟨rfl, hm⟩
      · by_cases hk0 : k = 0
        · subst hk0
          obtain ⟨hb, hg⟩ := ser_cell (Nat.le_refl _) (Nat.lt_trans HNE.out s5) s6 s7 (fun x => by simp) (fun x => by simp) HS.out.g (.bool (sgB z)) (.slice none 0 0) (fun x => by simp)
          have HB := Lib.hid hb
          have HG := Lib.hid hg
          clear hb hg
          go_wp2_with fail
          refine bodyPost_ret (v := .agg #[.bool (sgB z), .slice none 0 0]) (by rw [results_one rfl]; go_simp) rfl ⟨_, rfl, ?_, HG.out⟩
          exact ⟨_, rfl, .inl ⟨HZ.out, _, _, rfl⟩⟩
        · have z1 : decide ((k : Int) > 0) = true := by simp; omega
          have z2 : (0 : Int) < (k : Int) := by omega
          have y1 : IntKind.u32.wrap (k : Int) = (k : Int) := IntWalk.u32_in _ (by omega)
          have z3 : (k : Int) / 4294967296 = 0 := by omega
          have Z3 := Lib.hid z3
          clear z3
          go_wp2_with (at_builtin; go_loud (refine wpList_append_own _ rfl _ _ 23 rfl (wr.heap.size) 70 iu (.int .u32 0) 1 4 Tryz.underlying23 hiu iuz0 iuz1 iuz2 rfl (by decide) _ _ _ rfl (World.ownsRow_nil _ _ _ _) ⟨wr.heap.size, 0, none⟩ 1 1 [.int .u32 (k : Int)] rfl rfl (one_cells _ _ _ _ rfl) (one_oneCell _ _) (by unfold maxLen; omega) (by omega) (by simp) ?_))
          intro v7 w7 hown7 hgrow7 _
          have hg7 : Grow wr w7 := ((Grow.refl wr).alloc _).grown hgrow7 (fun k hk => by cases hk)
          obtain ⟨a7, c7, rfl⟩ := own_form hown7
          have hm7 : MagR w7 (.slice a7 (0 + 1) c7) k := mag_own hn (by omega) hown7
          have hs7 := HS.out.grow hg7
          obtain ⟨hb8, hs8⟩ := hs7.put a7 (0 + 1) c7
          have HM8 := Lib.hid (hm7.but hb8)
          have HS8 := Lib.hid hs8
          obtain ⟨s1, s2, s3, s4, s5, s6, s7, s8, s9⟩ := hs7
          clear hown7 hgrow7 hm7 hb8 hs8 hg7 s9
          have z4 := Z3.out
          go_wp2_with fail
          clear z4
          go_roundg 0
          case measure => have := HGK.out (by omega); omega
          case rel => exact ⟨0, 0 + 1, c7, a7, rfl, Lib.hid (fun h => absurd rfl h), HS8, Lib.hid (.inr ⟨rfl, HM8.out⟩)⟩
      · obtain ⟨hb, hg⟩ := ser_cell (Nat.le_refl _) (Nat.lt_trans HNE.out s5) s6 s7 (fun x => by simp) (fun x => by simp) HS.out.g (.bool (sgB z)) (.slice a l c) (fun x => by simp)
        have HB := Lib.hid hb
        have HG := Lib.hid hg
        have HM := Lib.hid hm
        clear hb hg hm
        go_wp2_with fail
        refine bodyPost_ret (v := .agg #[.bool (sgB z), .slice a l c]) (by rw [results_one rfl]; go_simp) rfl ⟨_, rfl, ?_, HG.out⟩
        exact ⟨_, rfl, by rw [HZ.out]; exact HM.out.but HB.out⟩
theorem zbV (z : Int) (hz : z.natAbs < 4294967296) (w : World) : Calls Tryz.prog 17 #[.int .i64 z] w fun e w' => ∃ v, e = .returned v ∧ IntR w' v z ∧ Grow w w' := by
  by_cases h0 : z < 0
  · exact zbCore z (18446744073709551616 - (z.natAbs : Int)) z.natAbs true hz rfl (by simp [sgB, h0]) (by simp [IntKind.wrap, IntKind.bits, IntKind.signed]; omega) (fun _ => by simp [IntKind.wrap, IntKind.bits, IntKind.signed]; omega) (fun h => by cases h) w
  · exact zbCore z (z.natAbs : Int) z.natAbs false hz rfl (by simp [sgB, h0]) (by rw [show z = (z.natAbs : Int) by omega]; exact IntWalk.u64_in _ (by omega)) (fun h => by cases h) (fun _ => rfl) w
set_option maxRecDepth 20000 in
set_option maxHeartbeats 8000000 in
theorem qbQ (z : Int) (hz : z.natAbs < 4294967296) (w : World) : Calls Tryz.prog 6 #[.int .i64 z] w fun e w' => ∃ v, e = .returned v ∧ RatR w' v (z : Rat) ∧ Grow w w' := by
  have O1 := Lib.hid (fun u => zbV z hz u)
  have O2 := Lib.hid (fun u => zbV 1 (by decide) u)
  clear hz
  obtain ⟨W1, hW1⟩ : ∃ W1 : World, W1 = w.alloc (.cells #[.bool false, .slice none 0 0, .bool false, .slice none 0 0] 27) := ⟨_, rfl⟩
  have hg1 := ag hW1
  have K1 := Lib.hid (ak4 hW1)
  have RC : Hid (RowP W1 w.heap.size 0 1 (fun _ => none)) := Lib.hid (by rw [hW1]; exact rowp_alloc w _)
  have HW1 := Lib.hid hW1
  clear hW1
  go_enter Tryz.func6, Tryz.ntmps6
  go_upto_region 1 with fail
  rw [← HW1.out]
  go_wp2_with (go_at_call 17; (with_reducible refine (O1.out _).mono ?_); (rintro e u5 ⟨v5, rfl, hv5, hb5⟩; obtain ⟨s5, a5, l5, c5, rfl⟩ := hv5.form; have HV5 := Lib.hid hv5; clear hv5 O1))
  go_wp2_with (go_at_call 17; (with_reducible refine (O2.out _).mono ?_); (rintro e u6 ⟨v6, rfl, hv6, hb6⟩; obtain ⟨s6, a6, l6, c6, rfl⟩ := hv6.form; have HV6 := Lib.hid hv6; clear hv6 O2; obtain ⟨q0, q1, q2, q3, qf, qz⟩ := K1.out u6 (by (repeat (first | with_reducible exact Grow.refl _ | with_reducible refine Grow.alloc ?_ _ | with_reducible refine Grow.drew ?_ | with_reducible refine Grow.drewN ?_ _ | (with_reducible refine Grow.setCell ?_ ?hp _; (case hp => (simp; try omega))) | with_reducible refine Grow.trans ?_ (by assumption))))))
  obtain ⟨h1, h2⟩ := rescell (w := w) (RC.out.grow (show Grow W1 u6 by (repeat (first | with_reducible exact Grow.refl _ | with_reducible refine Grow.alloc ?_ _ | with_reducible refine Grow.drew ?_ | with_reducible refine Grow.drewN ?_ _ | (with_reducible refine Grow.setCell ?_ ?hp _; (case hp => (simp; try omega))) | with_reducible refine Grow.trans ?_ (by assumption))))) (by omega) (hg1.trans (by (repeat (first | with_reducible exact Grow.refl _ | with_reducible refine Grow.alloc ?_ _ | with_reducible refine Grow.drew ?_ | with_reducible refine Grow.drewN ?_ _ | (with_reducible refine Grow.setCell ?_ ?hp _; (case hp => (simp; try omega))) | with_reducible refine Grow.trans ?_ (by assumption))))) (RatR.whole (HV5.out.grow (by (repeat (first | with_reducible exact Grow.refl _ | with_reducible refine Grow.alloc ?_ _ | with_reducible refine Grow.drew ?_ | with_reducible refine Grow.drewN ?_ _ | (with_reducible refine Grow.setCell ?_ ?hp _; (case hp => (simp; try omega))) | with_reducible refine Grow.trans ?_ (by assumption))))) HV6.out)
  exact bodyPost_ret (v := .agg #[.bool s5, .slice a5 l5 c5, .bool s6, .slice a6 l6 c6]) (by rw [results_one rfl]; go_simp) rfl ⟨_, rfl, h1, h2⟩
end Go.Proofs.YtbpkfcohbefphaaGreatDoor
namespace Go.Proofs.YtbpkfcohbefphaaGreatDoor
open Go Go.RowKit
set_option maxRecDepth 20000 in
set_option maxHeartbeats 8000000 in
theorem sameIntV (z : Int) (v1 v2 : Value) (w : World) (h1 : IntR w v1 z) (h2 : IntR w v2 z) :
    Calls Tryz.prog 31 #[v1, v2] w fun e w' => e = .returned (.bool true) ∧ Grow w w' := by
  obtain ⟨m1, rfl, h1⟩ := h1
  obtain ⟨m2, rfl, h2⟩ := h2
  generalize sgB z = s
  generalize z.natAbs = n at h1 h2
  rcases h1 with ⟨p0, a1, c1, rfl⟩ | ⟨p0, p1, b1, o1, c1, rfl, k1, q1, d1⟩
  · rcases h2 with ⟨-, a2, c2, rfl⟩ | ⟨p2, -⟩
    · go_enter Tryz.func31, Tryz.ntmps31
      go_wp2_with fail
      go_loopg [5] 0 (fun gk t5 wr => t5 = .int .i64 0 ∧ Hid (Grow w wr) ∧ wr.cell? ⟨w.heap.size, 0, none⟩ = some (.bool s) ∧ wr.cell? ⟨w.heap.size, 1, none⟩ = some (.slice a1 0 c1))
      case atStart =>
        refine ⟨rfl, Lib.hid (by (repeat (first | with_reducible exact Grow.refl _ | with_reducible refine Grow.alloc ?_ _ | with_reducible refine Grow.drew ?_ | with_reducible refine Grow.drewN ?_ _ | (with_reducible refine Grow.setCell ?_ ?hp _; (case hp => (simp; try omega))) | with_reducible refine Grow.trans ?_ (by assumption)))), by go_simp, by go_simp⟩
      case round =>
        obtain ⟨rfl, HG, x0, x1⟩ := hrel
        go_wp2_with fail
        go_ret
        exact ⟨rfl, HG.out⟩
    · omega
  · rcases h2 with ⟨p2, -⟩ | ⟨-, -, b2, o2, c2, rfl, k2, q2, d2⟩
    · omega
    · obtain ⟨W1, hW1⟩ : ∃ W1 : World, W1 = w.alloc (.cells #[.bool s, .slice (some ⟨b1, o1, none⟩) 1 c1] 25) := ⟨_, rfl⟩
      obtain ⟨W2, hW2⟩ : ∃ W2 : World, W2 = W1.alloc (.cells #[.bool s, .slice (some ⟨b2, o2, none⟩) 1 c2] 25) := ⟨_, rfl⟩
      have hg2 : Grow w W2 := (ag hW1).trans (ag hW2)
      have K1 := Lib.hid (fun u (hu : Grow W2 u) => ak2 hW1 u ((ag hW2).trans hu))
      have hz1 : W1.heap.size = w.heap.size + 1 := by rw [hW1]; simp
      have K2 := Lib.hid (ak2 hW2)
      rw [hz1] at K2
      have D1 := Lib.hid (fun u (hu : Grow W2 u) => ((hg2.trans hu).cells _ _ q1).trans d1)
      have D2 := Lib.hid (fun u (hu : Grow W2 u) => ((hg2.trans hu).cells _ _ q2).trans d2)
      have HW1 := Lib.hid hW1
      have HW2 := Lib.hid hW2
      have HG2 := Lib.hid hg2
      clear hW1 hW2 hg2 d1 d2 hz1
      go_enter Tryz.func31, Tryz.ntmps31
      go_upto_region 1 with fail
      rw [← HW1.out, ← HW2.out]
      obtain ⟨e0, e1, e2, e3⟩ := K1.out W2 (Grow.refl _)
      obtain ⟨f0, f1, f2, f3⟩ := K2.out W2 (Grow.refl _)
      go_wp2_with fail
      clear e0 e1 e2 e3 f0 f1 f2 f3
      go_loopg [5] 1 (fun gk t5 wr => ∃ j : Nat, t5 = .int .i64 (j : Int) ∧ j ≤ 1 ∧ Hid (gk = 1 - j) ∧ Hid (Grow W2 wr))
      case atStart => exact ⟨0, rfl, by omega, Lib.hid rfl, Lib.hid (by (repeat (first | with_reducible exact Grow.refl _ | with_reducible refine Grow.alloc ?_ _ | with_reducible refine Grow.drew ?_ | with_reducible refine Grow.drewN ?_ _ | (with_reducible refine Grow.setCell ?_ ?hp _; (case hp => (simp; try omega))) | with_reducible refine Grow.trans ?_ (by assumption))))⟩
      case round =>
        obtain ⟨j, rfl, hj, HGK, HG⟩ := hrel
        obtain ⟨e0, e1, e2, e3⟩ := K1.out wr HG.out
        obtain ⟨f0, f1, f2, f3⟩ := K2.out wr HG.out
        have d1 := D1.out wr HG.out
        have d2 := D2.out wr HG.out
        rcases (by omega : j = 0 ∨ j = 1) with rfl | rfl
        · go_upto_region 6 with fail
          go_quiet (fail)
          go_wp2_with fail
          go_roundg 0
          case measure => have := HGK.out; omega
          case rel => exact ⟨1, rfl, by omega, Lib.hid rfl, Lib.hid (HG.out.trans (by (repeat (first | with_reducible exact Grow.refl _ | with_reducible refine Grow.alloc ?_ _ | with_reducible refine Grow.drew ?_ | with_reducible refine Grow.drewN ?_ _ | (with_reducible refine Grow.setCell ?_ ?hp _; (case hp => (simp; try omega))) | with_reducible refine Grow.trans ?_ (by assumption)))))⟩
        · go_wp2_with fail
          go_ret
          exact ⟨rfl, HG2.out.trans (HG.out.trans (by (repeat (first | with_reducible exact Grow.refl _ | with_reducible refine Grow.alloc ?_ _ | with_reducible refine Grow.drew ?_ | with_reducible refine Grow.drewN ?_ _ | (with_reducible refine Grow.setCell ?_ ?hp _; (case hp => (simp; try omega))) | with_reducible refine Grow.trans ?_ (by assumption)))))⟩
set_option maxRecDepth 20000 in
set_option maxHeartbeats 8000000 in
theorem sameRatQ (x : Rat) (v1 v2 : Value) (w : World) (h1 : RatR w v1 x) (h2 : RatR w v2 x) :
    Calls Tryz.prog 10 #[v1, v2] w fun e w' => e = .returned (.bool true) ∧ Grow w w' := by
  obtain ⟨s1, a1, l1, c1, t1, b1, k1, e1, rfl⟩ := h1.form
  obtain ⟨s2, a2, l2, c2, t2, b2, k2, e2, rfl⟩ := h2.form
  have SN := Lib.hid (fun u (hu : Grow w u) => sameIntV _ _ _ u (h1.num.grow hu) (h2.num.grow hu))
  have SD := Lib.hid (fun u (hu : Grow w u) => sameIntV _ _ _ u (h1.den.grow hu) (h2.den.grow hu))
  clear h1 h2
  obtain ⟨W1, hW1⟩ : ∃ W1 : World, W1 = w.alloc (.cells #[.bool s1, .slice a1 l1 c1, .bool t1, .slice b1 k1 e1] 27) := ⟨_, rfl⟩
  obtain ⟨W2, hW2⟩ : ∃ W2 : World, W2 = W1.alloc (.cells #[.bool s2, .slice a2 l2 c2, .bool t2, .slice b2 k2 e2] 27) := ⟨_, rfl⟩
  have hg2 : Grow w W2 := (ag hW1).trans (ag hW2)
  have K1 := Lib.hid (fun u (hu : Grow W2 u) => ak4 hW1 u ((ag hW2).trans hu))
  have hz1 : W1.heap.size = w.heap.size + 1 := by rw [hW1]; simp
  have K2 := Lib.hid (ak4 hW2)
  rw [hz1] at K2
  have HW1 := Lib.hid hW1
  have HW2 := Lib.hid hW2
  clear hW1 hW2 hz1
  go_enter Tryz.func10, Tryz.ntmps10
  go_upto_region 1 with fail
  rw [← HW1.out, ← HW2.out]
  obtain ⟨x0, x1, x2, x3, x4, x5⟩ := K1.out W2 (Grow.refl _)
  obtain ⟨y0, y1, y2, y3, y4, y5⟩ := K2.out W2 (Grow.refl _)
  go_wp2_with (first
    | (go_at_call 31; (with_reducible refine (SN.out _ (by (repeat (first | with_reducible exact Grow.refl _ | with_reducible refine Grow.alloc ?_ _ | with_reducible refine Grow.drew ?_ | with_reducible refine Grow.drewN ?_ _ | (with_reducible refine Grow.setCell ?_ ?hp _; (case hp => (simp; try omega))) | with_reducible refine Grow.trans ?_ (by assumption))))).mono ?_); (rintro e u1 ⟨rfl, hb1⟩; obtain ⟨x0, x1, x2, x3, x4, x5⟩ := K1.out u1 (by (repeat (first | with_reducible exact Grow.refl _ | with_reducible refine Grow.alloc ?_ _ | with_reducible refine Grow.drew ?_ | with_reducible refine Grow.drewN ?_ _ | (with_reducible refine Grow.setCell ?_ ?hp _; (case hp => (simp; try omega))) | with_reducible refine Grow.trans ?_ (by assumption)))); obtain ⟨y0, y1, y2, y3, y4, y5⟩ := K2.out u1 (by (repeat (first | with_reducible exact Grow.refl _ | with_reducible refine Grow.alloc ?_ _ | with_reducible refine Grow.drew ?_ | with_reducible refine Grow.drewN ?_ _ | (with_reducible refine Grow.setCell ?_ ?hp _; (case hp => (simp; try omega))) | with_reducible refine Grow.trans ?_ (by assumption))))))
    | (go_at_call 31; (with_reducible refine (SD.out _ (by (repeat (first | with_reducible exact Grow.refl _ | with_reducible refine Grow.alloc ?_ _ | with_reducible refine Grow.drew ?_ | with_reducible refine Grow.drewN ?_ _ | (with_reducible refine Grow.setCell ?_ ?hp _; (case hp => (simp; try omega))) | with_reducible refine Grow.trans ?_ (by assumption))))).mono ?_); (rintro e u3 ⟨rfl, hb3⟩)))
  go_ret
  exact ⟨rfl, by (repeat (first | with_reducible exact Grow.refl _ | with_reducible refine Grow.alloc ?_ _ | with_reducible refine Grow.drew ?_ | with_reducible refine Grow.drewN ?_ _ | (with_reducible refine Grow.setCell ?_ ?hp _; (case hp => (simp; try omega))) | with_reducible refine Grow.trans ?_ (by assumption)))⟩
end Go.Proofs.YtbpkfcohbefphaaGreatDoor
