/- A list satisfies the condition as well with a matrix replaced by its negative, and in another order (determinants of at most 24). No condition. -/
import Derived.Test.YtalidpojcpmcbaaHcJ
import Derived.Test.YtalidpojcpmcbaaHcK
import Derived.Test.YtalidpojcpmcbaaHcM
namespace Go.Proofs.Ytalidpojcpmcbaa.turns
open Go Go.RowKit Go.ChangeShapes Go.WideShapes Go.ChangeAt

theorem walk_out (n : Int) (h : n < 1 ∨ 24 < n) (a : Option Addr) (len cap : Nat) (x : Int) (w : World) :
    Calls Try.prog 9 #[.int .i64 n, .slice a len cap, .int .u16 x] w fun ex w' => ex = .returned (.bool true) ∧ Grow w w' := by
  by_cases h1 : n < 1
  · go_enter Try.func9, Try.ntmps9
    go_wp2_with (go_at_call 11; refine (awake44_any _).mono ?_; rintro e w1 ⟨rfl, hb1⟩)
    go_ret
    exact ⟨rfl, hb1⟩
  · have h2 : 24 < n := by omega
    go_enter Try.func9, Try.ntmps9
    go_wp2_with (go_at_call 11; refine (awake44_any _).mono ?_; rintro e w1 ⟨rfl, hb1⟩)
    go_ret
    exact ⟨rfl, hb1⟩

set_option maxHeartbeats 2000000 in
theorem walk_in (n : Int) (h1 : 1 ≤ n) (h2 : n ≤ 24) (l : List Int) (a : Option Addr) (len cap : Nat) (x : Nat) (hx : x ≤ 65535) (M : List M2) (hM0 : 0 < M.length) (hM1 : M.length ≤ 2600) (hS : Hid (SatP n M)) (hI : Hid (∀ m ∈ M, ChInv n m))
    (X : Hid (∀ w v, RdInts w v l → Calls Try.prog 20 #[.int .i64 n, v] w fun e w' => ∃ v, e = .returned (.tuple #[v, .int .i64 0]) ∧ OwnMats w' w.heap.size v M ∧ Grow w w')) (w : World) (hv : Hid (RdInts w (.slice a len cap) l)) :
    Calls Try.prog 9 #[.int .i64 n, .slice a len cap, .int .u16 x] w fun ex w' => ex = .returned (.bool true) ∧ Grow w w' := by
  have k1 : ¬ n < 1 := by omega
  have k2 : ¬ 24 < n := by omega
  obtain ⟨i, hi⟩ : ∃ i, x % M.length = i := ⟨_, rfl⟩
  have hil : i < M.length := by rw [← hi]; exact Nat.mod_lt _ hM0
  have hm1 : ((x : Int)).tmod (M.length : Int) = i := by rw [← hi]; exact (Int.ofNat_tmod x M.length).symm
  have hm2 : ((x : Int)) % (M.length : Int) = i := by rw [← hi]; exact (Int.natCast_emod x M.length).symm
  have z1 : ¬ (M.length : Int) = 0 := by omega
  have z2 : ((M.length : Int) == 0) = false := by simpa using z1
  have z3 : (0 : Int) ≤ i := by omega
  have z4 : (i : Int) < M.length := by omega
  have z5 : (0 : Int) < M.length := by omega
  have y1 : IntKind.i64.wrap (i : Int) = i := IntWalk.i64_in _ (by omega)
  have y2 : IntKind.i64.wrap (x : Int) = x := IntWalk.i64_in _ (by omega)
  have HT := Lib.hid (turns_sat hS.out hil)
  have hinv := hI.out _ (getD_mem hil)
  obtain ⟨m, hm⟩ : ∃ m, M.getD i M2.zero = m := ⟨_, rfl⟩
  obtain ⟨m0, hm0⟩ : ∃ m0, M.getD 0 M2.zero = m0 := ⟨_, rfl⟩
  rw [hm] at hinv
  rw [hm, hm0] at HT
  have HM := Lib.hid hm
  have HM0 := Lib.hid hm0
  obtain ⟨-, b1, b2, b3, b4⟩ := hinv
  have q1 : IntKind.i64.wrap (-m.a) = -m.a := IntWalk.i64_in _ (by omega)
  have q2 : IntKind.i64.wrap (-m.b) = -m.b := IntWalk.i64_in _ (by omega)
  have q3 : IntKind.i64.wrap (-m.c) = -m.c := IntWalk.i64_in _ (by omega)
  have q4 : IntKind.i64.wrap (-m.d) = -m.d := IntWalk.i64_in _ (by omega)
  have HIL := Lib.hid hil
  have HML := Lib.hid hM0
  have HM1 := Lib.hid hM1
  clear hi hil hm hm0 hM0 hM1 b1 b2 b3 b4 hx
  go_enter Try.func9, Try.ntmps9
  go_wp2_with fail
  go_at_call 11
  refine (awake44_any _).mono ?_
  rintro e w1 ⟨rfl, hb1⟩
  have HG1 := Lib.hid hb1
  clear hb1
  go_wp2_with fail
  go_at_call 20
  refine (X.out _ _ (hv.out.grow HG1.out)).mono ?_
  rintro e w2 ⟨v2, rfl, ho2, hb2⟩
  obtain ⟨g, cp, rfl, hgb, row, hcap⟩ := RowM.of_own ho2 HML.out
  have hgw : w.heap.size ≤ g := Nat.le_trans HG1.out.size hgb
  have HG2 := Lib.hid (HG1.out.trans hb2)
  have HROW := Lib.hid row
  have HCAP := Lib.hid hcap
  obtain ⟨c0, c1, c2, c3⟩ := row.cells i HIL.out
  obtain ⟨d0, d1, d2, d3⟩ := row.cells 0 HML.out
  rw [HM.out] at c0 c1 c2 c3
  rw [HM0.out] at d0 d1 d2 d3
  simp only [Nat.zero_mul, Nat.zero_add] at c0 c1 c2 c3 d0 d1 d2 d3
  have hf := row.free
  have hlt := row.lt
  clear ho2 hb2 hgb row hcap HG1 X hI hS
  go_upto_region 10 with fail
  have hr1 : RowM (w2.alloc (.cells #[.int .i64 m.a, .int .i64 m.b, .int .i64 m.c, .int .i64 m.d] 39)) g M := HROW.out.grow ((Grow.refl _).alloc _)
  have hg1 := HG2.out.alloc (.cells #[.int .i64 m.a, .int .i64 m.b, .int .i64 m.c, .int .i64 m.d] 39)
  have hB : g ≠ w2.heap.size := by omega
  have e0 : (w2.alloc (.cells #[.int .i64 m.a, .int .i64 m.b, .int .i64 m.c, .int .i64 m.d] 39)).cell? ⟨w2.heap.size, 0, none⟩ = some (.int .i64 m.a) := by go_simp
  have e1 : (w2.alloc (.cells #[.int .i64 m.a, .int .i64 m.b, .int .i64 m.c, .int .i64 m.d] 39)).cell? ⟨w2.heap.size, 1, none⟩ = some (.int .i64 m.b) := by go_simp
  have e2 : (w2.alloc (.cells #[.int .i64 m.a, .int .i64 m.b, .int .i64 m.c, .int .i64 m.d] 39)).cell? ⟨w2.heap.size, 2, none⟩ = some (.int .i64 m.c) := by go_simp
  have e3 : (w2.alloc (.cells #[.int .i64 m.a, .int .i64 m.b, .int .i64 m.c, .int .i64 m.d] 39)).cell? ⟨w2.heap.size, 3, none⟩ = some (.int .i64 m.d) := by go_simp
  clear c0 c1 c2 c3 d0 d1 d2 d3 hf HROW HG2
  generalize w2.alloc (.cells #[.int .i64 m.a, .int .i64 m.b, .int .i64 m.c, .int .i64 m.d] 39) = W at *
  generalize w2.heap.size = B at *
  obtain ⟨c0, c1, c2, c3⟩ := hr1.cells i HIL.out
  obtain ⟨d0, d1, d2, d3⟩ := hr1.cells 0 HML.out
  rw [HM.out] at c0 c1 c2 c3
  rw [HM0.out] at d0 d1 d2 d3
  simp only [Nat.zero_mul, Nat.zero_add] at c0 c1 c2 c3 d0 d1 d2 d3
  have hf := hr1.free
  have HR1 := Lib.hid hr1
  have HG1 := Lib.hid hg1
  clear hr1 hg1
  go_upto_region 11 with fail
  have hr2 : RowM ((((W.setCell ⟨g, i * 4, none⟩ (.int .i64 m0.a)).setCell ⟨g, i * 4 + 1, none⟩ (.int .i64 m0.b)).setCell ⟨g, i * 4 + 2, none⟩ (.int .i64 m0.c)).setCell ⟨g, i * 4 + 3, none⟩ (.int .i64 m0.d)) g (M.set i m0) := HR1.out.set HIL.out m0
  have hg2 : Grow w ((((W.setCell ⟨g, i * 4, none⟩ (.int .i64 m0.a)).setCell ⟨g, i * 4 + 1, none⟩ (.int .i64 m0.b)).setCell ⟨g, i * 4 + 2, none⟩ (.int .i64 m0.c)).setCell ⟨g, i * 4 + 3, none⟩ (.int .i64 m0.d)) := (((HG1.out.setCell (p := ⟨g, i * 4, none⟩) hgw _).setCell (p := ⟨g, i * 4 + 1, none⟩) hgw _).setCell (p := ⟨g, i * 4 + 2, none⟩) hgw _).setCell (p := ⟨g, i * 4 + 3, none⟩) hgw _
  have E0 : ((((W.setCell ⟨g, i * 4, none⟩ (.int .i64 m0.a)).setCell ⟨g, i * 4 + 1, none⟩ (.int .i64 m0.b)).setCell ⟨g, i * 4 + 2, none⟩ (.int .i64 m0.c)).setCell ⟨g, i * 4 + 3, none⟩ (.int .i64 m0.d)).cell? ⟨B, 0, none⟩ = some (.int .i64 m.a) := by rw [World.cell?_setCell_far _ _ _ _ hB, World.cell?_setCell_far _ _ _ _ hB, World.cell?_setCell_far _ _ _ _ hB, World.cell?_setCell_far _ _ _ _ hB]; exact e0
  have E1 : ((((W.setCell ⟨g, i * 4, none⟩ (.int .i64 m0.a)).setCell ⟨g, i * 4 + 1, none⟩ (.int .i64 m0.b)).setCell ⟨g, i * 4 + 2, none⟩ (.int .i64 m0.c)).setCell ⟨g, i * 4 + 3, none⟩ (.int .i64 m0.d)).cell? ⟨B, 1, none⟩ = some (.int .i64 m.b) := by rw [World.cell?_setCell_far _ _ _ _ hB, World.cell?_setCell_far _ _ _ _ hB, World.cell?_setCell_far _ _ _ _ hB, World.cell?_setCell_far _ _ _ _ hB]; exact e1
  have E2 : ((((W.setCell ⟨g, i * 4, none⟩ (.int .i64 m0.a)).setCell ⟨g, i * 4 + 1, none⟩ (.int .i64 m0.b)).setCell ⟨g, i * 4 + 2, none⟩ (.int .i64 m0.c)).setCell ⟨g, i * 4 + 3, none⟩ (.int .i64 m0.d)).cell? ⟨B, 2, none⟩ = some (.int .i64 m.c) := by rw [World.cell?_setCell_far _ _ _ _ hB, World.cell?_setCell_far _ _ _ _ hB, World.cell?_setCell_far _ _ _ _ hB, World.cell?_setCell_far _ _ _ _ hB]; exact e2
  have E3 : ((((W.setCell ⟨g, i * 4, none⟩ (.int .i64 m0.a)).setCell ⟨g, i * 4 + 1, none⟩ (.int .i64 m0.b)).setCell ⟨g, i * 4 + 2, none⟩ (.int .i64 m0.c)).setCell ⟨g, i * 4 + 3, none⟩ (.int .i64 m0.d)).cell? ⟨B, 3, none⟩ = some (.int .i64 m.d) := by rw [World.cell?_setCell_far _ _ _ _ hB, World.cell?_setCell_far _ _ _ _ hB, World.cell?_setCell_far _ _ _ _ hB, World.cell?_setCell_far _ _ _ _ hB]; exact e3
  clear c0 c1 c2 c3 d0 d1 d2 d3 hf e0 e1 e2 e3 HR1 HG1
  generalize ((((W.setCell ⟨g, i * 4, none⟩ (.int .i64 m0.a)).setCell ⟨g, i * 4 + 1, none⟩ (.int .i64 m0.b)).setCell ⟨g, i * 4 + 2, none⟩ (.int .i64 m0.c)).setCell ⟨g, i * 4 + 3, none⟩ (.int .i64 m0.d)) = W2 at *
  have hl2 : 0 < (M.set i m0).length := by rw [List.length_set]; exact HML.out
  obtain ⟨d0, d1, d2, d3⟩ := hr2.cells 0 hl2
  obtain ⟨z, hz⟩ : ∃ z, (M.set i m0).getD 0 M2.zero = z := ⟨_, rfl⟩
  rw [hz] at d0 d1 d2 d3
  simp only [Nat.zero_mul, Nat.zero_add] at d0 d1 d2 d3
  have hf := hr2.free
  have HR2 := Lib.hid hr2
  have HG2 := Lib.hid hg2
  have HL2 := Lib.hid hl2
  clear hr2 hg2 hz hl2
  go_wp2_with fail
  have hr3 : RowM ((((W2.setCell ⟨g, 0, none⟩ (.int .i64 (-m.a))).setCell ⟨g, 1, none⟩ (.int .i64 (-m.b))).setCell ⟨g, 2, none⟩ (.int .i64 (-m.c))).setCell ⟨g, 3, none⟩ (.int .i64 (-m.d))) g ((M.set i m0).set 0 (negM m)) := HR2.out.set HL2.out (negM m)
  have hg3 : Grow w ((((W2.setCell ⟨g, 0, none⟩ (.int .i64 (-m.a))).setCell ⟨g, 1, none⟩ (.int .i64 (-m.b))).setCell ⟨g, 2, none⟩ (.int .i64 (-m.c))).setCell ⟨g, 3, none⟩ (.int .i64 (-m.d))) := (((HG2.out.setCell (p := ⟨g, 0, none⟩) hgw _).setCell (p := ⟨g, 1, none⟩) hgw _).setCell (p := ⟨g, 2, none⟩) hgw _).setCell (p := ⟨g, 3, none⟩) hgw _
  have hlen : ((M.set i m0).set 0 (negM m)).length = M.length := by rw [List.length_set, List.length_set]
  have hrd := hr3.rd (cap := cp) (by rw [hlen]; exact HCAP.out)
  rw [hlen] at hrd
  go_at_call 18
  refine (satisfies_any n _ _ (by rw [hlen]; have := HM1.out; omega) true (iff_of_true rfl HT.out) _ hrd).mono ?_
  rintro e w9 ⟨rfl, hb9⟩
  have HG9 := Lib.hid (hg3.trans hb9)
  clear hb9 hg3 hr3 hrd
  go_wp2_with fail
  go_ret
  exact ⟨rfl, HG9.out⟩
theorem chF_pos {n : Int} (h1 : 1 ≤ n) (l : List Int) : 0 < (chF l n).length := by
  unfold chF
  rw [chA_step (show (1 : Int) ≤ n from h1) (by simp), cB_step (by decide)]
  simp
theorem walk (n : Int) (_ : -9223372036854775808 ≤ n ∧ n ≤ 9223372036854775807) (l : List Int) (v : Value) (hl : l.length ≤ 17592186044416) (x : Int) (hx : 0 ≤ x ∧ x ≤ 65535) (w : World) (hv : RdInts w v l) : Calls Try.prog 9 #[.int .i64 n, v, .int .u16 x] w fun ex w' => ex = .returned (.bool true) ∧ Grow w w' := by
  obtain ⟨a, cap, rfl⟩ := hv.form
  by_cases h : n < 1 ∨ 24 < n
  · exact walk_out n h a _ cap x w
  · have h1 : 1 ≤ n := by omega
    have h2 : n ≤ 24 := by omega
    obtain ⟨k, rfl⟩ : ∃ k : Nat, x = k := ⟨x.toNat, by omega⟩
    refine walk_in n h1 h2 l a _ cap k (by omega) (chF l n) (chF_pos h1 l) (chF_short h1 h2 l) (Lib.hid (chF_sat h1 h2 l)) (Lib.hid (chF_inv h1 h2 l)) (Lib.hid fun w v hr => ?_) w (Lib.hid hv)
    exact chains_core n l v h1 h2 _ (Lib.hid rfl) (chF_len l n) (by omega) w hr

set_option maxRecDepth 100000 in
theorem lifted (os : Os) (started : os.Started) (H : Type) (enc : TypeId × Value → H) :
    ReturnsInHanded {} Try.checked os 9 .any (Rows.heilbronnTurnsSpec.pre6 enc Try.prog Try.f9 Rows.heilbronnTurnsRow.domain false) (Rows.heilbronnTurnsSpec.post enc Try.prog Try.f9 false true false false) := by
  refine returnsInHanded_of_change_sized (C := Try.checked) own started (by kernel_rfl) Try.func9
    (ChangeSpec.witness6 (enc := enc) (C := Try.checked) false ⟨#[], #[.int .i64 0, .slice none 0 0, .int .u16 0], []⟩ 8 (by kernel_rfl) (by kernel_rfl) (by kernel_rfl) (by kernel_rfl)) ?_
  intro W base args ds gs before hval0 hW hcnd hsz0 _
  have hval : ∀ (j : Nat) t v, Try.f9.params[j]? = some t → args[j]? = some v → Value.okWide Try.prog W .any base t v := hval0
  have hW' := hW
  obtain ⟨p, q, hA0, hV, rfl, -, -⟩ := hW
  have hA : DataW.TrodAll enc Try.prog W 0 (fun _ => true) true Try.f9.params.toList args.toList ds p := hA0
  have hsz : (DataW.weightsEach Try.prog (Try.f9.params.toList ++ Rows.heilbronnTurnsSpec.plain.varTypes Try.prog) (ds ++ gs)).all (· ≤ reachBytes) = true := hsz0
  rw [Try.params9] at hA hval hsz
  obtain ⟨v0, vs0, d0, ds0, p0, q0, hargs, rfl, rfl, h0, r0⟩ := trodAll_cons hA
  obtain ⟨v1, vs1, d1, ds1, p1, q1, rfl, rfl, rfl, h1, r1⟩ := trodAll_cons r0
  obtain ⟨v2, vs2, d2, ds2, p2, q2, rfl, rfl, rfl, h2, r2⟩ := trodAll_cons r1
  obtain ⟨rfl, rfl, rfl⟩ := trodAll_nil r2
  obtain rfl : args = #[v0, v1, v2] := by cases args; simp_all
  obtain ⟨rfl, rfl⟩ := trodVars_none hV
  obtain ⟨a0, rfl, rfl, -, b0⟩ := open_int Try.underlying3 (hval 0 3 v0 rfl rfl) h0
  have c0 := bounds_i64 b0
  obtain ⟨l1, c1, b1⟩ := open_list_sized (fun el sp e => sized_slice hsz (j := 1) rfl (by rw [e]; rfl) Try.underlying32) (hval 1 32 v1 rfl rfl) h1
  obtain ⟨a2, rfl, rfl, -, b2⟩ := open_int Try.underlying36 (hval 2 36 v2 rfl rfl) h2
  have c2 := bounds_u16 b2
  clear hA0 hval0
  refine (walk a0 c0 l1 v1 b1 a2 c2 W c1).mono fun e W' ⟨he, hg⟩ => ?_
  subst he
  exact ⟨_, rfl, law_post 4 rfl Try.underlying4 laidOut (of_decide_eq_true (by kernel_rfl)) rfl hW' rfl hg⟩

theorem over : Rows.heilbronnTurnsRow.holds Try.pinned (OpenSpec.ofChange Rows.heilbronnTurnsSpec) :=
  OpenClaim.holds_of_wide 9 Try.f9 rfl rfl rfl rfl rfl rfl rfl ⟨rfl, rfl, rfl, rfl, rfl⟩ rfl rfl rfl rfl rfl (by kernel_rfl) Try.func9 (by kernel_rfl)
    (of_decide_eq_true (by kernel_rfl)) (by unfold Func.isWrapper; rw [if_neg (by decide +kernel)]; exact ⟨rfl, rfl⟩)
    (fun os started H enc _ => lifted os started H enc)

theorem proved : Rows.HeilbronnTurnsSaid := over
end Go.Proofs.Ytalidpojcpmcbaa.turns
