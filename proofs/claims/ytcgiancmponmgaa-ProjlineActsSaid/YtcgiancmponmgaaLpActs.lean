/- Acting by a product is acting by the first matrix and then by the second one, and the unit matrix moves no point. No condition: every input. -/
import Derived.Test.YtcgiancmponmgaaPkJ
import Derived.Test.YtcgiancmponmgaaPlZ
import Derived.Test.YtcgiancmponmgaaSlB
namespace Go.Proofs.Ytcgiancmponmgaa.acts
open Go Go.RowKit Go.ChangeShapes Go.WideShapes Go.ChangeAt

open Go.Joins Go.Deep in
theorem trod_four {H : Type} {enc : TypeId × Value → H} {P : Program} {w : World} {base : Nat} {spare : Nat → Bool} {held : Bool} {m : Nat} {t : TypeId} {f0 f1 f2 f3 : Field} {c0 c1 c2 c3 : Value} {x : DataW H × List MemPlace}
    (hs : P.underlying t = some (.struct #[f0, f1, f2, f3])) (hone : oneCellFields P #[f0, f1, f2, f3] = true) (hf : DataW.trod enc P w base spare held m t [c0, c1, c2, c3] = some x) :
    ∃ (y0 y1 y2 y3 : DataW H × List MemPlace) (n : Nat), DataW.trod enc P w base spare held n f0.type [c0] = some y0 ∧ DataW.trod enc P w base spare held n f1.type [c1] = some y1 ∧ DataW.trod enc P w base spare held n f2.type [c2] = some y2 ∧ DataW.trod enc P w base spare held n f3.type [c3] = some y3 := by
  obtain ⟨y0, y1, y2, y3, n, -, -, h0, h1, h2, h3⟩ := trod_struct4 hs hf
  obtain ⟨o0, k0⟩ := hone_of hone 0 f0 rfl
  obtain ⟨o1, k1⟩ := hone_of hone 1 f1 rfl
  obtain ⟨o2, k2⟩ := hone_of hone 2 f2 rfl
  obtain ⟨o3, k3⟩ := hone_of hone 3 f3 rfl
  exact ⟨y0, y1, y2, y3, n, by simpa [o0, k0] using h0, by simpa [o1, k1] using h1, by simpa [o2, k2] using h2, by simpa [o3, k3] using h3⟩
theorem open_m4 {H : Type} {enc : TypeId × Value → H} {w : World} {base : Nat} {spare : Nat → Bool} {held : Bool} {m : Nat} {c0 c1 c2 c3 : Value} {x : DataW H × List MemPlace}
    (hf : DataW.trod enc Try.prog w base spare held m 47 [c0, c1, c2, c3] = some x) : ∃ z : M2, c0 = .int .i64 z.a ∧ c1 = .int .i64 z.b ∧ c2 = .int .i64 z.c ∧ c3 = .int .i64 z.d := by
  obtain ⟨y0, y1, y2, y3, n, h0, h1, h2, h3⟩ := trod_four Try.underlying47 (by kernel_rfl) hf
  obtain ⟨a, e0, -, -⟩ := DataW.trod_int Try.underlying3 h0
  obtain ⟨b, e1, -, -⟩ := DataW.trod_int Try.underlying3 h1
  obtain ⟨c, e2, -, -⟩ := DataW.trod_int Try.underlying3 h2
  obtain ⟨d, e3, -, -⟩ := DataW.trod_int Try.underlying3 h3
  simp at e0 e1 e2 e3
  exact ⟨⟨a, b, c, d⟩, e0, e1, e2, e3⟩
theorem cells_m2 : Try.prog.cellsOf 47 = 4 := by kernel_rfl
theorem cells_arr2 : Try.prog.cellsOf 53 = 8 := by kernel_rfl
theorem open_mat2 {H : Type} {enc : TypeId × Value → H} {w : World} {r : Reach} {b0 : Nat} {v : Value} {d : DataW H} {p : List MemPlace} {base : Nat} {spare : Nat → Bool} {held : Bool}
    (hv : Value.okWide Try.prog w r b0 53 v) (h : DataW.Trod enc Try.prog w base spare held 53 v d p) : ∃ x y : M2, v = .agg #[.int .i64 x.a, .int .i64 x.b, .int .i64 x.c, .int .i64 x.d, .int .i64 y.a, .int .i64 y.b, .int .i64 y.c, .int .i64 y.d] ∧ True ∧ True := by
  simp only [Value.okWide, Try.underlying53] at hv
  obtain ⟨cs, rfl, h2, -⟩ := hv
  have h2' : cs.size = 8 := by rw [h2, cells_arr2]
  obtain ⟨c0, c1, c2, c3, c4, c5, c6, c7, rfl⟩ : ∃ c0 c1 c2 c3 c4 c5 c6 c7, cs = #[c0, c1, c2, c3, c4, c5, c6, c7] := by
    obtain ⟨l⟩ := cs
    match l, h2' with
    | [a, b, c, d, e, f, g, h], _ => exact ⟨a, b, c, d, e, f, g, h, rfl⟩
  obtain ⟨fuel, hf⟩ := h
  cases fuel with
  | zero => simp [DataW.trod] at hf
  | succ m =>
    rw [DataW.trod_step] at hf
    unfold DataW.trodStep at hf
    simp [Try.underlying53, Value.cells, cells_m2, List.range_succ, Option.bind_eq_some_iff] at hf
    obtain ⟨-, a, q, ha, ys, ⟨a2, q2, hb, -⟩, -, -⟩ := hf
    obtain ⟨x, rfl, rfl, rfl, rfl⟩ := open_m4 ha
    obtain ⟨y, rfl, rfl, rfl, rfl⟩ := open_m4 hb
    exact ⟨x, y, rfl, trivial, trivial⟩
set_option maxRecDepth 20000 in
set_option maxHeartbeats 4000000 in
theorem walk (n : Int) (_hn : -9223372036854775808 ≤ n ∧ n ≤ 9223372036854775807) (i : Int) (_hi : -9223372036854775808 ≤ i ∧ i ≤ 9223372036854775807) (x y : M2) (w : World) :
    Calls Try.prog 9 #[.int .i64 n, .int .i64 i, .agg #[.int .i64 x.a, .int .i64 x.b, .int .i64 x.c, .int .i64 x.d, .int .i64 y.a, .int .i64 y.b, .int .i64 y.c, .int .i64 y.d]] w fun e w' => e = .returned (.bool true) ∧ Grow w w' := by
  clear _hn _hi
  have AW := Lib.hid (fun u => awake21_any u)
  have A1 := Lib.hid (fun u => act_any n i ⟨1, 0, 0, 1⟩ u)
  by_cases h0 : (ptR n i).2 = 0
  · rw [act_one h0] at A1
    have A2 := Lib.hid (fun u => act_any n i x u)
    have ML := Lib.hid (fun u => mul_any x y u)
    obtain ⟨k, er, hk⟩ : ∃ k er, actR n i x = (k, er) := ⟨_, _, rfl⟩
    rw [hk] at A2
    by_cases he : er = 0
    · subst he
      by_cases hxy : x.fits = true ∧ y.fits = true ∧ (x.times y).fits = true
      · obtain ⟨fx, fy, fp⟩ := hxy
        have hm : mulF x y = (x.times y, 0) := by simp [mulF, fx, fy, fp]
        rw [hm] at ML
        have hp := act_prod (n := n) (i := i) (m0 := x) (m1 := y) (by rw [hk]) fy fp
        rw [hk] at hp
        have A3 := Lib.hid (fun u => act_any n k y u)
        have A4 := Lib.hid (fun u => act_any n i (x.times y) u)
        obtain ⟨z, hz⟩ : ∃ z, x.times y = z := ⟨_, rfl⟩
        simp only at hp
        rw [hz] at ML A4 hp
        rw [hp] at A3
        obtain ⟨q, er, hq⟩ : ∃ q er, actR n i z = (q, er) := ⟨_, _, rfl⟩
        rw [hq] at A3 A4
        clear hk hp hq hz hm fx fy fp h0
        go_enter Try.func9, Try.ntmps9
        go_wp2_with fail
        go_at_call 12
        refine (AW.out _).mono ?_
        rintro e w1 ⟨rfl, hb⟩
        have hz := hb.size
        (try simp at hz)
        have hzw1 : w.heap.size < w1.heap.size := by omega
        have c0 : w1.cell? ⟨w.heap.size, 0, none⟩ = some (.int .i64 x.a) := by rw [hb.cells _ _ (by simp)]; go_simp
        have c1 : w1.cell? ⟨w.heap.size, 1, none⟩ = some (.int .i64 x.b) := by rw [hb.cells _ _ (by simp)]; go_simp
        have c2 : w1.cell? ⟨w.heap.size, 2, none⟩ = some (.int .i64 x.c) := by rw [hb.cells _ _ (by simp)]; go_simp
        have c3 : w1.cell? ⟨w.heap.size, 3, none⟩ = some (.int .i64 x.d) := by rw [hb.cells _ _ (by simp)]; go_simp
        have c4 : w1.cell? ⟨w.heap.size, 4, none⟩ = some (.int .i64 y.a) := by rw [hb.cells _ _ (by simp)]; go_simp
        have c5 : w1.cell? ⟨w.heap.size, 5, none⟩ = some (.int .i64 y.b) := by rw [hb.cells _ _ (by simp)]; go_simp
        have c6 : w1.cell? ⟨w.heap.size, 6, none⟩ = some (.int .i64 y.c) := by rw [hb.cells _ _ (by simp)]; go_simp
        have c7 : w1.cell? ⟨w.heap.size, 7, none⟩ = some (.int .i64 y.d) := by rw [hb.cells _ _ (by simp)]; go_simp
        have HBw1 := Lib.hid (Grow.trans (Grow.alloc (Grow.refl w) _) hb)
        clear hb hz
        go_wp2_with fail
        go_at_call 21
        refine (A1.out _).mono ?_
        rintro e w2 ⟨rfl, hb⟩
        have hz := hb.size
        (try simp at hz)
        have hzw2 : w.heap.size < w2.heap.size := by omega
        have d0 : w2.cell? ⟨w.heap.size, 0, none⟩ = some (.int .i64 x.a) := (hb.cells _ _ hzw1).trans c0
        have d1 : w2.cell? ⟨w.heap.size, 1, none⟩ = some (.int .i64 x.b) := (hb.cells _ _ hzw1).trans c1
        have d2 : w2.cell? ⟨w.heap.size, 2, none⟩ = some (.int .i64 x.c) := (hb.cells _ _ hzw1).trans c2
        have d3 : w2.cell? ⟨w.heap.size, 3, none⟩ = some (.int .i64 x.d) := (hb.cells _ _ hzw1).trans c3
        have d4 : w2.cell? ⟨w.heap.size, 4, none⟩ = some (.int .i64 y.a) := (hb.cells _ _ hzw1).trans c4
        have d5 : w2.cell? ⟨w.heap.size, 5, none⟩ = some (.int .i64 y.b) := (hb.cells _ _ hzw1).trans c5
        have d6 : w2.cell? ⟨w.heap.size, 6, none⟩ = some (.int .i64 y.c) := (hb.cells _ _ hzw1).trans c6
        have d7 : w2.cell? ⟨w.heap.size, 7, none⟩ = some (.int .i64 y.d) := (hb.cells _ _ hzw1).trans c7
        have HBw2 := Lib.hid (HBw1.out.trans hb)
        clear hb hz
        clear c0 c1 c2 c3 c4 c5 c6 c7
        go_wp2_with fail
        go_at_call 21
        refine (A2.out _).mono ?_
        rintro e w3 ⟨rfl, hb⟩
        have hz := hb.size
        (try simp at hz)
        have hzw3 : w.heap.size < w3.heap.size := by omega
        have c0 : w3.cell? ⟨w.heap.size, 0, none⟩ = some (.int .i64 x.a) := (hb.cells _ _ hzw2).trans d0
        have c1 : w3.cell? ⟨w.heap.size, 1, none⟩ = some (.int .i64 x.b) := (hb.cells _ _ hzw2).trans d1
        have c2 : w3.cell? ⟨w.heap.size, 2, none⟩ = some (.int .i64 x.c) := (hb.cells _ _ hzw2).trans d2
        have c3 : w3.cell? ⟨w.heap.size, 3, none⟩ = some (.int .i64 x.d) := (hb.cells _ _ hzw2).trans d3
        have c4 : w3.cell? ⟨w.heap.size, 4, none⟩ = some (.int .i64 y.a) := (hb.cells _ _ hzw2).trans d4
        have c5 : w3.cell? ⟨w.heap.size, 5, none⟩ = some (.int .i64 y.b) := (hb.cells _ _ hzw2).trans d5
        have c6 : w3.cell? ⟨w.heap.size, 6, none⟩ = some (.int .i64 y.c) := (hb.cells _ _ hzw2).trans d6
        have c7 : w3.cell? ⟨w.heap.size, 7, none⟩ = some (.int .i64 y.d) := (hb.cells _ _ hzw2).trans d7
        have HBw3 := Lib.hid (HBw2.out.trans hb)
        clear hb hz
        clear d0 d1 d2 d3 d4 d5 d6 d7
        go_wp2_with fail
        go_at_call 25
        refine (ML.out _).mono ?_
        rintro e w4 ⟨rfl, hb⟩
        have hz := hb.size
        have hzw4 : w.heap.size < w4.heap.size := by omega
        have d0 : w4.cell? ⟨w.heap.size, 0, none⟩ = some (.int .i64 x.a) := (hb.cells _ _ hzw3).trans c0
        have d1 : w4.cell? ⟨w.heap.size, 1, none⟩ = some (.int .i64 x.b) := (hb.cells _ _ hzw3).trans c1
        have d2 : w4.cell? ⟨w.heap.size, 2, none⟩ = some (.int .i64 x.c) := (hb.cells _ _ hzw3).trans c2
        have d3 : w4.cell? ⟨w.heap.size, 3, none⟩ = some (.int .i64 x.d) := (hb.cells _ _ hzw3).trans c3
        have d4 : w4.cell? ⟨w.heap.size, 4, none⟩ = some (.int .i64 y.a) := (hb.cells _ _ hzw3).trans c4
        have d5 : w4.cell? ⟨w.heap.size, 5, none⟩ = some (.int .i64 y.b) := (hb.cells _ _ hzw3).trans c5
        have d6 : w4.cell? ⟨w.heap.size, 6, none⟩ = some (.int .i64 y.c) := (hb.cells _ _ hzw3).trans c6
        have d7 : w4.cell? ⟨w.heap.size, 7, none⟩ = some (.int .i64 y.d) := (hb.cells _ _ hzw3).trans c7
        have HBw4 := Lib.hid (HBw3.out.trans hb)
        clear hb hz c0 c1 c2 c3 c4 c5 c6 c7
        go_wp2_with fail
        go_at_call 21
        refine (A3.out _).mono ?_
        rintro e w5 ⟨rfl, hb⟩
        have hz := hb.size
        (try simp at hz)
        have hz5 : w4.heap.size < w5.heap.size := by omega
        have k0 : w5.cell? ⟨w4.heap.size, 0, none⟩ = some (.int .i64 z.a) := by rw [hb.cells _ _ (by simp)]; go_simp
        have k1 : w5.cell? ⟨w4.heap.size, 1, none⟩ = some (.int .i64 z.b) := by rw [hb.cells _ _ (by simp)]; go_simp
        have k2 : w5.cell? ⟨w4.heap.size, 2, none⟩ = some (.int .i64 z.c) := by rw [hb.cells _ _ (by simp)]; go_simp
        have k3 : w5.cell? ⟨w4.heap.size, 3, none⟩ = some (.int .i64 z.d) := by rw [hb.cells _ _ (by simp)]; go_simp
        go_wp2_with fail
        go_at_call 21
        refine (A4.out _).mono ?_
        rintro e w6 ⟨rfl, hb6⟩
        go_wp2_with fail
        go_ret
        exact ⟨rfl, by have h2 := HBw4.out; (repeat (first | with_reducible exact Grow.refl _ | with_reducible refine Grow.alloc ?_ _ | with_reducible refine Grow.drew ?_ | with_reducible refine Grow.drewN ?_ _ | (with_reducible refine Grow.setCell ?_ ?hp _; (case hp => (simp; try omega))) | with_reducible refine Grow.trans ?_ (by assumption)))⟩
      · obtain ⟨zz, er, hm, he⟩ : ∃ zz er, mulF x y = (zz, er) ∧ er ≠ 0 := by
          by_cases fx : x.fits = true
          · by_cases fy : y.fits = true
            · have fp : (x.times y).fits = false := by
                cases hq : (x.times y).fits
                · rfl
                · exact absurd ⟨fx, fy, hq⟩ hxy
              exact ⟨M2.zero, 7, by simp [mulF, fx, fy, fp], by omega⟩
            · exact ⟨M2.zero, 2, by simp [mulF, fx, fy], by omega⟩
          · exact ⟨M2.zero, 2, by simp [mulF, fx], by omega⟩
        rw [hm] at ML
        have e1 : (er != 0) = true := by simpa using he
        clear hk hm he hxy h0
        go_enter Try.func9, Try.ntmps9
        go_wp2_with fail
        go_at_call 12
        refine (AW.out _).mono ?_
        rintro e w1 ⟨rfl, hb⟩
        have hz := hb.size
        (try simp at hz)
        have hzw1 : w.heap.size < w1.heap.size := by omega
        have c0 : w1.cell? ⟨w.heap.size, 0, none⟩ = some (.int .i64 x.a) := by rw [hb.cells _ _ (by simp)]; go_simp
        have c1 : w1.cell? ⟨w.heap.size, 1, none⟩ = some (.int .i64 x.b) := by rw [hb.cells _ _ (by simp)]; go_simp
        have c2 : w1.cell? ⟨w.heap.size, 2, none⟩ = some (.int .i64 x.c) := by rw [hb.cells _ _ (by simp)]; go_simp
        have c3 : w1.cell? ⟨w.heap.size, 3, none⟩ = some (.int .i64 x.d) := by rw [hb.cells _ _ (by simp)]; go_simp
        have c4 : w1.cell? ⟨w.heap.size, 4, none⟩ = some (.int .i64 y.a) := by rw [hb.cells _ _ (by simp)]; go_simp
        have c5 : w1.cell? ⟨w.heap.size, 5, none⟩ = some (.int .i64 y.b) := by rw [hb.cells _ _ (by simp)]; go_simp
        have c6 : w1.cell? ⟨w.heap.size, 6, none⟩ = some (.int .i64 y.c) := by rw [hb.cells _ _ (by simp)]; go_simp
        have c7 : w1.cell? ⟨w.heap.size, 7, none⟩ = some (.int .i64 y.d) := by rw [hb.cells _ _ (by simp)]; go_simp
        have HBw1 := Lib.hid (Grow.trans (Grow.alloc (Grow.refl w) _) hb)
        clear hb hz
        go_wp2_with fail
        go_at_call 21
        refine (A1.out _).mono ?_
        rintro e w2 ⟨rfl, hb⟩
        have hz := hb.size
        (try simp at hz)
        have hzw2 : w.heap.size < w2.heap.size := by omega
        have d0 : w2.cell? ⟨w.heap.size, 0, none⟩ = some (.int .i64 x.a) := (hb.cells _ _ hzw1).trans c0
        have d1 : w2.cell? ⟨w.heap.size, 1, none⟩ = some (.int .i64 x.b) := (hb.cells _ _ hzw1).trans c1
        have d2 : w2.cell? ⟨w.heap.size, 2, none⟩ = some (.int .i64 x.c) := (hb.cells _ _ hzw1).trans c2
        have d3 : w2.cell? ⟨w.heap.size, 3, none⟩ = some (.int .i64 x.d) := (hb.cells _ _ hzw1).trans c3
        have d4 : w2.cell? ⟨w.heap.size, 4, none⟩ = some (.int .i64 y.a) := (hb.cells _ _ hzw1).trans c4
        have d5 : w2.cell? ⟨w.heap.size, 5, none⟩ = some (.int .i64 y.b) := (hb.cells _ _ hzw1).trans c5
        have d6 : w2.cell? ⟨w.heap.size, 6, none⟩ = some (.int .i64 y.c) := (hb.cells _ _ hzw1).trans c6
        have d7 : w2.cell? ⟨w.heap.size, 7, none⟩ = some (.int .i64 y.d) := (hb.cells _ _ hzw1).trans c7
        have HBw2 := Lib.hid (HBw1.out.trans hb)
        clear hb hz
        clear c0 c1 c2 c3 c4 c5 c6 c7
        go_wp2_with fail
        go_at_call 21
        refine (A2.out _).mono ?_
        rintro e w3 ⟨rfl, hb⟩
        have hz := hb.size
        (try simp at hz)
        have hzw3 : w.heap.size < w3.heap.size := by omega
        have c0 : w3.cell? ⟨w.heap.size, 0, none⟩ = some (.int .i64 x.a) := (hb.cells _ _ hzw2).trans d0
        have c1 : w3.cell? ⟨w.heap.size, 1, none⟩ = some (.int .i64 x.b) := (hb.cells _ _ hzw2).trans d1
        have c2 : w3.cell? ⟨w.heap.size, 2, none⟩ = some (.int .i64 x.c) := (hb.cells _ _ hzw2).trans d2
        have c3 : w3.cell? ⟨w.heap.size, 3, none⟩ = some (.int .i64 x.d) := (hb.cells _ _ hzw2).trans d3
        have c4 : w3.cell? ⟨w.heap.size, 4, none⟩ = some (.int .i64 y.a) := (hb.cells _ _ hzw2).trans d4
        have c5 : w3.cell? ⟨w.heap.size, 5, none⟩ = some (.int .i64 y.b) := (hb.cells _ _ hzw2).trans d5
        have c6 : w3.cell? ⟨w.heap.size, 6, none⟩ = some (.int .i64 y.c) := (hb.cells _ _ hzw2).trans d6
        have c7 : w3.cell? ⟨w.heap.size, 7, none⟩ = some (.int .i64 y.d) := (hb.cells _ _ hzw2).trans d7
        have HBw3 := Lib.hid (HBw2.out.trans hb)
        clear hb hz
        clear d0 d1 d2 d3 d4 d5 d6 d7
        go_wp2_with fail
        go_at_call 25
        refine (ML.out _).mono ?_
        rintro e w4 ⟨rfl, hb⟩
        have hz := hb.size
        have hzw4 : w.heap.size < w4.heap.size := by omega
        have d0 : w4.cell? ⟨w.heap.size, 0, none⟩ = some (.int .i64 x.a) := (hb.cells _ _ hzw3).trans c0
        have d1 : w4.cell? ⟨w.heap.size, 1, none⟩ = some (.int .i64 x.b) := (hb.cells _ _ hzw3).trans c1
        have d2 : w4.cell? ⟨w.heap.size, 2, none⟩ = some (.int .i64 x.c) := (hb.cells _ _ hzw3).trans c2
        have d3 : w4.cell? ⟨w.heap.size, 3, none⟩ = some (.int .i64 x.d) := (hb.cells _ _ hzw3).trans c3
        have d4 : w4.cell? ⟨w.heap.size, 4, none⟩ = some (.int .i64 y.a) := (hb.cells _ _ hzw3).trans c4
        have d5 : w4.cell? ⟨w.heap.size, 5, none⟩ = some (.int .i64 y.b) := (hb.cells _ _ hzw3).trans c5
        have d6 : w4.cell? ⟨w.heap.size, 6, none⟩ = some (.int .i64 y.c) := (hb.cells _ _ hzw3).trans c6
        have d7 : w4.cell? ⟨w.heap.size, 7, none⟩ = some (.int .i64 y.d) := (hb.cells _ _ hzw3).trans c7
        have HBw4 := Lib.hid (HBw3.out.trans hb)
        clear hb hz c0 c1 c2 c3 c4 c5 c6 c7
        go_wp2_with fail
        go_ret
        exact ⟨rfl, by have h2 := HBw4.out; (repeat (first | with_reducible exact Grow.refl _ | with_reducible refine Grow.alloc ?_ _ | with_reducible refine Grow.drew ?_ | with_reducible refine Grow.drewN ?_ _ | (with_reducible refine Grow.setCell ?_ ?hp _; (case hp => (simp; try omega))) | with_reducible refine Grow.trans ?_ (by assumption)))⟩
    · have e1 : (er != 0) = true := by simpa using he
      obtain ⟨zz, er2, hm⟩ : ∃ zz er2, mulF x y = (zz, er2) := ⟨_, _, rfl⟩
      rw [hm] at ML
      clear hk he hm h0
      go_enter Try.func9, Try.ntmps9
      go_wp2_with fail
      go_at_call 12
      refine (AW.out _).mono ?_
      rintro e w1 ⟨rfl, hb⟩
      have hz := hb.size
      (try simp at hz)
      have hzw1 : w.heap.size < w1.heap.size := by omega
      have c0 : w1.cell? ⟨w.heap.size, 0, none⟩ = some (.int .i64 x.a) := by rw [hb.cells _ _ (by simp)]; go_simp
      have c1 : w1.cell? ⟨w.heap.size, 1, none⟩ = some (.int .i64 x.b) := by rw [hb.cells _ _ (by simp)]; go_simp
      have c2 : w1.cell? ⟨w.heap.size, 2, none⟩ = some (.int .i64 x.c) := by rw [hb.cells _ _ (by simp)]; go_simp
      have c3 : w1.cell? ⟨w.heap.size, 3, none⟩ = some (.int .i64 x.d) := by rw [hb.cells _ _ (by simp)]; go_simp
      have c4 : w1.cell? ⟨w.heap.size, 4, none⟩ = some (.int .i64 y.a) := by rw [hb.cells _ _ (by simp)]; go_simp
      have c5 : w1.cell? ⟨w.heap.size, 5, none⟩ = some (.int .i64 y.b) := by rw [hb.cells _ _ (by simp)]; go_simp
      have c6 : w1.cell? ⟨w.heap.size, 6, none⟩ = some (.int .i64 y.c) := by rw [hb.cells _ _ (by simp)]; go_simp
      have c7 : w1.cell? ⟨w.heap.size, 7, none⟩ = some (.int .i64 y.d) := by rw [hb.cells _ _ (by simp)]; go_simp
      have HBw1 := Lib.hid (Grow.trans (Grow.alloc (Grow.refl w) _) hb)
      clear hb hz
      go_wp2_with fail
      go_at_call 21
      refine (A1.out _).mono ?_
      rintro e w2 ⟨rfl, hb⟩
      have hz := hb.size
      (try simp at hz)
      have hzw2 : w.heap.size < w2.heap.size := by omega
      have d0 : w2.cell? ⟨w.heap.size, 0, none⟩ = some (.int .i64 x.a) := (hb.cells _ _ hzw1).trans c0
      have d1 : w2.cell? ⟨w.heap.size, 1, none⟩ = some (.int .i64 x.b) := (hb.cells _ _ hzw1).trans c1
      have d2 : w2.cell? ⟨w.heap.size, 2, none⟩ = some (.int .i64 x.c) := (hb.cells _ _ hzw1).trans c2
      have d3 : w2.cell? ⟨w.heap.size, 3, none⟩ = some (.int .i64 x.d) := (hb.cells _ _ hzw1).trans c3
      have d4 : w2.cell? ⟨w.heap.size, 4, none⟩ = some (.int .i64 y.a) := (hb.cells _ _ hzw1).trans c4
      have d5 : w2.cell? ⟨w.heap.size, 5, none⟩ = some (.int .i64 y.b) := (hb.cells _ _ hzw1).trans c5
      have d6 : w2.cell? ⟨w.heap.size, 6, none⟩ = some (.int .i64 y.c) := (hb.cells _ _ hzw1).trans c6
      have d7 : w2.cell? ⟨w.heap.size, 7, none⟩ = some (.int .i64 y.d) := (hb.cells _ _ hzw1).trans c7
      have HBw2 := Lib.hid (HBw1.out.trans hb)
      clear hb hz
      clear c0 c1 c2 c3 c4 c5 c6 c7
      go_wp2_with fail
      go_at_call 21
      refine (A2.out _).mono ?_
      rintro e w3 ⟨rfl, hb⟩
      have hz := hb.size
      (try simp at hz)
      have hzw3 : w.heap.size < w3.heap.size := by omega
      have c0 : w3.cell? ⟨w.heap.size, 0, none⟩ = some (.int .i64 x.a) := (hb.cells _ _ hzw2).trans d0
      have c1 : w3.cell? ⟨w.heap.size, 1, none⟩ = some (.int .i64 x.b) := (hb.cells _ _ hzw2).trans d1
      have c2 : w3.cell? ⟨w.heap.size, 2, none⟩ = some (.int .i64 x.c) := (hb.cells _ _ hzw2).trans d2
      have c3 : w3.cell? ⟨w.heap.size, 3, none⟩ = some (.int .i64 x.d) := (hb.cells _ _ hzw2).trans d3
      have c4 : w3.cell? ⟨w.heap.size, 4, none⟩ = some (.int .i64 y.a) := (hb.cells _ _ hzw2).trans d4
      have c5 : w3.cell? ⟨w.heap.size, 5, none⟩ = some (.int .i64 y.b) := (hb.cells _ _ hzw2).trans d5
      have c6 : w3.cell? ⟨w.heap.size, 6, none⟩ = some (.int .i64 y.c) := (hb.cells _ _ hzw2).trans d6
      have c7 : w3.cell? ⟨w.heap.size, 7, none⟩ = some (.int .i64 y.d) := (hb.cells _ _ hzw2).trans d7
      have HBw3 := Lib.hid (HBw2.out.trans hb)
      clear hb hz
      clear d0 d1 d2 d3 d4 d5 d6 d7
      go_wp2_with fail
      go_at_call 25
      refine (ML.out _).mono ?_
      rintro e w4 ⟨rfl, hb⟩
      have hz := hb.size
      have hzw4 : w.heap.size < w4.heap.size := by omega
      have d0 : w4.cell? ⟨w.heap.size, 0, none⟩ = some (.int .i64 x.a) := (hb.cells _ _ hzw3).trans c0
      have d1 : w4.cell? ⟨w.heap.size, 1, none⟩ = some (.int .i64 x.b) := (hb.cells _ _ hzw3).trans c1
      have d2 : w4.cell? ⟨w.heap.size, 2, none⟩ = some (.int .i64 x.c) := (hb.cells _ _ hzw3).trans c2
      have d3 : w4.cell? ⟨w.heap.size, 3, none⟩ = some (.int .i64 x.d) := (hb.cells _ _ hzw3).trans c3
      have d4 : w4.cell? ⟨w.heap.size, 4, none⟩ = some (.int .i64 y.a) := (hb.cells _ _ hzw3).trans c4
      have d5 : w4.cell? ⟨w.heap.size, 5, none⟩ = some (.int .i64 y.b) := (hb.cells _ _ hzw3).trans c5
      have d6 : w4.cell? ⟨w.heap.size, 6, none⟩ = some (.int .i64 y.c) := (hb.cells _ _ hzw3).trans c6
      have d7 : w4.cell? ⟨w.heap.size, 7, none⟩ = some (.int .i64 y.d) := (hb.cells _ _ hzw3).trans c7
      have HBw4 := Lib.hid (HBw3.out.trans hb)
      clear hb hz c0 c1 c2 c3 c4 c5 c6 c7
      go_wp2_with fail
      go_ret
      exact ⟨rfl, by have h2 := HBw4.out; (repeat (first | with_reducible exact Grow.refl _ | with_reducible refine Grow.alloc ?_ _ | with_reducible refine Grow.drew ?_ | with_reducible refine Grow.drewN ?_ _ | (with_reducible refine Grow.setCell ?_ ?hp _; (case hp => (simp; try omega))) | with_reducible refine Grow.trans ?_ (by assumption)))⟩
  · have hp : actR n i ⟨1, 0, 0, 1⟩ = (0, 2) := by
      rcases ptR_cases n i with h | ⟨h1, h2, j, rfl, -, x, hx, -, hin, hix⟩
      · exact actR_bad h
      · rw [hx] at h0; simp at h0
    rw [hp] at A1
    clear hp h0
    go_enter Try.func9, Try.ntmps9
    go_wp2_with fail
    go_at_call 12
    refine (AW.out _).mono ?_
    rintro e w1 ⟨rfl, hb⟩
    have hz := hb.size
    (try simp at hz)
    have hzw1 : w.heap.size < w1.heap.size := by omega
    have c0 : w1.cell? ⟨w.heap.size, 0, none⟩ = some (.int .i64 x.a) := by rw [hb.cells _ _ (by simp)]; go_simp
    have c1 : w1.cell? ⟨w.heap.size, 1, none⟩ = some (.int .i64 x.b) := by rw [hb.cells _ _ (by simp)]; go_simp
    have c2 : w1.cell? ⟨w.heap.size, 2, none⟩ = some (.int .i64 x.c) := by rw [hb.cells _ _ (by simp)]; go_simp
    have c3 : w1.cell? ⟨w.heap.size, 3, none⟩ = some (.int .i64 x.d) := by rw [hb.cells _ _ (by simp)]; go_simp
    have c4 : w1.cell? ⟨w.heap.size, 4, none⟩ = some (.int .i64 y.a) := by rw [hb.cells _ _ (by simp)]; go_simp
    have c5 : w1.cell? ⟨w.heap.size, 5, none⟩ = some (.int .i64 y.b) := by rw [hb.cells _ _ (by simp)]; go_simp
    have c6 : w1.cell? ⟨w.heap.size, 6, none⟩ = some (.int .i64 y.c) := by rw [hb.cells _ _ (by simp)]; go_simp
    have c7 : w1.cell? ⟨w.heap.size, 7, none⟩ = some (.int .i64 y.d) := by rw [hb.cells _ _ (by simp)]; go_simp
    have HBw1 := Lib.hid (Grow.trans (Grow.alloc (Grow.refl w) _) hb)
    clear hb hz
    go_wp2_with fail
    go_at_call 21
    refine (A1.out _).mono ?_
    rintro e w2 ⟨rfl, hb⟩
    have hz := hb.size
    (try simp at hz)
    have hzw2 : w.heap.size < w2.heap.size := by omega
    have d0 : w2.cell? ⟨w.heap.size, 0, none⟩ = some (.int .i64 x.a) := (hb.cells _ _ hzw1).trans c0
    have d1 : w2.cell? ⟨w.heap.size, 1, none⟩ = some (.int .i64 x.b) := (hb.cells _ _ hzw1).trans c1
    have d2 : w2.cell? ⟨w.heap.size, 2, none⟩ = some (.int .i64 x.c) := (hb.cells _ _ hzw1).trans c2
    have d3 : w2.cell? ⟨w.heap.size, 3, none⟩ = some (.int .i64 x.d) := (hb.cells _ _ hzw1).trans c3
    have d4 : w2.cell? ⟨w.heap.size, 4, none⟩ = some (.int .i64 y.a) := (hb.cells _ _ hzw1).trans c4
    have d5 : w2.cell? ⟨w.heap.size, 5, none⟩ = some (.int .i64 y.b) := (hb.cells _ _ hzw1).trans c5
    have d6 : w2.cell? ⟨w.heap.size, 6, none⟩ = some (.int .i64 y.c) := (hb.cells _ _ hzw1).trans c6
    have d7 : w2.cell? ⟨w.heap.size, 7, none⟩ = some (.int .i64 y.d) := (hb.cells _ _ hzw1).trans c7
    have HBw2 := Lib.hid (HBw1.out.trans hb)
    clear hb hz
    clear c0 c1 c2 c3 c4 c5 c6 c7
    go_wp2_with fail
    go_ret
    exact ⟨rfl, by have h2 := HBw2.out; (repeat (first | with_reducible exact Grow.refl _ | with_reducible refine Grow.alloc ?_ _ | with_reducible refine Grow.drew ?_ | with_reducible refine Grow.drewN ?_ _ | (with_reducible refine Grow.setCell ?_ ?hp _; (case hp => (simp; try omega))) | with_reducible refine Grow.trans ?_ (by assumption)))⟩

set_option maxRecDepth 100000 in
theorem lifted (os : Os) (started : os.Started) (H : Type) (enc : TypeId × Value → H) :
    ReturnsInHanded {} Try.checked os 9 .any (Rows.projlineActsSpec.pre6 enc Try.prog Try.f9 Rows.projlineActsRow.domain false) (Rows.projlineActsSpec.post enc Try.prog Try.f9 false true false false) := by
  refine returnsInHanded_of_change (C := Try.checked) own started (by kernel_rfl) Try.func9
    (ChangeSpec.witness6 (enc := enc) (C := Try.checked) false ⟨#[], #[.int .i64 0, .int .i64 0, .agg #[.int .i64 0, .int .i64 0, .int .i64 0, .int .i64 0, .int .i64 0, .int .i64 0, .int .i64 0, .int .i64 0]], []⟩ 8 (by kernel_rfl) (by kernel_rfl) (by kernel_rfl) (by kernel_rfl)) ?_
  intro W base args ds gs before hval0 hW hcnd _
  have hval : ∀ (j : Nat) t v, Try.f9.params[j]? = some t → args[j]? = some v → Value.okWide Try.prog W .any base t v := hval0
  have hW' := hW
  obtain ⟨p, q, hA0, hV, rfl, -, -⟩ := hW
  have hA : DataW.TrodAll enc Try.prog W 0 (fun _ => true) true Try.f9.params.toList args.toList ds p := hA0
  rw [Try.params9] at hA hval
  obtain ⟨v0, vs0, d0, ds0, p0, q0, hargs, rfl, rfl, h0, r0⟩ := trodAll_cons hA
  obtain ⟨v1, vs1, d1, ds1, p1, q1, rfl, rfl, rfl, h1, r1⟩ := trodAll_cons r0
  obtain ⟨v2, vs2, d2, ds2, p2, q2, rfl, rfl, rfl, h2, r2⟩ := trodAll_cons r1
  obtain ⟨rfl, rfl, rfl⟩ := trodAll_nil r2
  obtain rfl : args = #[v0, v1, v2] := by cases args; simp_all
  obtain ⟨rfl, rfl⟩ := trodVars_none hV
  obtain ⟨a0, rfl, rfl, -, b0⟩ := open_int Try.underlying3 (hval 0 3 v0 rfl rfl) h0
  have c0 := bounds_i64 b0
  obtain ⟨a1, rfl, rfl, -, b1⟩ := open_int Try.underlying3 (hval 1 3 v1 rfl rfl) h1
  have c1 := bounds_i64 b1
  obtain ⟨a2, b2, rfl, c2, e2⟩ := open_mat2 (hval 2 53 v2 rfl rfl) h2
  clear hA0 hval0
  refine (walk a0 c0 a1 c1 a2 b2 W).mono fun e W' ⟨he, hg⟩ => ?_
  subst he
  exact ⟨_, rfl, law_post 4 rfl Try.underlying4 laidOut (of_decide_eq_true (by kernel_rfl)) rfl hW' rfl hg⟩

theorem over : Rows.projlineActsRow.holds Try.pinned (OpenSpec.ofChange Rows.projlineActsSpec) :=
  OpenClaim.holds_of_wide 9 Try.f9 rfl rfl rfl rfl rfl rfl rfl ⟨rfl, rfl, rfl, rfl, rfl⟩ rfl rfl rfl rfl rfl (by kernel_rfl) Try.func9 (by kernel_rfl)
    (of_decide_eq_true (by kernel_rfl)) (by unfold Func.isWrapper; rw [if_neg (by decide +kernel)]; exact ⟨rfl, rfl⟩)
    (fun os started H enc _ => lifted os started H enc)

theorem proved : Rows.ProjlineActsSaid := over
end Go.Proofs.Ytcgiancmponmgaa.acts
