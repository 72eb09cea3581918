/- Walk: List of the program, the sieve. -/
import Derived.Test.YtcgiancmponmgaaPjL
namespace Go.Proofs.Ytcgiancmponmgaa
open Go Go.RowKit

theorem own_int_cell {w : World} {base g k : Nat} {v : Value} {l : List Int} (h : OwnInts w base v l) (hk : k < l.length) (hv : v.ownBlock = some g) : w.cell? ⟨g, k, none⟩ = some (.int .i64 (l.getD k 0)) := by
  have h1 := World.ownsRow.cells h (g := g) hv k (.int .i64 (l.getD k 0)) (by simp [List.getD_eq_getElem?_getD, hk])
  rw [Addr.add_lit, Nat.zero_add] at h1
  exact h1
theorem ix_rng {n u v s : Int} (h1 : 1 ≤ n) (h2 : n ≤ 120) : 0 ≤ ixS n u v s ∧ ixS n u v s < n * n := by
  have a0 := Int.emod_nonneg (s * u) (b := n) (by omega)
  have a1 := Int.emod_lt_of_pos (s * u) (b := n) (by omega)
  have b0 := Int.emod_nonneg (s * v) (b := n) (by omega)
  have b1 := Int.emod_lt_of_pos (s * v) (b := n) (by omega)
  unfold ixS
  have p0 : 0 ≤ (s * u) % n * n := Int.mul_nonneg a0 (by omega)
  have p1 : ((s * u) % n + 1) * n ≤ n * n := Int.mul_le_mul_of_nonneg_right (by omega) (by omega)
  rw [Int.add_mul] at p1
  omega
set_option maxRecDepth 20000 in
set_option maxHeartbeats 4000000 in
theorem list_core (n : Int) (h1 : 1 ≤ n) (h2 : n ≤ 120) (w : World) :
    Calls Try.prog 16 #[.int .i64 n] w fun e w' => ∃ v, e = .returned (.tuple #[v, .int .i64 0]) ∧ OwnPts w' w.heap.size v (lsF n) ∧ Grow w w' := by
  obtain ⟨ii, hii, iiz0, iiz1, iiz2⟩ := info_parts infoI
  obtain ⟨ib, hib, ibz0, ibz1, ibz2⟩ := info_parts infoB
  obtain ⟨ip, hip, ipz0, ipz1, ipz2⟩ := info_parts infoP
  have LV := Lib.hid (fun u => level_any n u)
  rw [lvE_ok ⟨h1, h2⟩] at LV
  have n0 : ¬ n = 0 := by omega
  have n1 : (n == 0) = false := by simpa using n0
  obtain ⟨m, hm⟩ : ∃ m : Nat, n.toNat = m := ⟨_, rfl⟩
  have hnm : n = (m : Int) := by omega
  obtain ⟨N, hNd⟩ : ∃ N : Nat, m * m = N := ⟨_, rfl⟩
  have hN : (N : Int) = n * n := by rw [hnm, ← hNd, Int.natCast_mul]
  have hNb : N ≤ 14400 := by
    rw [← hNd]
    have : m * m ≤ 120 * 120 := Nat.mul_le_mul (by omega) (by omega)
    omega
  have yN : IntKind.i64.wrap (n * n) = (N : Int) := by rw [← hN]; exact IntWalk.i64_in _ (by omega)
  have HN := Lib.hid hN
  have HM := Lib.hid hm
  have HL : Hid (lsF n = lsA n N) := by show lsA n (n.toNat * n.toNat) = _; rw [hm, hNd]
  have HNM := Lib.hid hnm
  clear hN hNd hm hnm
  go_enter Try.func16, Try.ntmps16
  go_wp2_with (go_at_call 30; (with_reducible refine (LV.out _).mono ?_); (rintro e wq ⟨rfl, rfl⟩))
  go_loopg [5, 6] 130 (fun k t5 t6 wr => ∃ (j : Nat) (s : Int), t6 = .int .i64 s ∧ Hid (s = (j : Int) + 1) ∧ Hid (j + k = 130) ∧ 1 ≤ s ∧ s ≤ n + 1 ∧ OwnInts wr w.heap.size t5 (unA n j) ∧ Hid (Grow w wr))
  case atStart => exact ⟨0, 1, rfl, Lib.hid rfl, Lib.hid (by omega), by omega, by omega, World.ownsRow_nil _ _ _ _, Lib.hid (Grow.refl _)⟩
  case round =>
    obtain ⟨j, s, rfl, hsj, hjk, hs1, hs2, hown, hgr⟩ := hrel
    by_cases hlt : s ≤ n
    · obtain ⟨g1, hgk⟩ : ∃ g1, gk = g1 + 1 := ⟨gk - 1, by have := hjk.out; have := hsj.out; omega⟩
      have GC := Lib.hid (fun u => gcd_any s n (by omega) (by omega) (by omega) (by omega) u)
      obtain ⟨G, hG⟩ : ∃ G : Int, ((Int.gcd s n : Nat) : Int) = G := ⟨_, rfl⟩
      rw [hG] at GC
      have ys : IntKind.i64.wrap (s + 1) = s + 1 := IntWalk.i64_in _ (by omega)
      have hlen := unA_len (n := n) j
      have HO := Lib.hid hown
      have hj120 : j ≤ 120 := by have := hsj.out; omega
      have hwz := hgr.out.size
      have hun : Hid (unA n (j + 1) = unA n j ++ if G = 1 then [s] else []) := by
        show unA n (j + 1) = _
        rw [unA, ← hsj.out, hG]
      clear hown hG
      by_cases hg1 : G = 1
      · have e1 : (G == 1) = true := by simpa using hg1
        rw [if_pos hg1] at hun
        clear hg1
        go_wp2_with (first | (go_at_call 32; (with_reducible refine (GC.out _).mono ?_); (rintro e w3 ⟨rfl, hb3⟩; have hz3 := hb3.size; have HO3 := Lib.hid (HO.out.into hb3); have HG3 := Lib.hid (hgr.out.trans hb3); clear hb3)) | (at_builtin; refine wpList_append_own _ rfl _ _ 65 rfl (w.heap.size) 3 ii (.int .i64 0) 1 8 Try.underlying65 hii iiz0 iiz1 iiz2 rfl (by decide) _ _ _ rfl (HO3.out.into (Grow.alloc (Grow.refl _) _)) ⟨w3.heap.size, 0, none⟩ 1 1 [.int .i64 s] rfl rfl (one_cells _ _ _ _ ?c1) (one_oneCell _ _) ?c3 ?c4 ?c5 ?_))
        case c1 => simp
        case c3 => unfold maxLen; omega
        case c4 => omega
        case c5 => (try simp); omega
        intro v2 w2 hown2 hgrow2 _
        have hG2 : Grow w w2 := own_grow ((HG3.out).alloc _) (HO3.out.into (Grow.alloc (Grow.refl _) _)) hgrow2 (by omega)
        have HO2 := Lib.hid hown2
        have HG2 := Lib.hid hG2
        clear hown2 hgrow2 hG2
        go_wp2
        go_roundg g1
        case measure => omega
        case rel => exact ⟨j + 1, s + 1, rfl, Lib.hid (by have := hsj.out; omega), Lib.hid (by have := hjk.out; omega), by omega, by omega, by rw [hun.out]; unfold OwnInts; simpa using HO2.out, HG2⟩
      · have e1 : (G == 1) = false := by simpa using hg1
        rw [if_neg hg1, List.append_nil] at hun
        clear hg1
        go_wp2_with (first | (go_at_call 32; (with_reducible refine (GC.out _).mono ?_); (rintro e w3 ⟨rfl, hb3⟩; have hz3 := hb3.size; have HO3 := Lib.hid (HO.out.into hb3); have HG3 := Lib.hid (hgr.out.trans hb3); clear hb3)) | fail)
        go_roundg g1
        case measure => omega
        case rel => exact ⟨j + 1, s + 1, rfl, Lib.hid (by have := hsj.out; omega), Lib.hid (by have := hjk.out; omega), by omega, by omega, by rw [hun.out]; exact HO3.out, HG3⟩
    · have hjn : (j : Int) = n := by have := hsj.out; omega
      have hjm : j = m := by have := HNM.out; omega
      subst hjm
      have hmem : (1 : Int) ∈ unA n j := (unA_mem _ _).2 ⟨by omega, by omega, Int.gcd_one_left _⟩
      have hpos : 0 < (unA n j).length := List.length_pos_of_mem hmem
      have hlen := unA_len (n := n) j
      have hUn : ∀ s ∈ unA n j, 1 ≤ s ∧ s ≤ n := fun s hs => by have := (unA_mem _ _).1 hs; omega
      obtain ⟨L, hL⟩ : ∃ L, unA n j = L := ⟨_, rfl⟩
      rw [hL] at hown hpos hlen hUn
      obtain ⟨gU, capU, rfl, hU1, hU2⟩ := own_slice hown hpos
      have hUc : ∀ i, i < L.length → wr.cell? ⟨gU, i, none⟩ = some (.int .i64 (L.getD i 0)) := fun i hi => own_int_cell hown hi rfl
      obtain ⟨lu, hlu⟩ : ∃ lu, L.length = lu := ⟨_, rfl⟩
      rw [hlu] at hlen hUc hpos
      obtain ⟨w1, hw1⟩ : ∃ x, x = wr := ⟨wr, rfl⟩
      subst hw1
      have HUC := Lib.hid hUc
      have HUn := Lib.hid hUn
      have HLD := Lib.hid hL
      have HLL := Lib.hid hlu
      rw [hlu]
      clear hUc hown hUn hL hlu hmem
      go_wp2_with (at_make; refine wpList_make_full _ rfl _ _ 66 rfl (w1.heap.size) 4 ib (.bool false) 1 Try.underlying66 hib ibz0 ibz1 .i64 .i64 (N : Int) (N : Int) N rfl rfl rfl rfl ?m1 ?m2 (Nat.le_refl _) ?_)
      case m1 => first | omega | (rw [ibz2]; omega)
      case m2 => unfold maxLen; omega
      intro w2 hown2 hgrow2
      have hsv := SvM.make hown2
      have hg2 : Grow w1 w2 := (Grow.refl w1).grown hgrow2 (fun k hk => by cases hk)
      have HLS : Hid (LsM w1 N (fun _ => false) (.slice none 0 0) (lsA n 0) w2) := Lib.hid ⟨hsv, World.ownsRow_nil _ _ _ _, hg2⟩
      clear hown2 hgrow2 hsv hg2
      have hgr1 := hgr
      clear hgr
      go_wp2_with fail
      go_loopg [7, 38] N (fun k t7 t38 wr => ∃ (j : Nat) (f : Nat → Bool), t38 = .int .i64 (j : Int) ∧ j + k = N ∧ Hid (SeenF n N j f) ∧ Hid (LsM w1 N f t7 (lsA n j) wr))
      case atStart => exact ⟨0, _, rfl, by omega, Lib.hid (SeenF.zero n N), HLS⟩
      case round =>
        clear HLS
        obtain ⟨j, f, rfl, hjk, hsf, hls⟩ := hrel
        by_cases hlt2 : j < N
        · obtain ⟨g2, hgk⟩ : ∃ g2, gk = g2 + 1 := ⟨gk - 1, by omega⟩
          have hi0 : (0 : Int) ≤ (j : Int) := by omega
          have hiN : (j : Int) < (N : Int) := by omega
          have yj : IntKind.i64.wrap ((j : Int) + 1) = (j : Int) + 1 := IntWalk.i64_in _ (by omega)
          obtain ⟨u, hu⟩ : ∃ u, (j : Int).tdiv n = u := ⟨_, rfl⟩
          obtain ⟨v, hv⟩ : ∃ v, (j : Int).tmod n = v := ⟨_, rfl⟩
          have hu2 : (j : Int) / n = u := by rw [← hu, Int.tdiv_eq_ediv_of_nonneg hi0]
          have hv2 : (j : Int) % n = v := by rw [← hv, Int.tmod_eq_emod_of_nonneg hi0]
          have u0 : 0 ≤ u := by rw [← hu2]; exact Int.ediv_nonneg hi0 (by omega)
          have u1 : u < n := by rw [← hu2]; exact Int.ediv_lt_of_lt_mul (by omega) (by rw [← HN.out]; exact hiN)
          have v0 : 0 ≤ v := by rw [← hv2]; exact Int.emod_nonneg _ (by omega)
          have v1 : v < n := by rw [← hv2]; exact Int.emod_lt_of_pos _ (by omega)
          have yu : IntKind.i64.wrap u = u := IntWalk.i64_in _ (by omega)
          have yv : IntKind.i64.wrap v = v := IntWalk.i64_in _ (by omega)
          have hok := hsf.out.ok h1 h2 HN.out hlt2
          rw [hu2, hv2] at hok
          have hgj := hls.out.1.1
          have hcj := hls.out.1.2.1 j hlt2
          have hsz := hls.out.2.2.size
          obtain ⟨b, hb⟩ : ∃ b, f j = b := ⟨_, rfl⟩
          rw [hb] at hok hcj
          have HU := Lib.hid hu2
          have HV := Lib.hid hv2
          have hlsa : Hid (lsA n (j + 1) = lsA n j ++ if okP n u v = true then [⟨u, v, 1⟩] else []) := by
            show lsA n (j + 1) = _
            rw [lsA, hu2, hv2]
          clear hu2 hv2 hb
          cases b
          · obtain ⟨g, hg⟩ : ∃ g : Nat, Int.gcd u v = g := ⟨_, rfl⟩
            have gl := gcd_lim (a := u) (b := v) (by omega) (by omega)
            have GC := Lib.hid (fun w => gcd_any u v (by omega) (by omega) (by omega) (by omega) w)
            rw [hg] at GC gl hok
            obtain ⟨G, hG⟩ : ∃ G : Int, ((Int.gcd (g : Int) n : Nat) : Int) = G := ⟨_, rfl⟩
            have GD := Lib.hid (fun w => gcd_any (g : Int) n (by omega) (by omega) (by omega) (by omega) w)
            rw [hG] at GD hok
            clear hg hG
            by_cases hg1 : G = 1
            · have e1 : (G != 1) = false := by simpa using hg1
              have hok2 : okP n u v = true := by rw [hok]; simp [hg1]
              have HOK := Lib.hid hok2
              rw [if_pos hok2] at hlsa
              clear hok hok2 hg1
              obtain ⟨w0, hw0⟩ : ∃ x, x = wr := ⟨wr, rfl⟩
              subst hw0
              have hlsl := lsA_len (n := n) j
              go_wp2_with fail
              go_quiet (fail)
              go_wp2_with (first
                | (go_at_call 32; (with_reducible refine (GC.out _).mono ?_); (rintro e w3 ⟨rfl, hb3⟩; have hz3 := hb3.size; (try simp at hz3); have HL3 := Lib.hid (hls.out.grow (u' := w3) (by (repeat (first | with_reducible exact Grow.refl _ | with_reducible refine Grow.alloc ?_ _ | with_reducible refine Grow.drew ?_ | with_reducible refine Grow.drewN ?_ _ | (with_reducible refine Grow.setCell ?_ ?hp _; (case hp => (simp; try omega))) | with_reducible refine Grow.trans ?_ (by assumption))))); clear hb3))
                | (go_at_call 32; (with_reducible refine (GD.out _).mono ?_); (rintro e w4 ⟨rfl, hb4⟩; have hz4 := hb4.size; (try simp at hz4); have HL4 := Lib.hid (HL3.out.grow hb4); clear hb4))
                | (at_builtin; refine wpList_append_own _ rfl _ _ 35 rfl (w1.heap.size + 1) 24 ip (.agg #[.int .i64 0, .int .i64 0, .int .i64 0]) 3 24 Try.underlying35 hip ipz0 ipz1 ipz2 rfl (by decide) _ _ _ rfl (HL4.out.2.1.into (Grow.alloc (Grow.refl _) _)) ⟨w4.heap.size, 0, none⟩ 1 1 [.int .i64 u, .int .i64 v, .int .i64 1] rfl rfl (three_cells _ _ _ _ _ _ ?c1) (three_oneCell _ _ _) ?c3 ?c4 ?c5 ?_))
              case c1 => simp
              case c3 => unfold maxLen; omega
              case c4 => omega
              case c5 => (try simp); omega
              intro v5 w5 hown5 hgrow5 _
              have HL5 := Lib.hid ((HL4.out.grow (Grow.alloc (Grow.refl _) _)).app (x := ⟨u, v, 1⟩) (by unfold OwnPts; rw [cellsP_snoc]; simpa using hown5) hgrow5)
              clear hown5 hgrow5 HL4 HL3 hls hcj hgj hsz hz3 hz4
              go_wp2_with fail
              go_loopg [67] lu (fun k t67 wr => ∃ (i : Nat) (f' : Nat → Bool), t67 = .int .i64 (i : Int) ∧ i + k = lu ∧ Hid (∀ q, q < N → (f' q = true ↔ (f q = true ∨ ∃ s ∈ L.take i, (q : Int) = ixS n u v s))) ∧ Hid (LsM w1 N f' v5 (lsA n j ++ [⟨u, v, 1⟩]) wr))
              case atStart => exact ⟨0, f, rfl, by omega, Lib.hid (by intro q _; simp), HL5⟩
              case round =>
                clear HL5
                obtain ⟨i, f', rfl, hik, hf', hl'⟩ := hrel
                by_cases hlt3 : i < lu
                · obtain ⟨g3, hgk3⟩ : ∃ g3, gk = g3 + 1 := ⟨gk - 1, by omega⟩
                  have hii0 : (0 : Int) ≤ (i : Int) := by omega
                  have hiiN : (i : Int) < (lu : Int) := by omega
                  have yi : IntKind.i64.wrap ((i : Int) + 1) = (i : Int) + 1 := IntWalk.i64_in _ (by omega)
                  have hiL : i < L.length := by rw [HLL.out]; exact hlt3
                  have hxt : L.take (i + 1) = L.take i ++ [L.getD i 0] := take_snoc L i hiL
                  have hxm : L.getD i 0 ∈ L := by rw [getD_lt hiL]; exact List.getElem_mem hiL
                  have hcx : wr.cell? ⟨gU, i, none⟩ = some (.int .i64 (L.getD i 0)) := (hl'.out.2.2.cells _ _ hU2).trans (HUC.out i hlt3)
                  obtain ⟨x, hx⟩ : ∃ x, L.getD i 0 = x := ⟨_, rfl⟩
                  rw [hx] at hcx hxm hxt
                  obtain ⟨x1, x2⟩ := HUn.out x hxm
                  have HXT := Lib.hid hxt
                  clear hx hxm hxt hiL
                  have hxu0 : 0 ≤ x * u := Int.mul_nonneg (by omega) u0
                  have hxv0 : 0 ≤ x * v := Int.mul_nonneg (by omega) v0
                  have hxu1 : x * u ≤ 120 * 120 := Int.mul_le_mul (by omega) (by omega) u0 (by omega)
                  have hxv1 : x * v ≤ 120 * 120 := Int.mul_le_mul (by omega) (by omega) v0 (by omega)
                  have hix := ix_rng (n := n) (u := u) (v := v) (s := x) h1 h2
                  have hixd : ixS n u v x = (x * u).tmod n * n + (x * v).tmod n := by
                    unfold ixS
                    rw [Int.tmod_eq_emod_of_nonneg hxu0, Int.tmod_eq_emod_of_nonneg hxv0]
                  obtain ⟨P, hP⟩ : ∃ P, (x * u).tmod n = P := ⟨_, rfl⟩
                  obtain ⟨R, hR⟩ : ∃ R, (x * v).tmod n = R := ⟨_, rfl⟩
                  have P0 : 0 ≤ P := by rw [← hP]; exact Int.tmod_nonneg _ hxu0
                  have P1 : P < n := by rw [← hP]; exact Int.tmod_lt_of_pos _ (by omega)
                  have R0 : 0 ≤ R := by rw [← hR]; exact Int.tmod_nonneg _ hxv0
                  have R1 : R < n := by rw [← hR]; exact Int.tmod_lt_of_pos _ (by omega)
                  have hPn0 : 0 ≤ P * n := Int.mul_nonneg P0 (by omega)
                  have hPn1 : P * n ≤ 120 * 120 := Int.mul_le_mul (by omega) (by omega) (by omega) (by omega)
                  rw [hP, hR] at hixd
                  obtain ⟨Q, hQ⟩ : ∃ Q : Nat, (Q : Int) = P * n + R := ⟨(P * n + R).toNat, Int.toNat_of_nonneg (by omega)⟩
                  have hQx : (Q : Int) = ixS n u v x := by rw [hixd, hQ]
                  have hQN : Q < N := by have h := hix.2; rw [← hQx, ← HN.out] at h; omega
                  have z1 : IntKind.i64.wrap (x * u) = x * u := IntWalk.i64_in _ (by omega)
                  have z2 : IntKind.i64.wrap (x * v) = x * v := IntWalk.i64_in _ (by omega)
                  have z3 : IntKind.i64.wrap P = P := IntWalk.i64_in _ (by omega)
                  have z4 : IntKind.i64.wrap R = R := IntWalk.i64_in _ (by omega)
                  have z5 : IntKind.i64.wrap (P * n) = P * n := IntWalk.i64_in _ (by omega)
                  have z6 : IntKind.i64.wrap (P * n + R) = (Q : Int) := by rw [← hQ]; exact IntWalk.i64_in _ (by omega)
                  have q0 : (0 : Int) ≤ (Q : Int) := by omega
                  have q1 : (Q : Int) < (N : Int) := by omega
                  have HQX := Lib.hid hQx
                  have hgj := hl'.out.1.1
                  have hfj := hl'.out.1.2.2
                  have hcQ := hl'.out.1.2.1 Q hQN
                  have hUr : gU < wr.heap.size := by have := hl'.out.2.2.size; omega
                  clear hQ hQx hixd hix hPn0 hPn1 hxu0 hxu1 hxv0 hxv1
                  go_wp2_with fail
                  go_region
                  go_wp2_with fail
                  go_roundg g3
                  case measure => omega
                  case rel =>
                    refine ⟨i + 1, fun k => k == Q || f' k, by go_num, by omega, Lib.hid (fun q hq => ?_), Lib.hid ((hl'.out.set Q hQN).grow (by (repeat (first | with_reducible exact Grow.refl _ | with_reducible refine Grow.alloc ?_ _ | with_reducible refine Grow.drew ?_ | with_reducible refine Grow.drewN ?_ _ | (with_reducible refine Grow.setCell ?_ ?hp _; (case hp => (simp; try omega))) | with_reducible refine Grow.trans ?_ (by assumption)))))⟩
                    rw [HXT.out, Bool.or_eq_true, beq_iff_eq, hf'.out q hq]
                    constructor
                    · rintro (h | h | ⟨s, hs, e⟩)
                      · exact .inr ⟨x, by simp, by rw [h]; exact HQX.out⟩
                      · exact .inl h
                      · exact .inr ⟨s, by simp [hs], e⟩
                    · rintro (h | ⟨s, hs, e⟩)
                      · exact .inr (.inl h)
                      · rw [List.mem_append, List.mem_singleton] at hs
                        rcases hs with hs | hs
                        · exact .inr (.inr ⟨s, hs, e⟩)
                        · refine .inl ?_
                          rw [hs, ← HQX.out] at e
                          omega
                · have hil : i = lu := by omega
                  subst hil
                  have hfin : SeenF n N (j + 1) f' := by
                    refine hsf.out.take h1 (by rw [HU.out, HV.out]; exact HOK.out) (fun q hq => ?_)
                    rw [hf'.out q hq, HU.out, HV.out, HM.out, HLD.out, List.take_of_length_le (by rw [HLL.out]; omega)]
                  have HFIN := Lib.hid hfin
                  clear hfin hf'
                  go_wp2_with fail
                  go_roundg g2
                  case measure => omega
                  case rel => exact ⟨j + 1, f', by go_num, by omega, HFIN, by rw [hlsa.out]; exact hl'⟩
            · have e1 : (G != 1) = true := by simpa using hg1
              have hok2 : okP n u v = false := by rw [hok]; simp [hg1]
              have HOK := Lib.hid hok2
              rw [if_neg (by rw [hok2]; simp), List.append_nil] at hlsa
              clear hok hok2 hg1
              go_wp2_with fail
              go_quiet (fail)
              go_wp2_with (first | (go_at_call 32; first | (with_reducible refine (GC.out _).mono ?_; (rintro e w3 ⟨rfl, hb3⟩; have hz3 := hb3.size; (try simp at hz3))) | (with_reducible refine (GD.out _).mono ?_; (rintro e w4 ⟨rfl, hb4⟩; have hz4 := hb4.size; (try simp at hz4)))))
              go_roundg g2
              case measure => omega
              case rel => exact ⟨j + 1, f, by go_num, by omega, Lib.hid (hsf.out.skip (by rw [HU.out, HV.out]; exact HOK.out)), by rw [hlsa.out]; exact Lib.hid (hls.out.grow (by (repeat (first | with_reducible exact Grow.refl _ | with_reducible refine Grow.alloc ?_ _ | with_reducible refine Grow.drew ?_ | with_reducible refine Grow.drewN ?_ _ | (with_reducible refine Grow.setCell ?_ ?hp _; (case hp => (simp; try omega))) | with_reducible refine Grow.trans ?_ (by assumption)))))⟩
          · have hok2 : okP n u v = false := by rw [hok]; simp
            have HOK := Lib.hid hok2
            rw [if_neg (by rw [hok2]; simp), List.append_nil] at hlsa
            clear hok hok2
            go_wp2_with fail
            go_quiet (fail)
            go_wp2_with fail
            go_roundg g2
            case measure => omega
            case rel => exact ⟨j + 1, f, by go_num, by omega, Lib.hid (hsf.out.skip (by rw [HU.out, HV.out]; exact HOK.out)), by rw [hlsa.out]; exact Lib.hid (hls.out.grow (by (repeat (first | with_reducible exact Grow.refl _ | with_reducible refine Grow.alloc ?_ _ | with_reducible refine Grow.drew ?_ | with_reducible refine Grow.drewN ?_ _ | (with_reducible refine Grow.setCell ?_ ?hp _; (case hp => (simp; try omega))) | with_reducible refine Grow.trans ?_ (by assumption)))))⟩
        · have hjN : j = N := by omega
          subst hjN
          have hl2 := hls.out
          obtain ⟨a1, a2, a3⟩ := hl2
          have hG := (hgr1.out.trans a3)
          have hown : OwnPts wr w.heap.size u7 (lsF n) := by rw [HL.out]; exact own_base a2 (by have := hgr1.out.size; omega)
          clear a1 a2 a3
          go_wp2_with fail
          refine bodyPost_ret (v := .tuple #[u7, .int .i64 0]) (by simp only [results, Try.results16]; go_simp) rfl ⟨_, rfl, hown, hG⟩
end Go.Proofs.Ytcgiancmponmgaa
