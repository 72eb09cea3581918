/- Lemmas, plain laws and walks that the statement LwThreeSquares leans on (texts BiC, RwA, BiD, BiE), conditions as each theorem says. -/
import Derived.Deep.RegionWith
import Derived.Deep.Upon
import Derived.Deep.RegionHeld3
import Derived.Test.YtbpkfcohbefphaaGreatTopThreeSquaresG01

/- Walks over lists of at most one digit: less, times, compare, Clone, divide, common. -/
namespace Go.Proofs.YtbpkfcohbefphaaGreat
open Go Go.RowKit

theorem pad1 {w : World} {b off cap d : Nat} (hd : d < 4294967296) (hk : 1 ≤ cap) (hb : b < w.heap.size) (hc : w.cell? ⟨b, off, none⟩ = some (.int .u32 (d : Int))) : PadR w (.slice (some ⟨b, off, none⟩) 1 cap) d := by
  by_cases h0 : d = 0
  · subst h0; exact .inr (.inl ⟨rfl, b, off, cap, rfl, hk, hb, hc⟩)
  · exact .inl (.inr ⟨by omega, hd, b, off, cap, rfl, hk, hb, hc⟩)
set_option maxRecDepth 20000 in
set_option maxHeartbeats 2000000 in
theorem less_any (m1 m2 : Value) (n1 n2 : Nat) (h : n2 ≤ n1) (w : World) (h1 : MagR w m1 n1) (h2 : MagR w m2 n2) : Calls Tryz.prog 110 #[m1, m2] w fun e w' => ∃ m, e = .returned m ∧ PadR w' m (n1 - n2) ∧ Grow w w' := by
  obtain ⟨iu, hiu, iuz0, iuz1, iuz2⟩ := info_parts infoU
  rcases h1 with ⟨p0, a1, c1, rfl⟩ | ⟨p0, p1, b1, o1, c1, rfl, k1, q1, d1⟩
  · subst p0
    obtain rfl : n2 = 0 := by omega
    obtain ⟨a2, c2, rfl⟩ := h2.form
    clear h2
    go_enter Tryz.func110, Tryz.ntmps110
    go_wp2_with (at_make; refine wpList_make_full _ rfl _ _ 32 rfl (w.heap.size) 117 iu (.int .u32 0) 1 Tryz.underlying32 hiu iuz0 iuz1 .i64 .i64 (0 : Int) (0 : Int) 0 rfl rfl rfl rfl ?m1 ?m2 (Nat.le_refl _) ?_)
    case m1 => simp
    case m2 => unfold maxLen; omega
    intro w2 hown2 hgrow2
    have hg2 : Grow w w2 := (Grow.refl w).grown hgrow2 (fun k hk => by cases hk)
    go_wp2_with fail
    go_loopw [15] (fun t15 wr => t15 = .int .i64 0 ∧ wr = w2) (fun _ _ => 0)
    case atStart => exact ⟨rfl, rfl⟩
    case round =>
      obtain ⟨rfl, rfl⟩ := hrel
      go_wp2_with fail
      go_ret
      exact ⟨_, rfl, .inl (.inl ⟨rfl, _, _, rfl⟩), hg2⟩
  · obtain ⟨s, hs⟩ : ∃ s, n1 - n2 = s := ⟨_, rfl⟩
    have hs2 : s < 4294967296 := by omega
    have AD := Lib.hid (fun u => sub32_any n1 n2 h p1 u)
    rw [hs] at AD ⊢
    clear hs
    rcases h2 with ⟨r0, a2, c2, rfl⟩ | ⟨r0, r1, b2, o2, c2, rfl, k2, q2, d2⟩
    · subst r0
      go_enter Tryz.func110, Tryz.ntmps110
      go_wp2_with (at_make; refine wpList_make_full _ rfl _ _ 32 rfl (w.heap.size) 117 iu (.int .u32 0) 1 Tryz.underlying32 hiu iuz0 iuz1 .i64 .i64 (1 : Int) (1 : Int) 1 rfl rfl rfl rfl ?m1 ?m2 (Nat.le_refl _) ?_)
      case m1 => first | omega | (rw [iuz2]; omega)
      case m2 => unfold maxLen; omega
      intro w2 hown2 hgrow2
      obtain ⟨g1, g2, g3⟩ := make_out hown2 (by omega)
      have hg2 : Grow w w2 := (Grow.refl w).grown hgrow2 (fun k hk => by cases hk)
      have g4 := g2 0 (by omega)
      go_wp2_with fail
      go_loopg [6, 15] 1 (fun k t6 t15 wr => ((k = 1 ∧ t6 = .int .u32 0 ∧ t15 = .int .i64 0 ∧ wr.cell? ⟨w.heap.size, 0, none⟩ = some (.int .u32 0)) ∨ (k = 0 ∧ t15 = .int .i64 1 ∧ wr.cell? ⟨w.heap.size, 0, none⟩ = some (.int .u32 (s : Int)))) ∧ (∀ o, wr.frozen? ⟨w.heap.size, o, none⟩ = false) ∧ w.heap.size < wr.heap.size ∧ Hid (Grow w wr))
      case atStart => exact ⟨.inl ⟨rfl, rfl, rfl, g4⟩, g3, g1, Lib.hid hg2⟩
      case round =>
        clear g1 g2 g3 g4 hg2 hown2 hgrow2
        obtain ⟨⟨hk, rfl, rfl, g4⟩ | ⟨hk, rfl, g4⟩, g3, g1, hg⟩ := hrel
        · have u1 := (hg.out.cells b1 o1 q1).trans d1
          have v1 : b1 < wr.heap.size := Nat.lt_of_lt_of_le q1 hg.out.size
          go_wp2_with (go_at_call 131; (refine (AD.out _).mono ?_); (rintro e w3 ⟨⟨cr, rfl⟩, rfl⟩))
          go_roundg 0
          case measure => omega
          case rel => exact ⟨.inr ⟨rfl, rfl, by go_simp⟩, by intro o; go_simp, by simpa [World.setCell] using g1, Lib.hid (by have h9 := hg.out; (repeat (first | with_reducible exact Grow.refl _ | with_reducible refine Grow.alloc ?_ _ | with_reducible refine Grow.drew ?_ | with_reducible refine Grow.drewN ?_ _ | (with_reducible refine Grow.setCell ?_ ?hp _; (case hp => (simp; try omega))) | with_reducible refine Grow.trans ?_ (by assumption))))⟩
        · go_wp2_with fail
          go_ret
          exact ⟨_, rfl, pad1 hs2 (by omega) g1 g4, hg.out⟩
    · go_enter Tryz.func110, Tryz.ntmps110
      go_wp2_with (at_make; refine wpList_make_full _ rfl _ _ 32 rfl (w.heap.size) 117 iu (.int .u32 0) 1 Tryz.underlying32 hiu iuz0 iuz1 .i64 .i64 (1 : Int) (1 : Int) 1 rfl rfl rfl rfl ?m1 ?m2 (Nat.le_refl _) ?_)
      case m1 => first | omega | (rw [iuz2]; omega)
      case m2 => unfold maxLen; omega
      intro w2 hown2 hgrow2
      obtain ⟨g1, g2, g3⟩ := make_out hown2 (by omega)
      have hg2 : Grow w w2 := (Grow.refl w).grown hgrow2 (fun k hk => by cases hk)
      have g4 := g2 0 (by omega)
      go_wp2_with fail
      go_loopg [6, 15] 1 (fun k t6 t15 wr => ((k = 1 ∧ t6 = .int .u32 0 ∧ t15 = .int .i64 0 ∧ wr.cell? ⟨w.heap.size, 0, none⟩ = some (.int .u32 0)) ∨ (k = 0 ∧ t15 = .int .i64 1 ∧ wr.cell? ⟨w.heap.size, 0, none⟩ = some (.int .u32 (s : Int)))) ∧ (∀ o, wr.frozen? ⟨w.heap.size, o, none⟩ = false) ∧ w.heap.size < wr.heap.size ∧ Hid (Grow w wr))
      case atStart => exact ⟨.inl ⟨rfl, rfl, rfl, g4⟩, g3, g1, Lib.hid hg2⟩
      case round =>
        clear g1 g2 g3 g4 hg2 hown2 hgrow2
        obtain ⟨⟨hk, rfl, rfl, g4⟩ | ⟨hk, rfl, g4⟩, g3, g1, hg⟩ := hrel
        · have u1 := (hg.out.cells b1 o1 q1).trans d1
          have v1 : b1 < wr.heap.size := Nat.lt_of_lt_of_le q1 hg.out.size
          have u2 := (hg.out.cells b2 o2 q2).trans d2
          have v2 : b2 < wr.heap.size := Nat.lt_of_lt_of_le q2 hg.out.size
          go_wp2_with (go_at_call 131; (refine (AD.out _).mono ?_); (rintro e w3 ⟨⟨cr, rfl⟩, rfl⟩))
          go_roundg 0
          case measure => omega
          case rel => exact ⟨.inr ⟨rfl, rfl, by go_simp⟩, by intro o; go_simp, by simpa [World.setCell] using g1, Lib.hid (by have h9 := hg.out; (repeat (first | with_reducible exact Grow.refl _ | with_reducible refine Grow.alloc ?_ _ | with_reducible refine Grow.drew ?_ | with_reducible refine Grow.drewN ?_ _ | (with_reducible refine Grow.setCell ?_ ?hp _; (case hp => (simp; try omega))) | with_reducible refine Grow.trans ?_ (by assumption))))⟩
        · go_wp2_with fail
          go_ret
          exact ⟨_, rfl, pad1 hs2 (by omega) g1 g4, hg.out⟩
set_option maxHeartbeats 1000000 in
theorem times_any (m1 m2 : Value) (n1 n2 : Nat) (h : n1 * n2 < 4294967296) (w : World) (h1 : MagR w m1 n1) (h2 : MagR w m2 n2) : Calls Tryz.prog 77 #[m1, m2] w fun e w' => ∃ m, e = .returned m ∧ MagR w' m (n1 * n2) ∧ Grow w w' := by
  rcases h1 with ⟨p0, a1, c1, rfl⟩ | ⟨p0, p1, b1, o1, c1, rfl, k1, q1, d1⟩
  · subst p0
    rw [Nat.zero_mul]
    obtain ⟨a2, c2, rfl⟩ := h2.form
    clear h2
    generalize (if n2 = 0 then 0 else 1) = ln
    go_enter Tryz.func77, Tryz.ntmps77
    go_wp2_with fail
    go_ret
    exact ⟨_, rfl, .inl ⟨rfl, _, _, rfl⟩, Grow.refl _⟩
  · rcases h2 with ⟨r0, a2, c2, rfl⟩ | ⟨r0, r1, b2, o2, c2, rfl, k2, q2, d2⟩
    · subst r0
      rw [Nat.mul_zero]
      go_enter Tryz.func77, Tryz.ntmps77
      go_wp2_with fail
      go_ret
      exact ⟨_, rfl, .inl ⟨rfl, _, _, rfl⟩, Grow.refl _⟩
    · obtain ⟨s, hs⟩ : ∃ s, n1 * n2 = s := ⟨_, rfl⟩
      have y1 : IntKind.u64.wrap (n1 : Int) = (n1 : Int) := IntWalk.u64_in _ (by omega)
      have y2 : IntKind.u64.wrap (n2 : Int) = (n2 : Int) := IntWalk.u64_in _ (by omega)
      have ym : (n1 : Int) * (n2 : Int) = (s : Int) := by rw [← hs]; simp
      rw [hs] at h ⊢
      have y3 : IntKind.u64.wrap ((n1 : Int) * (n2 : Int)) = (s : Int) := by rw [ym]; exact IntWalk.u64_in _ (by omega)
      have WD := Lib.hid (fun u => wide_any s h u)
      clear hs ym
      go_enter Tryz.func77, Tryz.ntmps77
      go_wp2_with fail
      go_region_with (go_at_call 69; (refine (WD.out _).mono ?_); (rintro e w3 ⟨m3, rfl, hm3, hb3⟩))
      all_goals go_wp2_with fail
      all_goals go_ret
      all_goals exact ⟨_, rfl, by first | exact hm3 | exact hm3.grow ((Grow.refl _).drewN _), by first | exact hb3 | (repeat (first | with_reducible exact Grow.refl _ | with_reducible refine Grow.alloc ?_ _ | with_reducible refine Grow.drew ?_ | with_reducible refine Grow.drewN ?_ _ | (with_reducible refine Grow.setCell ?_ ?hp _; (case hp => (simp; try omega))) | with_reducible refine Grow.trans ?_ (by assumption)))⟩
def cmpN (a b : Nat) : Int := if a < b then -1 else if b < a then 1 else 0
set_option maxHeartbeats 1000000 in
theorem sign_any (z : Int) (w : World) : Calls Tryz.prog 130 #[.int .i64 z] w fun e w' => e = .returned (.int .i64 (if z < 0 then -1 else if 0 < z then 1 else 0)) ∧ w = w' := by
  by_cases h1 : z < 0
  · rw [if_pos h1]
    go_enter Tryz.func130, Tryz.ntmps130
    go_wp2_with fail
    go_ret
    exact ⟨rfl, rfl⟩
  · rw [if_neg h1]
    by_cases h2 : 0 < z
    · rw [if_pos h2]
      go_enter Tryz.func130, Tryz.ntmps130
      go_wp2_with fail
      go_ret
      exact ⟨rfl, rfl⟩
    · rw [if_neg h2]
      go_enter Tryz.func130, Tryz.ntmps130
      go_wp2_with fail
      go_ret
      exact ⟨rfl, rfl⟩
end Go.Proofs.YtbpkfcohbefphaaGreat
/- Rows of any element in memory: what a slice reads, and its append onto an own row. -/
namespace Go.Proofs.YtbpkfcohbefphaaGreat
open Go Go.RowKit

/-- The slice value v reads as n elements of `size` cells each, whose cells are xs. -/
def RdRow (w : World) (size : Nat) (v : Value) (n : Nat) (xs : List Value) : Prop :=
  xs.length = n * size ∧ (∀ u ∈ xs, u.oneCell' = true) ∧ ((n = 0 ∧ ∃ a cap, v = .slice a 0 cap) ∨ (∃ b off cap, v = .slice (some ⟨b, off, none⟩) n cap ∧ b < w.heap.size ∧ n ≤ cap ∧ ∀ j u, xs[j]? = some u → w.cell? ⟨b, off + j, none⟩ = some u))
theorem RdRow.grow {w w' : World} {size n : Nat} {v : Value} {xs : List Value} (h : RdRow w size v n xs) (hg : Grow w w') : RdRow w' size v n xs := by
  obtain ⟨h1, h2, h3⟩ := h
  refine ⟨h1, h2, ?_⟩
  rcases h3 with h3 | ⟨b, off, cap, hv, hb, hk, hc⟩
  · exact .inl h3
  · exact .inr ⟨b, off, cap, hv, Nat.lt_of_lt_of_le hb hg.size, hk, fun j u hu => (hg.cells b _ hb).trans (hc j u hu)⟩
theorem RdRow.form {w : World} {size n : Nat} {v : Value} {xs : List Value} (h : RdRow w size v n xs) : ∃ a cap, v = .slice a n cap := by
  rcases h.2.2 with ⟨rfl, a, cap, hv⟩ | ⟨b, off, cap, hv, -⟩
  · exact ⟨a, cap, hv⟩
  · exact ⟨_, cap, hv⟩
theorem own_rdrow {w : World} {base : Nat} {e : TypeId} {size n : Nat} {v : Value} {xs : List Value} (h : w.ownsRow base e size v n xs) (h1 : ∀ u ∈ xs, u.oneCell' = true) : RdRow w size v n xs := by
  refine ⟨h.1, h1, ?_⟩
  rcases h.2 with ⟨hv, h0⟩ | ⟨g, cap, cur, hv, hb, hh, hle, hr⟩
  · exact .inl ⟨h0, none, 0, hv⟩
  · refine .inr ⟨g, 0, cap, hv, (Array.getElem?_eq_some_iff.1 hh).1, hle, fun j u hu => ?_⟩
    have h1 := World.ownsRow.cells h (g := g) (by rw [hv]; rfl) _ _ hu
    rw [Addr.add_lit] at h1
    exact h1
section
variable {P : Program}
theorem RdRow.src {w : World} {size n : Nat} {x : Value} {xs : List Value} (h : RdRow w size x n xs) {tx e' : TypeId} (hk : P.underlying tx = some (.slice e')) : Src P size tx x n xs w := by
  obtain ⟨h1, h2, h3⟩ := h
  rcases h3 with ⟨rfl, a, cap, rfl⟩ | ⟨b, off, cap, rfl, hb, hle, hc⟩
  · obtain rfl : xs = [] := List.eq_nil_of_length_eq_zero (by simpa using h1)
    cases a with
    | none => exact Src.ofNil w hk cap
    | some a => exact Src.ofSlice w hk a 0 cap [] (by simp) (by intro j u h; simp at h) (by intro u h; cases h)
  · refine Src.ofSlice w hk _ _ _ _ h1 (fun j u hj => ?_) h2
    rw [Addr.add_lit]
    exact hc j u hj
theorem run_append_rd {ty t e : TypeId} {i : TypeInfo} {z : Value} {size bytes : Nat} (ht : P.underlying t = some (.slice e)) (hi : P.info? e = some i) (hz : i.zero = some z) (hsize : i.size = size) (hby : i.bytes = bytes) (hzs : z.cells.size = size) (hs0 : 0 < size)
    (w : World) (base : Nat) (v : Value) (n : Nat) (xs : List Value) (hown : w.ownsRow base e size v n xs) (x : Value) (m : Nat) (news : List Value) (hx : RdRow w size x m news) (hl : n + m ≤ 1000000) (hbb : bytes ≤ 1000) (hb : base ≤ w.heap.size) :
    ∃ v' w', (Builtin.append_ #[t, t] ty #[v, x]).run P w = .ok v' w' ∧ w'.ownsRow base e size v' (n + m) (xs ++ news) ∧ w.grownBy w' v.ownBlock := by
  by_cases h0 : m = 0
  · subst h0
    have hsrc := hx.src (P := P) ht
    obtain rfl : news = [] := List.eq_nil_of_length_eq_zero (by simpa using hx.1)
    have hv : ∃ b c, v = .slice b n c ∧ n ≤ c := by
      rcases hown.2 with ⟨rfl, rfl⟩ | ⟨g, cap, cur, rfl, _, _, h3, _⟩
      · exact ⟨none, 0, rfl, by omega⟩
      · exact ⟨_, cap, rfl, h3⟩
    obtain ⟨b, c, rfl, hc⟩ := hv
    have hr := run_append_nothing (P := P) w t t ty e i ht hi b n c hc x (by rw [hsize]; exact hsrc)
    exact ⟨_, _, hr, by simpa using hown, World.grownBy.refl _ _⟩
  · obtain ⟨h1, h2, h3⟩ := hx
    rcases h3 with ⟨rfl, _⟩ | ⟨b, off, cap, rfl, hbk, hle, hc⟩
    · exact absurd rfl h0
    · have hbm : (n + m) * bytes ≤ 1000000 * 1000 := Nat.mul_le_mul hl hbb
      obtain ⟨v', w', hr, q1, q2, _⟩ := run_append_own (P := P) w base t ty e i z size bytes ht hi hz hsize hby hzs hs0 v n xs hown ⟨b, off, none⟩ m cap news h1
        (fun j u hj => by rw [Addr.add_lit]; exact hc j u hj) h2 (by unfold maxLen; omega) (by omega) hb
      exact ⟨v', w', hr, q1, q2⟩
theorem wpList_append_rd (w : World) {ops : Array Oper} {rest : List Oper} {o : Oper} {a : Act} {Q : Exit → Act → World → Prop} (hgd : o.guard = none) (s x : Operand) (t : TypeId)
    (ho : o.op = .call { callee := .builtin .append, args := #[s, x], argTypes := #[t, t] }) (e : TypeId) (i : TypeInfo) (z : Value) (size bytes : Nat) (ht : P.underlying t = some (.slice e)) (hi : P.info? e = some i) (hz : i.zero = some z) (hsize : i.size = size) (hby : i.bytes = bytes) (hzs : z.cells.size = size) (hs0 : 0 < size)
    (base : Nat) (v : Value) (n : Nat) (xs : List Value) (hs : a.eval s = v) (hown : w.ownsRow base e size v n xs) (vx : Value) (m : Nat) (news : List Value) (hx : a.eval x = vx) (hrd : RdRow w size vx m news) (hl : n + m ≤ 1000000) (hbb : bytes ≤ 1000) (hb : base ≤ w.heap.size)
    (h : ∀ v' w', w'.ownsRow base e size v' (n + m) (xs ++ news) → w.grownBy w' v.ownBlock → wpList P ops Q rest (a.put o.dst v') w') : wpList P ops Q (o :: rest) a w := by
  refine wpList_plain hgd fun K hK' => ?_
  obtain ⟨v', w', hrun, r1, r2⟩ := run_append_rd (P := P) (ty := o.type) ht hi hz hsize hby hzs hs0 w base v n xs hown vx m news hrd hl hbb hb
  unfold Oper.wp
  simp [execOp, ho, resolve, invoke, builtin, hs, hx, hrun, Result.andThen]
  exact hK' _ _ (h v' w' r1 r2)
end
end Go.Proofs.YtbpkfcohbefphaaGreat
/- Walks over lists of at most one digit: compare, Clone, divide, common. -/
namespace Go.Proofs.YtbpkfcohbefphaaGreat
open Go Go.RowKit

set_option maxHeartbeats 1000000 in
theorem compare_any (m1 m2 : Value) (n1 n2 : Nat) (w : World) (h1 : MagR w m1 n1) (h2 : MagR w m2 n2) : Calls Tryz.prog 109 #[m1, m2] w fun e w' => e = .returned (.int .i64 (cmpN n1 n2)) ∧ Grow w w' := by
  rcases h1 with ⟨p0, a1, c1, rfl⟩ | ⟨p0, p1, b1, o1, c1, rfl, k1, q1, d1⟩
  · subst p0
    rcases h2 with ⟨r0, a2, c2, rfl⟩ | ⟨r0, r1, b2, o2, c2, rfl, k2, q2, d2⟩
    · subst r0
      go_enter Tryz.func109, Tryz.ntmps109
      go_wp2_with fail
      go_loopw [5] (fun t5 wr => t5 = .int .i64 (-1) ∧ wr = w) (fun _ _ => 0)
      case atStart => exact ⟨rfl, rfl⟩
      case round =>
        obtain ⟨rfl, rfl⟩ := hrel
        go_wp2_with fail
        go_ret
        exact ⟨rfl, by (repeat (first | with_reducible exact Grow.refl _ | with_reducible refine Grow.alloc ?_ _ | with_reducible refine Grow.drew ?_ | with_reducible refine Grow.drewN ?_ _ | (with_reducible refine Grow.setCell ?_ ?hp _; (case hp => (simp; try omega))) | with_reducible refine Grow.trans ?_ (by assumption)))⟩
    · have hc : cmpN 0 n2 = -1 := by unfold cmpN; rw [if_pos r0]
      rw [hc]
      go_enter Tryz.func109, Tryz.ntmps109
      go_wp2_with (go_at_call 130; (refine (sign_any (-1) _).mono ?_); (rintro e w1 ⟨rfl, rfl⟩))
      go_ret
      exact ⟨by simp, by (repeat (first | with_reducible exact Grow.refl _ | with_reducible refine Grow.alloc ?_ _ | with_reducible refine Grow.drew ?_ | with_reducible refine Grow.drewN ?_ _ | (with_reducible refine Grow.setCell ?_ ?hp _; (case hp => (simp; try omega))) | with_reducible refine Grow.trans ?_ (by assumption)))⟩
  · rcases h2 with ⟨r0, a2, c2, rfl⟩ | ⟨r0, r1, b2, o2, c2, rfl, k2, q2, d2⟩
    · subst r0
      have hc : cmpN n1 0 = 1 := by unfold cmpN; rw [if_neg (by omega), if_pos p0]
      rw [hc]
      go_enter Tryz.func109, Tryz.ntmps109
      go_wp2_with (go_at_call 130; (refine (sign_any 1 _).mono ?_); (rintro e w1 ⟨rfl, rfl⟩))
      go_ret
      exact ⟨by simp, by (repeat (first | with_reducible exact Grow.refl _ | with_reducible refine Grow.alloc ?_ _ | with_reducible refine Grow.drew ?_ | with_reducible refine Grow.drewN ?_ _ | (with_reducible refine Grow.setCell ?_ ?hp _; (case hp => (simp; try omega))) | with_reducible refine Grow.trans ?_ (by assumption)))⟩
    · go_enter Tryz.func109, Tryz.ntmps109
      go_wp2_with fail
      go_loopg [5] 1 (fun k t5 wr => ((k = 1 ∧ t5 = .int .i64 0) ∨ (k = 0 ∧ t5 = .int .i64 (-1) ∧ n1 = n2)) ∧ ∃ d, wr = w.drewN d)
      case atStart => exact ⟨.inl ⟨rfl, rfl⟩, 0, rfl⟩
      case round =>
        obtain ⟨⟨hk, rfl⟩ | ⟨hk, rfl, he⟩, d, rfl⟩ := hrel
        · by_cases he : n1 = n2
          · have e1 : ((n1 : Int) != (n2 : Int)) = false := by simp [he]
            have HE := Lib.hid he
            clear he
            go_wp2_with fail
            go_quiet (fail)
            go_wp2_with fail
            go_roundg 0
            case measure => omega
            case rel => exact ⟨.inr ⟨rfl, rfl, HE.out⟩, _, rfl⟩
          · have e1 : ((n1 : Int) != (n2 : Int)) = true := by simp; omega
            by_cases hl : n1 < n2
            · have hc : cmpN n1 n2 = -1 := by unfold cmpN; rw [if_pos hl]
              have e2 : decide ((n1 : Int) < (n2 : Int)) = true := by simp; omega
              have e3 : decide (n1 < n2) = true := by simp; omega
              have HC := Lib.hid hc
              clear he hl hc
              go_wp2_with fail
              go_quiet (fail)
              go_wp2_with fail
              go_quiet (fail)
              go_wp2_with fail
              go_ret
              exact ⟨(congrArg (fun x => Ending.returned (Value.int .i64 x)) HC.out.symm), by (repeat (first | with_reducible exact Grow.refl _ | with_reducible refine Grow.alloc ?_ _ | with_reducible refine Grow.drew ?_ | with_reducible refine Grow.drewN ?_ _ | (with_reducible refine Grow.setCell ?_ ?hp _; (case hp => (simp; try omega))) | with_reducible refine Grow.trans ?_ (by assumption)))⟩
            · have hc : cmpN n1 n2 = 1 := by unfold cmpN; rw [if_neg hl, if_pos (by omega)]
              have e2 : decide ((n1 : Int) < (n2 : Int)) = false := by simp; omega
              have e3 : decide (n1 < n2) = false := by simp; omega
              have HC := Lib.hid hc
              clear he hl hc
              go_wp2_with fail
              go_quiet (fail)
              go_wp2_with fail
              go_quiet (fail)
              go_wp2_with fail
              go_ret
              exact ⟨(congrArg (fun x => Ending.returned (Value.int .i64 x)) HC.out.symm), by (repeat (first | with_reducible exact Grow.refl _ | with_reducible refine Grow.alloc ?_ _ | with_reducible refine Grow.drew ?_ | with_reducible refine Grow.drewN ?_ _ | (with_reducible refine Grow.setCell ?_ ?hp _; (case hp => (simp; try omega))) | with_reducible refine Grow.trans ?_ (by assumption)))⟩
        · have hc : cmpN n1 n2 = 0 := by unfold cmpN; rw [if_neg (by omega), if_neg (by omega)]
          have HC := Lib.hid hc
          clear hc he
          go_wp2_with fail
          go_ret
          exact ⟨(congrArg (fun x => Ending.returned (Value.int .i64 x)) HC.out.symm), by (repeat (first | with_reducible exact Grow.refl _ | with_reducible refine Grow.alloc ?_ _ | with_reducible refine Grow.drew ?_ | with_reducible refine Grow.drewN ?_ _ | (with_reducible refine Grow.setCell ?_ ?hp _; (case hp => (simp; try omega))) | with_reducible refine Grow.trans ?_ (by assumption)))⟩
theorem MagR.row {w : World} {m : Value} {n : Nat} (h : MagR w m n) : RdRow w 1 m (if n = 0 then 0 else 1) (if n = 0 then [] else [.int .u32 (n : Int)]) := by
  rcases h with ⟨h0, a, cap, rfl⟩ | ⟨h0, h1, b, off, cap, rfl, hk, hb, hc⟩
  · rw [if_pos h0, if_pos h0]
    exact ⟨rfl, by simp, .inl ⟨rfl, a, cap, rfl⟩⟩
  · rw [if_neg (by omega), if_neg (by omega)]
    refine ⟨rfl, by simp; rfl, .inr ⟨b, off, cap, rfl, hb, hk, fun j u hj => ?_⟩⟩
    match j, hj with
    | 0, hj => simp at hj; subst hj; exact hc
theorem MagR.of_row {w : World} {m : Value} {n : Nat} (hn : n < 4294967296) (h : RdRow w 1 m (if n = 0 then 0 else 1) (if n = 0 then [] else [.int .u32 (n : Int)])) : MagR w m n := by
  by_cases h0 : n = 0
  · rw [if_pos h0, if_pos h0] at h
    obtain ⟨a, cap, hv⟩ := h.form
    exact .inl ⟨h0, a, cap, hv⟩
  · rw [if_neg h0, if_neg h0] at h
    obtain ⟨-, -, ⟨hz, -⟩ | ⟨b, off, cap, hv, hb, hk, hc⟩⟩ := h
    · cases hz
    · exact .inr ⟨by omega, hn, b, off, cap, hv, hk, hb, hc 0 _ rfl⟩
theorem eql_nil {P : Program} (w : World) (t e : TypeId) (a : Option Addr) (n c : Nat) (h : P.underlying t = some (.slice e)) : (binOp .eql t (.slice a n c) (.slice none 0 0)).run P w = .ok (.bool a.isNone) w := by
  simp only [binOp]
  simp [Op.equal, Op.maxDepth, Lib.run_equalIn_slice_nil w 9999 t e a n c 0 0 h]
set_option maxRecDepth 20000 in
set_option maxHeartbeats 1000000 in
theorem clone_any (m : Value) (n : Nat) (w : World) (h : MagR w m n) : Calls Tryz.prog 101 #[m] w fun e w' => ∃ m', e = .returned m' ∧ MagR w' m' n ∧ Grow w w' := by
  obtain ⟨iu, hiu, iuz0, iuz1, iuz2⟩ := info_parts infoU
  have hlt := h.lt
  obtain ⟨a, cap, hm⟩ := h.form
  have hrow := h.row
  rw [hm] at hrow ⊢
  cases a with
  | none =>
    have h0 : n = 0 := by
      rcases h with ⟨h0, _⟩ | ⟨h0, h1, b, off, c2, h2, _⟩
      · exact h0
      · rw [hm] at h2; cases h2
    subst h0
    have hsn : ∀ u : World, (binOp .eql 32 (.slice none 0 cap) (.slice none 0 0)).run Tryz.prog u = .ok (.bool true) u := fun u => eql_nil u _ _ _ _ _ Tryz.underlying32
    go_enter Tryz.func101, Tryz.ntmps101
    go_wp2_with fail
    go_ret
    exact ⟨_, rfl, .inl ⟨rfl, _, _, rfl⟩, Grow.refl _⟩
  | some ad =>
    have HR := Lib.hid hrow
    obtain ⟨ln, hln⟩ : ∃ ln, (if n = 0 then 0 else 1) = ln := ⟨_, rfl⟩
    have hln1 : ln ≤ 1 := by rw [← hln]; split <;> omega
    rw [hln] at HR ⊢
    have HLN := Lib.hid hln
    obtain ⟨xs, hxs⟩ : ∃ xs, (if n = 0 then [] else [Value.int .u32 (n : Int)]) = xs := ⟨_, rfl⟩
    rw [hxs] at HR
    have HXS := Lib.hid hxs
    clear hrow hm h hln hxs
    have hsn : ∀ u : World, (binOp .eql 32 (.slice (some ad) ln cap) (.slice none 0 0)).run Tryz.prog u = .ok (.bool false) u := fun u => eql_nil u _ _ _ _ _ Tryz.underlying32
    go_enter Tryz.func101, Tryz.ntmps101
    go_wp2_with (at_builtin; refine wpList_append_rd _ rfl _ _ 32 rfl 117 iu (.int .u32 0) 1 4 Tryz.underlying32 hiu iuz0 iuz1 iuz2 rfl (by decide) (w.heap.size) _ 0 [] rfl (World.ownsRow_lit w #[] 0 (by omega) (by decide) rfl) _ ln xs rfl (HR.out.grow ((Grow.refl w).alloc _)) (by omega) (by decide) (by simp) ?_)
    intro v3 w3 hown3 hgrow3
    have hr3 := own_rdrow hown3 (by simpa using HR.out.2.1)
    have hg3 : Grow w w3 := own_grow ((Grow.refl w).alloc _) (World.ownsRow_lit (base := w.heap.size) (e := 117) (size := 1) w #[] 0 (Nat.le_refl _) (by decide) rfl) hgrow3 (Nat.le_refl _)
    rw [← HLN.out, ← HXS.out] at hr3
    have HM := Lib.hid (MagR.of_row hlt hr3)
    clear hown3 hgrow3 hr3 HLN HXS
    go_wp2_with fail
    go_ret
    exact ⟨_, rfl, HM.out, hg3⟩
set_option maxRecDepth 20000 in
set_option maxHeartbeats 2000000 in
theorem divide_any (m1 m2 : Value) (n1 n2 : Nat) (hn2 : 0 < n2) (w : World) (h1 : MagR w m1 n1) (h2 : MagR w m2 n2) :
    Calls Tryz.prog 117 #[m1, m2] w fun e w' => ∃ q r, e = .returned (.tuple #[q, r]) ∧ MagR w' q (n1 / n2) ∧ MagR w' r (n1 % n2) ∧ Grow w w' := by
  have hl1 := h1.lt
  have hl2 := h2.lt
  have CP := Lib.hid (fun u hu => compare_any m1 m2 n1 n2 u (h1.grow hu) (h2.grow hu))
  by_cases hlt : n1 < n2
  · have hc : cmpN n1 n2 = -1 := by unfold cmpN; rw [if_pos hlt]
    rw [hc] at CP
    have CL := Lib.hid (fun u hu => clone_any m1 n1 u (h1.grow hu))
    rw [Nat.div_eq_of_lt hlt, Nat.mod_eq_of_lt hlt]
    clear hc hlt h1 h2
    go_enter Tryz.func117, Tryz.ntmps117
    go_wp2_with (first
      | (go_at_call 109; (refine (CP.out _ (Grow.refl w)).mono ?_); (rintro e w1 ⟨rfl, hb1⟩))
      | (go_at_call 101; (refine (CL.out _ hb1).mono ?_); (rintro e w2 ⟨m3, rfl, hm3, hb2⟩)))
    refine bodyPost_ret (v := .tuple #[.slice none 0 0, m3]) (by simp only [results, Tryz.results117]; go_simp) rfl ⟨_, _, rfl, .inl ⟨rfl, _, _, rfl⟩, hm3, hb1.trans hb2⟩
  · have hc : 0 ≤ cmpN n1 n2 := by unfold cmpN; rw [if_neg hlt]; split <;> omega
    obtain ⟨C, hC⟩ : ∃ C, cmpN n1 n2 = C := ⟨_, rfl⟩
    rw [hC] at CP hc
    have hc2 : ¬ C < 0 := by omega
    have W1 := Lib.hid (fun u hu => word_any m1 n1 u (h1.grow hu))
    have W2 := Lib.hid (fun u hu => word_any m2 n2 u (h2.grow hu))
    obtain ⟨a1, c1, rfl⟩ := h1.form
    have hln : (if n1 = 0 then 0 else 1) ≤ 2 := by split <;> omega
    obtain ⟨ln, hl⟩ : ∃ ln, (if n1 = 0 then 0 else 1) = ln := ⟨_, rfl⟩
    rw [hl] at hln CP W1 ⊢
    have hln2 : (ln : Int) ≤ 2 := by omega
    have yne : ¬ (n2 : Int) = 0 := by omega
    have yne2 : ((n2 : Int) == 0) = false := by simpa using yne
    have t1 : (n1 : Int).tdiv (n2 : Int) = ((n1 / n2 : Nat) : Int) := rfl
    have t2 : (n1 : Int).tmod (n2 : Int) = ((n1 % n2 : Nat) : Int) := rfl
    have hq1 : n1 / n2 ≤ n1 := Nat.div_le_self _ _
    have hr1 : n1 % n2 < n2 := Nat.mod_lt _ hn2
    obtain ⟨Q, hQ⟩ : ∃ Q, n1 / n2 = Q := ⟨_, rfl⟩
    obtain ⟨R, hR⟩ : ∃ R, n1 % n2 = R := ⟨_, rfl⟩
    rw [hQ] at t1 hq1 ⊢
    rw [hR] at t2 hr1 ⊢
    have y1 : IntKind.u64.wrap (Q : Int) = (Q : Int) := IntWalk.u64_in _ (by omega)
    have y2 : IntKind.u64.wrap (R : Int) = (R : Int) := IntWalk.u64_in _ (by omega)
    have WQ := Lib.hid (fun u => wide_any Q (by omega) u)
    have WR := Lib.hid (fun u => wide_any R (by omega) u)
    clear hlt hC h1 h2 hl hQ hR hq1 hr1
    go_enter Tryz.func117, Tryz.ntmps117
    go_wp2_with (first
      | (go_at_call 109; (refine (CP.out _ (Grow.refl w)).mono ?_); (rintro e w1 ⟨rfl, hb1⟩))
      | (go_at_call 88; first | ((with_reducible refine (W1.out _ hb1).mono ?_); (rintro e w2 ⟨rfl, rfl⟩)) | ((with_reducible refine (W2.out _ hb1).mono ?_); (rintro e w3 ⟨rfl, rfl⟩))))
    go_region_with (go_at_call 69; first | ((with_reducible refine (WQ.out _).mono ?_); (rintro e w4 ⟨m4, rfl, hm4, hb4⟩)) | ((with_reducible refine (WR.out _).mono ?_); (rintro e w5 ⟨m5, rfl, hm5, hb5⟩)))
    all_goals go_wp2_with fail
    all_goals refine bodyPost_ret (v := .tuple #[m4, m5]) (by simp only [results, Tryz.results117]; go_simp) rfl ⟨_, _, rfl, hm4.grow (by (repeat (first | with_reducible exact Grow.refl _ | with_reducible refine Grow.alloc ?_ _ | with_reducible refine Grow.drew ?_ | with_reducible refine Grow.drewN ?_ _ | (with_reducible refine Grow.setCell ?_ ?hp _; (case hp => (simp; try omega))) | with_reducible refine Grow.trans ?_ (by assumption)))), hm5.grow (by (repeat (first | with_reducible exact Grow.refl _ | with_reducible refine Grow.alloc ?_ _ | with_reducible refine Grow.drew ?_ | with_reducible refine Grow.drewN ?_ _ | (with_reducible refine Grow.setCell ?_ ?hp _; (case hp => (simp; try omega))) | with_reducible refine Grow.trans ?_ (by assumption)))), by (repeat (first | with_reducible exact Grow.refl _ | with_reducible refine Grow.alloc ?_ _ | with_reducible refine Grow.drew ?_ | with_reducible refine Grow.drewN ?_ _ | (with_reducible refine Grow.setCell ?_ ?hp _; (case hp => (simp; try omega))) | with_reducible refine Grow.trans ?_ (by assumption)))⟩
set_option maxRecDepth 20000 in
set_option maxHeartbeats 2000000 in
theorem common_any (m1 m2 : Value) (n1 n2 : Nat) (w : World) (h1 : MagR w m1 n1) (h2 : MagR w m2 n2) :
    Calls Tryz.prog 102 #[m1, m2] w fun e w' => ∃ m, e = .returned m ∧ MagR w' m (Nat.gcd n1 n2) ∧ Grow w w' := by
  by_cases h0 : n2 = 0
  · subst h0
    rw [Nat.gcd_zero_right]
    have CL := Lib.hid (fun u hu => clone_any m1 n1 u (h1.grow hu))
    obtain ⟨a2, c2, rfl⟩ := h2.form
    rw [if_pos rfl]
    clear h1 h2
    go_enter Tryz.func102, Tryz.ntmps102
    go_wp2_with fail
    go_loopw [0, 1] (fun t0 t1 wr => t0 = m1 ∧ t1 = .slice a2 0 c2 ∧ wr = w) (fun _ _ _ => 0)
    case atStart => exact ⟨rfl, rfl, rfl⟩
    case round =>
      obtain ⟨rfl, rfl, rfl⟩ := hrel
      go_wp2_with (go_at_call 101; (refine (CL.out _ (Grow.refl _)).mono ?_); (rintro e w2 ⟨m3, rfl, hm3, hb2⟩))
      go_ret
      exact ⟨_, rfl, hm3, hb2⟩
  · have hl1 := h1.lt
    have hl2 := h2.lt
    have W1 := Lib.hid (fun u hu => word_any m1 n1 u (h1.grow hu))
    have W2 := Lib.hid (fun u hu => word_any m2 n2 u (h2.grow hu))
    obtain ⟨a1, c1, rfl⟩ := h1.form
    obtain ⟨a2, c2, rfl⟩ := h2.form
    rw [if_neg h0] at W2 ⊢
    have hln : (if n1 = 0 then 0 else 1) ≤ 2 := by split <;> omega
    obtain ⟨ln, hl⟩ : ∃ ln, (if n1 = 0 then 0 else 1) = ln := ⟨_, rfl⟩
    rw [hl] at hln W1 ⊢
    have hln2 : (ln : Int) ≤ 2 := by omega
    obtain ⟨G, hG⟩ : ∃ G, Nat.gcd n1 n2 = G := ⟨_, rfl⟩
    have hGl : G < 4294967296 := by
      have : Nat.gcd n1 n2 ≤ n2 := Nat.le_of_dvd (by omega) (Nat.gcd_dvd_right ..)
      omega
    rw [hG]
    have WG := Lib.hid (fun u => wide_any G hGl u)
    have HG := Lib.hid hG
    clear h1 h2 hl hG
    go_enter Tryz.func102, Tryz.ntmps102
    go_wp2_with fail
    go_loopw [0, 1] (fun t0 t1 wr => t0 = .slice a1 ln c1 ∧ t1 = .slice a2 1 c2 ∧ wr = w) (fun _ _ _ => 0)
    case atStart => exact ⟨rfl, rfl, rfl⟩
    case round =>
      obtain ⟨rfl, rfl, hwr⟩ := hrel
      subst hwr
      go_wp2_with (go_at_call 88; first | ((with_reducible refine (W1.out _ (Grow.refl _)).mono ?_); (rintro e w2 ⟨rfl, rfl⟩)) | ((with_reducible refine (W2.out _ (Grow.refl _)).mono ?_); (rintro e w3 ⟨rfl, rfl⟩)))
      obtain ⟨w0, hw0⟩ : ∃ x, x = wr := ⟨wr, rfl⟩
      subst hw0
      go_loopw [5, 6] (fun u v wr => ∃ x y : Nat, u = .int .u64 (x : Int) ∧ v = .int .u64 (y : Int) ∧ x < 4294967296 ∧ y < 4294967296 ∧ Hid (Nat.gcd x y = G) ∧ Hid (Grow w0 wr)) (fun _ v _ => (match v with | .int _ n => n | _ => 0).natAbs)
      case atStart => exact ⟨n1, n2, rfl, rfl, hl1, hl2, HG, Lib.hid (Grow.refl _)⟩
      case round =>
        obtain ⟨x, y, rfl, rfl, hx, hy, hg, hgr⟩ := hrel
        by_cases hy0 : y = 0
        · subst hy0
          have hxG : x = G := by rw [← hg.out, Nat.gcd_zero_right]
          subst hxG
          go_wp2_with (go_at_call 69; (refine (WG.out _).mono ?_); (rintro e w4 ⟨m4, rfl, hm4, hb4⟩))
          go_ret
          exact ⟨_, rfl, hm4, hgr.out.trans hb4⟩
        · have e1 : ((y : Int) != 0) = true := by simp; omega
          have yne : ¬ (y : Int) = 0 := by omega
          have yne2 : ((y : Int) == 0) = false := by simpa using yne
          have t2 : (x : Int).tmod (y : Int) = ((x % y : Nat) : Int) := rfl
          have hr1 : x % y < y := Nat.mod_lt _ (by omega)
          have hgg : Nat.gcd y (x % y) = G := by rw [← hg.out, Nat.gcd_comm x y, Nat.gcd_rec y x, Nat.gcd_comm]
          obtain ⟨R, hR⟩ : ∃ R, x % y = R := ⟨_, rfl⟩
          rw [hR] at t2 hr1 hgg
          have HGG := Lib.hid hgg
          have y2 : IntKind.u64.wrap (R : Int) = (R : Int) := IntWalk.u64_in _ (by omega)
          clear hR hgg hg hy0
          go_wp2_with fail
          go_quiet (fail)
          go_wp2_with fail
          go_roundw
          case rel => exact ⟨y, R, rfl, rfl, hy, by omega, HGG, Lib.hid (hgr.out.drewN _)⟩
          case measure => simp; omega
end Go.Proofs.YtbpkfcohbefphaaGreat
/- Walks over integers: Mul, Normal, Neg, Gcd. -/
namespace Go.Proofs.YtbpkfcohbefphaaGreat
open Go Go.RowKit

theorem sg_mul (x y : Int) : ((sgB x != sgB y) && decide ((x * y).natAbs ≠ 0)) = sgB (x * y) := by
  unfold sgB
  rcases Int.lt_trichotomy x 0 with hx | hx | hx <;> rcases Int.lt_trichotomy y 0 with hy | hy | hy
  · have h := Int.mul_pos_of_neg_of_neg hx hy
    simp [hx, hy]; omega
  · subst hy; simp
  · have h := Int.mul_neg_of_neg_of_pos hx hy
    have h2 : ¬ y < 0 := by omega
    simp [hx, h2, h]; omega
  · subst hx; simp
  · subst hx; simp
  · subst hx; simp
  · have h := Int.mul_neg_of_pos_of_neg hx hy
    have h2 : ¬ x < 0 := by omega
    simp [hy, h2, h]; omega
  · subst hy; simp
  · have h := Int.mul_pos hx hy
    have h1 : ¬ x < 0 := by omega
    have h2 : ¬ y < 0 := by omega
    simp [h1, h2]; omega
set_option maxRecDepth 20000 in
set_option maxHeartbeats 4000000 in
theorem mul_any (z1 z2 : Int) (m1 m2 : Value) (h : (z1 * z2).natAbs < 4294967296) (w : World) (h1 : MagR w m1 z1.natAbs) (h2 : MagR w m2 z2.natAbs) :
    Calls Tryz.prog 38 #[.agg #[.bool (sgB z1), m1], .agg #[.bool (sgB z2), m2]] w fun e w' => ∃ m, e = .returned (.agg #[.bool (sgB (z1 * z2)), m]) ∧ MagR w' m (z1 * z2).natAbs ∧ Grow w w' := by
  have hsg := sg_mul z1 z2
  have hna : (z1 * z2).natAbs = z1.natAbs * z2.natAbs := Int.natAbs_mul _ _
  rw [hna] at h hsg ⊢
  rw [← hsg]
  obtain ⟨s1, hs1⟩ : ∃ s1, sgB z1 = s1 := ⟨_, rfl⟩
  obtain ⟨s2, hs2⟩ : ∃ s2, sgB z2 = s2 := ⟨_, rfl⟩
  obtain ⟨n1, hn1⟩ : ∃ n1, z1.natAbs = n1 := ⟨_, rfl⟩
  obtain ⟨n2, hn2⟩ : ∃ n2, z2.natAbs = n2 := ⟨_, rfl⟩
  rw [hs1, hs2, hn1, hn2] at hsg ⊢
  rw [hn1, hn2] at h
  rw [hn1] at h1
  rw [hn2] at h2
  rw [show (s1 != s2) = (!(s1 == s2)) from rfl]
  obtain ⟨n, hn⟩ : ∃ n, n1 * n2 = n := ⟨_, rfl⟩
  have TM := Lib.hid (fun u hu => times_any m1 m2 n1 n2 h u (h1.grow hu) (h2.grow hu))
  rw [hn] at TM ⊢
  have SG := Lib.hid (fun m u hu => signed_any (!(s1 == s2)) m n u (.inl hu))
  have T1 := Lib.hid (fun u hu => trimmed_mag m1 n1 u (h1.grow hu))
  have T2 := Lib.hid (fun u hu => trimmed_mag m2 n2 u (h2.grow hu))
  obtain ⟨D, hD⟩ : ∃ D, ((!(s1 == s2)) && decide (n ≠ 0)) = D := ⟨_, rfl⟩
  rw [hD] at SG ⊢
  obtain ⟨a1, c1, rfl⟩ := h1.form
  obtain ⟨a2, c2, rfl⟩ := h2.form
  generalize (if n1 = 0 then 0 else 1) = l1 at *
  generalize (if n2 = 0 then 0 else 1) = l2 at *
  clear hsg hna hs1 hs2 hn1 hn2 h h1 h2 hD hn
  go_enter Tryz.func38, Tryz.ntmps38
  go_wp2_with fail
  have c0 : ∀ u : World, Grow (((w.alloc (.cells #[.bool s1, .slice a1 l1 c1] 34)).alloc (.cells #[.bool s2, .slice a2 l2 c2] 34)).alloc (.cells #[.bool false, .slice none 0 0] 34)) u → u.cell? ⟨w.heap.size, 0, none⟩ = some (.bool s1) ∧ u.cell? ⟨w.heap.size, 1, none⟩ = some (.slice a1 l1 c1) ∧ u.cell? ⟨w.heap.size + 1, 0, none⟩ = some (.bool s2) ∧ u.cell? ⟨w.heap.size + 1, 1, none⟩ = some (.slice a2 l2 c2) := by
    intro u hg
    refine ⟨(hg.cells _ _ (by simp; omega)).trans ?_, (hg.cells _ _ (by simp; omega)).trans ?_, (hg.cells _ _ (by simp)).trans ?_, (hg.cells _ _ (by simp)).trans ?_⟩ <;> go_simp
  have C0 := Lib.hid c0
  have r0 : ∀ u : World, Grow (((w.alloc (.cells #[.bool s1, .slice a1 l1 c1] 34)).alloc (.cells #[.bool s2, .slice a2 l2 c2] 34)).alloc (.cells #[.bool false, .slice none 0 0] 34)) u → u.cell? ⟨w.heap.size + 1 + 1, 0, none⟩ = some (.bool false) ∧ u.cell? ⟨w.heap.size + 1 + 1, 1, none⟩ = some (.slice none 0 0) ∧ (∀ o, u.frozen? ⟨w.heap.size + 1 + 1, o, none⟩ = false) ∧ NoU u (w.heap.size + 1 + 1) ∧ w.heap.size + 1 + 1 < u.heap.size ∧ Grow w u := by
    intro u hg
    have hz := hg.size
    simp at hz
    refine ⟨(hg.cells _ _ (by simp)).trans ?_, (hg.cells _ _ (by simp)).trans ?_, fun o => (hg.frees _ _ (by simp)).trans ?_, ?_, by omega, Grow.trans (by (repeat (first | with_reducible exact Grow.refl _ | with_reducible refine Grow.alloc ?_ _ | with_reducible refine Grow.drew ?_ | with_reducible refine Grow.drewN ?_ _ | (with_reducible refine Grow.setCell ?_ ?hp _; (case hp => (simp; try omega))) | with_reducible refine Grow.trans ?_ (by assumption)))) hg⟩
    · go_simp
    · go_simp
    · go_simp
    · have h := NoU.alloc ((w.alloc (.cells #[.bool s1, .slice a1 l1 c1] 34)).alloc (.cells #[.bool s2, .slice a2 l2 c2] 34)) _ 34 (noU2 false none 0 0)
      simp at h
      exact h.grow (by simp) hg
  have R0 := Lib.hid r0
  clear c0 r0
  go_region_held3 (fun u => u.cell? ⟨w.heap.size, 0, none⟩ = some (.bool s1) ∧ u.cell? ⟨w.heap.size, 1, none⟩ = some (.slice a1 l1 c1) ∧ u.cell? ⟨w.heap.size + 1, 0, none⟩ = some (.bool s2) ∧ u.cell? ⟨w.heap.size + 1, 1, none⟩ = some (.slice a2 l2 c2))
    (first | (refine ⟨?_, ?_, ?_, ?_⟩ <;> (go_simp; done)) | exact C0.out _ (by (repeat (first | with_reducible exact Grow.refl _ | with_reducible refine Grow.alloc ?_ _ | with_reducible refine Grow.drew ?_ | with_reducible refine Grow.drewN ?_ _ | (with_reducible refine Grow.setCell ?_ ?hp _; (case hp => (simp; try omega))) | with_reducible refine Grow.trans ?_ (by assumption)))))
    (first
      | (go_at_call 78; first | ((with_reducible refine (T1.out _ (by (repeat (first | with_reducible exact Grow.refl _ | with_reducible refine Grow.alloc ?_ _ | with_reducible refine Grow.drew ?_ | with_reducible refine Grow.drewN ?_ _ | (with_reducible refine Grow.setCell ?_ ?hp _; (case hp => (simp; try omega))) | with_reducible refine Grow.trans ?_ (by assumption))))).mono ?_); (rintro e w2 ⟨rfl, rfl⟩)) | ((with_reducible refine (T2.out _ (by (repeat (first | with_reducible exact Grow.refl _ | with_reducible refine Grow.alloc ?_ _ | with_reducible refine Grow.drew ?_ | with_reducible refine Grow.drewN ?_ _ | (with_reducible refine Grow.setCell ?_ ?hp _; (case hp => (simp; try omega))) | with_reducible refine Grow.trans ?_ (by assumption))))).mono ?_); (rintro e w3 ⟨rfl, rfl⟩)))
      | (go_at_call 77; (with_reducible refine (TM.out _ (by (repeat (first | with_reducible exact Grow.refl _ | with_reducible refine Grow.alloc ?_ _ | with_reducible refine Grow.drew ?_ | with_reducible refine Grow.drewN ?_ _ | (with_reducible refine Grow.setCell ?_ ?hp _; (case hp => (simp; try omega))) | with_reducible refine Grow.trans ?_ (by assumption))))).mono ?_); (rintro e w4 ⟨m4, rfl, hm4, hb4⟩))
      | (go_at_call 68; (with_reducible refine (SG.out _ _ hm4).mono ?_); (rintro e w7 ⟨m7, rfl, hm7, hb7⟩; obtain ⟨a7, c7, rfl⟩ := hm7.form; generalize (if n = 0 then 0 else 1) = l7 at hm7 ⊢; have HM7 := Lib.hid hm7; clear hm7; obtain ⟨e0, e1, e2, e3⟩ := C0.out w7 (by (repeat (first | with_reducible exact Grow.refl _ | with_reducible refine Grow.alloc ?_ _ | with_reducible refine Grow.drew ?_ | with_reducible refine Grow.drewN ?_ _ | (with_reducible refine Grow.setCell ?_ ?hp _; (case hp => (simp; try omega))) | with_reducible refine Grow.trans ?_ (by assumption)))); obtain ⟨q0, q1, qf, NU7, hz7, HB7⟩ := R0.out w7 (by (repeat (first | with_reducible exact Grow.refl _ | with_reducible refine Grow.alloc ?_ _ | with_reducible refine Grow.drew ?_ | with_reducible refine Grow.drewN ?_ _ | (with_reducible refine Grow.setCell ?_ ?hp _; (case hp => (simp; try omega))) | with_reducible refine Grow.trans ?_ (by assumption)))); have NU := Lib.hid NU7; have HB := Lib.hid HB7; clear NU7 HB7)))
  all_goals (try simp only [Exit.then])
  all_goals go_wp2_with fail
  all_goals refine bodyPost_ret (v := .agg #[.bool D, .slice a7 l7 c7]) (by rw [results_one rfl]; go_simp) rfl ⟨_, rfl, HM7.out.set2 NU.out _ _ _ _, by have h9 := HB.out; (repeat (first | with_reducible exact Grow.refl _ | with_reducible refine Grow.alloc ?_ _ | with_reducible refine Grow.drew ?_ | with_reducible refine Grow.drewN ?_ _ | (with_reducible refine Grow.setCell ?_ ?hp _; (case hp => (simp; try omega))) | with_reducible refine Grow.trans ?_ (by assumption)))⟩
end Go.Proofs.YtbpkfcohbefphaaGreat
