/- Lemmas, plain laws and walks that the statement LwClassNumber leans on (texts BiS, RwT, BiO), conditions as each theorem says. -/
import Derived.StillTail
import Derived.Deep.RegionHeld3
import Derived.Test.YtbpkfcohbefphaaGreatDoorTopCnG01
import Derived.Test.YtbpkfcohbefphaaGreatDoorTopCnG05
import Derived.Test.YtbpkfcohbefphaaGreatDoorTopCnG06

namespace Go.Proofs.YtbpkfcohbefphaaGreatDoor
open Go Go.RowKit
theorem len32Q (x : Nat) (h : x < 4294967296) (w : World) : Calls Tryz.prog 87 #[.int .u32 (x : Int)] w fun e w' => e = .returned (.int .i64 (Lib.bitLen x : Nat)) ∧ w = w' :=
  (len32_int (x : Int) w (by omega) (by omega)).mono fun e w' ⟨h1, h2⟩ => ⟨by rw [h1, Int.toNat_natCast], h2.symm⟩
set_option maxHeartbeats 1000000 in
theorem bitsV (z : Int) (v : Value) (w : World) (h : IntR w v z) : Calls Tryz.prog 117 #[v] w fun e w' => e = .returned (.int .i64 (Lib.bitLen z.natAbs : Nat)) ∧ Grow w w' := by
  obtain ⟨m, rfl, h⟩ := h
  have hlt := h.lt
  obtain ⟨n, hn⟩ : ∃ n : Nat, z.natAbs = n := ⟨_, rfl⟩
  rw [hn] at h hlt ⊢
  generalize sgB z = s
  have TR := Lib.hid (fun (u : World) (hu : Grow w u) => trimmed_mag m n u (h.grow hu))
  rcases h with ⟨h0, a, cap, rfl⟩ | ⟨h0, h1, b, off, cap, rfl, hk, hb, hc⟩
  · subst h0
    have e : Lib.bitLen 0 = 0 := rfl
    rw [e]
    clear hn
    go_enter Tryz.func117, Tryz.ntmps117
    go_wp2_with (go_at_call 45; (with_reducible refine (TR.out _ (by (repeat (first | with_reducible exact Grow.refl _ | with_reducible refine Grow.alloc ?_ _ | with_reducible refine Grow.drew ?_ | with_reducible refine Grow.drewN ?_ _ | (with_reducible refine Grow.setCell ?_ ?hp _; (case hp => (simp; try omega))) | with_reducible refine Grow.trans ?_ (by assumption))))).mono ?_); (rintro e u1 ⟨rfl, rfl⟩))
    go_ret
    exact ⟨rfl, by (repeat (first | with_reducible exact Grow.refl _ | with_reducible refine Grow.alloc ?_ _ | with_reducible refine Grow.drew ?_ | with_reducible refine Grow.drewN ?_ _ | (with_reducible refine Grow.setCell ?_ ?hp _; (case hp => (simp; try omega))) | with_reducible refine Grow.trans ?_ (by assumption)))⟩
  · have LN := Lib.hid (fun u => len32Q n hlt u)
    obtain ⟨k, hk2⟩ : ∃ k, Lib.bitLen n = k := ⟨_, rfl⟩
    have hkb : k ≤ 32 := by rw [← hk2]; exact Lib.bitLen_le n 32 (by omega) hlt
    rw [hk2] at LN ⊢
    have y1 : IntKind.i64.wrap (0 + (k : Int)) = (k : Int) := by rw [Int.zero_add]; exact IntWalk.i64_in _ (by omega)
    have y2 : IntKind.i64.wrap (k : Int) = (k : Int) := IntWalk.i64_in _ (by omega)
    have y3 : wrap64 (k : Int) = (k : Int) := by unfold wrap64; omega
    clear hn hk2
    go_enter Tryz.func117, Tryz.ntmps117
    go_wp2_with (first
      | (go_at_call 45; (with_reducible refine (TR.out _ (by (repeat (first | with_reducible exact Grow.refl _ | with_reducible refine Grow.alloc ?_ _ | with_reducible refine Grow.drew ?_ | with_reducible refine Grow.drewN ?_ _ | (with_reducible refine Grow.setCell ?_ ?hp _; (case hp => (simp; try omega))) | with_reducible refine Grow.trans ?_ (by assumption))))).mono ?_); (rintro e u1 ⟨rfl, rfl⟩))
      | (go_at_call 87; (with_reducible refine (LN.out _).mono ?_); (rintro e u2 ⟨rfl, rfl⟩)))
    go_ret
    exact ⟨by simp, by (repeat (first | with_reducible exact Grow.refl _ | with_reducible refine Grow.alloc ?_ _ | with_reducible refine Grow.drew ?_ | with_reducible refine Grow.drewN ?_ _ | (with_reducible refine Grow.setCell ?_ ?hp _; (case hp => (simp; try omega))) | with_reducible refine Grow.trans ?_ (by assumption)))⟩
theorem results_pair {fn : Func} {p q : Tmp} (h : fn.results = #[.tmp p, .tmp q]) (tmps : Array Value) (P : Program) (w : World) :
    (results fn tmps).run P w = .ok (.tuple #[tmps.getD p undef, tmps.getD q undef]) w := by
  simp [results, h]
end Go.Proofs.YtbpkfcohbefphaaGreatDoor
namespace Go.Proofs.YtbpkfcohbefphaaGreatDoor
open Go
section
variable {P : Program} {ops : Array Oper} {md : Region.Mode} {Q : Exit → Act → World → Prop} {S : World → Prop}
/-- The list of what has come up is closed under what each operation waits for. -/
structure Clo (md : Region.Mode) (ops : Array Oper) (listed : Array Bool) : Prop where
  size : listed.size = ops.size
  closed : ∀ j oj, ops[j]? = some oj → listed.getD j false = true → ∀ e ∈ oj.after, Region.binds md e = true → listed.getD e.on false = true
theorem Clo.set {i : Nat} {listed : Array Bool} (inv : Clo md ops listed) (hi : i ∈ Region.ready md ops listed) : Clo md ops (listed.setIfInBounds i true) := by
  obtain ⟨_, oi, hoi, hall⟩ := mem_ready.1 hi
  refine ⟨by simp [inv.size], fun j oj hj hl e he hb => ?_⟩
  by_cases hij : i = j
  · subst hij
    have : oj = oi := Option.some.inj (hj.symm.trans hoi)
    subst this
    exact getD_set_true (hall e he hb)
  · rw [getD_set_ne false hij] at hl
    exact getD_set_true (inv.closed j oj hj hl e he hb)
/-- Operation t waits, by way of others, for operation i. -/
def anc (md : Region.Mode) (ops : Array Oper) : Nat → Nat → Nat → Bool
  | 0, _, _ => false
  | f + 1, i, t => Region.waitsFor md ops t i || (List.range ops.size).any (fun j => Region.waitsFor md ops j i && anc md ops f j t)
theorem anc_listed {listed : Array Bool} (inv : Clo md ops listed) : ∀ (f i t : Nat), anc md ops f i t = true → (listed.getD t false = true ∨ t ∈ Region.ready md ops listed) → listed.getD i false = true
  | 0, _, _, h, _ => by cases h
  | f + 1, i, t, h, ht => by
    have one : ∀ j, (listed.getD j false = true ∨ j ∈ Region.ready md ops listed) → Region.waitsFor md ops j i = true → listed.getD i false = true := by
      intro j hj hw
      obtain ⟨oj, hoj, e, he, hb, hon⟩ := Region.waitsFor_spec hw
      rw [← hon]
      rcases hj with hj | hj
      · exact inv.closed j oj hoj hj e he hb
      · obtain ⟨_, o', ho', hall⟩ := mem_ready.1 hj
        have : o' = oj := Option.some.inj (ho'.symm.trans hoj)
        subst this
        exact hall e he hb
    simp only [anc, Bool.or_eq_true] at h
    rcases h with h | h
    · exact one t ht h
    · obtain ⟨j, _, hj⟩ := List.any_eq_true.1 h
      simp only [Bool.and_eq_true] at hj
      exact one j (.inl (anc_listed inv f j t hj.2 ht)) hj.1
/-- Whatever order is picked; each operation that kp names leaves S as it was. -/
def heldTo (P : Program) (md : Region.Mode) (ops : Array Oper) (Q : Exit → Act → World → Prop) (S : World → Prop) (kp : Nat → Bool) : Nat → Array Bool → Act → World → Prop
  | 0, listed, a, w => Region.ready md ops listed = [] ∧ Q .normal a w
  | f + 1, listed, a, w =>
    (Region.ready md ops listed = [] → Q .normal a w) ∧
    ∀ i ∈ Region.ready md ops listed, wpOp P ops Q i (fun a' w' => (kp i = true → S w → S w') ∧ heldTo P md ops Q S kp f (listed.setIfInBounds i true) a' w') a w
theorem any_of_heldTo {kp : Nat → Bool} : ∀ (f : Nat) (listed : Array Bool) (a : Act) (w : World), heldTo P md ops Q S kp f listed a w → wpAny P md ops Q f listed a w
  | 0, _, _, _, h => h
  | f + 1, _, _, _, h => ⟨h.1, fun i hi => wpOp_mono (fun a' w' h' => any_of_heldTo f _ a' w' h'.2) (h.2 i hi)⟩
theorem heldTo_first {kp : Nat → Bool} {i : Nat} {oi : Oper} {v : Value} {T : World → Prop} (hi : ops[i]? = some oi) (hsel : ∀ (j : Nat) (o : Oper) cs b, ops[j]? = some o → o.op ≠ .select cs b)
    (hQ : ∀ c a w, Q (.panic c) (a.put oi.dst v) w → Q (.panic c) a w)
    (hT : (∀ w, T w) ∨ (T = S ∧ ∀ t, t < ops.size → kp t = false → ∃ f, anc md ops f i t = true)) :
    ∀ (fuel : Nat) (listed : Array Bool) (a : Act) (w : World), Clo md ops listed →
      (∀ j oj, ops[j]? = some oj → j ≠ i → listed.getD j true = false → (∀ e ∈ oj.after, Region.binds md e = true → e.on ≠ i) → oi.apart ops oj = true) →
      i ∈ Region.ready md ops listed → YieldsIf P ops T oi v a → T w →
      heldTo P md ops Q S kp fuel (listed.setIfInBounds i true) (a.put oi.dst v) w → heldTo P md ops Q S kp (fuel + 1) listed a w := by
  intro fuel
  induction fuel with
  | zero =>
    intro listed a w inv _ hr hy hTw H
    refine ⟨fun h => (by rw [h] at hr; cases hr), fun j hj => ?_⟩
    by_cases hji : j = i
    · subst hji; exact hy.wpOp hi hTw ⟨fun _ h => h, H⟩
    · have := ready_mono hj hji
      rw [H.1] at this
      cases this
  | succ fuel ih =>
    intro listed a w inv hfree hr hy hTw H
    refine ⟨fun h => (by rw [h] at hr; cases hr), fun j hj => ?_⟩
    by_cases hji : j = i
    · subst hji; exact hy.wpOp hi hTw ⟨fun _ h => h, H⟩
    · have h1 := H.2 j (ready_mono hj hji)
      obtain ⟨hjun, oj, hoj, hall⟩ := mem_ready.1 hj
      have hnot : ∀ e ∈ oj.after, Region.binds md e = true → e.on ≠ i := fun e he hb heq => by
        have h1 := hall e he hb
        rw [heq, getD_both (mem_ready.1 hr).1] at h1
        cases h1
      have hjs : j < ops.size := (Array.getElem?_eq_some_iff.1 hoj).1
      have hTj : ∀ w', (kp j = true → S w → S w') → T w' := by
        intro w' hw'
        rcases hT with hT | ⟨hT, ha⟩
        · exact hT w'
        · subst hT
          cases hk : kp j with
          | true => exact hw' hk hTw
          | false =>
            obtain ⟨f, hf⟩ := ha j hjs hk
            have := anc_listed inv f i j hf (.inr hj)
            rw [getD_both (mem_ready.1 hr).1] at this
            cases this
      have h2 := wpOp_putIf hoj (hfree j oj hoj hji hjun hnot) (fun cs b => hsel i oi cs b hi) (fun cs b => hsel j oj cs b hoj) hQ hy h1
      have hfree' : ∀ k ok, ops[k]? = some ok → k ≠ i → (listed.setIfInBounds j true).getD k true = false →
          (∀ e ∈ ok.after, Region.binds md e = true → e.on ≠ i) → oi.apart ops ok = true := fun k ok hk hki hun hno => by
        refine hfree k ok hk hki ?_ hno
        by_cases hjk : j = k
        · subst hjk; exact hjun
        · rw [getD_set_ne true hjk] at hun; exact hun
      refine wpOp_mono (fun a' w' h3 => ⟨h3.2.1, ih (listed.setIfInBounds j true) a' w' (inv.set hj) hfree' (ready_mono hr (Ne.symm hji)) h3.1 (hTj w' h3.2.1) ?_⟩) h2
      rw [Array.setIfInBounds_comm _ _ hji]
      exact h3.2.2
/-- The kinds: 0 a read that needs no world, 1 a read under S, 2 what is carried out and keeps S, 3 what is carried out last. -/
def heldB (md : Region.Mode) (ops : Array Oper) (kd : Nat → Nat) : List Nat → Array Bool → Bool
  | [], listed => (Region.ready md ops listed).isEmpty
  | i :: rest, listed =>
    (Region.ready md ops listed).contains i &&
    (if kd i ≤ 1 then Region.free md ops listed i && (kd i == 0 || (List.range ops.size).all (fun t => kd t != 3 || anc md ops ops.size i t)) else Region.ready md ops listed == [i]) &&
    heldB md ops kd rest (listed.setIfInBounds i true)
/-- The walk of one order. -/
def wpHeld (P : Program) (ops : Array Oper) (Q : Exit → Act → World → Prop) (S : World → Prop) (kd : Nat → Nat) : List Nat → Act → World → Prop
  | [], a, w => Q .normal a w
  | i :: rest, a, w =>
    match kd i with
    | 0 => ∃ o v, ops[i]? = some o ∧ YieldsIf P ops (fun _ => True) o v a ∧ wpHeld P ops Q S kd rest (a.put o.dst v) w
    | 1 => ∃ o v, ops[i]? = some o ∧ YieldsIf P ops S o v a ∧ wpHeld P ops Q S kd rest (a.put o.dst v) w
    | _ => wpOp P ops Q i (fun a' w' => (kd i ≠ 3 → S w') ∧ wpHeld P ops Q S kd rest a' w') a w
theorem heldTo_of_walk {kd : Nat → Nat} (hsel : Region.noSelect ops = true) (hQ : ∀ c a d v w, Q (.panic c) (a.put d v) w → Q (.panic c) a w) :
    ∀ (order : List Nat) (listed : Array Bool) (a : Act) (w : World), Clo md ops listed → heldB md ops kd order listed = true → ((∀ t, kd t = 3 → listed.getD t false = false) → S w) → (∀ t, kd t = 3 → t < ops.size) →
      wpHeld P ops Q S kd order a w → heldTo P md ops Q S (fun t => kd t != 3) order.length listed a w
  | [], listed, a, w, inv, hB, hS, hk, h => ⟨by simpa [heldB] using hB, h⟩
  | i :: rest, listed, a, w, inv, hB, hS, hk, h => by
    simp only [heldB, Bool.and_eq_true] at hB
    obtain ⟨⟨hr, hf⟩, hB'⟩ := hB
    have hr' : i ∈ Region.ready md ops listed := by simpa using hr
    have hun := getD_both (mem_ready.1 hr').1
    rw [List.length_cons]
    unfold wpHeld at h
    have back : ∀ t, (listed.setIfInBounds i true).getD t false = false → listed.getD t false = false := fun t ht => by
      cases hh : listed.getD t false with
      | false => rfl
      | true => rw [getD_set_true hh] at ht; cases ht
    split at h
    · rename_i hk0
      rw [if_pos (by omega)] at hf
      simp only [Bool.and_eq_true] at hf
      obtain ⟨o, v, ho, hy, h⟩ := h
      exact heldTo_first ho (Region.noSelect_spec hsel) (fun c a w => hQ c a _ _ w) (.inl fun _ => trivial) _ listed a w inv (Region.free_spec ho hf.1) hr' hy trivial
        (heldTo_of_walk hsel hQ rest _ _ w (inv.set hr') hB' (fun ht => hS fun t h3 => back t (ht t h3)) hk h)
    · rename_i hk1
      rw [if_pos (by omega)] at hf
      simp only [Bool.and_eq_true, Bool.or_eq_true, beq_iff_eq, hk1, Nat.succ_ne_zero, false_or, List.all_eq_true, List.mem_range, bne_iff_ne, ne_eq] at hf
      obtain ⟨o, v, ho, hy, h⟩ := h
      have ha : ∀ t, t < ops.size → kd t = 3 → anc md ops ops.size i t = true := fun t ht h3 => by
        rcases hf.2 t ht with h4 | h4
        · exact absurd h3 h4
        · exact h4
      have hSw : S w := hS fun t h3 => by
        cases hh : listed.getD t false with
        | false => rfl
        | true =>
          have := anc_listed inv _ i t (ha t (hk t h3) h3) (.inl hh)
          rw [hun] at this
          cases this
      exact heldTo_first ho (Region.noSelect_spec hsel) (fun c a w => hQ c a _ _ w) (.inr ⟨rfl, fun t ht h3 => ⟨_, ha t ht (by simpa using h3)⟩⟩) _ listed a w inv (Region.free_spec ho hf.1) hr' hy hSw
        (heldTo_of_walk hsel hQ rest _ _ w (inv.set hr') hB' (fun ht => hS fun t h3 => back t (ht t h3)) hk h)
    · rename_i hk0 hk1
      have h2 : ¬ kd i ≤ 1 := by
        intro hle
        rcases Nat.le_one_iff_eq_zero_or_eq_one.1 hle with h | h
        · exact hk0 h
        · exact hk1 h
      rw [if_neg h2] at hf
      have hf' : Region.ready md ops listed = [i] := by simpa using hf
      refine ⟨fun h0 => (by rw [hf'] at h0; cases h0), fun j hj => ?_⟩
      rw [hf'] at hj
      obtain rfl : j = i := by simpa using hj
      refine wpOp_mono (fun a' w' h3 => ⟨fun hne _ => h3.1 (by simpa using hne), heldTo_of_walk hsel hQ rest _ a' w' (inv.set hr') hB' (fun ht => h3.1 fun h4 => ?_) hk h3.2⟩) h
      have h5 := ht j h4
      have h6 : j < listed.size := by rw [inv.size]; exact hk j h4
      simp [h6] at h5
/-- A region by one order: the kinds as heldB has them; S is shown behind each operation of kind 2. -/
theorem region_held {id : Nat} {a : Act} {w : World} {l : List Oper} (S : World → Prop) (order : List Nat) (kd : Nat → Nat) (hm : P.follows .mixedOrders = true)
    (hB : (Region.noSelect l.toArray && decide (order.length = l.length) && heldB .any l.toArray kd order (Array.replicate l.toArray.size false)) = true)
    (hk : ∀ t, kd t = 3 → t < l.toArray.size) (hS : S w.drew)
    (h : wpHeld P l.toArray (NoPanic Q) S kd order a w.drew) : (Code.region id l.toArray true).wp P Q a w := by
  refine wp_region_noPanic ?_
  simp only [Bool.and_eq_true, decide_eq_true_eq] at hB
  obtain ⟨⟨hsel, hlen⟩, hB⟩ := hB
  refine wp_region_any hm ?_
  have H := heldTo_of_walk (md := .any) (Q := NoPanic Q) hsel (fun _ _ _ _ _ h => h) order _ a w.drew ⟨by simp, fun j oj _ hl => (by rw [getD_replicate_false] at hl; cases hl)⟩ hB (fun _ => hS) hk h
  have := any_of_heldTo _ _ _ _ H
  rw [hlen] at this
  exact this
/-- The kinds as a list. -/
def kdL (l : List Nat) (t : Nat) : Nat := l.getD t 0
theorem kdL_lt (l : List Nat) (t : Nat) (h : kdL l t = 3) : t < l.length := by
  rcases Nat.lt_or_ge t l.length with h1 | h1
  · exact h1
  · simp [kdL, List.getElem?_eq_none h1] at h
/-- The steps of that walk. -/
theorem held_quiet {l : List Oper} {kd : Nat → Nat} {i : Nat} {rest : List Nat} {o : Oper} {v : Value} {a : Act} {w : World} (hk : kd i = 0) (ho : l[i]? = some o)
    (hy : YieldsIf P l.toArray (fun _ => True) o v a) (h : wpHeld P l.toArray Q S kd rest (a.put o.dst v) w) : wpHeld P l.toArray Q S kd (i :: rest) a w := by
  unfold wpHeld; rw [hk]; exact ⟨o, v, by simpa using ho, hy, h⟩
theorem held_read {l : List Oper} {kd : Nat → Nat} {i : Nat} {rest : List Nat} {o : Oper} {v : Value} {a : Act} {w : World} (hk : kd i = 1) (ho : l[i]? = some o)
    (hy : YieldsIf P l.toArray S o v a) (h : wpHeld P l.toArray Q S kd rest (a.put o.dst v) w) : wpHeld P l.toArray Q S kd (i :: rest) a w := by
  unfold wpHeld; rw [hk]; exact ⟨o, v, by simpa using ho, hy, h⟩
theorem held_op {l : List Oper} {kd : Nat → Nat} {i : Nat} {rest : List Nat} {o : Oper} {a : Act} {w : World} (hk : kd i = 2) (ho : l[i]? = some o)
    (h : ∀ K' : Act → World → Prop, Shut (∀ a w, S w → wpHeld P l.toArray Q S kd rest a w → K' a w) → if Region.wanted o (yielded l.toArray a.tmps) = true then Oper.wp P o a w K' Q else K' (a.put o.dst undef) w) : wpHeld P l.toArray Q S kd (i :: rest) a w := by
  unfold wpHeld; rw [hk]
  exact wpOp_step (by simpa using ho) (fun K' hK => h K' (fun a w hS hW => hK a w ⟨fun _ => hS, hW⟩))
theorem held_last {l : List Oper} {kd : Nat → Nat} {i : Nat} {rest : List Nat} {o : Oper} {a : Act} {w : World} (hk : kd i = 3) (ho : l[i]? = some o)
    (h : ∀ K' : Act → World → Prop, Shut (∀ a w, wpHeld P l.toArray Q S kd rest a w → K' a w) → if Region.wanted o (yielded l.toArray a.tmps) = true then Oper.wp P o a w K' Q else K' (a.put o.dst undef) w) : wpHeld P l.toArray Q S kd (i :: rest) a w := by
  unfold wpHeld; rw [hk]
  exact wpOp_step (by simpa using ho) (fun K' hK => h K' (fun a w hW => hK a w ⟨fun h => absurd rfl h, hW⟩))
theorem held_done {l : List Oper} {kd : Nat → Nat} {a : Act} {w : World} (h : Q .normal a w) : wpHeld P l.toArray (NoPanic Q) S kd [] a w := h
end
end Go.Proofs.YtbpkfcohbefphaaGreatDoor
namespace Go.Proofs.YtbpkfcohbefphaaGreatDoor
open Go Go.RowKit
set_option maxRecDepth 20000 in
set_option maxHeartbeats 8000000 in
theorem normalQ (x : Rat) (v1 : Value) (w : World) (h1 : RatR w v1 x) :
    Calls Tryz.prog 22 #[v1] w fun e w' => ∃ v, e = .returned v ∧ RatR w' v (x) ∧ Grow w w' := by
  obtain ⟨s1, a1, l1, c1, t1, b1, k1, e1, rfl⟩ := h1.form
  have HX1 := Lib.hid h1
  have OV := Lib.hid (fun u hu => overV _ _ _ _ u (h1.num.grow hu) (h1.den.grow hu))
  rw [divInt_num_den] at OV
  clear h1
  go_enter Tryz.func22, Tryz.ntmps22
  go_wp2_with fail
  have c0 : ∀ u : World, Grow ((w.alloc (.cells #[.bool s1, .slice a1 l1 c1, .bool t1, .slice b1 k1 e1] 27)).alloc (.cells #[.bool false, .slice none 0 0, .bool false, .slice none 0 0] 27)) u → u.cell? ⟨w.heap.size, 0, none⟩ = some (.bool s1) ∧ u.cell? ⟨w.heap.size, 1, none⟩ = some (.slice a1 l1 c1) ∧ u.cell? ⟨w.heap.size, 2, none⟩ = some (.bool t1) ∧ u.cell? ⟨w.heap.size, 3, none⟩ = some (.slice b1 k1 e1) := by
    intro u hg
    refine ⟨(hg.cells _ _ (by (try simp); try omega)).trans ?_, (hg.cells _ _ (by (try simp); try omega)).trans ?_, (hg.cells _ _ (by (try simp); try omega)).trans ?_, (hg.cells _ _ (by (try simp); try omega)).trans ?_⟩ <;> go_simp
  have C0 := Lib.hid c0
  clear c0
  have r0 : ∀ u : World, Grow ((w.alloc (.cells #[.bool s1, .slice a1 l1 c1, .bool t1, .slice b1 k1 e1] 27)).alloc (.cells #[.bool false, .slice none 0 0, .bool false, .slice none 0 0] 27)) u → u.cell? ⟨w.heap.size + 1, 0, none⟩ = some (.bool false) ∧ u.cell? ⟨w.heap.size + 1, 1, none⟩ = some (.slice none 0 0) ∧ u.cell? ⟨w.heap.size + 1, 2, none⟩ = some (.bool false) ∧ u.cell? ⟨w.heap.size + 1, 3, none⟩ = some (.slice none 0 0) ∧ (∀ o, u.frozen? ⟨w.heap.size + 1, o, none⟩ = false) ∧ NoU u (w.heap.size + 1) ∧ w.heap.size + 1 < u.heap.size ∧ Grow w u := by
    intro u hg
    have hz := hg.size
    simp at hz
    refine ⟨(hg.cells _ _ (by simp)).trans ?_, (hg.cells _ _ (by simp)).trans ?_, (hg.cells _ _ (by simp)).trans ?_, (hg.cells _ _ (by simp)).trans ?_, fun o => (hg.frees _ _ (by simp)).trans ?_, ?_, by omega, Grow.trans (by (repeat (first | with_reducible exact Grow.refl _ | with_reducible refine Grow.alloc ?_ _ | with_reducible refine Grow.drew ?_ | with_reducible refine Grow.drewN ?_ _ | (with_reducible refine Grow.setCell ?_ ?hp _; (case hp => (simp; try omega))) | with_reducible refine Grow.trans ?_ (by assumption)))) hg⟩
    · go_simp
    · go_simp
    · go_simp
    · go_simp
    · go_simp
    · have h := NoU.alloc (w.alloc (.cells #[.bool s1, .slice a1 l1 c1, .bool t1, .slice b1 k1 e1] 27)) _ 27 (noU4 false false none none 0 0 0 0)
      (try simp at h)
      exact h.grow (by simp) hg
  have R0 := Lib.hid r0
  clear r0
  go_wp2_with (go_at_call 26; (with_reducible refine (OV.out _ (by (repeat (first | with_reducible exact Grow.refl _ | with_reducible refine Grow.alloc ?_ _ | with_reducible refine Grow.drew ?_ | with_reducible refine Grow.drewN ?_ _ | (with_reducible refine Grow.setCell ?_ ?hp _; (case hp => (simp; try omega))) | with_reducible refine Grow.trans ?_ (by assumption))))).mono ?_); (rintro e u7 ⟨v7, rfl, hv7, hb7⟩; obtain ⟨s7, a7, l7, c7, t7, b7, k7, e7, rfl⟩ := hv7.form; have HV7 := Lib.hid hv7; clear hv7; obtain ⟨f0_7, f1_7, f2_7, f3_7⟩ := C0.out u7 (by (repeat (first | with_reducible exact Grow.refl _ | with_reducible refine Grow.alloc ?_ _ | with_reducible refine Grow.drew ?_ | with_reducible refine Grow.drewN ?_ _ | (with_reducible refine Grow.setCell ?_ ?hp _; (case hp => (simp; try omega))) | with_reducible refine Grow.trans ?_ (by assumption)))); obtain ⟨q0_7, q1_7, q2_7, q3_7, qf7, NU7, hz7, HB7⟩ := R0.out u7 (by (repeat (first | with_reducible exact Grow.refl _ | with_reducible refine Grow.alloc ?_ _ | with_reducible refine Grow.drew ?_ | with_reducible refine Grow.drewN ?_ _ | (with_reducible refine Grow.setCell ?_ ?hp _; (case hp => (simp; try omega))) | with_reducible refine Grow.trans ?_ (by assumption)))); have NUH7 := Lib.hid NU7; have HBH7 := Lib.hid HB7; clear NU7 HB7))
  all_goals refine bodyPost_ret (v := .agg #[.bool s7, .slice a7 l7 c7, .bool t7, .slice b7 k7 e7]) (by rw [results_one rfl]; go_simp) rfl ⟨_, rfl, HV7.out.set4 NUH7.out _ _ _ _ _ _ _ _, by have h9 := HBH7.out; (repeat (first | with_reducible exact Grow.refl _ | with_reducible refine Grow.alloc ?_ _ | with_reducible refine Grow.drew ?_ | with_reducible refine Grow.drewN ?_ _ | (with_reducible refine Grow.setCell ?_ ?hp _; (case hp => (simp; try omega))) | with_reducible refine Grow.trans ?_ (by assumption)))⟩
set_option maxRecDepth 20000 in
set_option maxHeartbeats 8000000 in
theorem negQ (x : Rat) (v1 : Value) (w : World) (h1 : RatR w v1 x) :
    Calls Tryz.prog 13 #[v1] w fun e w' => ∃ v, e = .returned v ∧ RatR w' v (-x) ∧ Grow w w' := by
  obtain ⟨s1, a1, l1, c1, t1, b1, k1, e1, rfl⟩ := h1.form
  have HX1 := Lib.hid h1
  have NG := Lib.hid (fun u hu => negV _ _ u (h1.num.grow hu))
  have OV := Lib.hid (fun u v hv hu => overV (-x.num) _ v _ u hv (h1.den.grow hu))
  rw [divInt_negQ] at OV
  clear h1
  go_enter Tryz.func13, Tryz.ntmps13
  go_wp2_with fail
  have c0 : ∀ u : World, Grow ((w.alloc (.cells #[.bool s1, .slice a1 l1 c1, .bool t1, .slice b1 k1 e1] 27)).alloc (.cells #[.bool false, .slice none 0 0, .bool false, .slice none 0 0] 27)) u → u.cell? ⟨w.heap.size, 0, none⟩ = some (.bool s1) ∧ u.cell? ⟨w.heap.size, 1, none⟩ = some (.slice a1 l1 c1) ∧ u.cell? ⟨w.heap.size, 2, none⟩ = some (.bool t1) ∧ u.cell? ⟨w.heap.size, 3, none⟩ = some (.slice b1 k1 e1) := by
    intro u hg
    refine ⟨(hg.cells _ _ (by (try simp); try omega)).trans ?_, (hg.cells _ _ (by (try simp); try omega)).trans ?_, (hg.cells _ _ (by (try simp); try omega)).trans ?_, (hg.cells _ _ (by (try simp); try omega)).trans ?_⟩ <;> go_simp
  have C0 := Lib.hid c0
  clear c0
  have r0 : ∀ u : World, Grow ((w.alloc (.cells #[.bool s1, .slice a1 l1 c1, .bool t1, .slice b1 k1 e1] 27)).alloc (.cells #[.bool false, .slice none 0 0, .bool false, .slice none 0 0] 27)) u → u.cell? ⟨w.heap.size + 1, 0, none⟩ = some (.bool false) ∧ u.cell? ⟨w.heap.size + 1, 1, none⟩ = some (.slice none 0 0) ∧ u.cell? ⟨w.heap.size + 1, 2, none⟩ = some (.bool false) ∧ u.cell? ⟨w.heap.size + 1, 3, none⟩ = some (.slice none 0 0) ∧ (∀ o, u.frozen? ⟨w.heap.size + 1, o, none⟩ = false) ∧ NoU u (w.heap.size + 1) ∧ w.heap.size + 1 < u.heap.size ∧ Grow w u := by
    intro u hg
    have hz := hg.size
    simp at hz
    refine ⟨(hg.cells _ _ (by simp)).trans ?_, (hg.cells _ _ (by simp)).trans ?_, (hg.cells _ _ (by simp)).trans ?_, (hg.cells _ _ (by simp)).trans ?_, fun o => (hg.frees _ _ (by simp)).trans ?_, ?_, by omega, Grow.trans (by (repeat (first | with_reducible exact Grow.refl _ | with_reducible refine Grow.alloc ?_ _ | with_reducible refine Grow.drew ?_ | with_reducible refine Grow.drewN ?_ _ | (with_reducible refine Grow.setCell ?_ ?hp _; (case hp => (simp; try omega))) | with_reducible refine Grow.trans ?_ (by assumption)))) hg⟩
    · go_simp
    · go_simp
    · go_simp
    · go_simp
    · go_simp
    · have h := NoU.alloc (w.alloc (.cells #[.bool s1, .slice a1 l1 c1, .bool t1, .slice b1 k1 e1] 27)) _ 27 (noU4 false false none none 0 0 0 0)
      (try simp at h)
      exact h.grow (by simp) hg
  have R0 := Lib.hid r0
  clear r0
  go_region_held3 (fun u => u.cell? ⟨w.heap.size, 0, none⟩ = some (.bool s1) ∧ u.cell? ⟨w.heap.size, 1, none⟩ = some (.slice a1 l1 c1) ∧ u.cell? ⟨w.heap.size, 2, none⟩ = some (.bool t1) ∧ u.cell? ⟨w.heap.size, 3, none⟩ = some (.slice b1 k1 e1))
    (first | (refine ⟨?_, ?_, ?_, ?_⟩ <;> (go_simp; done)) | exact C0.out _ (by (repeat (first | with_reducible exact Grow.refl _ | with_reducible refine Grow.alloc ?_ _ | with_reducible refine Grow.drew ?_ | with_reducible refine Grow.drewN ?_ _ | (with_reducible refine Grow.setCell ?_ ?hp _; (case hp => (simp; try omega))) | with_reducible refine Grow.trans ?_ (by assumption)))))
    (first
      | (go_at_call 39; (with_reducible refine (NG.out _ (by (repeat (first | with_reducible exact Grow.refl _ | with_reducible refine Grow.alloc ?_ _ | with_reducible refine Grow.drew ?_ | with_reducible refine Grow.drewN ?_ _ | (with_reducible refine Grow.setCell ?_ ?hp _; (case hp => (simp; try omega))) | with_reducible refine Grow.trans ?_ (by assumption))))).mono ?_); (rintro e u6 ⟨v6, rfl, hv6, hb6⟩; obtain ⟨s6, a6, l6, c6, rfl⟩ := hv6.form; have HV6 := Lib.hid hv6; clear hv6; obtain ⟨f0_6, f1_6, f2_6, f3_6⟩ := C0.out u6 (by (repeat (first | with_reducible exact Grow.refl _ | with_reducible refine Grow.alloc ?_ _ | with_reducible refine Grow.drew ?_ | with_reducible refine Grow.drewN ?_ _ | (with_reducible refine Grow.setCell ?_ ?hp _; (case hp => (simp; try omega))) | with_reducible refine Grow.trans ?_ (by assumption)))); obtain ⟨q0_6, q1_6, q2_6, q3_6, qf6, NU6, hz6, HB6⟩ := R0.out u6 (by (repeat (first | with_reducible exact Grow.refl _ | with_reducible refine Grow.alloc ?_ _ | with_reducible refine Grow.drew ?_ | with_reducible refine Grow.drewN ?_ _ | (with_reducible refine Grow.setCell ?_ ?hp _; (case hp => (simp; try omega))) | with_reducible refine Grow.trans ?_ (by assumption)))); have NUH6 := Lib.hid NU6; have HBH6 := Lib.hid HB6; clear NU6 HB6))
      | (go_at_call 26; (with_reducible refine (OV.out _ _ (HV6.out.grow (by (repeat (first | with_reducible exact Grow.refl _ | with_reducible refine Grow.alloc ?_ _ | with_reducible refine Grow.drew ?_ | with_reducible refine Grow.drewN ?_ _ | (with_reducible refine Grow.setCell ?_ ?hp _; (case hp => (simp; try omega))) | with_reducible refine Grow.trans ?_ (by assumption))))) (by (repeat (first | with_reducible exact Grow.refl _ | with_reducible refine Grow.alloc ?_ _ | with_reducible refine Grow.drew ?_ | with_reducible refine Grow.drewN ?_ _ | (with_reducible refine Grow.setCell ?_ ?hp _; (case hp => (simp; try omega))) | with_reducible refine Grow.trans ?_ (by assumption))))).mono ?_); (rintro e u7 ⟨v7, rfl, hv7, hb7⟩; obtain ⟨s7, a7, l7, c7, t7, b7, k7, e7, rfl⟩ := hv7.form; have HV7 := Lib.hid hv7; clear hv7; obtain ⟨f0_7, f1_7, f2_7, f3_7⟩ := C0.out u7 (by (repeat (first | with_reducible exact Grow.refl _ | with_reducible refine Grow.alloc ?_ _ | with_reducible refine Grow.drew ?_ | with_reducible refine Grow.drewN ?_ _ | (with_reducible refine Grow.setCell ?_ ?hp _; (case hp => (simp; try omega))) | with_reducible refine Grow.trans ?_ (by assumption)))); obtain ⟨q0_7, q1_7, q2_7, q3_7, qf7, NU7, hz7, HB7⟩ := R0.out u7 (by (repeat (first | with_reducible exact Grow.refl _ | with_reducible refine Grow.alloc ?_ _ | with_reducible refine Grow.drew ?_ | with_reducible refine Grow.drewN ?_ _ | (with_reducible refine Grow.setCell ?_ ?hp _; (case hp => (simp; try omega))) | with_reducible refine Grow.trans ?_ (by assumption)))); have NUH7 := Lib.hid NU7; have HBH7 := Lib.hid HB7; clear NU7 HB7)))
  all_goals (try simp only [Exit.then])
  all_goals go_wp2_with fail
  all_goals refine bodyPost_ret (v := .agg #[.bool s7, .slice a7 l7 c7, .bool t7, .slice b7 k7 e7]) (by rw [results_one rfl]; go_simp) rfl ⟨_, rfl, HV7.out.set4 NUH7.out _ _ _ _ _ _ _ _, by have h9 := HBH7.out; (repeat (first | with_reducible exact Grow.refl _ | with_reducible refine Grow.alloc ?_ _ | with_reducible refine Grow.drew ?_ | with_reducible refine Grow.drewN ?_ _ | (with_reducible refine Grow.setCell ?_ ?hp _; (case hp => (simp; try omega))) | with_reducible refine Grow.trans ?_ (by assumption)))⟩
set_option maxRecDepth 20000 in
set_option maxHeartbeats 8000000 in
theorem mulQ (x : Rat) (y : Rat) (v1 v2 : Value) (hn : (x.num * y.num).natAbs < 4294967296) (hd : ((x.den : Int) * (y.den : Int)).natAbs < 4294967296) (w : World) (h1 : RatR w v1 x) (h2 : RatR w v2 y) :
    Calls Tryz.prog 34 #[v1, v2] w fun e w' => ∃ v, e = .returned v ∧ RatR w' v (x * y) ∧ Grow w w' := by
  obtain ⟨s1, a1, l1, c1, t1, b1, k1, e1, rfl⟩ := h1.form
  have HX1 := Lib.hid h1
  obtain ⟨s2, a2, l2, c2, t2, b2, k2, e2, rfl⟩ := h2.form
  have HX2 := Lib.hid h2
  have M1 := Lib.hid (fun u hu => mulV _ _ _ _ hn u (h1.num.grow hu) (h2.num.grow hu))
  have M2 := Lib.hid (fun u hu => mulV (x.den : Int) (y.den : Int) _ _ (by omega) u (h1.den.grow hu) (h2.den.grow hu))
  have OV := Lib.hid (fun u v v' hv hv' => overV (x.num * y.num) ((x.den : Int) * (y.den : Int)) v v' u hv hv')
  rw [divInt_mulQ] at OV
  clear h1 h2 hn hd
  go_enter Tryz.func34, Tryz.ntmps34
  go_wp2_with fail
  have c0 : ∀ u : World, Grow (((w.alloc (.cells #[.bool s1, .slice a1 l1 c1, .bool t1, .slice b1 k1 e1] 27)).alloc (.cells #[.bool s2, .slice a2 l2 c2, .bool t2, .slice b2 k2 e2] 27)).alloc (.cells #[.bool false, .slice none 0 0, .bool false, .slice none 0 0] 27)) u → u.cell? ⟨w.heap.size, 0, none⟩ = some (.bool s1) ∧ u.cell? ⟨w.heap.size, 1, none⟩ = some (.slice a1 l1 c1) ∧ u.cell? ⟨w.heap.size, 2, none⟩ = some (.bool t1) ∧ u.cell? ⟨w.heap.size, 3, none⟩ = some (.slice b1 k1 e1) ∧ u.cell? ⟨w.heap.size + 1, 0, none⟩ = some (.bool s2) ∧ u.cell? ⟨w.heap.size + 1, 1, none⟩ = some (.slice a2 l2 c2) ∧ u.cell? ⟨w.heap.size + 1, 2, none⟩ = some (.bool t2) ∧ u.cell? ⟨w.heap.size + 1, 3, none⟩ = some (.slice b2 k2 e2) := by
    intro u hg
    refine ⟨(hg.cells _ _ (by (try simp); try omega)).trans ?_, (hg.cells _ _ (by (try simp); try omega)).trans ?_, (hg.cells _ _ (by (try simp); try omega)).trans ?_, (hg.cells _ _ (by (try simp); try omega)).trans ?_, (hg.cells _ _ (by (try simp); try omega)).trans ?_, (hg.cells _ _ (by (try simp); try omega)).trans ?_, (hg.cells _ _ (by (try simp); try omega)).trans ?_, (hg.cells _ _ (by (try simp); try omega)).trans ?_⟩ <;> go_simp
  have C0 := Lib.hid c0
  clear c0
  have r0 : ∀ u : World, Grow (((w.alloc (.cells #[.bool s1, .slice a1 l1 c1, .bool t1, .slice b1 k1 e1] 27)).alloc (.cells #[.bool s2, .slice a2 l2 c2, .bool t2, .slice b2 k2 e2] 27)).alloc (.cells #[.bool false, .slice none 0 0, .bool false, .slice none 0 0] 27)) u → u.cell? ⟨w.heap.size + 1 + 1, 0, none⟩ = some (.bool false) ∧ u.cell? ⟨w.heap.size + 1 + 1, 1, none⟩ = some (.slice none 0 0) ∧ u.cell? ⟨w.heap.size + 1 + 1, 2, none⟩ = some (.bool false) ∧ u.cell? ⟨w.heap.size + 1 + 1, 3, none⟩ = some (.slice none 0 0) ∧ (∀ o, u.frozen? ⟨w.heap.size + 1 + 1, o, none⟩ = false) ∧ NoU u (w.heap.size + 1 + 1) ∧ w.heap.size + 1 + 1 < u.heap.size ∧ Grow w u := by
    intro u hg
    have hz := hg.size
    simp at hz
    refine ⟨(hg.cells _ _ (by simp)).trans ?_, (hg.cells _ _ (by simp)).trans ?_, (hg.cells _ _ (by simp)).trans ?_, (hg.cells _ _ (by simp)).trans ?_, fun o => (hg.frees _ _ (by simp)).trans ?_, ?_, by omega, Grow.trans (by (repeat (first | with_reducible exact Grow.refl _ | with_reducible refine Grow.alloc ?_ _ | with_reducible refine Grow.drew ?_ | with_reducible refine Grow.drewN ?_ _ | (with_reducible refine Grow.setCell ?_ ?hp _; (case hp => (simp; try omega))) | with_reducible refine Grow.trans ?_ (by assumption)))) hg⟩
    · go_simp
    · go_simp
    · go_simp
    · go_simp
    · go_simp
    · have h := NoU.alloc ((w.alloc (.cells #[.bool s1, .slice a1 l1 c1, .bool t1, .slice b1 k1 e1] 27)).alloc (.cells #[.bool s2, .slice a2 l2 c2, .bool t2, .slice b2 k2 e2] 27)) _ 27 (noU4 false false none none 0 0 0 0)
      (try simp at h)
      exact h.grow (by simp) hg
  have R0 := Lib.hid r0
  clear r0
  go_region_held3 (fun u => u.cell? ⟨w.heap.size, 0, none⟩ = some (.bool s1) ∧ u.cell? ⟨w.heap.size, 1, none⟩ = some (.slice a1 l1 c1) ∧ u.cell? ⟨w.heap.size, 2, none⟩ = some (.bool t1) ∧ u.cell? ⟨w.heap.size, 3, none⟩ = some (.slice b1 k1 e1) ∧ u.cell? ⟨w.heap.size + 1, 0, none⟩ = some (.bool s2) ∧ u.cell? ⟨w.heap.size + 1, 1, none⟩ = some (.slice a2 l2 c2) ∧ u.cell? ⟨w.heap.size + 1, 2, none⟩ = some (.bool t2) ∧ u.cell? ⟨w.heap.size + 1, 3, none⟩ = some (.slice b2 k2 e2))
    (first | (refine ⟨?_, ?_, ?_, ?_, ?_, ?_, ?_, ?_⟩ <;> (go_simp; done)) | exact C0.out _ (by (repeat (first | with_reducible exact Grow.refl _ | with_reducible refine Grow.alloc ?_ _ | with_reducible refine Grow.drew ?_ | with_reducible refine Grow.drewN ?_ _ | (with_reducible refine Grow.setCell ?_ ?hp _; (case hp => (simp; try omega))) | with_reducible refine Grow.trans ?_ (by assumption)))))
    (first
      | (go_at_call 25; (with_reducible refine (M1.out _ (by (repeat (first | with_reducible exact Grow.refl _ | with_reducible refine Grow.alloc ?_ _ | with_reducible refine Grow.drew ?_ | with_reducible refine Grow.drewN ?_ _ | (with_reducible refine Grow.setCell ?_ ?hp _; (case hp => (simp; try omega))) | with_reducible refine Grow.trans ?_ (by assumption))))).mono ?_); (rintro e u5 ⟨v5, rfl, hv5, hb5⟩; obtain ⟨s5, a5, l5, c5, rfl⟩ := hv5.form; have HV5 := Lib.hid hv5; clear hv5; obtain ⟨f0_5, f1_5, f2_5, f3_5, f4_5, f5_5, f6_5, f7_5⟩ := C0.out u5 (by (repeat (first | with_reducible exact Grow.refl _ | with_reducible refine Grow.alloc ?_ _ | with_reducible refine Grow.drew ?_ | with_reducible refine Grow.drewN ?_ _ | (with_reducible refine Grow.setCell ?_ ?hp _; (case hp => (simp; try omega))) | with_reducible refine Grow.trans ?_ (by assumption)))); obtain ⟨q0_5, q1_5, q2_5, q3_5, qf5, NU5, hz5, HB5⟩ := R0.out u5 (by (repeat (first | with_reducible exact Grow.refl _ | with_reducible refine Grow.alloc ?_ _ | with_reducible refine Grow.drew ?_ | with_reducible refine Grow.drewN ?_ _ | (with_reducible refine Grow.setCell ?_ ?hp _; (case hp => (simp; try omega))) | with_reducible refine Grow.trans ?_ (by assumption)))); have NUH5 := Lib.hid NU5; have HBH5 := Lib.hid HB5; clear NU5 HB5))
      | (go_at_call 25; (with_reducible refine (M2.out _ (by (repeat (first | with_reducible exact Grow.refl _ | with_reducible refine Grow.alloc ?_ _ | with_reducible refine Grow.drew ?_ | with_reducible refine Grow.drewN ?_ _ | (with_reducible refine Grow.setCell ?_ ?hp _; (case hp => (simp; try omega))) | with_reducible refine Grow.trans ?_ (by assumption))))).mono ?_); (rintro e u6 ⟨v6, rfl, hv6, hb6⟩; obtain ⟨s6, a6, l6, c6, rfl⟩ := hv6.form; have HV6 := Lib.hid hv6; clear hv6; obtain ⟨f0_6, f1_6, f2_6, f3_6, f4_6, f5_6, f6_6, f7_6⟩ := C0.out u6 (by (repeat (first | with_reducible exact Grow.refl _ | with_reducible refine Grow.alloc ?_ _ | with_reducible refine Grow.drew ?_ | with_reducible refine Grow.drewN ?_ _ | (with_reducible refine Grow.setCell ?_ ?hp _; (case hp => (simp; try omega))) | with_reducible refine Grow.trans ?_ (by assumption)))); obtain ⟨q0_6, q1_6, q2_6, q3_6, qf6, NU6, hz6, HB6⟩ := R0.out u6 (by (repeat (first | with_reducible exact Grow.refl _ | with_reducible refine Grow.alloc ?_ _ | with_reducible refine Grow.drew ?_ | with_reducible refine Grow.drewN ?_ _ | (with_reducible refine Grow.setCell ?_ ?hp _; (case hp => (simp; try omega))) | with_reducible refine Grow.trans ?_ (by assumption)))); have NUH6 := Lib.hid NU6; have HBH6 := Lib.hid HB6; clear NU6 HB6))
      | (go_at_call 26; (with_reducible refine (OV.out _ _ _ (HV5.out.grow (by (repeat (first | with_reducible exact Grow.refl _ | with_reducible refine Grow.alloc ?_ _ | with_reducible refine Grow.drew ?_ | with_reducible refine Grow.drewN ?_ _ | (with_reducible refine Grow.setCell ?_ ?hp _; (case hp => (simp; try omega))) | with_reducible refine Grow.trans ?_ (by assumption))))) (HV6.out.grow (by (repeat (first | with_reducible exact Grow.refl _ | with_reducible refine Grow.alloc ?_ _ | with_reducible refine Grow.drew ?_ | with_reducible refine Grow.drewN ?_ _ | (with_reducible refine Grow.setCell ?_ ?hp _; (case hp => (simp; try omega))) | with_reducible refine Grow.trans ?_ (by assumption)))))).mono ?_); (rintro e u7 ⟨v7, rfl, hv7, hb7⟩; obtain ⟨s7, a7, l7, c7, t7, b7, k7, e7, rfl⟩ := hv7.form; have HV7 := Lib.hid hv7; clear hv7; obtain ⟨f0_7, f1_7, f2_7, f3_7, f4_7, f5_7, f6_7, f7_7⟩ := C0.out u7 (by (repeat (first | with_reducible exact Grow.refl _ | with_reducible refine Grow.alloc ?_ _ | with_reducible refine Grow.drew ?_ | with_reducible refine Grow.drewN ?_ _ | (with_reducible refine Grow.setCell ?_ ?hp _; (case hp => (simp; try omega))) | with_reducible refine Grow.trans ?_ (by assumption)))); obtain ⟨q0_7, q1_7, q2_7, q3_7, qf7, NU7, hz7, HB7⟩ := R0.out u7 (by (repeat (first | with_reducible exact Grow.refl _ | with_reducible refine Grow.alloc ?_ _ | with_reducible refine Grow.drew ?_ | with_reducible refine Grow.drewN ?_ _ | (with_reducible refine Grow.setCell ?_ ?hp _; (case hp => (simp; try omega))) | with_reducible refine Grow.trans ?_ (by assumption)))); have NUH7 := Lib.hid NU7; have HBH7 := Lib.hid HB7; clear NU7 HB7)))
  all_goals (try simp only [Exit.then])
  all_goals go_wp2_with fail
  all_goals refine bodyPost_ret (v := .agg #[.bool s7, .slice a7 l7 c7, .bool t7, .slice b7 k7 e7]) (by rw [results_one rfl]; go_simp) rfl ⟨_, rfl, HV7.out.set4 NUH7.out _ _ _ _ _ _ _ _, by have h9 := HBH7.out; (repeat (first | with_reducible exact Grow.refl _ | with_reducible refine Grow.alloc ?_ _ | with_reducible refine Grow.drew ?_ | with_reducible refine Grow.drewN ?_ _ | (with_reducible refine Grow.setCell ?_ ?hp _; (case hp => (simp; try omega))) | with_reducible refine Grow.trans ?_ (by assumption)))⟩
set_option maxRecDepth 20000 in
set_option maxHeartbeats 8000000 in
theorem signQ (x : Rat) (v1 : Value) (w : World) (h1 : RatR w v1 x) :
    Calls Tryz.prog 127 #[v1] w fun e w' => e = .returned (.int .i64 (sgI x.num)) ∧ Grow w w' := by
  obtain ⟨s1, a1, l1, c1, t1, b1, k1, e1, rfl⟩ := h1.form
  have HX1 := Lib.hid h1
  have S1 := Lib.hid (fun u hu => signV _ _ u (h1.num.grow hu))
  have S2 := Lib.hid (fun u hu => signV _ _ u (h1.den.grow hu))
  have hden : sgI (x.den : Int) = 1 := by have := x.den_pos; unfold sgI; rw [if_neg (by omega), if_pos (by omega)]
  rw [hden] at S2
  obtain ⟨Z, hZ⟩ : ∃ Z, sgI x.num = Z := ⟨_, rfl⟩
  have hZ1 : Z = -1 ∨ Z = 0 ∨ Z = 1 := by rw [← hZ]; unfold sgI; split; exact .inl rfl; split; exact .inr (.inr rfl); exact .inr (.inl rfl)
  have hw : IntKind.i64.wrap (Z * 1) = Z := by rcases hZ1 with h | h | h <;> subst h <;> rfl
  have hw2 : IntKind.i64.wrap Z = Z := by rcases hZ1 with h | h | h <;> subst h <;> rfl
  have hw3 : wrap64 Z = Z := by unfold wrap64; omega
  rw [hZ] at S1 ⊢
  clear h1 hden hZ hZ1
  go_enter Tryz.func127, Tryz.ntmps127
  go_wp2_with fail
  have c0 : ∀ u : World, Grow (w.alloc (.cells #[.bool s1, .slice a1 l1 c1, .bool t1, .slice b1 k1 e1] 27)) u → u.cell? ⟨w.heap.size, 0, none⟩ = some (.bool s1) ∧ u.cell? ⟨w.heap.size, 1, none⟩ = some (.slice a1 l1 c1) ∧ u.cell? ⟨w.heap.size, 2, none⟩ = some (.bool t1) ∧ u.cell? ⟨w.heap.size, 3, none⟩ = some (.slice b1 k1 e1) := by
    intro u hg
    refine ⟨(hg.cells _ _ (by (try simp); try omega)).trans ?_, (hg.cells _ _ (by (try simp); try omega)).trans ?_, (hg.cells _ _ (by (try simp); try omega)).trans ?_, (hg.cells _ _ (by (try simp); try omega)).trans ?_⟩ <;> go_simp
  have C0 := Lib.hid c0
  clear c0
  go_region_held3 (fun u => u.cell? ⟨w.heap.size, 0, none⟩ = some (.bool s1) ∧ u.cell? ⟨w.heap.size, 1, none⟩ = some (.slice a1 l1 c1) ∧ u.cell? ⟨w.heap.size, 2, none⟩ = some (.bool t1) ∧ u.cell? ⟨w.heap.size, 3, none⟩ = some (.slice b1 k1 e1))
    (first | (refine ⟨?_, ?_, ?_, ?_⟩ <;> (go_simp; done)) | exact C0.out _ (by (repeat (first | with_reducible exact Grow.refl _ | with_reducible refine Grow.alloc ?_ _ | with_reducible refine Grow.drew ?_ | with_reducible refine Grow.drewN ?_ _ | (with_reducible refine Grow.setCell ?_ ?hp _; (case hp => (simp; try omega))) | with_reducible refine Grow.trans ?_ (by assumption)))))
    (first
      | (go_at_call 21; (with_reducible refine (S1.out _ (by (repeat (first | with_reducible exact Grow.refl _ | with_reducible refine Grow.alloc ?_ _ | with_reducible refine Grow.drew ?_ | with_reducible refine Grow.drewN ?_ _ | (with_reducible refine Grow.setCell ?_ ?hp _; (case hp => (simp; try omega))) | with_reducible refine Grow.trans ?_ (by assumption))))).mono ?_); (rintro e u6 ⟨rfl, hb6⟩; obtain ⟨f0_6, f1_6, f2_6, f3_6⟩ := C0.out u6 (by (repeat (first | with_reducible exact Grow.refl _ | with_reducible refine Grow.alloc ?_ _ | with_reducible refine Grow.drew ?_ | with_reducible refine Grow.drewN ?_ _ | (with_reducible refine Grow.setCell ?_ ?hp _; (case hp => (simp; try omega))) | with_reducible refine Grow.trans ?_ (by assumption))))))
      | (go_at_call 21; (with_reducible refine (S2.out _ (by (repeat (first | with_reducible exact Grow.refl _ | with_reducible refine Grow.alloc ?_ _ | with_reducible refine Grow.drew ?_ | with_reducible refine Grow.drewN ?_ _ | (with_reducible refine Grow.setCell ?_ ?hp _; (case hp => (simp; try omega))) | with_reducible refine Grow.trans ?_ (by assumption))))).mono ?_); (rintro e u7 ⟨rfl, hb7⟩; obtain ⟨f0_7, f1_7, f2_7, f3_7⟩ := C0.out u7 (by (repeat (first | with_reducible exact Grow.refl _ | with_reducible refine Grow.alloc ?_ _ | with_reducible refine Grow.drew ?_ | with_reducible refine Grow.drewN ?_ _ | (with_reducible refine Grow.setCell ?_ ?hp _; (case hp => (simp; try omega))) | with_reducible refine Grow.trans ?_ (by assumption)))))))
  all_goals (try simp only [Exit.then])
  all_goals go_wp2_with fail
  all_goals go_ret
  all_goals exact ⟨rfl, by (repeat (first | with_reducible exact Grow.refl _ | with_reducible refine Grow.alloc ?_ _ | with_reducible refine Grow.drew ?_ | with_reducible refine Grow.drewN ?_ _ | (with_reducible refine Grow.setCell ?_ ?hp _; (case hp => (simp; try omega))) | with_reducible refine Grow.trans ?_ (by assumption)))⟩
end Go.Proofs.YtbpkfcohbefphaaGreatDoor
