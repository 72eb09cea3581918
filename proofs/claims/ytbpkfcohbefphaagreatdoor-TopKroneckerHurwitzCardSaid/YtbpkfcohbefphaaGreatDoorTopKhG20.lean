/- Lemmas, plain laws and walks that the statement LwKronecker leans on (texts BiS, BiT, RwV, RwX, RwY, BiV, TwA, TwD), conditions as each theorem says. -/
import Derived.Test.YtbpkfcohbefphaaGreatDoorTopKhG01
import Derived.Test.YtbpkfcohbefphaaGreatDoorTopKhG05
import Derived.Test.YtbpkfcohbefphaaGreatDoorTopKhG07
import Derived.Test.YtbpkfcohbefphaaGreatDoorTopKhG18
import Derived.Test.YtbpkfcohbefphaaGreatDoorTopKhG19

namespace Go.Proofs.YtbpkfcohbefphaaGreatDoor
open Go Go.RowKit
theorem len32Q (x : Nat) (h : x < 4294967296) (w : World) : Calls Tryz.prog 87 #[.int .u32 (x : Int)] w fun e w' => e = .returned (.int .i64 (Lib.bitLen x : Nat)) ∧ w = w' :=
  (len32_int (x : Int) w (by omega) (by omega)).mono fun e w' ⟨h1, h2⟩ => ⟨by rw [h1, Int.toNat_natCast], h2.symm⟩
set_option maxHeartbeats 1000000 in
theorem bitsV (z : Int) (v : Value) (w : World) (h : IntR w v z) : Calls Tryz.prog 117 #[v] w fun e w' => e = .returned (.int .i64 (Lib.bitLen z.natAbs : Nat)) ∧ Grow w w' := by
  obtain ⟨m, rfl, h⟩ := h
  have hlt := h.lt
  obtain ⟨n, hn⟩ : ∃ n : Nat, z.natAbs = n := ⟨_, rfl⟩
  rw [hn] at h hlt ⊢
  generalize sgB z = s
  have TR := Lib.hid (fun (u : World) (hu : Grow w u) => trimmed_mag m n u (h.grow hu))
  rcases h with ⟨h0, a, cap, rfl⟩ | ⟨h0, h1, b, off, cap, rfl, hk, hb, hc⟩
  · subst h0
    have e : Lib.bitLen 0 = 0 := rfl
    rw [e]
    clear hn
    go_enter Tryz.func117, Tryz.ntmps117
    go_wp2_with (go_at_call 45; (with_reducible refine (TR.out _ (by (repeat (first | with_reducible exact Grow.refl _ | with_reducible refine Grow.alloc ?_ _ | with_reducible refine Grow.drew ?_ | with_reducible refine Grow.drewN ?_ _ | (with_reducible refine Grow.setCell ?_ ?hp _; (case hp => (simp; try omega))) | with_reducible refine Grow.trans ?_ (by assumption))))).mono ?_); (rintro e u1 ⟨rfl, rfl⟩))
    go_ret
    exact ⟨rfl, by (repeat (first | with_reducible exact Grow.refl _ | with_reducible refine Grow.alloc ?_ _ | with_reducible refine Grow.drew ?_ | with_reducible refine Grow.drewN ?_ _ | (with_reducible refine Grow.setCell ?_ ?hp _; (case hp => (simp; try omega))) | with_reducible refine Grow.trans ?_ (by assumption)))⟩
  · have LN := Lib.hid (fun u => len32Q n hlt u)
    obtain ⟨k, hk2⟩ : ∃ k, Lib.bitLen n = k := ⟨_, rfl⟩
    have hkb : k ≤ 32 := by rw [← hk2]; exact Lib.bitLen_le n 32 (by omega) hlt
    rw [hk2] at LN ⊢
    have y1 : IntKind.i64.wrap (0 + (k : Int)) = (k : Int) := by rw [Int.zero_add]; exact IntWalk.i64_in _ (by omega)
    have y2 : IntKind.i64.wrap (k : Int) = (k : Int) := IntWalk.i64_in _ (by omega)
    have y3 : wrap64 (k : Int) = (k : Int) := by unfold wrap64; omega
    clear hn hk2
    go_enter Tryz.func117, Tryz.ntmps117
    go_wp2_with (first
      | (go_at_call 45; (with_reducible refine (TR.out _ (by (repeat (first | with_reducible exact Grow.refl _ | with_reducible refine Grow.alloc ?_ _ | with_reducible refine Grow.drew ?_ | with_reducible refine Grow.drewN ?_ _ | (with_reducible refine Grow.setCell ?_ ?hp _; (case hp => (simp; try omega))) | with_reducible refine Grow.trans ?_ (by assumption))))).mono ?_); (rintro e u1 ⟨rfl, rfl⟩))
      | (go_at_call 87; (with_reducible refine (LN.out _).mono ?_); (rintro e u2 ⟨rfl, rfl⟩)))
    go_ret
    exact ⟨by simp, by (repeat (first | with_reducible exact Grow.refl _ | with_reducible refine Grow.alloc ?_ _ | with_reducible refine Grow.drew ?_ | with_reducible refine Grow.drewN ?_ _ | (with_reducible refine Grow.setCell ?_ ?hp _; (case hp => (simp; try omega))) | with_reducible refine Grow.trans ?_ (by assumption)))⟩
theorem results_pair {fn : Func} {p q : Tmp} (h : fn.results = #[.tmp p, .tmp q]) (tmps : Array Value) (P : Program) (w : World) :
    (results fn tmps).run P w = .ok (.tuple #[tmps.getD p undef, tmps.getD q undef]) w := by
  simp [results, h]
end Go.Proofs.YtbpkfcohbefphaaGreatDoor
namespace Go.Proofs.YtbpkfcohbefphaaGreatDoor
open Go Go.RowKit
theorem int_cells {w : World} {B : Nat} {z : Int} (h : BxV w B z) : ∃ s a l c, (∀ u, Grow w u → u.cell? ⟨B, 0, none⟩ = some (.bool s) ∧ u.cell? ⟨B, 1, none⟩ = some (.slice a l c) ∧ (∀ o, u.frozen? ⟨B, o, none⟩ = false) ∧ B < u.heap.size) ∧ IntR w (.agg #[.bool s, .slice a l c]) z := by
  obtain ⟨h1, h2, h3, a, l, c, h4, h5, h6⟩ := h
  exact ⟨sgB z, a, l, c, fun u hg => ⟨(hg.cells _ _ h1).trans h4, (hg.cells _ _ h1).trans h5, fun o => (hg.frees _ _ h1).trans (h3 o), Nat.lt_of_lt_of_le h1 hg.size⟩, ⟨_, rfl, h6⟩⟩
theorem IntR.eqs {u : World} {s : Bool} {m : Value} {z : Int} (h : IntR u (.agg #[.bool s, m]) z) : s = sgB z ∧ MagR u m z.natAbs := by
  obtain ⟨p, hv, h1⟩ := h
  simp only [Value.agg.injEq, Array.mk.injEq, List.cons.injEq, Value.bool.injEq, and_true] at hv
  obtain ⟨e1, rfl⟩ := hv
  exact ⟨e1, h1⟩
theorem BxV.putI {u : World} {b : Nat} {z0 z : Int} {s : Bool} {a : Option Addr} {l c : Nat} (h : BxV u b z0) (hm : IntR u (.agg #[.bool s, .slice a l c]) z) : BxV ((u.setCell ⟨b, 0, none⟩ (.bool s)).setCell ⟨b, 1, none⟩ (.slice a l c)) b z := by
  obtain ⟨e, h1⟩ := hm.eqs
  rw [e]; exact h.put h1
theorem BxV.zero (u : World) (t : TypeId) : BxV (u.alloc (.cells #[.bool false, .slice none 0 0] t)) u.heap.size 0 := by
  have h := BxV.lay (w := u) (z := 0) (a := none) (l := 0) (c := 0) (.inl ⟨rfl, none, 0, rfl⟩) t
  exact h
end Go.Proofs.YtbpkfcohbefphaaGreatDoor
namespace Go.Proofs.YtbpkfcohbefphaaGreatDoor
open Go Go.RowKit
/-- The grid while its rows are cut. -/
structure CutS (u : World) (G n m : Nat) (R O C : Nat → Nat) (N : Nat → Nat → Rat) (i : Nat) : Prop where
  lt : G < u.heap.size
  free : ∀ o, u.frozen? ⟨G, o, none⟩ = false
  done : ∀ k, k < n → k < i → u.cell? ⟨G, k, none⟩ = some (.slice (some ⟨R k, O k + n * 4, none⟩) n (C k - n))
  left : ∀ k, k < n → i ≤ k → u.cell? ⟨G, k, none⟩ = some (.slice (some ⟨R k, O k, none⟩) m (C k))
  row : ∀ k, k < n → RowQ u (R k) (O k) m (N k)
  far : ∀ k, k < n → R k ≠ G
theorem CutS.grow {u u' : World} {G n m i : Nat} {R O C : Nat → Nat} {N : Nat → Nat → Rat} (h : CutS u G n m R O C N i) (hg : Grow u u') : CutS u' G n m R O C N i :=
  ⟨Nat.lt_of_lt_of_le h.lt hg.size, fun o => (hg.frees _ _ h.lt).trans (h.free o), fun k hk hi => (hg.cells _ _ h.lt).trans (h.done k hk hi), fun k hk hi => (hg.cells _ _ h.lt).trans (h.left k hk hi), fun k hk => RowP.grow (h.row k hk) hg, h.far⟩
theorem CutS.next {u : World} {G n m i : Nat} {R O C : Nat → Nat} {N : Nat → Nat → Rat} (h : CutS u G n m R O C N i) (hi : i < n) : CutS (u.setCell ⟨G, i, none⟩ (.slice (some ⟨R i, O i + n * 4, none⟩) n (C i - n))) G n m R O C N (i + 1) := by
  have hb : But (fun b => b = G) u (u.setCell ⟨G, i, none⟩ (.slice (some ⟨R i, O i + n * 4, none⟩) n (C i - n))) := (But.refl _ u).set _ (.inr rfl) (fun x => by rw [h.left i hi (Nat.le_refl _)]; simp)
  refine ⟨by simpa [World.setCell] using h.lt, fun o => by simpa using h.free o, fun k hk hki => ?_, fun k hk hki => ?_, fun k hk => RowP.but (h.row k hk) (h.far k hk) hb, h.far⟩
  · by_cases e : k = i
    · subst e; exact World.cell?_setCell_same _ _ _ (h.left k hk (Nat.le_refl _))
    · rw [World.cell?_setCell_other _ _ _ _ (by simp; try omega)]
      exact h.done k hk (by omega)
  · rw [World.cell?_setCell_other _ _ _ _ (by simp; try omega)]
    exact h.left k hk (by omega)
theorem CutS.grid {u : World} {G n m : Nat} {R O C : Nat → Nat} {N : Nat → Nat → Rat} (h : CutS u G n m R O C N n) (hm : m = n + n) (hc : ∀ i, i < n → m ≤ C i) (hj : ∀ i k, i < n → k < n → R i = R k → i = k) : GridQ u G n R (fun i => O i + n * 4) (fun i => C i - n) n (fun i k => N i (n + k)) := by
  refine ⟨h.lt, h.free, fun i hi => ?_, fun i hi => by have := hc i hi; omega, fun i hi => ?_, h.far, hj⟩
  · exact h.done i hi hi
  · have h1 := RowP.tail (h.row i hi) n (by omega)
    rw [hm, Nat.add_sub_cancel] at h1
    exact h1
end Go.Proofs.YtbpkfcohbefphaaGreatDoor
namespace Go.Proofs.YtbpkfcohbefphaaGreatDoor
open Go
/-- An allocation of a region: the operation, its slot, what it lays. -/
structure AlX where
  p : Nat
  d : Nat
  z : Obj
/-- The state with the allocations' slots as t has them. -/
def aof (al : List AlX) (b : Act) (t : Nat → Value) : Act := al.foldl (fun a x => a.put (some x.d) (t x.p)) b
/-- Block F was laid since w0. -/
def FrX (w0 u : World) (z : Obj) (F : Nat) : Prop := ∃ x : World, Grow w0 x ∧ x.heap.size = F ∧ Grow (x.alloc z) u
theorem FrX.grow {w0 u u' : World} {z : Obj} {F : Nat} (h : FrX w0 u z F) (hg : Grow u u') : FrX w0 u' z F := by
  obtain ⟨x, h1, h2, h3⟩ := h
  exact ⟨x, h1, h2, h3.trans hg⟩
theorem FrX.lt {w0 u : World} {z : Obj} {F : Nat} (h : FrX w0 u z F) : F < u.heap.size := by
  obtain ⟨x, h1, h2, h3⟩ := h
  have := h3.size
  simp at this
  omega
def ptrX (F : Nat) : Value := .pointer (some ⟨F, 0, none⟩)
theorem aof_put (al : List AlX) (b : Act) (t : Nat → Value) (dst : Option Tmp) (v : Value) (h : ∀ x ∈ al, dst ≠ some x.d) : aof al (b.put dst v) t = (aof al b t).put dst v := by
  induction al generalizing b with
  | nil => rfl
  | cons x rest ih =>
    show aof rest ((b.put dst v).put (some x.d) (t x.p)) t = (aof rest (b.put (some x.d) (t x.p)) t).put dst v
    rw [← ih _ (fun y hy => h y (by simp [hy])), Act.put_comm b (x := dst) (y := some x.d) v (t x.p) (fun d hd e => h x (by simp) (by rw [hd, e]))]
theorem put_put (a : Act) (d : Nat) (u v : Value) : (a.put (some d) u).put (some d) v = a.put (some d) v := by
  simp [Act.put]
theorem aof_cong (b : Act) (t t' : Nat → Value) : ∀ (l : List AlX), (∀ x ∈ l, t x.p = t' x.p) → aof l b t = aof l b t'
  | [], _ => rfl
  | x :: l, h => by
    show aof l (b.put (some x.d) (t x.p)) t = aof l (b.put (some x.d) (t' x.p)) t'
    rw [h x (by simp)]
    exact aof_cong _ t t' l (fun y hy => h y (by simp [hy]))
theorem aof_set (al : List AlX) (b : Act) (t : Nat → Value) (x : AlX) (v : Value) (hx : x ∈ al) (hd : al.Pairwise (fun x y => x.d ≠ y.d)) (hp : al.Pairwise (fun x y => x.p ≠ y.p)) : (aof al b t).put (some x.d) v = aof al b (fun i => if i = x.p then v else t i) := by
  induction al generalizing b with
  | nil => cases hx
  | cons y rest ih =>
    obtain ⟨hd1, hd2⟩ := List.pairwise_cons.1 hd
    obtain ⟨hp1, hp2⟩ := List.pairwise_cons.1 hp
    show (aof rest (b.put (some y.d) (t y.p)) t).put (some x.d) v = aof rest (b.put (some y.d) ((fun i => if i = x.p then v else t i) y.p)) (fun i => if i = x.p then v else t i)
    dsimp only
    rcases List.mem_cons.1 hx with rfl | hx'
    · rw [if_pos rfl, ← aof_put rest _ t (some x.d) v (fun z hz e => hd1 z hz (by injection e)), put_put]
      exact aof_cong _ t (fun i => if i = x.p then v else t i) rest (fun z hz => by rw [if_neg (fun e => hp1 z hz e.symm)])
    · rw [if_neg (hp1 x hx'), ih _ hx' hd2 hp2]
theorem put_self (a : Act) (d : Nat) : a.put (some d) (a.tmps.getD d undef) = a := by
  obtain ⟨tm, df⟩ := a
  simp only [Act.put, Act.mk.injEq, and_true]
  apply Array.ext_getElem?
  intro i
  by_cases hi : d = i
  · subst hi
    rw [Array.getElem?_setIfInBounds_self]
    by_cases hlt : d < tm.size
    · simp [hlt]
    · simp [hlt]
  · rw [Array.getElem?_setIfInBounds_ne hi]
theorem aof_same (a : Act) (t : Nat → Value) : ∀ (l : List AlX), (∀ x ∈ l, t x.p = a.tmps.getD x.d undef) → aof l a t = a
  | [], _ => rfl
  | x :: l, h => by
    show aof l (a.put (some x.d) (t x.p)) t = a
    rw [h x (by simp), put_self]
    exact aof_same a t l (fun y hy => h y (by simp [hy]))
theorem aof_self (al : List AlX) (a : Act) (hp : al.Pairwise (fun x y => x.p ≠ y.p)) : ∃ t, aof al a t = a := by
  have h : ∀ (l : List AlX), l.Pairwise (fun x y => x.p ≠ y.p) → ∃ t : Nat → Value, ∀ x ∈ l, t x.p = a.tmps.getD x.d undef := by
    intro l
    induction l with
    | nil => intro _; exact ⟨fun _ => undef, fun _ h => by cases h⟩
    | cons x l ih =>
      intro h
      obtain ⟨h1, h2⟩ := List.pairwise_cons.1 h
      obtain ⟨t, ht⟩ := ih h2
      refine ⟨fun i => if i = x.p then a.tmps.getD x.d undef else t i, fun y hy => ?_⟩
      rcases List.mem_cons.1 hy with rfl | hy
      · simp
      · simp only [if_neg (fun e : y.p = x.p => h1 y hy e.symm)]; exact ht y hy
  obtain ⟨t, ht⟩ := h al hp
  exact ⟨t, aof_same a t al ht⟩
/-- The marks of a list of operations. -/
def mkA (n : Nat) (L : List Nat) : Array Bool := L.foldl (fun a i => a.setIfInBounds i true) (Array.replicate n false)
theorem mkA_size (n : Nat) (L : List Nat) : (mkA n L).size = n := by
  have : ∀ (L : List Nat) (a : Array Bool), (L.foldl (fun a i => a.setIfInBounds i true) a).size = a.size := by
    intro L
    induction L with
    | nil => intro a; rfl
    | cons i L ih => intro a; rw [List.foldl_cons, ih]; simp
  unfold mkA; rw [this]; simp
theorem mkA_get (n : Nat) (L : List Nat) (j : Nat) (hj : j < n) : (mkA n L).getD j false = decide (j ∈ L) := by
  have : ∀ (L : List Nat) (a : Array Bool), j < a.size → (L.foldl (fun a i => a.setIfInBounds i true) a).getD j false = (a.getD j false || decide (j ∈ L)) := by
    intro L
    induction L with
    | nil => intro a _; simp
    | cons i L ih =>
      intro a ha
      rw [List.foldl_cons, ih _ (by simpa using ha)]
      by_cases hij : i = j
      · subst hij; simp [ha]
      · rw [getD_set_ne false hij]
        have : (decide (j ∈ i :: L)) = decide (j ∈ L) := by simp [Ne.symm hij]
        rw [this]
  unfold mkA
  rw [this L _ (by simpa using hj)]
  simp [hj]
theorem arr_eq {n : Nat} {listed : Array Bool} {L : List Nat} (hs : listed.size = n) (h : ∀ j, j < n → listed.getD j false = decide (j ∈ L)) : listed = mkA n L := by
  apply Array.ext
  · rw [hs, mkA_size]
  · intro j h1 h2
    have h3 := h j (by omega)
    have h4 := mkA_get n L j (by omega)
    rw [← h4] at h3
    simpa [h1, h2] using h3
section
variable {P : Program} {ops : Array Oper} {Q : Exit → Act → World → Prop} {S : World → Prop} {md : Region.Mode} {kd : Nat → Nat} {al : List AlX}
/-- The walk of what comes before any use of the allocations. -/
def wpFlex (P : Program) (ops : Array Oper) (Q : Exit → Act → World → Prop) (S : World → Prop) (kd : Nat → Nat) (al : List AlX) (K : Act → World → Prop) : List Nat → Act → World → Prop
  | [], b, w => K b w
  | i :: rest, b, w =>
    match kd i with
    | 0 => ∃ o v, ops[i]? = some o ∧ (∀ t, YieldsIf P ops (fun _ => True) o v (aof al b t)) ∧ wpFlex P ops Q S kd al K rest (b.put o.dst v) w
    | 1 => ∃ o v, ops[i]? = some o ∧ (∀ t, YieldsIf P ops S o v (aof al b t)) ∧ wpFlex P ops Q S kd al K rest (b.put o.dst v) w
    | _ => ∃ o, ops[i]? = some o ∧ ∀ t u, Grow w u → wpOp P ops Q i (fun a' w' => Grow u w' ∧ ∃ v, a' = (aof al b t).put o.dst v ∧ wpFlex P ops Q S kd al K rest (b.put o.dst v) w') (aof al b t) u
/-- What may be checked without the program. -/
def flexB (md : Region.Mode) (ops : Array Oper) (kd : Nat → Nat) (al : List AlX) (L2 : List Nat) : List Nat → List Nat → Bool
  | [], L0 =>
    (List.range ops.size).all (fun j => L0.contains j || (al.map (·.p)).contains j || (al.all fun x => (ops[j]?.map (fun o => o.after.any (fun e => Region.binds md e && e.on == x.p))).getD false)) &&
    heldB md ops kd L2 (mkA ops.size (al.map (·.p) ++ L0))
  | i :: rest, L0 =>
    decide (i < ops.size) && !(al.map (·.p)).contains i && !L0.contains i &&
    (ops[i]?.map (fun o => o.after.all (fun e => !Region.binds md e || (decide (e.on < ops.size) && L0.contains e.on)) && al.all (fun x => o.dst != some x.d))).getD false &&
    (if kd i ≤ 1 then Region.free md ops (mkA ops.size L0) i && (kd i == 0 || (List.range ops.size).all (fun t => kd t != 3 || anc md ops ops.size i t)) else (kd i == 2) && Region.ready md ops (mkA ops.size (al.map (·.p) ++ L0)) == [i]) &&
    flexB md ops kd al L2 rest (i :: L0)
/-- What runs an allocation. -/
def AlRun (P : Program) (ops : Array Oper) (Q : Exit → Act → World → Prop) (al : List AlX) : Prop :=
  ∀ x ∈ al, (∃ o, ops[x.p]? = some o ∧ o.after = #[]) ∧ ∀ K a u, K (a.put (some x.d) (ptrX u.heap.size)) (u.alloc x.z) → wpOp P ops Q x.p K a u
/-- The state while the region runs. -/
structure FlS (md : Region.Mode) (ops : Array Oper) (al : List AlX) (w0 w : World) (L0 : List Nat) (b : Act) (listed : Array Bool) (a : Act) (u : World) (t : Nat → Value) (F : Nat → Nat) : Prop where
  act : a = aof al b t
  g0 : Grow w0 u
  g1 : Grow w u
  clo : Clo md ops listed
  off : ∀ j, j < ops.size → (∀ x ∈ al, x.p ≠ j) → listed.getD j false = decide (j ∈ L0)
  on : ∀ x ∈ al, listed.getD x.p false = true → t x.p = ptrX (F x.p) ∧ FrX w0 u x.z (F x.p)
  far : ∀ x ∈ al, ∀ y ∈ al, listed.getD x.p false = true → listed.getD y.p false = true → x.p ≠ y.p → F x.p ≠ F y.p
theorem FlS.alloc {w0 w u : World} {L0 : List Nat} {b a : Act} {listed : Array Bool} {t : Nat → Value} {F : Nat → Nat} (h : FlS md ops al w0 w L0 b listed a u t F) {x : AlX} (hx : x ∈ al) (hr : x.p ∈ Region.ready md ops listed) (hd : al.Pairwise (fun x y => x.d ≠ y.d)) (hp : al.Pairwise (fun x y => x.p ≠ y.p)) (hxp : ∀ y ∈ al, y.p = x.p → y = x) :
    FlS md ops al w0 w L0 b (listed.setIfInBounds x.p true) (a.put (some x.d) (ptrX u.heap.size)) (u.alloc x.z) (fun i => if i = x.p then ptrX u.heap.size else t i) (fun i => if i = x.p then u.heap.size else F i) := by
  have hg : Grow u (u.alloc x.z) := (Grow.refl u).alloc _
  have hun := getD_both (mem_ready.1 hr).1
  refine ⟨by rw [h.act, aof_set al b t x _ hx hd hp], h.g0.trans hg, h.g1.trans hg, h.clo.set hr, fun j hj hn => ?_, fun y hy hl => ?_, fun y hy z hz hl hl' hne => ?_⟩
  · rw [getD_set_ne false (hn x hx)]; exact h.off j hj hn
  · by_cases hyx : y.p = x.p
    · obtain rfl := hxp y hy hyx
      simp only
      exact ⟨rfl, u, h.g0, rfl, Grow.refl _⟩
    · simp only [if_neg hyx]
      rw [getD_set_ne false (Ne.symm hyx)] at hl
      obtain ⟨h1, h2⟩ := h.on y hy hl
      exact ⟨h1, h2.grow hg⟩
  · by_cases hyx : y.p = x.p
    · by_cases hzx : z.p = x.p
      · exact absurd (hyx.trans hzx.symm) hne
      · simp only [if_pos hyx, if_neg hzx]
        rw [getD_set_ne false (Ne.symm hzx)] at hl'
        have := (h.on z hz hl').2.lt
        omega
    · by_cases hzx : z.p = x.p
      · simp only [if_neg hyx, if_pos hzx]
        rw [getD_set_ne false (Ne.symm hyx)] at hl
        have := (h.on y hy hl).2.lt
        omega
      · simp only [if_neg hyx, if_neg hzx]
        rw [getD_set_ne false (Ne.symm hyx)] at hl
        rw [getD_set_ne false (Ne.symm hzx)] at hl'
        exact h.far y hy z hz hl hl' hne
theorem FlS.step {w0 w u u' : World} {L0 : List Nat} {b a : Act} {listed : Array Bool} {t : Nat → Value} {F : Nat → Nat} (h : FlS md ops al w0 w L0 b listed a u t F) {i : Nat} {o : Oper} {v : Value} (hi : i < ops.size) (hal : ∀ x ∈ al, x.p ≠ i) (hr : i ∈ Region.ready md ops listed) (hdst : ∀ x ∈ al, o.dst ≠ some x.d) (hg : Grow u u') {w2 : World} (h2 : Grow w2 u') :
    FlS md ops al w0 w2 (i :: L0) (b.put o.dst v) (listed.setIfInBounds i true) (a.put o.dst v) u' t F := by
  refine ⟨by rw [h.act, aof_put al b t o.dst v hdst], h.g0.trans hg, h2, h.clo.set hr, fun j hj hn => ?_, fun y hy hl => ?_, fun y hy z hz hl hl' hne => ?_⟩
  · by_cases hij : i = j
    · subst hij
      have : i < listed.size := by rw [h.clo.size]; exact hi
      simp [this]
    · rw [getD_set_ne false hij, h.off j hj hn]
      have hji : ¬ j = i := fun e => hij e.symm
      simp [hji]
  · rw [getD_set_ne false (Ne.symm (hal y hy))] at hl
    obtain ⟨h1, h2⟩ := h.on y hy hl
    exact ⟨h1, h2.grow hg⟩
  · rw [getD_set_ne false (Ne.symm (hal y hy))] at hl
    rw [getD_set_ne false (Ne.symm (hal z hz))] at hl'
    exact h.far y hy z hz hl hl' hne
/-- What is left when all allocations have come up. -/
def flexEnd (P : Program) (ops : Array Oper) (Q : Exit → Act → World → Prop) (S : World → Prop) (kd : Nat → Nat) (al : List AlX) (w0 : World) (L2 : List Nat) (b : Act) (w : World) : Prop :=
  ∀ (F : Nat → Nat) u, Grow w u → (∀ x ∈ al, FrX w0 u x.z (F x.p)) → (∀ x ∈ al, ∀ y ∈ al, x.p ≠ y.p → F x.p ≠ F y.p) → wpHeld P ops Q S kd L2 (aof al b (fun p => ptrX (F p))) u
theorem cnt_step {listed : Array Bool} {x : AlX} {n : Nat} (hs : listed.size = n) (hxn : x.p < n) (hun : listed.getD x.p false = false) : ∀ (al : List AlX), x ∈ al → al.Pairwise (fun x y => x.p ≠ y.p) →
    (al.filter (fun y => !listed.getD y.p false)).length = (al.filter (fun y => !(listed.setIfInBounds x.p true).getD y.p false)).length + 1
  | [], h, _ => by cases h
  | y :: l, h, hp => by
    obtain ⟨h1, h2⟩ := List.pairwise_cons.1 hp
    rcases List.mem_cons.1 h with rfl | h
    · have e1 : (l.filter (fun y => !(listed.setIfInBounds x.p true).getD y.p false)) = l.filter (fun y => !listed.getD y.p false) := by
        apply List.filter_congr
        intro z hz
        rw [getD_set_ne false (h1 z hz)]
      have e2 : (listed.setIfInBounds x.p true).getD x.p false = true := by
        have : x.p < listed.size := by omega
        simp [this]
      rw [List.filter_cons, List.filter_cons, e1, e2, hun]
      simp
    · have ih := cnt_step hs hxn hun l h h2
      have hne : x.p ≠ y.p := fun e => h1 x h e.symm
      rw [List.filter_cons, List.filter_cons, getD_set_ne false hne]
      split
      · simp only [List.length_cons]; omega
      · exact ih
theorem cnt_same {listed : Array Bool} {i : Nat} (al : List AlX) (h : ∀ x ∈ al, x.p ≠ i) : (al.filter (fun y => !(listed.setIfInBounds i true).getD y.p false)).length = (al.filter (fun y => !listed.getD y.p false)).length := by
  congr 1
  apply List.filter_congr
  intro z hz
  rw [getD_set_ne false (Ne.symm (h z hz))]
theorem getD_tf {listed : Array Bool} {i : Nat} (hi : i < listed.size) (h : listed.getD i false = false) : listed.getD i true = false := by
  simpa [hi] using h
theorem in_size {listed : Array Bool} {i : Nat} (h : listed.getD i false = true) : i < listed.size := by
  rcases Nat.lt_or_ge i listed.size with h1 | h1
  · exact h1
  · simp [Array.getElem?_eq_none h1] at h
theorem flex_main {L2 : List Nat} {w0 : World} (hsel : Region.noSelect ops = true) (hQ : ∀ c a d v w, Q (.panic c) (a.put d v) w → Q (.panic c) a w) (hk : ∀ t, kd t = 3 → t < ops.size) (hS : ∀ u, Grow w0 u → S u) (hal : AlRun P ops Q al)
    (hd : al.Pairwise (fun x y => x.d ≠ y.d)) (hp : al.Pairwise (fun x y => x.p ≠ y.p)) (hxp : ∀ x ∈ al, ∀ y ∈ al, y.p = x.p → y = x) :
    ∀ (L1 L0 : List Nat) (b : Act) (w : World), wpFlex P ops Q S kd al (flexEnd P ops Q S kd al w0 L2) L1 b w → flexB md ops kd al L2 L1 L0 = true → (∀ x ∈ al, x.p ∉ L0) →
    ∀ (m : Nat) (listed : Array Bool) (a : Act) (u : World) (t : Nat → Value) (F : Nat → Nat), FlS md ops al w0 w L0 b listed a u t F → (al.filter (fun x => !listed.getD x.p false)).length = m →
    heldTo P md ops Q S (fun t => kd t != 3) (L1.length + m + L2.length) listed a u := by
  intro L1
  induction L1 with
  | nil =>
    intro L0 b w hw hB hL0 m
    simp only [flexB, Bool.and_eq_true] at hB
    obtain ⟨hB1, hB2⟩ := hB
    induction m with
    | zero =>
      intro listed a u t F hs hc
      have hall : ∀ x ∈ al, listed.getD x.p false = true := by
        intro x hx
        cases h : listed.getD x.p false with
        | true => rfl
        | false =>
          have h1 : x ∈ al.filter (fun x => !listed.getD x.p false) := List.mem_filter.2 ⟨hx, by simp only [h]; rfl⟩
          have h2 := List.length_pos_of_mem h1
          omega
      have hl : listed = mkA ops.size (al.map (·.p) ++ L0) := arr_eq hs.clo.size (fun j hj => by
        by_cases hja : ∃ x ∈ al, x.p = j
        · obtain ⟨x, hx, rfl⟩ := hja
          rw [hall x hx]
          symm
          rw [decide_eq_true_eq, List.mem_append]
          exact .inl (List.mem_map.2 ⟨x, hx, rfl⟩)
        · rw [hs.off j hj (fun x hx e => hja ⟨x, hx, e⟩)]
          have h1 : j ∉ al.map (·.p) := fun h => by
            obtain ⟨x, hx, e⟩ := List.mem_map.1 h
            exact hja ⟨x, hx, e⟩
          simp only [List.mem_append, decide_eq_decide]
          exact ⟨fun h => .inr h, fun h => h.resolve_left h1⟩)
      have ha : a = aof al b (fun p => ptrX (F p)) := hs.act.trans (aof_cong b _ _ al (fun x hx => (hs.on x hx (hall x hx)).1))
      have hh := hw F u hs.g1 (fun x hx => (hs.on x hx (hall x hx)).2) (fun x hx y hy hne => hs.far x hx y hy (hall x hx) (hall y hy) hne)
      rw [← ha] at hh
      have := heldTo_of_walk (kd := kd) hsel hQ L2 listed a u hs.clo (by rw [hl]; exact hB2) (fun _ => hS u hs.g0) hk hh
      simpa using this
    | succ m ih =>
      intro listed a u t F hs hc
      obtain ⟨x0, hx0⟩ : ∃ x, x ∈ al.filter (fun x => !listed.getD x.p false) := by
        cases h : al.filter (fun x => !listed.getD x.p false) with
        | nil => rw [h] at hc; cases hc
        | cons x l => exact ⟨x, by simp⟩
      obtain ⟨hx0a, hx0b⟩ := List.mem_filter.1 hx0
      have hx0f : listed.getD x0.p false = false := by
        cases h : listed.getD x0.p false with
        | false => rfl
        | true => simp only [h] at hx0b; cases hx0b
      obtain ⟨⟨o0, ho0, haf⟩, -⟩ := hal x0 hx0a
      have hsz0 : x0.p < ops.size := (Array.getElem?_eq_some_iff.1 ho0).1
      have hr0 : x0.p ∈ Region.ready md ops listed := mem_ready.2 ⟨getD_tf (by rw [hs.clo.size]; exact hsz0) hx0f, o0, ho0, fun e he => by rw [haf] at he; simp at he⟩
      rw [show ([] : List Nat).length + (m + 1) + L2.length = ([] : List Nat).length + m + L2.length + 1 by omega]
      refine ⟨fun h => (by rw [h] at hr0; cases hr0), fun j hj => ?_⟩
      by_cases hja : ∃ x ∈ al, x.p = j
      · obtain ⟨x, hx, rfl⟩ := hja
        have hst := hs.alloc hx hj hd hp (hxp x hx)
        obtain ⟨⟨o, ho, -⟩, hrun⟩ := hal x hx
        refine hrun _ a u ⟨fun _ _ => hS _ hst.g0, ih _ _ _ _ _ hst ?_⟩
        have := cnt_step hs.clo.size (Array.getElem?_eq_some_iff.1 ho).1 (getD_both (mem_ready.1 hj).1) al hx hp
        omega
      · exfalso
        obtain ⟨hju, oj, hoj, hdeps⟩ := mem_ready.1 hj
        have hjs : j < ops.size := (Array.getElem?_eq_some_iff.1 hoj).1
        have h1 := hs.off j hjs (fun x hx e => hja ⟨x, hx, e⟩)
        rw [getD_both hju] at h1
        have hjL : j ∉ L0 := by simpa using h1.symm
        have h2 := List.all_eq_true.1 hB1 j (List.mem_range.2 hjs)
        simp only [Bool.or_eq_true, hoj, Option.map_some, Option.getD_some] at h2
        rcases h2 with (h2 | h2) | h2
        · exact hjL (by simpa using h2)
        · have h3 : j ∈ al.map (·.p) := by simpa using h2
          obtain ⟨x, hx, e⟩ := List.mem_map.1 h3
          exact hja ⟨x, hx, e⟩
        · have h3 := List.all_eq_true.1 h2 x0 hx0a
          obtain ⟨e, he, hb⟩ := Array.any_eq_true'.1 h3
          simp only [Bool.and_eq_true, beq_iff_eq] at hb
          have := hdeps e he hb.1
          rw [hb.2, hx0f] at this
          cases this
  | cons i rest ihL =>
    intro L0 b w hw hB hL0 m
    simp only [flexB, Bool.and_eq_true, decide_eq_true_eq, Bool.not_eq_true'] at hB
    obtain ⟨⟨⟨⟨⟨hi, hia⟩, hiL⟩, hdep⟩, hkd⟩, hrest⟩ := hB
    obtain ⟨o, ho⟩ : ∃ o, ops[i]? = some o := ⟨ops[i], by simp [hi]⟩
    rw [ho, Option.map_some, Option.getD_some, Bool.and_eq_true] at hdep
    obtain ⟨hdep1, hdst0⟩ := hdep
    have hnal : ∀ x ∈ al, x.p ≠ i := fun x hx e => by
      have : i ∈ al.map (·.p) := List.mem_map.2 ⟨x, hx, e⟩
      rw [show (al.map (·.p)).contains i = true by simpa using this] at hia
      cases hia
    have hnL : i ∉ L0 := fun h => by
      rw [show L0.contains i = true by simpa using h] at hiL
      cases hiL
    have hdst : ∀ x ∈ al, o.dst ≠ some x.d := fun x hx => by
      have := List.all_eq_true.1 hdst0 x hx
      simpa using this
    have hdeps : ∀ e ∈ o.after, Region.binds md e = true → e.on < ops.size ∧ e.on ∈ L0 := fun e he hb => by
      have := Array.all_eq_true_iff_forall_mem.1 hdep1 e he
      simpa [hb] using this
    have hL0' : ∀ x ∈ al, x.p ∉ i :: L0 := fun x hx h => by
      rcases List.mem_cons.1 h with e | h
      · exact hnal x hx e
      · exact hL0 x hx h
    have hrdy : ∀ (listed : Array Bool) (a : Act) (u : World) (t : Nat → Value) (F : Nat → Nat), FlS md ops al w0 w L0 b listed a u t F → i ∈ Region.ready md ops listed := by
      intro listed a u t F hs
      refine mem_ready.2 ⟨getD_tf (by rw [hs.clo.size]; exact hi) (by rw [hs.off i hi hnal]; simpa using hnL), o, ho, fun e he hb => ?_⟩
      obtain ⟨h1, h2⟩ := hdeps e he hb
      rw [hs.off e.on h1 (fun x hx e' => hL0 x hx (by rw [e']; exact h2))]
      simpa using h2
    have hfr : kd i ≤ 1 → ∀ (listed : Array Bool) (a : Act) (u : World) (t : Nat → Value) (F : Nat → Nat), FlS md ops al w0 w L0 b listed a u t F → ∀ j oj, ops[j]? = some oj → j ≠ i → listed.getD j true = false → (∀ e ∈ oj.after, Region.binds md e = true → e.on ≠ i) → o.apart ops oj = true := by
      intro hk1 listed a u t F hs j oj hoj hji hju hno
      rw [if_pos hk1] at hkd
      simp only [Bool.and_eq_true] at hkd
      have hjs : j < ops.size := (Array.getElem?_eq_some_iff.1 hoj).1
      refine Region.free_spec ho hkd.1 j oj hoj hji ?_ hno
      refine getD_tf (by rw [mkA_size]; exact hjs) ?_
      rw [mkA_get _ _ _ hjs]
      by_cases hja : ∃ x ∈ al, x.p = j
      · obtain ⟨x, hx, rfl⟩ := hja
        simpa using hL0 x hx
      · rw [← hs.off j hjs (fun x hx e => hja ⟨x, hx, e⟩)]
        exact getD_both hju
    unfold wpFlex at hw
    split at hw
    · rename_i hk0
      intro listed a u t F hs hc
      obtain ⟨o', v, ho', hy, hw'⟩ := hw
      obtain rfl : o' = o := Option.some.inj (ho'.symm.trans ho)
      rw [show (i :: rest).length + m + L2.length = rest.length + m + L2.length + 1 by simp only [List.length_cons]; omega]
      refine heldTo_first ho (Region.noSelect_spec hsel) (fun c a w => hQ c a _ _ w) (.inl fun _ => trivial) _ listed a u hs.clo (hfr (by omega) listed a u t F hs) (hrdy listed a u t F hs) (by rw [hs.act]; exact hy t) trivial ?_
      exact ihL _ _ _ hw' hrest hL0' m _ _ _ _ _ (hs.step hi hnal (hrdy listed a u t F hs) hdst (Grow.refl u) hs.g1) (by rw [cnt_same al hnal]; exact hc)
    · rename_i hk1
      intro listed a u t F hs hc
      obtain ⟨o', v, ho', hy, hw'⟩ := hw
      obtain rfl : o' = o := Option.some.inj (ho'.symm.trans ho)
      have ha : ∀ t, t < ops.size → kd t = 3 → anc md ops ops.size i t = true := fun t ht h3 => by
        rw [if_pos (by omega)] at hkd
        simp only [Bool.and_eq_true, Bool.or_eq_true, beq_iff_eq, hk1] at hkd
        have h4 := List.all_eq_true.1 (hkd.2.resolve_left (by omega)) t (List.mem_range.2 ht)
        simpa [h3] using h4
      rw [show (i :: rest).length + m + L2.length = rest.length + m + L2.length + 1 by simp only [List.length_cons]; omega]
      refine heldTo_first ho (Region.noSelect_spec hsel) (fun c a w => hQ c a _ _ w) (.inr ⟨rfl, fun t ht h3 => ⟨_, ha t ht (by simpa using h3)⟩⟩) _ listed a u hs.clo (hfr (by omega) listed a u t F hs) (hrdy listed a u t F hs) (by rw [hs.act]; exact hy t) (hS u hs.g0) ?_
      exact ihL _ _ _ hw' hrest hL0' m _ _ _ _ _ (hs.step hi hnal (hrdy listed a u t F hs) hdst (Grow.refl u) hs.g1) (by rw [cnt_same al hnal]; exact hc)
    · rename_i hk0 hk1
      have hk2 : ¬ kd i ≤ 1 := by
        intro hle
        rcases Nat.le_one_iff_eq_zero_or_eq_one.1 hle with h | h
        · exact hk0 h
        · exact hk1 h
      rw [if_neg hk2] at hkd
      simp only [Bool.and_eq_true, beq_iff_eq] at hkd
      obtain ⟨hkd2, hrd⟩ := hkd
      obtain ⟨o', ho', hw'⟩ := hw
      obtain rfl : o' = o := Option.some.inj (ho'.symm.trans ho)
      have honly : ∀ (listed : Array Bool) (a : Act) (u : World) (t : Nat → Value) (F : Nat → Nat), FlS md ops al w0 w L0 b listed a u t F → ∀ j ∈ Region.ready md ops listed, (¬ ∃ x ∈ al, x.p = j) → j = i := by
        intro listed a u t F hs j hj hja
        obtain ⟨hju, oj, hoj, hdj⟩ := mem_ready.1 hj
        have hjs : j < ops.size := (Array.getElem?_eq_some_iff.1 hoj).1
        have h1 := hs.off j hjs (fun x hx e => hja ⟨x, hx, e⟩)
        rw [getD_both hju] at h1
        have hjL : j ∉ L0 := by simpa using h1.symm
        have hjA : j ∉ al.map (·.p) := fun h => by
          obtain ⟨x, hx, e⟩ := List.mem_map.1 h
          exact hja ⟨x, hx, e⟩
        have : j ∈ Region.ready md ops (mkA ops.size (al.map (·.p) ++ L0)) := by
          refine mem_ready.2 ⟨getD_tf (by rw [mkA_size]; exact hjs) ?_, oj, hoj, fun e he hb => ?_⟩
          · rw [mkA_get _ _ _ hjs, decide_eq_false_iff_not, List.mem_append]
            exact fun h => h.elim hjA hjL
          · have h2 := hdj e he hb
            have h3 : e.on < ops.size := by have := in_size h2; rwa [hs.clo.size] at this
            rw [mkA_get _ _ _ h3, decide_eq_true_eq, List.mem_append]
            by_cases hea : ∃ x ∈ al, x.p = e.on
            · obtain ⟨x, hx, ex⟩ := hea
              exact .inl (List.mem_map.2 ⟨x, hx, ex⟩)
            · rw [hs.off e.on h3 (fun x hx e' => hea ⟨x, hx, e'⟩)] at h2
              exact .inr (by simpa using h2)
        rw [hrd] at this
        simpa using this
      have hgo : ∀ (m : Nat) (listed : Array Bool) (a : Act) (u : World) (t : Nat → Value) (F : Nat → Nat), FlS md ops al w0 w L0 b listed a u t F → (al.filter (fun x => !listed.getD x.p false)).length = m →
          wpOp P ops Q i (fun a' w' => ((fun t => kd t != 3) i = true → S u → S w') ∧ heldTo P md ops Q S (fun t => kd t != 3) (rest.length + m + L2.length) (listed.setIfInBounds i true) a' w') a u := by
        intro m listed a u t F hs hc
        have h1 := hw' t u hs.g1
        rw [← hs.act] at h1
        refine wpOp_mono (fun a' w'' h3 => ?_) h1
        obtain ⟨hg, v, ha', hwr⟩ := h3
        subst ha'
        exact ⟨fun _ _ => hS _ (hs.g0.trans hg), ihL _ _ _ hwr hrest hL0' m _ _ _ _ _ (hs.step hi hnal (hrdy listed a u t F hs) hdst hg (Grow.refl w'')) (by rw [cnt_same al hnal]; exact hc)⟩
      induction m with
      | zero =>
        intro listed a u t F hs hc
        have hr := hrdy listed a u t F hs
        rw [show (i :: rest).length + 0 + L2.length = rest.length + 0 + L2.length + 1 by simp only [List.length_cons]; omega]
        refine ⟨fun h => (by rw [h] at hr; cases hr), fun j hj => ?_⟩
        by_cases hja : ∃ x ∈ al, x.p = j
        · exfalso
          obtain ⟨x, hx, rfl⟩ := hja
          have h1 : x ∈ al.filter (fun x => !listed.getD x.p false) := List.mem_filter.2 ⟨hx, by rw [getD_both (mem_ready.1 hj).1]; rfl⟩
          have h2 := List.length_pos_of_mem h1
          omega
        · obtain rfl := honly listed a u t F hs j hj hja
          exact hgo 0 listed a u t F hs hc
      | succ m ih =>
        intro listed a u t F hs hc
        have hr := hrdy listed a u t F hs
        rw [show (i :: rest).length + (m + 1) + L2.length = rest.length + (m + 1) + L2.length + 1 by simp only [List.length_cons]; omega]
        refine ⟨fun h => (by rw [h] at hr; cases hr), fun j hj => ?_⟩
        by_cases hja : ∃ x ∈ al, x.p = j
        · obtain ⟨x, hx, rfl⟩ := hja
          have hst := hs.alloc hx hj hd hp (hxp x hx)
          obtain ⟨⟨ox, hox, -⟩, hrun⟩ := hal x hx
          refine hrun _ a u ⟨fun _ _ => hS _ hst.g0, ?_⟩
          have h1 := cnt_step hs.clo.size (Array.getElem?_eq_some_iff.1 hox).1 (getD_both (mem_ready.1 hj).1) al hx hp
          have h2 := ih _ _ _ _ _ hst (by omega)
          rwa [show (i :: rest).length + m + L2.length = rest.length + (m + 1) + L2.length by simp only [List.length_cons]; omega] at h2
        · obtain rfl := honly listed a u t F hs j hj hja
          exact hgo (m + 1) listed a u t F hs hc
end
section
variable {P : Program} {Q : Exit → Act → World → Prop} {S : World → Prop} {kd : Nat → Nat} {al : List AlX}
theorem al_inj : ∀ (al : List AlX), al.Pairwise (fun x y => x.p ≠ y.p) → ∀ x ∈ al, ∀ y ∈ al, y.p = x.p → y = x
  | [], _, x, hx, _, _, _ => by cases hx
  | z :: l, h, x, hx, y, hy, e => by
    obtain ⟨h1, h2⟩ := List.pairwise_cons.1 h
    rcases List.mem_cons.1 hx with hx' | hx'
    · rcases List.mem_cons.1 hy with hy' | hy'
      · rw [hx', hy']
      · exact absurd (by rw [← hx', e]) (h1 y hy')
    · rcases List.mem_cons.1 hy with hy' | hy'
      · exact absurd (by rw [← hy', e]) (h1 x hx')
      · exact al_inj l h2 x hx' y hy' e
/-- A region that allocates: L1 comes before any use of the allocations, L2 behind them all. -/
theorem region_flex {id : Nat} {a : Act} {w : World} {l : List Oper} (w0 : World) (al : List AlX) (L1 L2 : List Nat) (kd : Nat → Nat) (hm : P.follows .mixedOrders = true)
    (hB : (Region.noSelect l.toArray && decide (L1.length + al.length + L2.length = l.length) && flexB .any l.toArray kd al L2 L1 []) = true)
    (hk : ∀ t, kd t = 3 → t < l.toArray.size) (hd : al.Pairwise (fun x y => x.d ≠ y.d)) (hp : al.Pairwise (fun x y => x.p ≠ y.p)) (hg : Grow w0 w.drew) (hal : AlRun P l.toArray (NoPanic Q) al)
    (h : wpFlex P l.toArray (NoPanic Q) (fun u => Grow w0 u) kd al (flexEnd P l.toArray (NoPanic Q) (fun u => Grow w0 u) kd al w0 L2) L1 a w.drew) : (Code.region id l.toArray true).wp P Q a w := by
  refine wp_region_noPanic ?_
  simp only [Bool.and_eq_true, decide_eq_true_eq] at hB
  obtain ⟨⟨hsel, hlen⟩, hB⟩ := hB
  refine wp_region_any hm ?_
  obtain ⟨t, ht⟩ := aof_self al a hp
  have hfl : al.filter (fun x => !(Array.replicate l.toArray.size false).getD x.p false) = al := by
    rw [List.filter_eq_self]
    intro x _
    rw [getD_replicate_false]; rfl
  have H := flex_main (md := .any) (Q := NoPanic Q) (S := fun u => Grow w0 u) (w0 := w0) hsel (fun _ _ _ _ _ h => h) hk (fun _ h => h) hal hd hp (al_inj al hp) L1 [] a w.drew h hB (fun _ _ h => by cases h) al.length
    (Array.replicate l.toArray.size false) a w.drew t (fun _ => 0) ⟨ht.symm, hg, Grow.refl _, ⟨by simp, fun j oj _ hl => (by rw [getD_replicate_false] at hl; cases hl)⟩, fun j _ _ => by rw [getD_replicate_false]; simp, fun x _ hl => (by rw [getD_replicate_false] at hl; cases hl), fun x _ y _ hl => (by rw [getD_replicate_false] at hl; cases hl)⟩ (by rw [hfl])
  have := any_of_heldTo _ _ _ _ H
  rw [hlen] at this
  exact this
theorem flex_quiet {l : List Oper} {i : Nat} {rest : List Nat} {o : Oper} {v : Value} {b : Act} {w : World} {K : Act → World → Prop} (hk : kd i = 0) (ho : l[i]? = some o)
    (hy : ∀ t, YieldsIf P l.toArray (fun _ => True) o v (aof al b t)) (h : wpFlex P l.toArray Q S kd al K rest (b.put o.dst v) w) : wpFlex P l.toArray Q S kd al K (i :: rest) b w := by
  unfold wpFlex; rw [hk]; exact ⟨o, v, by simpa using ho, hy, h⟩
theorem flex_read {l : List Oper} {i : Nat} {rest : List Nat} {o : Oper} {v : Value} {b : Act} {w : World} {K : Act → World → Prop} (hk : kd i = 1) (ho : l[i]? = some o)
    (hy : ∀ t, YieldsIf P l.toArray S o v (aof al b t)) (h : wpFlex P l.toArray Q S kd al K rest (b.put o.dst v) w) : wpFlex P l.toArray Q S kd al K (i :: rest) b w := by
  unfold wpFlex; rw [hk]; exact ⟨o, v, by simpa using ho, hy, h⟩
theorem flex_op {l : List Oper} {i : Nat} {rest : List Nat} {o : Oper} {b : Act} {w : World} {K : Act → World → Prop} (hk : kd i = 2) (ho : l[i]? = some o)
    (h : ∀ t u, Grow w u → ∀ K' : Act → World → Prop, Shut (∀ a' v w', a' = (aof al b t).put o.dst v → Grow u w' → wpFlex P l.toArray Q S kd al K rest (b.put o.dst v) w' → K' a' w') →
      if Region.wanted o (yielded l.toArray (aof al b t).tmps) = true then Oper.wp P o (aof al b t) u K' Q else K' ((aof al b t).put o.dst undef) u) : wpFlex P l.toArray Q S kd al K (i :: rest) b w := by
  unfold wpFlex; rw [hk]
  refine ⟨o, by simpa using ho, fun t u hu => ?_⟩
  exact wpOp_step (by simpa using ho) (fun K' hK => h t u hu K' (fun a' v w' ha hg hW => hK _ _ ⟨hg, v, ha, hW⟩))
theorem flex_done {l : List Oper} {b : Act} {w w0 : World} {L2 : List Nat}
    (h : ∀ (F : Nat → Nat) u, Grow w u → (∀ x ∈ al, FrX w0 u x.z (F x.p)) → (∀ x ∈ al, ∀ y ∈ al, x.p ≠ y.p → F x.p ≠ F y.p) → wpHeld P l.toArray Q S kd L2 (aof al b (fun p => ptrX (F p))) u) : wpFlex P l.toArray Q S kd al (flexEnd P l.toArray Q S kd al w0 L2) [] b w := h
end
end Go.Proofs.YtbpkfcohbefphaaGreatDoor
namespace Go.Proofs.YtbpkfcohbefphaaGreatDoor
open Go Go.RowKit
/-- No digit. -/
def NU (v : Value) : Prop := ∀ x, v ≠ .int .u32 x
theorem nu_bool (b : Bool) : NU (.bool b) := fun x => by simp
theorem nu_slice (a : Option Addr) (l c : Nat) : NU (.slice a l c) := fun x => by simp
theorem nu_int (x : Int) : NU (.int .i64 x) := fun y => by simp
def OwnG (w : World) (base : Nat) (t : TypeId) (size : Nat) (v : Value) (n : Nat) (xs : List Value) : Prop :=
  xs.length = n * size ∧ ((v = .slice none 0 0 ∧ n = 0) ∨ ∃ g cap cur, v = .slice (some ⟨g, 0, none⟩) n cap ∧ base ≤ g ∧ w.heap[g]? = some (.cells cur t (0, 0)) ∧ n ≤ cap ∧ cap ≤ maxLen ∧ cur.size = cap * size ∧ cur.toList.take (n * size) = xs ∧ ∀ u, u ∈ cur.toList → NU u)
theorem OwnG.nil (w : World) (base : Nat) (t : TypeId) (size : Nat) : OwnG w base t size (.slice none 0 0) 0 [] := ⟨by simp, .inl ⟨rfl, rfl⟩⟩
theorem OwnG.own {w : World} {base : Nat} {t : TypeId} {size : Nat} {v : Value} {n : Nat} {xs : List Value} (h : OwnG w base t size v n xs) : w.ownsRow base t size v n xs := by
  refine ⟨h.1, ?_⟩
  rcases h.2 with h2 | ⟨g, cap, cur, h1, h2, h3, h4, h5, h6, h7, -⟩
  · exact .inl h2
  · exact .inr ⟨g, cap, cur, h1, h2, h3, h4, h5, h6, h7⟩
theorem OwnG.form {w : World} {base : Nat} {t : TypeId} {size : Nat} {v : Value} {n : Nat} {xs : List Value} (h : OwnG w base t size v n xs) : ∃ a c, v = .slice a n c := by
  rcases h.2 with ⟨rfl, rfl⟩ | ⟨g, cap, cur, rfl, _⟩
  · exact ⟨_, _, rfl⟩
  · exact ⟨_, _, rfl⟩
theorem OwnG.but {X : Nat → Prop} {w w1 : World} {base : Nat} {t : TypeId} {size : Nat} {v : Value} {n : Nat} {xs : List Value} (h : OwnG w base t size v n xs) (hg : But X w w1) (hX : ∀ b, base ≤ b → ¬ X b) : OwnG w1 base t size v n xs := by
  refine ⟨h.1, ?_⟩
  rcases h.2 with h2 | ⟨g, cap, cur, hv, hb, hh, h3⟩
  · exact .inl h2
  · exact .inr ⟨g, cap, cur, hv, hb, (hg.block g (Array.getElem?_eq_some_iff.1 hh).1 (hX g hb)).trans hh, h3⟩
theorem OwnG.grow {w w1 : World} {base : Nat} {t : TypeId} {size : Nat} {v : Value} {n : Nat} {xs : List Value} (h : OwnG w base t size v n xs) (hg : Grow w w1) : OwnG w1 base t size v n xs := h.but (X := fun _ => False) (hg.but _) (fun _ _ h => h)
theorem zero_nu (z : Array Value) (hz : ∀ u ∈ z.toList, NU u) (h0 : 0 < z.size) (k : Nat) : ∀ u, u ∈ (Builtin.zeroCells z k).toList → NU u := by
  intro u hu
  simp [Builtin.zeroCells] at hu
  obtain ⟨i, -, rfl⟩ := hu
  have hlt : i % z.size < z.size := Nat.mod_lt _ h0
  rw [getElem!_pos z (i % z.size) hlt]
  exact hz _ (by simp)
section
variable {P : Program}
theorem run_append_g {ty t e : TypeId} {i : TypeInfo} {z : Value} {size bytes : Nat} (ht : P.underlying t = some (.slice e)) (hi : P.info? e = some i) (hz : i.zero = some z) (hsize : i.size = size) (hby : i.bytes = bytes) (hzs : z.cells.size = size) (hs0 : 0 < size) (hzn : ∀ u ∈ z.cells.toList, NU u) (hbb : bytes ≤ 1000)
    (w : World) (base : Nat) (v : Value) (n : Nat) (xs : List Value) (hown : OwnG w base e size v n xs) (ad : Addr) (c : Nat) (news : List Value) (hnl : news.length = size) (hnews : ∀ j u, news[j]? = some u → w.cell? (ad.add j) = some u) (h1 : ∀ u ∈ news, u.oneCell' = true) (hnn : ∀ u ∈ news, NU u) (hl : n + 1 ≤ 1000000) (hb : base ≤ w.heap.size) :
    ∃ v' w', (Builtin.append_ #[t, t] ty #[v, .slice (some ad) 1 c]).run P w = .ok v' w' ∧ OwnG w' base e size v' (n + 1) (xs ++ news) ∧ But (fun b => base ≤ b) w w' := by
  subst hsize
  obtain ⟨hxs, h⟩ := hown
  have hbytes : (n + 1) * i.bytes ≤ 140737488355328 := Nat.le_trans (Nat.mul_le_mul hl (by omega : i.bytes ≤ 1000)) (by omega)
  rcases h with ⟨rfl, rfl⟩ | ⟨g, cap, cur, rfl, hbg, hg, hnc, hcm, hcs, htk, hall⟩
  · have hr := run_append_nil (P := P) w t ty e i z ht hi hz ad 1 c news (by rw [Nat.one_mul]; exact hnl) hnews (by omega) (by omega) (by omega)
    have hx0 : xs = [] := List.eq_nil_of_length_eq_zero (by simpa using hxs)
    subst hx0
    have hcap := grownCap_ge w 1 0 e
    refine ⟨_, _, hr, ⟨by simp [hnl], .inr ⟨w.heap.size, _, _, rfl, hb, heap_alloc_new w.drew _, hcap, grownCap_le_maxLen _ _ _ _ (by unfold maxLen; omega), ?_, ?_, ?_⟩⟩, ((Grow.refl w).drew.alloc _).but _⟩
    · rw [Array.size_append, size_zeroCells, hzs]
      show news.length + _ = _
      rw [hnl, Nat.sub_mul, Nat.one_mul]
      have := Nat.mul_le_mul_right i.size hcap
      rw [Nat.one_mul] at this
      omega
    · rw [Array.toList_append, Nat.zero_add, Nat.one_mul, ← hnl]
      simp
    · intro u hu
      rw [Array.toList_append, List.mem_append] at hu
      rcases hu with hu | hu
      · exact hnn u (by simpa using hu)
      · exact zero_nu _ hzn (by omega) _ u hu
  · have hlen : (cur.toList.take (n * i.size)).length = n * i.size := by rw [htk]; exact hxs
    by_cases hroom : n + 1 ≤ cap
    · have hmul := Nat.mul_le_mul_right i.size hroom
      rw [Nat.add_mul, Nat.one_mul] at hmul
      have hr := run_append_room (P := P) w t ty e i ht hi g n cap cur hg ad 1 c news (by rw [Nat.one_mul]; exact hnl) hnews h1 hroom (by rw [hcs, hnl]; exact hmul)
      have hin : g < w.heap.size := (Array.getElem?_eq_some_iff.1 hg).1
      have hnu : ∀ o y, w.cell? ⟨g, o, none⟩ ≠ some (.int .u32 y) := by
        intro o y hc
        rw [cell_of_row w g o cur e (0, 0) hg] at hc
        have hmem : Value.int .u32 y ∈ cur.toList := by
          have := Array.getElem?_eq_some_iff.1 hc
          obtain ⟨h1, h2⟩ := this
          rw [← h2]; simp
        exact hall _ hmem y rfl
      refine ⟨_, _, hr, ⟨by rw [List.length_append, hxs, hnl, Nat.add_mul, Nat.one_mul], .inr ⟨g, cap, _, rfl, hbg, setRow_heap w g cur _ e _ hg, hroom, hcm, ?_, ?_, ?_⟩⟩, rfl, rfl, rfl, by simp [World.setRow], fun b _ hb' => setRow_other w g b _ (fun e => hb' (by omega)), fun b o hb' => ?_, fun b o y hb' hc => ?_⟩
      · have hcl : cur.toList.length = cap * i.size := by rw [← hcs]; simp
        simp only [List.size_toArray, List.length_append, List.length_drop, hlen, hcl, hnl]
        omega
      · have h2 : (cur.toList.take (n * i.size) ++ news).length = (n + 1) * i.size := by rw [List.length_append, hlen, hnl, Nat.add_mul, Nat.one_mul]
        rw [show (cur.toList.take (n * i.size) ++ news ++ cur.toList.drop (n * i.size + news.length)).toArray.toList = (cur.toList.take (n * i.size) ++ news) ++ cur.toList.drop (n * i.size + news.length) by simp, ← h2, List.take_left, htk]
      · intro u hu
        simp only [List.mem_append] at hu
        rcases hu with (hu | hu) | hu
        · exact hall u (List.mem_of_mem_take hu)
        · exact hnn u hu
        · exact hall u (List.mem_of_mem_drop hu)
      · by_cases hbg' : b = g
        · subst hbg'
          rw [frozen_plain (setRow_heap w b cur _ e _ hg) o, frozen_plain hg o]
        · unfold World.frozen?
          rw [setRow_other w g b _ hbg']
      · have hne : b ≠ g := fun e => by subst e; exact hnu o y hc
        rw [World.cell?_of_block (setRow_other w g b _ hne)]
        exact hc
    · have holds : ∀ j u, xs[j]? = some u → w.cell? ((⟨g, 0, none⟩ : Addr).add j) = some u := fun j u hu => by
        rw [Addr.add_lit, Nat.zero_add, cell_of_row w g j cur e (0, 0) hg]
        rw [← htk, List.getElem?_take] at hu
        split at hu
        · simpa using hu
        · cases hu
      have hcap := grownCap_ge w (n + 1) cap e
      have hr := run_append_grow (P := P) w t ty e i z ht hi hz ⟨g, 0, none⟩ n cap xs hxs holds ad 1 c news (by rw [Nat.one_mul]; exact hnl) hnews (by omega) (by omega) (growslice_fits (by omega) hbytes)
      refine ⟨_, _, hr, ⟨by rw [List.length_append, hxs, hnl, Nat.add_mul, Nat.one_mul], .inr ⟨w.heap.size, _, _, rfl, hb, heap_alloc_new w.drew _, hcap, grownCap_le_maxLen _ _ _ _ (by unfold maxLen; omega), ?_, ?_, ?_⟩⟩, ((Grow.refl w).drew.alloc _).but _⟩
      · rw [Array.size_append, Array.size_append, size_zeroCells, hzs]
        show xs.length + news.length + _ = _
        rw [hxs, hnl, Nat.sub_mul]
        have := Nat.mul_le_mul_right i.size hcap
        rw [Nat.add_mul, Nat.one_mul] at this ⊢
        omega
      · have h2 : (xs ++ news).length = (n + 1) * i.size := by rw [List.length_append, hxs, hnl, Nat.add_mul, Nat.one_mul]
        simp only [Array.toList_append]
        rw [← h2, List.take_left]
      · intro u hu
        simp only [Array.toList_append, List.mem_append] at hu
        rcases hu with (hu | hu) | hu
        · have : u ∈ xs := by simpa using hu
          rw [← htk] at this
          exact hall u (List.mem_of_mem_take this)
        · exact hnn u (by simpa using hu)
        · exact zero_nu _ hzn (by omega) _ u hu
/-- The append in a walk. -/
theorem wpList_append_g (w : World) {ops : Array Oper} {rest : List Oper} {o : Oper} {a : Act} {Q : Exit → Act → World → Prop} (hgd : o.guard = none) (s x : Operand) (t : TypeId)
    (ho : o.op = .call { callee := .builtin .append, args := #[s, x], argTypes := #[t, t] }) (e : TypeId) (i : TypeInfo) (z : Value) (size bytes : Nat) (ht : P.underlying t = some (.slice e)) (hi : P.info? e = some i) (hz : i.zero = some z) (hsize : i.size = size) (hby : i.bytes = bytes) (hzs : z.cells.size = size) (hs0 : 0 < size) (hzn : ∀ u ∈ z.cells.toList, NU u) (hbb : bytes ≤ 1000)
    (base : Nat) (v : Value) (n : Nat) (xs : List Value) (hs : a.eval s = v) (hown : OwnG w base e size v n xs) (ad : Addr) (c : Nat) (news : List Value) (hx : a.eval x = .slice (some ad) 1 c) (hnl : news.length = size) (hnews : ∀ j u, news[j]? = some u → w.cell? (ad.add j) = some u) (h1 : ∀ u ∈ news, u.oneCell' = true) (hnn : ∀ u ∈ news, NU u) (hl : n + 1 ≤ 1000000) (hb : base ≤ w.heap.size)
    (h : ∀ v' w', OwnG w' base e size v' (n + 1) (xs ++ news) → But (fun b => base ≤ b) w w' → wpList P ops Q rest (a.put o.dst v') w') : wpList P ops Q (o :: rest) a w := by
  refine wpList_plain hgd fun K hK' => ?_
  obtain ⟨v', w', hrun, r1, r2⟩ := run_append_g (P := P) (ty := o.type) ht hi hz hsize hby hzs hs0 hzn hbb w base v n xs hown ad c news hnl hnews h1 hnn hl hb
  unfold Oper.wp
  simp [execOp, ho, resolve, invoke, builtin, hs, hx, hrun, Result.andThen]
  exact hK' _ _ (h v' w' r1 r2)
/-- The append in a drawn region. -/
theorem step_append_g {ops : Array Oper} {o : Oper} {a : Act} {w : World} {K : Act → World → Prop} {Q : Exit → Act → World → Prop} {E : Prop} (hgd : o.guard = none) (s x : Operand) (t : TypeId)
    (ho : o.op = .call { callee := .builtin .append, args := #[s, x], argTypes := #[t, t] }) (e : TypeId) (i : TypeInfo) (z : Value) (size bytes : Nat) (ht : P.underlying t = some (.slice e)) (hi : P.info? e = some i) (hz : i.zero = some z) (hsize : i.size = size) (hby : i.bytes = bytes) (hzs : z.cells.size = size) (hs0 : 0 < size) (hzn : ∀ u ∈ z.cells.toList, NU u) (hbb : bytes ≤ 1000)
    (base : Nat) (v : Value) (n : Nat) (xs : List Value) (hs : a.eval s = v) (hown : OwnG w base e size v n xs) (ad : Addr) (c : Nat) (news : List Value) (hx : a.eval x = .slice (some ad) 1 c) (hnl : news.length = size) (hnews : ∀ j u, news[j]? = some u → w.cell? (ad.add j) = some u) (h1 : ∀ u ∈ news, u.oneCell' = true) (hnn : ∀ u ∈ news, NU u) (hl : n + 1 ≤ 1000000) (hb : base ≤ w.heap.size)
    (h : ∀ v' w', OwnG w' base e size v' (n + 1) (xs ++ news) → But (fun b => base ≤ b) w w' → K (a.put o.dst v') w') : if Region.wanted o (yielded ops a.tmps) = true then Oper.wp P o a w K Q else E := by
  have hw : Region.wanted o (yielded ops a.tmps) = true := by simp [Region.wanted, hgd]
  rw [if_pos hw]
  obtain ⟨v', w', hrun, r1, r2⟩ := run_append_g (P := P) (ty := o.type) ht hi hz hsize hby hzs hs0 hzn hbb w base v n xs hown ad c news hnl hnews h1 hnn hl hb
  unfold Oper.wp
  simp [execOp, ho, resolve, invoke, builtin, hs, hx, hrun, Result.andThen]
  exact h v' w' r1 r2
end
/-- The four cells of a fraction as news. -/
theorem rat_news (u : World) (s : Bool) (a : Option Addr) (l c : Nat) (t : Bool) (b : Option Addr) (k e : Nat) (ty : TypeId) : ∀ j x, [Value.bool s, .slice a l c, .bool t, .slice b k e][j]? = some x → (u.alloc (.cells #[.bool s, .slice a l c, .bool t, .slice b k e] ty)).cell? ((⟨u.heap.size, 0, none⟩ : Addr).add j) = some x := by
  intro j x hj
  rw [Addr.add_lit, Nat.zero_add, World.cell?_alloc_at _ _ _ _ rfl]
  match j, hj with
  | 0, hj => simpa using hj
  | 1, hj => simpa using hj
  | 2, hj => simpa using hj
  | 3, hj => simpa using hj
  | j + 4, hj => simp at hj
theorem rat_one (s : Bool) (a : Option Addr) (l c : Nat) (t : Bool) (b : Option Addr) (k e : Nat) : ∀ x ∈ [Value.bool s, .slice a l c, .bool t, .slice b k e], x.oneCell' = true := by
  intro x hx
  simp only [List.mem_cons, List.not_mem_nil, or_false] at hx
  rcases hx with rfl | rfl | rfl | rfl <;> rfl
theorem rat_nu (s : Bool) (a : Option Addr) (l c : Nat) (t : Bool) (b : Option Addr) (k e : Nat) : ∀ x ∈ [Value.bool s, .slice a l c, .bool t, .slice b k e], NU x := by
  intro x hx
  simp only [List.mem_cons, List.not_mem_nil, or_false] at hx
  rcases hx with rfl | rfl | rfl | rfl
  · exact nu_bool _
  · exact nu_slice _ _ _
  · exact nu_bool _
  · exact nu_slice _ _ _
theorem rat_zero_nu : ∀ u ∈ (Value.agg #[.bool false, .slice none 0 0, .bool false, .slice none 0 0]).cells.toList, NU u := by
  intro u hu
  simp [Value.cells] at hu
  rcases hu with rfl | rfl | rfl | rfl
  · exact nu_bool _
  · exact nu_slice _ _ _
  · exact nu_bool _
  · exact nu_slice _ _ _
end Go.Proofs.YtbpkfcohbefphaaGreatDoor
namespace Go.Proofs.YtbpkfcohbefphaaGreatDoor
open Go Go.RowKit
theorem bxB {u0 u : World} {t : TypeId} {z : Int} {s : Bool} {a : Option Addr} {l c : Nat} (hg : Grow (u0.alloc (.cells #[.bool false, .slice none 0 0] t)) u) (hx : IntR u (.agg #[.bool s, .slice a l c]) z) :
    Grow u0 ((u.setCell ⟨u0.heap.size, 0, none⟩ (.bool s)).setCell ⟨u0.heap.size, 1, none⟩ (.slice a l c)) ∧ BxV ((u.setCell ⟨u0.heap.size, 0, none⟩ (.bool s)).setCell ⟨u0.heap.size, 1, none⟩ (.slice a l c)) u0.heap.size z :=
  ⟨(((((Grow.refl u0).alloc _).trans hg).setCell (Nat.le_refl _) _).setCell (Nat.le_refl _) _), ((BxV.zero u0 t).grow hg).putI hx⟩
theorem FrX.putI {w0 u : World} {t : TypeId} {F : Nat} {z : Int} {s : Bool} {a : Option Addr} {l c : Nat} (h : FrX w0 u (.cells #[.bool false, .slice none 0 0] t) F) (hx : IntR u (.agg #[.bool s, .slice a l c]) z) :
    Grow w0 ((u.setCell ⟨F, 0, none⟩ (.bool s)).setCell ⟨F, 1, none⟩ (.slice a l c)) ∧ BxV ((u.setCell ⟨F, 0, none⟩ (.bool s)).setCell ⟨F, 1, none⟩ (.slice a l c)) F z ∧ w0.heap.size ≤ F := by
  obtain ⟨x, h1, rfl, h3⟩ := h
  obtain ⟨h4, h5⟩ := bxB h3 hx
  exact ⟨h1.trans h4, h5, h1.size⟩
theorem FrX.zero {w0 u : World} {t : TypeId} {F : Nat} (h : FrX w0 u (.cells #[.bool false, .slice none 0 0] t) F) : BxV u F 0 := by
  obtain ⟨x, h1, rfl, h3⟩ := h
  exact (BxV.zero x t).grow h3
end Go.Proofs.YtbpkfcohbefphaaGreatDoor
namespace Go.Proofs.YtbpkfcohbefphaaGreatDoor
open Go Go.RowKit
/-- Block B holds the ints f from off on. -/
structure IntQ (w : World) (B off n : Nat) (f : Nat → Int) : Prop where
  lt : B < w.heap.size
  cell : ∀ i, i < n → w.cell? ⟨B, off + i, none⟩ = some (.int .i64 (f i))
theorem IntQ.grow {w w' : World} {B off n : Nat} {f : Nat → Int} (h : IntQ w B off n f) (hg : Grow w w') : IntQ w' B off n f :=
  ⟨Nat.lt_of_lt_of_le h.lt hg.size, fun i hi => (hg.cells _ _ h.lt).trans (h.cell i hi)⟩
theorem listr_one {u : World} {s : Bool} {a : Option Addr} {l c : Nat} {t : Bool} {b : Option Addr} {k e : Nat} {x : Rat} (h : RatR u (.agg #[.bool s, .slice a l c, .bool t, .slice b k e]) x) : ListR u [.bool s, .slice a l c, .bool t, .slice b k e] 1 (fun _ => x) := by
  refine ⟨rfl, fun y hy => ?_, fun j hj => ?_⟩
  · simp only [List.mem_cons, List.not_mem_nil, or_false] at hy
    rcases hy with rfl | rfl | rfl | rfl <;> rfl
  · have hj0 : j = 0 := by omega
    subst hj0
    exact ⟨s, a, l, c, t, b, k, e, ⟨rfl, rfl, rfl, rfl⟩, h⟩
theorem O3.keep {X : Nat → Prop} {u u' : World} {B : Nat} {v0 v1 v2 : Value} (h : O3 u B v0 v1 v2) (hg : But X u u') (hX : ¬ X B) : O3 u' B v0 v1 v2 :=
  ⟨(hg.cells _ _ h.lt hX).trans h.c0, (hg.cells _ _ h.lt hX).trans h.c1, (hg.cells _ _ h.lt hX).trans h.c2, fun o => (hg.frees _ _ h.lt).trans (h.fr o), Nat.lt_of_lt_of_le h.lt hg.size⟩
end Go.Proofs.YtbpkfcohbefphaaGreatDoor
namespace Go.Proofs.YtbpkfcohbefphaaGreatDoor
open Go Go.RowKit
/-- Reading an own row of ints. -/
theorem OwnI.read {w : World} {base : Nat} {a : Option Addr} {n c : Nat} {xs : List Value} (h : OwnI w base (.slice a n c) n xs) (hn : 0 < n) : ∃ g, a = some ⟨g, 0, none⟩ ∧ base ≤ g ∧ g < w.heap.size ∧ ∀ (i : Nat) (x : Value), xs[i]? = some x → w.cell? ⟨g, i, none⟩ = some x := by
  obtain ⟨hl, h⟩ := h
  rcases h with ⟨-, h0⟩ | ⟨g, cap, cur, hv, hb, hg, h1, h2, h3, h4, h5⟩
  · omega
  · injection hv with e1 e2 e3
    refine ⟨g, e1, hb, (Array.getElem?_eq_some_iff.1 hg).1, fun i x hx => ?_⟩
    rw [cell_of_row w g i cur 3 (0, 0) hg]
    have hi : i < n := by
      have := (List.getElem?_eq_some_iff.1 hx).1
      omega
    rw [← h4, List.getElem?_take, if_pos hi] at hx
    rw [← hx]; simp
end Go.Proofs.YtbpkfcohbefphaaGreatDoor
