/- Lemmas, plain laws and walks that the statement LwKronecker leans on (texts PlA, ThA, PlW, PlQ, BiA, BiB, BiC, RwA), conditions as each theorem says. -/
import Derived.Below
import Derived.Deep.Draws
import Derived.OwnWalk
import Derived.Laws.NewBlocks
import Derived.StillTail
import Derived.Deep.QuietTactic
import Derived.BigQuiet
import Derived.Test.YtbpkfcohbefphaaGreatDoorProg
import Derived.WalkKit
import Derived.WalkSpells
import Derived.WalkLawsBesides
import Derived.Lib.Hide
import Derived.Laws.ResultCell
import Derived.Deep.LoopGhost
import Derived.BigRegion
import Derived.Laws.OwnMore
import Derived.Deep.RegionWith
import Derived.Deep.Upon

namespace Go.Proofs.YtbpkfcohbefphaaGreatDoor
open Go.RowKit
structure M2 where
  a : Int
  b : Int
  c : Int
  d : Int
structure C2 where
  p : Int
  q : Int
def M2.times (x y : M2) : M2 := ⟨x.a * y.a + x.b * y.c, x.a * y.b + x.b * y.d, x.c * y.a + x.d * y.c, x.c * y.b + x.d * y.d⟩
def M2.det (m : M2) : Int := m.a * m.d - m.b * m.c
def M2.zero : M2 := ⟨0, 0, 0, 0⟩
def M2.one : M2 := ⟨1, 0, 0, 1⟩
def M2.back (m : M2) : M2 := ⟨m.d, -m.b, -m.c, m.a⟩
def C2.zero : C2 := ⟨0, 0⟩
/-- What was there is as it was; new blocks may have come. -/
def Grow (w w' : World) : Prop := Below w.heap.size w w'
theorem Grow.below {w w' : World} (h : Grow w w') : Below w.heap.size w w' := h
theorem Grow.refl (w : World) : Grow w w := Below.refl _ _
theorem Grow.size {w w' : World} (h : Grow w w') : w.heap.size ≤ w'.heap.size := Below.size h
theorem Grow.trans {a b c : World} (h : Grow a b) (k : Grow b c) : Grow a c := Below.trans h (Below.mono k h.size)
theorem Grow.alloc {a w : World} (h : Grow a w) (o : Obj) : Grow a (w.alloc o) := Below.alloc h h.size o
theorem Grow.drew {a w : World} (h : Grow a w) : Grow a w.drew := Below.drew h
theorem Grow.drewN {a w : World} (h : Grow a w) (n : Nat) : Grow a (w.drewN n) := ⟨h.os, h.tape, h.output, h.size, h.block⟩
theorem Grow.setCell {a w : World} (h : Grow a w) {p : Addr} (hp : a.heap.size ≤ p.block) (u : Value) : Grow a (w.setCell p u) := Below.setCell h hp u
theorem Grow.grown {a w w' : World} {row : Option Nat} (h : Grow a w) (hg : w.grownBy w' row) (hr : ∀ k, row = some k → a.heap.size ≤ k) : Grow a w' := Below.grown h hg h.size hr
theorem Grow.cells {W w1 : World} (hb : Grow W w1) : ∀ b o, b < W.heap.size → w1.cell? ⟨b, o, none⟩ = W.cell? ⟨b, o, none⟩ := fun b o h => Below.cell hb (p := ⟨b, o, none⟩) h
theorem Grow.frees {W w1 : World} (hb : Grow W w1) : ∀ b o, b < W.heap.size → w1.frozen? ⟨b, o, none⟩ = W.frozen? ⟨b, o, none⟩ := fun b o h => Below.frozen hb (p := ⟨b, o, none⟩) h
end Go.Proofs.YtbpkfcohbefphaaGreatDoor
namespace Go.Proofs.YtbpkfcohbefphaaGreatDoor
theorem sq_nonneg (x : Int) : 0 ≤ x * x := by
  rcases Int.le_total 0 x with h | h
  · exact Int.mul_nonneg h h
  · have := Int.mul_nonneg (a := -x) (b := -x) (by omega) (by omega)
    rwa [Int.neg_mul_neg] at this
end Go.Proofs.YtbpkfcohbefphaaGreatDoor
namespace Go.Proofs.YtbpkfcohbefphaaGreatDoor
open Go.RowKit
theorem own_slice {w : World} {base : Nat} {e : TypeId} {size : Nat} {v : Value} {n : Nat} {xs : List Value} (h : w.ownsRow base e size v n xs) (hn : 0 < n) :
    ∃ g cap, v = .slice (some ⟨g, 0, none⟩) n cap ∧ base ≤ g ∧ g < w.heap.size := by
  rcases h.2 with ⟨_, h0⟩ | ⟨g, cap, cur, rfl, hb, hg, _⟩
  · omega
  · exact ⟨g, cap, rfl, hb, (Array.getElem?_eq_some_iff.1 hg).1⟩
theorem own_grow {W w w' : World} {base : Nat} {e : TypeId} {size : Nat} {v : Value} {n : Nat} {xs : List Value} (h0 : Grow W w) (h : w.ownsRow base e size v n xs) (hg : w.grownBy w' v.ownBlock) (hb : W.heap.size ≤ base) : Grow W w' :=
  h0.grown hg (fun k hk => Nat.le_trans hb (h.lt k hk).1)
theorem own_into {w w1 : World} {base : Nat} {e : TypeId} {size : Nat} {v : Value} {n : Nat} {xs : List Value} (h : w.ownsRow base e size v n xs) (hg : Grow w w1) : w1.ownsRow base e size v n xs := by
  refine ⟨h.1, ?_⟩
  rcases h.2 with h2 | ⟨g, cap, cur, hv, hb, hh, h3⟩
  · exact .inl h2
  · exact .inr ⟨g, cap, cur, hv, hb, (Below.block hg g (Array.getElem?_eq_some_iff.1 hh).1).trans hh, h3⟩
theorem own_base {w : World} {base base' : Nat} {e : TypeId} {size : Nat} {v : Value} {n : Nat} {xs : List Value} (h : w.ownsRow base e size v n xs) (hb : base' ≤ base) : w.ownsRow base' e size v n xs := by
  refine ⟨h.1, ?_⟩
  rcases h.2 with h2 | ⟨g, cap, cur, hv, hb', h3⟩
  · exact .inl h2
  · exact .inr ⟨g, cap, cur, hv, by omega, h3⟩
theorem own_set {w : World} {base : Nat} {e : TypeId} {size : Nat} {v : Value} {n : Nat} {xs : List Value} (h : w.ownsRow base e size v n xs) {a : Addr} (ha : a.block < base) (u : Value) : (w.setCell a u).ownsRow base e size v n xs :=
  ownsRow_setCell_below h ha u
/-- A list of ints in memory of the call's own. -/
def OwnInts (w : World) (base : Nat) (v : Value) (l : List Int) : Prop := w.ownsRow base 3 1 v l.length (l.map (Value.int .i64))
theorem one_cells (w : World) (x : Value) (t : TypeId) (n : Nat) (hn : n = w.heap.size) : ∀ j u, [x][j]? = some u → (w.alloc (.cells #[x] t)).cell? ((⟨n, 0, none⟩ : Addr).add j) = some u := by
  intro j u hj
  match j, hj with
  | 0, hj =>
    simp at hj; subst hj
    simp only [Addr.add, if_true]
    rw [World.cell?_alloc_at _ _ _ _ hn]; rfl
theorem one_oneCell (k : IntKind) (x : Int) : ∀ u ∈ [Value.int k x], u.oneCell' = true := by
  intro u hu; simp at hu; subst hu; rfl
/-- The slice value v reads as the list l of ints. -/
def RdInts (w : World) (v : Value) (l : List Int) : Prop :=
  (∃ a cap, v = .slice a 0 cap ∧ l = []) ∨ (∃ b off cap, v = .slice (some ⟨b, off, none⟩) l.length cap ∧ b < w.heap.size ∧ ∀ j, j < l.length → w.cell? ⟨b, off + j, none⟩ = some (.int .i64 (l.getD j 0)))
theorem RdInts.grow {w w' : World} {v : Value} {l : List Int} (h : RdInts w v l) (hg : Grow w w') : RdInts w' v l := by
  rcases h with h | ⟨b, off, cap, hv, hb, hc⟩
  · exact .inl h
  · exact .inr ⟨b, off, cap, hv, Nat.lt_of_lt_of_le hb hg.size, fun j hj => (hg.cells b _ hb).trans (hc j hj)⟩
theorem OwnInts.into {w w1 : World} {base : Nat} {v : Value} {l : List Int} (h : OwnInts w base v l) (hg : Grow w w1) : OwnInts w1 base v l := own_into h hg
theorem RdInts.form {w : World} {v : Value} {l : List Int} (h : RdInts w v l) : ∃ a cap, v = .slice a l.length cap := by
  rcases h with ⟨a, cap, hv, hl⟩ | ⟨b, off, cap, hv, _⟩
  · exact ⟨a, cap, by rw [hv, hl]; rfl⟩
  · exact ⟨_, cap, hv⟩
end Go.Proofs.YtbpkfcohbefphaaGreatDoor
namespace Go.Proofs.YtbpkfcohbefphaaGreatDoor
open Go Go.RowKit
section
variable {P : Program} {ops : Array Oper} {md : Region.Mode} {C : World → Prop}
/-- The worlds that have grown out of w, as the values of one function: so that a walk sees 'F x' and knows its cells without a condition on x. -/
structure Grown2 (w : World) (X : Type) (F : X → World) : Prop where
  ne : Nonempty X
  cells : ∀ x b o, b < w.heap.size → (F x).cell? ⟨b, o, none⟩ = w.cell? ⟨b, o, none⟩
  grow : ∀ x, Grow w (F x)
  more : ∀ x w', Grow (F x) w' → ∃ y, w' = F y
/-- A callee's contract inside such a region. -/
theorem Grown2.call {w : World} {X : Type} {F : X → World} (hF : Grown2 w X F) {f : FuncId} {args : Array Value} {v : Value} {x : X}
    (h : Calls P f args (F x) fun e w' => e = .returned v ∧ Grow (F x) w') : Calls P f args (F x) fun e w'' => e = .returned v ∧ ∃ y, w'' = F y :=
  h.mono fun _ w' ⟨he, hg⟩ => ⟨he, hF.more x w' hg⟩
end
end Go.Proofs.YtbpkfcohbefphaaGreatDoor
namespace Go.Proofs.YtbpkfcohbefphaaGreatDoor
open Go Go.RowKit
/-- The slice value m holds the digits of n: none, or one. -/
def MagR (w : World) (m : Value) (n : Nat) : Prop :=
  (n = 0 ∧ ∃ a cap, m = .slice a 0 cap) ∨ (0 < n ∧ n < 4294967296 ∧ ∃ b off cap, m = .slice (some ⟨b, off, none⟩) 1 cap ∧ 1 ≤ cap ∧ b < w.heap.size ∧ w.cell? ⟨b, off, none⟩ = some (.int .u32 (n : Int)))
theorem MagR.grow {w w' : World} {m : Value} {n : Nat} (h : MagR w m n) (hg : Grow w w') : MagR w' m n := by
  rcases h with h | ⟨h0, h1, b, off, cap, hm, hk, hb, hc⟩
  · exact .inl h
  · exact .inr ⟨h0, h1, b, off, cap, hm, hk, Nat.lt_of_lt_of_le hb hg.size, (hg.cells b _ hb).trans hc⟩
/-- A block without numbers: the cell of a result of type Int or Rat. -/
def NoU (w : World) (B : Nat) : Prop := ∀ o k x, w.cell? ⟨B, o, none⟩ ≠ some (.int k x)
theorem NoU.grow {w w' : World} {B : Nat} (h : NoU w B) (hB : B < w.heap.size) (hg : Grow w w') : NoU w' B := fun o k x => by rw [hg.cells _ _ hB]; exact h o k x
theorem NoU.alloc (w : World) (cs : Array Value) (t : TypeId) (h : ∀ (o : Nat) k x, cs[o]? ≠ some (.int k x)) : NoU (w.alloc (.cells cs t)) w.heap.size := fun o k x => by
  rw [World.cell?_alloc_at _ _ _ _ rfl]; exact h o k x
theorem noU2 (a : Bool) (b : Option Addr) (n c : Nat) : ∀ (o : Nat) k x, (#[Value.bool a, Value.slice b n c])[o]? ≠ some (.int k x) := by
  intro o k x
  match o with
  | 0 => simp
  | 1 => simp
  | o + 2 => simp
theorem noU4 (a a' : Bool) (b b' : Option Addr) (n c n' c' : Nat) : ∀ (o : Nat) k x, (#[Value.bool a, Value.slice b n c, Value.bool a', Value.slice b' n' c'])[o]? ≠ some (.int k x) := by
  intro o k x
  match o with
  | 0 => simp
  | 1 => simp
  | 2 => simp
  | 3 => simp
  | o + 4 => simp
theorem MagR.keep {w w' : World} {m : Value} {n B : Nat} (h : MagR w m n) (hB : NoU w B) (hz : w.heap.size ≤ w'.heap.size) (hc : ∀ b o, b ≠ B → w'.cell? ⟨b, o, none⟩ = w.cell? ⟨b, o, none⟩) : MagR w' m n := by
  rcases h with h | ⟨h0, h1, b, off, cap, hm, hk, hb, hcc⟩
  · exact .inl h
  · have hne : b ≠ B := fun e => by subst e; exact hB _ _ _ hcc
    exact .inr ⟨h0, h1, b, off, cap, hm, hk, Nat.lt_of_lt_of_le hb hz, (hc _ _ hne).trans hcc⟩
theorem MagR.set2 {w : World} {m : Value} {n B : Nat} (h : MagR w m n) (hB : NoU w B) (o1 o2 : Nat) (v1 v2 : Value) : MagR ((w.setCell ⟨B, o1, none⟩ v1).setCell ⟨B, o2, none⟩ v2) m n :=
  h.keep hB (by simp [World.setCell]) (fun b o hb => by
    rw [World.cell?_of_block (Below.heap_setCell _ _ _ _ hb), World.cell?_of_block (Below.heap_setCell _ _ _ _ hb)])
theorem MagR.set4 {w : World} {m : Value} {n B : Nat} (h : MagR w m n) (hB : NoU w B) (o1 o2 o3 o4 : Nat) (v1 v2 v3 v4 : Value) : MagR ((((w.setCell ⟨B, o1, none⟩ v1).setCell ⟨B, o2, none⟩ v2).setCell ⟨B, o3, none⟩ v3).setCell ⟨B, o4, none⟩ v4) m n :=
  h.keep hB (by simp [World.setCell]) (fun b o hb => by
    rw [World.cell?_of_block (Below.heap_setCell _ _ _ _ hb), World.cell?_of_block (Below.heap_setCell _ _ _ _ hb), World.cell?_of_block (Below.heap_setCell _ _ _ _ hb), World.cell?_of_block (Below.heap_setCell _ _ _ _ hb)])
theorem MagR.lt {w : World} {m : Value} {n : Nat} (h : MagR w m n) : n < 4294967296 := by
  rcases h with ⟨h, -⟩ | ⟨-, h, -⟩ <;> omega
/-- The same, perhaps with one digit 0 ahead. -/
def PadR (w : World) (m : Value) (n : Nat) : Prop :=
  MagR w m n ∨ (n = 0 ∧ ∃ b off cap, m = .slice (some ⟨b, off, none⟩) 1 cap ∧ 1 ≤ cap ∧ b < w.heap.size ∧ w.cell? ⟨b, off, none⟩ = some (.int .u32 0)) ∨
    (n < 4294967296 ∧ ∃ b off cap, m = .slice (some ⟨b, off, none⟩) 2 cap ∧ 2 ≤ cap ∧ b < w.heap.size ∧ w.cell? ⟨b, off, none⟩ = some (.int .u32 (n : Int)) ∧ w.cell? ⟨b, off + 1, none⟩ = some (.int .u32 0))
theorem PadR.grow {w w' : World} {m : Value} {n : Nat} (h : PadR w m n) (hg : Grow w w') : PadR w' m n := by
  rcases h with h | ⟨h0, b, off, cap, hm, hk, hb, hc⟩ | ⟨h0, b, off, cap, hm, hk, hb, hc, hd⟩
  · exact .inl (h.grow hg)
  · exact .inr (.inl ⟨h0, b, off, cap, hm, hk, Nat.lt_of_lt_of_le hb hg.size, (hg.cells b _ hb).trans hc⟩)
  · exact .inr (.inr ⟨h0, b, off, cap, hm, hk, Nat.lt_of_lt_of_le hb hg.size, (hg.cells b _ hb).trans hc, (hg.cells b _ hb).trans hd⟩)
def tlN (d : Nat → Nat) : Nat → Nat
  | 0 => 0
  | i + 1 => if d i = 0 then tlN d i else i + 1
theorem results_one {fn : Func} {p : Tmp} {ty : TypeId} (h : fn.results = #[.cell p ty]) (tmps : Array Value) (P : Program) (w : World) :
    (results fn tmps).run P w = ((asAddr (tmps.getD p undef)).run P w).andThen fun a w₁ => (loadVar ty a).run P w₁ := by
  simp [results, h, Sem.run_bind, Result.andThen]
set_option maxRecDepth 20000 in
set_option maxHeartbeats 2000000 in
theorem trimmed_gen (b off cap len : Nat) (d : Nat → Nat) (hlen : len ≤ 1000000) (hcap : len ≤ cap) (w : World) (hc : Hid (∀ j, j < len → w.cell? ⟨b, off + j, none⟩ = some (.int .u32 (d j : Int)))) :
    Calls Tryz.prog 45 #[.slice (some ⟨b, off, none⟩) len cap] w fun e w' => e = .returned (.slice (some ⟨b, off, none⟩) (tlN d len) cap) ∧ w = w' := by
  obtain ⟨T, hT⟩ : ∃ T, tlN d len = T := ⟨_, rfl⟩
  rw [hT]
  have HT := Lib.hid hT
  clear hT
  go_enter Tryz.func45, Tryz.ntmps45
  go_wp2_with fail
  go_loopg [0] len (fun k t0 wr => t0 = .slice (some ⟨b, off, none⟩) k cap ∧ k ≤ len ∧ Hid (tlN d k = T) ∧ wr = w)
  case atStart => exact ⟨rfl, Nat.le_refl _, HT, rfl⟩
  case round =>
    obtain ⟨rfl, hk, ht, rfl⟩ := hrel
    by_cases h0 : gk = 0
    · subst h0
      have hT0 : 0 = T := ht.out
      subst hT0
      go_wp2_with fail
      go_ret
      exact ⟨rfl, rfl⟩
    · obtain ⟨j, hj⟩ : ∃ j, gk = j + 1 := ⟨gk - 1, by omega⟩
      have hcj := hc.out j (by omega)
      have hk0 : (0 : Int) < (gk : Int) := by omega
      have y1 : wrap64 ((gk : Int) - 1) = (j : Int) := by unfold wrap64; omega
      have y2 : IntKind.i64.wrap ((gk : Int) - 1) = (j : Int) := by rw [show (gk : Int) - 1 = (j : Int) by omega]; exact IntWalk.i64_in _ (by omega)
      have hj0 : (0 : Int) ≤ (j : Int) := by omega
      have hj1 : (j : Int) < (gk : Int) := by omega
      have hj2 : (j : Int) ≤ (cap : Int) := by omega
      have ht2 := ht.out
      rw [hj, tlN] at ht2
      by_cases hd : d j = 0
      · rw [if_pos hd] at ht2
        rw [hd] at hcj
        have HT2 := Lib.hid ht2
        have HJ := Lib.hid hj
        clear ht ht2 hj hd
        go_wp2_with fail
        go_roundg j
        case measure => have := HJ.out; omega
        case rel => exact ⟨rfl, by omega, HT2, rfl⟩
      · rw [if_neg hd] at ht2
        have e1 : ((d j : Int) == 0) = false := by simp; omega
        have hTk : T = gk := by omega
        subst hTk
        clear ht ht2 hd
        go_wp2_with fail
        go_ret
        exact ⟨rfl, rfl⟩
theorem trimmed_nil (a : Option Addr) (cap : Nat) (w : World) :
    Calls Tryz.prog 45 #[.slice a 0 cap] w fun e w' => e = .returned (.slice a 0 cap) ∧ w = w' := by
  go_enter Tryz.func45, Tryz.ntmps45
  go_wp2_with fail
  go_loopw [0] (fun t0 wr => t0 = .slice a 0 cap ∧ wr = w) (fun _ _ => 0)
  case atStart => exact ⟨rfl, rfl⟩
  case round =>
    obtain ⟨rfl, rfl⟩ := hrel
    go_wp2
    go_ret
    exact ⟨rfl, rfl⟩
theorem trimmed_mag (m : Value) (n : Nat) (w : World) (h : MagR w m n) : Calls Tryz.prog 45 #[m] w fun e w' => e = .returned m ∧ w = w' := by
  rcases h with ⟨-, a, cap, rfl⟩ | ⟨h0, h1, b, off, cap, rfl, hk, hb, hc⟩
  · exact trimmed_nil a cap w
  · have h := trimmed_gen b off cap 1 (fun _ => n) (by omega) hk w (Lib.hid (fun j hj => by rw [show off + j = off by omega]; exact hc))
    have e : tlN (fun _ => n) 1 = 1 := by simp [tlN]; omega
    rw [e] at h
    exact h
theorem trimmed_pad (m : Value) (n : Nat) (w0 w : World) (h : PadR w0 m n) (hg : Grow w0 w) : Calls Tryz.prog 45 #[m] w fun e w' => ∃ m', e = .returned m' ∧ MagR w0 m' n ∧ w = w' := by
  rcases h with h | ⟨h0, b, off, cap, rfl, hk, hb, hc⟩ | ⟨h0, b, off, cap, rfl, hk, hb, hc, hd⟩
  · exact (trimmed_mag m n w (h.grow hg)).mono fun e w' ⟨he, hw⟩ => ⟨m, he, h, hw⟩
  · subst h0
    refine (trimmed_gen b off cap 1 (fun _ => 0) (by omega) hk w (Lib.hid (fun j hj => by rw [show off + j = off by omega]; exact (hg.cells b _ hb).trans hc))).mono fun e w' ⟨he, hw⟩ => ⟨_, he, ?_, hw⟩
    exact .inl ⟨rfl, _, _, rfl⟩
  · refine (trimmed_gen b off cap 2 (fun j => if j = 0 then n else 0) (by omega) hk w (Lib.hid (fun j hj => ?_))).mono fun e w' ⟨he, hw⟩ => ⟨_, he, ?_, hw⟩
    · by_cases e : j = 0
      · subst e; simpa using (hg.cells b _ hb).trans hc
      · rw [show j = 1 by omega]; simpa using (hg.cells b _ hb).trans hd
    · by_cases e : n = 0
      · subst e
        have e2 : tlN (fun j => if j = 0 then 0 else 0) 2 = 0 := by simp [tlN]
        rw [e2]
        exact .inl ⟨rfl, _, _, rfl⟩
      · have e2 : tlN (fun j => if j = 0 then n else 0) 2 = 1 := by simp [tlN, e]
        rw [e2]
        exact .inr ⟨by omega, h0, b, off, cap, rfl, by omega, hb, hc⟩
theorem MagR.form {w : World} {m : Value} {n : Nat} (h : MagR w m n) : ∃ a cap, m = .slice a (if n = 0 then 0 else 1) cap := by
  rcases h with ⟨h0, a, cap, rfl⟩ | ⟨h0, h1, b, off, cap, rfl, -⟩
  · exact ⟨a, cap, by rw [if_pos h0]⟩
  · exact ⟨_, cap, by rw [if_neg (by omega)]⟩
set_option maxHeartbeats 1000000 in
theorem signed_any (s : Bool) (m : Value) (n : Nat) (w : World) (h : PadR w m n) : Calls Tryz.prog 43 #[.bool s, m] w fun e w' => ∃ m', e = .returned (.agg #[.bool (s && decide (n ≠ 0)), m']) ∧ MagR w' m' n ∧ Grow w w' := by
  have HP := Lib.hid h
  clear h
  by_cases h0 : n = 0
  · rw [show decide (n ≠ 0) = false by simp [h0]]
    cases s
    · show Calls Tryz.prog 43 #[.bool false, m] w fun e w' => ∃ m', e = .returned (.agg #[.bool false, m']) ∧ MagR w' m' n ∧ Grow w w'
      go_enter Tryz.func43, Tryz.ntmps43
      go_wp2_with fail
      go_at_call 45
      refine (trimmed_pad m n w _ HP.out (by (repeat (first | with_reducible exact Grow.refl _ | with_reducible refine Grow.alloc ?_ _ | with_reducible refine Grow.drew ?_ | with_reducible refine Grow.drewN ?_ _ | (with_reducible refine Grow.setCell ?_ ?hp _; (case hp => (simp; try omega))) | with_reducible refine Grow.trans ?_ (by assumption))))).mono ?_
      rintro e w1 ⟨m', rfl, hm, rfl⟩
      obtain ⟨a, cap, rfl⟩ := hm.form
      rw [if_pos h0] at hm ⊢
      have HM := Lib.hid hm
      clear hm HP
      go_wp2_with fail
      (try simp only [Exit.inBlock, Exit.then])
      refine bodyPost_ret (v := .agg #[.bool false, .slice a 0 cap]) (by rw [results_one rfl]; go_simp) rfl ⟨_, rfl, HM.out.grow (by (repeat (first | with_reducible exact Grow.refl _ | with_reducible refine Grow.alloc ?_ _ | with_reducible refine Grow.drew ?_ | with_reducible refine Grow.drewN ?_ _ | (with_reducible refine Grow.setCell ?_ ?hp _; (case hp => (simp; try omega))) | with_reducible refine Grow.trans ?_ (by assumption)))), by (repeat (first | with_reducible exact Grow.refl _ | with_reducible refine Grow.alloc ?_ _ | with_reducible refine Grow.drew ?_ | with_reducible refine Grow.drewN ?_ _ | (with_reducible refine Grow.setCell ?_ ?hp _; (case hp => (simp; try omega))) | with_reducible refine Grow.trans ?_ (by assumption)))⟩
    · show Calls Tryz.prog 43 #[.bool true, m] w fun e w' => ∃ m', e = .returned (.agg #[.bool false, m']) ∧ MagR w' m' n ∧ Grow w w'
      go_enter Tryz.func43, Tryz.ntmps43
      go_wp2_with fail
      go_at_call 45
      refine (trimmed_pad m n w _ HP.out (by (repeat (first | with_reducible exact Grow.refl _ | with_reducible refine Grow.alloc ?_ _ | with_reducible refine Grow.drew ?_ | with_reducible refine Grow.drewN ?_ _ | (with_reducible refine Grow.setCell ?_ ?hp _; (case hp => (simp; try omega))) | with_reducible refine Grow.trans ?_ (by assumption))))).mono ?_
      rintro e w1 ⟨m', rfl, hm, rfl⟩
      obtain ⟨a, cap, rfl⟩ := hm.form
      rw [if_pos h0] at hm ⊢
      have HM := Lib.hid hm
      clear hm HP
      go_wp2_with fail
      (try simp only [Exit.inBlock, Exit.then])
      refine bodyPost_ret (v := .agg #[.bool false, .slice a 0 cap]) (by rw [results_one rfl]; go_simp) rfl ⟨_, rfl, HM.out.grow (by (repeat (first | with_reducible exact Grow.refl _ | with_reducible refine Grow.alloc ?_ _ | with_reducible refine Grow.drew ?_ | with_reducible refine Grow.drewN ?_ _ | (with_reducible refine Grow.setCell ?_ ?hp _; (case hp => (simp; try omega))) | with_reducible refine Grow.trans ?_ (by assumption)))), by (repeat (first | with_reducible exact Grow.refl _ | with_reducible refine Grow.alloc ?_ _ | with_reducible refine Grow.drew ?_ | with_reducible refine Grow.drewN ?_ _ | (with_reducible refine Grow.setCell ?_ ?hp _; (case hp => (simp; try omega))) | with_reducible refine Grow.trans ?_ (by assumption)))⟩
  · rw [show decide (n ≠ 0) = true by simp [h0]]
    cases s
    · show Calls Tryz.prog 43 #[.bool false, m] w fun e w' => ∃ m', e = .returned (.agg #[.bool false, m']) ∧ MagR w' m' n ∧ Grow w w'
      go_enter Tryz.func43, Tryz.ntmps43
      go_wp2_with fail
      go_at_call 45
      refine (trimmed_pad m n w _ HP.out (by (repeat (first | with_reducible exact Grow.refl _ | with_reducible refine Grow.alloc ?_ _ | with_reducible refine Grow.drew ?_ | with_reducible refine Grow.drewN ?_ _ | (with_reducible refine Grow.setCell ?_ ?hp _; (case hp => (simp; try omega))) | with_reducible refine Grow.trans ?_ (by assumption))))).mono ?_
      rintro e w1 ⟨m', rfl, hm, rfl⟩
      obtain ⟨a, cap, rfl⟩ := hm.form
      rw [if_neg h0] at hm ⊢
      have HM := Lib.hid hm
      clear hm HP
      go_wp2_with fail
      (try simp only [Exit.inBlock, Exit.then])
      refine bodyPost_ret (v := .agg #[.bool false, .slice a 1 cap]) (by rw [results_one rfl]; go_simp) rfl ⟨_, rfl, HM.out.grow (by (repeat (first | with_reducible exact Grow.refl _ | with_reducible refine Grow.alloc ?_ _ | with_reducible refine Grow.drew ?_ | with_reducible refine Grow.drewN ?_ _ | (with_reducible refine Grow.setCell ?_ ?hp _; (case hp => (simp; try omega))) | with_reducible refine Grow.trans ?_ (by assumption)))), by (repeat (first | with_reducible exact Grow.refl _ | with_reducible refine Grow.alloc ?_ _ | with_reducible refine Grow.drew ?_ | with_reducible refine Grow.drewN ?_ _ | (with_reducible refine Grow.setCell ?_ ?hp _; (case hp => (simp; try omega))) | with_reducible refine Grow.trans ?_ (by assumption)))⟩
    · show Calls Tryz.prog 43 #[.bool true, m] w fun e w' => ∃ m', e = .returned (.agg #[.bool true, m']) ∧ MagR w' m' n ∧ Grow w w'
      go_enter Tryz.func43, Tryz.ntmps43
      go_wp2_with fail
      go_at_call 45
      refine (trimmed_pad m n w _ HP.out (by (repeat (first | with_reducible exact Grow.refl _ | with_reducible refine Grow.alloc ?_ _ | with_reducible refine Grow.drew ?_ | with_reducible refine Grow.drewN ?_ _ | (with_reducible refine Grow.setCell ?_ ?hp _; (case hp => (simp; try omega))) | with_reducible refine Grow.trans ?_ (by assumption))))).mono ?_
      rintro e w1 ⟨m', rfl, hm, rfl⟩
      obtain ⟨a, cap, rfl⟩ := hm.form
      rw [if_neg h0] at hm ⊢
      have HM := Lib.hid hm
      clear hm HP
      go_wp2_with fail
      (try simp only [Exit.inBlock, Exit.then])
      refine bodyPost_ret (v := .agg #[.bool true, .slice a 1 cap]) (by rw [results_one rfl]; go_simp) rfl ⟨_, rfl, HM.out.grow (by (repeat (first | with_reducible exact Grow.refl _ | with_reducible refine Grow.alloc ?_ _ | with_reducible refine Grow.drew ?_ | with_reducible refine Grow.drewN ?_ _ | (with_reducible refine Grow.setCell ?_ ?hp _; (case hp => (simp; try omega))) | with_reducible refine Grow.trans ?_ (by assumption)))), by (repeat (first | with_reducible exact Grow.refl _ | with_reducible refine Grow.alloc ?_ _ | with_reducible refine Grow.drew ?_ | with_reducible refine Grow.drewN ?_ _ | (with_reducible refine Grow.setCell ?_ ?hp _; (case hp => (simp; try omega))) | with_reducible refine Grow.trans ?_ (by assumption)))⟩
set_option maxHeartbeats 1000000 in
theorem wide_any (n : Nat) (h : n < 4294967296) (w : World) : Calls Tryz.prog 44 #[.int .u64 (n : Int)] w fun e w' => ∃ m, e = .returned m ∧ MagR w' m n ∧ Grow w w' := by
  by_cases h0 : n = 0
  · subst h0
    go_enter Tryz.func44, Tryz.ntmps44
    go_wp2_with fail
    go_ret
    exact ⟨_, rfl, .inl ⟨rfl, _, _, rfl⟩, by (repeat (first | with_reducible exact Grow.refl _ | with_reducible refine Grow.alloc ?_ _ | with_reducible refine Grow.drew ?_ | with_reducible refine Grow.drewN ?_ _ | (with_reducible refine Grow.setCell ?_ ?hp _; (case hp => (simp; try omega))) | with_reducible refine Grow.trans ?_ (by assumption)))⟩
  · have e1 : ((n : Int) == 0) = false := by simp; omega
    have e2 : (n : Int) < 4294967296 := by omega
    have y1 : IntKind.u32.wrap (n : Int) = (n : Int) := IntWalk.u32_in _ (by omega)
    go_enter Tryz.func44, Tryz.ntmps44
    go_wp2_with fail
    go_ret
    refine ⟨_, rfl, .inr ⟨by omega, h, w.heap.size, 0, 1, rfl, by omega, by simp, by go_simp⟩, by (repeat (first | with_reducible exact Grow.refl _ | with_reducible refine Grow.alloc ?_ _ | with_reducible refine Grow.drew ?_ | with_reducible refine Grow.drewN ?_ _ | (with_reducible refine Grow.setCell ?_ ?hp _; (case hp => (simp; try omega))) | with_reducible refine Grow.trans ?_ (by assumption)))⟩
set_option maxHeartbeats 1000000 in
theorem word_any (m : Value) (n : Nat) (w : World) (h : MagR w m n) : Calls Tryz.prog 104 #[m] w fun e w' => e = .returned (.int .u64 (n : Int)) ∧ w = w' := by
  rcases h with ⟨h0, a, cap, rfl⟩ | ⟨h0, h1, b, off, cap, rfl, hk, hb, hc⟩
  · subst h0
    go_enter Tryz.func104, Tryz.ntmps104
    go_wp2_with fail
    go_ret
    exact ⟨rfl, rfl⟩
  · have y1 : IntKind.u64.wrap (n : Int) = (n : Int) := IntWalk.u64_in _ (by omega)
    go_enter Tryz.func104, Tryz.ntmps104
    go_wp2_with fail
    go_ret
    exact ⟨rfl, rfl⟩
/-- The sign of an integer as a value. -/
def sgB (z : Int) : Bool := decide (z < 0)
set_option maxHeartbeats 1000000 in
theorem of_any (z : Int) (h : z.natAbs < 4294967296) (w : World) : Calls Tryz.prog 19 #[.int .i64 z] w fun e w' => ∃ m, e = .returned (.agg #[.bool (sgB z), m]) ∧ MagR w' m z.natAbs ∧ Grow w w' := by
  obtain ⟨n, hn⟩ : ∃ n : Nat, z.natAbs = n := ⟨_, rfl⟩
  rw [hn] at h ⊢
  have WD := Lib.hid (fun u => wide_any n h u)
  by_cases h0 : z < 0
  · have hs : sgB z = true := by simp [sgB, h0]
    rw [hs]
    have SG := Lib.hid (fun m u hu => signed_any true m n u hu)
    rw [show decide (n ≠ 0) = true by simp; omega] at SG
    have y1 : IntKind.u64.wrap z = 18446744073709551616 - (n : Int) := by simp [IntKind.wrap, IntKind.bits, IntKind.signed]; omega
    obtain ⟨W, hW⟩ : ∃ W, (18446744073709551616 : Int) - (n : Int) = W := ⟨_, rfl⟩
    rw [hW] at y1
    have y2 : IntKind.u64.wrap (-W) = (n : Int) := by simp [IntKind.wrap, IntKind.bits, IntKind.signed]; omega
    clear hn hs hW
    go_enter Tryz.func19, Tryz.ntmps19
    go_wp2_with (first
      | (go_at_call 44; (refine (WD.out _).mono ?_); (rintro e w1 ⟨m1, rfl, hm1, hb1⟩))
      | (go_at_call 43; (refine (SG.out _ _ (.inl hm1)).mono ?_); (rintro e w2 ⟨m2, rfl, hm2, hb2⟩; obtain ⟨a2, cp2, rfl⟩ := hm2.form; have HM := Lib.hid hm2; have hz1 := hb1.size; have hz2 := hb2.size; (try simp at hz1); have hz3 : w.heap.size < w2.heap.size := (by omega); have c0 : w2.cell? ⟨w.heap.size, 0, none⟩ = some (.bool false) := (by rw [hb2.cells _ _ (by omega), hb1.cells _ _ (by simp)]; go_simp); have c1 : w2.cell? ⟨w.heap.size, 1, none⟩ = some (.slice none 0 0) := (by rw [hb2.cells _ _ (by omega), hb1.cells _ _ (by simp)]; go_simp); have f0 : ∀ o, w2.frozen? ⟨w.heap.size, o, none⟩ = false := (by intro o; rw [hb2.frees _ _ (by omega), hb1.frees _ _ (by simp)]; go_simp); have HNU := Lib.hid (((NoU.alloc w _ _ (noU2 false none 0 0)).grow (by simp) hb1).grow (by omega) hb2); clear hm2; generalize (if n = 0 then 0 else 1) = ln at HM ⊢)))
    (try simp only [Exit.inBlock, Exit.then])
    refine bodyPost_ret (v := .agg #[.bool true, .slice a2 ln cp2]) (by rw [results_one rfl]; go_simp) rfl ⟨_, rfl, HM.out.set2 HNU.out _ _ _ _, by (repeat (first | with_reducible exact Grow.refl _ | with_reducible refine Grow.alloc ?_ _ | with_reducible refine Grow.drew ?_ | with_reducible refine Grow.drewN ?_ _ | (with_reducible refine Grow.setCell ?_ ?hp _; (case hp => (simp; try omega))) | with_reducible refine Grow.trans ?_ (by assumption)))⟩
  · have hs : sgB z = false := by simp [sgB, h0]
    rw [hs]
    have SG := Lib.hid (fun m u hu => signed_any false m n u hu)
    have y1 : IntKind.u64.wrap z = (n : Int) := by rw [show z = (n : Int) by omega]; exact IntWalk.u64_in _ (by omega)
    clear hn hs
    go_enter Tryz.func19, Tryz.ntmps19
    go_wp2_with (first
      | (go_at_call 44; (refine (WD.out _).mono ?_); (rintro e w1 ⟨m1, rfl, hm1, hb1⟩))
      | (go_at_call 43; (refine (SG.out _ _ (.inl hm1)).mono ?_); (rintro e w2 ⟨m2, rfl, hm2, hb2⟩; obtain ⟨a2, cp2, rfl⟩ := hm2.form; have HM := Lib.hid hm2; have hz1 := hb1.size; have hz2 := hb2.size; (try simp at hz1); have hz3 : w.heap.size < w2.heap.size := (by omega); have c0 : w2.cell? ⟨w.heap.size, 0, none⟩ = some (.bool false) := (by rw [hb2.cells _ _ (by omega), hb1.cells _ _ (by simp)]; go_simp); have c1 : w2.cell? ⟨w.heap.size, 1, none⟩ = some (.slice none 0 0) := (by rw [hb2.cells _ _ (by omega), hb1.cells _ _ (by simp)]; go_simp); have f0 : ∀ o, w2.frozen? ⟨w.heap.size, o, none⟩ = false := (by intro o; rw [hb2.frees _ _ (by omega), hb1.frees _ _ (by simp)]; go_simp); have HNU := Lib.hid (((NoU.alloc w _ _ (noU2 false none 0 0)).grow (by simp) hb1).grow (by omega) hb2); clear hm2; generalize (if n = 0 then 0 else 1) = ln at HM ⊢)))
    (try simp only [Exit.inBlock, Exit.then])
    refine bodyPost_ret (v := .agg #[.bool false, .slice a2 ln cp2]) (by rw [results_one rfl]; go_simp) rfl ⟨_, rfl, HM.out.set2 HNU.out _ _ _ _, by (repeat (first | with_reducible exact Grow.refl _ | with_reducible refine Grow.alloc ?_ _ | with_reducible refine Grow.drew ?_ | with_reducible refine Grow.drewN ?_ _ | (with_reducible refine Grow.setCell ?_ ?hp _; (case hp => (simp; try omega))) | with_reducible refine Grow.trans ?_ (by assumption)))⟩
end Go.Proofs.YtbpkfcohbefphaaGreatDoor
namespace Go.Proofs.YtbpkfcohbefphaaGreatDoor
open Go Go.RowKit
theorem infoU : (Tryz.prog.info? 70).map (fun i => (i.zero, i.size, i.bytes)) = some (some (.int .u32 0), 1, 4) := by kernel_rfl
theorem make_out {w' : World} {base g n : Nat} {t : TypeId} {z : Value} (h : w'.ownsRow base t 1 (.slice (some ⟨g, 0, none⟩) n n) n (madeCells #[z] n).toList) (hn : 0 < n) :
    g < w'.heap.size ∧ (∀ k, k < n → w'.cell? ⟨g, k, none⟩ = some z) ∧ (∀ o, w'.frozen? ⟨g, o, none⟩ = false) := by
  rcases h.2 with ⟨hv, h0⟩ | ⟨g', cap, cur, hv, hb, hh, hle, hr⟩
  · omega
  · simp only [Value.slice.injEq, Option.some.injEq, Addr.mk.injEq] at hv
    obtain ⟨⟨rfl, -⟩, -, -⟩ := hv
    refine ⟨(Array.getElem?_eq_some_iff.1 hh).1, fun k hk => ?_, fun o => ?_⟩
    · have h1 := World.ownsRow.cells h (g := g) rfl k z (by simp [madeCells, hk, Nat.mod_one])
      rw [Addr.add_lit, Nat.zero_add] at h1
      exact h1
    · unfold World.frozen?
      simp only [hh]
      simp
set_option maxHeartbeats 1000000 in
theorem add32_any (x y : Nat) (h : x + y < 4294967296) (w : World) : Calls Tryz.prog 101 #[.int .u32 (x : Int), .int .u32 (y : Int), .int .u32 0] w fun e w' => e = .returned (.tuple #[.int .u32 ((x + y : Nat) : Int), .int .u32 0]) ∧ w = w' := by
  have y1 : IntKind.u64.wrap (x : Int) = (x : Int) := IntWalk.u64_in _ (by omega)
  have y2 : IntKind.u64.wrap (y : Int) = (y : Int) := IntWalk.u64_in _ (by omega)
  obtain ⟨s, hs⟩ : ∃ s, x + y = s := ⟨_, rfl⟩
  have y3 : IntKind.u64.wrap ((x : Int) + (y : Int)) = (s : Int) := by rw [show (x : Int) + (y : Int) = (s : Int) by omega]; exact IntWalk.u64_in _ (by omega)
  have y4 : IntKind.u64.wrap (s : Int) = (s : Int) := IntWalk.u64_in _ (by omega)
  have y5 : IntKind.u32.wrap (s : Int) = (s : Int) := IntWalk.u32_in _ (by omega)
  have y6 : (s : Int) / 4294967296 = 0 := by omega
  rw [hs]
  clear hs h
  go_enter Tryz.func101, Tryz.ntmps101
  go_wp2_with fail
  refine bodyPost_ret (v := .tuple #[.int .u32 (s : Int), .int .u32 0]) (by simp only [results, Tryz.results101]; go_simp) rfl ⟨rfl, rfl⟩
set_option maxHeartbeats 1000000 in
theorem sub32_any (x y : Nat) (h : y ≤ x) (hx : x < 4294967296) (w : World) : Calls Tryz.prog 103 #[.int .u32 (x : Int), .int .u32 (y : Int), .int .u32 0] w fun e w' => (∃ c, e = .returned (.tuple #[.int .u32 ((x - y : Nat) : Int), .int .u32 c])) ∧ w = w' := by
  obtain ⟨s, hs⟩ : ∃ s, x - y = s := ⟨_, rfl⟩
  have y3 : IntKind.u32.wrap ((x : Int) - (y : Int)) = (s : Int) := by rw [show (x : Int) - (y : Int) = (s : Int) by omega]; exact IntWalk.u32_in _ (by omega)
  have y4 : IntKind.u32.wrap (s : Int) = (s : Int) := IntWalk.u32_in _ (by omega)
  have y5 : IntKind.u32.wrap ((s : Int) - 0) = (s : Int) := by rw [Int.sub_zero]; exact y4
  rw [hs]
  clear hs h
  go_enter Tryz.func103, Tryz.ntmps103
  go_wp2_with fail
  all_goals first
    | (rename_i hsg; exact absurd hsg (by decide))
    | refine bodyPost_ret (v := .tuple #[.int .u32 (s : Int), .int .u32 (bits BinOp.or IntKind.u32 (bits BinOp.and IntKind.u32 (bits BinOp.xor IntKind.u32 IntKind.u32.max (x : Int)) (y : Int)) (bits BinOp.and IntKind.u32 (bits BinOp.xor IntKind.u32 IntKind.u32.max (bits BinOp.xor IntKind.u32 (x : Int) (y : Int))) (s : Int)) / 2147483648)]) (by simp only [results, Tryz.results103]; go_simp) rfl ⟨⟨_, rfl⟩, rfl⟩
set_option maxRecDepth 20000 in
set_option maxHeartbeats 2000000 in
theorem plus_any (m1 m2 : Value) (n1 n2 : Nat) (h : n1 + n2 < 4294967296) (w : World) (h1 : MagR w m1 n1) (h2 : MagR w m2 n2) : Calls Tryz.prog 73 #[m1, m2] w fun e w' => ∃ m, e = .returned m ∧ PadR w' m (n1 + n2) ∧ Grow w w' := by
  obtain ⟨iu, hiu, iuz0, iuz1, iuz2⟩ := info_parts infoU
  rcases h1 with ⟨p0, a1, c1, rfl⟩ | ⟨p0, p1, b1, o1, c1, rfl, k1, q1, d1⟩
  · subst p0
    rcases h2 with ⟨r0, a2, c2, rfl⟩ | ⟨r0, r1, b2, o2, c2, rfl, k2, q2, d2⟩
    · subst r0
      go_enter Tryz.func73, Tryz.ntmps73
      go_wp2_with (at_make; refine wpList_make_full _ rfl _ _ 23 rfl (w.heap.size) 70 iu (.int .u32 0) 1 Tryz.underlying23 hiu iuz0 iuz1 .i64 .i64 (1 : Int) (1 : Int) 1 rfl rfl rfl rfl ?m1 ?m2 (Nat.le_refl _) ?_)
      case m1 => first | omega | (rw [iuz2]; omega)
      case m2 => unfold maxLen; omega
      intro w2 hown2 hgrow2
      obtain ⟨g1, g2, g3⟩ := make_out hown2 (by omega)
      have hg2 : Grow w w2 := (Grow.refl w).grown hgrow2 (fun k hk => by cases hk)
      go_wp2_with fail
      go_loopw [6, 23] (fun t6 t23 wr => t6 = .int .u32 0 ∧ t23 = .int .i64 0 ∧ wr = w2) (fun _ _ _ => 0)
      case atStart => exact ⟨rfl, rfl, rfl⟩
      case round =>
        obtain ⟨rfl, rfl, rfl⟩ := hrel
        have g4 := g2 0 (by omega)
        go_wp2_with fail
        go_ret
        refine ⟨_, rfl, .inr (.inl ⟨rfl, w.heap.size, 0, 1, rfl, by omega, by simpa [World.setCell] using g1, by go_simp⟩), ?_⟩
        (repeat (first | with_reducible exact Grow.refl _ | with_reducible refine Grow.alloc ?_ _ | with_reducible refine Grow.drew ?_ | with_reducible refine Grow.drewN ?_ _ | (with_reducible refine Grow.setCell ?_ ?hp _; (case hp => (simp; try omega))) | with_reducible refine Grow.trans ?_ (by assumption)))
    · rw [Nat.zero_add]
      have AD := Lib.hid (fun u => add32_any n2 0 (by omega) u)
      rw [Nat.add_zero] at AD
      rw [Nat.zero_add] at h
      go_enter Tryz.func73, Tryz.ntmps73
      go_wp2_with (at_make; refine wpList_make_full _ rfl _ _ 23 rfl (w.heap.size) 70 iu (.int .u32 0) 1 Tryz.underlying23 hiu iuz0 iuz1 .i64 .i64 (2 : Int) (2 : Int) 2 rfl rfl rfl rfl ?m1 ?m2 (Nat.le_refl _) ?_)
      case m1 => first | omega | (rw [iuz2]; omega)
      case m2 => unfold maxLen; omega
      intro w2 hown2 hgrow2
      obtain ⟨g1, g2, g3⟩ := make_out hown2 (by omega)
      have hg2 : Grow w w2 := (Grow.refl w).grown hgrow2 (fun k hk => by cases hk)
      have g4 := g2 0 (by omega)
      have g5 := g2 1 (by omega)
      go_wp2_with fail
      go_loopg [6, 23] 1 (fun k t6 t23 wr => t6 = .int .u32 0 ∧ ((k = 1 ∧ t23 = .int .i64 0 ∧ wr.cell? ⟨w.heap.size, 0, none⟩ = some (.int .u32 0)) ∨ (k = 0 ∧ t23 = .int .i64 1 ∧ wr.cell? ⟨w.heap.size, 0, none⟩ = some (.int .u32 (n2 : Int)))) ∧ wr.cell? ⟨w.heap.size, 1, none⟩ = some (.int .u32 0) ∧ (∀ o, wr.frozen? ⟨w.heap.size, o, none⟩ = false) ∧ w.heap.size < wr.heap.size ∧ Hid (Grow w wr))
      case atStart => exact ⟨rfl, .inl ⟨rfl, rfl, g4⟩, g5, g3, g1, Lib.hid hg2⟩
      case round =>
        clear g1 g2 g3 g4 g5 hg2 hown2 hgrow2
        obtain ⟨rfl, ⟨hk, rfl, g4⟩ | ⟨hk, rfl, g4⟩, g5, g3, g1, hg⟩ := hrel
        · have u1 := (hg.out.cells b2 o2 q2).trans d2
          have v1 : b2 < wr.heap.size := Nat.lt_of_lt_of_le q2 hg.out.size
          go_wp2_with (go_at_call 101; (refine (AD.out _).mono ?_); (rintro e w3 ⟨rfl, rfl⟩))
          go_roundg 0
          case measure => omega
          case rel => exact ⟨rfl, .inr ⟨rfl, rfl, by go_simp⟩, by go_simp, by intro o; go_simp, by simpa [World.setCell] using g1, Lib.hid (by have h9 := hg.out; (repeat (first | with_reducible exact Grow.refl _ | with_reducible refine Grow.alloc ?_ _ | with_reducible refine Grow.drew ?_ | with_reducible refine Grow.drewN ?_ _ | (with_reducible refine Grow.setCell ?_ ?hp _; (case hp => (simp; try omega))) | with_reducible refine Grow.trans ?_ (by assumption))))⟩
        · go_wp2_with fail
          go_ret
          refine ⟨_, rfl, .inr (.inr ⟨h, w.heap.size, 0, 2, rfl, by omega, by simpa [World.setCell] using g1, by go_simp, by go_simp⟩), ?_⟩
          have h9 := hg.out
          (repeat (first | with_reducible exact Grow.refl _ | with_reducible refine Grow.alloc ?_ _ | with_reducible refine Grow.drew ?_ | with_reducible refine Grow.drewN ?_ _ | (with_reducible refine Grow.setCell ?_ ?hp _; (case hp => (simp; try omega))) | with_reducible refine Grow.trans ?_ (by assumption)))
  · rcases h2 with ⟨r0, a2, c2, rfl⟩ | ⟨r0, r1, b2, o2, c2, rfl, k2, q2, d2⟩
    · subst r0
      rw [Nat.add_zero]
      have AD := Lib.hid (fun u => add32_any n1 0 (by omega) u)
      rw [Nat.add_zero] at AD h
      go_enter Tryz.func73, Tryz.ntmps73
      go_wp2_with (at_make; refine wpList_make_full _ rfl _ _ 23 rfl (w.heap.size) 70 iu (.int .u32 0) 1 Tryz.underlying23 hiu iuz0 iuz1 .i64 .i64 (2 : Int) (2 : Int) 2 rfl rfl rfl rfl ?m1 ?m2 (Nat.le_refl _) ?_)
      case m1 => first | omega | (rw [iuz2]; omega)
      case m2 => unfold maxLen; omega
      intro w2 hown2 hgrow2
      obtain ⟨g1, g2, g3⟩ := make_out hown2 (by omega)
      have hg2 : Grow w w2 := (Grow.refl w).grown hgrow2 (fun k hk => by cases hk)
      have g4 := g2 0 (by omega)
      have g5 := g2 1 (by omega)
      go_wp2_with fail
      go_loopg [6, 23] 1 (fun k t6 t23 wr => t6 = .int .u32 0 ∧ ((k = 1 ∧ t23 = .int .i64 0 ∧ wr.cell? ⟨w.heap.size, 0, none⟩ = some (.int .u32 0)) ∨ (k = 0 ∧ t23 = .int .i64 1 ∧ wr.cell? ⟨w.heap.size, 0, none⟩ = some (.int .u32 (n1 : Int)))) ∧ wr.cell? ⟨w.heap.size, 1, none⟩ = some (.int .u32 0) ∧ (∀ o, wr.frozen? ⟨w.heap.size, o, none⟩ = false) ∧ w.heap.size < wr.heap.size ∧ Hid (Grow w wr))
      case atStart => exact ⟨rfl, .inl ⟨rfl, rfl, g4⟩, g5, g3, g1, Lib.hid hg2⟩
      case round =>
        clear g1 g2 g3 g4 g5 hg2 hown2 hgrow2
        obtain ⟨rfl, ⟨hk, rfl, g4⟩ | ⟨hk, rfl, g4⟩, g5, g3, g1, hg⟩ := hrel
        · have u1 := (hg.out.cells b1 o1 q1).trans d1
          have v1 : b1 < wr.heap.size := Nat.lt_of_lt_of_le q1 hg.out.size
          go_wp2_with (go_at_call 101; (refine (AD.out _).mono ?_); (rintro e w3 ⟨rfl, rfl⟩))
          go_roundg 0
          case measure => omega
          case rel => exact ⟨rfl, .inr ⟨rfl, rfl, by go_simp⟩, by go_simp, by intro o; go_simp, by simpa [World.setCell] using g1, Lib.hid (by have h9 := hg.out; (repeat (first | with_reducible exact Grow.refl _ | with_reducible refine Grow.alloc ?_ _ | with_reducible refine Grow.drew ?_ | with_reducible refine Grow.drewN ?_ _ | (with_reducible refine Grow.setCell ?_ ?hp _; (case hp => (simp; try omega))) | with_reducible refine Grow.trans ?_ (by assumption))))⟩
        · go_wp2_with fail
          go_ret
          refine ⟨_, rfl, .inr (.inr ⟨h, w.heap.size, 0, 2, rfl, by omega, by simpa [World.setCell] using g1, by go_simp, by go_simp⟩), ?_⟩
          have h9 := hg.out
          (repeat (first | with_reducible exact Grow.refl _ | with_reducible refine Grow.alloc ?_ _ | with_reducible refine Grow.drew ?_ | with_reducible refine Grow.drewN ?_ _ | (with_reducible refine Grow.setCell ?_ ?hp _; (case hp => (simp; try omega))) | with_reducible refine Grow.trans ?_ (by assumption)))
    · obtain ⟨s, hs⟩ : ∃ s, n1 + n2 = s := ⟨_, rfl⟩
      have AD := Lib.hid (fun u => add32_any n1 n2 h u)
      rw [hs] at AD h ⊢
      clear hs
      go_enter Tryz.func73, Tryz.ntmps73
      go_wp2_with (at_make; refine wpList_make_full _ rfl _ _ 23 rfl (w.heap.size) 70 iu (.int .u32 0) 1 Tryz.underlying23 hiu iuz0 iuz1 .i64 .i64 (2 : Int) (2 : Int) 2 rfl rfl rfl rfl ?m1 ?m2 (Nat.le_refl _) ?_)
      case m1 => first | omega | (rw [iuz2]; omega)
      case m2 => unfold maxLen; omega
      intro w2 hown2 hgrow2
      obtain ⟨g1, g2, g3⟩ := make_out hown2 (by omega)
      have hg2 : Grow w w2 := (Grow.refl w).grown hgrow2 (fun k hk => by cases hk)
      have g4 := g2 0 (by omega)
      have g5 := g2 1 (by omega)
      go_wp2_with fail
      go_loopg [6, 23] 1 (fun k t6 t23 wr => t6 = .int .u32 0 ∧ ((k = 1 ∧ t23 = .int .i64 0 ∧ wr.cell? ⟨w.heap.size, 0, none⟩ = some (.int .u32 0)) ∨ (k = 0 ∧ t23 = .int .i64 1 ∧ wr.cell? ⟨w.heap.size, 0, none⟩ = some (.int .u32 (s : Int)))) ∧ wr.cell? ⟨w.heap.size, 1, none⟩ = some (.int .u32 0) ∧ (∀ o, wr.frozen? ⟨w.heap.size, o, none⟩ = false) ∧ w.heap.size < wr.heap.size ∧ Hid (Grow w wr))
      case atStart => exact ⟨rfl, .inl ⟨rfl, rfl, g4⟩, g5, g3, g1, Lib.hid hg2⟩
      case round =>
        clear g1 g2 g3 g4 g5 hg2 hown2 hgrow2
        obtain ⟨rfl, ⟨hk, rfl, g4⟩ | ⟨hk, rfl, g4⟩, g5, g3, g1, hg⟩ := hrel
        · have u1 := (hg.out.cells b1 o1 q1).trans d1
          have v1 : b1 < wr.heap.size := Nat.lt_of_lt_of_le q1 hg.out.size
          have u2 := (hg.out.cells b2 o2 q2).trans d2
          have v2 : b2 < wr.heap.size := Nat.lt_of_lt_of_le q2 hg.out.size
          go_wp2_with (go_at_call 101; (refine (AD.out _).mono ?_); (rintro e w3 ⟨rfl, rfl⟩))
          go_roundg 0
          case measure => omega
          case rel => exact ⟨rfl, .inr ⟨rfl, rfl, by go_simp⟩, by go_simp, by intro o; go_simp, by simpa [World.setCell] using g1, Lib.hid (by have h9 := hg.out; (repeat (first | with_reducible exact Grow.refl _ | with_reducible refine Grow.alloc ?_ _ | with_reducible refine Grow.drew ?_ | with_reducible refine Grow.drewN ?_ _ | (with_reducible refine Grow.setCell ?_ ?hp _; (case hp => (simp; try omega))) | with_reducible refine Grow.trans ?_ (by assumption))))⟩
        · go_wp2_with fail
          go_ret
          refine ⟨_, rfl, .inr (.inr ⟨h, w.heap.size, 0, 2, rfl, by omega, by simpa [World.setCell] using g1, by go_simp, by go_simp⟩), ?_⟩
          have h9 := hg.out
          (repeat (first | with_reducible exact Grow.refl _ | with_reducible refine Grow.alloc ?_ _ | with_reducible refine Grow.drew ?_ | with_reducible refine Grow.drewN ?_ _ | (with_reducible refine Grow.setCell ?_ ?hp _; (case hp => (simp; try omega))) | with_reducible refine Grow.trans ?_ (by assumption)))
end Go.Proofs.YtbpkfcohbefphaaGreatDoor
namespace Go.Proofs.YtbpkfcohbefphaaGreatDoor
open Go Go.RowKit
theorem pad1 {w : World} {b off cap d : Nat} (hd : d < 4294967296) (hk : 1 ≤ cap) (hb : b < w.heap.size) (hc : w.cell? ⟨b, off, none⟩ = some (.int .u32 (d : Int))) : PadR w (.slice (some ⟨b, off, none⟩) 1 cap) d := by
  by_cases h0 : d = 0
  · subst h0; exact .inr (.inl ⟨rfl, b, off, cap, rfl, hk, hb, hc⟩)
  · exact .inl (.inr ⟨by omega, hd, b, off, cap, rfl, hk, hb, hc⟩)
set_option maxRecDepth 20000 in
set_option maxHeartbeats 2000000 in
theorem less_any (m1 m2 : Value) (n1 n2 : Nat) (h : n2 ≤ n1) (w : World) (h1 : MagR w m1 n1) (h2 : MagR w m2 n2) : Calls Tryz.prog 75 #[m1, m2] w fun e w' => ∃ m, e = .returned m ∧ PadR w' m (n1 - n2) ∧ Grow w w' := by
  obtain ⟨iu, hiu, iuz0, iuz1, iuz2⟩ := info_parts infoU
  rcases h1 with ⟨p0, a1, c1, rfl⟩ | ⟨p0, p1, b1, o1, c1, rfl, k1, q1, d1⟩
  · subst p0
    obtain rfl : n2 = 0 := by omega
    obtain ⟨a2, c2, rfl⟩ := h2.form
    clear h2
    go_enter Tryz.func75, Tryz.ntmps75
    go_wp2_with (at_make; refine wpList_make_full _ rfl _ _ 23 rfl (w.heap.size) 70 iu (.int .u32 0) 1 Tryz.underlying23 hiu iuz0 iuz1 .i64 .i64 (0 : Int) (0 : Int) 0 rfl rfl rfl rfl ?m1 ?m2 (Nat.le_refl _) ?_)
    case m1 => simp
    case m2 => unfold maxLen; omega
    intro w2 hown2 hgrow2
    have hg2 : Grow w w2 := (Grow.refl w).grown hgrow2 (fun k hk => by cases hk)
    go_wp2_with fail
    go_loopw [15] (fun t15 wr => t15 = .int .i64 0 ∧ wr = w2) (fun _ _ => 0)
    case atStart => exact ⟨rfl, rfl⟩
    case round =>
      obtain ⟨rfl, rfl⟩ := hrel
      go_wp2_with fail
      go_ret
      exact ⟨_, rfl, .inl (.inl ⟨rfl, _, _, rfl⟩), hg2⟩
  · obtain ⟨s, hs⟩ : ∃ s, n1 - n2 = s := ⟨_, rfl⟩
    have hs2 : s < 4294967296 := by omega
    have AD := Lib.hid (fun u => sub32_any n1 n2 h p1 u)
    rw [hs] at AD ⊢
    clear hs
    rcases h2 with ⟨r0, a2, c2, rfl⟩ | ⟨r0, r1, b2, o2, c2, rfl, k2, q2, d2⟩
    · subst r0
      go_enter Tryz.func75, Tryz.ntmps75
      go_wp2_with (at_make; refine wpList_make_full _ rfl _ _ 23 rfl (w.heap.size) 70 iu (.int .u32 0) 1 Tryz.underlying23 hiu iuz0 iuz1 .i64 .i64 (1 : Int) (1 : Int) 1 rfl rfl rfl rfl ?m1 ?m2 (Nat.le_refl _) ?_)
      case m1 => first | omega | (rw [iuz2]; omega)
      case m2 => unfold maxLen; omega
      intro w2 hown2 hgrow2
      obtain ⟨g1, g2, g3⟩ := make_out hown2 (by omega)
      have hg2 : Grow w w2 := (Grow.refl w).grown hgrow2 (fun k hk => by cases hk)
      have g4 := g2 0 (by omega)
      go_wp2_with fail
      go_loopg [6, 15] 1 (fun k t6 t15 wr => ((k = 1 ∧ t6 = .int .u32 0 ∧ t15 = .int .i64 0 ∧ wr.cell? ⟨w.heap.size, 0, none⟩ = some (.int .u32 0)) ∨ (k = 0 ∧ t15 = .int .i64 1 ∧ wr.cell? ⟨w.heap.size, 0, none⟩ = some (.int .u32 (s : Int)))) ∧ (∀ o, wr.frozen? ⟨w.heap.size, o, none⟩ = false) ∧ w.heap.size < wr.heap.size ∧ Hid (Grow w wr))
      case atStart => exact ⟨.inl ⟨rfl, rfl, rfl, g4⟩, g3, g1, Lib.hid hg2⟩
      case round =>
        clear g1 g2 g3 g4 hg2 hown2 hgrow2
        obtain ⟨⟨hk, rfl, rfl, g4⟩ | ⟨hk, rfl, g4⟩, g3, g1, hg⟩ := hrel
        · have u1 := (hg.out.cells b1 o1 q1).trans d1
          have v1 : b1 < wr.heap.size := Nat.lt_of_lt_of_le q1 hg.out.size
          go_wp2_with (go_at_call 103; (refine (AD.out _).mono ?_); (rintro e w3 ⟨⟨cr, rfl⟩, rfl⟩))
          go_roundg 0
          case measure => omega
          case rel => exact ⟨.inr ⟨rfl, rfl, by go_simp⟩, by intro o; go_simp, by simpa [World.setCell] using g1, Lib.hid (by have h9 := hg.out; (repeat (first | with_reducible exact Grow.refl _ | with_reducible refine Grow.alloc ?_ _ | with_reducible refine Grow.drew ?_ | with_reducible refine Grow.drewN ?_ _ | (with_reducible refine Grow.setCell ?_ ?hp _; (case hp => (simp; try omega))) | with_reducible refine Grow.trans ?_ (by assumption))))⟩
        · go_wp2_with fail
          go_ret
          exact ⟨_, rfl, pad1 hs2 (by omega) g1 g4, hg.out⟩
    · go_enter Tryz.func75, Tryz.ntmps75
      go_wp2_with (at_make; refine wpList_make_full _ rfl _ _ 23 rfl (w.heap.size) 70 iu (.int .u32 0) 1 Tryz.underlying23 hiu iuz0 iuz1 .i64 .i64 (1 : Int) (1 : Int) 1 rfl rfl rfl rfl ?m1 ?m2 (Nat.le_refl _) ?_)
      case m1 => first | omega | (rw [iuz2]; omega)
      case m2 => unfold maxLen; omega
      intro w2 hown2 hgrow2
      obtain ⟨g1, g2, g3⟩ := make_out hown2 (by omega)
      have hg2 : Grow w w2 := (Grow.refl w).grown hgrow2 (fun k hk => by cases hk)
      have g4 := g2 0 (by omega)
      go_wp2_with fail
      go_loopg [6, 15] 1 (fun k t6 t15 wr => ((k = 1 ∧ t6 = .int .u32 0 ∧ t15 = .int .i64 0 ∧ wr.cell? ⟨w.heap.size, 0, none⟩ = some (.int .u32 0)) ∨ (k = 0 ∧ t15 = .int .i64 1 ∧ wr.cell? ⟨w.heap.size, 0, none⟩ = some (.int .u32 (s : Int)))) ∧ (∀ o, wr.frozen? ⟨w.heap.size, o, none⟩ = false) ∧ w.heap.size < wr.heap.size ∧ Hid (Grow w wr))
      case atStart => exact ⟨.inl ⟨rfl, rfl, rfl, g4⟩, g3, g1, Lib.hid hg2⟩
      case round =>
        clear g1 g2 g3 g4 hg2 hown2 hgrow2
        obtain ⟨⟨hk, rfl, rfl, g4⟩ | ⟨hk, rfl, g4⟩, g3, g1, hg⟩ := hrel
        · have u1 := (hg.out.cells b1 o1 q1).trans d1
          have v1 : b1 < wr.heap.size := Nat.lt_of_lt_of_le q1 hg.out.size
          have u2 := (hg.out.cells b2 o2 q2).trans d2
          have v2 : b2 < wr.heap.size := Nat.lt_of_lt_of_le q2 hg.out.size
          go_wp2_with (go_at_call 103; (refine (AD.out _).mono ?_); (rintro e w3 ⟨⟨cr, rfl⟩, rfl⟩))
          go_roundg 0
          case measure => omega
          case rel => exact ⟨.inr ⟨rfl, rfl, by go_simp⟩, by intro o; go_simp, by simpa [World.setCell] using g1, Lib.hid (by have h9 := hg.out; (repeat (first | with_reducible exact Grow.refl _ | with_reducible refine Grow.alloc ?_ _ | with_reducible refine Grow.drew ?_ | with_reducible refine Grow.drewN ?_ _ | (with_reducible refine Grow.setCell ?_ ?hp _; (case hp => (simp; try omega))) | with_reducible refine Grow.trans ?_ (by assumption))))⟩
        · go_wp2_with fail
          go_ret
          exact ⟨_, rfl, pad1 hs2 (by omega) g1 g4, hg.out⟩
set_option maxHeartbeats 1000000 in
theorem times_any (m1 m2 : Value) (n1 n2 : Nat) (h : n1 * n2 < 4294967296) (w : World) (h1 : MagR w m1 n1) (h2 : MagR w m2 n2) : Calls Tryz.prog 47 #[m1, m2] w fun e w' => ∃ m, e = .returned m ∧ MagR w' m (n1 * n2) ∧ Grow w w' := by
  rcases h1 with ⟨p0, a1, c1, rfl⟩ | ⟨p0, p1, b1, o1, c1, rfl, k1, q1, d1⟩
  · subst p0
    rw [Nat.zero_mul]
    obtain ⟨a2, c2, rfl⟩ := h2.form
    clear h2
    generalize (if n2 = 0 then 0 else 1) = ln
    go_enter Tryz.func47, Tryz.ntmps47
    go_wp2_with fail
    go_ret
    exact ⟨_, rfl, .inl ⟨rfl, _, _, rfl⟩, Grow.refl _⟩
  · rcases h2 with ⟨r0, a2, c2, rfl⟩ | ⟨r0, r1, b2, o2, c2, rfl, k2, q2, d2⟩
    · subst r0
      rw [Nat.mul_zero]
      go_enter Tryz.func47, Tryz.ntmps47
      go_wp2_with fail
      go_ret
      exact ⟨_, rfl, .inl ⟨rfl, _, _, rfl⟩, Grow.refl _⟩
    · obtain ⟨s, hs⟩ : ∃ s, n1 * n2 = s := ⟨_, rfl⟩
      have y1 : IntKind.u64.wrap (n1 : Int) = (n1 : Int) := IntWalk.u64_in _ (by omega)
      have y2 : IntKind.u64.wrap (n2 : Int) = (n2 : Int) := IntWalk.u64_in _ (by omega)
      have ym : (n1 : Int) * (n2 : Int) = (s : Int) := by rw [← hs]; simp
      rw [hs] at h ⊢
      have y3 : IntKind.u64.wrap ((n1 : Int) * (n2 : Int)) = (s : Int) := by rw [ym]; exact IntWalk.u64_in _ (by omega)
      have WD := Lib.hid (fun u => wide_any s h u)
      clear hs ym
      go_enter Tryz.func47, Tryz.ntmps47
      go_wp2_with fail
      go_region_with (go_at_call 44; (refine (WD.out _).mono ?_); (rintro e w3 ⟨m3, rfl, hm3, hb3⟩))
      all_goals go_wp2_with fail
      all_goals go_ret
      all_goals exact ⟨_, rfl, by first | exact hm3 | exact hm3.grow ((Grow.refl _).drewN _), by first | exact hb3 | (repeat (first | with_reducible exact Grow.refl _ | with_reducible refine Grow.alloc ?_ _ | with_reducible refine Grow.drew ?_ | with_reducible refine Grow.drewN ?_ _ | (with_reducible refine Grow.setCell ?_ ?hp _; (case hp => (simp; try omega))) | with_reducible refine Grow.trans ?_ (by assumption)))⟩
def cmpN (a b : Nat) : Int := if a < b then -1 else if b < a then 1 else 0
set_option maxHeartbeats 1000000 in
theorem sign_any (z : Int) (w : World) : Calls Tryz.prog 102 #[.int .i64 z] w fun e w' => e = .returned (.int .i64 (if z < 0 then -1 else if 0 < z then 1 else 0)) ∧ w = w' := by
  by_cases h1 : z < 0
  · rw [if_pos h1]
    go_enter Tryz.func102, Tryz.ntmps102
    go_wp2_with fail
    go_ret
    exact ⟨rfl, rfl⟩
  · rw [if_neg h1]
    by_cases h2 : 0 < z
    · rw [if_pos h2]
      go_enter Tryz.func102, Tryz.ntmps102
      go_wp2_with fail
      go_ret
      exact ⟨rfl, rfl⟩
    · rw [if_neg h2]
      go_enter Tryz.func102, Tryz.ntmps102
      go_wp2_with fail
      go_ret
      exact ⟨rfl, rfl⟩
end Go.Proofs.YtbpkfcohbefphaaGreatDoor
namespace Go.Proofs.YtbpkfcohbefphaaGreatDoor
open Go Go.RowKit
/-- The slice value v reads as n elements of `size` cells each, whose cells are xs. -/
def RdRow (w : World) (size : Nat) (v : Value) (n : Nat) (xs : List Value) : Prop :=
  xs.length = n * size ∧ (∀ u ∈ xs, u.oneCell' = true) ∧ ((n = 0 ∧ ∃ a cap, v = .slice a 0 cap) ∨ (∃ b off cap, v = .slice (some ⟨b, off, none⟩) n cap ∧ b < w.heap.size ∧ n ≤ cap ∧ ∀ j u, xs[j]? = some u → w.cell? ⟨b, off + j, none⟩ = some u))
theorem RdRow.grow {w w' : World} {size n : Nat} {v : Value} {xs : List Value} (h : RdRow w size v n xs) (hg : Grow w w') : RdRow w' size v n xs := by
  obtain ⟨h1, h2, h3⟩ := h
  refine ⟨h1, h2, ?_⟩
  rcases h3 with h3 | ⟨b, off, cap, hv, hb, hk, hc⟩
  · exact .inl h3
  · exact .inr ⟨b, off, cap, hv, Nat.lt_of_lt_of_le hb hg.size, hk, fun j u hu => (hg.cells b _ hb).trans (hc j u hu)⟩
theorem RdRow.form {w : World} {size n : Nat} {v : Value} {xs : List Value} (h : RdRow w size v n xs) : ∃ a cap, v = .slice a n cap := by
  rcases h.2.2 with ⟨rfl, a, cap, hv⟩ | ⟨b, off, cap, hv, -⟩
  · exact ⟨a, cap, hv⟩
  · exact ⟨_, cap, hv⟩
theorem own_rdrow {w : World} {base : Nat} {e : TypeId} {size n : Nat} {v : Value} {xs : List Value} (h : w.ownsRow base e size v n xs) (h1 : ∀ u ∈ xs, u.oneCell' = true) : RdRow w size v n xs := by
  refine ⟨h.1, h1, ?_⟩
  rcases h.2 with ⟨hv, h0⟩ | ⟨g, cap, cur, hv, hb, hh, hle, hr⟩
  · exact .inl ⟨h0, none, 0, hv⟩
  · refine .inr ⟨g, 0, cap, hv, (Array.getElem?_eq_some_iff.1 hh).1, hle, fun j u hu => ?_⟩
    have h1 := World.ownsRow.cells h (g := g) (by rw [hv]; rfl) _ _ hu
    rw [Addr.add_lit] at h1
    exact h1
section
variable {P : Program}
theorem RdRow.src {w : World} {size n : Nat} {x : Value} {xs : List Value} (h : RdRow w size x n xs) {tx e' : TypeId} (hk : P.underlying tx = some (.slice e')) : Src P size tx x n xs w := by
  obtain ⟨h1, h2, h3⟩ := h
  rcases h3 with ⟨rfl, a, cap, rfl⟩ | ⟨b, off, cap, rfl, hb, hle, hc⟩
  · obtain rfl : xs = [] := List.eq_nil_of_length_eq_zero (by simpa using h1)
    cases a with
    | none => exact Src.ofNil w hk cap
    | some a => exact Src.ofSlice w hk a 0 cap [] (by simp) (by intro j u h; simp at h) (by intro u h; cases h)
  · refine Src.ofSlice w hk _ _ _ _ h1 (fun j u hj => ?_) h2
    rw [Addr.add_lit]
    exact hc j u hj
theorem run_append_rd {ty t e : TypeId} {i : TypeInfo} {z : Value} {size bytes : Nat} (ht : P.underlying t = some (.slice e)) (hi : P.info? e = some i) (hz : i.zero = some z) (hsize : i.size = size) (hby : i.bytes = bytes) (hzs : z.cells.size = size) (hs0 : 0 < size)
    (w : World) (base : Nat) (v : Value) (n : Nat) (xs : List Value) (hown : w.ownsRow base e size v n xs) (x : Value) (m : Nat) (news : List Value) (hx : RdRow w size x m news) (hl : n + m ≤ 1000000) (hbb : bytes ≤ 1000) (hb : base ≤ w.heap.size) :
    ∃ v' w', (Builtin.append_ #[t, t] ty #[v, x]).run P w = .ok v' w' ∧ w'.ownsRow base e size v' (n + m) (xs ++ news) ∧ w.grownBy w' v.ownBlock := by
  by_cases h0 : m = 0
  · subst h0
    have hsrc := hx.src (P := P) ht
    obtain rfl : news = [] := List.eq_nil_of_length_eq_zero (by simpa using hx.1)
    have hv : ∃ b c, v = .slice b n c ∧ n ≤ c := by
      rcases hown.2 with ⟨rfl, rfl⟩ | ⟨g, cap, cur, rfl, _, _, h3, _⟩
      · exact ⟨none, 0, rfl, by omega⟩
      · exact ⟨_, cap, rfl, h3⟩
    obtain ⟨b, c, rfl, hc⟩ := hv
    have hr := run_append_nothing (P := P) w t t ty e i ht hi b n c hc x (by rw [hsize]; exact hsrc)
    exact ⟨_, _, hr, by simpa using hown, World.grownBy.refl _ _⟩
  · obtain ⟨h1, h2, h3⟩ := hx
    rcases h3 with ⟨rfl, _⟩ | ⟨b, off, cap, rfl, hbk, hle, hc⟩
    · exact absurd rfl h0
    · have hbm : (n + m) * bytes ≤ 1000000 * 1000 := Nat.mul_le_mul hl hbb
      obtain ⟨v', w', hr, q1, q2, _⟩ := run_append_own (P := P) w base t ty e i z size bytes ht hi hz hsize hby hzs hs0 v n xs hown ⟨b, off, none⟩ m cap news h1
        (fun j u hj => by rw [Addr.add_lit]; exact hc j u hj) h2 (by unfold maxLen; omega) (by omega) hb
      exact ⟨v', w', hr, q1, q2⟩
theorem wpList_append_rd (w : World) {ops : Array Oper} {rest : List Oper} {o : Oper} {a : Act} {Q : Exit → Act → World → Prop} (hgd : o.guard = none) (s x : Operand) (t : TypeId)
    (ho : o.op = .call { callee := .builtin .append, args := #[s, x], argTypes := #[t, t] }) (e : TypeId) (i : TypeInfo) (z : Value) (size bytes : Nat) (ht : P.underlying t = some (.slice e)) (hi : P.info? e = some i) (hz : i.zero = some z) (hsize : i.size = size) (hby : i.bytes = bytes) (hzs : z.cells.size = size) (hs0 : 0 < size)
    (base : Nat) (v : Value) (n : Nat) (xs : List Value) (hs : a.eval s = v) (hown : w.ownsRow base e size v n xs) (vx : Value) (m : Nat) (news : List Value) (hx : a.eval x = vx) (hrd : RdRow w size vx m news) (hl : n + m ≤ 1000000) (hbb : bytes ≤ 1000) (hb : base ≤ w.heap.size)
    (h : ∀ v' w', w'.ownsRow base e size v' (n + m) (xs ++ news) → w.grownBy w' v.ownBlock → wpList P ops Q rest (a.put o.dst v') w') : wpList P ops Q (o :: rest) a w := by
  refine wpList_plain hgd fun K hK' => ?_
  obtain ⟨v', w', hrun, r1, r2⟩ := run_append_rd (P := P) (ty := o.type) ht hi hz hsize hby hzs hs0 w base v n xs hown vx m news hrd hl hbb hb
  unfold Oper.wp
  simp [execOp, ho, resolve, invoke, builtin, hs, hx, hrun, Result.andThen]
  exact hK' _ _ (h v' w' r1 r2)
end
end Go.Proofs.YtbpkfcohbefphaaGreatDoor
