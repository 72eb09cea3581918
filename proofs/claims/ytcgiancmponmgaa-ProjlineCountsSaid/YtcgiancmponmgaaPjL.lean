/- Walk: List of the program, the sieve. -/
import Derived.Test.YtcgiancmponmgaaPjY
import Derived.Test.YtcgiancmponmgaaPlQ
import Derived.Deep.LoopGhost
import Derived.Deep.CutBlock
namespace Go.Proofs.Ytcgiancmponmgaa
open Go Go.RowKit

theorem unA_mem {n : Int} : ∀ (k : Nat) (s : Int), s ∈ unA n k ↔ (1 ≤ s ∧ s ≤ k ∧ Int.gcd s n = 1)
  | 0, s => by
    simp only [unA, List.not_mem_nil, false_iff]
    omega
  | k + 1, s => by
    rw [unA, List.mem_append, unA_mem k s]
    constructor
    · rintro (⟨a, b, c⟩ | h)
      · exact ⟨a, by omega, c⟩
      · split at h
        · rename_i hk
          rw [List.mem_singleton] at h
          subst h
          exact ⟨by omega, by omega, by omega⟩
        · cases h
    · rintro ⟨a, b, c⟩
      by_cases e : s = (k : Int) + 1
      · subst e; right; rw [if_pos (by omega), List.mem_singleton]
      · exact .inl ⟨a, by omega, c⟩
theorem unA_len {n : Int} : ∀ k : Nat, (unA n k).length ≤ k
  | 0 => by simp [unA]
  | k + 1 => by
    have := unA_len (n := n) k
    rw [unA, List.length_append]
    split <;> simp <;> omega
def ixS (n u v s : Int) : Int := (s * u) % n * n + (s * v) % n
/-- The marks behind the first k pairs. -/
def SeenF (n : Int) (N k : Nat) (f : Nat → Bool) : Prop := ∀ q, q < N → (f q = true ↔ seenB n k q)
theorem SeenF.zero (n : Int) (N : Nat) : SeenF n N 0 (fun _ => false) := by
  intro q _
  simp only [Bool.false_eq_true, false_iff]
  rintro ⟨j, hj, _⟩
  omega
theorem SeenF.skip {n : Int} {N k : Nat} {f : Nat → Bool} (h : SeenF n N k f) (hk : okP n ((k : Int) / n) ((k : Int) % n) = false) : SeenF n N (k + 1) f := by
  intro q hq
  rw [h q hq]
  constructor
  · rintro ⟨j, hj, a, b⟩
    exact ⟨j, by omega, a, b⟩
  · rintro ⟨j, hj, a, b⟩
    by_cases e : j = k
    · subst e; rw [hk] at a; cases a
    · exact ⟨j, by omega, a, b⟩
theorem SeenF.take {n : Int} {N k : Nat} {f f' : Nat → Bool} (h1 : 1 ≤ n) (h : SeenF n N k f) (hk : okP n ((k : Int) / n) ((k : Int) % n) = true)
    (h' : ∀ q, q < N → (f' q = true ↔ (f q = true ∨ ∃ s ∈ unA n n.toNat, (q : Int) = ixS n ((k : Int) / n) ((k : Int) % n) s))) : SeenF n N (k + 1) f' := by
  intro q hq
  rw [h' q hq, h q hq]
  constructor
  · rintro (⟨j, hj, a, b⟩ | ⟨s, hs, e⟩)
    · exact ⟨j, by omega, a, b⟩
    · obtain ⟨a, b, c⟩ := (unA_mem _ _).1 hs
      exact ⟨k, by omega, hk, s, a, by omega, c, e⟩
  · rintro ⟨j, hj, a, s, s1, s2, s3, e⟩
    by_cases ej : j = k
    · subst ej; exact .inr ⟨s, (unA_mem _ _).2 ⟨s1, by omega, s3⟩, e⟩
    · exact .inl ⟨j, by omega, a, s, s1, s2, s3, e⟩
theorem SeenF.ok {n : Int} {N k : Nat} {f : Nat → Bool} (h : SeenF n N k f) (h1 : 1 ≤ n) (h2 : n ≤ 120) (hN : (N : Int) = n * n) (hk : k < N) :
    okP n ((k : Int) / n) ((k : Int) % n) = (!f k && decide ((Int.gcd ((Int.gcd ((k : Int) / n) ((k : Int) % n) : Nat) : Int) n : Int) = 1)) := by
  by_cases hg : (Int.gcd ((Int.gcd ((k : Int) / n) ((k : Int) % n) : Nat) : Int) n : Int) = 1
  · have hs := seen_iff (n := n) (k := k) h1 h2 (by rw [← hN]; omega) (by omega)
    rw [← h k hk] at hs
    rw [decide_eq_true hg, Bool.and_true]
    cases hf : f k
    · rw [hf] at hs; simpa using hs
    · rw [hf] at hs; simp at hs; simpa using hs
  · unfold okP
    rw [decide_eq_false hg]
    simp
/-- The memory of the sieve's loop. -/
def LsM (w1 : World) (N : Nat) (f : Nat → Bool) (t : Value) (l : List P3) (u : World) : Prop := SvM u w1.heap.size N f ∧ OwnPts u (w1.heap.size + 1) t l ∧ Grow w1 u
theorem LsM.grow {w1 u u' : World} {N : Nat} {f : Nat → Bool} {t : Value} {l : List P3} (h : LsM w1 N f t l u) (hg : Grow u u') : LsM w1 N f t l u' :=
  ⟨h.1.grow hg, h.2.1.into hg, h.2.2.trans hg⟩
theorem LsM.set {w1 u : World} {N : Nat} {f : Nat → Bool} {t : Value} {l : List P3} (h : LsM w1 N f t l u) (q : Nat) (hq : q < N) : LsM w1 N (fun k => k == q || f k) t l (u.setCell ⟨w1.heap.size, q, none⟩ (.bool true)) :=
  ⟨h.1.set q hq, own_set h.2.1 (by simp) _, h.2.2.setCell (by simp) _⟩
theorem LsM.app {w1 u u' : World} {N : Nat} {f : Nat → Bool} {t t' : Value} {l : List P3} {x : P3} (h : LsM w1 N f t l u) (hown : OwnPts u' (w1.heap.size + 1) t' (l ++ [x])) (hg : u.grownBy u' t.ownBlock) : LsM w1 N f t' (l ++ [x]) u' := by
  have hb := h.1.1
  obtain ⟨hc, hf⟩ := own_kept h.2.1 hg (by omega)
  exact ⟨h.1.kept (fun o => hc _ _ (by omega)) (fun o => hf _ _ (by omega)) hg.size, hown, own_grow h.2.2 h.2.1 hg (by omega)⟩
end Go.Proofs.Ytcgiancmponmgaa
