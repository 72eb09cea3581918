/- Plain law: the steps of the chains. No program here. -/
import Derived.Test.YtalidpojcpmcbaaHcL
namespace Go.Proofs.Ytalidpojcpmcbaa

def topM (m : M2) : Prop := m.c = 0 ∧ 1 ≤ m.a ∧ 0 ≤ m.b ∧ m.b < m.a
def lnkM (n : Int) (p m : M2) : Prop := (p.b = 0 → topM m) ∧ (p.b ≠ 0 → m.a * p.d = m.c * p.b ∧ clsF m n = clsF p n)
def StP (n : Int) : M2 → List M2 → Prop
  | p, [] => p.b = 0
  | p, m :: r => lnkM n p m ∧ StP n m r
theorem stp_append {n : Int} {y : List M2} (hy : ∀ p : M2, p.b = 0 → StP n p y) : ∀ {x : List M2} {p : M2}, StP n p x → StP n p (x ++ y)
  | [], p, h => hy p h
  | _ :: _, _, h => ⟨h.1, stp_append hy h.2⟩
theorem chI_stp {n : Int} (h1 : 1 ≤ n) (h2 : n ≤ 24) (l : List Int) : ∀ (f : Nat) (u : Nat) (g : M2), g.b.natAbs < f → ChInv n g → StP n g (chI f l u g).1
  | 0, u, g, hf, _ => by omega
  | f + 1, u, g, hf, hi => by
    unfold chI
    by_cases hb : g.b = 0
    · rw [if_pos hb]; exact hb
    · rw [if_neg hb]
      obtain ⟨hi2, hb2, -, -⟩ := ch_step h1 h2 hi hb (l := l) (u := u) rfl
      refine ⟨⟨fun h => absurd h hb, fun _ => ⟨Int.mul_comm _ _, cls_next h1 hi.1 _⟩⟩, ?_⟩
      exact chI_stp h1 h2 l f _ _ (by omega) hi2
theorem chB_stp {n a : Int} (h1 : 1 ≤ n) (h2 : n ≤ 24) (ha : 1 ≤ a) (han : a ≤ n) (hd : n.tmod a = 0) (l : List Int) : ∀ (f : Nat) (b : Int) (u : Nat), 0 ≤ b → ∀ p : M2, p.b = 0 → StP n p (chB f l n a b u).1
  | 0, b, u, hb, p, hp => by simp [chB]; exact hp
  | f + 1, b, u, hb, p, hp => by
    unfold chB
    by_cases hlt : b < a
    · rw [if_pos hlt]
      have hi := ch_start h1 h2 ha han hb hlt hd
      refine ⟨⟨fun _ => ⟨rfl, ha, hb, hlt⟩, fun h => absurd hp h⟩, ?_⟩
      refine stp_append (fun p' hp' => chB_stp h1 h2 ha han hd l f (b + 1) _ (by omega) p' hp') ?_
      exact chI_stp h1 h2 l 30 u _ (by show b.natAbs < 30; omega) hi
    · rw [if_neg hlt]; exact hp
theorem chA_stp {n : Int} (h1 : 1 ≤ n) (h2 : n ≤ 24) (l : List Int) : ∀ (f : Nat) (a : Int) (u : Nat), 1 ≤ a → ∀ p : M2, p.b = 0 → StP n p (chA f l n a u)
  | 0, a, u, ha, p, hp => by simp [chA]; exact hp
  | f + 1, a, u, ha, p, hp => by
    unfold chA
    by_cases hle : a ≤ n
    · rw [if_pos hle]
      by_cases hd : n.tmod a = 0
      · rw [if_pos hd]
        exact stp_append (fun p' hp' => chA_stp h1 h2 l f (a + 1) _ (by omega) p' hp') (chB_stp h1 h2 ha hle hd l 30 0 u (by omega) p hp)
      · rw [if_neg hd]
        exact chA_stp h1 h2 l f (a + 1) u (by omega) p hp
    · rw [if_neg hle]; exact hp
theorem stp_at {n : Int} : ∀ (l : List M2) (p : M2), StP n p l → (∀ i, i < l.length → lnkM n ((p :: l).getD i M2.zero) (l.getD i M2.zero)) ∧ ((p :: l).getD l.length M2.zero).b = 0
  | [], p, h => ⟨fun i hi => by simp at hi, h⟩
  | m :: r, p, h => by
    obtain ⟨h1, h2⟩ := stp_at r m h.2
    refine ⟨fun i hi => ?_, ?_⟩
    · cases i with
      | zero => exact h.1
      | succ i => exact h1 i (by simpa using hi)
    · exact h2
theorem chF_steps {n : Int} (h1 : 1 ≤ n) (h2 : n ≤ 24) (l : List Int) :
    (∀ i, i < (chF l n).length → i ≠ 0 → lnkM n ((chF l n).getD (i - 1) M2.zero) ((chF l n).getD i M2.zero)) ∧ topM ((chF l n).getD 0 M2.zero) ∧ ((chF l n).getD ((chF l n).length - 1) M2.zero).b = 0 ∧ 0 < (chF l n).length ∧ (chF l n).getD 0 M2.zero = ⟨1, 0, 0, n⟩ := by
  have hs := stp_at _ _ (chA_stp h1 h2 l 30 1 0 (by omega) M2.zero rfl)
  have h0 : ∃ r, chF l n = ⟨1, 0, 0, n⟩ :: r := by
    refine ⟨(chF l n).tail, ?_⟩
    unfold chF chA
    rw [if_pos (show (1 : Int) ≤ n from h1), if_pos (by simp)]
    unfold chB
    rw [if_pos (by decide)]
    simp
  obtain ⟨r, hr⟩ := h0
  obtain ⟨h3, h4⟩ := hs
  change ∀ i, i < (chF l n).length → lnkM n ((M2.zero :: chF l n).getD i M2.zero) ((chF l n).getD i M2.zero) at h3
  change ((M2.zero :: chF l n).getD (chF l n).length M2.zero).b = 0 at h4
  have hpos : 0 < (chF l n).length := by rw [hr]; simp
  refine ⟨fun i hi hi0 => ?_, (h3 0 hpos).1 rfl, ?_, hpos, by rw [hr]; rfl⟩
  · have h := h3 i hi
    obtain ⟨j, rfl⟩ : ∃ j, i = j + 1 := ⟨i - 1, by omega⟩
    exact h
  · obtain ⟨j, hj⟩ : ∃ j, (chF l n).length = j + 1 := ⟨(chF l n).length - 1, by omega⟩
    rw [hj] at h4 ⊢
    exact h4
end Go.Proofs.Ytalidpojcpmcbaa
