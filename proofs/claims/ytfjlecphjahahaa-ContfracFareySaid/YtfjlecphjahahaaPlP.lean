/- Plain laws of chains: neighbours, the ends, backwards. No program here. -/
import Derived.Test.YtfjlecphjahahaaCfL
import Derived.Test.YtfjlecphjahahaaCfG
namespace Go.Proofs.Ytfjlecphjahahaa

theorem comF_same : ∀ (x y : List C2) (j : Nat), j < comF x y → x.getD j C2.zero = y.getD j C2.zero
  | [], _, j, h => by simp [comF] at h
  | _ :: _, [], j, h => by simp [comF] at h
  | a :: x, b :: y, j, h => by
    unfold comF at h
    split at h
    · rename_i he
      cases j with
      | zero => simpa using eqC_iff.1 he
      | succ j => simpa using comF_same x y j (by omega)
    · omega
theorem eqC_comm (a b : C2) : eqC a b = eqC b a := by
  by_cases h : a = b
  · rw [h]
  · have h1 : ¬ eqC a b = true := fun e => h (eqC_iff.1 e)
    have h2 : ¬ eqC b a = true := fun e => h (eqC_iff.1 e).symm
    rw [eq_false_of_ne_true h1, eq_false_of_ne_true h2]
theorem comF_comm : ∀ (x y : List C2), comF x y = comF y x
  | [], [] => rfl
  | [], _ :: _ => by simp [comF]
  | _ :: _, [] => by simp [comF]
  | a :: x, b :: y => by simp only [comF, eqC_comm a b, comF_comm x y]
theorem revdrop_len (x : List C2) (s : Nat) : (x.drop s).reverse.length = x.length - s := by simp
theorem revdrop_get (x : List C2) (s j : Nat) (hj : j < x.length - s) : (x.drop s).reverse.getD j C2.zero = x.getD (x.length - 1 - j) C2.zero := by
  simp only [List.getD]
  rw [List.getElem?_reverse (by simpa using hj), List.getElem?_drop, List.length_drop]
  congr 2
  omega
theorem drop_get (y : List C2) (k j : Nat) : (y.drop k).getD j C2.zero = y.getD (k + j) C2.zero := by simp [List.getD]
theorem chain_get (x y : List C2) (s j : Nat) : ((x.drop s).reverse ++ y.drop (s + 1)).getD j C2.zero = if j < x.length - s then x.getD (x.length - 1 - j) C2.zero else y.getD (s + 1 + (j - (x.length - s))) C2.zero := by
  rw [getD_app, revdrop_len]
  by_cases h : j < x.length - s
  · rw [if_pos h, if_pos h, revdrop_get x s j h]
  · rw [if_neg h, if_neg h, drop_get]
theorem chain_len (x y : List C2) (s : Nat) : ((x.drop s).reverse ++ y.drop (s + 1)).length = (x.length - s) + (y.length - (s + 1)) := by simp
theorem cross_anti (a b : C2) : cross a b = -cross b a := by simp only [cross]; omega

/-- What a chain is, when both paths are there. -/
theorem chain_spec {x y : List C2} {a b : C2} (hx : Nb x) (hy : Nb y) (hx0 : 0 < x.length) (hy0 : 0 < y.length) (hxl : x.getD (x.length - 1) C2.zero = a) (hyl : y.getD (y.length - 1) C2.zero = b) (hN : 1 ≤ comF x y) :
    0 < (chainOf x y).length ∧ (chainOf x y).getD 0 C2.zero = a ∧ (chainOf x y).getD ((chainOf x y).length - 1) C2.zero = b ∧ Nb (chainOf x y) ∧ chainOf y x = (chainOf x y).reverse := by
  obtain ⟨s, hs⟩ : ∃ s, comF x y = s + 1 := ⟨comF x y - 1, by omega⟩
  have hle := comF_le x y
  have hxy : x.getD s C2.zero = y.getD s C2.zero := comF_same x y s (by omega)
  have hu : chainOf x y = (x.drop s).reverse ++ y.drop (s + 1) := by unfold chainOf; rw [hs, Nat.add_sub_cancel]
  have hu2 : chainOf y x = (y.drop s).reverse ++ x.drop (s + 1) := by unfold chainOf; rw [comF_comm, hs, Nat.add_sub_cancel]
  rw [hu, hu2]
  have hlen := chain_len x y s
  refine ⟨by omega, ?_, ?_, ⟨fun j hj => ?_, fun j hj1 hj2 => ?_⟩, ?_⟩
  · rw [chain_get, if_pos (by omega), Nat.sub_zero]; exact hxl
  · rw [hlen, chain_get]
    by_cases h : y.length = s + 1
    · rw [if_pos (by omega), ← hyl, show x.length - 1 - (x.length - s + (y.length - (s + 1)) - 1) = s by omega, hxy]
      congr 1; omega
    · rw [if_neg (by omega), ← hyl]
      congr 1; omega
  · rw [hlen] at hj
    rw [chain_get]
    split
    · exact hx.1 _ (by omega)
    · exact hy.1 _ (by omega)
  · rw [hlen] at hj2
    rw [chain_get, chain_get]
    by_cases h1 : j < x.length - s
    · rw [if_pos h1, if_pos (by omega), cross_anti]
      have := hx.2 (x.length - j) (by omega) (by omega)
      rw [show x.length - 1 - j = x.length - j - 1 by omega, show x.length - 1 - (j - 1) = x.length - j by omega]
      omega
    · rw [if_neg h1]
      by_cases h2 : j = x.length - s
      · rw [if_pos (by omega), h2, show x.length - 1 - (x.length - s - 1) = s by omega, hxy, Nat.sub_self, Nat.add_zero]
        have := hy.2 (s + 1) (by omega) (by omega)
        rwa [Nat.add_sub_cancel] at this
      · rw [if_neg (by omega)]
        have := hy.2 (s + 1 + (j - (x.length - s))) (by omega) (by omega)
        rwa [show s + 1 + (j - (x.length - s)) - 1 = s + 1 + (j - 1 - (x.length - s)) by omega] at this
  · have e1 : x.drop s = x.getD s C2.zero :: x.drop (s + 1) := by
      rw [List.drop_eq_getElem_cons (show s < x.length by omega)]; simp [show s < x.length by omega]
    have e2 : y.drop s = y.getD s C2.zero :: y.drop (s + 1) := by
      rw [List.drop_eq_getElem_cons (show s < y.length by omega)]; simp [show s < y.length by omega]
    rw [e1, e2, hxy]
    simp
theorem rd_open {w : World} {v : Value} {l : List C2} (h : RdCusps w v l) (h0 : 0 < l.length) : ∃ b off cap, v = .slice (some ⟨b, off, none⟩) l.length cap ∧ b < w.heap.size ∧
    ∀ j, j < l.length → w.cell? ⟨b, off + j * 2, none⟩ = some (.int .i64 (l.getD j C2.zero).p) ∧ w.cell? ⟨b, off + j * 2 + 1, none⟩ = some (.int .i64 (l.getD j C2.zero).q) := by
  rcases h with ⟨_, _, _, rfl⟩ | ⟨b, off, cap, rfl, hb, -, hc⟩
  · simp at h0
  · exact ⟨b, off, cap, rfl, hb, hc⟩
end Go.Proofs.Ytfjlecphjahahaa
