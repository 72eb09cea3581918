/- Plain definitions: the value of a word, the abelian class, powers. -/
import Derived.Test.YtfjlecphjahahaaPlC
namespace Go.Proofs.Ytfjlecphjahahaa
open Go.RowKit

def M2.timesS (m : M2) : M2 := ⟨m.b, -m.a, m.d, -m.c⟩
def M2.timesT (m : M2) (n : Int) : M2 := ⟨m.a, m.b + m.a * n, m.c, m.d + m.c * n⟩
def valR : Bool → M2 → List Int → Option M2
  | _, m, [] => some m
  | first, m, n :: l => if (((if first then m else m.timesS)).timesT n).fits then valR false ((if first then m else m.timesS).timesT n) l else none
def valF (w : W2) : M2 × Int :=
  if w.exps.length = 0 then (M2.zero, 3) else if 200 < w.exps.length then (M2.zero, 2) else if w.exps.all inB then
    (match valR true M2.one w.exps with | none => (M2.zero, 7) | some m => (if w.neg then m.minus else m, 0)) else (M2.zero, 2)
def sumMod (l : List Int) : Int := (l.map (fun n => n.tmod 12)).sum
def abW (w : W2) : Int := (((9 * ((w.exps.length : Int) - 1) + sumMod w.exps + (if w.neg then 6 else 0)).tmod 12) + 12).tmod 12
def abF (m : M2) : Int × Int := if checkF m = 0 then (abW (facW m), 0) else (0, checkF m)
theorem sumMod_bd : ∀ l : List Int, -(12 * (l.length : Int)) ≤ sumMod l ∧ sumMod l ≤ 12 * l.length
  | [] => by simp [sumMod]
  | n :: l => by
    have h := sumMod_bd l
    have h1 : (n.tmod 12).natAbs < 12 := by rw [Int.natAbs_tmod]; exact Nat.mod_lt _ (by decide)
    simp only [sumMod, List.map_cons, List.sum_cons, List.length_cons] at *
    omega
theorem sumMod_snoc (l : List Int) (n : Int) : sumMod (l ++ [n]) = sumMod l + n.tmod 12 := by simp [sumMod]
def powR : Nat → M2 → M2 → Option M2
  | 0, _, out => some out
  | n + 1, m, out => if (out.times m).fits then powR n m (out.times m) else none
def powF (m : M2) (n : Int) : M2 × Int :=
  if checkF m = 0 then (if -1000 ≤ n ∧ n ≤ 1000 then (match powR n.natAbs (if n < 0 then m.back else m) M2.one with | none => (M2.zero, 7) | some u => (u, 0)) else (M2.zero, 2)) else (M2.zero, checkF m)
theorem back_fits {m : M2} (h : m.fits = true) : m.back.fits = true := by
  obtain ⟨⟨b1, b2⟩, ⟨b3, b4⟩, ⟨b5, b6⟩, b7, b8⟩ := fits_bd h
  exact fitsB_iff.2 ⟨inB_iff.2 ⟨b7, b8⟩, inB_iff.2 (by simp only [M2.back]; omega), inB_iff.2 (by simp only [M2.back]; omega), inB_iff.2 ⟨b1, b2⟩⟩
theorem one_fits : M2.one.fits = true := by decide
theorem mulF_ok {x y : M2} (hx : x.fits = true) (hy : y.fits = true) : mulF x y = if (x.times y).fits then (x.times y, 0) else (M2.zero, 7) := by simp [mulF, hx, hy]
end Go.Proofs.Ytfjlecphjahahaa
