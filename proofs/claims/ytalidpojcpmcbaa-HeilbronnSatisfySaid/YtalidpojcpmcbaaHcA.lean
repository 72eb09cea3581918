/- Walk: awake of the statements. -/
import Derived.Test.YtalidpojcpmcbaaHbY
import Derived.Test.YtalidpojcpmcbaaHbZ
import Derived.Test.YtalidpojcpmcbaaHbC
import Derived.Test.YtalidpojcpmcbaaHbF
import Derived.Test.YtalidpojcpmcbaaHbG
namespace Go.Proofs.Ytalidpojcpmcbaa
open Go Go.RowKit

theorem rdM_alloc (w : World) (l : List M2) (t : TypeId) (n cap : Nat) (hn : n = w.heap.size) (hc : l.length ≤ cap) : RdMats (w.alloc (.cells (cellsM l).toArray t)) (.slice (some ⟨n, 0, none⟩) l.length cap) l := by
  refine .inr ⟨n, 0, cap, rfl, by simp [hn], hc, fun j hj => ?_⟩
  obtain ⟨h1, h2, h3, h4⟩ := cellsM_at l j hj
  refine ⟨?_, ?_, ?_, ?_⟩
  · show World.cell? _ _ = _
    rw [World.cell?_alloc_at _ _ _ _ hn]; simpa using h1
  · show World.cell? _ _ = _
    rw [World.cell?_alloc_at _ _ _ _ hn]; simpa using h2
  · show World.cell? _ _ = _
    rw [World.cell?_alloc_at _ _ _ _ hn]; simpa using h3
  · show World.cell? _ _ = _
    rw [World.cell?_alloc_at _ _ _ _ hn]; simpa using h4
def want44 : List M2 := [⟨1, 0, 0, 2⟩, ⟨1, 0, 1, 2⟩, ⟨2, 0, 0, 1⟩, ⟨2, 1, 0, 1⟩]
def other44 : List M2 := [⟨1, 0, 0, 3⟩, ⟨3, 1, 0, 1⟩, ⟨1, 0, 1, 3⟩, ⟨3, 0, 0, 1⟩, ⟨3, -1, 0, 1⟩, ⟨-1, 0, 1, -3⟩]
theorem mer_ex : merF 2 = want44 := by decide +kernel

set_option maxRecDepth 20000 in
set_option maxHeartbeats 1000000 in
theorem awake44_any (w : World) : Calls Try.prog 11 #[] w fun e w' => e = .returned (.bool true) ∧ Grow w w' := by
  have ME := Lib.hid (fun w => merel_core 2 (by decide) (by decide) want44 (Lib.hid mer_ex) (by decide) w)
  have CR := Lib.hid (fun w => cremona_core 3 (by decide) (by decide) (by decide) (Lib.hid (by decide +kernel)) (Lib.hid (by decide +kernel)) other44 (Lib.hid cr_ex) (by decide) w)
  go_enter Try.func11, Try.ntmps11
  go_wp2_with fail
  go_at_call 13
  with_reducible refine (ME.out _).mono ?_
  rintro e w1 ⟨v1, rfl, ho1, hb1⟩
  go_wp2_with fail
  go_at_call 16
  with_reducible refine (CR.out _).mono ?_
  rintro e w2 ⟨v2, rfl, ho2, hb2⟩
  have HR1 := Lib.hid (ho1.rd.grow hb2)
  have HR2 := Lib.hid ho2.rd
  have HG := Lib.hid (hb1.trans hb2)
  clear ho1 ho2 hb1 hb2 ME CR
  go_wp2_with fail
  have HR3 : Hid (RdMats ((w2.alloc (.cells (cellsM want44).toArray 39)).alloc (.cells (cellsM other44).toArray 39)) (.slice (some ⟨w2.heap.size, 0, none⟩) 4 4) want44) := Lib.hid ((rdM_alloc w2 want44 39 _ 4 rfl (by decide)).grow ((Grow.refl _).alloc _))
  have HR4 : Hid (RdMats ((w2.alloc (.cells (cellsM want44).toArray 39)).alloc (.cells (cellsM other44).toArray 39)) (.slice (some ⟨w2.heap.size + 1, 0, none⟩) 6 6) other44) := Lib.hid (rdM_alloc _ other44 39 _ 6 (by simp) (by decide))
  have HG2 : Hid (Grow w2 ((w2.alloc (.cells (cellsM want44).toArray 39)).alloc (.cells (cellsM other44).toArray 39))) := Lib.hid (((Grow.refl _).alloc _).alloc _)
  simp only [want44, other44, cellsM] at HR3 HR4 HG2
  generalize hW : World.alloc (World.alloc w2 _) _ = W at *
  clear hW
  have HR5 := Lib.hid (HR1.out.grow HG2.out)
  have HR6 := Lib.hid (HR2.out.grow HG2.out)
  have HG3 := Lib.hid (HG.out.trans HG2.out)
  clear HR1 HR2 HG HG2
  go_at_call 15
  refine (sameM_same want44 _ _ (by decide) _ HR5.out HR3.out).mono ?_
  rintro e w3 ⟨rfl, hb3⟩
  have HG4 := Lib.hid (HG3.out.trans hb3)
  have HR7 := Lib.hid (HR3.out.grow hb3)
  have HR8 := Lib.hid (HR4.out.grow hb3)
  have HR9 := Lib.hid (HR6.out.grow hb3)
  clear hb3 HR3 HR4 HR5 HR6 HG3
  go_wp2_with fail
  go_at_call 15
  refine (sameM_same other44 _ _ (by decide) _ HR9.out HR8.out).mono ?_
  rintro e w4 ⟨rfl, hb4⟩
  have HG5 := Lib.hid (HG4.out.trans hb4)
  have HR1 := Lib.hid (HR7.out.grow hb4)
  clear hb4 HR7 HR8 HR9 HG4
  go_wp2_with fail
  go_at_call 18
  refine (satisfies_any 2 want44 _ (by decide) true (satB_iff.1 sat_ex |> fun h => ⟨fun _ => h, fun _ => rfl⟩) _ HR1.out).mono ?_
  rintro e w5 ⟨rfl, hb5⟩
  go_wp2_with fail
  go_ret
  exact ⟨rfl, HG5.out.trans hb5⟩
end Go.Proofs.Ytalidpojcpmcbaa
