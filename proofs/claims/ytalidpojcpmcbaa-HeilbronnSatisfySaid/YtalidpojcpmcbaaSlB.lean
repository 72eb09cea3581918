/- Walks of the small functions of sl2 and of its reference: Det, Check, Mul, Inverse. -/
import Derived.Test.YtalidpojcpmcbaaProg
import Derived.Test.YtalidpojcpmcbaaSlA
import Derived.WalkKit
import Derived.WalkSpells
import Derived.WalkLawsBesides
import Derived.Lib.Hide
namespace Go.Proofs.Ytalidpojcpmcbaa
open Go.RowKit


theorem det_bd {m : M2} (hm : m.fits = true) : -2305843009213693952 ≤ m.a * m.d - m.b * m.c ∧ m.a * m.d - m.b * m.c ≤ 2305843009213693952 := by
  obtain ⟨h1, h2, h3, h4⟩ := fitsB_iff.1 hm
  have := mul_in h1 h4
  have := mul_in h2 h3
  omega

end Go.Proofs.Ytalidpojcpmcbaa
