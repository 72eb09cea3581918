/- Walks of the small functions of sl2 and of its reference: in, fits, times, Det, Check, Mul, Inverse. -/
import Derived.Test.YtalidpojcpmcbaaProg
import Derived.Test.YtalidpojcpmcbaaPlA
import Derived.WalkKit
import Derived.WalkSpells
import Derived.WalkLawsBesides
import Derived.Lib.Hide
namespace Go.Proofs.Ytalidpojcpmcbaa
open Go.RowKit

end Go.Proofs.Ytalidpojcpmcbaa
