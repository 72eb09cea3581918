/-
  No cell of these rows narrows 'for every input' (looked for: loops, veiled, ifaces, maps, wideKeys, modest, calm, conditions, laid).
  DERIVED. THE GIVEN ROWS OF THIS SEAT. 2 by the template 'for every input the law returns true; each argument reads behind the call as it read before'; 0 by the template 'total and deterministic' (their statements: YtbpkfcohbefphaaGreatTotals.lean).
  GIVEN WITH THE SEED: the statements are not yours to turn. If you find one false, say at which input.
  Laid BY PROGRAM, IN A SANDBOX (cutbox-rows.mjs): the forced cells as the released guide's own fill.sh prints them over the translation 12ef3f7f285aedcf… (all of the seat's roots in one cut). By AI agents, Wed Nov 11 2026. No macro, syntax, notation, axiom, sorry.
-/
import Derived.Test.YtbpkfcohbefphaaGreatChecked
import GoSem.Claim
import GoSem.ClaimJoined
import GoSem.ClaimMapViews
import Derived.JoinedTies
import Derived.KernelRfl
namespace Go.Proofs.YtbpkfcohbefphaaGreat
/- THE CELL 'sum', in the pinned program and in every row, IS THE sha256 OF THE DUMP (.gsa) THAT YtbpkfcohbefphaaGreatProg.lean LOADS. Nothing in Lean hashes anything: it is a label: what it is worth is what the hold of that sum in a sandbox is worth. -/
noncomputable def Tryz.pinned : Pinned := { name := "ytbpkfcohbefphaagreat", sum := "12ef3f7f285aedcfd36572ddf999b2f505e6f37d77d3dbc992e0099740fd1d33", checked := Tryz.checked }
namespace Rows
def none {H : Type} : Left H := { results := [], args := [] }

/-- 'halfplanetop.TopThreeSquares': WHATEVER THE INPUT: true; the input reads as it did. -/
def topThreeSquaresSpec : ChangeSpec := { name := "topThreeSquares", fn := fun _ => fun
  | [d] => { results := [.lit (.bool true)], args := [d] }
  | _ => none }
def topThreeSquaresRow : OpenClaim := { program := "ytbpkfcohbefphaagreat", sum := "12ef3f7f285aedcfd36572ddf999b2f505e6f37d77d3dbc992e0099740fd1d33", func := "halfplane/halfplanetop.TopThreeSquares", spec := "topThreeSquares", unfollowed := true, recurses := true, named := ["math/bits.overflowError"], apart := false }
def TopThreeSquaresSaid : Prop := topThreeSquaresRow.holds Tryz.pinned (OpenSpec.ofChange topThreeSquaresSpec)

/-- ITS FALSE NEIGHBOUR: 'it returns false'. Refute it at one input. -/
def topThreeSquaresWrong : ChangeSpec := { name := "topThreeSquares", fn := fun _ => fun
  | [d] => { results := [.lit (.bool false)], args := [d] }
  | _ => none }
def TopThreeSquaresWrongFalsely : Prop := topThreeSquaresRow.holds Tryz.pinned (OpenSpec.ofChange topThreeSquaresWrong)

/-- 'halfplanetop.TopValence': WHATEVER THE INPUT: true; the input reads as it did. -/
def topValenceSpec : ChangeSpec := { name := "topValence", fn := fun _ => fun
  | [d] => { results := [.lit (.bool true)], args := [d] }
  | _ => none }
def topValenceRow : OpenClaim := { program := "ytbpkfcohbefphaagreat", sum := "12ef3f7f285aedcfd36572ddf999b2f505e6f37d77d3dbc992e0099740fd1d33", func := "halfplane/halfplanetop.TopValence", spec := "topValence", unfollowed := true, recurses := true, named := ["math/bits.overflowError"], apart := false }
def TopValenceSaid : Prop := topValenceRow.holds Tryz.pinned (OpenSpec.ofChange topValenceSpec)

/-- ITS FALSE NEIGHBOUR: 'it returns false'. Refute it at one input. -/
def topValenceWrong : ChangeSpec := { name := "topValence", fn := fun _ => fun
  | [d] => { results := [.lit (.bool false)], args := [d] }
  | _ => none }
def TopValenceWrongFalsely : Prop := topValenceRow.holds Tryz.pinned (OpenSpec.ofChange topValenceWrong)

/- THE SECOND FORM. 'bulk': how many values and letters a reading holds, each counted each time it is reached (what is shared counts as often as it is met; a slice's spare places count too). A statement '..UptoSaid' is the law's where the arguments, and the package variables that the reading takes, are together of bulk at most 1048576: NARROWER than '..Said'. Prove '..Said' where nothing that the law and all that it calls make is longer than what came in: it says more and counts as full. Else prove '..UptoSaid'. A law counts once. -/
mutual
def uptoBulk {H : Type} : DataW H → Nat
  | .lit (.string bytes) => bytes.length + 1
  | .lit _ => 1
  | .nil => 1
  | .ptr d => uptoBulk d + 1
  | .slice elems spare => uptoBulkAll elems + uptoBulkAll spare + 1
  | .agg parts => uptoBulkAll parts + 1
  | .iface _ d => uptoBulk d + 1
  | .map entries => uptoBulkEntries entries + 1
  | .held _ => 1
def uptoBulkAll {H : Type} : List (DataW H) → Nat
  | [] => 0
  | d :: r => uptoBulk d + uptoBulkAll r
def uptoBulkEntries {H : Type} : List (Lit × DataW H) → Nat
  | [] => 0
  | x :: r => uptoBulkEntry x + uptoBulkEntries r
def uptoBulkEntry {H : Type} : Lit × DataW H → Nat
  | (.string bytes, d) => bytes.length + uptoBulk d + 1
  | (_, d) => uptoBulk d + 1
 end
def uptoSmall : (H : Type) → List (DataW H) → Bool := fun _ ds => decide (uptoBulkAll ds ≤ 1048576)
def OpenSpec.upto (s : _root_.Go.ChangeSpec) : _root_.Go.OpenSpec := { _root_.Go.OpenSpec.ofChange s with cond := some uptoSmall }

/-- 'halfplanetop.TopThreeSquares', WHERE WHAT IT READS IS OF BULK AT MOST 1048576: true; the input reads as it did. -/
def topThreeSquaresUptoRow : OpenClaim := { program := "ytbpkfcohbefphaagreat", sum := "12ef3f7f285aedcfd36572ddf999b2f505e6f37d77d3dbc992e0099740fd1d33", func := "halfplane/halfplanetop.TopThreeSquares", spec := "topThreeSquares", unfollowed := true, recurses := true, named := ["math/bits.overflowError"], apart := false, narrowed := true }
def TopThreeSquaresUptoSaid : Prop := topThreeSquaresUptoRow.holds Tryz.pinned (OpenSpec.upto topThreeSquaresSpec)

/-- 'halfplanetop.TopValence', WHERE WHAT IT READS IS OF BULK AT MOST 1048576: true; the input reads as it did. -/
def topValenceUptoRow : OpenClaim := { program := "ytbpkfcohbefphaagreat", sum := "12ef3f7f285aedcfd36572ddf999b2f505e6f37d77d3dbc992e0099740fd1d33", func := "halfplane/halfplanetop.TopValence", spec := "topValence", unfollowed := true, recurses := true, named := ["math/bits.overflowError"], apart := false, narrowed := true }
def TopValenceUptoSaid : Prop := topValenceUptoRow.holds Tryz.pinned (OpenSpec.upto topValenceSpec)

end Rows
end Go.Proofs.YtbpkfcohbefphaaGreat
