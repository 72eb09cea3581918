/-
  No cell of these rows narrows 'for every input' (looked for: loops, veiled, ifaces, maps, wideKeys, modest, calm, conditions, laid).
  DERIVED. THE GIVEN ROWS OF THIS SEAT. 8 by the template 'for every input the law returns true; each argument reads behind the call as it read before'; 0 by the template 'total and deterministic' (their statements: YtalidpojcpmcbaaTotals.lean).
  GIVEN WITH THE SEED: the statements are not yours to turn. If you find one false, say at which input.
  Laid BY PROGRAM, IN A SANDBOX (cutbox-rows.mjs): the forced cells as the released guide's own fill.sh prints them over the translation 340359da0162ea46… (all of the seat's roots in one cut). By AI agents, Wed Nov 11 2026. No macro, syntax, notation, axiom, sorry.
-/
import Derived.Test.YtalidpojcpmcbaaChecked
import GoSem.Claim
import GoSem.ClaimJoined
import GoSem.ClaimMapViews
import Derived.JoinedTies
import Derived.KernelRfl
namespace Go.Proofs.Ytalidpojcpmcbaa
/- THE CELL 'sum', in the pinned program and in every row, IS THE sha256 OF THE DUMP (.gsa) THAT YtalidpojcpmcbaaProg.lean LOADS. Nothing in Lean hashes anything: it is a label: what it is worth is what the hold of that sum in a sandbox is worth. -/
noncomputable def Try.pinned : Pinned := { name := "ytalidpojcpmcbaa", sum := "340359da0162ea465a15c923e16cf5895e4eab51c141aa5f9e9e0104e2ae9057", checked := Try.checked }
namespace Rows
def none {H : Type} : Left H := { results := [], args := [] }

/-- 'halfplanelaw44.HeilbronnMerel': WHATEVER THE INPUT: true; the input reads as it did. -/
def heilbronnMerelSpec : ChangeSpec := { name := "heilbronnMerel", fn := fun _ => fun
  | [d] => { results := [.lit (.bool true)], args := [d] }
  | _ => none }
def heilbronnMerelRow : OpenClaim := { program := "ytalidpojcpmcbaa", sum := "340359da0162ea465a15c923e16cf5895e4eab51c141aa5f9e9e0104e2ae9057", func := "halfplane/halfplanelaw44.HeilbronnMerel", spec := "heilbronnMerel", plainKeys := false, apart := false }
def HeilbronnMerelSaid : Prop := heilbronnMerelRow.holds Try.pinned (OpenSpec.ofChange heilbronnMerelSpec)

/-- ITS FALSE NEIGHBOUR: 'it returns false'. Refute it at one input. -/
def heilbronnMerelWrong : ChangeSpec := { name := "heilbronnMerel", fn := fun _ => fun
  | [d] => { results := [.lit (.bool false)], args := [d] }
  | _ => none }
def HeilbronnMerelWrongFalsely : Prop := heilbronnMerelRow.holds Try.pinned (OpenSpec.ofChange heilbronnMerelWrong)

/-- 'halfplanelaw44.HeilbronnCremona': WHATEVER THE INPUT: true; the input reads as it did. -/
def heilbronnCremonaSpec : ChangeSpec := { name := "heilbronnCremona", fn := fun _ => fun
  | [d] => { results := [.lit (.bool true)], args := [d] }
  | _ => none }
def heilbronnCremonaRow : OpenClaim := { program := "ytalidpojcpmcbaa", sum := "340359da0162ea465a15c923e16cf5895e4eab51c141aa5f9e9e0104e2ae9057", func := "halfplane/halfplanelaw44.HeilbronnCremona", spec := "heilbronnCremona", plainKeys := false, apart := false }
def HeilbronnCremonaSaid : Prop := heilbronnCremonaRow.holds Try.pinned (OpenSpec.ofChange heilbronnCremonaSpec)

/-- ITS FALSE NEIGHBOUR: 'it returns false'. Refute it at one input. -/
def heilbronnCremonaWrong : ChangeSpec := { name := "heilbronnCremona", fn := fun _ => fun
  | [d] => { results := [.lit (.bool false)], args := [d] }
  | _ => none }
def HeilbronnCremonaWrongFalsely : Prop := heilbronnCremonaRow.holds Try.pinned (OpenSpec.ofChange heilbronnCremonaWrong)

/-- 'halfplanelaw44.HeilbronnConditions': WHATEVER THE INPUT: true; the input reads as it did. -/
def heilbronnConditionsSpec : ChangeSpec := { name := "heilbronnConditions", fn := fun _ => fun
  | [d1, d2] => { results := [.lit (.bool true)], args := [d1, d2] }
  | _ => none }
def heilbronnConditionsRow : OpenClaim := { program := "ytalidpojcpmcbaa", sum := "340359da0162ea465a15c923e16cf5895e4eab51c141aa5f9e9e0104e2ae9057", func := "halfplane/halfplanelaw44.HeilbronnConditions", spec := "heilbronnConditions", plainKeys := false, apart := false }
def HeilbronnConditionsSaid : Prop := heilbronnConditionsRow.holds Try.pinned (OpenSpec.ofChange heilbronnConditionsSpec)

/-- ITS FALSE NEIGHBOUR: 'it returns false'. Refute it at one input. -/
def heilbronnConditionsWrong : ChangeSpec := { name := "heilbronnConditions", fn := fun _ => fun
  | [d1, d2] => { results := [.lit (.bool false)], args := [d1, d2] }
  | _ => none }
def HeilbronnConditionsWrongFalsely : Prop := heilbronnConditionsRow.holds Try.pinned (OpenSpec.ofChange heilbronnConditionsWrong)

/-- 'halfplanelaw44.HeilbronnChains': WHATEVER THE INPUT: true; the input reads as it did. -/
def heilbronnChainsSpec : ChangeSpec := { name := "heilbronnChains", fn := fun _ => fun
  | [d1, d2] => { results := [.lit (.bool true)], args := [d1, d2] }
  | _ => none }
def heilbronnChainsRow : OpenClaim := { program := "ytalidpojcpmcbaa", sum := "340359da0162ea465a15c923e16cf5895e4eab51c141aa5f9e9e0104e2ae9057", func := "halfplane/halfplanelaw44.HeilbronnChains", spec := "heilbronnChains", unfollowed := true, recurses := true, plainKeys := false, apart := false }
def HeilbronnChainsSaid : Prop := heilbronnChainsRow.holds Try.pinned (OpenSpec.ofChange heilbronnChainsSpec)

/-- ITS FALSE NEIGHBOUR: 'it returns false'. Refute it at one input. -/
def heilbronnChainsWrong : ChangeSpec := { name := "heilbronnChains", fn := fun _ => fun
  | [d1, d2] => { results := [.lit (.bool false)], args := [d1, d2] }
  | _ => none }
def HeilbronnChainsWrongFalsely : Prop := heilbronnChainsRow.holds Try.pinned (OpenSpec.ofChange heilbronnChainsWrong)

/-- 'halfplanelaw44.HeilbronnSatisfy': WHATEVER THE INPUT: true; the input reads as it did. -/
def heilbronnSatisfySpec : ChangeSpec := { name := "heilbronnSatisfy", fn := fun _ => fun
  | [d1, d2] => { results := [.lit (.bool true)], args := [d1, d2] }
  | _ => none }
def heilbronnSatisfyRow : OpenClaim := { program := "ytalidpojcpmcbaa", sum := "340359da0162ea465a15c923e16cf5895e4eab51c141aa5f9e9e0104e2ae9057", func := "halfplane/halfplanelaw44.HeilbronnSatisfy", spec := "heilbronnSatisfy", unfollowed := true, recurses := true, plainKeys := false, apart := false }
def HeilbronnSatisfySaid : Prop := heilbronnSatisfyRow.holds Try.pinned (OpenSpec.ofChange heilbronnSatisfySpec)

/-- ITS FALSE NEIGHBOUR: 'it returns false'. Refute it at one input. -/
def heilbronnSatisfyWrong : ChangeSpec := { name := "heilbronnSatisfy", fn := fun _ => fun
  | [d1, d2] => { results := [.lit (.bool false)], args := [d1, d2] }
  | _ => none }
def HeilbronnSatisfyWrongFalsely : Prop := heilbronnSatisfyRow.holds Try.pinned (OpenSpec.ofChange heilbronnSatisfyWrong)

/-- 'halfplanelaw44.HeilbronnLess': WHATEVER THE INPUT: true; the input reads as it did. -/
def heilbronnLessSpec : ChangeSpec := { name := "heilbronnLess", fn := fun _ => fun
  | [d1, d2, d3] => { results := [.lit (.bool true)], args := [d1, d2, d3] }
  | _ => none }
def heilbronnLessRow : OpenClaim := { program := "ytalidpojcpmcbaa", sum := "340359da0162ea465a15c923e16cf5895e4eab51c141aa5f9e9e0104e2ae9057", func := "halfplane/halfplanelaw44.HeilbronnLess", spec := "heilbronnLess", unfollowed := true, recurses := true, plainKeys := false, apart := false }
def HeilbronnLessSaid : Prop := heilbronnLessRow.holds Try.pinned (OpenSpec.ofChange heilbronnLessSpec)

/-- ITS FALSE NEIGHBOUR: 'it returns false'. Refute it at one input. -/
def heilbronnLessWrong : ChangeSpec := { name := "heilbronnLess", fn := fun _ => fun
  | [d1, d2, d3] => { results := [.lit (.bool false)], args := [d1, d2, d3] }
  | _ => none }
def HeilbronnLessWrongFalsely : Prop := heilbronnLessRow.holds Try.pinned (OpenSpec.ofChange heilbronnLessWrong)

/-- 'halfplanelaw44.HeilbronnTurns': WHATEVER THE INPUT: true; the input reads as it did. -/
def heilbronnTurnsSpec : ChangeSpec := { name := "heilbronnTurns", fn := fun _ => fun
  | [d1, d2, d3] => { results := [.lit (.bool true)], args := [d1, d2, d3] }
  | _ => none }
def heilbronnTurnsRow : OpenClaim := { program := "ytalidpojcpmcbaa", sum := "340359da0162ea465a15c923e16cf5895e4eab51c141aa5f9e9e0104e2ae9057", func := "halfplane/halfplanelaw44.HeilbronnTurns", spec := "heilbronnTurns", unfollowed := true, recurses := true, plainKeys := false, apart := false }
def HeilbronnTurnsSaid : Prop := heilbronnTurnsRow.holds Try.pinned (OpenSpec.ofChange heilbronnTurnsSpec)

/-- ITS FALSE NEIGHBOUR: 'it returns false'. Refute it at one input. -/
def heilbronnTurnsWrong : ChangeSpec := { name := "heilbronnTurns", fn := fun _ => fun
  | [d1, d2, d3] => { results := [.lit (.bool false)], args := [d1, d2, d3] }
  | _ => none }
def HeilbronnTurnsWrongFalsely : Prop := heilbronnTurnsRow.holds Try.pinned (OpenSpec.ofChange heilbronnTurnsWrong)

/-- 'halfplanelaw44.HeilbronnSteps': WHATEVER THE INPUT: true; the input reads as it did. -/
def heilbronnStepsSpec : ChangeSpec := { name := "heilbronnSteps", fn := fun _ => fun
  | [d1, d2] => { results := [.lit (.bool true)], args := [d1, d2] }
  | _ => none }
def heilbronnStepsRow : OpenClaim := { program := "ytalidpojcpmcbaa", sum := "340359da0162ea465a15c923e16cf5895e4eab51c141aa5f9e9e0104e2ae9057", func := "halfplane/halfplanelaw44.HeilbronnSteps", spec := "heilbronnSteps", unfollowed := true, recurses := true, plainKeys := false, apart := false }
def HeilbronnStepsSaid : Prop := heilbronnStepsRow.holds Try.pinned (OpenSpec.ofChange heilbronnStepsSpec)

/-- ITS FALSE NEIGHBOUR: 'it returns false'. Refute it at one input. -/
def heilbronnStepsWrong : ChangeSpec := { name := "heilbronnSteps", fn := fun _ => fun
  | [d1, d2] => { results := [.lit (.bool false)], args := [d1, d2] }
  | _ => none }
def HeilbronnStepsWrongFalsely : Prop := heilbronnStepsRow.holds Try.pinned (OpenSpec.ofChange heilbronnStepsWrong)

/- THE SECOND FORM. 'bulk': how many values and letters a reading holds, each counted each time it is reached (what is shared counts as often as it is met; a slice's spare places count too). A statement '..UptoSaid' is the law's where the arguments, and the package variables that the reading takes, are together of bulk at most 1048576: NARROWER than '..Said'. Prove '..Said' where nothing that the law and all that it calls make is longer than what came in: it says more and counts as full. Else prove '..UptoSaid'. A law counts once. -/
mutual
def uptoBulk {H : Type} : DataW H → Nat
  | .lit (.string bytes) => bytes.length + 1
  | .lit _ => 1
  | .nil => 1
  | .ptr d => uptoBulk d + 1
  | .slice elems spare => uptoBulkAll elems + uptoBulkAll spare + 1
  | .agg parts => uptoBulkAll parts + 1
  | .iface _ d => uptoBulk d + 1
  | .map entries => uptoBulkEntries entries + 1
  | .held _ => 1
def uptoBulkAll {H : Type} : List (DataW H) → Nat
  | [] => 0
  | d :: r => uptoBulk d + uptoBulkAll r
def uptoBulkEntries {H : Type} : List (Lit × DataW H) → Nat
  | [] => 0
  | x :: r => uptoBulkEntry x + uptoBulkEntries r
def uptoBulkEntry {H : Type} : Lit × DataW H → Nat
  | (.string bytes, d) => bytes.length + uptoBulk d + 1
  | (_, d) => uptoBulk d + 1
 end
def uptoSmall : (H : Type) → List (DataW H) → Bool := fun _ ds => decide (uptoBulkAll ds ≤ 1048576)
def OpenSpec.upto (s : _root_.Go.ChangeSpec) : _root_.Go.OpenSpec := { _root_.Go.OpenSpec.ofChange s with cond := some uptoSmall }

/-- 'halfplanelaw44.HeilbronnMerel', WHERE WHAT IT READS IS OF BULK AT MOST 1048576: true; the input reads as it did. -/
def heilbronnMerelUptoRow : OpenClaim := { program := "ytalidpojcpmcbaa", sum := "340359da0162ea465a15c923e16cf5895e4eab51c141aa5f9e9e0104e2ae9057", func := "halfplane/halfplanelaw44.HeilbronnMerel", spec := "heilbronnMerel", plainKeys := false, apart := false, narrowed := true }
def HeilbronnMerelUptoSaid : Prop := heilbronnMerelUptoRow.holds Try.pinned (OpenSpec.upto heilbronnMerelSpec)

/-- 'halfplanelaw44.HeilbronnCremona', WHERE WHAT IT READS IS OF BULK AT MOST 1048576: true; the input reads as it did. -/
def heilbronnCremonaUptoRow : OpenClaim := { program := "ytalidpojcpmcbaa", sum := "340359da0162ea465a15c923e16cf5895e4eab51c141aa5f9e9e0104e2ae9057", func := "halfplane/halfplanelaw44.HeilbronnCremona", spec := "heilbronnCremona", plainKeys := false, apart := false, narrowed := true }
def HeilbronnCremonaUptoSaid : Prop := heilbronnCremonaUptoRow.holds Try.pinned (OpenSpec.upto heilbronnCremonaSpec)

/-- 'halfplanelaw44.HeilbronnConditions', WHERE WHAT IT READS IS OF BULK AT MOST 1048576: true; the input reads as it did. -/
def heilbronnConditionsUptoRow : OpenClaim := { program := "ytalidpojcpmcbaa", sum := "340359da0162ea465a15c923e16cf5895e4eab51c141aa5f9e9e0104e2ae9057", func := "halfplane/halfplanelaw44.HeilbronnConditions", spec := "heilbronnConditions", plainKeys := false, apart := false, narrowed := true }
def HeilbronnConditionsUptoSaid : Prop := heilbronnConditionsUptoRow.holds Try.pinned (OpenSpec.upto heilbronnConditionsSpec)

/-- 'halfplanelaw44.HeilbronnChains', WHERE WHAT IT READS IS OF BULK AT MOST 1048576: true; the input reads as it did. -/
def heilbronnChainsUptoRow : OpenClaim := { program := "ytalidpojcpmcbaa", sum := "340359da0162ea465a15c923e16cf5895e4eab51c141aa5f9e9e0104e2ae9057", func := "halfplane/halfplanelaw44.HeilbronnChains", spec := "heilbronnChains", unfollowed := true, recurses := true, plainKeys := false, apart := false, narrowed := true }
def HeilbronnChainsUptoSaid : Prop := heilbronnChainsUptoRow.holds Try.pinned (OpenSpec.upto heilbronnChainsSpec)

/-- 'halfplanelaw44.HeilbronnSatisfy', WHERE WHAT IT READS IS OF BULK AT MOST 1048576: true; the input reads as it did. -/
def heilbronnSatisfyUptoRow : OpenClaim := { program := "ytalidpojcpmcbaa", sum := "340359da0162ea465a15c923e16cf5895e4eab51c141aa5f9e9e0104e2ae9057", func := "halfplane/halfplanelaw44.HeilbronnSatisfy", spec := "heilbronnSatisfy", unfollowed := true, recurses := true, plainKeys := false, apart := false, narrowed := true }
def HeilbronnSatisfyUptoSaid : Prop := heilbronnSatisfyUptoRow.holds Try.pinned (OpenSpec.upto heilbronnSatisfySpec)

/-- 'halfplanelaw44.HeilbronnLess', WHERE WHAT IT READS IS OF BULK AT MOST 1048576: true; the input reads as it did. -/
def heilbronnLessUptoRow : OpenClaim := { program := "ytalidpojcpmcbaa", sum := "340359da0162ea465a15c923e16cf5895e4eab51c141aa5f9e9e0104e2ae9057", func := "halfplane/halfplanelaw44.HeilbronnLess", spec := "heilbronnLess", unfollowed := true, recurses := true, plainKeys := false, apart := false, narrowed := true }
def HeilbronnLessUptoSaid : Prop := heilbronnLessUptoRow.holds Try.pinned (OpenSpec.upto heilbronnLessSpec)

/-- 'halfplanelaw44.HeilbronnTurns', WHERE WHAT IT READS IS OF BULK AT MOST 1048576: true; the input reads as it did. -/
def heilbronnTurnsUptoRow : OpenClaim := { program := "ytalidpojcpmcbaa", sum := "340359da0162ea465a15c923e16cf5895e4eab51c141aa5f9e9e0104e2ae9057", func := "halfplane/halfplanelaw44.HeilbronnTurns", spec := "heilbronnTurns", unfollowed := true, recurses := true, plainKeys := false, apart := false, narrowed := true }
def HeilbronnTurnsUptoSaid : Prop := heilbronnTurnsUptoRow.holds Try.pinned (OpenSpec.upto heilbronnTurnsSpec)

/-- 'halfplanelaw44.HeilbronnSteps', WHERE WHAT IT READS IS OF BULK AT MOST 1048576: true; the input reads as it did. -/
def heilbronnStepsUptoRow : OpenClaim := { program := "ytalidpojcpmcbaa", sum := "340359da0162ea465a15c923e16cf5895e4eab51c141aa5f9e9e0104e2ae9057", func := "halfplane/halfplanelaw44.HeilbronnSteps", spec := "heilbronnSteps", unfollowed := true, recurses := true, plainKeys := false, apart := false, narrowed := true }
def HeilbronnStepsUptoSaid : Prop := heilbronnStepsUptoRow.holds Try.pinned (OpenSpec.upto heilbronnStepsSpec)

end Rows
end Go.Proofs.Ytalidpojcpmcbaa
