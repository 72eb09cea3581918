/-
  No cell of these rows narrows 'for every input' (looked for: loops, veiled, ifaces, maps, wideKeys, modest, calm, conditions, laid).
  DERIVED. THE GIVEN ROWS OF THIS SEAT. 9 by the template 'for every input the law returns true; each argument reads behind the call as it read before'; 0 by the template 'total and deterministic' (their statements: YtcgiancmponmgaaTotals.lean).
  GIVEN WITH THE SEED: the statements are not yours to turn. If you find one false, say at which input.
  Laid BY PROGRAM, IN A SANDBOX (cutbox-rows.mjs): the forced cells as the released guide's own fill.sh prints them over the translation ea192bbbe3c03935… (all of the seat's roots in one cut). By AI agents, Wed Nov 11 2026. No macro, syntax, notation, axiom, sorry.
-/
import Derived.Test.YtcgiancmponmgaaChecked
import GoSem.Claim
import GoSem.ClaimJoined
import GoSem.ClaimMapViews
import Derived.JoinedTies
import Derived.KernelRfl
namespace Go.Proofs.Ytcgiancmponmgaa
/- THE CELL 'sum', in the pinned program and in every row, IS THE sha256 OF THE DUMP (.gsa) THAT YtcgiancmponmgaaProg.lean LOADS. Nothing in Lean hashes anything: it is a label: what it is worth is what the hold of that sum in a sandbox is worth. -/
noncomputable def Try.pinned : Pinned := { name := "ytcgiancmponmgaa", sum := "ea192bbbe3c039352723901de7d6f1b7764e4ebb0da0646f69131f6329d9579f", checked := Try.checked }
namespace Rows
def none {H : Type} : Left H := { results := [], args := [] }

/-- 'halfplanelaw21.ProjlineNormals': WHATEVER THE INPUT: true; the input reads as it did. -/
def projlineNormalsSpec : ChangeSpec := { name := "projlineNormals", fn := fun _ => fun
  | [d1, d2, d3] => { results := [.lit (.bool true)], args := [d1, d2, d3] }
  | _ => none }
def projlineNormalsRow : OpenClaim := { program := "ytcgiancmponmgaa", sum := "ea192bbbe3c039352723901de7d6f1b7764e4ebb0da0646f69131f6329d9579f", func := "halfplane/halfplanelaw21.ProjlineNormals", spec := "projlineNormals", apart := false }
def ProjlineNormalsSaid : Prop := projlineNormalsRow.holds Try.pinned (OpenSpec.ofChange projlineNormalsSpec)

/-- ITS FALSE NEIGHBOUR: 'it returns false'. Refute it at one input. -/
def projlineNormalsWrong : ChangeSpec := { name := "projlineNormals", fn := fun _ => fun
  | [d1, d2, d3] => { results := [.lit (.bool false)], args := [d1, d2, d3] }
  | _ => none }
def ProjlineNormalsWrongFalsely : Prop := projlineNormalsRow.holds Try.pinned (OpenSpec.ofChange projlineNormalsWrong)

/-- 'halfplanelaw21.ProjlineUnits': WHATEVER THE INPUT: true; the input reads as it did. -/
def projlineUnitsSpec : ChangeSpec := { name := "projlineUnits", fn := fun _ => fun
  | [d1, d2, d3] => { results := [.lit (.bool true)], args := [d1, d2, d3] }
  | _ => none }
def projlineUnitsRow : OpenClaim := { program := "ytcgiancmponmgaa", sum := "ea192bbbe3c039352723901de7d6f1b7764e4ebb0da0646f69131f6329d9579f", func := "halfplane/halfplanelaw21.ProjlineUnits", spec := "projlineUnits", apart := false }
def ProjlineUnitsSaid : Prop := projlineUnitsRow.holds Try.pinned (OpenSpec.ofChange projlineUnitsSpec)

/-- ITS FALSE NEIGHBOUR: 'it returns false'. Refute it at one input. -/
def projlineUnitsWrong : ChangeSpec := { name := "projlineUnits", fn := fun _ => fun
  | [d1, d2, d3] => { results := [.lit (.bool false)], args := [d1, d2, d3] }
  | _ => none }
def ProjlineUnitsWrongFalsely : Prop := projlineUnitsRow.holds Try.pinned (OpenSpec.ofChange projlineUnitsWrong)

/-- 'halfplanelaw21.ProjlineLists': WHATEVER THE INPUT: true; the input reads as it did. -/
def projlineListsSpec : ChangeSpec := { name := "projlineLists", fn := fun _ => fun
  | [d] => { results := [.lit (.bool true)], args := [d] }
  | _ => none }
def projlineListsRow : OpenClaim := { program := "ytcgiancmponmgaa", sum := "ea192bbbe3c039352723901de7d6f1b7764e4ebb0da0646f69131f6329d9579f", func := "halfplane/halfplanelaw21.ProjlineLists", spec := "projlineLists", unfollowed := true, recurses := true, apart := false }
def ProjlineListsSaid : Prop := projlineListsRow.holds Try.pinned (OpenSpec.ofChange projlineListsSpec)

/-- ITS FALSE NEIGHBOUR: 'it returns false'. Refute it at one input. -/
def projlineListsWrong : ChangeSpec := { name := "projlineLists", fn := fun _ => fun
  | [d] => { results := [.lit (.bool false)], args := [d] }
  | _ => none }
def ProjlineListsWrongFalsely : Prop := projlineListsRow.holds Try.pinned (OpenSpec.ofChange projlineListsWrong)

/-- 'halfplanelaw21.ProjlineIndexes': WHATEVER THE INPUT: true; the input reads as it did. -/
def projlineIndexesSpec : ChangeSpec := { name := "projlineIndexes", fn := fun _ => fun
  | [d1, d2, d3] => { results := [.lit (.bool true)], args := [d1, d2, d3] }
  | _ => none }
def projlineIndexesRow : OpenClaim := { program := "ytcgiancmponmgaa", sum := "ea192bbbe3c039352723901de7d6f1b7764e4ebb0da0646f69131f6329d9579f", func := "halfplane/halfplanelaw21.ProjlineIndexes", spec := "projlineIndexes", unfollowed := true, recurses := true, apart := false }
def ProjlineIndexesSaid : Prop := projlineIndexesRow.holds Try.pinned (OpenSpec.ofChange projlineIndexesSpec)

/-- ITS FALSE NEIGHBOUR: 'it returns false'. Refute it at one input. -/
def projlineIndexesWrong : ChangeSpec := { name := "projlineIndexes", fn := fun _ => fun
  | [d1, d2, d3] => { results := [.lit (.bool false)], args := [d1, d2, d3] }
  | _ => none }
def ProjlineIndexesWrongFalsely : Prop := projlineIndexesRow.holds Try.pinned (OpenSpec.ofChange projlineIndexesWrong)

/-- 'halfplanelaw21.ProjlineMoves': WHATEVER THE INPUT: true; the input reads as it did. -/
def projlineMovesSpec : ChangeSpec := { name := "projlineMoves", fn := fun _ => fun
  | [d1, d2, d3] => { results := [.lit (.bool true)], args := [d1, d2, d3] }
  | _ => none }
def projlineMovesRow : OpenClaim := { program := "ytcgiancmponmgaa", sum := "ea192bbbe3c039352723901de7d6f1b7764e4ebb0da0646f69131f6329d9579f", func := "halfplane/halfplanelaw21.ProjlineMoves", spec := "projlineMoves", unfollowed := true, recurses := true, apart := false }
def ProjlineMovesSaid : Prop := projlineMovesRow.holds Try.pinned (OpenSpec.ofChange projlineMovesSpec)

/-- ITS FALSE NEIGHBOUR: 'it returns false'. Refute it at one input. -/
def projlineMovesWrong : ChangeSpec := { name := "projlineMoves", fn := fun _ => fun
  | [d1, d2, d3] => { results := [.lit (.bool false)], args := [d1, d2, d3] }
  | _ => none }
def ProjlineMovesWrongFalsely : Prop := projlineMovesRow.holds Try.pinned (OpenSpec.ofChange projlineMovesWrong)

/-- 'halfplanelaw21.ProjlineCounts': WHATEVER THE INPUT: true; the input reads as it did. -/
def projlineCountsSpec : ChangeSpec := { name := "projlineCounts", fn := fun _ => fun
  | [d] => { results := [.lit (.bool true)], args := [d] }
  | _ => none }
def projlineCountsRow : OpenClaim := { program := "ytcgiancmponmgaa", sum := "ea192bbbe3c039352723901de7d6f1b7764e4ebb0da0646f69131f6329d9579f", func := "halfplane/halfplanelaw21.ProjlineCounts", spec := "projlineCounts", unfollowed := true, recurses := true, apart := false }
def ProjlineCountsSaid : Prop := projlineCountsRow.holds Try.pinned (OpenSpec.ofChange projlineCountsSpec)

/-- ITS FALSE NEIGHBOUR: 'it returns false'. Refute it at one input. -/
def projlineCountsWrong : ChangeSpec := { name := "projlineCounts", fn := fun _ => fun
  | [d] => { results := [.lit (.bool false)], args := [d] }
  | _ => none }
def ProjlineCountsWrongFalsely : Prop := projlineCountsRow.holds Try.pinned (OpenSpec.ofChange projlineCountsWrong)

/-- 'halfplanelaw21.ProjlineActs': WHATEVER THE INPUT: true; the input reads as it did. -/
def projlineActsSpec : ChangeSpec := { name := "projlineActs", fn := fun _ => fun
  | [d1, d2, d3] => { results := [.lit (.bool true)], args := [d1, d2, d3] }
  | _ => none }
def projlineActsRow : OpenClaim := { program := "ytcgiancmponmgaa", sum := "ea192bbbe3c039352723901de7d6f1b7764e4ebb0da0646f69131f6329d9579f", func := "halfplane/halfplanelaw21.ProjlineActs", spec := "projlineActs", unfollowed := true, recurses := true, apart := false }
def ProjlineActsSaid : Prop := projlineActsRow.holds Try.pinned (OpenSpec.ofChange projlineActsSpec)

/-- ITS FALSE NEIGHBOUR: 'it returns false'. Refute it at one input. -/
def projlineActsWrong : ChangeSpec := { name := "projlineActs", fn := fun _ => fun
  | [d1, d2, d3] => { results := [.lit (.bool false)], args := [d1, d2, d3] }
  | _ => none }
def ProjlineActsWrongFalsely : Prop := projlineActsRow.holds Try.pinned (OpenSpec.ofChange projlineActsWrong)

/-- 'halfplanelaw21.ProjlineStabilizes': WHATEVER THE INPUT: true; the input reads as it did. -/
def projlineStabilizesSpec : ChangeSpec := { name := "projlineStabilizes", fn := fun _ => fun
  | [d1, d2] => { results := [.lit (.bool true)], args := [d1, d2] }
  | _ => none }
def projlineStabilizesRow : OpenClaim := { program := "ytcgiancmponmgaa", sum := "ea192bbbe3c039352723901de7d6f1b7764e4ebb0da0646f69131f6329d9579f", func := "halfplane/halfplanelaw21.ProjlineStabilizes", spec := "projlineStabilizes", unfollowed := true, recurses := true, apart := false }
def ProjlineStabilizesSaid : Prop := projlineStabilizesRow.holds Try.pinned (OpenSpec.ofChange projlineStabilizesSpec)

/-- ITS FALSE NEIGHBOUR: 'it returns false'. Refute it at one input. -/
def projlineStabilizesWrong : ChangeSpec := { name := "projlineStabilizes", fn := fun _ => fun
  | [d1, d2] => { results := [.lit (.bool false)], args := [d1, d2] }
  | _ => none }
def ProjlineStabilizesWrongFalsely : Prop := projlineStabilizesRow.holds Try.pinned (OpenSpec.ofChange projlineStabilizesWrong)

/-- 'halfplanelaw21.ProjlineLifts': WHATEVER THE INPUT: true; the input reads as it did. -/
def projlineLiftsSpec : ChangeSpec := { name := "projlineLifts", fn := fun _ => fun
  | [d1, d2] => { results := [.lit (.bool true)], args := [d1, d2] }
  | _ => none }
def projlineLiftsRow : OpenClaim := { program := "ytcgiancmponmgaa", sum := "ea192bbbe3c039352723901de7d6f1b7764e4ebb0da0646f69131f6329d9579f", func := "halfplane/halfplanelaw21.ProjlineLifts", spec := "projlineLifts", unfollowed := true, recurses := true, apart := false }
def ProjlineLiftsSaid : Prop := projlineLiftsRow.holds Try.pinned (OpenSpec.ofChange projlineLiftsSpec)

/-- ITS FALSE NEIGHBOUR: 'it returns false'. Refute it at one input. -/
def projlineLiftsWrong : ChangeSpec := { name := "projlineLifts", fn := fun _ => fun
  | [d1, d2] => { results := [.lit (.bool false)], args := [d1, d2] }
  | _ => none }
def ProjlineLiftsWrongFalsely : Prop := projlineLiftsRow.holds Try.pinned (OpenSpec.ofChange projlineLiftsWrong)

/- THE SECOND FORM. 'bulk': how many values and letters a reading holds, each counted each time it is reached (what is shared counts as often as it is met; a slice's spare places count too). A statement '..UptoSaid' is the law's where the arguments, and the package variables that the reading takes, are together of bulk at most 1048576: NARROWER than '..Said'. Prove '..Said' where nothing that the law and all that it calls make is longer than what came in: it says more and counts as full. Else prove '..UptoSaid'. A law counts once. -/
mutual
def uptoBulk {H : Type} : DataW H → Nat
  | .lit (.string bytes) => bytes.length + 1
  | .lit _ => 1
  | .nil => 1
  | .ptr d => uptoBulk d + 1
  | .slice elems spare => uptoBulkAll elems + uptoBulkAll spare + 1
  | .agg parts => uptoBulkAll parts + 1
  | .iface _ d => uptoBulk d + 1
  | .map entries => uptoBulkEntries entries + 1
  | .held _ => 1
def uptoBulkAll {H : Type} : List (DataW H) → Nat
  | [] => 0
  | d :: r => uptoBulk d + uptoBulkAll r
def uptoBulkEntries {H : Type} : List (Lit × DataW H) → Nat
  | [] => 0
  | x :: r => uptoBulkEntry x + uptoBulkEntries r
def uptoBulkEntry {H : Type} : Lit × DataW H → Nat
  | (.string bytes, d) => bytes.length + uptoBulk d + 1
  | (_, d) => uptoBulk d + 1
 end
def uptoSmall : (H : Type) → List (DataW H) → Bool := fun _ ds => decide (uptoBulkAll ds ≤ 1048576)
def OpenSpec.upto (s : _root_.Go.ChangeSpec) : _root_.Go.OpenSpec := { _root_.Go.OpenSpec.ofChange s with cond := some uptoSmall }

/-- 'halfplanelaw21.ProjlineNormals', WHERE WHAT IT READS IS OF BULK AT MOST 1048576: true; the input reads as it did. -/
def projlineNormalsUptoRow : OpenClaim := { program := "ytcgiancmponmgaa", sum := "ea192bbbe3c039352723901de7d6f1b7764e4ebb0da0646f69131f6329d9579f", func := "halfplane/halfplanelaw21.ProjlineNormals", spec := "projlineNormals", apart := false, narrowed := true }
def ProjlineNormalsUptoSaid : Prop := projlineNormalsUptoRow.holds Try.pinned (OpenSpec.upto projlineNormalsSpec)

/-- 'halfplanelaw21.ProjlineUnits', WHERE WHAT IT READS IS OF BULK AT MOST 1048576: true; the input reads as it did. -/
def projlineUnitsUptoRow : OpenClaim := { program := "ytcgiancmponmgaa", sum := "ea192bbbe3c039352723901de7d6f1b7764e4ebb0da0646f69131f6329d9579f", func := "halfplane/halfplanelaw21.ProjlineUnits", spec := "projlineUnits", apart := false, narrowed := true }
def ProjlineUnitsUptoSaid : Prop := projlineUnitsUptoRow.holds Try.pinned (OpenSpec.upto projlineUnitsSpec)

/-- 'halfplanelaw21.ProjlineLists', WHERE WHAT IT READS IS OF BULK AT MOST 1048576: true; the input reads as it did. -/
def projlineListsUptoRow : OpenClaim := { program := "ytcgiancmponmgaa", sum := "ea192bbbe3c039352723901de7d6f1b7764e4ebb0da0646f69131f6329d9579f", func := "halfplane/halfplanelaw21.ProjlineLists", spec := "projlineLists", unfollowed := true, recurses := true, apart := false, narrowed := true }
def ProjlineListsUptoSaid : Prop := projlineListsUptoRow.holds Try.pinned (OpenSpec.upto projlineListsSpec)

/-- 'halfplanelaw21.ProjlineIndexes', WHERE WHAT IT READS IS OF BULK AT MOST 1048576: true; the input reads as it did. -/
def projlineIndexesUptoRow : OpenClaim := { program := "ytcgiancmponmgaa", sum := "ea192bbbe3c039352723901de7d6f1b7764e4ebb0da0646f69131f6329d9579f", func := "halfplane/halfplanelaw21.ProjlineIndexes", spec := "projlineIndexes", unfollowed := true, recurses := true, apart := false, narrowed := true }
def ProjlineIndexesUptoSaid : Prop := projlineIndexesUptoRow.holds Try.pinned (OpenSpec.upto projlineIndexesSpec)

/-- 'halfplanelaw21.ProjlineMoves', WHERE WHAT IT READS IS OF BULK AT MOST 1048576: true; the input reads as it did. -/
def projlineMovesUptoRow : OpenClaim := { program := "ytcgiancmponmgaa", sum := "ea192bbbe3c039352723901de7d6f1b7764e4ebb0da0646f69131f6329d9579f", func := "halfplane/halfplanelaw21.ProjlineMoves", spec := "projlineMoves", unfollowed := true, recurses := true, apart := false, narrowed := true }
def ProjlineMovesUptoSaid : Prop := projlineMovesUptoRow.holds Try.pinned (OpenSpec.upto projlineMovesSpec)

/-- 'halfplanelaw21.ProjlineCounts', WHERE WHAT IT READS IS OF BULK AT MOST 1048576: true; the input reads as it did. -/
def projlineCountsUptoRow : OpenClaim := { program := "ytcgiancmponmgaa", sum := "ea192bbbe3c039352723901de7d6f1b7764e4ebb0da0646f69131f6329d9579f", func := "halfplane/halfplanelaw21.ProjlineCounts", spec := "projlineCounts", unfollowed := true, recurses := true, apart := false, narrowed := true }
def ProjlineCountsUptoSaid : Prop := projlineCountsUptoRow.holds Try.pinned (OpenSpec.upto projlineCountsSpec)

/-- 'halfplanelaw21.ProjlineActs', WHERE WHAT IT READS IS OF BULK AT MOST 1048576: true; the input reads as it did. -/
def projlineActsUptoRow : OpenClaim := { program := "ytcgiancmponmgaa", sum := "ea192bbbe3c039352723901de7d6f1b7764e4ebb0da0646f69131f6329d9579f", func := "halfplane/halfplanelaw21.ProjlineActs", spec := "projlineActs", unfollowed := true, recurses := true, apart := false, narrowed := true }
def ProjlineActsUptoSaid : Prop := projlineActsUptoRow.holds Try.pinned (OpenSpec.upto projlineActsSpec)

/-- 'halfplanelaw21.ProjlineStabilizes', WHERE WHAT IT READS IS OF BULK AT MOST 1048576: true; the input reads as it did. -/
def projlineStabilizesUptoRow : OpenClaim := { program := "ytcgiancmponmgaa", sum := "ea192bbbe3c039352723901de7d6f1b7764e4ebb0da0646f69131f6329d9579f", func := "halfplane/halfplanelaw21.ProjlineStabilizes", spec := "projlineStabilizes", unfollowed := true, recurses := true, apart := false, narrowed := true }
def ProjlineStabilizesUptoSaid : Prop := projlineStabilizesUptoRow.holds Try.pinned (OpenSpec.upto projlineStabilizesSpec)

/-- 'halfplanelaw21.ProjlineLifts', WHERE WHAT IT READS IS OF BULK AT MOST 1048576: true; the input reads as it did. -/
def projlineLiftsUptoRow : OpenClaim := { program := "ytcgiancmponmgaa", sum := "ea192bbbe3c039352723901de7d6f1b7764e4ebb0da0646f69131f6329d9579f", func := "halfplane/halfplanelaw21.ProjlineLifts", spec := "projlineLifts", unfollowed := true, recurses := true, apart := false, narrowed := true }
def ProjlineLiftsUptoSaid : Prop := projlineLiftsUptoRow.holds Try.pinned (OpenSpec.upto projlineLiftsSpec)

end Rows
end Go.Proofs.Ytcgiancmponmgaa
