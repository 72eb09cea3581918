/-
  No cell of these rows narrows 'for every input' (looked for: loops, veiled, ifaces, maps, wideKeys, modest, calm, conditions, laid).
  DERIVED. THE GIVEN ROWS OF THIS SEAT. 10 by the template 'for every input the law returns true; each argument reads behind the call as it read before'; 0 by the template 'total and deterministic' (their statements: YtfjlecphjahahaaTotals.lean).
  GIVEN WITH THE SEED: the statements are not yours to turn. If you find one false, say at which input.
  Laid BY PROGRAM, IN A SANDBOX (cutbox-rows.mjs): the forced cells as the released guide's own fill.sh prints them over the translation fd3a9cd6fb1895ab… (all of the seat's roots in one cut). By AI agents, Wed Nov 11 2026. No macro, syntax, notation, axiom, sorry.
-/
import Derived.Test.YtfjlecphjahahaaChecked
import GoSem.Claim
import GoSem.ClaimJoined
import GoSem.ClaimMapViews
import Derived.JoinedTies
import Derived.KernelRfl
namespace Go.Proofs.Ytfjlecphjahahaa
/- THE CELL 'sum', in the pinned program and in every row, IS THE sha256 OF THE DUMP (.gsa) THAT YtfjlecphjahahaaProg.lean LOADS. Nothing in Lean hashes anything: it is a label: what it is worth is what the hold of that sum in a sandbox is worth. -/
noncomputable def Try.pinned : Pinned := { name := "ytfjlecphjahahaa", sum := "fd3a9cd6fb1895ab8ae7fefa182626121be0c9956e1deffc7b22aae72fb6ff47", checked := Try.checked }
namespace Rows
def none {H : Type} : Left H := { results := [], args := [] }

/-- 'halfplanelaw19.ContfracDeterminants': WHATEVER THE INPUT: true; the input reads as it did. -/
def contfracDeterminantsSpec : ChangeSpec := { name := "contfracDeterminants", fn := fun _ => fun
  | [d] => { results := [.lit (.bool true)], args := [d] }
  | _ => none }
def contfracDeterminantsRow : OpenClaim := { program := "ytfjlecphjahahaa", sum := "fd3a9cd6fb1895ab8ae7fefa182626121be0c9956e1deffc7b22aae72fb6ff47", func := "halfplane/halfplanelaw19.ContfracDeterminants", spec := "contfracDeterminants", apart := false }
def ContfracDeterminantsSaid : Prop := contfracDeterminantsRow.holds Try.pinned (OpenSpec.ofChange contfracDeterminantsSpec)

/-- ITS FALSE NEIGHBOUR: 'it returns false'. Refute it at one input. -/
def contfracDeterminantsWrong : ChangeSpec := { name := "contfracDeterminants", fn := fun _ => fun
  | [d] => { results := [.lit (.bool false)], args := [d] }
  | _ => none }
def ContfracDeterminantsWrongFalsely : Prop := contfracDeterminantsRow.holds Try.pinned (OpenSpec.ofChange contfracDeterminantsWrong)

/-- 'halfplanelaw19.ContfracBest': WHATEVER THE INPUT: true; the input reads as it did. -/
def contfracBestSpec : ChangeSpec := { name := "contfracBest", fn := fun _ => fun
  | [d1, d2, d3] => { results := [.lit (.bool true)], args := [d1, d2, d3] }
  | _ => none }
def contfracBestRow : OpenClaim := { program := "ytfjlecphjahahaa", sum := "fd3a9cd6fb1895ab8ae7fefa182626121be0c9956e1deffc7b22aae72fb6ff47", func := "halfplane/halfplanelaw19.ContfracBest", spec := "contfracBest", apart := false }
def ContfracBestSaid : Prop := contfracBestRow.holds Try.pinned (OpenSpec.ofChange contfracBestSpec)

/-- ITS FALSE NEIGHBOUR: 'it returns false'. Refute it at one input. -/
def contfracBestWrong : ChangeSpec := { name := "contfracBest", fn := fun _ => fun
  | [d1, d2, d3] => { results := [.lit (.bool false)], args := [d1, d2, d3] }
  | _ => none }
def ContfracBestWrongFalsely : Prop := contfracBestRow.holds Try.pinned (OpenSpec.ofChange contfracBestWrong)

/-- 'halfplanelaw19.ContfracPaths': WHATEVER THE INPUT: true; the input reads as it did. -/
def contfracPathsSpec : ChangeSpec := { name := "contfracPaths", fn := fun _ => fun
  | [d] => { results := [.lit (.bool true)], args := [d] }
  | _ => none }
def contfracPathsRow : OpenClaim := { program := "ytfjlecphjahahaa", sum := "fd3a9cd6fb1895ab8ae7fefa182626121be0c9956e1deffc7b22aae72fb6ff47", func := "halfplane/halfplanelaw19.ContfracPaths", spec := "contfracPaths", apart := false }
def ContfracPathsSaid : Prop := contfracPathsRow.holds Try.pinned (OpenSpec.ofChange contfracPathsSpec)

/-- ITS FALSE NEIGHBOUR: 'it returns false'. Refute it at one input. -/
def contfracPathsWrong : ChangeSpec := { name := "contfracPaths", fn := fun _ => fun
  | [d] => { results := [.lit (.bool false)], args := [d] }
  | _ => none }
def ContfracPathsWrongFalsely : Prop := contfracPathsRow.holds Try.pinned (OpenSpec.ofChange contfracPathsWrong)

/-- 'halfplanelaw19.ContfracChains': WHATEVER THE INPUT: true; the input reads as it did. -/
def contfracChainsSpec : ChangeSpec := { name := "contfracChains", fn := fun _ => fun
  | [d1, d2] => { results := [.lit (.bool true)], args := [d1, d2] }
  | _ => none }
def contfracChainsRow : OpenClaim := { program := "ytfjlecphjahahaa", sum := "fd3a9cd6fb1895ab8ae7fefa182626121be0c9956e1deffc7b22aae72fb6ff47", func := "halfplane/halfplanelaw19.ContfracChains", spec := "contfracChains", apart := false }
def ContfracChainsSaid : Prop := contfracChainsRow.holds Try.pinned (OpenSpec.ofChange contfracChainsSpec)

/-- ITS FALSE NEIGHBOUR: 'it returns false'. Refute it at one input. -/
def contfracChainsWrong : ChangeSpec := { name := "contfracChains", fn := fun _ => fun
  | [d1, d2] => { results := [.lit (.bool false)], args := [d1, d2] }
  | _ => none }
def ContfracChainsWrongFalsely : Prop := contfracChainsRow.holds Try.pinned (OpenSpec.ofChange contfracChainsWrong)

/-- 'halfplanelaw19.ContfracExpands': WHATEVER THE INPUT: true; the input reads as it did. -/
def contfracExpandsSpec : ChangeSpec := { name := "contfracExpands", fn := fun _ => fun
  | [d] => { results := [.lit (.bool true)], args := [d] }
  | _ => none }
def contfracExpandsRow : OpenClaim := { program := "ytfjlecphjahahaa", sum := "fd3a9cd6fb1895ab8ae7fefa182626121be0c9956e1deffc7b22aae72fb6ff47", func := "halfplane/halfplanelaw19.ContfracExpands", spec := "contfracExpands", apart := false }
def ContfracExpandsSaid : Prop := contfracExpandsRow.holds Try.pinned (OpenSpec.ofChange contfracExpandsSpec)

/-- ITS FALSE NEIGHBOUR: 'it returns false'. Refute it at one input. -/
def contfracExpandsWrong : ChangeSpec := { name := "contfracExpands", fn := fun _ => fun
  | [d] => { results := [.lit (.bool false)], args := [d] }
  | _ => none }
def ContfracExpandsWrongFalsely : Prop := contfracExpandsRow.holds Try.pinned (OpenSpec.ofChange contfracExpandsWrong)

/-- 'halfplanelaw19.ContfracConverges': WHATEVER THE INPUT: true; the input reads as it did. -/
def contfracConvergesSpec : ChangeSpec := { name := "contfracConverges", fn := fun _ => fun
  | [d] => { results := [.lit (.bool true)], args := [d] }
  | _ => none }
def contfracConvergesRow : OpenClaim := { program := "ytfjlecphjahahaa", sum := "fd3a9cd6fb1895ab8ae7fefa182626121be0c9956e1deffc7b22aae72fb6ff47", func := "halfplane/halfplanelaw19.ContfracConverges", spec := "contfracConverges", apart := false }
def ContfracConvergesSaid : Prop := contfracConvergesRow.holds Try.pinned (OpenSpec.ofChange contfracConvergesSpec)

/-- ITS FALSE NEIGHBOUR: 'it returns false'. Refute it at one input. -/
def contfracConvergesWrong : ChangeSpec := { name := "contfracConverges", fn := fun _ => fun
  | [d] => { results := [.lit (.bool false)], args := [d] }
  | _ => none }
def ContfracConvergesWrongFalsely : Prop := contfracConvergesRow.holds Try.pinned (OpenSpec.ofChange contfracConvergesWrong)

/-- 'halfplanelaw19.ContfracFarey': WHATEVER THE INPUT: true; the input reads as it did. -/
def contfracFareySpec : ChangeSpec := { name := "contfracFarey", fn := fun _ => fun
  | [d] => { results := [.lit (.bool true)], args := [d] }
  | _ => none }
def contfracFareyRow : OpenClaim := { program := "ytfjlecphjahahaa", sum := "fd3a9cd6fb1895ab8ae7fefa182626121be0c9956e1deffc7b22aae72fb6ff47", func := "halfplane/halfplanelaw19.ContfracFarey", spec := "contfracFarey", apart := false }
def ContfracFareySaid : Prop := contfracFareyRow.holds Try.pinned (OpenSpec.ofChange contfracFareySpec)

/-- ITS FALSE NEIGHBOUR: 'it returns false'. Refute it at one input. -/
def contfracFareyWrong : ChangeSpec := { name := "contfracFarey", fn := fun _ => fun
  | [d] => { results := [.lit (.bool false)], args := [d] }
  | _ => none }
def ContfracFareyWrongFalsely : Prop := contfracFareyRow.holds Try.pinned (OpenSpec.ofChange contfracFareyWrong)

/-- 'halfplanelaw19.ContfracMediants': WHATEVER THE INPUT: true; the input reads as it did. -/
def contfracMediantsSpec : ChangeSpec := { name := "contfracMediants", fn := fun _ => fun
  | [d1, d2] => { results := [.lit (.bool true)], args := [d1, d2] }
  | _ => none }
def contfracMediantsRow : OpenClaim := { program := "ytfjlecphjahahaa", sum := "fd3a9cd6fb1895ab8ae7fefa182626121be0c9956e1deffc7b22aae72fb6ff47", func := "halfplane/halfplanelaw19.ContfracMediants", spec := "contfracMediants", apart := false }
def ContfracMediantsSaid : Prop := contfracMediantsRow.holds Try.pinned (OpenSpec.ofChange contfracMediantsSpec)

/-- ITS FALSE NEIGHBOUR: 'it returns false'. Refute it at one input. -/
def contfracMediantsWrong : ChangeSpec := { name := "contfracMediants", fn := fun _ => fun
  | [d1, d2] => { results := [.lit (.bool false)], args := [d1, d2] }
  | _ => none }
def ContfracMediantsWrongFalsely : Prop := contfracMediantsRow.holds Try.pinned (OpenSpec.ofChange contfracMediantsWrong)

/-- 'halfplanelaw19.ContfracParents': WHATEVER THE INPUT: true; the input reads as it did. -/
def contfracParentsSpec : ChangeSpec := { name := "contfracParents", fn := fun _ => fun
  | [d] => { results := [.lit (.bool true)], args := [d] }
  | _ => none }
def contfracParentsRow : OpenClaim := { program := "ytfjlecphjahahaa", sum := "fd3a9cd6fb1895ab8ae7fefa182626121be0c9956e1deffc7b22aae72fb6ff47", func := "halfplane/halfplanelaw19.ContfracParents", spec := "contfracParents", apart := false }
def ContfracParentsSaid : Prop := contfracParentsRow.holds Try.pinned (OpenSpec.ofChange contfracParentsSpec)

/-- ITS FALSE NEIGHBOUR: 'it returns false'. Refute it at one input. -/
def contfracParentsWrong : ChangeSpec := { name := "contfracParents", fn := fun _ => fun
  | [d] => { results := [.lit (.bool false)], args := [d] }
  | _ => none }
def ContfracParentsWrongFalsely : Prop := contfracParentsRow.holds Try.pinned (OpenSpec.ofChange contfracParentsWrong)

/-- 'halfplanelaw19.ContfracUnimodular': WHATEVER THE INPUT: true; the input reads as it did. -/
def contfracUnimodularSpec : ChangeSpec := { name := "contfracUnimodular", fn := fun _ => fun
  | [d1, d2] => { results := [.lit (.bool true)], args := [d1, d2] }
  | _ => none }
def contfracUnimodularRow : OpenClaim := { program := "ytfjlecphjahahaa", sum := "fd3a9cd6fb1895ab8ae7fefa182626121be0c9956e1deffc7b22aae72fb6ff47", func := "halfplane/halfplanelaw19.ContfracUnimodular", spec := "contfracUnimodular", apart := false }
def ContfracUnimodularSaid : Prop := contfracUnimodularRow.holds Try.pinned (OpenSpec.ofChange contfracUnimodularSpec)

/-- ITS FALSE NEIGHBOUR: 'it returns false'. Refute it at one input. -/
def contfracUnimodularWrong : ChangeSpec := { name := "contfracUnimodular", fn := fun _ => fun
  | [d1, d2] => { results := [.lit (.bool false)], args := [d1, d2] }
  | _ => none }
def ContfracUnimodularWrongFalsely : Prop := contfracUnimodularRow.holds Try.pinned (OpenSpec.ofChange contfracUnimodularWrong)

/- THE SECOND FORM. 'bulk': how many values and letters a reading holds, each counted each time it is reached (what is shared counts as often as it is met; a slice's spare places count too). A statement '..UptoSaid' is the law's where the arguments, and the package variables that the reading takes, are together of bulk at most 1048576: NARROWER than '..Said'. Prove '..Said' where nothing that the law and all that it calls make is longer than what came in: it says more and counts as full. Else prove '..UptoSaid'. A law counts once. -/
mutual
def uptoBulk {H : Type} : DataW H → Nat
  | .lit (.string bytes) => bytes.length + 1
  | .lit _ => 1
  | .nil => 1
  | .ptr d => uptoBulk d + 1
  | .slice elems spare => uptoBulkAll elems + uptoBulkAll spare + 1
  | .agg parts => uptoBulkAll parts + 1
  | .iface _ d => uptoBulk d + 1
  | .map entries => uptoBulkEntries entries + 1
  | .held _ => 1
def uptoBulkAll {H : Type} : List (DataW H) → Nat
  | [] => 0
  | d :: r => uptoBulk d + uptoBulkAll r
def uptoBulkEntries {H : Type} : List (Lit × DataW H) → Nat
  | [] => 0
  | x :: r => uptoBulkEntry x + uptoBulkEntries r
def uptoBulkEntry {H : Type} : Lit × DataW H → Nat
  | (.string bytes, d) => bytes.length + uptoBulk d + 1
  | (_, d) => uptoBulk d + 1
 end
def uptoSmall : (H : Type) → List (DataW H) → Bool := fun _ ds => decide (uptoBulkAll ds ≤ 1048576)
def OpenSpec.upto (s : _root_.Go.ChangeSpec) : _root_.Go.OpenSpec := { _root_.Go.OpenSpec.ofChange s with cond := some uptoSmall }

/-- 'halfplanelaw19.ContfracDeterminants', WHERE WHAT IT READS IS OF BULK AT MOST 1048576: true; the input reads as it did. -/
def contfracDeterminantsUptoRow : OpenClaim := { program := "ytfjlecphjahahaa", sum := "fd3a9cd6fb1895ab8ae7fefa182626121be0c9956e1deffc7b22aae72fb6ff47", func := "halfplane/halfplanelaw19.ContfracDeterminants", spec := "contfracDeterminants", apart := false, narrowed := true }
def ContfracDeterminantsUptoSaid : Prop := contfracDeterminantsUptoRow.holds Try.pinned (OpenSpec.upto contfracDeterminantsSpec)

/-- 'halfplanelaw19.ContfracBest', WHERE WHAT IT READS IS OF BULK AT MOST 1048576: true; the input reads as it did. -/
def contfracBestUptoRow : OpenClaim := { program := "ytfjlecphjahahaa", sum := "fd3a9cd6fb1895ab8ae7fefa182626121be0c9956e1deffc7b22aae72fb6ff47", func := "halfplane/halfplanelaw19.ContfracBest", spec := "contfracBest", apart := false, narrowed := true }
def ContfracBestUptoSaid : Prop := contfracBestUptoRow.holds Try.pinned (OpenSpec.upto contfracBestSpec)

/-- 'halfplanelaw19.ContfracPaths', WHERE WHAT IT READS IS OF BULK AT MOST 1048576: true; the input reads as it did. -/
def contfracPathsUptoRow : OpenClaim := { program := "ytfjlecphjahahaa", sum := "fd3a9cd6fb1895ab8ae7fefa182626121be0c9956e1deffc7b22aae72fb6ff47", func := "halfplane/halfplanelaw19.ContfracPaths", spec := "contfracPaths", apart := false, narrowed := true }
def ContfracPathsUptoSaid : Prop := contfracPathsUptoRow.holds Try.pinned (OpenSpec.upto contfracPathsSpec)

/-- 'halfplanelaw19.ContfracChains', WHERE WHAT IT READS IS OF BULK AT MOST 1048576: true; the input reads as it did. -/
def contfracChainsUptoRow : OpenClaim := { program := "ytfjlecphjahahaa", sum := "fd3a9cd6fb1895ab8ae7fefa182626121be0c9956e1deffc7b22aae72fb6ff47", func := "halfplane/halfplanelaw19.ContfracChains", spec := "contfracChains", apart := false, narrowed := true }
def ContfracChainsUptoSaid : Prop := contfracChainsUptoRow.holds Try.pinned (OpenSpec.upto contfracChainsSpec)

/-- 'halfplanelaw19.ContfracExpands', WHERE WHAT IT READS IS OF BULK AT MOST 1048576: true; the input reads as it did. -/
def contfracExpandsUptoRow : OpenClaim := { program := "ytfjlecphjahahaa", sum := "fd3a9cd6fb1895ab8ae7fefa182626121be0c9956e1deffc7b22aae72fb6ff47", func := "halfplane/halfplanelaw19.ContfracExpands", spec := "contfracExpands", apart := false, narrowed := true }
def ContfracExpandsUptoSaid : Prop := contfracExpandsUptoRow.holds Try.pinned (OpenSpec.upto contfracExpandsSpec)

/-- 'halfplanelaw19.ContfracConverges', WHERE WHAT IT READS IS OF BULK AT MOST 1048576: true; the input reads as it did. -/
def contfracConvergesUptoRow : OpenClaim := { program := "ytfjlecphjahahaa", sum := "fd3a9cd6fb1895ab8ae7fefa182626121be0c9956e1deffc7b22aae72fb6ff47", func := "halfplane/halfplanelaw19.ContfracConverges", spec := "contfracConverges", apart := false, narrowed := true }
def ContfracConvergesUptoSaid : Prop := contfracConvergesUptoRow.holds Try.pinned (OpenSpec.upto contfracConvergesSpec)

/-- 'halfplanelaw19.ContfracFarey', WHERE WHAT IT READS IS OF BULK AT MOST 1048576: true; the input reads as it did. -/
def contfracFareyUptoRow : OpenClaim := { program := "ytfjlecphjahahaa", sum := "fd3a9cd6fb1895ab8ae7fefa182626121be0c9956e1deffc7b22aae72fb6ff47", func := "halfplane/halfplanelaw19.ContfracFarey", spec := "contfracFarey", apart := false, narrowed := true }
def ContfracFareyUptoSaid : Prop := contfracFareyUptoRow.holds Try.pinned (OpenSpec.upto contfracFareySpec)

/-- 'halfplanelaw19.ContfracMediants', WHERE WHAT IT READS IS OF BULK AT MOST 1048576: true; the input reads as it did. -/
def contfracMediantsUptoRow : OpenClaim := { program := "ytfjlecphjahahaa", sum := "fd3a9cd6fb1895ab8ae7fefa182626121be0c9956e1deffc7b22aae72fb6ff47", func := "halfplane/halfplanelaw19.ContfracMediants", spec := "contfracMediants", apart := false, narrowed := true }
def ContfracMediantsUptoSaid : Prop := contfracMediantsUptoRow.holds Try.pinned (OpenSpec.upto contfracMediantsSpec)

/-- 'halfplanelaw19.ContfracParents', WHERE WHAT IT READS IS OF BULK AT MOST 1048576: true; the input reads as it did. -/
def contfracParentsUptoRow : OpenClaim := { program := "ytfjlecphjahahaa", sum := "fd3a9cd6fb1895ab8ae7fefa182626121be0c9956e1deffc7b22aae72fb6ff47", func := "halfplane/halfplanelaw19.ContfracParents", spec := "contfracParents", apart := false, narrowed := true }
def ContfracParentsUptoSaid : Prop := contfracParentsUptoRow.holds Try.pinned (OpenSpec.upto contfracParentsSpec)

/-- 'halfplanelaw19.ContfracUnimodular', WHERE WHAT IT READS IS OF BULK AT MOST 1048576: true; the input reads as it did. -/
def contfracUnimodularUptoRow : OpenClaim := { program := "ytfjlecphjahahaa", sum := "fd3a9cd6fb1895ab8ae7fefa182626121be0c9956e1deffc7b22aae72fb6ff47", func := "halfplane/halfplanelaw19.ContfracUnimodular", spec := "contfracUnimodular", apart := false, narrowed := true }
def ContfracUnimodularUptoSaid : Prop := contfracUnimodularUptoRow.holds Try.pinned (OpenSpec.upto contfracUnimodularSpec)

end Rows
end Go.Proofs.Ytfjlecphjahahaa
