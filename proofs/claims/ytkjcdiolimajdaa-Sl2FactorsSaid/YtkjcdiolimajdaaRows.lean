/-
  No cell of these rows narrows 'for every input' (looked for: loops, veiled, ifaces, maps, wideKeys, modest, calm, conditions, laid).
  DERIVED. THE GIVEN ROWS OF THIS SEAT. 9 by the template 'for every input the law returns true; each argument reads behind the call as it read before'; 0 by the template 'total and deterministic' (their statements: YtkjcdiolimajdaaTotals.lean).
  GIVEN WITH THE SEED: the statements are not yours to turn. If you find one false, say at which input.
  Laid BY PROGRAM, IN A SANDBOX (cutbox-rows.mjs): the forced cells as the released guide's own fill.sh prints them over the translation 7eacfc2ffb3dffa3… (all of the seat's roots in one cut). By AI agents, Wed Nov 11 2026. No macro, syntax, notation, axiom, sorry.
-/
import Derived.Test.YtkjcdiolimajdaaChecked
import GoSem.Claim
import GoSem.ClaimJoined
import GoSem.ClaimMapViews
import Derived.JoinedTies
import Derived.KernelRfl
namespace Go.Proofs.Ytkjcdiolimajdaa
/- THE CELL 'sum', in the pinned program and in every row, IS THE sha256 OF THE DUMP (.gsa) THAT YtkjcdiolimajdaaProg.lean LOADS. Nothing in Lean hashes anything: it is a label: what it is worth is what the hold of that sum in a sandbox is worth. -/
noncomputable def Try.pinned : Pinned := { name := "ytkjcdiolimajdaa", sum := "7eacfc2ffb3dffa33c518d57362405780961dac1532bcd605de23877564c5d91", checked := Try.checked }
namespace Rows
def none {H : Type} : Left H := { results := [], args := [] }

/-- 'halfplanelaw18.Sl2Applies': WHATEVER THE INPUT: true; the input reads as it did. -/
def sl2AppliesSpec : ChangeSpec := { name := "sl2Applies", fn := fun _ => fun
  | [d1, d2] => { results := [.lit (.bool true)], args := [d1, d2] }
  | _ => none }
def sl2AppliesRow : OpenClaim := { program := "ytkjcdiolimajdaa", sum := "7eacfc2ffb3dffa33c518d57362405780961dac1532bcd605de23877564c5d91", func := "halfplane/halfplanelaw18.Sl2Applies", spec := "sl2Applies", apart := false }
def Sl2AppliesSaid : Prop := sl2AppliesRow.holds Try.pinned (OpenSpec.ofChange sl2AppliesSpec)

/-- ITS FALSE NEIGHBOUR: 'it returns false'. Refute it at one input. -/
def sl2AppliesWrong : ChangeSpec := { name := "sl2Applies", fn := fun _ => fun
  | [d1, d2] => { results := [.lit (.bool false)], args := [d1, d2] }
  | _ => none }
def Sl2AppliesWrongFalsely : Prop := sl2AppliesRow.holds Try.pinned (OpenSpec.ofChange sl2AppliesWrong)

/-- 'halfplanelaw18.Sl2Reduces': WHATEVER THE INPUT: true; the input reads as it did. -/
def sl2ReducesSpec : ChangeSpec := { name := "sl2Reduces", fn := fun _ => fun
  | [d1, d2] => { results := [.lit (.bool true)], args := [d1, d2] }
  | _ => none }
def sl2ReducesRow : OpenClaim := { program := "ytkjcdiolimajdaa", sum := "7eacfc2ffb3dffa33c518d57362405780961dac1532bcd605de23877564c5d91", func := "halfplane/halfplanelaw18.Sl2Reduces", spec := "sl2Reduces", apart := false }
def Sl2ReducesSaid : Prop := sl2ReducesRow.holds Try.pinned (OpenSpec.ofChange sl2ReducesSpec)

/-- ITS FALSE NEIGHBOUR: 'it returns false'. Refute it at one input. -/
def sl2ReducesWrong : ChangeSpec := { name := "sl2Reduces", fn := fun _ => fun
  | [d1, d2] => { results := [.lit (.bool false)], args := [d1, d2] }
  | _ => none }
def Sl2ReducesWrongFalsely : Prop := sl2ReducesRow.holds Try.pinned (OpenSpec.ofChange sl2ReducesWrong)

/-- 'halfplanelaw18.Sl2Acts': WHATEVER THE INPUT: true; the input reads as it did. -/
def sl2ActsSpec : ChangeSpec := { name := "sl2Acts", fn := fun _ => fun
  | [d1, d2, d3] => { results := [.lit (.bool true)], args := [d1, d2, d3] }
  | _ => none }
def sl2ActsRow : OpenClaim := { program := "ytkjcdiolimajdaa", sum := "7eacfc2ffb3dffa33c518d57362405780961dac1532bcd605de23877564c5d91", func := "halfplane/halfplanelaw18.Sl2Acts", spec := "sl2Acts", apart := false }
def Sl2ActsSaid : Prop := sl2ActsRow.holds Try.pinned (OpenSpec.ofChange sl2ActsSpec)

/-- ITS FALSE NEIGHBOUR: 'it returns false'. Refute it at one input. -/
def sl2ActsWrong : ChangeSpec := { name := "sl2Acts", fn := fun _ => fun
  | [d1, d2, d3] => { results := [.lit (.bool false)], args := [d1, d2, d3] }
  | _ => none }
def Sl2ActsWrongFalsely : Prop := sl2ActsRow.holds Try.pinned (OpenSpec.ofChange sl2ActsWrong)

/-- 'halfplanelaw18.Sl2Abelian': WHATEVER THE INPUT: true; the input reads as it did. -/
def sl2AbelianSpec : ChangeSpec := { name := "sl2Abelian", fn := fun _ => fun
  | [d1, d2] => { results := [.lit (.bool true)], args := [d1, d2] }
  | _ => none }
def sl2AbelianRow : OpenClaim := { program := "ytkjcdiolimajdaa", sum := "7eacfc2ffb3dffa33c518d57362405780961dac1532bcd605de23877564c5d91", func := "halfplane/halfplanelaw18.Sl2Abelian", spec := "sl2Abelian", apart := false }
def Sl2AbelianSaid : Prop := sl2AbelianRow.holds Try.pinned (OpenSpec.ofChange sl2AbelianSpec)

/-- ITS FALSE NEIGHBOUR: 'it returns false'. Refute it at one input. -/
def sl2AbelianWrong : ChangeSpec := { name := "sl2Abelian", fn := fun _ => fun
  | [d1, d2] => { results := [.lit (.bool false)], args := [d1, d2] }
  | _ => none }
def Sl2AbelianWrongFalsely : Prop := sl2AbelianRow.holds Try.pinned (OpenSpec.ofChange sl2AbelianWrong)

/-- 'halfplanelaw18.Sl2Multiplies': WHATEVER THE INPUT: true; the input reads as it did. -/
def sl2MultipliesSpec : ChangeSpec := { name := "sl2Multiplies", fn := fun _ => fun
  | [d1, d2] => { results := [.lit (.bool true)], args := [d1, d2] }
  | _ => none }
def sl2MultipliesRow : OpenClaim := { program := "ytkjcdiolimajdaa", sum := "7eacfc2ffb3dffa33c518d57362405780961dac1532bcd605de23877564c5d91", func := "halfplane/halfplanelaw18.Sl2Multiplies", spec := "sl2Multiplies", apart := false }
def Sl2MultipliesSaid : Prop := sl2MultipliesRow.holds Try.pinned (OpenSpec.ofChange sl2MultipliesSpec)

/-- ITS FALSE NEIGHBOUR: 'it returns false'. Refute it at one input. -/
def sl2MultipliesWrong : ChangeSpec := { name := "sl2Multiplies", fn := fun _ => fun
  | [d1, d2] => { results := [.lit (.bool false)], args := [d1, d2] }
  | _ => none }
def Sl2MultipliesWrongFalsely : Prop := sl2MultipliesRow.holds Try.pinned (OpenSpec.ofChange sl2MultipliesWrong)

/-- 'halfplanelaw18.Sl2Associates': WHATEVER THE INPUT: true; the input reads as it did. -/
def sl2AssociatesSpec : ChangeSpec := { name := "sl2Associates", fn := fun _ => fun
  | [d1, d2, d3] => { results := [.lit (.bool true)], args := [d1, d2, d3] }
  | _ => none }
def sl2AssociatesRow : OpenClaim := { program := "ytkjcdiolimajdaa", sum := "7eacfc2ffb3dffa33c518d57362405780961dac1532bcd605de23877564c5d91", func := "halfplane/halfplanelaw18.Sl2Associates", spec := "sl2Associates", apart := false }
def Sl2AssociatesSaid : Prop := sl2AssociatesRow.holds Try.pinned (OpenSpec.ofChange sl2AssociatesSpec)

/-- ITS FALSE NEIGHBOUR: 'it returns false'. Refute it at one input. -/
def sl2AssociatesWrong : ChangeSpec := { name := "sl2Associates", fn := fun _ => fun
  | [d1, d2, d3] => { results := [.lit (.bool false)], args := [d1, d2, d3] }
  | _ => none }
def Sl2AssociatesWrongFalsely : Prop := sl2AssociatesRow.holds Try.pinned (OpenSpec.ofChange sl2AssociatesWrong)

/-- 'halfplanelaw18.Sl2Factors': WHATEVER THE INPUT: true; the input reads as it did. -/
def sl2FactorsSpec : ChangeSpec := { name := "sl2Factors", fn := fun _ => fun
  | [d] => { results := [.lit (.bool true)], args := [d] }
  | _ => none }
def sl2FactorsRow : OpenClaim := { program := "ytkjcdiolimajdaa", sum := "7eacfc2ffb3dffa33c518d57362405780961dac1532bcd605de23877564c5d91", func := "halfplane/halfplanelaw18.Sl2Factors", spec := "sl2Factors", apart := false }
def Sl2FactorsSaid : Prop := sl2FactorsRow.holds Try.pinned (OpenSpec.ofChange sl2FactorsSpec)

/-- ITS FALSE NEIGHBOUR: 'it returns false'. Refute it at one input. -/
def sl2FactorsWrong : ChangeSpec := { name := "sl2Factors", fn := fun _ => fun
  | [d] => { results := [.lit (.bool false)], args := [d] }
  | _ => none }
def Sl2FactorsWrongFalsely : Prop := sl2FactorsRow.holds Try.pinned (OpenSpec.ofChange sl2FactorsWrong)

/-- 'halfplanelaw18.Sl2Values': WHATEVER THE INPUT: true; the input reads as it did. -/
def sl2ValuesSpec : ChangeSpec := { name := "sl2Values", fn := fun _ => fun
  | [d] => { results := [.lit (.bool true)], args := [d] }
  | _ => none }
def sl2ValuesRow : OpenClaim := { program := "ytkjcdiolimajdaa", sum := "7eacfc2ffb3dffa33c518d57362405780961dac1532bcd605de23877564c5d91", func := "halfplane/halfplanelaw18.Sl2Values", spec := "sl2Values", apart := false }
def Sl2ValuesSaid : Prop := sl2ValuesRow.holds Try.pinned (OpenSpec.ofChange sl2ValuesSpec)

/-- ITS FALSE NEIGHBOUR: 'it returns false'. Refute it at one input. -/
def sl2ValuesWrong : ChangeSpec := { name := "sl2Values", fn := fun _ => fun
  | [d] => { results := [.lit (.bool false)], args := [d] }
  | _ => none }
def Sl2ValuesWrongFalsely : Prop := sl2ValuesRow.holds Try.pinned (OpenSpec.ofChange sl2ValuesWrong)

/-- 'halfplanelaw18.Sl2Powers': WHATEVER THE INPUT: true; the input reads as it did. -/
def sl2PowersSpec : ChangeSpec := { name := "sl2Powers", fn := fun _ => fun
  | [d1, d2, d3] => { results := [.lit (.bool true)], args := [d1, d2, d3] }
  | _ => none }
def sl2PowersRow : OpenClaim := { program := "ytkjcdiolimajdaa", sum := "7eacfc2ffb3dffa33c518d57362405780961dac1532bcd605de23877564c5d91", func := "halfplane/halfplanelaw18.Sl2Powers", spec := "sl2Powers", apart := false }
def Sl2PowersSaid : Prop := sl2PowersRow.holds Try.pinned (OpenSpec.ofChange sl2PowersSpec)

/-- ITS FALSE NEIGHBOUR: 'it returns false'. Refute it at one input. -/
def sl2PowersWrong : ChangeSpec := { name := "sl2Powers", fn := fun _ => fun
  | [d1, d2, d3] => { results := [.lit (.bool false)], args := [d1, d2, d3] }
  | _ => none }
def Sl2PowersWrongFalsely : Prop := sl2PowersRow.holds Try.pinned (OpenSpec.ofChange sl2PowersWrong)

/- THE SECOND FORM. 'bulk': how many values and letters a reading holds, each counted each time it is reached (what is shared counts as often as it is met; a slice's spare places count too). A statement '..UptoSaid' is the law's where the arguments, and the package variables that the reading takes, are together of bulk at most 1048576: NARROWER than '..Said'. Prove '..Said' where nothing that the law and all that it calls make is longer than what came in: it says more and counts as full. Else prove '..UptoSaid'. A law counts once. -/
mutual
def uptoBulk {H : Type} : DataW H → Nat
  | .lit (.string bytes) => bytes.length + 1
  | .lit _ => 1
  | .nil => 1
  | .ptr d => uptoBulk d + 1
  | .slice elems spare => uptoBulkAll elems + uptoBulkAll spare + 1
  | .agg parts => uptoBulkAll parts + 1
  | .iface _ d => uptoBulk d + 1
  | .map entries => uptoBulkEntries entries + 1
  | .held _ => 1
def uptoBulkAll {H : Type} : List (DataW H) → Nat
  | [] => 0
  | d :: r => uptoBulk d + uptoBulkAll r
def uptoBulkEntries {H : Type} : List (Lit × DataW H) → Nat
  | [] => 0
  | x :: r => uptoBulkEntry x + uptoBulkEntries r
def uptoBulkEntry {H : Type} : Lit × DataW H → Nat
  | (.string bytes, d) => bytes.length + uptoBulk d + 1
  | (_, d) => uptoBulk d + 1
 end
def uptoSmall : (H : Type) → List (DataW H) → Bool := fun _ ds => decide (uptoBulkAll ds ≤ 1048576)
def OpenSpec.upto (s : _root_.Go.ChangeSpec) : _root_.Go.OpenSpec := { _root_.Go.OpenSpec.ofChange s with cond := some uptoSmall }

/-- 'halfplanelaw18.Sl2Applies', WHERE WHAT IT READS IS OF BULK AT MOST 1048576: true; the input reads as it did. -/
def sl2AppliesUptoRow : OpenClaim := { program := "ytkjcdiolimajdaa", sum := "7eacfc2ffb3dffa33c518d57362405780961dac1532bcd605de23877564c5d91", func := "halfplane/halfplanelaw18.Sl2Applies", spec := "sl2Applies", apart := false, narrowed := true }
def Sl2AppliesUptoSaid : Prop := sl2AppliesUptoRow.holds Try.pinned (OpenSpec.upto sl2AppliesSpec)

/-- 'halfplanelaw18.Sl2Reduces', WHERE WHAT IT READS IS OF BULK AT MOST 1048576: true; the input reads as it did. -/
def sl2ReducesUptoRow : OpenClaim := { program := "ytkjcdiolimajdaa", sum := "7eacfc2ffb3dffa33c518d57362405780961dac1532bcd605de23877564c5d91", func := "halfplane/halfplanelaw18.Sl2Reduces", spec := "sl2Reduces", apart := false, narrowed := true }
def Sl2ReducesUptoSaid : Prop := sl2ReducesUptoRow.holds Try.pinned (OpenSpec.upto sl2ReducesSpec)

/-- 'halfplanelaw18.Sl2Acts', WHERE WHAT IT READS IS OF BULK AT MOST 1048576: true; the input reads as it did. -/
def sl2ActsUptoRow : OpenClaim := { program := "ytkjcdiolimajdaa", sum := "7eacfc2ffb3dffa33c518d57362405780961dac1532bcd605de23877564c5d91", func := "halfplane/halfplanelaw18.Sl2Acts", spec := "sl2Acts", apart := false, narrowed := true }
def Sl2ActsUptoSaid : Prop := sl2ActsUptoRow.holds Try.pinned (OpenSpec.upto sl2ActsSpec)

/-- 'halfplanelaw18.Sl2Abelian', WHERE WHAT IT READS IS OF BULK AT MOST 1048576: true; the input reads as it did. -/
def sl2AbelianUptoRow : OpenClaim := { program := "ytkjcdiolimajdaa", sum := "7eacfc2ffb3dffa33c518d57362405780961dac1532bcd605de23877564c5d91", func := "halfplane/halfplanelaw18.Sl2Abelian", spec := "sl2Abelian", apart := false, narrowed := true }
def Sl2AbelianUptoSaid : Prop := sl2AbelianUptoRow.holds Try.pinned (OpenSpec.upto sl2AbelianSpec)

/-- 'halfplanelaw18.Sl2Multiplies', WHERE WHAT IT READS IS OF BULK AT MOST 1048576: true; the input reads as it did. -/
def sl2MultipliesUptoRow : OpenClaim := { program := "ytkjcdiolimajdaa", sum := "7eacfc2ffb3dffa33c518d57362405780961dac1532bcd605de23877564c5d91", func := "halfplane/halfplanelaw18.Sl2Multiplies", spec := "sl2Multiplies", apart := false, narrowed := true }
def Sl2MultipliesUptoSaid : Prop := sl2MultipliesUptoRow.holds Try.pinned (OpenSpec.upto sl2MultipliesSpec)

/-- 'halfplanelaw18.Sl2Associates', WHERE WHAT IT READS IS OF BULK AT MOST 1048576: true; the input reads as it did. -/
def sl2AssociatesUptoRow : OpenClaim := { program := "ytkjcdiolimajdaa", sum := "7eacfc2ffb3dffa33c518d57362405780961dac1532bcd605de23877564c5d91", func := "halfplane/halfplanelaw18.Sl2Associates", spec := "sl2Associates", apart := false, narrowed := true }
def Sl2AssociatesUptoSaid : Prop := sl2AssociatesUptoRow.holds Try.pinned (OpenSpec.upto sl2AssociatesSpec)

/-- 'halfplanelaw18.Sl2Factors', WHERE WHAT IT READS IS OF BULK AT MOST 1048576: true; the input reads as it did. -/
def sl2FactorsUptoRow : OpenClaim := { program := "ytkjcdiolimajdaa", sum := "7eacfc2ffb3dffa33c518d57362405780961dac1532bcd605de23877564c5d91", func := "halfplane/halfplanelaw18.Sl2Factors", spec := "sl2Factors", apart := false, narrowed := true }
def Sl2FactorsUptoSaid : Prop := sl2FactorsUptoRow.holds Try.pinned (OpenSpec.upto sl2FactorsSpec)

/-- 'halfplanelaw18.Sl2Values', WHERE WHAT IT READS IS OF BULK AT MOST 1048576: true; the input reads as it did. -/
def sl2ValuesUptoRow : OpenClaim := { program := "ytkjcdiolimajdaa", sum := "7eacfc2ffb3dffa33c518d57362405780961dac1532bcd605de23877564c5d91", func := "halfplane/halfplanelaw18.Sl2Values", spec := "sl2Values", apart := false, narrowed := true }
def Sl2ValuesUptoSaid : Prop := sl2ValuesUptoRow.holds Try.pinned (OpenSpec.upto sl2ValuesSpec)

/-- 'halfplanelaw18.Sl2Powers', WHERE WHAT IT READS IS OF BULK AT MOST 1048576: true; the input reads as it did. -/
def sl2PowersUptoRow : OpenClaim := { program := "ytkjcdiolimajdaa", sum := "7eacfc2ffb3dffa33c518d57362405780961dac1532bcd605de23877564c5d91", func := "halfplane/halfplanelaw18.Sl2Powers", spec := "sl2Powers", apart := false, narrowed := true }
def Sl2PowersUptoSaid : Prop := sl2PowersUptoRow.holds Try.pinned (OpenSpec.upto sl2PowersSpec)

end Rows
end Go.Proofs.Ytkjcdiolimajdaa
