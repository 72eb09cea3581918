/-
  DERIVED. GIVEN WITH THE SEED: THE CARDS: each row of YtbpkfcohbefphaaGreatDoorRows.lean that lists a variable, with what it lists TIED to the program's text (the seventh form; the later family's looks); each row that meets fmt, with fmt's text TOLD by the authors' own Lean function (tested against real Go, not proved from fmt's source: count such statements apart). THE CARD IS WHAT COUNTS. Prove the row's statement (the work); the ties are given (YtbpkfcohbefphaaGreatDoorTie.lean); close each card by the builder's one call (the guide's Derived/Test/ToyasCard.lean, 'card_holds'). Laid BY PROGRAM, IN A SANDBOX (cutbox-door.mjs). By AI agents, Wed Nov 11 2026. No macro, syntax, notation, axiom, sorry.
-/
import Derived.Test.YtbpkfcohbefphaaGreatDoorRows
import GoSem.ClaimSeven
namespace Go.Proofs.YtbpkfcohbefphaaGreatDoor
namespace Rows

/-- THE TIED CARD OF 'halfplanetop.TopKroneckerHurwitz'. -/
def topKroneckerHurwitzCard : Claim7 := { stood := { row := topKroneckerHurwitzRow, standIns := [], harness := (true, "d9b055dbadbf6e4ba88c46707921a092ea349f814e7a726280af0a82d77315cf"), looks := false }, kinds := [], alts := [], laidByText := true, laidKinds := [.data], laidTests := true, laidLooks := .later }
def TopKroneckerHurwitzCardSaid : Prop := Claim7.holds Tryz.pinned (.plain (OpenSpec.ofChange topKroneckerHurwitzSpec)) topKroneckerHurwitzCard

/-- THE TIED CARD OF 'halfplanetop.TopClassNumber'. -/
def topClassNumberCard : Claim7 := { stood := { row := topClassNumberRow, standIns := [], harness := (true, "d9b055dbadbf6e4ba88c46707921a092ea349f814e7a726280af0a82d77315cf"), looks := false }, kinds := [], alts := [], laidByText := true, laidKinds := [.data], laidTests := true, laidLooks := .later }
def TopClassNumberCardSaid : Prop := Claim7.holds Tryz.pinned (.plain (OpenSpec.ofChange topClassNumberSpec)) topClassNumberCard

/-- THE SECOND FORM's CARD OF 'halfplanetop.TopKroneckerHurwitz'. -/
def topKroneckerHurwitzUptoCard : Claim7 := { stood := { row := topKroneckerHurwitzUptoRow, standIns := [], harness := (true, "d9b055dbadbf6e4ba88c46707921a092ea349f814e7a726280af0a82d77315cf"), looks := false }, kinds := [], alts := [], laidByText := true, laidKinds := [.data], laidTests := true, laidLooks := .later }
def TopKroneckerHurwitzUptoCardSaid : Prop := Claim7.holds Tryz.pinned (.plain (OpenSpec.upto topKroneckerHurwitzSpec)) topKroneckerHurwitzUptoCard

/-- THE SECOND FORM's CARD OF 'halfplanetop.TopClassNumber'. -/
def topClassNumberUptoCard : Claim7 := { stood := { row := topClassNumberUptoRow, standIns := [], harness := (true, "d9b055dbadbf6e4ba88c46707921a092ea349f814e7a726280af0a82d77315cf"), looks := false }, kinds := [], alts := [], laidByText := true, laidKinds := [.data], laidTests := true, laidLooks := .later }
def TopClassNumberUptoCardSaid : Prop := Claim7.holds Tryz.pinned (.plain (OpenSpec.upto topClassNumberSpec)) topClassNumberUptoCard
end Rows
end Go.Proofs.YtbpkfcohbefphaaGreatDoor
