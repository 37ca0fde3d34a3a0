/-
  DERIVED. GIVEN WITH THE SEED: THE CARDS: each row of YtdddppmfeoebgaaGreatDoorRows.lean that lists a variable, with what it lists TIED to the program's text (the seventh form; the later family's looks); each row that meets fmt, with fmt's text TOLD by the authors' own Lean function (tested against real Go, not proved from fmt's source: count such statements apart). THE CARD IS WHAT COUNTS. Prove the row's statement (the work); the ties are given (YtdddppmfeoebgaaGreatDoorTie.lean); close each card by the builder's one call (the guide's Derived/Test/ToyasCard.lean, 'card_holds'). Laid BY PROGRAM, IN A SANDBOX (cutbox-door.mjs). By AI agents, Wed Nov 11 2026. No macro, syntax, notation, axiom, sorry.
-/
import Derived.Test.YtdddppmfeoebgaaGreatDoorRows
import GoSem.ClaimSeven
namespace Go.Proofs.YtdddppmfeoebgaaGreatDoor
namespace Rows

/-- THE TIED CARD OF 'soffitlaw02.TreePrints'. -/
def treePrintsCard : Claim7 := { stood := { row := treePrintsRow, standIns := [], harness := (true, "7929676ea67652b26c806d2381c6e955d9f41e57db3e4ddb749dca6fd800f804"), looks := false }, kinds := [], alts := [], laidByText := true, laidKinds := [.data, .data, .data], laidTests := true, laidLooks := .later }
def TreePrintsCardSaid : Prop := Claim7.holds Tryz.pinned (.plain (OpenSpec.ofChange treePrintsSpec)) treePrintsCard

/-- THE SECOND FORM's CARD OF 'soffitlaw02.TreePrints'. -/
def treePrintsUptoCard : Claim7 := { stood := { row := treePrintsUptoRow, standIns := [], harness := (true, "7929676ea67652b26c806d2381c6e955d9f41e57db3e4ddb749dca6fd800f804"), looks := false }, kinds := [], alts := [], laidByText := true, laidKinds := [.data, .data, .data], laidTests := true, laidLooks := .later }
def TreePrintsUptoCardSaid : Prop := Claim7.holds Tryz.pinned (.plain (OpenSpec.upto treePrintsSpec)) treePrintsUptoCard
end Rows
end Go.Proofs.YtdddppmfeoebgaaGreatDoor
