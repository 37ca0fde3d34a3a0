/-
  DERIVED. GIVEN WITH THE SEED: THE CARDS: each row of YtdddppmfeoebgaaDoorRows.lean that lists a variable, with what it lists TIED to the program's text (the seventh form; the later family's looks); each row that meets fmt, with fmt's text TOLD by the authors' own Lean function (tested against real Go, not proved from fmt's source: count such statements apart). THE CARD IS WHAT COUNTS. Prove the row's statement (the work); the ties are given (YtdddppmfeoebgaaDoorTie.lean); close each card by the builder's one call (the guide's Derived/Test/ToyasCard.lean, 'card_holds'). Laid BY PROGRAM, IN A SANDBOX (cutbox-door.mjs). By AI agents, Wed Nov 11 2026. No macro, syntax, notation, axiom, sorry.
-/
import Derived.Test.YtdddppmfeoebgaaDoorRows
import GoSem.ClaimSeven
namespace Go.Proofs.YtdddppmfeoebgaaDoor
namespace Rows

/-- THE TIED CARD OF 'soffitlaw02.TreeNames'. -/
def treeNamesCard : Claim7 := { stood := { row := treeNamesRow, standIns := [], harness := (true, "5ca79ffea8e6939b0628323009a203802dd3caffaf0806b54ad5ee8594e46dc9"), looks := false }, kinds := [], alts := [], laidByText := true, laidKinds := [.data, .data, .data], laidTests := true, laidLooks := .later }
def TreeNamesCardSaid : Prop := Claim7.holds Tryd.pinned (.plain (OpenSpec.ofChange treeNamesSpec)) treeNamesCard

/-- THE TIED CARD OF 'soffitlaw02.TreeChecks'. -/
def treeChecksCard : Claim7 := { stood := { row := treeChecksRow, standIns := [], harness := (true, "5ca79ffea8e6939b0628323009a203802dd3caffaf0806b54ad5ee8594e46dc9"), looks := false }, kinds := [], alts := [], laidByText := true, laidKinds := [.data, .data, .data], laidTests := true, laidLooks := .later }
def TreeChecksCardSaid : Prop := Claim7.holds Tryd.pinned (.plain (OpenSpec.ofChange treeChecksSpec)) treeChecksCard

/-- THE TIED CARD OF 'soffitlaw02.TreeCounts'. -/
def treeCountsCard : Claim7 := { stood := { row := treeCountsRow, standIns := [], harness := (true, "5ca79ffea8e6939b0628323009a203802dd3caffaf0806b54ad5ee8594e46dc9"), looks := false }, kinds := [], alts := [], laidByText := true, laidKinds := [.data, .data, .data], laidTests := true, laidLooks := .later }
def TreeCountsCardSaid : Prop := Claim7.holds Tryd.pinned (.plain (OpenSpec.ofChange treeCountsSpec)) treeCountsCard

/-- THE TIED CARD OF 'soffitlaw02.TreeSame'. -/
def treeSameCard : Claim7 := { stood := { row := treeSameRow, standIns := [], harness := (true, "5ca79ffea8e6939b0628323009a203802dd3caffaf0806b54ad5ee8594e46dc9"), looks := false }, kinds := [], alts := [], laidByText := true, laidKinds := [.data, .data, .data], laidTests := true, laidLooks := .later }
def TreeSameCardSaid : Prop := Claim7.holds Tryd.pinned (.plain (OpenSpec.ofChange treeSameSpec)) treeSameCard

/-- THE TIED CARD OF 'soffitlaw02.TreeJoins'. -/
def treeJoinsCard : Claim7 := { stood := { row := treeJoinsRow, standIns := [], harness := (true, "5ca79ffea8e6939b0628323009a203802dd3caffaf0806b54ad5ee8594e46dc9"), looks := false }, kinds := [], alts := [], laidByText := true, laidKinds := [.data, .data, .data], laidTests := true, laidLooks := .later }
def TreeJoinsCardSaid : Prop := Claim7.holds Tryd.pinned (.plain (OpenSpec.ofChange treeJoinsSpec)) treeJoinsCard

/-- THE TIED CARD OF 'soffitlaw02.TreeBreaks'. -/
def treeBreaksCard : Claim7 := { stood := { row := treeBreaksRow, standIns := [], harness := (true, "5ca79ffea8e6939b0628323009a203802dd3caffaf0806b54ad5ee8594e46dc9"), looks := false }, kinds := [], alts := [], laidByText := true, laidKinds := [.data, .data, .data], laidTests := true, laidLooks := .later }
def TreeBreaksCardSaid : Prop := Claim7.holds Tryd.pinned (.plain (OpenSpec.ofChange treeBreaksSpec)) treeBreaksCard

/-- THE TIED CARD OF 'soffitlaw02.TreeKeeps'. -/
def treeKeepsCard : Claim7 := { stood := { row := treeKeepsRow, standIns := [], harness := (true, "5ca79ffea8e6939b0628323009a203802dd3caffaf0806b54ad5ee8594e46dc9"), looks := false }, kinds := [], alts := [], laidByText := true, laidKinds := [.data, .data, .data], laidTests := true, laidLooks := .later }
def TreeKeepsCardSaid : Prop := Claim7.holds Tryd.pinned (.plain (OpenSpec.ofChange treeKeepsSpec)) treeKeepsCard

/-- THE TIED CARD OF 'soffitlaw02.TreeLines'. -/
def treeLinesCard : Claim7 := { stood := { row := treeLinesRow, standIns := [], harness := (true, "5ca79ffea8e6939b0628323009a203802dd3caffaf0806b54ad5ee8594e46dc9"), looks := false }, kinds := [], alts := [], laidByText := true, laidKinds := [.data, .data, .data], laidTests := true, laidLooks := .later }
def TreeLinesCardSaid : Prop := Claim7.holds Tryd.pinned (.plain (OpenSpec.ofChange treeLinesSpec)) treeLinesCard

/-- THE SECOND FORM's CARD OF 'soffitlaw02.TreeNames'. -/
def treeNamesUptoCard : Claim7 := { stood := { row := treeNamesUptoRow, standIns := [], harness := (true, "5ca79ffea8e6939b0628323009a203802dd3caffaf0806b54ad5ee8594e46dc9"), looks := false }, kinds := [], alts := [], laidByText := true, laidKinds := [.data, .data, .data], laidTests := true, laidLooks := .later }
def TreeNamesUptoCardSaid : Prop := Claim7.holds Tryd.pinned (.plain (OpenSpec.upto treeNamesSpec)) treeNamesUptoCard

/-- THE SECOND FORM's CARD OF 'soffitlaw02.TreeChecks'. -/
def treeChecksUptoCard : Claim7 := { stood := { row := treeChecksUptoRow, standIns := [], harness := (true, "5ca79ffea8e6939b0628323009a203802dd3caffaf0806b54ad5ee8594e46dc9"), looks := false }, kinds := [], alts := [], laidByText := true, laidKinds := [.data, .data, .data], laidTests := true, laidLooks := .later }
def TreeChecksUptoCardSaid : Prop := Claim7.holds Tryd.pinned (.plain (OpenSpec.upto treeChecksSpec)) treeChecksUptoCard

/-- THE SECOND FORM's CARD OF 'soffitlaw02.TreeCounts'. -/
def treeCountsUptoCard : Claim7 := { stood := { row := treeCountsUptoRow, standIns := [], harness := (true, "5ca79ffea8e6939b0628323009a203802dd3caffaf0806b54ad5ee8594e46dc9"), looks := false }, kinds := [], alts := [], laidByText := true, laidKinds := [.data, .data, .data], laidTests := true, laidLooks := .later }
def TreeCountsUptoCardSaid : Prop := Claim7.holds Tryd.pinned (.plain (OpenSpec.upto treeCountsSpec)) treeCountsUptoCard

/-- THE SECOND FORM's CARD OF 'soffitlaw02.TreeSame'. -/
def treeSameUptoCard : Claim7 := { stood := { row := treeSameUptoRow, standIns := [], harness := (true, "5ca79ffea8e6939b0628323009a203802dd3caffaf0806b54ad5ee8594e46dc9"), looks := false }, kinds := [], alts := [], laidByText := true, laidKinds := [.data, .data, .data], laidTests := true, laidLooks := .later }
def TreeSameUptoCardSaid : Prop := Claim7.holds Tryd.pinned (.plain (OpenSpec.upto treeSameSpec)) treeSameUptoCard

/-- THE SECOND FORM's CARD OF 'soffitlaw02.TreeJoins'. -/
def treeJoinsUptoCard : Claim7 := { stood := { row := treeJoinsUptoRow, standIns := [], harness := (true, "5ca79ffea8e6939b0628323009a203802dd3caffaf0806b54ad5ee8594e46dc9"), looks := false }, kinds := [], alts := [], laidByText := true, laidKinds := [.data, .data, .data], laidTests := true, laidLooks := .later }
def TreeJoinsUptoCardSaid : Prop := Claim7.holds Tryd.pinned (.plain (OpenSpec.upto treeJoinsSpec)) treeJoinsUptoCard

/-- THE SECOND FORM's CARD OF 'soffitlaw02.TreeBreaks'. -/
def treeBreaksUptoCard : Claim7 := { stood := { row := treeBreaksUptoRow, standIns := [], harness := (true, "5ca79ffea8e6939b0628323009a203802dd3caffaf0806b54ad5ee8594e46dc9"), looks := false }, kinds := [], alts := [], laidByText := true, laidKinds := [.data, .data, .data], laidTests := true, laidLooks := .later }
def TreeBreaksUptoCardSaid : Prop := Claim7.holds Tryd.pinned (.plain (OpenSpec.upto treeBreaksSpec)) treeBreaksUptoCard

/-- THE SECOND FORM's CARD OF 'soffitlaw02.TreeKeeps'. -/
def treeKeepsUptoCard : Claim7 := { stood := { row := treeKeepsUptoRow, standIns := [], harness := (true, "5ca79ffea8e6939b0628323009a203802dd3caffaf0806b54ad5ee8594e46dc9"), looks := false }, kinds := [], alts := [], laidByText := true, laidKinds := [.data, .data, .data], laidTests := true, laidLooks := .later }
def TreeKeepsUptoCardSaid : Prop := Claim7.holds Tryd.pinned (.plain (OpenSpec.upto treeKeepsSpec)) treeKeepsUptoCard

/-- THE SECOND FORM's CARD OF 'soffitlaw02.TreeLines'. -/
def treeLinesUptoCard : Claim7 := { stood := { row := treeLinesUptoRow, standIns := [], harness := (true, "5ca79ffea8e6939b0628323009a203802dd3caffaf0806b54ad5ee8594e46dc9"), looks := false }, kinds := [], alts := [], laidByText := true, laidKinds := [.data, .data, .data], laidTests := true, laidLooks := .later }
def TreeLinesUptoCardSaid : Prop := Claim7.holds Tryd.pinned (.plain (OpenSpec.upto treeLinesSpec)) treeLinesUptoCard
end Rows
end Go.Proofs.YtdddppmfeoebgaaDoor
