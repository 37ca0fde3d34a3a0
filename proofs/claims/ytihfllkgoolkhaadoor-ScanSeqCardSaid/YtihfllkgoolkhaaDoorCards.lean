/-
  DERIVED. GIVEN WITH THE SEED: THE CARDS: each row of YtihfllkgoolkhaaDoorRows.lean that lists a variable, with what it lists TIED to the program's text (the seventh form; the later family's looks); each row that meets fmt, with fmt's text TOLD by the authors' own Lean function (tested against real Go, not proved from fmt's source: count such statements apart). THE CARD IS WHAT COUNTS. Prove the row's statement (the work); the ties are given (YtihfllkgoolkhaaDoorTie.lean); close each card by the builder's one call (the guide's Derived/Test/ToyasCard.lean, 'card_holds'). Laid BY PROGRAM, IN A SANDBOX (cutbox-door.mjs). By AI agents, Wed Nov 11 2026. No macro, syntax, notation, axiom, sorry.
-/
import Derived.Test.YtihfllkgoolkhaaDoorRows
import GoSem.ClaimSeven
namespace Go.Proofs.YtihfllkgoolkhaaDoor
namespace Rows

/-- THE TIED CARD OF 'soffitlaw01.ScanNames'. -/
def scanNamesCard : Claim7 := { stood := { row := scanNamesRow, standIns := [], harness := (true, "498c1c7d5dd8f767f1819776173d9c5c4f0bc672ed746c6ffe697b7e1bb0658b"), looks := true }, kinds := [], alts := [], laidByText := true, laidKinds := [.data, .data, .data, .sentinel, .sentinel], laidTests := true, laidLooks := .later }
def ScanNamesCardSaid : Prop := Claim7.holds Tryd.pinned (.plain (OpenSpec.ofChange scanNamesSpec)) scanNamesCard

/-- THE TIED CARD OF 'soffitlaw01.ScanAll'. -/
def scanAllCard : Claim7 := { stood := { row := scanAllRow, standIns := [], harness := (true, "498c1c7d5dd8f767f1819776173d9c5c4f0bc672ed746c6ffe697b7e1bb0658b"), looks := true }, kinds := [], alts := [], laidByText := true, laidKinds := [.data, .data, .data, .sentinel, .sentinel], laidTests := true, laidLooks := .later }
def ScanAllCardSaid : Prop := Claim7.holds Tryd.pinned (.plain (OpenSpec.ofChange scanAllSpec)) scanAllCard

/-- THE TIED CARD OF 'soffitlaw01.ScanWhole'. -/
def scanWholeCard : Claim7 := { stood := { row := scanWholeRow, standIns := [], harness := (true, "498c1c7d5dd8f767f1819776173d9c5c4f0bc672ed746c6ffe697b7e1bb0658b"), looks := true }, kinds := [], alts := [], laidByText := true, laidKinds := [.data, .data, .data, .sentinel, .sentinel], laidTests := true, laidLooks := .later }
def ScanWholeCardSaid : Prop := Claim7.holds Tryd.pinned (.plain (OpenSpec.ofChange scanWholeSpec)) scanWholeCard

/-- THE TIED CARD OF 'soffitlaw01.ScanPieces'. -/
def scanPiecesCard : Claim7 := { stood := { row := scanPiecesRow, standIns := [], harness := (true, "498c1c7d5dd8f767f1819776173d9c5c4f0bc672ed746c6ffe697b7e1bb0658b"), looks := true }, kinds := [], alts := [], laidByText := true, laidKinds := [.data, .data, .data, .sentinel, .sentinel], laidTests := true, laidLooks := .later }
def ScanPiecesCardSaid : Prop := Claim7.holds Tryd.pinned (.plain (OpenSpec.ofChange scanPiecesSpec)) scanPiecesCard

/-- THE TIED CARD OF 'soffitlaw01.ScanWords'. -/
def scanWordsCard : Claim7 := { stood := { row := scanWordsRow, standIns := [], harness := (true, "498c1c7d5dd8f767f1819776173d9c5c4f0bc672ed746c6ffe697b7e1bb0658b"), looks := true }, kinds := [], alts := [], laidByText := true, laidKinds := [.data, .data, .data, .sentinel, .sentinel], laidTests := true, laidLooks := .later }
def ScanWordsCardSaid : Prop := Claim7.holds Tryd.pinned (.plain (OpenSpec.ofChange scanWordsSpec)) scanWordsCard

/-- THE TIED CARD OF 'soffitlaw01.ScanKeeps'. -/
def scanKeepsCard : Claim7 := { stood := { row := scanKeepsRow, standIns := [], harness := (true, "498c1c7d5dd8f767f1819776173d9c5c4f0bc672ed746c6ffe697b7e1bb0658b"), looks := true }, kinds := [], alts := [], laidByText := true, laidKinds := [.data, .data, .data, .sentinel, .sentinel], laidTests := true, laidLooks := .later }
def ScanKeepsCardSaid : Prop := Claim7.holds Tryd.pinned (.plain (OpenSpec.ofChange scanKeepsSpec)) scanKeepsCard

/-- THE TIED CARD OF 'soffitlaw01.ScanSeq'. -/
def scanSeqCard : Claim7 := { stood := { row := scanSeqRow, standIns := [], harness := (true, "498c1c7d5dd8f767f1819776173d9c5c4f0bc672ed746c6ffe697b7e1bb0658b"), looks := true }, kinds := [], alts := [], laidByText := true, laidKinds := [.data, .data, .data, .sentinel, .sentinel], laidTests := true, laidLooks := .later }
def ScanSeqCardSaid : Prop := Claim7.holds Tryd.pinned (.plain (OpenSpec.ofChange scanSeqSpec)) scanSeqCard

/-- THE SECOND FORM's CARD OF 'soffitlaw01.ScanNames'. -/
def scanNamesUptoCard : Claim7 := { stood := { row := scanNamesUptoRow, standIns := [], harness := (true, "498c1c7d5dd8f767f1819776173d9c5c4f0bc672ed746c6ffe697b7e1bb0658b"), looks := true }, kinds := [], alts := [], laidByText := true, laidKinds := [.data, .data, .data, .sentinel, .sentinel], laidTests := true, laidLooks := .later }
def ScanNamesUptoCardSaid : Prop := Claim7.holds Tryd.pinned (.plain (OpenSpec.upto scanNamesSpec)) scanNamesUptoCard

/-- THE SECOND FORM's CARD OF 'soffitlaw01.ScanAll'. -/
def scanAllUptoCard : Claim7 := { stood := { row := scanAllUptoRow, standIns := [], harness := (true, "498c1c7d5dd8f767f1819776173d9c5c4f0bc672ed746c6ffe697b7e1bb0658b"), looks := true }, kinds := [], alts := [], laidByText := true, laidKinds := [.data, .data, .data, .sentinel, .sentinel], laidTests := true, laidLooks := .later }
def ScanAllUptoCardSaid : Prop := Claim7.holds Tryd.pinned (.plain (OpenSpec.upto scanAllSpec)) scanAllUptoCard

/-- THE SECOND FORM's CARD OF 'soffitlaw01.ScanWhole'. -/
def scanWholeUptoCard : Claim7 := { stood := { row := scanWholeUptoRow, standIns := [], harness := (true, "498c1c7d5dd8f767f1819776173d9c5c4f0bc672ed746c6ffe697b7e1bb0658b"), looks := true }, kinds := [], alts := [], laidByText := true, laidKinds := [.data, .data, .data, .sentinel, .sentinel], laidTests := true, laidLooks := .later }
def ScanWholeUptoCardSaid : Prop := Claim7.holds Tryd.pinned (.plain (OpenSpec.upto scanWholeSpec)) scanWholeUptoCard

/-- THE SECOND FORM's CARD OF 'soffitlaw01.ScanPieces'. -/
def scanPiecesUptoCard : Claim7 := { stood := { row := scanPiecesUptoRow, standIns := [], harness := (true, "498c1c7d5dd8f767f1819776173d9c5c4f0bc672ed746c6ffe697b7e1bb0658b"), looks := true }, kinds := [], alts := [], laidByText := true, laidKinds := [.data, .data, .data, .sentinel, .sentinel], laidTests := true, laidLooks := .later }
def ScanPiecesUptoCardSaid : Prop := Claim7.holds Tryd.pinned (.plain (OpenSpec.upto scanPiecesSpec)) scanPiecesUptoCard

/-- THE SECOND FORM's CARD OF 'soffitlaw01.ScanWords'. -/
def scanWordsUptoCard : Claim7 := { stood := { row := scanWordsUptoRow, standIns := [], harness := (true, "498c1c7d5dd8f767f1819776173d9c5c4f0bc672ed746c6ffe697b7e1bb0658b"), looks := true }, kinds := [], alts := [], laidByText := true, laidKinds := [.data, .data, .data, .sentinel, .sentinel], laidTests := true, laidLooks := .later }
def ScanWordsUptoCardSaid : Prop := Claim7.holds Tryd.pinned (.plain (OpenSpec.upto scanWordsSpec)) scanWordsUptoCard

/-- THE SECOND FORM's CARD OF 'soffitlaw01.ScanKeeps'. -/
def scanKeepsUptoCard : Claim7 := { stood := { row := scanKeepsUptoRow, standIns := [], harness := (true, "498c1c7d5dd8f767f1819776173d9c5c4f0bc672ed746c6ffe697b7e1bb0658b"), looks := true }, kinds := [], alts := [], laidByText := true, laidKinds := [.data, .data, .data, .sentinel, .sentinel], laidTests := true, laidLooks := .later }
def ScanKeepsUptoCardSaid : Prop := Claim7.holds Tryd.pinned (.plain (OpenSpec.upto scanKeepsSpec)) scanKeepsUptoCard

/-- THE SECOND FORM's CARD OF 'soffitlaw01.ScanSeq'. -/
def scanSeqUptoCard : Claim7 := { stood := { row := scanSeqUptoRow, standIns := [], harness := (true, "498c1c7d5dd8f767f1819776173d9c5c4f0bc672ed746c6ffe697b7e1bb0658b"), looks := true }, kinds := [], alts := [], laidByText := true, laidKinds := [.data, .data, .data, .sentinel, .sentinel], laidTests := true, laidLooks := .later }
def ScanSeqUptoCardSaid : Prop := Claim7.holds Tryd.pinned (.plain (OpenSpec.upto scanSeqSpec)) scanSeqUptoCard
end Rows
end Go.Proofs.YtihfllkgoolkhaaDoor
