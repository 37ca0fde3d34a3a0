/-
  DERIVED. GIVEN WITH THE SEED: THE CARDS: each row of YtpmffclepnkedaaDoorRows.lean that lists a variable, with what it lists TIED to the program's text (the seventh form; the later family's looks); each row that meets fmt, with fmt's text TOLD by the authors' own Lean function (tested against real Go, not proved from fmt's source: count such statements apart). THE CARD IS WHAT COUNTS. Prove the row's statement (the work); the ties are given (YtpmffclepnkedaaDoorTie.lean); close each card by the builder's one call (the guide's Derived/Test/ToyasCard.lean, 'card_holds'). Laid BY PROGRAM, IN A SANDBOX (cutbox-door.mjs). By AI agents, Wed Nov 11 2026. No macro, syntax, notation, axiom, sorry.
-/
import Derived.Test.YtpmffclepnkedaaDoorRows
import GoSem.ClaimSeven
namespace Go.Proofs.YtpmffclepnkedaaDoor
namespace Rows

/-- THE TIED CARD OF 'soffitlaw09.CodeWords'. -/
def codeWordsCard : Claim7 := { stood := { row := codeWordsRow, standIns := [], harness := (true, "d59cd7c058b6c731433357da57a8a21e079b4da8dc1d609c08f31c31e763fd5e"), looks := false }, kinds := [], alts := [], laidByText := true, laidKinds := [.data], laidTests := true, laidLooks := .later }
def CodeWordsCardSaid : Prop := Claim7.holds Tryd.pinned (.plain (OpenSpec.ofChange codeWordsSpec)) codeWordsCard

/-- THE TIED CARD OF 'soffitlaw09.CodeFields'. -/
def codeFieldsCard : Claim7 := { stood := { row := codeFieldsRow, standIns := [], harness := (true, "d59cd7c058b6c731433357da57a8a21e079b4da8dc1d609c08f31c31e763fd5e"), looks := false }, kinds := [], alts := [], laidByText := true, laidKinds := [.data], laidTests := true, laidLooks := .later }
def CodeFieldsCardSaid : Prop := Claim7.holds Tryd.pinned (.plain (OpenSpec.ofChange codeFieldsSpec)) codeFieldsCard

/-- THE TIED CARD OF 'soffitlaw09.CodeMay'. -/
def codeMayCard : Claim7 := { stood := { row := codeMayRow, standIns := [], harness := (true, "d59cd7c058b6c731433357da57a8a21e079b4da8dc1d609c08f31c31e763fd5e"), looks := false }, kinds := [], alts := [], laidByText := true, laidKinds := [.data], laidTests := true, laidLooks := .later }
def CodeMayCardSaid : Prop := Claim7.holds Tryd.pinned (.plain (OpenSpec.ofChange codeMaySpec)) codeMayCard

/-- THE TIED CARD OF 'soffitlaw09.CodeFinds'. -/
def codeFindsCard : Claim7 := { stood := { row := codeFindsRow, standIns := [], harness := (true, "d59cd7c058b6c731433357da57a8a21e079b4da8dc1d609c08f31c31e763fd5e"), looks := false }, kinds := [], alts := [], laidByText := true, laidKinds := [.data], laidTests := true, laidLooks := .later }
def CodeFindsCardSaid : Prop := Claim7.holds Tryd.pinned (.plain (OpenSpec.ofChange codeFindsSpec)) codeFindsCard

/-- THE TIED CARD OF 'soffitlaw09.CodeSame'. -/
def codeSameCard : Claim7 := { stood := { row := codeSameRow, standIns := [], harness := (true, "d59cd7c058b6c731433357da57a8a21e079b4da8dc1d609c08f31c31e763fd5e"), looks := false }, kinds := [], alts := [], laidByText := true, laidKinds := [.data], laidTests := true, laidLooks := .later }
def CodeSameCardSaid : Prop := Claim7.holds Tryd.pinned (.plain (OpenSpec.ofChange codeSameSpec)) codeSameCard

/-- THE TIED CARD OF 'soffitlaw09.CodeLies'. -/
def codeLiesCard : Claim7 := { stood := { row := codeLiesRow, standIns := [], harness := (true, "d59cd7c058b6c731433357da57a8a21e079b4da8dc1d609c08f31c31e763fd5e"), looks := false }, kinds := [], alts := [], laidByText := true, laidKinds := [.data], laidTests := true, laidLooks := .later }
def CodeLiesCardSaid : Prop := Claim7.holds Tryd.pinned (.plain (OpenSpec.ofChange codeLiesSpec)) codeLiesCard

/-- THE SECOND FORM's CARD OF 'soffitlaw09.CodeWords'. -/
def codeWordsUptoCard : Claim7 := { stood := { row := codeWordsUptoRow, standIns := [], harness := (true, "d59cd7c058b6c731433357da57a8a21e079b4da8dc1d609c08f31c31e763fd5e"), looks := false }, kinds := [], alts := [], laidByText := true, laidKinds := [.data], laidTests := true, laidLooks := .later }
def CodeWordsUptoCardSaid : Prop := Claim7.holds Tryd.pinned (.plain (OpenSpec.upto codeWordsSpec)) codeWordsUptoCard

/-- THE SECOND FORM's CARD OF 'soffitlaw09.CodeFields'. -/
def codeFieldsUptoCard : Claim7 := { stood := { row := codeFieldsUptoRow, standIns := [], harness := (true, "d59cd7c058b6c731433357da57a8a21e079b4da8dc1d609c08f31c31e763fd5e"), looks := false }, kinds := [], alts := [], laidByText := true, laidKinds := [.data], laidTests := true, laidLooks := .later }
def CodeFieldsUptoCardSaid : Prop := Claim7.holds Tryd.pinned (.plain (OpenSpec.upto codeFieldsSpec)) codeFieldsUptoCard

/-- THE SECOND FORM's CARD OF 'soffitlaw09.CodeMay'. -/
def codeMayUptoCard : Claim7 := { stood := { row := codeMayUptoRow, standIns := [], harness := (true, "d59cd7c058b6c731433357da57a8a21e079b4da8dc1d609c08f31c31e763fd5e"), looks := false }, kinds := [], alts := [], laidByText := true, laidKinds := [.data], laidTests := true, laidLooks := .later }
def CodeMayUptoCardSaid : Prop := Claim7.holds Tryd.pinned (.plain (OpenSpec.upto codeMaySpec)) codeMayUptoCard

/-- THE SECOND FORM's CARD OF 'soffitlaw09.CodeFinds'. -/
def codeFindsUptoCard : Claim7 := { stood := { row := codeFindsUptoRow, standIns := [], harness := (true, "d59cd7c058b6c731433357da57a8a21e079b4da8dc1d609c08f31c31e763fd5e"), looks := false }, kinds := [], alts := [], laidByText := true, laidKinds := [.data], laidTests := true, laidLooks := .later }
def CodeFindsUptoCardSaid : Prop := Claim7.holds Tryd.pinned (.plain (OpenSpec.upto codeFindsSpec)) codeFindsUptoCard

/-- THE SECOND FORM's CARD OF 'soffitlaw09.CodeSame'. -/
def codeSameUptoCard : Claim7 := { stood := { row := codeSameUptoRow, standIns := [], harness := (true, "d59cd7c058b6c731433357da57a8a21e079b4da8dc1d609c08f31c31e763fd5e"), looks := false }, kinds := [], alts := [], laidByText := true, laidKinds := [.data], laidTests := true, laidLooks := .later }
def CodeSameUptoCardSaid : Prop := Claim7.holds Tryd.pinned (.plain (OpenSpec.upto codeSameSpec)) codeSameUptoCard

/-- THE SECOND FORM's CARD OF 'soffitlaw09.CodeLies'. -/
def codeLiesUptoCard : Claim7 := { stood := { row := codeLiesUptoRow, standIns := [], harness := (true, "d59cd7c058b6c731433357da57a8a21e079b4da8dc1d609c08f31c31e763fd5e"), looks := false }, kinds := [], alts := [], laidByText := true, laidKinds := [.data], laidTests := true, laidLooks := .later }
def CodeLiesUptoCardSaid : Prop := Claim7.holds Tryd.pinned (.plain (OpenSpec.upto codeLiesSpec)) codeLiesUptoCard
end Rows
end Go.Proofs.YtpmffclepnkedaaDoor
