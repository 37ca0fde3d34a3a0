/-
  DERIVED. GIVEN WITH THE SEED: THE CARDS: each row of YtofibaomjidieaaDoorRows.lean that lists a variable, with what it lists TIED to the program's text (the seventh form; the later family's looks); each row that meets fmt, with fmt's text TOLD by the authors' own Lean function (tested against real Go, not proved from fmt's source: count such statements apart). THE CARD IS WHAT COUNTS. Prove the row's statement (the work); the ties are given (YtofibaomjidieaaDoorTie.lean); close each card by the builder's one call (the guide's Derived/Test/ToyasCard.lean, 'card_holds'). Laid BY PROGRAM, IN A SANDBOX (cutbox-door.mjs). By AI agents, Wed Nov 11 2026. No macro, syntax, notation, axiom, sorry.
-/
import Derived.Test.YtofibaomjidieaaDoorRows
import GoSem.ClaimSeven
namespace Go.Proofs.YtofibaomjidieaaDoor
namespace Rows

/-- THE TIED CARD OF 'soffitlaw07.WideAdds'. -/
def wideAddsCard : Claim7 := { stood := { row := wideAddsRow, standIns := [], harness := (true, "dc6487000e7f1f78e266153ca8073bfe6f379cae1a34efb227e5a584d17afd84"), looks := false }, kinds := [], alts := [], laidByText := true, laidKinds := [.data, .data, .data], laidTests := true, laidLooks := .later }
def WideAddsCardSaid : Prop := Claim7.holds Tryd.pinned (.plain (OpenSpec.ofChange wideAddsSpec)) wideAddsCard

/-- THE TIED CARD OF 'soffitlaw07.WideMuls'. -/
def wideMulsCard : Claim7 := { stood := { row := wideMulsRow, standIns := [], harness := (true, "dc6487000e7f1f78e266153ca8073bfe6f379cae1a34efb227e5a584d17afd84"), looks := false }, kinds := [], alts := [], laidByText := true, laidKinds := [.data, .data, .data], laidTests := true, laidLooks := .later }
def WideMulsCardSaid : Prop := Claim7.holds Tryd.pinned (.plain (OpenSpec.ofChange wideMulsSpec)) wideMulsCard

/-- THE TIED CARD OF 'soffitlaw07.WideFits'. -/
def wideFitsCard : Claim7 := { stood := { row := wideFitsRow, standIns := [], harness := (true, "dc6487000e7f1f78e266153ca8073bfe6f379cae1a34efb227e5a584d17afd84"), looks := false }, kinds := [], alts := [], laidByText := true, laidKinds := [.data, .data, .data], laidTests := true, laidLooks := .later }
def WideFitsCardSaid : Prop := Claim7.holds Tryd.pinned (.plain (OpenSpec.ofChange wideFitsSpec)) wideFitsCard

/-- THE TIED CARD OF 'soffitlaw07.WideTexts'. -/
def wideTextsCard : Claim7 := { stood := { row := wideTextsRow, standIns := [], harness := (true, "dc6487000e7f1f78e266153ca8073bfe6f379cae1a34efb227e5a584d17afd84"), looks := false }, kinds := [], alts := [], laidByText := true, laidKinds := [.data, .data, .data], laidTests := true, laidLooks := .later }
def WideTextsCardSaid : Prop := Claim7.holds Tryd.pinned (.plain (OpenSpec.ofChange wideTextsSpec)) wideTextsCard

/-- THE TIED CARD OF 'soffitlaw07.WideParses'. -/
def wideParsesCard : Claim7 := { stood := { row := wideParsesRow, standIns := [], harness := (true, "dc6487000e7f1f78e266153ca8073bfe6f379cae1a34efb227e5a584d17afd84"), looks := false }, kinds := [], alts := [], laidByText := true, laidKinds := [.data, .data, .data], laidTests := true, laidLooks := .later }
def WideParsesCardSaid : Prop := Claim7.holds Tryd.pinned (.plain (OpenSpec.ofChange wideParsesSpec)) wideParsesCard

/-- THE TIED CARD OF 'soffitlaw07.WideBack'. -/
def wideBackCard : Claim7 := { stood := { row := wideBackRow, standIns := [], harness := (true, "dc6487000e7f1f78e266153ca8073bfe6f379cae1a34efb227e5a584d17afd84"), looks := false }, kinds := [], alts := [], laidByText := true, laidKinds := [.data, .data, .data], laidTests := true, laidLooks := .later }
def WideBackCardSaid : Prop := Claim7.holds Tryd.pinned (.plain (OpenSpec.ofChange wideBackSpec)) wideBackCard

/-- THE TIED CARD OF 'soffitlaw07.WideSums'. -/
def wideSumsCard : Claim7 := { stood := { row := wideSumsRow, standIns := [], harness := (true, "dc6487000e7f1f78e266153ca8073bfe6f379cae1a34efb227e5a584d17afd84"), looks := false }, kinds := [], alts := [], laidByText := true, laidKinds := [.data, .data, .data], laidTests := true, laidLooks := .later }
def WideSumsCardSaid : Prop := Claim7.holds Tryd.pinned (.plain (OpenSpec.ofChange wideSumsSpec)) wideSumsCard

/-- THE TIED CARD OF 'soffitlaw07.WideSpreads'. -/
def wideSpreadsCard : Claim7 := { stood := { row := wideSpreadsRow, standIns := [], harness := (true, "dc6487000e7f1f78e266153ca8073bfe6f379cae1a34efb227e5a584d17afd84"), looks := false }, kinds := [], alts := [], laidByText := true, laidKinds := [.data, .data, .data], laidTests := true, laidLooks := .later }
def WideSpreadsCardSaid : Prop := Claim7.holds Tryd.pinned (.plain (OpenSpec.ofChange wideSpreadsSpec)) wideSpreadsCard

/-- THE SECOND FORM's CARD OF 'soffitlaw07.WideAdds'. -/
def wideAddsUptoCard : Claim7 := { stood := { row := wideAddsUptoRow, standIns := [], harness := (true, "dc6487000e7f1f78e266153ca8073bfe6f379cae1a34efb227e5a584d17afd84"), looks := false }, kinds := [], alts := [], laidByText := true, laidKinds := [.data, .data, .data], laidTests := true, laidLooks := .later }
def WideAddsUptoCardSaid : Prop := Claim7.holds Tryd.pinned (.plain (OpenSpec.upto wideAddsSpec)) wideAddsUptoCard

/-- THE SECOND FORM's CARD OF 'soffitlaw07.WideMuls'. -/
def wideMulsUptoCard : Claim7 := { stood := { row := wideMulsUptoRow, standIns := [], harness := (true, "dc6487000e7f1f78e266153ca8073bfe6f379cae1a34efb227e5a584d17afd84"), looks := false }, kinds := [], alts := [], laidByText := true, laidKinds := [.data, .data, .data], laidTests := true, laidLooks := .later }
def WideMulsUptoCardSaid : Prop := Claim7.holds Tryd.pinned (.plain (OpenSpec.upto wideMulsSpec)) wideMulsUptoCard

/-- THE SECOND FORM's CARD OF 'soffitlaw07.WideFits'. -/
def wideFitsUptoCard : Claim7 := { stood := { row := wideFitsUptoRow, standIns := [], harness := (true, "dc6487000e7f1f78e266153ca8073bfe6f379cae1a34efb227e5a584d17afd84"), looks := false }, kinds := [], alts := [], laidByText := true, laidKinds := [.data, .data, .data], laidTests := true, laidLooks := .later }
def WideFitsUptoCardSaid : Prop := Claim7.holds Tryd.pinned (.plain (OpenSpec.upto wideFitsSpec)) wideFitsUptoCard

/-- THE SECOND FORM's CARD OF 'soffitlaw07.WideTexts'. -/
def wideTextsUptoCard : Claim7 := { stood := { row := wideTextsUptoRow, standIns := [], harness := (true, "dc6487000e7f1f78e266153ca8073bfe6f379cae1a34efb227e5a584d17afd84"), looks := false }, kinds := [], alts := [], laidByText := true, laidKinds := [.data, .data, .data], laidTests := true, laidLooks := .later }
def WideTextsUptoCardSaid : Prop := Claim7.holds Tryd.pinned (.plain (OpenSpec.upto wideTextsSpec)) wideTextsUptoCard

/-- THE SECOND FORM's CARD OF 'soffitlaw07.WideParses'. -/
def wideParsesUptoCard : Claim7 := { stood := { row := wideParsesUptoRow, standIns := [], harness := (true, "dc6487000e7f1f78e266153ca8073bfe6f379cae1a34efb227e5a584d17afd84"), looks := false }, kinds := [], alts := [], laidByText := true, laidKinds := [.data, .data, .data], laidTests := true, laidLooks := .later }
def WideParsesUptoCardSaid : Prop := Claim7.holds Tryd.pinned (.plain (OpenSpec.upto wideParsesSpec)) wideParsesUptoCard

/-- THE SECOND FORM's CARD OF 'soffitlaw07.WideBack'. -/
def wideBackUptoCard : Claim7 := { stood := { row := wideBackUptoRow, standIns := [], harness := (true, "dc6487000e7f1f78e266153ca8073bfe6f379cae1a34efb227e5a584d17afd84"), looks := false }, kinds := [], alts := [], laidByText := true, laidKinds := [.data, .data, .data], laidTests := true, laidLooks := .later }
def WideBackUptoCardSaid : Prop := Claim7.holds Tryd.pinned (.plain (OpenSpec.upto wideBackSpec)) wideBackUptoCard

/-- THE SECOND FORM's CARD OF 'soffitlaw07.WideSums'. -/
def wideSumsUptoCard : Claim7 := { stood := { row := wideSumsUptoRow, standIns := [], harness := (true, "dc6487000e7f1f78e266153ca8073bfe6f379cae1a34efb227e5a584d17afd84"), looks := false }, kinds := [], alts := [], laidByText := true, laidKinds := [.data, .data, .data], laidTests := true, laidLooks := .later }
def WideSumsUptoCardSaid : Prop := Claim7.holds Tryd.pinned (.plain (OpenSpec.upto wideSumsSpec)) wideSumsUptoCard

/-- THE SECOND FORM's CARD OF 'soffitlaw07.WideSpreads'. -/
def wideSpreadsUptoCard : Claim7 := { stood := { row := wideSpreadsUptoRow, standIns := [], harness := (true, "dc6487000e7f1f78e266153ca8073bfe6f379cae1a34efb227e5a584d17afd84"), looks := false }, kinds := [], alts := [], laidByText := true, laidKinds := [.data, .data, .data], laidTests := true, laidLooks := .later }
def WideSpreadsUptoCardSaid : Prop := Claim7.holds Tryd.pinned (.plain (OpenSpec.upto wideSpreadsSpec)) wideSpreadsUptoCard
end Rows
end Go.Proofs.YtofibaomjidieaaDoor
