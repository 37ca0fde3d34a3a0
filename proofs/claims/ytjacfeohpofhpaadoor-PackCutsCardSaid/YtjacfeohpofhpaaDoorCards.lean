/-
  DERIVED. GIVEN WITH THE SEED: THE CARDS: each row of YtjacfeohpofhpaaDoorRows.lean that lists a variable, with what it lists TIED to the program's text (the seventh form; the later family's looks); each row that meets fmt, with fmt's text TOLD by the authors' own Lean function (tested against real Go, not proved from fmt's source: count such statements apart). THE CARD IS WHAT COUNTS. Prove the row's statement (the work); the ties are given (YtjacfeohpofhpaaDoorTie.lean); close each card by the builder's one call (the guide's Derived/Test/ToyasCard.lean, 'card_holds'). Laid BY PROGRAM, IN A SANDBOX (cutbox-door.mjs). By AI agents, Wed Nov 11 2026. No macro, syntax, notation, axiom, sorry.
-/
import Derived.Test.YtjacfeohpofhpaaDoorRows
import GoSem.ClaimSeven
namespace Go.Proofs.YtjacfeohpofhpaaDoor
namespace Rows

/-- THE TIED CARD OF 'soffitlaw11.PackEncodes'. -/
def packEncodesCard : Claim7 := { stood := { row := packEncodesRow, standIns := [], harness := (true, "ee34b7b1f9f6864f5ac13a0db473158690ff2aafabae5764610701762d03b039"), looks := false }, kinds := [], alts := [], laidByText := true, laidKinds := [.data], laidTests := true, laidLooks := .later }
def PackEncodesCardSaid : Prop := Claim7.holds Tryd.pinned (.plain (OpenSpec.ofChange packEncodesSpec)) packEncodesCard

/-- THE TIED CARD OF 'soffitlaw11.PackDecodes'. -/
def packDecodesCard : Claim7 := { stood := { row := packDecodesRow, standIns := [], harness := (true, "ee34b7b1f9f6864f5ac13a0db473158690ff2aafabae5764610701762d03b039"), looks := false }, kinds := [], alts := [], laidByText := true, laidKinds := [.data], laidTests := true, laidLooks := .later }
def PackDecodesCardSaid : Prop := Claim7.holds Tryd.pinned (.plain (OpenSpec.ofChange packDecodesSpec)) packDecodesCard

/-- THE TIED CARD OF 'soffitlaw11.PackBack'. -/
def packBackCard : Claim7 := { stood := { row := packBackRow, standIns := [], harness := (true, "ee34b7b1f9f6864f5ac13a0db473158690ff2aafabae5764610701762d03b039"), looks := false }, kinds := [], alts := [], laidByText := true, laidKinds := [.data], laidTests := true, laidLooks := .later }
def PackBackCardSaid : Prop := Claim7.holds Tryd.pinned (.plain (OpenSpec.ofChange packBackSpec)) packBackCard

/-- THE TIED CARD OF 'soffitlaw11.PackCuts'. -/
def packCutsCard : Claim7 := { stood := { row := packCutsRow, standIns := [], harness := (true, "ee34b7b1f9f6864f5ac13a0db473158690ff2aafabae5764610701762d03b039"), looks := false }, kinds := [], alts := [], laidByText := true, laidKinds := [.data], laidTests := true, laidLooks := .later }
def PackCutsCardSaid : Prop := Claim7.holds Tryd.pinned (.plain (OpenSpec.ofChange packCutsSpec)) packCutsCard

/-- THE SECOND FORM's CARD OF 'soffitlaw11.PackEncodes'. -/
def packEncodesUptoCard : Claim7 := { stood := { row := packEncodesUptoRow, standIns := [], harness := (true, "ee34b7b1f9f6864f5ac13a0db473158690ff2aafabae5764610701762d03b039"), looks := false }, kinds := [], alts := [], laidByText := true, laidKinds := [.data], laidTests := true, laidLooks := .later }
def PackEncodesUptoCardSaid : Prop := Claim7.holds Tryd.pinned (.plain (OpenSpec.upto packEncodesSpec)) packEncodesUptoCard

/-- THE SECOND FORM's CARD OF 'soffitlaw11.PackDecodes'. -/
def packDecodesUptoCard : Claim7 := { stood := { row := packDecodesUptoRow, standIns := [], harness := (true, "ee34b7b1f9f6864f5ac13a0db473158690ff2aafabae5764610701762d03b039"), looks := false }, kinds := [], alts := [], laidByText := true, laidKinds := [.data], laidTests := true, laidLooks := .later }
def PackDecodesUptoCardSaid : Prop := Claim7.holds Tryd.pinned (.plain (OpenSpec.upto packDecodesSpec)) packDecodesUptoCard

/-- THE SECOND FORM's CARD OF 'soffitlaw11.PackBack'. -/
def packBackUptoCard : Claim7 := { stood := { row := packBackUptoRow, standIns := [], harness := (true, "ee34b7b1f9f6864f5ac13a0db473158690ff2aafabae5764610701762d03b039"), looks := false }, kinds := [], alts := [], laidByText := true, laidKinds := [.data], laidTests := true, laidLooks := .later }
def PackBackUptoCardSaid : Prop := Claim7.holds Tryd.pinned (.plain (OpenSpec.upto packBackSpec)) packBackUptoCard

/-- THE SECOND FORM's CARD OF 'soffitlaw11.PackCuts'. -/
def packCutsUptoCard : Claim7 := { stood := { row := packCutsUptoRow, standIns := [], harness := (true, "ee34b7b1f9f6864f5ac13a0db473158690ff2aafabae5764610701762d03b039"), looks := false }, kinds := [], alts := [], laidByText := true, laidKinds := [.data], laidTests := true, laidLooks := .later }
def PackCutsUptoCardSaid : Prop := Claim7.holds Tryd.pinned (.plain (OpenSpec.upto packCutsSpec)) packCutsUptoCard
end Rows
end Go.Proofs.YtjacfeohpofhpaaDoor
