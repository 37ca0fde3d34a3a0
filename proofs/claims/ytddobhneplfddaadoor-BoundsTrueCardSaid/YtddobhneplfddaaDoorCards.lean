/-
  DERIVED. GIVEN WITH THE SEED: THE CARDS: each row of YtddobhneplfddaaDoorRows.lean that lists a variable, with what it lists TIED to the program's text (the seventh form; the later family's looks); each row that meets fmt, with fmt's text TOLD by the authors' own Lean function (tested against real Go, not proved from fmt's source: count such statements apart). THE CARD IS WHAT COUNTS. Prove the row's statement (the work); the ties are given (YtddobhneplfddaaDoorTie.lean); close each card by the builder's one call (the guide's Derived/Test/ToyasCard.lean, 'card_holds'). Laid BY PROGRAM, IN A SANDBOX (cutbox-door.mjs). By AI agents, Wed Nov 11 2026. No macro, syntax, notation, axiom, sorry.
-/
import Derived.Test.YtddobhneplfddaaDoorRows
import GoSem.ClaimSeven
namespace Go.Proofs.YtddobhneplfddaaDoor
namespace Rows

/-- THE TIED CARD OF 'soffitlaw16.BoundsEdge'. -/
def boundsEdgeCard : Claim7 := { stood := { row := boundsEdgeRow, standIns := [], harness := (true, "dd8566cd06f5825d1ed06b172c28b3711d34170abe030fe3af1c548bf67b6302"), looks := false }, kinds := [], alts := [], laidByText := true, laidKinds := [.data], laidTests := true, laidLooks := .later }
def BoundsEdgeCardSaid : Prop := Claim7.holds Tryd.pinned (.plain (OpenSpec.ofChange boundsEdgeSpec)) boundsEdgeCard

/-- THE TIED CARD OF 'soffitlaw16.BoundsRun'. -/
def boundsRunCard : Claim7 := { stood := { row := boundsRunRow, standIns := [], harness := (true, "dd8566cd06f5825d1ed06b172c28b3711d34170abe030fe3af1c548bf67b6302"), looks := false }, kinds := [], alts := [], laidByText := true, laidKinds := [.data], laidTests := true, laidLooks := .later }
def BoundsRunCardSaid : Prop := Claim7.holds Tryd.pinned (.plain (OpenSpec.ofChange boundsRunSpec)) boundsRunCard

/-- THE TIED CARD OF 'soffitlaw16.BoundsFew'. -/
def boundsFewCard : Claim7 := { stood := { row := boundsFewRow, standIns := [], harness := (true, "dd8566cd06f5825d1ed06b172c28b3711d34170abe030fe3af1c548bf67b6302"), looks := false }, kinds := [], alts := [], laidByText := true, laidKinds := [.data], laidTests := true, laidLooks := .later }
def BoundsFewCardSaid : Prop := Claim7.holds Tryd.pinned (.plain (OpenSpec.ofChange boundsFewSpec)) boundsFewCard

/-- THE TIED CARD OF 'soffitlaw16.BoundsCloses'. -/
def boundsClosesCard : Claim7 := { stood := { row := boundsClosesRow, standIns := [], harness := (true, "dd8566cd06f5825d1ed06b172c28b3711d34170abe030fe3af1c548bf67b6302"), looks := false }, kinds := [], alts := [], laidByText := true, laidKinds := [.data], laidTests := true, laidLooks := .later }
def BoundsClosesCardSaid : Prop := Claim7.holds Tryd.pinned (.plain (OpenSpec.ofChange boundsClosesSpec)) boundsClosesCard

/-- THE TIED CARD OF 'soffitlaw16.BoundsWay'. -/
def boundsWayCard : Claim7 := { stood := { row := boundsWayRow, standIns := [], harness := (true, "dd8566cd06f5825d1ed06b172c28b3711d34170abe030fe3af1c548bf67b6302"), looks := false }, kinds := [], alts := [], laidByText := true, laidKinds := [.data], laidTests := true, laidLooks := .later }
def BoundsWayCardSaid : Prop := Claim7.holds Tryd.pinned (.plain (OpenSpec.ofChange boundsWaySpec)) boundsWayCard

/-- THE TIED CARD OF 'soffitlaw16.BoundsTrue'. -/
def boundsTrueCard : Claim7 := { stood := { row := boundsTrueRow, standIns := [], harness := (true, "dd8566cd06f5825d1ed06b172c28b3711d34170abe030fe3af1c548bf67b6302"), looks := false }, kinds := [], alts := [], laidByText := true, laidKinds := [.data], laidTests := true, laidLooks := .later }
def BoundsTrueCardSaid : Prop := Claim7.holds Tryd.pinned (.plain (OpenSpec.ofChange boundsTrueSpec)) boundsTrueCard

/-- THE SECOND FORM's CARD OF 'soffitlaw16.BoundsEdge'. -/
def boundsEdgeUptoCard : Claim7 := { stood := { row := boundsEdgeUptoRow, standIns := [], harness := (true, "dd8566cd06f5825d1ed06b172c28b3711d34170abe030fe3af1c548bf67b6302"), looks := false }, kinds := [], alts := [], laidByText := true, laidKinds := [.data], laidTests := true, laidLooks := .later }
def BoundsEdgeUptoCardSaid : Prop := Claim7.holds Tryd.pinned (.plain (OpenSpec.upto boundsEdgeSpec)) boundsEdgeUptoCard

/-- THE SECOND FORM's CARD OF 'soffitlaw16.BoundsRun'. -/
def boundsRunUptoCard : Claim7 := { stood := { row := boundsRunUptoRow, standIns := [], harness := (true, "dd8566cd06f5825d1ed06b172c28b3711d34170abe030fe3af1c548bf67b6302"), looks := false }, kinds := [], alts := [], laidByText := true, laidKinds := [.data], laidTests := true, laidLooks := .later }
def BoundsRunUptoCardSaid : Prop := Claim7.holds Tryd.pinned (.plain (OpenSpec.upto boundsRunSpec)) boundsRunUptoCard

/-- THE SECOND FORM's CARD OF 'soffitlaw16.BoundsFew'. -/
def boundsFewUptoCard : Claim7 := { stood := { row := boundsFewUptoRow, standIns := [], harness := (true, "dd8566cd06f5825d1ed06b172c28b3711d34170abe030fe3af1c548bf67b6302"), looks := false }, kinds := [], alts := [], laidByText := true, laidKinds := [.data], laidTests := true, laidLooks := .later }
def BoundsFewUptoCardSaid : Prop := Claim7.holds Tryd.pinned (.plain (OpenSpec.upto boundsFewSpec)) boundsFewUptoCard

/-- THE SECOND FORM's CARD OF 'soffitlaw16.BoundsCloses'. -/
def boundsClosesUptoCard : Claim7 := { stood := { row := boundsClosesUptoRow, standIns := [], harness := (true, "dd8566cd06f5825d1ed06b172c28b3711d34170abe030fe3af1c548bf67b6302"), looks := false }, kinds := [], alts := [], laidByText := true, laidKinds := [.data], laidTests := true, laidLooks := .later }
def BoundsClosesUptoCardSaid : Prop := Claim7.holds Tryd.pinned (.plain (OpenSpec.upto boundsClosesSpec)) boundsClosesUptoCard

/-- THE SECOND FORM's CARD OF 'soffitlaw16.BoundsWay'. -/
def boundsWayUptoCard : Claim7 := { stood := { row := boundsWayUptoRow, standIns := [], harness := (true, "dd8566cd06f5825d1ed06b172c28b3711d34170abe030fe3af1c548bf67b6302"), looks := false }, kinds := [], alts := [], laidByText := true, laidKinds := [.data], laidTests := true, laidLooks := .later }
def BoundsWayUptoCardSaid : Prop := Claim7.holds Tryd.pinned (.plain (OpenSpec.upto boundsWaySpec)) boundsWayUptoCard

/-- THE SECOND FORM's CARD OF 'soffitlaw16.BoundsTrue'. -/
def boundsTrueUptoCard : Claim7 := { stood := { row := boundsTrueUptoRow, standIns := [], harness := (true, "dd8566cd06f5825d1ed06b172c28b3711d34170abe030fe3af1c548bf67b6302"), looks := false }, kinds := [], alts := [], laidByText := true, laidKinds := [.data], laidTests := true, laidLooks := .later }
def BoundsTrueUptoCardSaid : Prop := Claim7.holds Tryd.pinned (.plain (OpenSpec.upto boundsTrueSpec)) boundsTrueUptoCard
end Rows
end Go.Proofs.YtddobhneplfddaaDoor
