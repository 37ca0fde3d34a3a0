/-
  Layer 1 (scan): the door's own heap meets the rows' condition; bounds of lists of tokens.
-/
import Derived.Test.YtihfllkgoolkhaaDoorTokC
import Derived.Test.YtihfllkgoolkhaaDoorScanM
namespace Go.Proofs.YtihfllkgoolkhaaDoor
open Go.ChangeShapes Go.WideShapes Go.ChangeAt Go.RowKit
set_option linter.unusedSimpArgs false
set_option linter.unusedVariables false
/-- The door's own heap meets the condition. -/
theorem door_met (os : Os) (args : Array Value) : laidMetH Tryd.prog laidScan ((World.doorLaid Tryd.prog 400 os).forCall (fun _ _ => 0) ⟨#[], args, []⟩).memory :=
  laidMetH_of_parts (laidMet_of_run' 8 (by kernel_rfl) (by kernel_rfl)) (by kernel_rfl)
theorem door_shaped (os : Os) (args : Array Value) : ((World.doorLaid Tryd.prog 400 os).forCall (fun _ _ => 0) ⟨#[], args, []⟩).Shaped Tryd.prog :=
  World.shaped_of_RefB (by kernel_rfl) (by kernel_rfl)
theorem allD_len (L : List UInt8) : (allD L).toks.length ≤ 65536 := by
  unfold allD
  split
  · exact scanD_len L
  · exact Nat.zero_le _
end Go.Proofs.YtihfllkgoolkhaaDoor
