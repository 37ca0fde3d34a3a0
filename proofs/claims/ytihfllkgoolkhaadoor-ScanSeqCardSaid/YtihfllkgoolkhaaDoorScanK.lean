/-
  Layer 1 (scan): the walk of slices.Clip on a list of tokens.
-/
import Derived.Test.YtihfllkgoolkhaaDoorScanJ
namespace Go.Proofs.YtihfllkgoolkhaaDoor
open Go.RowKit
set_option linter.unusedSimpArgs false
set_option linter.unusedVariables false
theorem clipP (g n c : Nat) (h : n ≤ c) (hc : c ≤ maxLen) (w : World) : Calls Tryd.prog 22 #[.slice (some ⟨g, 0, none⟩) n c] w fun e w' => e = .returned (.slice (some ⟨g, 0, none⟩) n n) ∧ w = w' := by
  unfold maxLen at hc
  have h1 : (n : Int) ≤ (c : Int) := by omega
  go_enter Tryd.func22, Tryd.ntmps22
  go_wp2
  go_ret
  exact ⟨by first | rfl | simp, rfl⟩
theorem clipN (w : World) : Calls Tryd.prog 22 #[.slice none 0 0] w fun e w' => e = .returned (.slice none 0 0) ∧ w = w' := by
  go_enter Tryd.func22, Tryd.ntmps22
  go_wp2
  go_ret
  exact ⟨by first | rfl | simp, rfl⟩
end Go.Proofs.YtihfllkgoolkhaaDoor
