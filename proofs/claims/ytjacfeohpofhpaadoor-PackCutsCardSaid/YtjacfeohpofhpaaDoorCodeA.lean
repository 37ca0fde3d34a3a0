/-
  Layer 9 (code): the walks of Known, Weight, Word, Writes, and of the reference's.
-/
import Derived.Test.YtjacfeohpofhpaaDoorTab
namespace Go.Proofs.YtjacfeohpofhpaaDoor
open Go.RowKit

theorem known_yes {op : Int} (h : known op = true) : 0 ≤ op ∧ op < 20 := by simpa [known] using h
theorem known_no {op : Int} (h : known op = false) : op < 0 ∨ 20 ≤ op := by simp [known] at h; omega

set_option maxHeartbeats 400000 in
theorem knownP (op : Int) (w : World) :
    Calls Tryd.prog 37 #[.int .i64 op] w fun e w' => e = .returned (.bool (known op)) ∧ w = w' := by
  rcases (by omega : op < 0 ∨ (0 ≤ op ∧ op < 20) ∨ 20 ≤ op) with h | ⟨h, h'⟩ | h
  all_goals
    go_enter Tryd.func37, Tryd.ntmps37
    go_wp2
    go_ret
    exact ⟨by simp [known] <;> omega, rfl⟩

set_option maxHeartbeats 400000 in
theorem knownR (op : Int) (w : World) :
    Calls Tryd.prog 39 #[.int .i64 op] w fun e w' => e = .returned (.bool (known op)) ∧ w = w' := by
  rcases (by omega : op < 0 ∨ (0 ≤ op ∧ op < 20) ∨ 20 ≤ op) with h | ⟨h, h'⟩ | h
  all_goals
    go_enter Tryd.func39, Tryd.ntmps39
    go_wp2
    go_ret
    exact ⟨by simp [known]; (try (rw [Bool.eq_iff_iff]; simp)); omega, rfl⟩

end Go.Proofs.YtjacfeohpofhpaaDoor
