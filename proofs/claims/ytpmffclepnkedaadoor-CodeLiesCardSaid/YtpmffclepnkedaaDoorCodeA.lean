/-
  Layer 9 (code): the walks of Known, Weight, Word, Writes, and of the reference's.
-/
import Derived.Test.YtpmffclepnkedaaDoorTab
namespace Go.Proofs.YtpmffclepnkedaaDoor
open Go.RowKit

theorem known_yes {op : Int} (h : known op = true) : 0 ≤ op ∧ op < 20 := by simpa [known] using h
theorem known_no {op : Int} (h : known op = false) : op < 0 ∨ 20 ≤ op := by simp [known] at h; omega

set_option maxHeartbeats 400000 in
theorem knownP (op : Int) (w : World) :
    Calls Tryd.prog 10 #[.int .i64 op] w fun e w' => e = .returned (.bool (known op)) ∧ w = w' := by
  rcases (by omega : op < 0 ∨ (0 ≤ op ∧ op < 20) ∨ 20 ≤ op) with h | ⟨h, h'⟩ | h
  all_goals
    go_enter Tryd.func10, Tryd.ntmps10
    go_wp2
    go_ret
    exact ⟨by simp [known] <;> omega, rfl⟩

set_option maxHeartbeats 400000 in
theorem knownR (op : Int) (w : World) :
    Calls Tryd.prog 11 #[.int .i64 op] w fun e w' => e = .returned (.bool (known op)) ∧ w = w' := by
  rcases (by omega : op < 0 ∨ (0 ≤ op ∧ op < 20) ∨ 20 ≤ op) with h | ⟨h, h'⟩ | h
  all_goals
    go_enter Tryd.func11, Tryd.ntmps11
    go_wp2
    go_ret
    exact ⟨by simp [known]; (try (rw [Bool.eq_iff_iff]; simp)); omega, rfl⟩

set_option maxHeartbeats 400000 in
theorem weightP (op : Int) (w : World) (ht : TabOk w) :
    Calls Tryd.prog 12 #[.int .i64 op] w fun e w' => e = .returned (.int .i64 (weight op)) ∧ Below w.heap.size w w' := by
  cases hk : known op
  · go_enter Tryd.func12, Tryd.ntmps12
    go_wp2_with (go_at_call 10; refine (knownP _ _).mono ?_; rintro e w' ⟨rfl, rfl⟩)
    go_ret
    exact ⟨by simp [weight, hk], Below.refl _ _⟩
  · obtain ⟨h0, h1⟩ := known_yes hk
    have hc := ht.weight op.toNat (by omega)
    go_enter Tryd.func12, Tryd.ntmps12
    go_wp2_with (go_at_call 10; refine (knownP _ _).mono ?_; rintro e w' ⟨rfl, rfl⟩)
    go_ret
    exact ⟨by simp [weight, hk], Below.refl _ _⟩

set_option maxHeartbeats 400000 in
theorem wordP (op : Int) (w : World) (ht : TabOk w) :
    Calls Tryd.prog 14 #[.int .i64 op] w fun e w' => e = .returned (.string (strOf (word op))) ∧ Below w.heap.size w w' := by
  cases hk : known op
  · go_enter Tryd.func14, Tryd.ntmps14
    go_wp2_with (go_at_call 10; refine (knownP _ _).mono ?_; rintro e w' ⟨rfl, rfl⟩)
    go_ret
    exact ⟨by simp [word, hk, strOf], Below.refl _ _⟩
  · obtain ⟨h0, h1⟩ := known_yes hk
    have hc := ht.word op.toNat (by omega)
    go_enter Tryd.func14, Tryd.ntmps14
    go_wp2_with (go_at_call 10; refine (knownP _ _).mono ?_; rintro e w' ⟨rfl, rfl⟩)
    go_ret
    exact ⟨by simp [word, hk], Below.refl _ _⟩

set_option maxHeartbeats 400000 in
theorem writesP (op a b c n : Int) (w : World) (ht : TabOk w) :
    Calls Tryd.prog 16 #[.agg #[.int .i64 op, .int .i64 a, .int .i64 b, .int .i64 c, .int .i64 n]] w fun e w' => e = .returned (.int .i64 (writes op a)) ∧ Below w.heap.size w w' := by
  cases hk : known op
  · go_enter Tryd.func16, Tryd.ntmps16
    go_wp2_with (go_at_call 10; refine (knownP _ _).mono ?_; rintro e w' ⟨rfl, rfl⟩)
    go_ret
    exact ⟨by simp [writes, hk], (Below.refl _ _).alloc (Nat.le_refl _) _⟩
  · obtain ⟨h0, h1⟩ := known_yes hk
    have hc := ht.wr op.toNat (by omega)
    have hs := ht.size
    cases hw : (row op.toNat).wr <;> rw [hw] at hc
    all_goals
      go_enter Tryd.func16, Tryd.ntmps16
      go_wp2_with (go_at_call 10; refine (knownP _ _).mono ?_; rintro e w' ⟨rfl, rfl⟩)
      go_ret
      exact ⟨by simp [writes, hk, hw], (Below.refl _ _).alloc (Nat.le_refl _) _⟩
end Go.Proofs.YtpmffclepnkedaaDoor
