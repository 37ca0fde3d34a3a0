/-
  Layer 9 (code): Word of the reference.
-/
import Derived.Test.YtpmffclepnkedaaDoorRefA
namespace Go.Proofs.YtpmffclepnkedaaDoor
open Go.RowKit
set_option linter.unusedSimpArgs false
set_option linter.unusedVariables false
attribute [local go_sem ↓] Go.wp_at_zero Go.wp_at_succ

set_option maxHeartbeats 1000000 in
theorem wordR_no (op : Int) (hk : known op = false) (w : World) : Calls Tryd.prog 15 #[.int .i64 op] w fun e w' => e = .returned (.string (strOf [])) ∧ Below w.heap.size w w' := by
  go_enter Tryd.func15, Tryd.ntmps15
  go_wp2_with (first | (go_at_call 11; refine (knownR _ _).mono ?_; rintro e w' ⟨rfl, rfl⟩) | (go_at_call 28; go_in))
  go_ret
  exact ⟨by first | rfl | simp, (by repeat (first | exact Below.refl _ _ | with_reducible apply below_alloc))⟩

set_option maxHeartbeats 1000000 in
theorem wordR_0 (w : World) : Calls Tryd.prog 15 #[.int .i64 0] w fun e w' => e = .returned (.string (strOf [114, 101, 116])) ∧ Below w.heap.size w w' := by
  have hk : known 0 = true := rfl
  go_enter Tryd.func15, Tryd.ntmps15
  go_wp2_with (first | (go_at_call 11; refine (knownR _ _).mono ?_; rintro e w' ⟨rfl, rfl⟩) | (go_at_call 28; go_in))
  go_ret
  exact ⟨by first | rfl | simp, (by repeat (first | exact Below.refl _ _ | with_reducible apply below_alloc))⟩

set_option maxHeartbeats 1000000 in
theorem wordR_1 (w : World) : Calls Tryd.prog 15 #[.int .i64 1] w fun e w' => e = .returned (.string (strOf [115, 101, 116])) ∧ Below w.heap.size w w' := by
  have hk : known 1 = true := rfl
  go_enter Tryd.func15, Tryd.ntmps15
  go_wp2_with (first | (go_at_call 11; refine (knownR _ _).mono ?_; rintro e w' ⟨rfl, rfl⟩) | (go_at_call 28; go_in))
  go_ret
  exact ⟨by first | rfl | simp, (by repeat (first | exact Below.refl _ _ | with_reducible apply below_alloc))⟩

set_option maxHeartbeats 1000000 in
theorem wordR_2 (w : World) : Calls Tryd.prog 15 #[.int .i64 2] w fun e w' => e = .returned (.string (strOf [109, 111, 118, 101])) ∧ Below w.heap.size w w' := by
  have hk : known 2 = true := rfl
  go_enter Tryd.func15, Tryd.ntmps15
  go_wp2_with (first | (go_at_call 11; refine (knownR _ _).mono ?_; rintro e w' ⟨rfl, rfl⟩) | (go_at_call 28; go_in))
  go_ret
  exact ⟨by first | rfl | simp, (by repeat (first | exact Below.refl _ _ | with_reducible apply below_alloc))⟩

set_option maxHeartbeats 1000000 in
theorem wordR_3 (w : World) : Calls Tryd.prog 15 #[.int .i64 3] w fun e w' => e = .returned (.string (strOf [97, 100, 100])) ∧ Below w.heap.size w w' := by
  have hk : known 3 = true := rfl
  go_enter Tryd.func15, Tryd.ntmps15
  go_wp2_with (first | (go_at_call 11; refine (knownR _ _).mono ?_; rintro e w' ⟨rfl, rfl⟩) | (go_at_call 28; go_in))
  go_ret
  exact ⟨by first | rfl | simp, (by repeat (first | exact Below.refl _ _ | with_reducible apply below_alloc))⟩

set_option maxHeartbeats 1000000 in
theorem wordR_4 (w : World) : Calls Tryd.prog 15 #[.int .i64 4] w fun e w' => e = .returned (.string (strOf [115, 117, 98])) ∧ Below w.heap.size w w' := by
  have hk : known 4 = true := rfl
  go_enter Tryd.func15, Tryd.ntmps15
  go_wp2_with (first | (go_at_call 11; refine (knownR _ _).mono ?_; rintro e w' ⟨rfl, rfl⟩) | (go_at_call 28; go_in))
  go_ret
  exact ⟨by first | rfl | simp, (by repeat (first | exact Below.refl _ _ | with_reducible apply below_alloc))⟩

set_option maxHeartbeats 1000000 in
theorem wordR_5 (w : World) : Calls Tryd.prog 15 #[.int .i64 5] w fun e w' => e = .returned (.string (strOf [109, 117, 108])) ∧ Below w.heap.size w w' := by
  have hk : known 5 = true := rfl
  go_enter Tryd.func15, Tryd.ntmps15
  go_wp2_with (first | (go_at_call 11; refine (knownR _ _).mono ?_; rintro e w' ⟨rfl, rfl⟩) | (go_at_call 28; go_in))
  go_ret
  exact ⟨by first | rfl | simp, (by repeat (first | exact Below.refl _ _ | with_reducible apply below_alloc))⟩

set_option maxHeartbeats 1000000 in
theorem wordR_6 (w : World) : Calls Tryd.prog 15 #[.int .i64 6] w fun e w' => e = .returned (.string (strOf [100, 105, 118])) ∧ Below w.heap.size w w' := by
  have hk : known 6 = true := rfl
  go_enter Tryd.func15, Tryd.ntmps15
  go_wp2_with (first | (go_at_call 11; refine (knownR _ _).mono ?_; rintro e w' ⟨rfl, rfl⟩) | (go_at_call 28; go_in))
  go_ret
  exact ⟨by first | rfl | simp, (by repeat (first | exact Below.refl _ _ | with_reducible apply below_alloc))⟩

set_option maxHeartbeats 1000000 in
theorem wordR_7 (w : World) : Calls Tryd.prog 15 #[.int .i64 7] w fun e w' => e = .returned (.string (strOf [114, 101, 109])) ∧ Below w.heap.size w w' := by
  have hk : known 7 = true := rfl
  go_enter Tryd.func15, Tryd.ntmps15
  go_wp2_with (first | (go_at_call 11; refine (knownR _ _).mono ?_; rintro e w' ⟨rfl, rfl⟩) | (go_at_call 28; go_in))
  go_ret
  exact ⟨by first | rfl | simp, (by repeat (first | exact Below.refl _ _ | with_reducible apply below_alloc))⟩

set_option maxHeartbeats 1000000 in
theorem wordR_8 (w : World) : Calls Tryd.prog 15 #[.int .i64 8] w fun e w' => e = .returned (.string (strOf [108, 101, 115, 115])) ∧ Below w.heap.size w w' := by
  have hk : known 8 = true := rfl
  go_enter Tryd.func15, Tryd.ntmps15
  go_wp2_with (first | (go_at_call 11; refine (knownR _ _).mono ?_; rintro e w' ⟨rfl, rfl⟩) | (go_at_call 28; go_in))
  go_ret
  exact ⟨by first | rfl | simp, (by repeat (first | exact Below.refl _ _ | with_reducible apply below_alloc))⟩

set_option maxHeartbeats 1000000 in
theorem wordR_9 (w : World) : Calls Tryd.prog 15 #[.int .i64 9] w fun e w' => e = .returned (.string (strOf [101, 113, 117, 97, 108])) ∧ Below w.heap.size w w' := by
  have hk : known 9 = true := rfl
  go_enter Tryd.func15, Tryd.ntmps15
  go_wp2_with (first | (go_at_call 11; refine (knownR _ _).mono ?_; rintro e w' ⟨rfl, rfl⟩) | (go_at_call 28; go_in))
  go_ret
  exact ⟨by first | rfl | simp, (by repeat (first | exact Below.refl _ _ | with_reducible apply below_alloc))⟩

set_option maxHeartbeats 1000000 in
theorem wordR_10 (w : World) : Calls Tryd.prog 15 #[.int .i64 10] w fun e w' => e = .returned (.string (strOf [110, 111, 116])) ∧ Below w.heap.size w w' := by
  have hk : known 10 = true := rfl
  go_enter Tryd.func15, Tryd.ntmps15
  go_wp2_with (first | (go_at_call 11; refine (knownR _ _).mono ?_; rintro e w' ⟨rfl, rfl⟩) | (go_at_call 28; go_in))
  go_ret
  exact ⟨by first | rfl | simp, (by repeat (first | exact Below.refl _ _ | with_reducible apply below_alloc))⟩

set_option maxHeartbeats 1000000 in
theorem wordR_11 (w : World) : Calls Tryd.prog 15 #[.int .i64 11] w fun e w' => e = .returned (.string (strOf [108, 111, 97, 100])) ∧ Below w.heap.size w w' := by
  have hk : known 11 = true := rfl
  go_enter Tryd.func15, Tryd.ntmps15
  go_wp2_with (first | (go_at_call 11; refine (knownR _ _).mono ?_; rintro e w' ⟨rfl, rfl⟩) | (go_at_call 28; go_in))
  go_ret
  exact ⟨by first | rfl | simp, (by repeat (first | exact Below.refl _ _ | with_reducible apply below_alloc))⟩

set_option maxHeartbeats 1000000 in
theorem wordR_12 (w : World) : Calls Tryd.prog 15 #[.int .i64 12] w fun e w' => e = .returned (.string (strOf [115, 116, 111, 114, 101])) ∧ Below w.heap.size w w' := by
  have hk : known 12 = true := rfl
  go_enter Tryd.func15, Tryd.ntmps15
  go_wp2_with (first | (go_at_call 11; refine (knownR _ _).mono ?_; rintro e w' ⟨rfl, rfl⟩) | (go_at_call 28; go_in))
  go_ret
  exact ⟨by first | rfl | simp, (by repeat (first | exact Below.refl _ _ | with_reducible apply below_alloc))⟩

set_option maxHeartbeats 1000000 in
theorem wordR_13 (w : World) : Calls Tryd.prog 15 #[.int .i64 13] w fun e w' => e = .returned (.string (strOf [99, 104, 101, 99, 107])) ∧ Below w.heap.size w w' := by
  have hk : known 13 = true := rfl
  go_enter Tryd.func15, Tryd.ntmps15
  go_wp2_with (first | (go_at_call 11; refine (knownR _ _).mono ?_; rintro e w' ⟨rfl, rfl⟩) | (go_at_call 28; go_in))
  go_ret
  exact ⟨by first | rfl | simp, (by repeat (first | exact Below.refl _ _ | with_reducible apply below_alloc))⟩

set_option maxHeartbeats 1000000 in
theorem wordR_14 (w : World) : Calls Tryd.prog 15 #[.int .i64 14] w fun e w' => e = .returned (.string (strOf [106, 117, 109, 112])) ∧ Below w.heap.size w w' := by
  have hk : known 14 = true := rfl
  go_enter Tryd.func15, Tryd.ntmps15
  go_wp2_with (first | (go_at_call 11; refine (knownR _ _).mono ?_; rintro e w' ⟨rfl, rfl⟩) | (go_at_call 28; go_in))
  go_ret
  exact ⟨by first | rfl | simp, (by repeat (first | exact Below.refl _ _ | with_reducible apply below_alloc))⟩

set_option maxHeartbeats 1000000 in
theorem wordR_15 (w : World) : Calls Tryd.prog 15 #[.int .i64 15] w fun e w' => e = .returned (.string (strOf [105, 102])) ∧ Below w.heap.size w w' := by
  have hk : known 15 = true := rfl
  go_enter Tryd.func15, Tryd.ntmps15
  go_wp2_with (first | (go_at_call 11; refine (knownR _ _).mono ?_; rintro e w' ⟨rfl, rfl⟩) | (go_at_call 28; go_in))
  go_ret
  exact ⟨by first | rfl | simp, (by repeat (first | exact Below.refl _ _ | with_reducible apply below_alloc))⟩

set_option maxHeartbeats 1000000 in
theorem wordR_16 (w : World) : Calls Tryd.prog 15 #[.int .i64 16] w fun e w' => e = .returned (.string (strOf [117, 110, 108, 101, 115, 115])) ∧ Below w.heap.size w w' := by
  have hk : known 16 = true := rfl
  go_enter Tryd.func15, Tryd.ntmps15
  go_wp2_with (first | (go_at_call 11; refine (knownR _ _).mono ?_; rintro e w' ⟨rfl, rfl⟩) | (go_at_call 28; go_in))
  go_ret
  exact ⟨by first | rfl | simp, (by repeat (first | exact Below.refl _ _ | with_reducible apply below_alloc))⟩

set_option maxHeartbeats 1000000 in
theorem wordR_17 (w : World) : Calls Tryd.prog 15 #[.int .i64 17] w fun e w' => e = .returned (.string (strOf [99, 111, 117, 110, 116])) ∧ Below w.heap.size w w' := by
  have hk : known 17 = true := rfl
  go_enter Tryd.func15, Tryd.ntmps15
  go_wp2_with (first | (go_at_call 11; refine (knownR _ _).mono ?_; rintro e w' ⟨rfl, rfl⟩) | (go_at_call 28; go_in))
  go_ret
  exact ⟨by first | rfl | simp, (by repeat (first | exact Below.refl _ _ | with_reducible apply below_alloc))⟩

set_option maxHeartbeats 1000000 in
theorem wordR_18 (w : World) : Calls Tryd.prog 15 #[.int .i64 18] w fun e w' => e = .returned (.string (strOf [115, 116, 101, 112])) ∧ Below w.heap.size w w' := by
  have hk : known 18 = true := rfl
  go_enter Tryd.func15, Tryd.ntmps15
  go_wp2_with (first | (go_at_call 11; refine (knownR _ _).mono ?_; rintro e w' ⟨rfl, rfl⟩) | (go_at_call 28; go_in))
  go_ret
  exact ⟨by first | rfl | simp, (by repeat (first | exact Below.refl _ _ | with_reducible apply below_alloc))⟩

set_option maxHeartbeats 1000000 in
theorem wordR_19 (w : World) : Calls Tryd.prog 15 #[.int .i64 19] w fun e w' => e = .returned (.string (strOf [99, 97, 108, 108])) ∧ Below w.heap.size w w' := by
  have hk : known 19 = true := rfl
  go_enter Tryd.func15, Tryd.ntmps15
  go_wp2_with (first | (go_at_call 11; refine (knownR _ _).mono ?_; rintro e w' ⟨rfl, rfl⟩) | (go_at_call 28; go_in))
  go_ret
  exact ⟨by first | rfl | simp, (by repeat (first | exact Below.refl _ _ | with_reducible apply below_alloc))⟩

theorem wordR (op : Int) (w : World) : Calls Tryd.prog 15 #[.int .i64 op] w fun e w' => e = .returned (.string (strOf (word op))) ∧ Below w.heap.size w w' := by
  cases h : known op
  · rw [show word op = [] from by simp [word, h]]
    exact wordR_no op h w
  · rw [show word op = (row op.toNat).word from by simp [word, h]]
    exact known_cases (P := fun op => Calls Tryd.prog 15 #[.int .i64 op] w fun e w' => e = .returned (.string (strOf (row op.toNat).word)) ∧ Below w.heap.size w w') h (wordR_0 w) (wordR_1 w) (wordR_2 w) (wordR_3 w) (wordR_4 w) (wordR_5 w) (wordR_6 w) (wordR_7 w) (wordR_8 w) (wordR_9 w) (wordR_10 w) (wordR_11 w) (wordR_12 w) (wordR_13 w) (wordR_14 w) (wordR_15 w) (wordR_16 w) (wordR_17 w) (wordR_18 w) (wordR_19 w)
end Go.Proofs.YtpmffclepnkedaaDoor
