/-
  Layer 8 (span): the walks of the arithmetic of package span.
-/
import Derived.Test.YtdoikgjdjdgnbaaHull
import Derived.Test.YtdoikgjdjdgnbaaPlainD
import Derived.Test.YtdoikgjdjdgnbaaShelf
import Derived.Test.YtdoikgjdjdgnbaaKeep
import Derived.Deep.RegionHeld3
import Derived.Deep.DrawnRows
import Derived.BigRegion
namespace Go.Proofs.Ytdoikgjdjdgnbaa
open Go.RowKit
set_option linter.unusedSimpArgs false
set_option linter.unusedVariables false
attribute [local go_sem ↓] Go.wp_at_zero Go.wp_at_succ

set_option maxHeartbeats 400000 in
theorem exactP (a b : Int) (ha : In64 a) (hb : In64 b) (w : World) : Calls Try.prog 35 #[.int .i64 a, .int .i64 b] w fun e w' => e = .returned (.tuple #[.int .i64 (wrap64 (a + b)), .bool (Sp.sumOk a b)]) ∧ w = w' := by
  go_enter Try.func35, Try.ntmps35
  go_wp2
  all_goals go_ret2
  all_goals refine ⟨?_, rfl⟩
  all_goals go_light
  all_goals exact congrArg (fun t => Ending.returned (.tuple #[.int .i64 (wrap64 (a + b)), .bool t])) (exact_ok ha hb)

set_option maxHeartbeats 400000 in
theorem lessP (a b : Int) (ha : In64 a) (hb : In64 b) (w : World) : Calls Try.prog 37 #[.int .i64 a, .int .i64 b] w fun e w' => e = .returned (.tuple #[.int .i64 (wrap64 (a - b)), .bool (Sp.lessOk a b)]) ∧ w = w' := by
  go_enter Try.func37, Try.ntmps37
  go_wp2
  all_goals go_ret2
  all_goals refine ⟨?_, rfl⟩
  all_goals go_light
  all_goals exact congrArg (fun t => Ending.returned (.tuple #[.int .i64 (wrap64 (a - b)), .bool t])) (less_ok ha hb)

set_option maxHeartbeats 400000 in
theorem distancePN (a : Int) (ha : In64 a) (h : a < 0) (w : World) : Calls Try.prog 50 #[.int .i64 a] w fun e w' => e = .returned (.int .u64 (a.natAbs : Int)) ∧ w = w' := by
  go_enter Try.func50, Try.ntmps50
  go_wp2
  all_goals go_ret
  all_goals refine ⟨?_, rfl⟩
  all_goals go_light
  all_goals exact congrArg (fun t => Ending.returned (.int .u64 t)) (dist_neg ha h)

set_option maxHeartbeats 400000 in
theorem distancePP (a : Int) (ha : In64 a) (h : 0 ≤ a) (w : World) : Calls Try.prog 50 #[.int .i64 a] w fun e w' => e = .returned (.int .u64 (a.natAbs : Int)) ∧ w = w' := by
  go_enter Try.func50, Try.ntmps50
  go_wp2
  all_goals go_ret
  all_goals refine ⟨?_, rfl⟩
  all_goals go_light
  all_goals exact congrArg (fun t => Ending.returned (.int .u64 t)) (dist_pos ha h)

theorem distanceP (a : Int) (ha : In64 a) (w : World) : Calls Try.prog 50 #[.int .i64 a] w fun e w' => e = .returned (.int .u64 (a.natAbs : Int)) ∧ w = w' := by
  by_cases h : a < 0
  · exact distancePN a ha h w
  · exact distancePP a ha (by omega) w

theorem mulC (a b : Int) (ha : In64 a) (hb : In64 b) (w : World) : Calls Try.prog 49 #[.int .u64 (a.natAbs : Int), .int .u64 (b.natAbs : Int)] w fun e w' => e = .returned (.tuple #[.int .u64 (mulHi a b), .int .u64 (mulLo a b)]) ∧ w = w' :=
  (bits_Mul64 a.natAbs b.natAbs (by obtain ⟨_, _⟩ := ha; omega) (by obtain ⟨_, _⟩ := hb; omega) w).mono fun e w' ⟨he, hw⟩ => ⟨he, hw.symm⟩

set_option maxHeartbeats 400000 in
theorem timesP1y (a b : Int) (ha : In64 a) (hb : In64 b) (h1 : a < 0) (h2 : 0 ≤ b) (hz : (mulHi a b == 0) = true) (w : World) : Calls Try.prog 38 #[.int .i64 a, .int .i64 b] w fun e w' => e = .returned (.tuple #[.int .i64 (wrap64 (-(wrap64 (mulLo a b)))), .bool (decide (mulLo a b ≤ 9223372036854775808))]) ∧ w = w' := by
  have d1 : decide (a < 0) = true := by simp; omega
  have d2 : decide (b < 0) = false := by simp; omega
  go_enter Try.func38, Try.ntmps38
  go_wp2_with (first
    | (go_at_call 50; refine (distanceP _ (by assumption) _).mono ?_; rintro e w' ⟨rfl, rfl⟩)
    | (go_at_call 49; refine (mulC a b ha hb _).mono ?_; rintro e w' ⟨rfl, rfl⟩))
  all_goals go_ret2
  all_goals refine ⟨?_, rfl⟩
  all_goals go_light
  all_goals rfl

set_option maxHeartbeats 400000 in
theorem timesP1n (a b : Int) (ha : In64 a) (hb : In64 b) (h1 : a < 0) (h2 : 0 ≤ b) (hz : (mulHi a b == 0) = false) (w : World) : Calls Try.prog 38 #[.int .i64 a, .int .i64 b] w fun e w' => e = .returned (.tuple #[.int .i64 (wrap64 (-(wrap64 (mulLo a b)))), .bool (false)]) ∧ w = w' := by
  have d1 : decide (a < 0) = true := by simp; omega
  have d2 : decide (b < 0) = false := by simp; omega
  go_enter Try.func38, Try.ntmps38
  go_wp2_with (first
    | (go_at_call 50; refine (distanceP _ (by assumption) _).mono ?_; rintro e w' ⟨rfl, rfl⟩)
    | (go_at_call 49; refine (mulC a b ha hb _).mono ?_; rintro e w' ⟨rfl, rfl⟩))
  all_goals go_ret2
  all_goals refine ⟨?_, rfl⟩
  all_goals go_light
  all_goals rfl

theorem timesP1 (a b : Int) (ha : In64 a) (hb : In64 b) (h1 : a < 0) (h2 : 0 ≤ b) (w : World) : Calls Try.prog 38 #[.int .i64 a, .int .i64 b] w fun e w' => e = .returned (.tuple #[.int .i64 (wrap64 (a * b)), .bool (mulOk a b)]) ∧ w = w' := by
  obtain ⟨e1, e2⟩ := times_neg (.inl ⟨h1, h2⟩)
  rw [← e1, ← e2]
  cases hz : (mulHi a b == 0)
  · have : decide (mulHi a b = 0) = false := by simpa using hz
    rw [this, Bool.false_and]
    exact timesP1n a b ha hb h1 h2 hz w
  · have : decide (mulHi a b = 0) = true := by simpa using hz
    rw [this, Bool.true_and]
    exact timesP1y a b ha hb h1 h2 hz w

set_option maxHeartbeats 400000 in
theorem timesP2y (a b : Int) (ha : In64 a) (hb : In64 b) (h1 : 0 ≤ a) (h2 : b < 0) (hz : (mulHi a b == 0) = true) (w : World) : Calls Try.prog 38 #[.int .i64 a, .int .i64 b] w fun e w' => e = .returned (.tuple #[.int .i64 (wrap64 (-(wrap64 (mulLo a b)))), .bool (decide (mulLo a b ≤ 9223372036854775808))]) ∧ w = w' := by
  have d1 : decide (a < 0) = false := by simp; omega
  have d2 : decide (b < 0) = true := by simp; omega
  go_enter Try.func38, Try.ntmps38
  go_wp2_with (first
    | (go_at_call 50; refine (distanceP _ (by assumption) _).mono ?_; rintro e w' ⟨rfl, rfl⟩)
    | (go_at_call 49; refine (mulC a b ha hb _).mono ?_; rintro e w' ⟨rfl, rfl⟩))
  all_goals go_ret2
  all_goals refine ⟨?_, rfl⟩
  all_goals go_light
  all_goals rfl

set_option maxHeartbeats 400000 in
theorem timesP2n (a b : Int) (ha : In64 a) (hb : In64 b) (h1 : 0 ≤ a) (h2 : b < 0) (hz : (mulHi a b == 0) = false) (w : World) : Calls Try.prog 38 #[.int .i64 a, .int .i64 b] w fun e w' => e = .returned (.tuple #[.int .i64 (wrap64 (-(wrap64 (mulLo a b)))), .bool (false)]) ∧ w = w' := by
  have d1 : decide (a < 0) = false := by simp; omega
  have d2 : decide (b < 0) = true := by simp; omega
  go_enter Try.func38, Try.ntmps38
  go_wp2_with (first
    | (go_at_call 50; refine (distanceP _ (by assumption) _).mono ?_; rintro e w' ⟨rfl, rfl⟩)
    | (go_at_call 49; refine (mulC a b ha hb _).mono ?_; rintro e w' ⟨rfl, rfl⟩))
  all_goals go_ret2
  all_goals refine ⟨?_, rfl⟩
  all_goals go_light
  all_goals rfl

theorem timesP2 (a b : Int) (ha : In64 a) (hb : In64 b) (h1 : 0 ≤ a) (h2 : b < 0) (w : World) : Calls Try.prog 38 #[.int .i64 a, .int .i64 b] w fun e w' => e = .returned (.tuple #[.int .i64 (wrap64 (a * b)), .bool (mulOk a b)]) ∧ w = w' := by
  obtain ⟨e1, e2⟩ := times_neg (.inr ⟨h1, h2⟩)
  rw [← e1, ← e2]
  cases hz : (mulHi a b == 0)
  · have : decide (mulHi a b = 0) = false := by simpa using hz
    rw [this, Bool.false_and]
    exact timesP2n a b ha hb h1 h2 hz w
  · have : decide (mulHi a b = 0) = true := by simpa using hz
    rw [this, Bool.true_and]
    exact timesP2y a b ha hb h1 h2 hz w

set_option maxHeartbeats 400000 in
theorem timesP3y (a b : Int) (ha : In64 a) (hb : In64 b) (h1 : a < 0) (h2 : b < 0) (hz : (mulHi a b == 0) = true) (w : World) : Calls Try.prog 38 #[.int .i64 a, .int .i64 b] w fun e w' => e = .returned (.tuple #[.int .i64 (wrap64 (mulLo a b)), .bool (decide (mulLo a b ≤ 9223372036854775807))]) ∧ w = w' := by
  have d1 : decide (a < 0) = true := by simp; omega
  have d2 : decide (b < 0) = true := by simp; omega
  go_enter Try.func38, Try.ntmps38
  go_wp2_with (first
    | (go_at_call 50; refine (distanceP _ (by assumption) _).mono ?_; rintro e w' ⟨rfl, rfl⟩)
    | (go_at_call 49; refine (mulC a b ha hb _).mono ?_; rintro e w' ⟨rfl, rfl⟩))
  all_goals go_ret2
  all_goals refine ⟨?_, rfl⟩
  all_goals go_light
  all_goals rfl

set_option maxHeartbeats 400000 in
theorem timesP3n (a b : Int) (ha : In64 a) (hb : In64 b) (h1 : a < 0) (h2 : b < 0) (hz : (mulHi a b == 0) = false) (w : World) : Calls Try.prog 38 #[.int .i64 a, .int .i64 b] w fun e w' => e = .returned (.tuple #[.int .i64 (wrap64 (mulLo a b)), .bool (false)]) ∧ w = w' := by
  have d1 : decide (a < 0) = true := by simp; omega
  have d2 : decide (b < 0) = true := by simp; omega
  go_enter Try.func38, Try.ntmps38
  go_wp2_with (first
    | (go_at_call 50; refine (distanceP _ (by assumption) _).mono ?_; rintro e w' ⟨rfl, rfl⟩)
    | (go_at_call 49; refine (mulC a b ha hb _).mono ?_; rintro e w' ⟨rfl, rfl⟩))
  all_goals go_ret2
  all_goals refine ⟨?_, rfl⟩
  all_goals go_light
  all_goals rfl

theorem timesP3 (a b : Int) (ha : In64 a) (hb : In64 b) (h1 : a < 0) (h2 : b < 0) (w : World) : Calls Try.prog 38 #[.int .i64 a, .int .i64 b] w fun e w' => e = .returned (.tuple #[.int .i64 (wrap64 (a * b)), .bool (mulOk a b)]) ∧ w = w' := by
  obtain ⟨e1, e2⟩ := times_pos (.inl ⟨h1, h2⟩)
  rw [← e1, ← e2]
  cases hz : (mulHi a b == 0)
  · have : decide (mulHi a b = 0) = false := by simpa using hz
    rw [this, Bool.false_and]
    exact timesP3n a b ha hb h1 h2 hz w
  · have : decide (mulHi a b = 0) = true := by simpa using hz
    rw [this, Bool.true_and]
    exact timesP3y a b ha hb h1 h2 hz w

set_option maxHeartbeats 400000 in
theorem timesP4y (a b : Int) (ha : In64 a) (hb : In64 b) (h1 : 0 ≤ a) (h2 : 0 ≤ b) (hz : (mulHi a b == 0) = true) (w : World) : Calls Try.prog 38 #[.int .i64 a, .int .i64 b] w fun e w' => e = .returned (.tuple #[.int .i64 (wrap64 (mulLo a b)), .bool (decide (mulLo a b ≤ 9223372036854775807))]) ∧ w = w' := by
  have d1 : decide (a < 0) = false := by simp; omega
  have d2 : decide (b < 0) = false := by simp; omega
  go_enter Try.func38, Try.ntmps38
  go_wp2_with (first
    | (go_at_call 50; refine (distanceP _ (by assumption) _).mono ?_; rintro e w' ⟨rfl, rfl⟩)
    | (go_at_call 49; refine (mulC a b ha hb _).mono ?_; rintro e w' ⟨rfl, rfl⟩))
  all_goals go_ret2
  all_goals refine ⟨?_, rfl⟩
  all_goals go_light
  all_goals rfl

set_option maxHeartbeats 400000 in
theorem timesP4n (a b : Int) (ha : In64 a) (hb : In64 b) (h1 : 0 ≤ a) (h2 : 0 ≤ b) (hz : (mulHi a b == 0) = false) (w : World) : Calls Try.prog 38 #[.int .i64 a, .int .i64 b] w fun e w' => e = .returned (.tuple #[.int .i64 (wrap64 (mulLo a b)), .bool (false)]) ∧ w = w' := by
  have d1 : decide (a < 0) = false := by simp; omega
  have d2 : decide (b < 0) = false := by simp; omega
  go_enter Try.func38, Try.ntmps38
  go_wp2_with (first
    | (go_at_call 50; refine (distanceP _ (by assumption) _).mono ?_; rintro e w' ⟨rfl, rfl⟩)
    | (go_at_call 49; refine (mulC a b ha hb _).mono ?_; rintro e w' ⟨rfl, rfl⟩))
  all_goals go_ret2
  all_goals refine ⟨?_, rfl⟩
  all_goals go_light
  all_goals rfl

theorem timesP4 (a b : Int) (ha : In64 a) (hb : In64 b) (h1 : 0 ≤ a) (h2 : 0 ≤ b) (w : World) : Calls Try.prog 38 #[.int .i64 a, .int .i64 b] w fun e w' => e = .returned (.tuple #[.int .i64 (wrap64 (a * b)), .bool (mulOk a b)]) ∧ w = w' := by
  obtain ⟨e1, e2⟩ := times_pos (.inr ⟨h1, h2⟩)
  rw [← e1, ← e2]
  cases hz : (mulHi a b == 0)
  · have : decide (mulHi a b = 0) = false := by simpa using hz
    rw [this, Bool.false_and]
    exact timesP4n a b ha hb h1 h2 hz w
  · have : decide (mulHi a b = 0) = true := by simpa using hz
    rw [this, Bool.true_and]
    exact timesP4y a b ha hb h1 h2 hz w

theorem timesP (a b : Int) (ha : In64 a) (hb : In64 b) (w : World) : Calls Try.prog 38 #[.int .i64 a, .int .i64 b] w fun e w' => e = .returned (.tuple #[.int .i64 (wrap64 (a * b)), .bool (mulOk a b)]) ∧ w = w' := by
  by_cases h1 : a < 0 <;> by_cases h2 : b < 0
  · exact timesP3 a b ha hb h1 h2 w
  · exact timesP1 a b ha hb h1 (by omega) w
  · exact timesP2 a b ha hb (by omega) h2 w
  · exact timesP4 a b ha hb (by omega) (by omega) w

end Go.Proofs.Ytdoikgjdjdgnbaa

