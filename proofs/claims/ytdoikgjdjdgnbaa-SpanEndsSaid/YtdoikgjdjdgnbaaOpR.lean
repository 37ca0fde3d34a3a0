/-
  Layer 8 (span): what soffitref08.Op returns: the machine's value of an operation.
-/
import Derived.Test.YtdoikgjdjdgnbaaSpanR
import Derived.Test.YtdoikgjdjdgnbaaPlainD
namespace Go.Proofs.Ytdoikgjdjdgnbaa
open Go.RowKit
set_option linter.unusedSimpArgs false
set_option linter.unusedVariables false
attribute [local go_sem ↓] Go.wp_at_zero Go.wp_at_succ

/-- The machine's value of an operation; 0, if there is none. -/
def opV (op x y : Int) : Int :=
  if op = 3 then wrap64 (x + y) else if op = 4 then wrap64 (x - y) else if op = 5 then wrap64 (x * y) else
  if op = 6 then (if y = 0 then 0 else wrap64 (x.tdiv y)) else if op = 7 then (if y = 0 then 0 else x.tmod y) else
  if op = 8 then (if x < y then 1 else 0) else if op = 9 then (if x = y then 1 else 0) else if op = 10 then (if x = 0 then 1 else 0) else 0
def opOk (op y : Int) : Bool :=
  decide (op = 3) || decide (op = 4) || decide (op = 5) || decide (op = 8) || decide (op = 9) || decide (op = 10) || ((decide (op = 6) || decide (op = 7)) && !decide (y = 0))

set_option maxHeartbeats 1000000 in
theorem opR_3 (x y : Int) (w : World) : Calls Try.prog 28 #[.int .i64 3, .int .i64 x, .int .i64 y] w fun e w' => e = .returned (.tuple #[.int .i64 (wrap64 (x + y)), .bool true]) ∧ w = w' := by
  go_enter Try.func28, Try.ntmps28
  go_wp2
  all_goals (try simp only [Exit.inBlock, Exit.then])
  all_goals refine ret_of ?_ rfl
  all_goals simp [results, Try.results28, go_sem, *]
  all_goals (try simp_all)

set_option maxHeartbeats 1000000 in
theorem opR_4 (x y : Int) (w : World) : Calls Try.prog 28 #[.int .i64 4, .int .i64 x, .int .i64 y] w fun e w' => e = .returned (.tuple #[.int .i64 (wrap64 (x - y)), .bool true]) ∧ w = w' := by
  go_enter Try.func28, Try.ntmps28
  go_wp2
  all_goals (try simp only [Exit.inBlock, Exit.then])
  all_goals refine ret_of ?_ rfl
  all_goals simp [results, Try.results28, go_sem, *]
  all_goals (try simp_all)

set_option maxHeartbeats 1000000 in
theorem opR_5 (x y : Int) (w : World) : Calls Try.prog 28 #[.int .i64 5, .int .i64 x, .int .i64 y] w fun e w' => e = .returned (.tuple #[.int .i64 (wrap64 (x * y)), .bool true]) ∧ w = w' := by
  go_enter Try.func28, Try.ntmps28
  go_wp2
  all_goals (try simp only [Exit.inBlock, Exit.then])
  all_goals refine ret_of ?_ rfl
  all_goals simp [results, Try.results28, go_sem, *]
  all_goals (try simp_all)

set_option maxHeartbeats 1000000 in
theorem opR_6z (x y : Int) (h : (y == 0) = true) (w : World) : Calls Try.prog 28 #[.int .i64 6, .int .i64 x, .int .i64 y] w fun e w' => e = .returned (.tuple #[.int .i64 0, .bool false]) ∧ w = w' := by
  go_enter Try.func28, Try.ntmps28
  go_wp2
  all_goals (try simp only [Exit.inBlock, Exit.then])
  all_goals refine ret_of ?_ rfl
  all_goals simp [results, Try.results28, go_sem, *]
  all_goals (try simp_all)

set_option maxHeartbeats 1000000 in
theorem opR_6n (x y : Int) (h : (y == 0) = false) (w : World) : Calls Try.prog 28 #[.int .i64 6, .int .i64 x, .int .i64 y] w fun e w' => e = .returned (.tuple #[.int .i64 (wrap64 (x.tdiv y)), .bool true]) ∧ w = w' := by
  have h2 : ¬ y = 0 := by simpa using h
  go_enter Try.func28, Try.ntmps28
  go_wp2
  all_goals (try simp only [Exit.inBlock, Exit.then])
  all_goals refine ret_of ?_ rfl
  all_goals simp [results, Try.results28, go_sem, *]
  all_goals (try simp_all)

set_option maxHeartbeats 1000000 in
theorem opR_7z (x y : Int) (h : (y == 0) = true) (w : World) : Calls Try.prog 28 #[.int .i64 7, .int .i64 x, .int .i64 y] w fun e w' => e = .returned (.tuple #[.int .i64 0, .bool false]) ∧ w = w' := by
  go_enter Try.func28, Try.ntmps28
  go_wp2
  all_goals (try simp only [Exit.inBlock, Exit.then])
  all_goals refine ret_of ?_ rfl
  all_goals simp [results, Try.results28, go_sem, *]
  all_goals (try simp_all)

set_option maxHeartbeats 1000000 in
theorem opR_7n (x y : Int) (h : (y == 0) = false) (w : World) : Calls Try.prog 28 #[.int .i64 7, .int .i64 x, .int .i64 y] w fun e w' => e = .returned (.tuple #[.int .i64 (x.tmod y), .bool true]) ∧ w = w' := by
  have h2 : ¬ y = 0 := by simpa using h
  go_enter Try.func28, Try.ntmps28
  go_wp2
  all_goals (try simp only [Exit.inBlock, Exit.then])
  all_goals refine ret_of ?_ rfl
  all_goals simp [results, Try.results28, go_sem, *]
  all_goals (try simp_all)

set_option maxHeartbeats 1000000 in
theorem opR_8y (x y : Int) (h : decide (x < y) = true) (w : World) : Calls Try.prog 28 #[.int .i64 8, .int .i64 x, .int .i64 y] w fun e w' => e = .returned (.tuple #[.int .i64 1, .bool true]) ∧ w = w' := by
  go_enter Try.func28, Try.ntmps28
  go_wp2
  all_goals (try simp only [Exit.inBlock, Exit.then])
  all_goals refine ret_of ?_ rfl
  all_goals simp [results, Try.results28, go_sem, *]
  all_goals (try simp_all)

set_option maxHeartbeats 1000000 in
theorem opR_8n (x y : Int) (h : decide (x < y) = false) (w : World) : Calls Try.prog 28 #[.int .i64 8, .int .i64 x, .int .i64 y] w fun e w' => e = .returned (.tuple #[.int .i64 0, .bool true]) ∧ w = w' := by
  go_enter Try.func28, Try.ntmps28
  go_wp2
  all_goals (try simp only [Exit.inBlock, Exit.then])
  all_goals refine ret_of ?_ rfl
  all_goals simp [results, Try.results28, go_sem, *]
  all_goals (try simp_all)

set_option maxHeartbeats 1000000 in
theorem opR_9y (x y : Int) (h : (x == y) = true) (w : World) : Calls Try.prog 28 #[.int .i64 9, .int .i64 x, .int .i64 y] w fun e w' => e = .returned (.tuple #[.int .i64 1, .bool true]) ∧ w = w' := by
  go_enter Try.func28, Try.ntmps28
  go_wp2
  all_goals (try simp only [Exit.inBlock, Exit.then])
  all_goals refine ret_of ?_ rfl
  all_goals simp [results, Try.results28, go_sem, *]
  all_goals (try simp_all)

set_option maxHeartbeats 1000000 in
theorem opR_9n (x y : Int) (h : (x == y) = false) (w : World) : Calls Try.prog 28 #[.int .i64 9, .int .i64 x, .int .i64 y] w fun e w' => e = .returned (.tuple #[.int .i64 0, .bool true]) ∧ w = w' := by
  go_enter Try.func28, Try.ntmps28
  go_wp2
  all_goals (try simp only [Exit.inBlock, Exit.then])
  all_goals refine ret_of ?_ rfl
  all_goals simp [results, Try.results28, go_sem, *]
  all_goals (try simp_all)

set_option maxHeartbeats 1000000 in
theorem opR_10y (x y : Int) (h : (x == 0) = true) (w : World) : Calls Try.prog 28 #[.int .i64 10, .int .i64 x, .int .i64 y] w fun e w' => e = .returned (.tuple #[.int .i64 1, .bool true]) ∧ w = w' := by
  go_enter Try.func28, Try.ntmps28
  go_wp2
  all_goals (try simp only [Exit.inBlock, Exit.then])
  all_goals refine ret_of ?_ rfl
  all_goals simp [results, Try.results28, go_sem, *]
  all_goals (try simp_all)

set_option maxHeartbeats 1000000 in
theorem opR_10n (x y : Int) (h : (x == 0) = false) (w : World) : Calls Try.prog 28 #[.int .i64 10, .int .i64 x, .int .i64 y] w fun e w' => e = .returned (.tuple #[.int .i64 0, .bool true]) ∧ w = w' := by
  go_enter Try.func28, Try.ntmps28
  go_wp2
  all_goals (try simp only [Exit.inBlock, Exit.then])
  all_goals refine ret_of ?_ rfl
  all_goals simp [results, Try.results28, go_sem, *]
  all_goals (try simp_all)

set_option maxHeartbeats 1000000 in
theorem opR_o (x y : Int) (op : Int) (o3 : (op == 3) = false) (o4 : (op == 4) = false) (o5 : (op == 5) = false) (o6 : (op == 6) = false) (o7 : (op == 7) = false) (o8 : (op == 8) = false) (o9 : (op == 9) = false) (o10 : (op == 10) = false) (w : World) : Calls Try.prog 28 #[.int .i64 op, .int .i64 x, .int .i64 y] w fun e w' => e = .returned (.tuple #[.int .i64 0, .bool false]) ∧ w = w' := by
  go_enter Try.func28, Try.ntmps28
  go_wp2
  all_goals (try simp only [Exit.inBlock, Exit.then])
  all_goals refine ret_of ?_ rfl
  all_goals simp [results, Try.results28, go_sem, *]
  all_goals (try simp_all)

theorem opR (op x y : Int) (w : World) : Calls Try.prog 28 #[.int .i64 op, .int .i64 x, .int .i64 y] w fun e w' => e = .returned (.tuple #[.int .i64 (opV op x y), .bool (opOk op y)]) ∧ w = w' := by
  by_cases o3 : op = 3
  · subst o3; exact opR_3 x y w
  by_cases o4 : op = 4
  · subst o4; exact opR_4 x y w
  by_cases o5 : op = 5
  · subst o5; exact opR_5 x y w
  by_cases o6 : op = 6
  · subst o6
    cases h : (y == 0)
    · have h2 : ¬ y = 0 := by simpa using h
      rw [show opV 6 x y = wrap64 (x.tdiv y) from by simp [opV, h2], show opOk 6 y = true from by simp [opOk, h2]]; exact opR_6n x y h w
    · have h2 : y = 0 := by simpa using h
      rw [show opV 6 x y = 0 from by simp [opV, h2], show opOk 6 y = false from by simp [opOk, h2]]; exact opR_6z x y h w
  by_cases o7 : op = 7
  · subst o7
    cases h : (y == 0)
    · have h2 : ¬ y = 0 := by simpa using h
      rw [show opV 7 x y = x.tmod y from by simp [opV, h2], show opOk 7 y = true from by simp [opOk, h2]]; exact opR_7n x y h w
    · have h2 : y = 0 := by simpa using h
      rw [show opV 7 x y = 0 from by simp [opV, h2], show opOk 7 y = false from by simp [opOk, h2]]; exact opR_7z x y h w
  by_cases o8 : op = 8
  · subst o8
    cases h : decide (x < y)
    · have h2 : ¬ x < y := by simpa using h
      rw [show opV 8 x y = 0 from by simp [opV, h2]]; exact opR_8n x y h w
    · have h2 : x < y := by simpa using h
      rw [show opV 8 x y = 1 from by simp [opV, h2]]; exact opR_8y x y h w
  by_cases o9 : op = 9
  · subst o9
    cases h : (x == y)
    · have h2 : ¬ x = y := by simpa using h
      rw [show opV 9 x y = 0 from by simp [opV, h2]]; exact opR_9n x y h w
    · have h2 : x = y := by simpa using h
      rw [show opV 9 x y = 1 from by simp [opV, h2]]; exact opR_9y x y h w
  by_cases o10 : op = 10
  · subst o10
    cases h : (x == 0)
    · have h2 : ¬ x = 0 := by simpa using h
      rw [show opV 10 x y = 0 from by simp [opV, h2]]; exact opR_10n x y h w
    · have h2 : x = 0 := by simpa using h
      rw [show opV 10 x y = 1 from by simp [opV, h2]]; exact opR_10y x y h w
  rw [show opV op x y = 0 from by simp [opV, o3, o4, o5, o6, o7, o8, o9, o10], show opOk op y = false from by simp [opOk, o3, o4, o5, o6, o7, o8, o9, o10]]
  exact opR_o x y op (by simpa using o3) (by simpa using o4) (by simpa using o5) (by simpa using o6) (by simpa using o7) (by simpa using o8) (by simpa using o9) (by simpa using o10) w

end Go.Proofs.Ytdoikgjdjdgnbaa
