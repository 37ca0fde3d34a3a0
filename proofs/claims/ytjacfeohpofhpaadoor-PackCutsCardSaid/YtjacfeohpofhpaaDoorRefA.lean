/-
  Layer 9 (code): the reference's own small functions: Has, Weight, Writes, Target, register.
-/
import Derived.Test.YtjacfeohpofhpaaDoorPlainL
import Derived.Test.YtjacfeohpofhpaaDoorCodeA
namespace Go.Proofs.YtjacfeohpofhpaaDoor
open Go.RowKit
set_option linter.unusedSimpArgs false
set_option linter.unusedVariables false
attribute [local go_sem ↓] Go.wp_at_zero Go.wp_at_succ

/-- A known operation is one of twenty numbers. -/
theorem known_cases {op : Int} (h : known op = true) {P : Int → Prop} (h10 : P 0) (h11 : P 1) (h12 : P 2) (h13 : P 3) (h14 : P 4) (h15 : P 5) (h16 : P 6) (h17 : P 7) (h18 : P 8) (h19 : P 9) (h20 : P 10) (h21 : P 11) (h22 : P 12) (h23 : P 13) (h24 : P 14) (h25 : P 15) (h26 : P 16) (h27 : P 17) (h28 : P 18) (h29 : P 19) : P op := by
  obtain ⟨h0, h1⟩ := known_yes h
  have : op = 0 ∨ op = 1 ∨ op = 2 ∨ op = 3 ∨ op = 4 ∨ op = 5 ∨ op = 6 ∨ op = 7 ∨ op = 8 ∨ op = 9 ∨ op = 10 ∨ op = 11 ∨ op = 12 ∨ op = 13 ∨ op = 14 ∨ op = 15 ∨ op = 16 ∨ op = 17 ∨ op = 18 ∨ op = 19 := by omega
  rcases this with rfl | rfl | rfl | rfl | rfl | rfl | rfl | rfl | rfl | rfl | rfl | rfl | rfl | rfl | rfl | rfl | rfl | rfl | rfl | rfl
  · exact h10
  · exact h11
  · exact h12
  · exact h13
  · exact h14
  · exact h15
  · exact h16
  · exact h17
  · exact h18
  · exact h19
  · exact h20
  · exact h21
  · exact h22
  · exact h23
  · exact h24
  · exact h25
  · exact h26
  · exact h27
  · exact h28
  · exact h29

set_option maxHeartbeats 400000 in
theorem hasR_0 (w : World) : Calls Tryd.prog 40 #[.int .i64 0] w fun e w' => e = .returned (.agg #[.bool true, .bool false, .bool false, .bool false]) ∧ Below w.heap.size w w' := by
  go_enter Tryd.func40, Tryd.ntmps40
  go_wp2
  all_goals (try simp only [Exit.inBlock, Exit.then])
  all_goals refine ret_of ?_ rfl
  all_goals simp [results, Tryd.results40, go_sem]
  all_goals go_light
  all_goals exact (by repeat (first | exact Below.refl _ _ | with_reducible apply below_alloc | with_reducible refine Below.setCell ?_ (by dsimp only; omega) _))

set_option maxHeartbeats 400000 in
theorem hasR_1 (w : World) : Calls Tryd.prog 40 #[.int .i64 1] w fun e w' => e = .returned (.agg #[.bool true, .bool false, .bool false, .bool true]) ∧ Below w.heap.size w w' := by
  go_enter Tryd.func40, Tryd.ntmps40
  go_wp2
  all_goals (try simp only [Exit.inBlock, Exit.then])
  all_goals refine ret_of ?_ rfl
  all_goals simp [results, Tryd.results40, go_sem]
  all_goals go_light
  all_goals exact (by repeat (first | exact Below.refl _ _ | with_reducible apply below_alloc | with_reducible refine Below.setCell ?_ (by dsimp only; omega) _))

set_option maxHeartbeats 400000 in
theorem hasR_2 (w : World) : Calls Tryd.prog 40 #[.int .i64 2] w fun e w' => e = .returned (.agg #[.bool true, .bool true, .bool false, .bool false]) ∧ Below w.heap.size w w' := by
  go_enter Tryd.func40, Tryd.ntmps40
  go_wp2
  all_goals (try simp only [Exit.inBlock, Exit.then])
  all_goals refine ret_of ?_ rfl
  all_goals simp [results, Tryd.results40, go_sem]
  all_goals go_light
  all_goals exact (by repeat (first | exact Below.refl _ _ | with_reducible apply below_alloc | with_reducible refine Below.setCell ?_ (by dsimp only; omega) _))

set_option maxHeartbeats 400000 in
theorem hasR_3 (w : World) : Calls Tryd.prog 40 #[.int .i64 3] w fun e w' => e = .returned (.agg #[.bool true, .bool true, .bool true, .bool false]) ∧ Below w.heap.size w w' := by
  go_enter Tryd.func40, Tryd.ntmps40
  go_wp2
  all_goals (try simp only [Exit.inBlock, Exit.then])
  all_goals refine ret_of ?_ rfl
  all_goals simp [results, Tryd.results40, go_sem]
  all_goals go_light
  all_goals exact (by repeat (first | exact Below.refl _ _ | with_reducible apply below_alloc | with_reducible refine Below.setCell ?_ (by dsimp only; omega) _))

set_option maxHeartbeats 400000 in
theorem hasR_4 (w : World) : Calls Tryd.prog 40 #[.int .i64 4] w fun e w' => e = .returned (.agg #[.bool true, .bool true, .bool true, .bool false]) ∧ Below w.heap.size w w' := by
  go_enter Tryd.func40, Tryd.ntmps40
  go_wp2
  all_goals (try simp only [Exit.inBlock, Exit.then])
  all_goals refine ret_of ?_ rfl
  all_goals simp [results, Tryd.results40, go_sem]
  all_goals go_light
  all_goals exact (by repeat (first | exact Below.refl _ _ | with_reducible apply below_alloc | with_reducible refine Below.setCell ?_ (by dsimp only; omega) _))

set_option maxHeartbeats 400000 in
theorem hasR_5 (w : World) : Calls Tryd.prog 40 #[.int .i64 5] w fun e w' => e = .returned (.agg #[.bool true, .bool true, .bool true, .bool false]) ∧ Below w.heap.size w w' := by
  go_enter Tryd.func40, Tryd.ntmps40
  go_wp2
  all_goals (try simp only [Exit.inBlock, Exit.then])
  all_goals refine ret_of ?_ rfl
  all_goals simp [results, Tryd.results40, go_sem]
  all_goals go_light
  all_goals exact (by repeat (first | exact Below.refl _ _ | with_reducible apply below_alloc | with_reducible refine Below.setCell ?_ (by dsimp only; omega) _))

set_option maxHeartbeats 400000 in
theorem hasR_6 (w : World) : Calls Tryd.prog 40 #[.int .i64 6] w fun e w' => e = .returned (.agg #[.bool true, .bool true, .bool true, .bool false]) ∧ Below w.heap.size w w' := by
  go_enter Tryd.func40, Tryd.ntmps40
  go_wp2
  all_goals (try simp only [Exit.inBlock, Exit.then])
  all_goals refine ret_of ?_ rfl
  all_goals simp [results, Tryd.results40, go_sem]
  all_goals go_light
  all_goals exact (by repeat (first | exact Below.refl _ _ | with_reducible apply below_alloc | with_reducible refine Below.setCell ?_ (by dsimp only; omega) _))

set_option maxHeartbeats 400000 in
theorem hasR_7 (w : World) : Calls Tryd.prog 40 #[.int .i64 7] w fun e w' => e = .returned (.agg #[.bool true, .bool true, .bool true, .bool false]) ∧ Below w.heap.size w w' := by
  go_enter Tryd.func40, Tryd.ntmps40
  go_wp2
  all_goals (try simp only [Exit.inBlock, Exit.then])
  all_goals refine ret_of ?_ rfl
  all_goals simp [results, Tryd.results40, go_sem]
  all_goals go_light
  all_goals exact (by repeat (first | exact Below.refl _ _ | with_reducible apply below_alloc | with_reducible refine Below.setCell ?_ (by dsimp only; omega) _))

set_option maxHeartbeats 400000 in
theorem hasR_8 (w : World) : Calls Tryd.prog 40 #[.int .i64 8] w fun e w' => e = .returned (.agg #[.bool true, .bool true, .bool true, .bool false]) ∧ Below w.heap.size w w' := by
  go_enter Tryd.func40, Tryd.ntmps40
  go_wp2
  all_goals (try simp only [Exit.inBlock, Exit.then])
  all_goals refine ret_of ?_ rfl
  all_goals simp [results, Tryd.results40, go_sem]
  all_goals go_light
  all_goals exact (by repeat (first | exact Below.refl _ _ | with_reducible apply below_alloc | with_reducible refine Below.setCell ?_ (by dsimp only; omega) _))

set_option maxHeartbeats 400000 in
theorem hasR_9 (w : World) : Calls Tryd.prog 40 #[.int .i64 9] w fun e w' => e = .returned (.agg #[.bool true, .bool true, .bool true, .bool false]) ∧ Below w.heap.size w w' := by
  go_enter Tryd.func40, Tryd.ntmps40
  go_wp2
  all_goals (try simp only [Exit.inBlock, Exit.then])
  all_goals refine ret_of ?_ rfl
  all_goals simp [results, Tryd.results40, go_sem]
  all_goals go_light
  all_goals exact (by repeat (first | exact Below.refl _ _ | with_reducible apply below_alloc | with_reducible refine Below.setCell ?_ (by dsimp only; omega) _))

set_option maxHeartbeats 400000 in
theorem hasR_10 (w : World) : Calls Tryd.prog 40 #[.int .i64 10] w fun e w' => e = .returned (.agg #[.bool true, .bool true, .bool false, .bool false]) ∧ Below w.heap.size w w' := by
  go_enter Tryd.func40, Tryd.ntmps40
  go_wp2
  all_goals (try simp only [Exit.inBlock, Exit.then])
  all_goals refine ret_of ?_ rfl
  all_goals simp [results, Tryd.results40, go_sem]
  all_goals go_light
  all_goals exact (by repeat (first | exact Below.refl _ _ | with_reducible apply below_alloc | with_reducible refine Below.setCell ?_ (by dsimp only; omega) _))

set_option maxHeartbeats 400000 in
theorem hasR_11 (w : World) : Calls Tryd.prog 40 #[.int .i64 11] w fun e w' => e = .returned (.agg #[.bool true, .bool true, .bool false, .bool true]) ∧ Below w.heap.size w w' := by
  go_enter Tryd.func40, Tryd.ntmps40
  go_wp2
  all_goals (try simp only [Exit.inBlock, Exit.then])
  all_goals refine ret_of ?_ rfl
  all_goals simp [results, Tryd.results40, go_sem]
  all_goals go_light
  all_goals exact (by repeat (first | exact Below.refl _ _ | with_reducible apply below_alloc | with_reducible refine Below.setCell ?_ (by dsimp only; omega) _))

set_option maxHeartbeats 400000 in
theorem hasR_12 (w : World) : Calls Tryd.prog 40 #[.int .i64 12] w fun e w' => e = .returned (.agg #[.bool true, .bool true, .bool false, .bool true]) ∧ Below w.heap.size w w' := by
  go_enter Tryd.func40, Tryd.ntmps40
  go_wp2
  all_goals (try simp only [Exit.inBlock, Exit.then])
  all_goals refine ret_of ?_ rfl
  all_goals simp [results, Tryd.results40, go_sem]
  all_goals go_light
  all_goals exact (by repeat (first | exact Below.refl _ _ | with_reducible apply below_alloc | with_reducible refine Below.setCell ?_ (by dsimp only; omega) _))

set_option maxHeartbeats 400000 in
theorem hasR_13 (w : World) : Calls Tryd.prog 40 #[.int .i64 13] w fun e w' => e = .returned (.agg #[.bool true, .bool false, .bool false, .bool true]) ∧ Below w.heap.size w w' := by
  go_enter Tryd.func40, Tryd.ntmps40
  go_wp2
  all_goals (try simp only [Exit.inBlock, Exit.then])
  all_goals refine ret_of ?_ rfl
  all_goals simp [results, Tryd.results40, go_sem]
  all_goals go_light
  all_goals exact (by repeat (first | exact Below.refl _ _ | with_reducible apply below_alloc | with_reducible refine Below.setCell ?_ (by dsimp only; omega) _))

set_option maxHeartbeats 400000 in
theorem hasR_14 (w : World) : Calls Tryd.prog 40 #[.int .i64 14] w fun e w' => e = .returned (.agg #[.bool false, .bool false, .bool false, .bool true]) ∧ Below w.heap.size w w' := by
  go_enter Tryd.func40, Tryd.ntmps40
  go_wp2
  all_goals (try simp only [Exit.inBlock, Exit.then])
  all_goals refine ret_of ?_ rfl
  all_goals simp [results, Tryd.results40, go_sem]
  all_goals go_light
  all_goals exact (by repeat (first | exact Below.refl _ _ | with_reducible apply below_alloc | with_reducible refine Below.setCell ?_ (by dsimp only; omega) _))

set_option maxHeartbeats 400000 in
theorem hasR_15 (w : World) : Calls Tryd.prog 40 #[.int .i64 15] w fun e w' => e = .returned (.agg #[.bool true, .bool false, .bool false, .bool true]) ∧ Below w.heap.size w w' := by
  go_enter Tryd.func40, Tryd.ntmps40
  go_wp2
  all_goals (try simp only [Exit.inBlock, Exit.then])
  all_goals refine ret_of ?_ rfl
  all_goals simp [results, Tryd.results40, go_sem]
  all_goals go_light
  all_goals exact (by repeat (first | exact Below.refl _ _ | with_reducible apply below_alloc | with_reducible refine Below.setCell ?_ (by dsimp only; omega) _))

set_option maxHeartbeats 400000 in
theorem hasR_16 (w : World) : Calls Tryd.prog 40 #[.int .i64 16] w fun e w' => e = .returned (.agg #[.bool true, .bool false, .bool false, .bool true]) ∧ Below w.heap.size w w' := by
  go_enter Tryd.func40, Tryd.ntmps40
  go_wp2
  all_goals (try simp only [Exit.inBlock, Exit.then])
  all_goals refine ret_of ?_ rfl
  all_goals simp [results, Tryd.results40, go_sem]
  all_goals go_light
  all_goals exact (by repeat (first | exact Below.refl _ _ | with_reducible apply below_alloc | with_reducible refine Below.setCell ?_ (by dsimp only; omega) _))

set_option maxHeartbeats 400000 in
theorem hasR_17 (w : World) : Calls Tryd.prog 40 #[.int .i64 17] w fun e w' => e = .returned (.agg #[.bool true, .bool true, .bool false, .bool true]) ∧ Below w.heap.size w w' := by
  go_enter Tryd.func40, Tryd.ntmps40
  go_wp2
  all_goals (try simp only [Exit.inBlock, Exit.then])
  all_goals refine ret_of ?_ rfl
  all_goals simp [results, Tryd.results40, go_sem]
  all_goals go_light
  all_goals exact (by repeat (first | exact Below.refl _ _ | with_reducible apply below_alloc | with_reducible refine Below.setCell ?_ (by dsimp only; omega) _))

set_option maxHeartbeats 400000 in
theorem hasR_18 (w : World) : Calls Tryd.prog 40 #[.int .i64 18] w fun e w' => e = .returned (.agg #[.bool true, .bool false, .bool false, .bool true]) ∧ Below w.heap.size w w' := by
  go_enter Tryd.func40, Tryd.ntmps40
  go_wp2
  all_goals (try simp only [Exit.inBlock, Exit.then])
  all_goals refine ret_of ?_ rfl
  all_goals simp [results, Tryd.results40, go_sem]
  all_goals go_light
  all_goals exact (by repeat (first | exact Below.refl _ _ | with_reducible apply below_alloc | with_reducible refine Below.setCell ?_ (by dsimp only; omega) _))

set_option maxHeartbeats 400000 in
theorem hasR_19 (w : World) : Calls Tryd.prog 40 #[.int .i64 19] w fun e w' => e = .returned (.agg #[.bool true, .bool true, .bool false, .bool true]) ∧ Below w.heap.size w w' := by
  go_enter Tryd.func40, Tryd.ntmps40
  go_wp2
  all_goals (try simp only [Exit.inBlock, Exit.then])
  all_goals refine ret_of ?_ rfl
  all_goals simp [results, Tryd.results40, go_sem]
  all_goals go_light
  all_goals exact (by repeat (first | exact Below.refl _ _ | with_reducible apply below_alloc | with_reducible refine Below.setCell ?_ (by dsimp only; omega) _))

set_option maxHeartbeats 400000 in
theorem targetR_0 (w : World) : Calls Tryd.prog 42 #[.int .i64 0] w fun e w' => e = .returned (.bool false) ∧ Below w.heap.size w w' := by
  go_enter Tryd.func42, Tryd.ntmps42
  go_wp2
  all_goals go_ret
  all_goals exact ⟨by first | rfl | simp, (by repeat (first | exact Below.refl _ _ | with_reducible apply below_alloc | with_reducible refine Below.setCell ?_ (by dsimp only; omega) _))⟩

set_option maxHeartbeats 400000 in
theorem targetR_1 (w : World) : Calls Tryd.prog 42 #[.int .i64 1] w fun e w' => e = .returned (.bool false) ∧ Below w.heap.size w w' := by
  go_enter Tryd.func42, Tryd.ntmps42
  go_wp2
  all_goals go_ret
  all_goals exact ⟨by first | rfl | simp, (by repeat (first | exact Below.refl _ _ | with_reducible apply below_alloc | with_reducible refine Below.setCell ?_ (by dsimp only; omega) _))⟩

set_option maxHeartbeats 400000 in
theorem targetR_2 (w : World) : Calls Tryd.prog 42 #[.int .i64 2] w fun e w' => e = .returned (.bool false) ∧ Below w.heap.size w w' := by
  go_enter Tryd.func42, Tryd.ntmps42
  go_wp2
  all_goals go_ret
  all_goals exact ⟨by first | rfl | simp, (by repeat (first | exact Below.refl _ _ | with_reducible apply below_alloc | with_reducible refine Below.setCell ?_ (by dsimp only; omega) _))⟩

set_option maxHeartbeats 400000 in
theorem targetR_3 (w : World) : Calls Tryd.prog 42 #[.int .i64 3] w fun e w' => e = .returned (.bool false) ∧ Below w.heap.size w w' := by
  go_enter Tryd.func42, Tryd.ntmps42
  go_wp2
  all_goals go_ret
  all_goals exact ⟨by first | rfl | simp, (by repeat (first | exact Below.refl _ _ | with_reducible apply below_alloc | with_reducible refine Below.setCell ?_ (by dsimp only; omega) _))⟩

set_option maxHeartbeats 400000 in
theorem targetR_4 (w : World) : Calls Tryd.prog 42 #[.int .i64 4] w fun e w' => e = .returned (.bool false) ∧ Below w.heap.size w w' := by
  go_enter Tryd.func42, Tryd.ntmps42
  go_wp2
  all_goals go_ret
  all_goals exact ⟨by first | rfl | simp, (by repeat (first | exact Below.refl _ _ | with_reducible apply below_alloc | with_reducible refine Below.setCell ?_ (by dsimp only; omega) _))⟩

set_option maxHeartbeats 400000 in
theorem targetR_5 (w : World) : Calls Tryd.prog 42 #[.int .i64 5] w fun e w' => e = .returned (.bool false) ∧ Below w.heap.size w w' := by
  go_enter Tryd.func42, Tryd.ntmps42
  go_wp2
  all_goals go_ret
  all_goals exact ⟨by first | rfl | simp, (by repeat (first | exact Below.refl _ _ | with_reducible apply below_alloc | with_reducible refine Below.setCell ?_ (by dsimp only; omega) _))⟩

set_option maxHeartbeats 400000 in
theorem targetR_6 (w : World) : Calls Tryd.prog 42 #[.int .i64 6] w fun e w' => e = .returned (.bool false) ∧ Below w.heap.size w w' := by
  go_enter Tryd.func42, Tryd.ntmps42
  go_wp2
  all_goals go_ret
  all_goals exact ⟨by first | rfl | simp, (by repeat (first | exact Below.refl _ _ | with_reducible apply below_alloc | with_reducible refine Below.setCell ?_ (by dsimp only; omega) _))⟩

set_option maxHeartbeats 400000 in
theorem targetR_7 (w : World) : Calls Tryd.prog 42 #[.int .i64 7] w fun e w' => e = .returned (.bool false) ∧ Below w.heap.size w w' := by
  go_enter Tryd.func42, Tryd.ntmps42
  go_wp2
  all_goals go_ret
  all_goals exact ⟨by first | rfl | simp, (by repeat (first | exact Below.refl _ _ | with_reducible apply below_alloc | with_reducible refine Below.setCell ?_ (by dsimp only; omega) _))⟩

set_option maxHeartbeats 400000 in
theorem targetR_8 (w : World) : Calls Tryd.prog 42 #[.int .i64 8] w fun e w' => e = .returned (.bool false) ∧ Below w.heap.size w w' := by
  go_enter Tryd.func42, Tryd.ntmps42
  go_wp2
  all_goals go_ret
  all_goals exact ⟨by first | rfl | simp, (by repeat (first | exact Below.refl _ _ | with_reducible apply below_alloc | with_reducible refine Below.setCell ?_ (by dsimp only; omega) _))⟩

set_option maxHeartbeats 400000 in
theorem targetR_9 (w : World) : Calls Tryd.prog 42 #[.int .i64 9] w fun e w' => e = .returned (.bool false) ∧ Below w.heap.size w w' := by
  go_enter Tryd.func42, Tryd.ntmps42
  go_wp2
  all_goals go_ret
  all_goals exact ⟨by first | rfl | simp, (by repeat (first | exact Below.refl _ _ | with_reducible apply below_alloc | with_reducible refine Below.setCell ?_ (by dsimp only; omega) _))⟩

set_option maxHeartbeats 400000 in
theorem targetR_10 (w : World) : Calls Tryd.prog 42 #[.int .i64 10] w fun e w' => e = .returned (.bool false) ∧ Below w.heap.size w w' := by
  go_enter Tryd.func42, Tryd.ntmps42
  go_wp2
  all_goals go_ret
  all_goals exact ⟨by first | rfl | simp, (by repeat (first | exact Below.refl _ _ | with_reducible apply below_alloc | with_reducible refine Below.setCell ?_ (by dsimp only; omega) _))⟩

set_option maxHeartbeats 400000 in
theorem targetR_11 (w : World) : Calls Tryd.prog 42 #[.int .i64 11] w fun e w' => e = .returned (.bool false) ∧ Below w.heap.size w w' := by
  go_enter Tryd.func42, Tryd.ntmps42
  go_wp2
  all_goals go_ret
  all_goals exact ⟨by first | rfl | simp, (by repeat (first | exact Below.refl _ _ | with_reducible apply below_alloc | with_reducible refine Below.setCell ?_ (by dsimp only; omega) _))⟩

set_option maxHeartbeats 400000 in
theorem targetR_12 (w : World) : Calls Tryd.prog 42 #[.int .i64 12] w fun e w' => e = .returned (.bool false) ∧ Below w.heap.size w w' := by
  go_enter Tryd.func42, Tryd.ntmps42
  go_wp2
  all_goals go_ret
  all_goals exact ⟨by first | rfl | simp, (by repeat (first | exact Below.refl _ _ | with_reducible apply below_alloc | with_reducible refine Below.setCell ?_ (by dsimp only; omega) _))⟩

set_option maxHeartbeats 400000 in
theorem targetR_13 (w : World) : Calls Tryd.prog 42 #[.int .i64 13] w fun e w' => e = .returned (.bool false) ∧ Below w.heap.size w w' := by
  go_enter Tryd.func42, Tryd.ntmps42
  go_wp2
  all_goals go_ret
  all_goals exact ⟨by first | rfl | simp, (by repeat (first | exact Below.refl _ _ | with_reducible apply below_alloc | with_reducible refine Below.setCell ?_ (by dsimp only; omega) _))⟩

set_option maxHeartbeats 400000 in
theorem targetR_14 (w : World) : Calls Tryd.prog 42 #[.int .i64 14] w fun e w' => e = .returned (.bool true) ∧ Below w.heap.size w w' := by
  go_enter Tryd.func42, Tryd.ntmps42
  go_wp2
  all_goals go_ret
  all_goals exact ⟨by first | rfl | simp, (by repeat (first | exact Below.refl _ _ | with_reducible apply below_alloc | with_reducible refine Below.setCell ?_ (by dsimp only; omega) _))⟩

set_option maxHeartbeats 400000 in
theorem targetR_15 (w : World) : Calls Tryd.prog 42 #[.int .i64 15] w fun e w' => e = .returned (.bool true) ∧ Below w.heap.size w w' := by
  go_enter Tryd.func42, Tryd.ntmps42
  go_wp2
  all_goals go_ret
  all_goals exact ⟨by first | rfl | simp, (by repeat (first | exact Below.refl _ _ | with_reducible apply below_alloc | with_reducible refine Below.setCell ?_ (by dsimp only; omega) _))⟩

set_option maxHeartbeats 400000 in
theorem targetR_16 (w : World) : Calls Tryd.prog 42 #[.int .i64 16] w fun e w' => e = .returned (.bool true) ∧ Below w.heap.size w w' := by
  go_enter Tryd.func42, Tryd.ntmps42
  go_wp2
  all_goals go_ret
  all_goals exact ⟨by first | rfl | simp, (by repeat (first | exact Below.refl _ _ | with_reducible apply below_alloc | with_reducible refine Below.setCell ?_ (by dsimp only; omega) _))⟩

set_option maxHeartbeats 400000 in
theorem targetR_17 (w : World) : Calls Tryd.prog 42 #[.int .i64 17] w fun e w' => e = .returned (.bool true) ∧ Below w.heap.size w w' := by
  go_enter Tryd.func42, Tryd.ntmps42
  go_wp2
  all_goals go_ret
  all_goals exact ⟨by first | rfl | simp, (by repeat (first | exact Below.refl _ _ | with_reducible apply below_alloc | with_reducible refine Below.setCell ?_ (by dsimp only; omega) _))⟩

set_option maxHeartbeats 400000 in
theorem targetR_18 (w : World) : Calls Tryd.prog 42 #[.int .i64 18] w fun e w' => e = .returned (.bool true) ∧ Below w.heap.size w w' := by
  go_enter Tryd.func42, Tryd.ntmps42
  go_wp2
  all_goals go_ret
  all_goals exact ⟨by first | rfl | simp, (by repeat (first | exact Below.refl _ _ | with_reducible apply below_alloc | with_reducible refine Below.setCell ?_ (by dsimp only; omega) _))⟩

set_option maxHeartbeats 400000 in
theorem targetR_19 (w : World) : Calls Tryd.prog 42 #[.int .i64 19] w fun e w' => e = .returned (.bool false) ∧ Below w.heap.size w w' := by
  go_enter Tryd.func42, Tryd.ntmps42
  go_wp2
  all_goals go_ret
  all_goals exact ⟨by first | rfl | simp, (by repeat (first | exact Below.refl _ _ | with_reducible apply below_alloc | with_reducible refine Below.setCell ?_ (by dsimp only; omega) _))⟩

theorem hasR_k (op : Int) (h : known op = true) (w : World) : Calls Tryd.prog 40 #[.int .i64 op] w fun e w' => e = .returned (.agg #[.bool (row op.toNat).a, .bool (row op.toNat).b, .bool (row op.toNat).c, .bool (!decide ((row op.toNat).n = 0))]) ∧ Below w.heap.size w w' :=
  known_cases (P := fun op => Calls Tryd.prog 40 #[.int .i64 op] w fun e w' => e = .returned (.agg #[.bool (row op.toNat).a, .bool (row op.toNat).b, .bool (row op.toNat).c, .bool (!decide ((row op.toNat).n = 0))]) ∧ Below w.heap.size w w') h (hasR_0 w) (hasR_1 w) (hasR_2 w) (hasR_3 w) (hasR_4 w) (hasR_5 w) (hasR_6 w) (hasR_7 w) (hasR_8 w) (hasR_9 w) (hasR_10 w) (hasR_11 w) (hasR_12 w) (hasR_13 w) (hasR_14 w) (hasR_15 w) (hasR_16 w) (hasR_17 w) (hasR_18 w) (hasR_19 w)

theorem targetR_k (op : Int) (h : known op = true) (w : World) : Calls Tryd.prog 42 #[.int .i64 op] w fun e w' => e = .returned (.bool (decide ((row op.toNat).n = 2))) ∧ Below w.heap.size w w' :=
  known_cases (P := fun op => Calls Tryd.prog 42 #[.int .i64 op] w fun e w' => e = .returned (.bool (decide ((row op.toNat).n = 2))) ∧ Below w.heap.size w w') h (targetR_0 w) (targetR_1 w) (targetR_2 w) (targetR_3 w) (targetR_4 w) (targetR_5 w) (targetR_6 w) (targetR_7 w) (targetR_8 w) (targetR_9 w) (targetR_10 w) (targetR_11 w) (targetR_12 w) (targetR_13 w) (targetR_14 w) (targetR_15 w) (targetR_16 w) (targetR_17 w) (targetR_18 w) (targetR_19 w)

theorem known_ne {op : Int} (h : known op = false) {k : Int} (h0 : 0 ≤ k) (h1 : k < 20) : (op == k) = false := by
  have := known_no h
  simp; omega
set_option maxHeartbeats 400000 in
theorem registerR_1 (has : Bool) (r regs : Int) (h1 : has = false) (h2 : (r == 0) = true) (w : World) : Calls Tryd.prog 41 #[.bool has, .int .i64 r, .int .i64 regs] w fun e w' => e = .returned (.int .i64 0) ∧ Below w.heap.size w w' := by
  go_enter Tryd.func41, Tryd.ntmps41
  subst h1
  have h3 : (r != 0) = false := by simpa using h2
  go_wp2
  all_goals go_ret
  all_goals exact ⟨by first | rfl | simp, (by repeat (first | exact Below.refl _ _ | with_reducible apply below_alloc | with_reducible refine Below.setCell ?_ (by dsimp only; omega) _))⟩

set_option maxHeartbeats 400000 in
theorem registerR_2 (has : Bool) (r regs : Int) (h1 : has = false) (h2 : (r == 0) = false) (w : World) : Calls Tryd.prog 41 #[.bool has, .int .i64 r, .int .i64 regs] w fun e w' => e = .returned (.int .i64 62) ∧ Below w.heap.size w w' := by
  go_enter Tryd.func41, Tryd.ntmps41
  subst h1
  have h3 : (r != 0) = true := by simpa using h2
  go_wp2
  all_goals go_ret
  all_goals exact ⟨by first | rfl | simp, (by repeat (first | exact Below.refl _ _ | with_reducible apply below_alloc | with_reducible refine Below.setCell ?_ (by dsimp only; omega) _))⟩

set_option maxHeartbeats 400000 in
theorem registerR_3 (has : Bool) (r regs : Int) (h1 : has = true) (h2 : decide (r < 0) = true) (w : World) : Calls Tryd.prog 41 #[.bool has, .int .i64 r, .int .i64 regs] w fun e w' => e = .returned (.int .i64 61) ∧ Below w.heap.size w w' := by
  go_enter Tryd.func41, Tryd.ntmps41
  subst h1
  go_wp2
  all_goals go_ret
  all_goals exact ⟨by first | rfl | simp, (by repeat (first | exact Below.refl _ _ | with_reducible apply below_alloc | with_reducible refine Below.setCell ?_ (by dsimp only; omega) _))⟩

set_option maxHeartbeats 400000 in
theorem registerR_4 (has : Bool) (r regs : Int) (h1 : has = true) (h2 : decide (r < 0) = false) (h3 : decide (regs ≤ r) = true) (w : World) : Calls Tryd.prog 41 #[.bool has, .int .i64 r, .int .i64 regs] w fun e w' => e = .returned (.int .i64 61) ∧ Below w.heap.size w w' := by
  go_enter Tryd.func41, Tryd.ntmps41
  subst h1
  go_wp2
  all_goals go_ret
  all_goals exact ⟨by first | rfl | simp, (by repeat (first | exact Below.refl _ _ | with_reducible apply below_alloc | with_reducible refine Below.setCell ?_ (by dsimp only; omega) _))⟩

set_option maxHeartbeats 400000 in
theorem registerR_5 (has : Bool) (r regs : Int) (h1 : has = true) (h2 : decide (r < 0) = false) (h3 : decide (regs ≤ r) = false) (w : World) : Calls Tryd.prog 41 #[.bool has, .int .i64 r, .int .i64 regs] w fun e w' => e = .returned (.int .i64 0) ∧ Below w.heap.size w w' := by
  go_enter Tryd.func41, Tryd.ntmps41
  subst h1
  go_wp2
  all_goals go_ret
  all_goals exact ⟨by first | rfl | simp, (by repeat (first | exact Below.refl _ _ | with_reducible apply below_alloc | with_reducible refine Below.setCell ?_ (by dsimp only; omega) _))⟩

theorem registerR (has : Bool) (r regs : Int) (w : World) : Calls Tryd.prog 41 #[.bool has, .int .i64 r, .int .i64 regs] w fun e w' => e = .returned (.int .i64 (fldErr has r regs)) ∧ Below w.heap.size w w' := by
  rcases fldErr_cases has r regs with ⟨g1, g2, g0⟩ | ⟨g1, g2, g0⟩ | ⟨g1, g2, g0⟩ | ⟨g1, g2, g3, g0⟩ | ⟨g1, g2, g3, g0⟩ <;> rw [g0]
  · exact registerR_1 has r regs g1 (by simpa using g2) w
  · exact registerR_2 has r regs g1 (by simpa using g2) w
  · exact registerR_3 has r regs g1 (by simpa using g2) w
  · exact registerR_4 has r regs g1 (by simpa using g2) (by simpa using g3) w
  · exact registerR_5 has r regs g1 (by simpa using g2) (by simpa using g3) w
end Go.Proofs.YtjacfeohpofhpaaDoor
