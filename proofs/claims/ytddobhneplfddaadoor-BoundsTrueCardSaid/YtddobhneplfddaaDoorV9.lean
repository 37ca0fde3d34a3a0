/-
  Layer 16 (bounds): Ref9.
-/
import Derived.Test.YtddobhneplfddaaDoorV5
namespace Go.Proofs.YtddobhneplfddaaDoor
set_option maxRecDepth 100000
open Go.RowKit
set_option linter.unusedSimpArgs false
set_option linter.unusedVariables false
attribute [local go_sem ↓] Go.wp_at_zero Go.wp_at_succ

/-- A known operation is one of twenty numbers. -/
theorem known_cases {op : Int} (h : known op = true) {P : Int → Prop} (h10 : P 0) (h11 : P 1) (h12 : P 2) (h13 : P 3) (h14 : P 4) (h15 : P 5) (h16 : P 6) (h17 : P 7) (h18 : P 8) (h19 : P 9) (h20 : P 10) (h21 : P 11) (h22 : P 12) (h23 : P 13) (h24 : P 14) (h25 : P 15) (h26 : P 16) (h27 : P 17) (h28 : P 18) (h29 : P 19) : P op := by
  obtain ⟨h0, h1⟩ := known_yes h
  have : op = 0 ∨ op = 1 ∨ op = 2 ∨ op = 3 ∨ op = 4 ∨ op = 5 ∨ op = 6 ∨ op = 7 ∨ op = 8 ∨ op = 9 ∨ op = 10 ∨ op = 11 ∨ op = 12 ∨ op = 13 ∨ op = 14 ∨ op = 15 ∨ op = 16 ∨ op = 17 ∨ op = 18 ∨ op = 19 := by omega
  rcases this with rfl | rfl | rfl | rfl | rfl | rfl | rfl | rfl | rfl | rfl | rfl | rfl | rfl | rfl | rfl | rfl | rfl | rfl | rfl | rfl
  · exact h10
  · exact h11
  · exact h12
  · exact h13
  · exact h14
  · exact h15
  · exact h16
  · exact h17
  · exact h18
  · exact h19
  · exact h20
  · exact h21
  · exact h22
  · exact h23
  · exact h24
  · exact h25
  · exact h26
  · exact h27
  · exact h28
  · exact h29

set_option maxHeartbeats 4000000 in
theorem hasR_0 (w : World) : Calls Tryd.prog 78 #[.int .i64 0] w fun e w' => e = .returned (.agg #[.bool true, .bool false, .bool false, .bool false]) ∧ Below w.heap.size w w' := by
  go_enter Tryd.func78, Tryd.ntmps78
  go_wp2
  all_goals (try simp only [Exit.inBlock, Exit.then])
  all_goals refine ret_of ?_ rfl
  all_goals simp [results, Tryd.results78, go_sem]
  all_goals go_light
  all_goals exact (by repeat (first | exact Below.refl _ _ | with_reducible apply below_alloc | with_reducible refine Below.setCell ?_ (by dsimp only; omega) _))

set_option maxHeartbeats 4000000 in
theorem hasR_1 (w : World) : Calls Tryd.prog 78 #[.int .i64 1] w fun e w' => e = .returned (.agg #[.bool true, .bool false, .bool false, .bool true]) ∧ Below w.heap.size w w' := by
  go_enter Tryd.func78, Tryd.ntmps78
  go_wp2
  all_goals (try simp only [Exit.inBlock, Exit.then])
  all_goals refine ret_of ?_ rfl
  all_goals simp [results, Tryd.results78, go_sem]
  all_goals go_light
  all_goals exact (by repeat (first | exact Below.refl _ _ | with_reducible apply below_alloc | with_reducible refine Below.setCell ?_ (by dsimp only; omega) _))

set_option maxHeartbeats 4000000 in
theorem hasR_2 (w : World) : Calls Tryd.prog 78 #[.int .i64 2] w fun e w' => e = .returned (.agg #[.bool true, .bool true, .bool false, .bool false]) ∧ Below w.heap.size w w' := by
  go_enter Tryd.func78, Tryd.ntmps78
  go_wp2
  all_goals (try simp only [Exit.inBlock, Exit.then])
  all_goals refine ret_of ?_ rfl
  all_goals simp [results, Tryd.results78, go_sem]
  all_goals go_light
  all_goals exact (by repeat (first | exact Below.refl _ _ | with_reducible apply below_alloc | with_reducible refine Below.setCell ?_ (by dsimp only; omega) _))

set_option maxHeartbeats 4000000 in
theorem hasR_3 (w : World) : Calls Tryd.prog 78 #[.int .i64 3] w fun e w' => e = .returned (.agg #[.bool true, .bool true, .bool true, .bool false]) ∧ Below w.heap.size w w' := by
  go_enter Tryd.func78, Tryd.ntmps78
  go_wp2
  all_goals (try simp only [Exit.inBlock, Exit.then])
  all_goals refine ret_of ?_ rfl
  all_goals simp [results, Tryd.results78, go_sem]
  all_goals go_light
  all_goals exact (by repeat (first | exact Below.refl _ _ | with_reducible apply below_alloc | with_reducible refine Below.setCell ?_ (by dsimp only; omega) _))

set_option maxHeartbeats 4000000 in
theorem hasR_4 (w : World) : Calls Tryd.prog 78 #[.int .i64 4] w fun e w' => e = .returned (.agg #[.bool true, .bool true, .bool true, .bool false]) ∧ Below w.heap.size w w' := by
  go_enter Tryd.func78, Tryd.ntmps78
  go_wp2
  all_goals (try simp only [Exit.inBlock, Exit.then])
  all_goals refine ret_of ?_ rfl
  all_goals simp [results, Tryd.results78, go_sem]
  all_goals go_light
  all_goals exact (by repeat (first | exact Below.refl _ _ | with_reducible apply below_alloc | with_reducible refine Below.setCell ?_ (by dsimp only; omega) _))

set_option maxHeartbeats 4000000 in
theorem hasR_5 (w : World) : Calls Tryd.prog 78 #[.int .i64 5] w fun e w' => e = .returned (.agg #[.bool true, .bool true, .bool true, .bool false]) ∧ Below w.heap.size w w' := by
  go_enter Tryd.func78, Tryd.ntmps78
  go_wp2
  all_goals (try simp only [Exit.inBlock, Exit.then])
  all_goals refine ret_of ?_ rfl
  all_goals simp [results, Tryd.results78, go_sem]
  all_goals go_light
  all_goals exact (by repeat (first | exact Below.refl _ _ | with_reducible apply below_alloc | with_reducible refine Below.setCell ?_ (by dsimp only; omega) _))

set_option maxHeartbeats 4000000 in
theorem hasR_6 (w : World) : Calls Tryd.prog 78 #[.int .i64 6] w fun e w' => e = .returned (.agg #[.bool true, .bool true, .bool true, .bool false]) ∧ Below w.heap.size w w' := by
  go_enter Tryd.func78, Tryd.ntmps78
  go_wp2
  all_goals (try simp only [Exit.inBlock, Exit.then])
  all_goals refine ret_of ?_ rfl
  all_goals simp [results, Tryd.results78, go_sem]
  all_goals go_light
  all_goals exact (by repeat (first | exact Below.refl _ _ | with_reducible apply below_alloc | with_reducible refine Below.setCell ?_ (by dsimp only; omega) _))

set_option maxHeartbeats 4000000 in
theorem hasR_7 (w : World) : Calls Tryd.prog 78 #[.int .i64 7] w fun e w' => e = .returned (.agg #[.bool true, .bool true, .bool true, .bool false]) ∧ Below w.heap.size w w' := by
  go_enter Tryd.func78, Tryd.ntmps78
  go_wp2
  all_goals (try simp only [Exit.inBlock, Exit.then])
  all_goals refine ret_of ?_ rfl
  all_goals simp [results, Tryd.results78, go_sem]
  all_goals go_light
  all_goals exact (by repeat (first | exact Below.refl _ _ | with_reducible apply below_alloc | with_reducible refine Below.setCell ?_ (by dsimp only; omega) _))

set_option maxHeartbeats 4000000 in
theorem hasR_8 (w : World) : Calls Tryd.prog 78 #[.int .i64 8] w fun e w' => e = .returned (.agg #[.bool true, .bool true, .bool true, .bool false]) ∧ Below w.heap.size w w' := by
  go_enter Tryd.func78, Tryd.ntmps78
  go_wp2
  all_goals (try simp only [Exit.inBlock, Exit.then])
  all_goals refine ret_of ?_ rfl
  all_goals simp [results, Tryd.results78, go_sem]
  all_goals go_light
  all_goals exact (by repeat (first | exact Below.refl _ _ | with_reducible apply below_alloc | with_reducible refine Below.setCell ?_ (by dsimp only; omega) _))

set_option maxHeartbeats 4000000 in
theorem hasR_9 (w : World) : Calls Tryd.prog 78 #[.int .i64 9] w fun e w' => e = .returned (.agg #[.bool true, .bool true, .bool true, .bool false]) ∧ Below w.heap.size w w' := by
  go_enter Tryd.func78, Tryd.ntmps78
  go_wp2
  all_goals (try simp only [Exit.inBlock, Exit.then])
  all_goals refine ret_of ?_ rfl
  all_goals simp [results, Tryd.results78, go_sem]
  all_goals go_light
  all_goals exact (by repeat (first | exact Below.refl _ _ | with_reducible apply below_alloc | with_reducible refine Below.setCell ?_ (by dsimp only; omega) _))

set_option maxHeartbeats 4000000 in
theorem hasR_10 (w : World) : Calls Tryd.prog 78 #[.int .i64 10] w fun e w' => e = .returned (.agg #[.bool true, .bool true, .bool false, .bool false]) ∧ Below w.heap.size w w' := by
  go_enter Tryd.func78, Tryd.ntmps78
  go_wp2
  all_goals (try simp only [Exit.inBlock, Exit.then])
  all_goals refine ret_of ?_ rfl
  all_goals simp [results, Tryd.results78, go_sem]
  all_goals go_light
  all_goals exact (by repeat (first | exact Below.refl _ _ | with_reducible apply below_alloc | with_reducible refine Below.setCell ?_ (by dsimp only; omega) _))

set_option maxHeartbeats 4000000 in
theorem hasR_11 (w : World) : Calls Tryd.prog 78 #[.int .i64 11] w fun e w' => e = .returned (.agg #[.bool true, .bool true, .bool false, .bool true]) ∧ Below w.heap.size w w' := by
  go_enter Tryd.func78, Tryd.ntmps78
  go_wp2
  all_goals (try simp only [Exit.inBlock, Exit.then])
  all_goals refine ret_of ?_ rfl
  all_goals simp [results, Tryd.results78, go_sem]
  all_goals go_light
  all_goals exact (by repeat (first | exact Below.refl _ _ | with_reducible apply below_alloc | with_reducible refine Below.setCell ?_ (by dsimp only; omega) _))

set_option maxHeartbeats 4000000 in
theorem hasR_12 (w : World) : Calls Tryd.prog 78 #[.int .i64 12] w fun e w' => e = .returned (.agg #[.bool true, .bool true, .bool false, .bool true]) ∧ Below w.heap.size w w' := by
  go_enter Tryd.func78, Tryd.ntmps78
  go_wp2
  all_goals (try simp only [Exit.inBlock, Exit.then])
  all_goals refine ret_of ?_ rfl
  all_goals simp [results, Tryd.results78, go_sem]
  all_goals go_light
  all_goals exact (by repeat (first | exact Below.refl _ _ | with_reducible apply below_alloc | with_reducible refine Below.setCell ?_ (by dsimp only; omega) _))

set_option maxHeartbeats 4000000 in
theorem hasR_13 (w : World) : Calls Tryd.prog 78 #[.int .i64 13] w fun e w' => e = .returned (.agg #[.bool true, .bool false, .bool false, .bool true]) ∧ Below w.heap.size w w' := by
  go_enter Tryd.func78, Tryd.ntmps78
  go_wp2
  all_goals (try simp only [Exit.inBlock, Exit.then])
  all_goals refine ret_of ?_ rfl
  all_goals simp [results, Tryd.results78, go_sem]
  all_goals go_light
  all_goals exact (by repeat (first | exact Below.refl _ _ | with_reducible apply below_alloc | with_reducible refine Below.setCell ?_ (by dsimp only; omega) _))

set_option maxHeartbeats 4000000 in
theorem hasR_14 (w : World) : Calls Tryd.prog 78 #[.int .i64 14] w fun e w' => e = .returned (.agg #[.bool false, .bool false, .bool false, .bool true]) ∧ Below w.heap.size w w' := by
  go_enter Tryd.func78, Tryd.ntmps78
  go_wp2
  all_goals (try simp only [Exit.inBlock, Exit.then])
  all_goals refine ret_of ?_ rfl
  all_goals simp [results, Tryd.results78, go_sem]
  all_goals go_light
  all_goals exact (by repeat (first | exact Below.refl _ _ | with_reducible apply below_alloc | with_reducible refine Below.setCell ?_ (by dsimp only; omega) _))

set_option maxHeartbeats 4000000 in
theorem hasR_15 (w : World) : Calls Tryd.prog 78 #[.int .i64 15] w fun e w' => e = .returned (.agg #[.bool true, .bool false, .bool false, .bool true]) ∧ Below w.heap.size w w' := by
  go_enter Tryd.func78, Tryd.ntmps78
  go_wp2
  all_goals (try simp only [Exit.inBlock, Exit.then])
  all_goals refine ret_of ?_ rfl
  all_goals simp [results, Tryd.results78, go_sem]
  all_goals go_light
  all_goals exact (by repeat (first | exact Below.refl _ _ | with_reducible apply below_alloc | with_reducible refine Below.setCell ?_ (by dsimp only; omega) _))

set_option maxHeartbeats 4000000 in
theorem hasR_16 (w : World) : Calls Tryd.prog 78 #[.int .i64 16] w fun e w' => e = .returned (.agg #[.bool true, .bool false, .bool false, .bool true]) ∧ Below w.heap.size w w' := by
  go_enter Tryd.func78, Tryd.ntmps78
  go_wp2
  all_goals (try simp only [Exit.inBlock, Exit.then])
  all_goals refine ret_of ?_ rfl
  all_goals simp [results, Tryd.results78, go_sem]
  all_goals go_light
  all_goals exact (by repeat (first | exact Below.refl _ _ | with_reducible apply below_alloc | with_reducible refine Below.setCell ?_ (by dsimp only; omega) _))

set_option maxHeartbeats 4000000 in
theorem hasR_17 (w : World) : Calls Tryd.prog 78 #[.int .i64 17] w fun e w' => e = .returned (.agg #[.bool true, .bool true, .bool false, .bool true]) ∧ Below w.heap.size w w' := by
  go_enter Tryd.func78, Tryd.ntmps78
  go_wp2
  all_goals (try simp only [Exit.inBlock, Exit.then])
  all_goals refine ret_of ?_ rfl
  all_goals simp [results, Tryd.results78, go_sem]
  all_goals go_light
  all_goals exact (by repeat (first | exact Below.refl _ _ | with_reducible apply below_alloc | with_reducible refine Below.setCell ?_ (by dsimp only; omega) _))

set_option maxHeartbeats 4000000 in
theorem hasR_18 (w : World) : Calls Tryd.prog 78 #[.int .i64 18] w fun e w' => e = .returned (.agg #[.bool true, .bool false, .bool false, .bool true]) ∧ Below w.heap.size w w' := by
  go_enter Tryd.func78, Tryd.ntmps78
  go_wp2
  all_goals (try simp only [Exit.inBlock, Exit.then])
  all_goals refine ret_of ?_ rfl
  all_goals simp [results, Tryd.results78, go_sem]
  all_goals go_light
  all_goals exact (by repeat (first | exact Below.refl _ _ | with_reducible apply below_alloc | with_reducible refine Below.setCell ?_ (by dsimp only; omega) _))

set_option maxHeartbeats 4000000 in
theorem hasR_19 (w : World) : Calls Tryd.prog 78 #[.int .i64 19] w fun e w' => e = .returned (.agg #[.bool true, .bool true, .bool false, .bool true]) ∧ Below w.heap.size w w' := by
  go_enter Tryd.func78, Tryd.ntmps78
  go_wp2
  all_goals (try simp only [Exit.inBlock, Exit.then])
  all_goals refine ret_of ?_ rfl
  all_goals simp [results, Tryd.results78, go_sem]
  all_goals go_light
  all_goals exact (by repeat (first | exact Below.refl _ _ | with_reducible apply below_alloc | with_reducible refine Below.setCell ?_ (by dsimp only; omega) _))

set_option maxHeartbeats 4000000 in
theorem targetR_0 (w : World) : Calls Tryd.prog 38 #[.int .i64 0] w fun e w' => e = .returned (.bool false) ∧ Below w.heap.size w w' := by
  go_enter Tryd.func38, Tryd.ntmps38
  go_wp2
  all_goals go_ret
  all_goals exact ⟨by first | rfl | simp, (by repeat (first | exact Below.refl _ _ | with_reducible apply below_alloc | with_reducible refine Below.setCell ?_ (by dsimp only; omega) _))⟩

set_option maxHeartbeats 4000000 in
theorem targetR_1 (w : World) : Calls Tryd.prog 38 #[.int .i64 1] w fun e w' => e = .returned (.bool false) ∧ Below w.heap.size w w' := by
  go_enter Tryd.func38, Tryd.ntmps38
  go_wp2
  all_goals go_ret
  all_goals exact ⟨by first | rfl | simp, (by repeat (first | exact Below.refl _ _ | with_reducible apply below_alloc | with_reducible refine Below.setCell ?_ (by dsimp only; omega) _))⟩

set_option maxHeartbeats 4000000 in
theorem targetR_2 (w : World) : Calls Tryd.prog 38 #[.int .i64 2] w fun e w' => e = .returned (.bool false) ∧ Below w.heap.size w w' := by
  go_enter Tryd.func38, Tryd.ntmps38
  go_wp2
  all_goals go_ret
  all_goals exact ⟨by first | rfl | simp, (by repeat (first | exact Below.refl _ _ | with_reducible apply below_alloc | with_reducible refine Below.setCell ?_ (by dsimp only; omega) _))⟩

set_option maxHeartbeats 4000000 in
theorem targetR_3 (w : World) : Calls Tryd.prog 38 #[.int .i64 3] w fun e w' => e = .returned (.bool false) ∧ Below w.heap.size w w' := by
  go_enter Tryd.func38, Tryd.ntmps38
  go_wp2
  all_goals go_ret
  all_goals exact ⟨by first | rfl | simp, (by repeat (first | exact Below.refl _ _ | with_reducible apply below_alloc | with_reducible refine Below.setCell ?_ (by dsimp only; omega) _))⟩

set_option maxHeartbeats 4000000 in
theorem targetR_4 (w : World) : Calls Tryd.prog 38 #[.int .i64 4] w fun e w' => e = .returned (.bool false) ∧ Below w.heap.size w w' := by
  go_enter Tryd.func38, Tryd.ntmps38
  go_wp2
  all_goals go_ret
  all_goals exact ⟨by first | rfl | simp, (by repeat (first | exact Below.refl _ _ | with_reducible apply below_alloc | with_reducible refine Below.setCell ?_ (by dsimp only; omega) _))⟩

set_option maxHeartbeats 4000000 in
theorem targetR_5 (w : World) : Calls Tryd.prog 38 #[.int .i64 5] w fun e w' => e = .returned (.bool false) ∧ Below w.heap.size w w' := by
  go_enter Tryd.func38, Tryd.ntmps38
  go_wp2
  all_goals go_ret
  all_goals exact ⟨by first | rfl | simp, (by repeat (first | exact Below.refl _ _ | with_reducible apply below_alloc | with_reducible refine Below.setCell ?_ (by dsimp only; omega) _))⟩

set_option maxHeartbeats 4000000 in
theorem targetR_6 (w : World) : Calls Tryd.prog 38 #[.int .i64 6] w fun e w' => e = .returned (.bool false) ∧ Below w.heap.size w w' := by
  go_enter Tryd.func38, Tryd.ntmps38
  go_wp2
  all_goals go_ret
  all_goals exact ⟨by first | rfl | simp, (by repeat (first | exact Below.refl _ _ | with_reducible apply below_alloc | with_reducible refine Below.setCell ?_ (by dsimp only; omega) _))⟩

set_option maxHeartbeats 4000000 in
theorem targetR_7 (w : World) : Calls Tryd.prog 38 #[.int .i64 7] w fun e w' => e = .returned (.bool false) ∧ Below w.heap.size w w' := by
  go_enter Tryd.func38, Tryd.ntmps38
  go_wp2
  all_goals go_ret
  all_goals exact ⟨by first | rfl | simp, (by repeat (first | exact Below.refl _ _ | with_reducible apply below_alloc | with_reducible refine Below.setCell ?_ (by dsimp only; omega) _))⟩

set_option maxHeartbeats 4000000 in
theorem targetR_8 (w : World) : Calls Tryd.prog 38 #[.int .i64 8] w fun e w' => e = .returned (.bool false) ∧ Below w.heap.size w w' := by
  go_enter Tryd.func38, Tryd.ntmps38
  go_wp2
  all_goals go_ret
  all_goals exact ⟨by first | rfl | simp, (by repeat (first | exact Below.refl _ _ | with_reducible apply below_alloc | with_reducible refine Below.setCell ?_ (by dsimp only; omega) _))⟩

set_option maxHeartbeats 4000000 in
theorem targetR_9 (w : World) : Calls Tryd.prog 38 #[.int .i64 9] w fun e w' => e = .returned (.bool false) ∧ Below w.heap.size w w' := by
  go_enter Tryd.func38, Tryd.ntmps38
  go_wp2
  all_goals go_ret
  all_goals exact ⟨by first | rfl | simp, (by repeat (first | exact Below.refl _ _ | with_reducible apply below_alloc | with_reducible refine Below.setCell ?_ (by dsimp only; omega) _))⟩

set_option maxHeartbeats 4000000 in
theorem targetR_10 (w : World) : Calls Tryd.prog 38 #[.int .i64 10] w fun e w' => e = .returned (.bool false) ∧ Below w.heap.size w w' := by
  go_enter Tryd.func38, Tryd.ntmps38
  go_wp2
  all_goals go_ret
  all_goals exact ⟨by first | rfl | simp, (by repeat (first | exact Below.refl _ _ | with_reducible apply below_alloc | with_reducible refine Below.setCell ?_ (by dsimp only; omega) _))⟩

set_option maxHeartbeats 4000000 in
theorem targetR_11 (w : World) : Calls Tryd.prog 38 #[.int .i64 11] w fun e w' => e = .returned (.bool false) ∧ Below w.heap.size w w' := by
  go_enter Tryd.func38, Tryd.ntmps38
  go_wp2
  all_goals go_ret
  all_goals exact ⟨by first | rfl | simp, (by repeat (first | exact Below.refl _ _ | with_reducible apply below_alloc | with_reducible refine Below.setCell ?_ (by dsimp only; omega) _))⟩

set_option maxHeartbeats 4000000 in
theorem targetR_12 (w : World) : Calls Tryd.prog 38 #[.int .i64 12] w fun e w' => e = .returned (.bool false) ∧ Below w.heap.size w w' := by
  go_enter Tryd.func38, Tryd.ntmps38
  go_wp2
  all_goals go_ret
  all_goals exact ⟨by first | rfl | simp, (by repeat (first | exact Below.refl _ _ | with_reducible apply below_alloc | with_reducible refine Below.setCell ?_ (by dsimp only; omega) _))⟩

set_option maxHeartbeats 4000000 in
theorem targetR_13 (w : World) : Calls Tryd.prog 38 #[.int .i64 13] w fun e w' => e = .returned (.bool false) ∧ Below w.heap.size w w' := by
  go_enter Tryd.func38, Tryd.ntmps38
  go_wp2
  all_goals go_ret
  all_goals exact ⟨by first | rfl | simp, (by repeat (first | exact Below.refl _ _ | with_reducible apply below_alloc | with_reducible refine Below.setCell ?_ (by dsimp only; omega) _))⟩

set_option maxHeartbeats 4000000 in
theorem targetR_14 (w : World) : Calls Tryd.prog 38 #[.int .i64 14] w fun e w' => e = .returned (.bool true) ∧ Below w.heap.size w w' := by
  go_enter Tryd.func38, Tryd.ntmps38
  go_wp2
  all_goals go_ret
  all_goals exact ⟨by first | rfl | simp, (by repeat (first | exact Below.refl _ _ | with_reducible apply below_alloc | with_reducible refine Below.setCell ?_ (by dsimp only; omega) _))⟩

set_option maxHeartbeats 4000000 in
theorem targetR_15 (w : World) : Calls Tryd.prog 38 #[.int .i64 15] w fun e w' => e = .returned (.bool true) ∧ Below w.heap.size w w' := by
  go_enter Tryd.func38, Tryd.ntmps38
  go_wp2
  all_goals go_ret
  all_goals exact ⟨by first | rfl | simp, (by repeat (first | exact Below.refl _ _ | with_reducible apply below_alloc | with_reducible refine Below.setCell ?_ (by dsimp only; omega) _))⟩

set_option maxHeartbeats 4000000 in
theorem targetR_16 (w : World) : Calls Tryd.prog 38 #[.int .i64 16] w fun e w' => e = .returned (.bool true) ∧ Below w.heap.size w w' := by
  go_enter Tryd.func38, Tryd.ntmps38
  go_wp2
  all_goals go_ret
  all_goals exact ⟨by first | rfl | simp, (by repeat (first | exact Below.refl _ _ | with_reducible apply below_alloc | with_reducible refine Below.setCell ?_ (by dsimp only; omega) _))⟩

set_option maxHeartbeats 4000000 in
theorem targetR_17 (w : World) : Calls Tryd.prog 38 #[.int .i64 17] w fun e w' => e = .returned (.bool true) ∧ Below w.heap.size w w' := by
  go_enter Tryd.func38, Tryd.ntmps38
  go_wp2
  all_goals go_ret
  all_goals exact ⟨by first | rfl | simp, (by repeat (first | exact Below.refl _ _ | with_reducible apply below_alloc | with_reducible refine Below.setCell ?_ (by dsimp only; omega) _))⟩

set_option maxHeartbeats 4000000 in
theorem targetR_18 (w : World) : Calls Tryd.prog 38 #[.int .i64 18] w fun e w' => e = .returned (.bool true) ∧ Below w.heap.size w w' := by
  go_enter Tryd.func38, Tryd.ntmps38
  go_wp2
  all_goals go_ret
  all_goals exact ⟨by first | rfl | simp, (by repeat (first | exact Below.refl _ _ | with_reducible apply below_alloc | with_reducible refine Below.setCell ?_ (by dsimp only; omega) _))⟩

set_option maxHeartbeats 4000000 in
theorem targetR_19 (w : World) : Calls Tryd.prog 38 #[.int .i64 19] w fun e w' => e = .returned (.bool false) ∧ Below w.heap.size w w' := by
  go_enter Tryd.func38, Tryd.ntmps38
  go_wp2
  all_goals go_ret
  all_goals exact ⟨by first | rfl | simp, (by repeat (first | exact Below.refl _ _ | with_reducible apply below_alloc | with_reducible refine Below.setCell ?_ (by dsimp only; omega) _))⟩

theorem hasR_k (op : Int) (h : known op = true) (w : World) : Calls Tryd.prog 78 #[.int .i64 op] w fun e w' => e = .returned (.agg #[.bool (row op.toNat).a, .bool (row op.toNat).b, .bool (row op.toNat).c, .bool (!decide ((row op.toNat).n = 0))]) ∧ Below w.heap.size w w' :=
  known_cases (P := fun op => Calls Tryd.prog 78 #[.int .i64 op] w fun e w' => e = .returned (.agg #[.bool (row op.toNat).a, .bool (row op.toNat).b, .bool (row op.toNat).c, .bool (!decide ((row op.toNat).n = 0))]) ∧ Below w.heap.size w w') h (hasR_0 w) (hasR_1 w) (hasR_2 w) (hasR_3 w) (hasR_4 w) (hasR_5 w) (hasR_6 w) (hasR_7 w) (hasR_8 w) (hasR_9 w) (hasR_10 w) (hasR_11 w) (hasR_12 w) (hasR_13 w) (hasR_14 w) (hasR_15 w) (hasR_16 w) (hasR_17 w) (hasR_18 w) (hasR_19 w)

theorem targetR_k (op : Int) (h : known op = true) (w : World) : Calls Tryd.prog 38 #[.int .i64 op] w fun e w' => e = .returned (.bool (decide ((row op.toNat).n = 2))) ∧ Below w.heap.size w w' :=
  known_cases (P := fun op => Calls Tryd.prog 38 #[.int .i64 op] w fun e w' => e = .returned (.bool (decide ((row op.toNat).n = 2))) ∧ Below w.heap.size w w') h (targetR_0 w) (targetR_1 w) (targetR_2 w) (targetR_3 w) (targetR_4 w) (targetR_5 w) (targetR_6 w) (targetR_7 w) (targetR_8 w) (targetR_9 w) (targetR_10 w) (targetR_11 w) (targetR_12 w) (targetR_13 w) (targetR_14 w) (targetR_15 w) (targetR_16 w) (targetR_17 w) (targetR_18 w) (targetR_19 w)

set_option maxHeartbeats 4000000 in
theorem registerR_1 (has : Bool) (r regs : Int) (h1 : has = false) (h2 : (r == 0) = true) (w : World) : Calls Tryd.prog 79 #[.bool has, .int .i64 r, .int .i64 regs] w fun e w' => e = .returned (.int .i64 0) ∧ Below w.heap.size w w' := by
  go_enter Tryd.func79, Tryd.ntmps79
  subst h1
  have h3 : (r != 0) = false := by simpa using h2
  go_wp2
  all_goals go_ret
  all_goals exact ⟨by first | rfl | simp, (by repeat (first | exact Below.refl _ _ | with_reducible apply below_alloc | with_reducible refine Below.setCell ?_ (by dsimp only; omega) _))⟩

set_option maxHeartbeats 4000000 in
theorem registerR_2 (has : Bool) (r regs : Int) (h1 : has = false) (h2 : (r == 0) = false) (w : World) : Calls Tryd.prog 79 #[.bool has, .int .i64 r, .int .i64 regs] w fun e w' => e = .returned (.int .i64 62) ∧ Below w.heap.size w w' := by
  go_enter Tryd.func79, Tryd.ntmps79
  subst h1
  have h3 : (r != 0) = true := by simpa using h2
  go_wp2
  all_goals go_ret
  all_goals exact ⟨by first | rfl | simp, (by repeat (first | exact Below.refl _ _ | with_reducible apply below_alloc | with_reducible refine Below.setCell ?_ (by dsimp only; omega) _))⟩

set_option maxHeartbeats 4000000 in
theorem registerR_3 (has : Bool) (r regs : Int) (h1 : has = true) (h2 : decide (r < 0) = true) (w : World) : Calls Tryd.prog 79 #[.bool has, .int .i64 r, .int .i64 regs] w fun e w' => e = .returned (.int .i64 61) ∧ Below w.heap.size w w' := by
  go_enter Tryd.func79, Tryd.ntmps79
  subst h1
  go_wp2
  all_goals go_ret
  all_goals exact ⟨by first | rfl | simp, (by repeat (first | exact Below.refl _ _ | with_reducible apply below_alloc | with_reducible refine Below.setCell ?_ (by dsimp only; omega) _))⟩

set_option maxHeartbeats 4000000 in
theorem registerR_4 (has : Bool) (r regs : Int) (h1 : has = true) (h2 : decide (r < 0) = false) (h3 : decide (regs ≤ r) = true) (w : World) : Calls Tryd.prog 79 #[.bool has, .int .i64 r, .int .i64 regs] w fun e w' => e = .returned (.int .i64 61) ∧ Below w.heap.size w w' := by
  go_enter Tryd.func79, Tryd.ntmps79
  subst h1
  go_wp2
  all_goals go_ret
  all_goals exact ⟨by first | rfl | simp, (by repeat (first | exact Below.refl _ _ | with_reducible apply below_alloc | with_reducible refine Below.setCell ?_ (by dsimp only; omega) _))⟩

set_option maxHeartbeats 4000000 in
theorem registerR_5 (has : Bool) (r regs : Int) (h1 : has = true) (h2 : decide (r < 0) = false) (h3 : decide (regs ≤ r) = false) (w : World) : Calls Tryd.prog 79 #[.bool has, .int .i64 r, .int .i64 regs] w fun e w' => e = .returned (.int .i64 0) ∧ Below w.heap.size w w' := by
  go_enter Tryd.func79, Tryd.ntmps79
  subst h1
  go_wp2
  all_goals go_ret
  all_goals exact ⟨by first | rfl | simp, (by repeat (first | exact Below.refl _ _ | with_reducible apply below_alloc | with_reducible refine Below.setCell ?_ (by dsimp only; omega) _))⟩

theorem registerR (has : Bool) (r regs : Int) (w : World) : Calls Tryd.prog 79 #[.bool has, .int .i64 r, .int .i64 regs] w fun e w' => e = .returned (.int .i64 (fldErr has r regs)) ∧ Below w.heap.size w w' := by
  rcases fldErr_cases has r regs with ⟨g1, g2, g0⟩ | ⟨g1, g2, g0⟩ | ⟨g1, g2, g0⟩ | ⟨g1, g2, g3, g0⟩ | ⟨g1, g2, g3, g0⟩ <;> rw [g0]
  · exact registerR_1 has r regs g1 (by simpa using g2) w
  · exact registerR_2 has r regs g1 (by simpa using g2) w
  · exact registerR_3 has r regs g1 (by simpa using g2) w
  · exact registerR_4 has r regs g1 (by simpa using g2) (by simpa using g3) w
  · exact registerR_5 has r regs g1 (by simpa using g2) (by simpa using g3) w
end Go.Proofs.YtddobhneplfddaaDoor

/-
  Layer 9 (code): IsName and spoilt of the reference.
-/
namespace Go.Proofs.YtddobhneplfddaaDoor
open Go.RowKit
set_option linter.unusedSimpArgs false
set_option linter.unusedVariables false
attribute [local go_sem ↓] Go.wp_at_zero Go.wp_at_succ

theorem isNameR_out (s : ByteArray) (w : World) (hs : s.size ≤ maxLen) (h : s.size = 0 ∨ 16 < s.size) : Calls Tryd.prog 77 #[.string s] w fun e w' => e = .returned (.bool (isNameB s)) ∧ w = w' := by
  have e : isNameB s = false := by rcases h with h | h <;> simp [isNameB] <;> omega
  rcases h with h | h
  · have u1 : decide ((s.size : Int) < 1) = true := by simp; omega
    go_enter Tryd.func77, Tryd.ntmps77
    go_wp2
    go_ret
    exact ⟨by rw [e]; rfl, rfl⟩
  · have u1 : decide ((s.size : Int) < 1) = false := by simp; omega
    have u2 : decide ((16 : Int) < (s.size : Int)) = true := by simp; omega
    go_enter Tryd.func77, Tryd.ntmps77
    go_wp2
    go_ret
    exact ⟨by rw [e]; rfl, rfl⟩

set_option maxHeartbeats 4000000 in
theorem isNameR (s : ByteArray) (w : World) (hs : s.size ≤ maxLen) : Calls Tryd.prog 77 #[.string s] w fun e w' => e = .returned (.bool (isNameB s)) ∧ w = w' := by
  by_cases hz : s.size = 0 ∨ 16 < s.size
  · exact isNameR_out s w hs hz
  unfold maxLen at hs
  have u1 : decide ((s.size : Int) < 1) = false := by simp; omega
  have u2 : decide ((16 : Int) < (s.size : Int)) = false := by simp; omega
  have hz1 : 0 < s.size := by omega
  have hz2 : s.size ≤ 16 := by omega
  clear hz
  go_enter Tryd.func77, Tryd.ntmps77
  go_wp2
  clear u1 u2
  go_loop [3] (fun i => ∃ k : Nat, k ≤ s.size ∧ i = .int .i64 k ∧ nameTo s k = true) (fun i => s.size - (intOf i).toNat)
  case atStart => exact ⟨0, Nat.zero_le _, rfl, rfl⟩
  case round =>
    obtain ⟨k, hk, rfl, hn⟩ := hrel
    have HN := Lib.hid hn; clear hn
    by_cases hlt : k < s.size
    · have hbyte : byteAt s k = s[k].toNat := by simp [byteAt, hlt]; rfl
      have HB := Lib.hid hbyte; clear hbyte
      have hok : nameByte k (byteAt s k) = true → nameTo s (k + 1) = true := fun h => by simp [nameTo, HN.out, h]
      have hno : nameByte k (byteAt s k) = false → isNameB s = false := isNameB_no HN.out hlt
      have HO := Lib.hid hok; clear hok
      have HX := Lib.hid hno; clear hno
      have hcase : (97 ≤ s[k].toNat ∧ s[k].toNat ≤ 122 ∧ k = 0) ∨ (97 ≤ s[k].toNat ∧ s[k].toNat ≤ 122 ∧ 0 < k) ∨ (s[k].toNat < 48) ∨ (48 ≤ s[k].toNat ∧ s[k].toNat ≤ 57 ∧ k = 0) ∨ (48 ≤ s[k].toNat ∧ s[k].toNat ≤ 57 ∧ 0 < k) ∨ (57 < s[k].toNat ∧ s[k].toNat < 97) ∨ (122 < s[k].toNat) := by omega
      rcases hcase with h | h | h | h | h | h | h
      · skip
        obtain ⟨g1, g2, rfl⟩ := h
        have e1 : decide ((97 : Int) ≤ (s[0].toNat : Int)) = true := by simp; omega
        have e2 : decide ((s[0].toNat : Int) ≤ 122) = true := by simp; omega
        have e3 : decide ((48 : Int) ≤ (s[0].toNat : Int)) = true := by simp; omega
        have e4 : decide ((s[0].toNat : Int) ≤ 57) = false := by simp; omega
        go_wp2
        go_round
        case rel => exact ⟨0 + 1, by omega, by first | rfl | go_num, HO.out (by rw [HB.out]; simp [nameByte]; omega)⟩
        case measure => simp [intOf]; omega
      · skip
        have e1 : decide ((97 : Int) ≤ (s[k].toNat : Int)) = true := by simp; omega
        have e2 : decide ((s[k].toNat : Int) ≤ 122) = true := by simp; omega
        have e3 : decide ((48 : Int) ≤ (s[k].toNat : Int)) = true := by simp; omega
        have e4 : decide ((s[k].toNat : Int) ≤ 57) = false := by simp; omega
        have e5 : (((k : Nat) : Int) == 0) = false := by simp; omega
        go_wp2
        go_round
        case rel => exact ⟨k + 1, by omega, by go_num, HO.out (by rw [HB.out]; simp [nameByte]; omega)⟩
        case measure => simp [intOf]; omega
      · skip
        have e1 : decide ((97 : Int) ≤ (s[k].toNat : Int)) = false := by simp; omega
        have e3 : decide ((48 : Int) ≤ (s[k].toNat : Int)) = false := by simp; omega
        go_wp2
        go_ret
        exact ⟨by rw [HX.out (by rw [HB.out]; simp [nameByte]; omega)]; rfl, rfl⟩
      · skip
        obtain ⟨g1, g2, rfl⟩ := h
        have e1 : decide ((97 : Int) ≤ (s[0].toNat : Int)) = false := by simp; omega
        have e3 : decide ((48 : Int) ≤ (s[0].toNat : Int)) = true := by simp; omega
        have e4 : decide ((s[0].toNat : Int) ≤ 57) = true := by simp; omega
        go_wp2
        go_ret
        exact ⟨by rw [HX.out (by rw [HB.out]; simp [nameByte]; omega)]; rfl, rfl⟩
      · skip
        have e1 : decide ((97 : Int) ≤ (s[k].toNat : Int)) = false := by simp; omega
        have e3 : decide ((48 : Int) ≤ (s[k].toNat : Int)) = true := by simp; omega
        have e4 : decide ((s[k].toNat : Int) ≤ 57) = true := by simp; omega
        have e5 : (((k : Nat) : Int) == 0) = false := by simp; omega
        go_wp2
        go_round
        case rel => exact ⟨k + 1, by omega, by go_num, HO.out (by rw [HB.out]; simp [nameByte]; omega)⟩
        case measure => simp [intOf]; omega
      · skip
        have e1 : decide ((97 : Int) ≤ (s[k].toNat : Int)) = false := by simp; omega
        have e3 : decide ((48 : Int) ≤ (s[k].toNat : Int)) = true := by simp; omega
        have e4 : decide ((s[k].toNat : Int) ≤ 57) = false := by simp; omega
        go_wp2
        go_ret
        exact ⟨by rw [HX.out (by rw [HB.out]; simp [nameByte]; omega)]; rfl, rfl⟩
      · skip
        have e1 : decide ((97 : Int) ≤ (s[k].toNat : Int)) = true := by simp; omega
        have e2 : decide ((s[k].toNat : Int) ≤ 122) = false := by simp; omega
        have e3 : decide ((48 : Int) ≤ (s[k].toNat : Int)) = true := by simp; omega
        have e4 : decide ((s[k].toNat : Int) ≤ 57) = false := by simp; omega
        go_wp2
        go_ret
        exact ⟨by rw [HX.out (by rw [HB.out]; simp [nameByte]; omega)]; rfl, rfl⟩
    · have hkk : k = s.size := by omega
      subst hkk
      have hfin : isNameB s = true := by simp [isNameB, HN.out, hz1, hz2]
      have HF := Lib.hid hfin; clear hfin
      go_wp2
      go_ret
      exact ⟨by rw [HF.out]; rfl, rfl⟩

theorem hasR_z {op : Int} (h : known op = true) (hz : (row op.toNat).n = 0) (w : World) : Calls Tryd.prog 78 #[.int .i64 op] w fun e w' => e = .returned (.agg #[.bool (row op.toNat).a, .bool (row op.toNat).b, .bool (row op.toNat).c, .bool false]) ∧ Below w.heap.size w w' := by
  have := hasR_k op h w
  rwa [hz] at this
theorem hasR_nz {op : Int} (h : known op = true) (hz : (row op.toNat).n ≠ 0) (w : World) : Calls Tryd.prog 78 #[.int .i64 op] w fun e w' => e = .returned (.agg #[.bool (row op.toNat).a, .bool (row op.toNat).b, .bool (row op.toNat).c, .bool true]) ∧ Below w.heap.size w w' := by
  have := hasR_k op h w
  rwa [show (!decide ((row op.toNat).n = 0)) = true from by simp [hz]] at this
theorem targetR_y {op : Int} (h : known op = true) (hz : (row op.toNat).n = 2) (w : World) : Calls Tryd.prog 38 #[.int .i64 op] w fun e w' => e = .returned (.bool true) ∧ Below w.heap.size w w' := by
  have := targetR_k op h w
  rwa [show decide ((row op.toNat).n = 2) = true from by simp [hz]] at this
theorem targetR_n {op : Int} (h : known op = true) (hz : (row op.toNat).n ≠ 2) (w : World) : Calls Tryd.prog 38 #[.int .i64 op] w fun e w' => e = .returned (.bool false) ∧ Below w.heap.size w w' := by
  have := targetR_k op h w
  rwa [show decide ((row op.toNat).n = 2) = false from by simp [hz]] at this
theorem n_3 {op : Int} (h : known op = true) : (op == 13) = decide ((row op.toNat).n = 3) := known_cases (P := fun op => (op == 13) = decide ((row op.toNat).n = 3)) h rfl rfl rfl rfl rfl rfl rfl rfl rfl rfl rfl rfl rfl rfl rfl rfl rfl rfl rfl rfl
theorem n_4 {op : Int} (h : known op = true) : (op == 19) = decide ((row op.toNat).n = 4) := known_cases (P := fun op => (op == 19) = decide ((row op.toNat).n = 4)) h rfl rfl rfl rfl rfl rfl rfl rfl rfl rfl rfl rfl rfl rfl rfl rfl rfl rfl rfl rfl
theorem flds_3 {p : Row} {x : InsD} {regs : Int} (h1 : fldErr p.a x.a regs = 0) (h2 : fldErr p.b x.b regs = 0) : fldsErr p x regs 3 = fldErr p.c x.c regs := by
  have e1 : fldsErr p x regs 1 = 0 := by rw [fldsErr_next (k := 0) rfl]; exact h1
  have e2 : fldsErr p x regs 2 = 0 := by rw [fldsErr_next e1]; exact h2
  exact fldsErr_next e2
theorem flds_2 {p : Row} {x : InsD} {regs : Int} (h1 : fldErr p.a x.a regs = 0) (h2 : fldErr p.b x.b regs ≠ 0) : fldsErr p x regs 3 = fldErr p.b x.b regs := by
  have e1 : fldsErr p x regs 1 = 0 := by rw [fldsErr_next (k := 0) rfl]; exact h1
  have e2 : fldsErr p x regs 2 = fldErr p.b x.b regs := fldsErr_next e1
  rw [fldsErr_stop (k := 2) (by omega) (by rw [e2]; exact h2), e2]
theorem flds_1 {p : Row} {x : InsD} {regs : Int} (h1 : fldErr p.a x.a regs ≠ 0) : fldsErr p x regs 3 = fldErr p.a x.a regs := by
  have e1 : fldsErr p x regs 1 = fldErr p.a x.a regs := fldsErr_next (k := 0) rfl
  rw [fldsErr_stop (k := 1) (by omega) (by rw [e1]; exact h1), e1]
theorem insErr_f {m : ModD} {f : FuncD} {x : InsD} {e : Int} (hn : known x.op = true) (h : fldsErr (row x.op.toNat) x f.regs 3 = e) (h0 : e ≠ 0) : insErr m f x = e := by
  rw [insErr, if_pos hn, h, if_neg h0]

set_option maxHeartbeats 4000000 in
theorem spoiltR_no (m : ModD) (f : FuncD) (x : InsD) (w : World) (wm : m.Wf) (wf : f.Wf) (wx : x.Wf) (hm : ModOk w w.heap.size m) (hk : known x.op = false) : Calls Tryd.prog 46 #[m.val, f.val, x.val] w fun e w' => e = .returned (.int .i64 60) ∧ Below w.heap.size w w' := by
  go_enter Tryd.func46, Tryd.ntmps46
  go_wp2_with (first
    | (go_at_call 37; refine (knownR _ _).mono ?_; rintro e w' ⟨rfl, rfl⟩))
  go_ret
  refine ⟨by first | rfl | simp, ?_⟩
  go_light
  exact (by repeat (first | exact Below.refl _ _ | with_reducible apply below_alloc | with_reducible apply Below.drew | with_reducible apply below_drewN | with_reducible refine Below.setCell ?_ (by dsimp only; omega) _ | with_reducible refine below_step ?_ hb5 | with_reducible refine below_step ?_ hb4 | with_reducible refine below_step ?_ hb3 | with_reducible refine below_step ?_ hb2 | with_reducible refine below_step ?_ hb1))

set_option maxHeartbeats 4000000 in
theorem spoiltR_az (m : ModD) (f : FuncD) (x : InsD) (w : World) (wm : m.Wf) (wf : f.Wf) (wx : x.Wf) (hm : ModOk w w.heap.size m) (hk : known x.op = true) (hz : (row x.op.toNat).n = 0) (e1 : (fldErr (row x.op.toNat).a x.a f.regs != 0) = true) : Calls Tryd.prog 46 #[m.val, f.val, x.val] w fun e w' => e = .returned (.int .i64 (fldErr (row x.op.toNat).a x.a f.regs)) ∧ Below w.heap.size w w' := by
  go_enter Tryd.func46, Tryd.ntmps46
  go_wp2_with (first
    | (go_at_call 37; refine (knownR _ _).mono ?_; rintro e w' ⟨rfl, rfl⟩)
    | (go_at_call 78; with_reducible refine (hasR_z hk hz _).mono ?_; rintro e w1 ⟨rfl, hb1⟩; obtain ⟨hcc1, hff1⟩ := bcell hb1; have hs1 := hb1.size; (try simp at hs1); have l1 : w.heap.size < w1.heap.size := (by omega); have m1 : w.heap.size + 1 < w1.heap.size := (by omega); have n1 : w.heap.size + 1 + 1 < w1.heap.size := (by omega))
    | (go_at_call 79; first | (have u := hb3; refine (registerR (row x.op.toNat).c x.c f.regs _).mono ?_; rintro e w4 ⟨rfl, hb4⟩; obtain ⟨hcc4, hff4⟩ := bcell hb4; have hs4 := hb4.size; (try simp at hs4); have l4 : w.heap.size < w4.heap.size := (by omega); have m4 : w.heap.size + 1 < w4.heap.size := (by omega); have n4 : w.heap.size + 1 + 1 < w4.heap.size := (by omega); have p4 : w1.heap.size < w4.heap.size := (by omega)) | (have u := hb2; refine (registerR (row x.op.toNat).b x.b f.regs _).mono ?_; rintro e w3 ⟨rfl, hb3⟩; obtain ⟨hcc3, hff3⟩ := bcell hb3; have hs3 := hb3.size; (try simp at hs3); have l3 : w.heap.size < w3.heap.size := (by omega); have m3 : w.heap.size + 1 < w3.heap.size := (by omega); have n3 : w.heap.size + 1 + 1 < w3.heap.size := (by omega); have p3 : w1.heap.size < w3.heap.size := (by omega)) | (refine (registerR (row x.op.toNat).a x.a f.regs _).mono ?_; rintro e w2 ⟨rfl, hb2⟩; obtain ⟨hcc2, hff2⟩ := bcell hb2; have hs2 := hb2.size; (try simp at hs2); have l2 : w.heap.size < w2.heap.size := (by omega); have m2 : w.heap.size + 1 < w2.heap.size := (by omega); have n2 : w.heap.size + 1 + 1 < w2.heap.size := (by omega); have p2 : w1.heap.size < w2.heap.size := (by omega))))
  go_ret
  refine ⟨by first | rfl | simp, ?_⟩
  go_light
  exact (by repeat (first | exact Below.refl _ _ | with_reducible apply below_alloc | with_reducible apply Below.drew | with_reducible apply below_drewN | with_reducible refine Below.setCell ?_ (by dsimp only; omega) _ | with_reducible refine below_step ?_ hb5 | with_reducible refine below_step ?_ hb4 | with_reducible refine below_step ?_ hb3 | with_reducible refine below_step ?_ hb2 | with_reducible refine below_step ?_ hb1))

set_option maxHeartbeats 4000000 in
theorem spoiltR_bz (m : ModD) (f : FuncD) (x : InsD) (w : World) (wm : m.Wf) (wf : f.Wf) (wx : x.Wf) (hm : ModOk w w.heap.size m) (hk : known x.op = true) (hz : (row x.op.toNat).n = 0) (e1 : (fldErr (row x.op.toNat).a x.a f.regs != 0) = false) (e2 : (fldErr (row x.op.toNat).b x.b f.regs != 0) = true) : Calls Tryd.prog 46 #[m.val, f.val, x.val] w fun e w' => e = .returned (.int .i64 (fldErr (row x.op.toNat).b x.b f.regs)) ∧ Below w.heap.size w w' := by
  go_enter Tryd.func46, Tryd.ntmps46
  go_wp2_with (first
    | (go_at_call 37; refine (knownR _ _).mono ?_; rintro e w' ⟨rfl, rfl⟩)
    | (go_at_call 78; with_reducible refine (hasR_z hk hz _).mono ?_; rintro e w1 ⟨rfl, hb1⟩; obtain ⟨hcc1, hff1⟩ := bcell hb1; have hs1 := hb1.size; (try simp at hs1); have l1 : w.heap.size < w1.heap.size := (by omega); have m1 : w.heap.size + 1 < w1.heap.size := (by omega); have n1 : w.heap.size + 1 + 1 < w1.heap.size := (by omega))
    | (go_at_call 79; first | (have u := hb3; refine (registerR (row x.op.toNat).c x.c f.regs _).mono ?_; rintro e w4 ⟨rfl, hb4⟩; obtain ⟨hcc4, hff4⟩ := bcell hb4; have hs4 := hb4.size; (try simp at hs4); have l4 : w.heap.size < w4.heap.size := (by omega); have m4 : w.heap.size + 1 < w4.heap.size := (by omega); have n4 : w.heap.size + 1 + 1 < w4.heap.size := (by omega); have p4 : w1.heap.size < w4.heap.size := (by omega)) | (have u := hb2; refine (registerR (row x.op.toNat).b x.b f.regs _).mono ?_; rintro e w3 ⟨rfl, hb3⟩; obtain ⟨hcc3, hff3⟩ := bcell hb3; have hs3 := hb3.size; (try simp at hs3); have l3 : w.heap.size < w3.heap.size := (by omega); have m3 : w.heap.size + 1 < w3.heap.size := (by omega); have n3 : w.heap.size + 1 + 1 < w3.heap.size := (by omega); have p3 : w1.heap.size < w3.heap.size := (by omega)) | (refine (registerR (row x.op.toNat).a x.a f.regs _).mono ?_; rintro e w2 ⟨rfl, hb2⟩; obtain ⟨hcc2, hff2⟩ := bcell hb2; have hs2 := hb2.size; (try simp at hs2); have l2 : w.heap.size < w2.heap.size := (by omega); have m2 : w.heap.size + 1 < w2.heap.size := (by omega); have n2 : w.heap.size + 1 + 1 < w2.heap.size := (by omega); have p2 : w1.heap.size < w2.heap.size := (by omega))))
  go_ret
  refine ⟨by first | rfl | simp, ?_⟩
  go_light
  exact (by repeat (first | exact Below.refl _ _ | with_reducible apply below_alloc | with_reducible apply Below.drew | with_reducible apply below_drewN | with_reducible refine Below.setCell ?_ (by dsimp only; omega) _ | with_reducible refine below_step ?_ hb5 | with_reducible refine below_step ?_ hb4 | with_reducible refine below_step ?_ hb3 | with_reducible refine below_step ?_ hb2 | with_reducible refine below_step ?_ hb1))

set_option maxHeartbeats 4000000 in
theorem spoiltR_cz (m : ModD) (f : FuncD) (x : InsD) (w : World) (wm : m.Wf) (wf : f.Wf) (wx : x.Wf) (hm : ModOk w w.heap.size m) (hk : known x.op = true) (hz : (row x.op.toNat).n = 0) (e1 : (fldErr (row x.op.toNat).a x.a f.regs != 0) = false) (e2 : (fldErr (row x.op.toNat).b x.b f.regs != 0) = false) (e3 : (fldErr (row x.op.toNat).c x.c f.regs != 0) = true) : Calls Tryd.prog 46 #[m.val, f.val, x.val] w fun e w' => e = .returned (.int .i64 (fldErr (row x.op.toNat).c x.c f.regs)) ∧ Below w.heap.size w w' := by
  go_enter Tryd.func46, Tryd.ntmps46
  go_wp2_with (first
    | (go_at_call 37; refine (knownR _ _).mono ?_; rintro e w' ⟨rfl, rfl⟩)
    | (go_at_call 78; with_reducible refine (hasR_z hk hz _).mono ?_; rintro e w1 ⟨rfl, hb1⟩; obtain ⟨hcc1, hff1⟩ := bcell hb1; have hs1 := hb1.size; (try simp at hs1); have l1 : w.heap.size < w1.heap.size := (by omega); have m1 : w.heap.size + 1 < w1.heap.size := (by omega); have n1 : w.heap.size + 1 + 1 < w1.heap.size := (by omega))
    | (go_at_call 79; first | (have u := hb3; refine (registerR (row x.op.toNat).c x.c f.regs _).mono ?_; rintro e w4 ⟨rfl, hb4⟩; obtain ⟨hcc4, hff4⟩ := bcell hb4; have hs4 := hb4.size; (try simp at hs4); have l4 : w.heap.size < w4.heap.size := (by omega); have m4 : w.heap.size + 1 < w4.heap.size := (by omega); have n4 : w.heap.size + 1 + 1 < w4.heap.size := (by omega); have p4 : w1.heap.size < w4.heap.size := (by omega)) | (have u := hb2; refine (registerR (row x.op.toNat).b x.b f.regs _).mono ?_; rintro e w3 ⟨rfl, hb3⟩; obtain ⟨hcc3, hff3⟩ := bcell hb3; have hs3 := hb3.size; (try simp at hs3); have l3 : w.heap.size < w3.heap.size := (by omega); have m3 : w.heap.size + 1 < w3.heap.size := (by omega); have n3 : w.heap.size + 1 + 1 < w3.heap.size := (by omega); have p3 : w1.heap.size < w3.heap.size := (by omega)) | (refine (registerR (row x.op.toNat).a x.a f.regs _).mono ?_; rintro e w2 ⟨rfl, hb2⟩; obtain ⟨hcc2, hff2⟩ := bcell hb2; have hs2 := hb2.size; (try simp at hs2); have l2 : w.heap.size < w2.heap.size := (by omega); have m2 : w.heap.size + 1 < w2.heap.size := (by omega); have n2 : w.heap.size + 1 + 1 < w2.heap.size := (by omega); have p2 : w1.heap.size < w2.heap.size := (by omega))))
  go_ret
  refine ⟨by first | rfl | simp, ?_⟩
  go_light
  exact (by repeat (first | exact Below.refl _ _ | with_reducible apply below_alloc | with_reducible apply Below.drew | with_reducible apply below_drewN | with_reducible refine Below.setCell ?_ (by dsimp only; omega) _ | with_reducible refine below_step ?_ hb5 | with_reducible refine below_step ?_ hb4 | with_reducible refine below_step ?_ hb3 | with_reducible refine below_step ?_ hb2 | with_reducible refine below_step ?_ hb1))

set_option maxHeartbeats 4000000 in
theorem spoiltR_anz (m : ModD) (f : FuncD) (x : InsD) (w : World) (wm : m.Wf) (wf : f.Wf) (wx : x.Wf) (hm : ModOk w w.heap.size m) (hk : known x.op = true) (hz : (row x.op.toNat).n ≠ 0) (e1 : (fldErr (row x.op.toNat).a x.a f.regs != 0) = true) : Calls Tryd.prog 46 #[m.val, f.val, x.val] w fun e w' => e = .returned (.int .i64 (fldErr (row x.op.toNat).a x.a f.regs)) ∧ Below w.heap.size w w' := by
  go_enter Tryd.func46, Tryd.ntmps46
  go_wp2_with (first
    | (go_at_call 37; refine (knownR _ _).mono ?_; rintro e w' ⟨rfl, rfl⟩)
    | (go_at_call 78; with_reducible refine (hasR_nz hk hz _).mono ?_; rintro e w1 ⟨rfl, hb1⟩; obtain ⟨hcc1, hff1⟩ := bcell hb1; have hs1 := hb1.size; (try simp at hs1); have l1 : w.heap.size < w1.heap.size := (by omega); have m1 : w.heap.size + 1 < w1.heap.size := (by omega); have n1 : w.heap.size + 1 + 1 < w1.heap.size := (by omega))
    | (go_at_call 79; first | (have u := hb3; refine (registerR (row x.op.toNat).c x.c f.regs _).mono ?_; rintro e w4 ⟨rfl, hb4⟩; obtain ⟨hcc4, hff4⟩ := bcell hb4; have hs4 := hb4.size; (try simp at hs4); have l4 : w.heap.size < w4.heap.size := (by omega); have m4 : w.heap.size + 1 < w4.heap.size := (by omega); have n4 : w.heap.size + 1 + 1 < w4.heap.size := (by omega); have p4 : w1.heap.size < w4.heap.size := (by omega)) | (have u := hb2; refine (registerR (row x.op.toNat).b x.b f.regs _).mono ?_; rintro e w3 ⟨rfl, hb3⟩; obtain ⟨hcc3, hff3⟩ := bcell hb3; have hs3 := hb3.size; (try simp at hs3); have l3 : w.heap.size < w3.heap.size := (by omega); have m3 : w.heap.size + 1 < w3.heap.size := (by omega); have n3 : w.heap.size + 1 + 1 < w3.heap.size := (by omega); have p3 : w1.heap.size < w3.heap.size := (by omega)) | (refine (registerR (row x.op.toNat).a x.a f.regs _).mono ?_; rintro e w2 ⟨rfl, hb2⟩; obtain ⟨hcc2, hff2⟩ := bcell hb2; have hs2 := hb2.size; (try simp at hs2); have l2 : w.heap.size < w2.heap.size := (by omega); have m2 : w.heap.size + 1 < w2.heap.size := (by omega); have n2 : w.heap.size + 1 + 1 < w2.heap.size := (by omega); have p2 : w1.heap.size < w2.heap.size := (by omega))))
  go_ret
  refine ⟨by first | rfl | simp, ?_⟩
  go_light
  exact (by repeat (first | exact Below.refl _ _ | with_reducible apply below_alloc | with_reducible apply Below.drew | with_reducible apply below_drewN | with_reducible refine Below.setCell ?_ (by dsimp only; omega) _ | with_reducible refine below_step ?_ hb5 | with_reducible refine below_step ?_ hb4 | with_reducible refine below_step ?_ hb3 | with_reducible refine below_step ?_ hb2 | with_reducible refine below_step ?_ hb1))

set_option maxHeartbeats 4000000 in
theorem spoiltR_bnz (m : ModD) (f : FuncD) (x : InsD) (w : World) (wm : m.Wf) (wf : f.Wf) (wx : x.Wf) (hm : ModOk w w.heap.size m) (hk : known x.op = true) (hz : (row x.op.toNat).n ≠ 0) (e1 : (fldErr (row x.op.toNat).a x.a f.regs != 0) = false) (e2 : (fldErr (row x.op.toNat).b x.b f.regs != 0) = true) : Calls Tryd.prog 46 #[m.val, f.val, x.val] w fun e w' => e = .returned (.int .i64 (fldErr (row x.op.toNat).b x.b f.regs)) ∧ Below w.heap.size w w' := by
  go_enter Tryd.func46, Tryd.ntmps46
  go_wp2_with (first
    | (go_at_call 37; refine (knownR _ _).mono ?_; rintro e w' ⟨rfl, rfl⟩)
    | (go_at_call 78; with_reducible refine (hasR_nz hk hz _).mono ?_; rintro e w1 ⟨rfl, hb1⟩; obtain ⟨hcc1, hff1⟩ := bcell hb1; have hs1 := hb1.size; (try simp at hs1); have l1 : w.heap.size < w1.heap.size := (by omega); have m1 : w.heap.size + 1 < w1.heap.size := (by omega); have n1 : w.heap.size + 1 + 1 < w1.heap.size := (by omega))
    | (go_at_call 79; first | (have u := hb3; refine (registerR (row x.op.toNat).c x.c f.regs _).mono ?_; rintro e w4 ⟨rfl, hb4⟩; obtain ⟨hcc4, hff4⟩ := bcell hb4; have hs4 := hb4.size; (try simp at hs4); have l4 : w.heap.size < w4.heap.size := (by omega); have m4 : w.heap.size + 1 < w4.heap.size := (by omega); have n4 : w.heap.size + 1 + 1 < w4.heap.size := (by omega); have p4 : w1.heap.size < w4.heap.size := (by omega)) | (have u := hb2; refine (registerR (row x.op.toNat).b x.b f.regs _).mono ?_; rintro e w3 ⟨rfl, hb3⟩; obtain ⟨hcc3, hff3⟩ := bcell hb3; have hs3 := hb3.size; (try simp at hs3); have l3 : w.heap.size < w3.heap.size := (by omega); have m3 : w.heap.size + 1 < w3.heap.size := (by omega); have n3 : w.heap.size + 1 + 1 < w3.heap.size := (by omega); have p3 : w1.heap.size < w3.heap.size := (by omega)) | (refine (registerR (row x.op.toNat).a x.a f.regs _).mono ?_; rintro e w2 ⟨rfl, hb2⟩; obtain ⟨hcc2, hff2⟩ := bcell hb2; have hs2 := hb2.size; (try simp at hs2); have l2 : w.heap.size < w2.heap.size := (by omega); have m2 : w.heap.size + 1 < w2.heap.size := (by omega); have n2 : w.heap.size + 1 + 1 < w2.heap.size := (by omega); have p2 : w1.heap.size < w2.heap.size := (by omega))))
  go_ret
  refine ⟨by first | rfl | simp, ?_⟩
  go_light
  exact (by repeat (first | exact Below.refl _ _ | with_reducible apply below_alloc | with_reducible apply Below.drew | with_reducible apply below_drewN | with_reducible refine Below.setCell ?_ (by dsimp only; omega) _ | with_reducible refine below_step ?_ hb5 | with_reducible refine below_step ?_ hb4 | with_reducible refine below_step ?_ hb3 | with_reducible refine below_step ?_ hb2 | with_reducible refine below_step ?_ hb1))

set_option maxHeartbeats 4000000 in
theorem spoiltR_cnz (m : ModD) (f : FuncD) (x : InsD) (w : World) (wm : m.Wf) (wf : f.Wf) (wx : x.Wf) (hm : ModOk w w.heap.size m) (hk : known x.op = true) (hz : (row x.op.toNat).n ≠ 0) (e1 : (fldErr (row x.op.toNat).a x.a f.regs != 0) = false) (e2 : (fldErr (row x.op.toNat).b x.b f.regs != 0) = false) (e3 : (fldErr (row x.op.toNat).c x.c f.regs != 0) = true) : Calls Tryd.prog 46 #[m.val, f.val, x.val] w fun e w' => e = .returned (.int .i64 (fldErr (row x.op.toNat).c x.c f.regs)) ∧ Below w.heap.size w w' := by
  go_enter Tryd.func46, Tryd.ntmps46
  go_wp2_with (first
    | (go_at_call 37; refine (knownR _ _).mono ?_; rintro e w' ⟨rfl, rfl⟩)
    | (go_at_call 78; with_reducible refine (hasR_nz hk hz _).mono ?_; rintro e w1 ⟨rfl, hb1⟩; obtain ⟨hcc1, hff1⟩ := bcell hb1; have hs1 := hb1.size; (try simp at hs1); have l1 : w.heap.size < w1.heap.size := (by omega); have m1 : w.heap.size + 1 < w1.heap.size := (by omega); have n1 : w.heap.size + 1 + 1 < w1.heap.size := (by omega))
    | (go_at_call 79; first | (have u := hb3; refine (registerR (row x.op.toNat).c x.c f.regs _).mono ?_; rintro e w4 ⟨rfl, hb4⟩; obtain ⟨hcc4, hff4⟩ := bcell hb4; have hs4 := hb4.size; (try simp at hs4); have l4 : w.heap.size < w4.heap.size := (by omega); have m4 : w.heap.size + 1 < w4.heap.size := (by omega); have n4 : w.heap.size + 1 + 1 < w4.heap.size := (by omega); have p4 : w1.heap.size < w4.heap.size := (by omega)) | (have u := hb2; refine (registerR (row x.op.toNat).b x.b f.regs _).mono ?_; rintro e w3 ⟨rfl, hb3⟩; obtain ⟨hcc3, hff3⟩ := bcell hb3; have hs3 := hb3.size; (try simp at hs3); have l3 : w.heap.size < w3.heap.size := (by omega); have m3 : w.heap.size + 1 < w3.heap.size := (by omega); have n3 : w.heap.size + 1 + 1 < w3.heap.size := (by omega); have p3 : w1.heap.size < w3.heap.size := (by omega)) | (refine (registerR (row x.op.toNat).a x.a f.regs _).mono ?_; rintro e w2 ⟨rfl, hb2⟩; obtain ⟨hcc2, hff2⟩ := bcell hb2; have hs2 := hb2.size; (try simp at hs2); have l2 : w.heap.size < w2.heap.size := (by omega); have m2 : w.heap.size + 1 < w2.heap.size := (by omega); have n2 : w.heap.size + 1 + 1 < w2.heap.size := (by omega); have p2 : w1.heap.size < w2.heap.size := (by omega))))
  go_ret
  refine ⟨by first | rfl | simp, ?_⟩
  go_light
  exact (by repeat (first | exact Below.refl _ _ | with_reducible apply below_alloc | with_reducible apply Below.drew | with_reducible apply below_drewN | with_reducible refine Below.setCell ?_ (by dsimp only; omega) _ | with_reducible refine below_step ?_ hb5 | with_reducible refine below_step ?_ hb4 | with_reducible refine below_step ?_ hb3 | with_reducible refine below_step ?_ hb2 | with_reducible refine below_step ?_ hb1))

set_option maxHeartbeats 4000000 in
theorem spoiltR_0n (m : ModD) (f : FuncD) (x : InsD) (w : World) (wm : m.Wf) (wf : f.Wf) (wx : x.Wf) (hm : ModOk w w.heap.size m) (hk : known x.op = true) (hz : (row x.op.toNat).n = 0) (e1 : (fldErr (row x.op.toNat).a x.a f.regs != 0) = false) (e2 : (fldErr (row x.op.toNat).b x.b f.regs != 0) = false) (e3 : (fldErr (row x.op.toNat).c x.c f.regs != 0) = false) (u1 : (x.n != 0) = true) : Calls Tryd.prog 46 #[m.val, f.val, x.val] w fun e w' => e = .returned (.int .i64 62) ∧ Below w.heap.size w w' := by
  go_enter Tryd.func46, Tryd.ntmps46
  go_wp2_with (first
    | (go_at_call 37; refine (knownR _ _).mono ?_; rintro e w' ⟨rfl, rfl⟩)
    | (go_at_call 78; with_reducible refine (hasR_z hk hz _).mono ?_; rintro e w1 ⟨rfl, hb1⟩; obtain ⟨hcc1, hff1⟩ := bcell hb1; have hs1 := hb1.size; (try simp at hs1); have l1 : w.heap.size < w1.heap.size := (by omega); have m1 : w.heap.size + 1 < w1.heap.size := (by omega); have n1 : w.heap.size + 1 + 1 < w1.heap.size := (by omega))
    | (go_at_call 79; first | (have u := hb3; refine (registerR (row x.op.toNat).c x.c f.regs _).mono ?_; rintro e w4 ⟨rfl, hb4⟩; obtain ⟨hcc4, hff4⟩ := bcell hb4; have hs4 := hb4.size; (try simp at hs4); have l4 : w.heap.size < w4.heap.size := (by omega); have m4 : w.heap.size + 1 < w4.heap.size := (by omega); have n4 : w.heap.size + 1 + 1 < w4.heap.size := (by omega); have p4 : w1.heap.size < w4.heap.size := (by omega)) | (have u := hb2; refine (registerR (row x.op.toNat).b x.b f.regs _).mono ?_; rintro e w3 ⟨rfl, hb3⟩; obtain ⟨hcc3, hff3⟩ := bcell hb3; have hs3 := hb3.size; (try simp at hs3); have l3 : w.heap.size < w3.heap.size := (by omega); have m3 : w.heap.size + 1 < w3.heap.size := (by omega); have n3 : w.heap.size + 1 + 1 < w3.heap.size := (by omega); have p3 : w1.heap.size < w3.heap.size := (by omega)) | (refine (registerR (row x.op.toNat).a x.a f.regs _).mono ?_; rintro e w2 ⟨rfl, hb2⟩; obtain ⟨hcc2, hff2⟩ := bcell hb2; have hs2 := hb2.size; (try simp at hs2); have l2 : w.heap.size < w2.heap.size := (by omega); have m2 : w.heap.size + 1 < w2.heap.size := (by omega); have n2 : w.heap.size + 1 + 1 < w2.heap.size := (by omega); have p2 : w1.heap.size < w2.heap.size := (by omega))))
  go_ret
  refine ⟨by first | rfl | simp, ?_⟩
  go_light
  exact (by repeat (first | exact Below.refl _ _ | with_reducible apply below_alloc | with_reducible apply Below.drew | with_reducible apply below_drewN | with_reducible refine Below.setCell ?_ (by dsimp only; omega) _ | with_reducible refine below_step ?_ hb5 | with_reducible refine below_step ?_ hb4 | with_reducible refine below_step ?_ hb3 | with_reducible refine below_step ?_ hb2 | with_reducible refine below_step ?_ hb1))

set_option maxHeartbeats 4000000 in
theorem spoiltR_0 (m : ModD) (f : FuncD) (x : InsD) (w : World) (wm : m.Wf) (wf : f.Wf) (wx : x.Wf) (hm : ModOk w w.heap.size m) (hk : known x.op = true) (hz : (row x.op.toNat).n = 0) (h2 : (row x.op.toNat).n ≠ 2) (e1 : (fldErr (row x.op.toNat).a x.a f.regs != 0) = false) (e2 : (fldErr (row x.op.toNat).b x.b f.regs != 0) = false) (e3 : (fldErr (row x.op.toNat).c x.c f.regs != 0) = false) (u1 : (x.n != 0) = false) (o13 : (x.op == 13) = false) (o19 : (x.op == 19) = false) : Calls Tryd.prog 46 #[m.val, f.val, x.val] w fun e w' => e = .returned (.int .i64 0) ∧ Below w.heap.size w w' := by
  go_enter Tryd.func46, Tryd.ntmps46
  go_wp2_with (first
    | (go_at_call 37; refine (knownR _ _).mono ?_; rintro e w' ⟨rfl, rfl⟩)
    | (go_at_call 78; with_reducible refine (hasR_z hk hz _).mono ?_; rintro e w1 ⟨rfl, hb1⟩; obtain ⟨hcc1, hff1⟩ := bcell hb1; have hs1 := hb1.size; (try simp at hs1); have l1 : w.heap.size < w1.heap.size := (by omega); have m1 : w.heap.size + 1 < w1.heap.size := (by omega); have n1 : w.heap.size + 1 + 1 < w1.heap.size := (by omega))
    | (go_at_call 79; first | (have u := hb3; refine (registerR (row x.op.toNat).c x.c f.regs _).mono ?_; rintro e w4 ⟨rfl, hb4⟩; obtain ⟨hcc4, hff4⟩ := bcell hb4; have hs4 := hb4.size; (try simp at hs4); have l4 : w.heap.size < w4.heap.size := (by omega); have m4 : w.heap.size + 1 < w4.heap.size := (by omega); have n4 : w.heap.size + 1 + 1 < w4.heap.size := (by omega); have p4 : w1.heap.size < w4.heap.size := (by omega)) | (have u := hb2; refine (registerR (row x.op.toNat).b x.b f.regs _).mono ?_; rintro e w3 ⟨rfl, hb3⟩; obtain ⟨hcc3, hff3⟩ := bcell hb3; have hs3 := hb3.size; (try simp at hs3); have l3 : w.heap.size < w3.heap.size := (by omega); have m3 : w.heap.size + 1 < w3.heap.size := (by omega); have n3 : w.heap.size + 1 + 1 < w3.heap.size := (by omega); have p3 : w1.heap.size < w3.heap.size := (by omega)) | (refine (registerR (row x.op.toNat).a x.a f.regs _).mono ?_; rintro e w2 ⟨rfl, hb2⟩; obtain ⟨hcc2, hff2⟩ := bcell hb2; have hs2 := hb2.size; (try simp at hs2); have l2 : w.heap.size < w2.heap.size := (by omega); have m2 : w.heap.size + 1 < w2.heap.size := (by omega); have n2 : w.heap.size + 1 + 1 < w2.heap.size := (by omega); have p2 : w1.heap.size < w2.heap.size := (by omega)))
    | (go_at_call 38; with_reducible refine (targetR_n hk h2 _).mono ?_; rintro e w5 ⟨rfl, hb5⟩; obtain ⟨hcc5, hff5⟩ := bcell hb5; have hs5 := hb5.size; (try simp at hs5); have l5 : w.heap.size < w5.heap.size := (by omega); have m5 : w.heap.size + 1 < w5.heap.size := (by omega); have n5 : w.heap.size + 1 + 1 < w5.heap.size := (by omega)))
  go_quiet (fail)
  go_wp2
  go_ret
  refine ⟨by first | rfl | simp, ?_⟩
  go_light
  exact (by repeat (first | exact Below.refl _ _ | with_reducible apply below_alloc | with_reducible apply Below.drew | with_reducible apply below_drewN | with_reducible refine Below.setCell ?_ (by dsimp only; omega) _ | with_reducible refine below_step ?_ hb5 | with_reducible refine below_step ?_ hb4 | with_reducible refine below_step ?_ hb3 | with_reducible refine below_step ?_ hb2 | with_reducible refine below_step ?_ hb1))

set_option maxHeartbeats 4000000 in
theorem spoiltR_1 (m : ModD) (f : FuncD) (x : InsD) (w : World) (wm : m.Wf) (wf : f.Wf) (wx : x.Wf) (hm : ModOk w w.heap.size m) (hk : known x.op = true) (hz : (row x.op.toNat).n ≠ 0) (h2 : (row x.op.toNat).n ≠ 2) (e1 : (fldErr (row x.op.toNat).a x.a f.regs != 0) = false) (e2 : (fldErr (row x.op.toNat).b x.b f.regs != 0) = false) (e3 : (fldErr (row x.op.toNat).c x.c f.regs != 0) = false) (o13 : (x.op == 13) = false) (o19 : (x.op == 19) = false) : Calls Tryd.prog 46 #[m.val, f.val, x.val] w fun e w' => e = .returned (.int .i64 0) ∧ Below w.heap.size w w' := by
  go_enter Tryd.func46, Tryd.ntmps46
  go_wp2_with (first
    | (go_at_call 37; refine (knownR _ _).mono ?_; rintro e w' ⟨rfl, rfl⟩)
    | (go_at_call 78; with_reducible refine (hasR_nz hk hz _).mono ?_; rintro e w1 ⟨rfl, hb1⟩; obtain ⟨hcc1, hff1⟩ := bcell hb1; have hs1 := hb1.size; (try simp at hs1); have l1 : w.heap.size < w1.heap.size := (by omega); have m1 : w.heap.size + 1 < w1.heap.size := (by omega); have n1 : w.heap.size + 1 + 1 < w1.heap.size := (by omega))
    | (go_at_call 79; first | (have u := hb3; refine (registerR (row x.op.toNat).c x.c f.regs _).mono ?_; rintro e w4 ⟨rfl, hb4⟩; obtain ⟨hcc4, hff4⟩ := bcell hb4; have hs4 := hb4.size; (try simp at hs4); have l4 : w.heap.size < w4.heap.size := (by omega); have m4 : w.heap.size + 1 < w4.heap.size := (by omega); have n4 : w.heap.size + 1 + 1 < w4.heap.size := (by omega); have p4 : w1.heap.size < w4.heap.size := (by omega)) | (have u := hb2; refine (registerR (row x.op.toNat).b x.b f.regs _).mono ?_; rintro e w3 ⟨rfl, hb3⟩; obtain ⟨hcc3, hff3⟩ := bcell hb3; have hs3 := hb3.size; (try simp at hs3); have l3 : w.heap.size < w3.heap.size := (by omega); have m3 : w.heap.size + 1 < w3.heap.size := (by omega); have n3 : w.heap.size + 1 + 1 < w3.heap.size := (by omega); have p3 : w1.heap.size < w3.heap.size := (by omega)) | (refine (registerR (row x.op.toNat).a x.a f.regs _).mono ?_; rintro e w2 ⟨rfl, hb2⟩; obtain ⟨hcc2, hff2⟩ := bcell hb2; have hs2 := hb2.size; (try simp at hs2); have l2 : w.heap.size < w2.heap.size := (by omega); have m2 : w.heap.size + 1 < w2.heap.size := (by omega); have n2 : w.heap.size + 1 + 1 < w2.heap.size := (by omega); have p2 : w1.heap.size < w2.heap.size := (by omega)))
    | (go_at_call 38; with_reducible refine (targetR_n hk h2 _).mono ?_; rintro e w5 ⟨rfl, hb5⟩; obtain ⟨hcc5, hff5⟩ := bcell hb5; have hs5 := hb5.size; (try simp at hs5); have l5 : w.heap.size < w5.heap.size := (by omega); have m5 : w.heap.size + 1 < w5.heap.size := (by omega); have n5 : w.heap.size + 1 + 1 < w5.heap.size := (by omega)))
  go_quiet (fail)
  go_wp2
  go_ret
  refine ⟨by first | rfl | simp, ?_⟩
  go_light
  exact (by repeat (first | exact Below.refl _ _ | with_reducible apply below_alloc | with_reducible apply Below.drew | with_reducible apply below_drewN | with_reducible refine Below.setCell ?_ (by dsimp only; omega) _ | with_reducible refine below_step ?_ hb5 | with_reducible refine below_step ?_ hb4 | with_reducible refine below_step ?_ hb3 | with_reducible refine below_step ?_ hb2 | with_reducible refine below_step ?_ hb1))

set_option maxHeartbeats 4000000 in
theorem spoiltR_2a (m : ModD) (f : FuncD) (x : InsD) (w : World) (wm : m.Wf) (wf : f.Wf) (wx : x.Wf) (hm : ModOk w w.heap.size m) (hk : known x.op = true) (hz : (row x.op.toNat).n ≠ 0) (h2 : (row x.op.toNat).n = 2) (e1 : (fldErr (row x.op.toNat).a x.a f.regs != 0) = false) (e2 : (fldErr (row x.op.toNat).b x.b f.regs != 0) = false) (e3 : (fldErr (row x.op.toNat).c x.c f.regs != 0) = false) (u1 : decide (x.n < 0) = true) : Calls Tryd.prog 46 #[m.val, f.val, x.val] w fun e w' => e = .returned (.int .i64 63) ∧ Below w.heap.size w w' := by
  go_enter Tryd.func46, Tryd.ntmps46
  go_wp2_with (first
    | (go_at_call 37; refine (knownR _ _).mono ?_; rintro e w' ⟨rfl, rfl⟩)
    | (go_at_call 78; with_reducible refine (hasR_nz hk hz _).mono ?_; rintro e w1 ⟨rfl, hb1⟩; obtain ⟨hcc1, hff1⟩ := bcell hb1; have hs1 := hb1.size; (try simp at hs1); have l1 : w.heap.size < w1.heap.size := (by omega); have m1 : w.heap.size + 1 < w1.heap.size := (by omega); have n1 : w.heap.size + 1 + 1 < w1.heap.size := (by omega))
    | (go_at_call 79; first | (have u := hb3; refine (registerR (row x.op.toNat).c x.c f.regs _).mono ?_; rintro e w4 ⟨rfl, hb4⟩; obtain ⟨hcc4, hff4⟩ := bcell hb4; have hs4 := hb4.size; (try simp at hs4); have l4 : w.heap.size < w4.heap.size := (by omega); have m4 : w.heap.size + 1 < w4.heap.size := (by omega); have n4 : w.heap.size + 1 + 1 < w4.heap.size := (by omega); have p4 : w1.heap.size < w4.heap.size := (by omega)) | (have u := hb2; refine (registerR (row x.op.toNat).b x.b f.regs _).mono ?_; rintro e w3 ⟨rfl, hb3⟩; obtain ⟨hcc3, hff3⟩ := bcell hb3; have hs3 := hb3.size; (try simp at hs3); have l3 : w.heap.size < w3.heap.size := (by omega); have m3 : w.heap.size + 1 < w3.heap.size := (by omega); have n3 : w.heap.size + 1 + 1 < w3.heap.size := (by omega); have p3 : w1.heap.size < w3.heap.size := (by omega)) | (refine (registerR (row x.op.toNat).a x.a f.regs _).mono ?_; rintro e w2 ⟨rfl, hb2⟩; obtain ⟨hcc2, hff2⟩ := bcell hb2; have hs2 := hb2.size; (try simp at hs2); have l2 : w.heap.size < w2.heap.size := (by omega); have m2 : w.heap.size + 1 < w2.heap.size := (by omega); have n2 : w.heap.size + 1 + 1 < w2.heap.size := (by omega); have p2 : w1.heap.size < w2.heap.size := (by omega)))
    | (go_at_call 38; with_reducible refine (targetR_y hk h2 _).mono ?_; rintro e w5 ⟨rfl, hb5⟩; obtain ⟨hcc5, hff5⟩ := bcell hb5; have hs5 := hb5.size; (try simp at hs5); have l5 : w.heap.size < w5.heap.size := (by omega); have m5 : w.heap.size + 1 < w5.heap.size := (by omega); have n5 : w.heap.size + 1 + 1 < w5.heap.size := (by omega)))
  go_ret
  refine ⟨by first | rfl | simp, ?_⟩
  go_light
  exact (by repeat (first | exact Below.refl _ _ | with_reducible apply below_alloc | with_reducible apply Below.drew | with_reducible apply below_drewN | with_reducible refine Below.setCell ?_ (by dsimp only; omega) _ | with_reducible refine below_step ?_ hb5 | with_reducible refine below_step ?_ hb4 | with_reducible refine below_step ?_ hb3 | with_reducible refine below_step ?_ hb2 | with_reducible refine below_step ?_ hb1))

set_option maxHeartbeats 4000000 in
theorem spoiltR_2b (m : ModD) (f : FuncD) (x : InsD) (w : World) (wm : m.Wf) (wf : f.Wf) (wx : x.Wf) (hm : ModOk w w.heap.size m) (hk : known x.op = true) (hz : (row x.op.toNat).n ≠ 0) (h2 : (row x.op.toNat).n = 2) (e1 : (fldErr (row x.op.toNat).a x.a f.regs != 0) = false) (e2 : (fldErr (row x.op.toNat).b x.b f.regs != 0) = false) (e3 : (fldErr (row x.op.toNat).c x.c f.regs != 0) = false) (u1 : decide (x.n < 0) = false) (u2 : decide ((f.code.length : Int) ≤ x.n) = true) : Calls Tryd.prog 46 #[m.val, f.val, x.val] w fun e w' => e = .returned (.int .i64 63) ∧ Below w.heap.size w w' := by
  go_enter Tryd.func46, Tryd.ntmps46
  go_wp2_with (first
    | (go_at_call 37; refine (knownR _ _).mono ?_; rintro e w' ⟨rfl, rfl⟩)
    | (go_at_call 78; with_reducible refine (hasR_nz hk hz _).mono ?_; rintro e w1 ⟨rfl, hb1⟩; obtain ⟨hcc1, hff1⟩ := bcell hb1; have hs1 := hb1.size; (try simp at hs1); have l1 : w.heap.size < w1.heap.size := (by omega); have m1 : w.heap.size + 1 < w1.heap.size := (by omega); have n1 : w.heap.size + 1 + 1 < w1.heap.size := (by omega))
    | (go_at_call 79; first | (have u := hb3; refine (registerR (row x.op.toNat).c x.c f.regs _).mono ?_; rintro e w4 ⟨rfl, hb4⟩; obtain ⟨hcc4, hff4⟩ := bcell hb4; have hs4 := hb4.size; (try simp at hs4); have l4 : w.heap.size < w4.heap.size := (by omega); have m4 : w.heap.size + 1 < w4.heap.size := (by omega); have n4 : w.heap.size + 1 + 1 < w4.heap.size := (by omega); have p4 : w1.heap.size < w4.heap.size := (by omega)) | (have u := hb2; refine (registerR (row x.op.toNat).b x.b f.regs _).mono ?_; rintro e w3 ⟨rfl, hb3⟩; obtain ⟨hcc3, hff3⟩ := bcell hb3; have hs3 := hb3.size; (try simp at hs3); have l3 : w.heap.size < w3.heap.size := (by omega); have m3 : w.heap.size + 1 < w3.heap.size := (by omega); have n3 : w.heap.size + 1 + 1 < w3.heap.size := (by omega); have p3 : w1.heap.size < w3.heap.size := (by omega)) | (refine (registerR (row x.op.toNat).a x.a f.regs _).mono ?_; rintro e w2 ⟨rfl, hb2⟩; obtain ⟨hcc2, hff2⟩ := bcell hb2; have hs2 := hb2.size; (try simp at hs2); have l2 : w.heap.size < w2.heap.size := (by omega); have m2 : w.heap.size + 1 < w2.heap.size := (by omega); have n2 : w.heap.size + 1 + 1 < w2.heap.size := (by omega); have p2 : w1.heap.size < w2.heap.size := (by omega)))
    | (go_at_call 38; with_reducible refine (targetR_y hk h2 _).mono ?_; rintro e w5 ⟨rfl, hb5⟩; obtain ⟨hcc5, hff5⟩ := bcell hb5; have hs5 := hb5.size; (try simp at hs5); have l5 : w.heap.size < w5.heap.size := (by omega); have m5 : w.heap.size + 1 < w5.heap.size := (by omega); have n5 : w.heap.size + 1 + 1 < w5.heap.size := (by omega)))
  go_ret
  refine ⟨by first | rfl | simp, ?_⟩
  go_light
  exact (by repeat (first | exact Below.refl _ _ | with_reducible apply below_alloc | with_reducible apply Below.drew | with_reducible apply below_drewN | with_reducible refine Below.setCell ?_ (by dsimp only; omega) _ | with_reducible refine below_step ?_ hb5 | with_reducible refine below_step ?_ hb4 | with_reducible refine below_step ?_ hb3 | with_reducible refine below_step ?_ hb2 | with_reducible refine below_step ?_ hb1))

set_option maxHeartbeats 4000000 in
theorem spoiltR_2c (m : ModD) (f : FuncD) (x : InsD) (w : World) (wm : m.Wf) (wf : f.Wf) (wx : x.Wf) (hm : ModOk w w.heap.size m) (hk : known x.op = true) (hz : (row x.op.toNat).n ≠ 0) (h2 : (row x.op.toNat).n = 2) (e1 : (fldErr (row x.op.toNat).a x.a f.regs != 0) = false) (e2 : (fldErr (row x.op.toNat).b x.b f.regs != 0) = false) (e3 : (fldErr (row x.op.toNat).c x.c f.regs != 0) = false) (u1 : decide (x.n < 0) = false) (u2 : decide ((f.code.length : Int) ≤ x.n) = false) (o13 : (x.op == 13) = false) (o19 : (x.op == 19) = false) : Calls Tryd.prog 46 #[m.val, f.val, x.val] w fun e w' => e = .returned (.int .i64 0) ∧ Below w.heap.size w w' := by
  go_enter Tryd.func46, Tryd.ntmps46
  go_wp2_with (first
    | (go_at_call 37; refine (knownR _ _).mono ?_; rintro e w' ⟨rfl, rfl⟩)
    | (go_at_call 78; with_reducible refine (hasR_nz hk hz _).mono ?_; rintro e w1 ⟨rfl, hb1⟩; obtain ⟨hcc1, hff1⟩ := bcell hb1; have hs1 := hb1.size; (try simp at hs1); have l1 : w.heap.size < w1.heap.size := (by omega); have m1 : w.heap.size + 1 < w1.heap.size := (by omega); have n1 : w.heap.size + 1 + 1 < w1.heap.size := (by omega))
    | (go_at_call 79; first | (have u := hb3; refine (registerR (row x.op.toNat).c x.c f.regs _).mono ?_; rintro e w4 ⟨rfl, hb4⟩; obtain ⟨hcc4, hff4⟩ := bcell hb4; have hs4 := hb4.size; (try simp at hs4); have l4 : w.heap.size < w4.heap.size := (by omega); have m4 : w.heap.size + 1 < w4.heap.size := (by omega); have n4 : w.heap.size + 1 + 1 < w4.heap.size := (by omega); have p4 : w1.heap.size < w4.heap.size := (by omega)) | (have u := hb2; refine (registerR (row x.op.toNat).b x.b f.regs _).mono ?_; rintro e w3 ⟨rfl, hb3⟩; obtain ⟨hcc3, hff3⟩ := bcell hb3; have hs3 := hb3.size; (try simp at hs3); have l3 : w.heap.size < w3.heap.size := (by omega); have m3 : w.heap.size + 1 < w3.heap.size := (by omega); have n3 : w.heap.size + 1 + 1 < w3.heap.size := (by omega); have p3 : w1.heap.size < w3.heap.size := (by omega)) | (refine (registerR (row x.op.toNat).a x.a f.regs _).mono ?_; rintro e w2 ⟨rfl, hb2⟩; obtain ⟨hcc2, hff2⟩ := bcell hb2; have hs2 := hb2.size; (try simp at hs2); have l2 : w.heap.size < w2.heap.size := (by omega); have m2 : w.heap.size + 1 < w2.heap.size := (by omega); have n2 : w.heap.size + 1 + 1 < w2.heap.size := (by omega); have p2 : w1.heap.size < w2.heap.size := (by omega)))
    | (go_at_call 38; with_reducible refine (targetR_y hk h2 _).mono ?_; rintro e w5 ⟨rfl, hb5⟩; obtain ⟨hcc5, hff5⟩ := bcell hb5; have hs5 := hb5.size; (try simp at hs5); have l5 : w.heap.size < w5.heap.size := (by omega); have m5 : w.heap.size + 1 < w5.heap.size := (by omega); have n5 : w.heap.size + 1 + 1 < w5.heap.size := (by omega)))
  go_quiet (fail)
  go_wp2
  go_ret
  refine ⟨by first | rfl | simp, ?_⟩
  go_light
  exact (by repeat (first | exact Below.refl _ _ | with_reducible apply below_alloc | with_reducible apply Below.drew | with_reducible apply below_drewN | with_reducible refine Below.setCell ?_ (by dsimp only; omega) _ | with_reducible refine below_step ?_ hb5 | with_reducible refine below_step ?_ hb4 | with_reducible refine below_step ?_ hb3 | with_reducible refine below_step ?_ hb2 | with_reducible refine below_step ?_ hb1))

set_option maxHeartbeats 4000000 in
theorem spoiltR_3a (m : ModD) (f : FuncD) (x : InsD) (w : World) (wm : m.Wf) (wf : f.Wf) (wx : x.Wf) (hm : ModOk w w.heap.size m) (hk : known x.op = true) (hz : (row x.op.toNat).n ≠ 0) (h2 : (row x.op.toNat).n ≠ 2) (e1 : (fldErr (row x.op.toNat).a x.a f.regs != 0) = false) (e2 : (fldErr (row x.op.toNat).b x.b f.regs != 0) = false) (e3 : (fldErr (row x.op.toNat).c x.c f.regs != 0) = false) (u1 : decide (x.n < 1) = true) (o13 : (x.op == 13) = true) (o19 : (x.op == 19) = false) : Calls Tryd.prog 46 #[m.val, f.val, x.val] w fun e w' => e = .returned (.int .i64 2) ∧ Below w.heap.size w w' := by
  go_enter Tryd.func46, Tryd.ntmps46
  go_wp2_with (first
    | (go_at_call 37; refine (knownR _ _).mono ?_; rintro e w' ⟨rfl, rfl⟩)
    | (go_at_call 78; with_reducible refine (hasR_nz hk hz _).mono ?_; rintro e w1 ⟨rfl, hb1⟩; obtain ⟨hcc1, hff1⟩ := bcell hb1; have hs1 := hb1.size; (try simp at hs1); have l1 : w.heap.size < w1.heap.size := (by omega); have m1 : w.heap.size + 1 < w1.heap.size := (by omega); have n1 : w.heap.size + 1 + 1 < w1.heap.size := (by omega))
    | (go_at_call 79; first | (have u := hb3; refine (registerR (row x.op.toNat).c x.c f.regs _).mono ?_; rintro e w4 ⟨rfl, hb4⟩; obtain ⟨hcc4, hff4⟩ := bcell hb4; have hs4 := hb4.size; (try simp at hs4); have l4 : w.heap.size < w4.heap.size := (by omega); have m4 : w.heap.size + 1 < w4.heap.size := (by omega); have n4 : w.heap.size + 1 + 1 < w4.heap.size := (by omega); have p4 : w1.heap.size < w4.heap.size := (by omega)) | (have u := hb2; refine (registerR (row x.op.toNat).b x.b f.regs _).mono ?_; rintro e w3 ⟨rfl, hb3⟩; obtain ⟨hcc3, hff3⟩ := bcell hb3; have hs3 := hb3.size; (try simp at hs3); have l3 : w.heap.size < w3.heap.size := (by omega); have m3 : w.heap.size + 1 < w3.heap.size := (by omega); have n3 : w.heap.size + 1 + 1 < w3.heap.size := (by omega); have p3 : w1.heap.size < w3.heap.size := (by omega)) | (refine (registerR (row x.op.toNat).a x.a f.regs _).mono ?_; rintro e w2 ⟨rfl, hb2⟩; obtain ⟨hcc2, hff2⟩ := bcell hb2; have hs2 := hb2.size; (try simp at hs2); have l2 : w.heap.size < w2.heap.size := (by omega); have m2 : w.heap.size + 1 < w2.heap.size := (by omega); have n2 : w.heap.size + 1 + 1 < w2.heap.size := (by omega); have p2 : w1.heap.size < w2.heap.size := (by omega)))
    | (go_at_call 38; with_reducible refine (targetR_n hk h2 _).mono ?_; rintro e w5 ⟨rfl, hb5⟩; obtain ⟨hcc5, hff5⟩ := bcell hb5; have hs5 := hb5.size; (try simp at hs5); have l5 : w.heap.size < w5.heap.size := (by omega); have m5 : w.heap.size + 1 < w5.heap.size := (by omega); have n5 : w.heap.size + 1 + 1 < w5.heap.size := (by omega)))
  go_ret
  refine ⟨by first | rfl | simp, ?_⟩
  go_light
  exact (by repeat (first | exact Below.refl _ _ | with_reducible apply below_alloc | with_reducible apply Below.drew | with_reducible apply below_drewN | with_reducible refine Below.setCell ?_ (by dsimp only; omega) _ | with_reducible refine below_step ?_ hb5 | with_reducible refine below_step ?_ hb4 | with_reducible refine below_step ?_ hb3 | with_reducible refine below_step ?_ hb2 | with_reducible refine below_step ?_ hb1))

set_option maxHeartbeats 4000000 in
theorem spoiltR_3b (m : ModD) (f : FuncD) (x : InsD) (w : World) (wm : m.Wf) (wf : f.Wf) (wx : x.Wf) (hm : ModOk w w.heap.size m) (hk : known x.op = true) (hz : (row x.op.toNat).n ≠ 0) (h2 : (row x.op.toNat).n ≠ 2) (e1 : (fldErr (row x.op.toNat).a x.a f.regs != 0) = false) (e2 : (fldErr (row x.op.toNat).b x.b f.regs != 0) = false) (e3 : (fldErr (row x.op.toNat).c x.c f.regs != 0) = false) (u1 : decide (x.n < 1) = false) (u2 : decide (4096 < x.n) = true) (o13 : (x.op == 13) = true) (o19 : (x.op == 19) = false) : Calls Tryd.prog 46 #[m.val, f.val, x.val] w fun e w' => e = .returned (.int .i64 2) ∧ Below w.heap.size w w' := by
  go_enter Tryd.func46, Tryd.ntmps46
  go_wp2_with (first
    | (go_at_call 37; refine (knownR _ _).mono ?_; rintro e w' ⟨rfl, rfl⟩)
    | (go_at_call 78; with_reducible refine (hasR_nz hk hz _).mono ?_; rintro e w1 ⟨rfl, hb1⟩; obtain ⟨hcc1, hff1⟩ := bcell hb1; have hs1 := hb1.size; (try simp at hs1); have l1 : w.heap.size < w1.heap.size := (by omega); have m1 : w.heap.size + 1 < w1.heap.size := (by omega); have n1 : w.heap.size + 1 + 1 < w1.heap.size := (by omega))
    | (go_at_call 79; first | (have u := hb3; refine (registerR (row x.op.toNat).c x.c f.regs _).mono ?_; rintro e w4 ⟨rfl, hb4⟩; obtain ⟨hcc4, hff4⟩ := bcell hb4; have hs4 := hb4.size; (try simp at hs4); have l4 : w.heap.size < w4.heap.size := (by omega); have m4 : w.heap.size + 1 < w4.heap.size := (by omega); have n4 : w.heap.size + 1 + 1 < w4.heap.size := (by omega); have p4 : w1.heap.size < w4.heap.size := (by omega)) | (have u := hb2; refine (registerR (row x.op.toNat).b x.b f.regs _).mono ?_; rintro e w3 ⟨rfl, hb3⟩; obtain ⟨hcc3, hff3⟩ := bcell hb3; have hs3 := hb3.size; (try simp at hs3); have l3 : w.heap.size < w3.heap.size := (by omega); have m3 : w.heap.size + 1 < w3.heap.size := (by omega); have n3 : w.heap.size + 1 + 1 < w3.heap.size := (by omega); have p3 : w1.heap.size < w3.heap.size := (by omega)) | (refine (registerR (row x.op.toNat).a x.a f.regs _).mono ?_; rintro e w2 ⟨rfl, hb2⟩; obtain ⟨hcc2, hff2⟩ := bcell hb2; have hs2 := hb2.size; (try simp at hs2); have l2 : w.heap.size < w2.heap.size := (by omega); have m2 : w.heap.size + 1 < w2.heap.size := (by omega); have n2 : w.heap.size + 1 + 1 < w2.heap.size := (by omega); have p2 : w1.heap.size < w2.heap.size := (by omega)))
    | (go_at_call 38; with_reducible refine (targetR_n hk h2 _).mono ?_; rintro e w5 ⟨rfl, hb5⟩; obtain ⟨hcc5, hff5⟩ := bcell hb5; have hs5 := hb5.size; (try simp at hs5); have l5 : w.heap.size < w5.heap.size := (by omega); have m5 : w.heap.size + 1 < w5.heap.size := (by omega); have n5 : w.heap.size + 1 + 1 < w5.heap.size := (by omega)))
  go_ret
  refine ⟨by first | rfl | simp, ?_⟩
  go_light
  exact (by repeat (first | exact Below.refl _ _ | with_reducible apply below_alloc | with_reducible apply Below.drew | with_reducible apply below_drewN | with_reducible refine Below.setCell ?_ (by dsimp only; omega) _ | with_reducible refine below_step ?_ hb5 | with_reducible refine below_step ?_ hb4 | with_reducible refine below_step ?_ hb3 | with_reducible refine below_step ?_ hb2 | with_reducible refine below_step ?_ hb1))

set_option maxHeartbeats 4000000 in
theorem spoiltR_3c (m : ModD) (f : FuncD) (x : InsD) (w : World) (wm : m.Wf) (wf : f.Wf) (wx : x.Wf) (hm : ModOk w w.heap.size m) (hk : known x.op = true) (hz : (row x.op.toNat).n ≠ 0) (h2 : (row x.op.toNat).n ≠ 2) (e1 : (fldErr (row x.op.toNat).a x.a f.regs != 0) = false) (e2 : (fldErr (row x.op.toNat).b x.b f.regs != 0) = false) (e3 : (fldErr (row x.op.toNat).c x.c f.regs != 0) = false) (u1 : decide (x.n < 1) = false) (u2 : decide (4096 < x.n) = false) (o13 : (x.op == 13) = true) (o19 : (x.op == 19) = false) : Calls Tryd.prog 46 #[m.val, f.val, x.val] w fun e w' => e = .returned (.int .i64 0) ∧ Below w.heap.size w w' := by
  go_enter Tryd.func46, Tryd.ntmps46
  go_wp2_with (first
    | (go_at_call 37; refine (knownR _ _).mono ?_; rintro e w' ⟨rfl, rfl⟩)
    | (go_at_call 78; with_reducible refine (hasR_nz hk hz _).mono ?_; rintro e w1 ⟨rfl, hb1⟩; obtain ⟨hcc1, hff1⟩ := bcell hb1; have hs1 := hb1.size; (try simp at hs1); have l1 : w.heap.size < w1.heap.size := (by omega); have m1 : w.heap.size + 1 < w1.heap.size := (by omega); have n1 : w.heap.size + 1 + 1 < w1.heap.size := (by omega))
    | (go_at_call 79; first | (have u := hb3; refine (registerR (row x.op.toNat).c x.c f.regs _).mono ?_; rintro e w4 ⟨rfl, hb4⟩; obtain ⟨hcc4, hff4⟩ := bcell hb4; have hs4 := hb4.size; (try simp at hs4); have l4 : w.heap.size < w4.heap.size := (by omega); have m4 : w.heap.size + 1 < w4.heap.size := (by omega); have n4 : w.heap.size + 1 + 1 < w4.heap.size := (by omega); have p4 : w1.heap.size < w4.heap.size := (by omega)) | (have u := hb2; refine (registerR (row x.op.toNat).b x.b f.regs _).mono ?_; rintro e w3 ⟨rfl, hb3⟩; obtain ⟨hcc3, hff3⟩ := bcell hb3; have hs3 := hb3.size; (try simp at hs3); have l3 : w.heap.size < w3.heap.size := (by omega); have m3 : w.heap.size + 1 < w3.heap.size := (by omega); have n3 : w.heap.size + 1 + 1 < w3.heap.size := (by omega); have p3 : w1.heap.size < w3.heap.size := (by omega)) | (refine (registerR (row x.op.toNat).a x.a f.regs _).mono ?_; rintro e w2 ⟨rfl, hb2⟩; obtain ⟨hcc2, hff2⟩ := bcell hb2; have hs2 := hb2.size; (try simp at hs2); have l2 : w.heap.size < w2.heap.size := (by omega); have m2 : w.heap.size + 1 < w2.heap.size := (by omega); have n2 : w.heap.size + 1 + 1 < w2.heap.size := (by omega); have p2 : w1.heap.size < w2.heap.size := (by omega)))
    | (go_at_call 38; with_reducible refine (targetR_n hk h2 _).mono ?_; rintro e w5 ⟨rfl, hb5⟩; obtain ⟨hcc5, hff5⟩ := bcell hb5; have hs5 := hb5.size; (try simp at hs5); have l5 : w.heap.size < w5.heap.size := (by omega); have m5 : w.heap.size + 1 < w5.heap.size := (by omega); have n5 : w.heap.size + 1 + 1 < w5.heap.size := (by omega)))
  go_quiet (fail)
  go_wp2
  go_ret
  refine ⟨by first | rfl | simp, ?_⟩
  go_light
  exact (by repeat (first | exact Below.refl _ _ | with_reducible apply below_alloc | with_reducible apply Below.drew | with_reducible apply below_drewN | with_reducible refine Below.setCell ?_ (by dsimp only; omega) _ | with_reducible refine below_step ?_ hb5 | with_reducible refine below_step ?_ hb4 | with_reducible refine below_step ?_ hb3 | with_reducible refine below_step ?_ hb2 | with_reducible refine below_step ?_ hb1))

set_option maxHeartbeats 4000000 in
theorem spoiltR_4a (m : ModD) (f : FuncD) (x : InsD) (w : World) (wm : m.Wf) (wf : f.Wf) (wx : x.Wf) (hm : ModOk w w.heap.size m) (hk : known x.op = true) (hz : (row x.op.toNat).n ≠ 0) (h2 : (row x.op.toNat).n ≠ 2) (e1 : (fldErr (row x.op.toNat).a x.a f.regs != 0) = false) (e2 : (fldErr (row x.op.toNat).b x.b f.regs != 0) = false) (e3 : (fldErr (row x.op.toNat).c x.c f.regs != 0) = false) (u1 : decide (x.n < 0) = true) (o13 : (x.op == 13) = false) (o19 : (x.op == 19) = true) : Calls Tryd.prog 46 #[m.val, f.val, x.val] w fun e w' => e = .returned (.int .i64 65) ∧ Below w.heap.size w w' := by
  go_enter Tryd.func46, Tryd.ntmps46
  go_wp2_with (first
    | (go_at_call 37; refine (knownR _ _).mono ?_; rintro e w' ⟨rfl, rfl⟩)
    | (go_at_call 78; with_reducible refine (hasR_nz hk hz _).mono ?_; rintro e w1 ⟨rfl, hb1⟩; obtain ⟨hcc1, hff1⟩ := bcell hb1; have hs1 := hb1.size; (try simp at hs1); have l1 : w.heap.size < w1.heap.size := (by omega); have m1 : w.heap.size + 1 < w1.heap.size := (by omega); have n1 : w.heap.size + 1 + 1 < w1.heap.size := (by omega))
    | (go_at_call 79; first | (have u := hb3; refine (registerR (row x.op.toNat).c x.c f.regs _).mono ?_; rintro e w4 ⟨rfl, hb4⟩; obtain ⟨hcc4, hff4⟩ := bcell hb4; have hs4 := hb4.size; (try simp at hs4); have l4 : w.heap.size < w4.heap.size := (by omega); have m4 : w.heap.size + 1 < w4.heap.size := (by omega); have n4 : w.heap.size + 1 + 1 < w4.heap.size := (by omega); have p4 : w1.heap.size < w4.heap.size := (by omega)) | (have u := hb2; refine (registerR (row x.op.toNat).b x.b f.regs _).mono ?_; rintro e w3 ⟨rfl, hb3⟩; obtain ⟨hcc3, hff3⟩ := bcell hb3; have hs3 := hb3.size; (try simp at hs3); have l3 : w.heap.size < w3.heap.size := (by omega); have m3 : w.heap.size + 1 < w3.heap.size := (by omega); have n3 : w.heap.size + 1 + 1 < w3.heap.size := (by omega); have p3 : w1.heap.size < w3.heap.size := (by omega)) | (refine (registerR (row x.op.toNat).a x.a f.regs _).mono ?_; rintro e w2 ⟨rfl, hb2⟩; obtain ⟨hcc2, hff2⟩ := bcell hb2; have hs2 := hb2.size; (try simp at hs2); have l2 : w.heap.size < w2.heap.size := (by omega); have m2 : w.heap.size + 1 < w2.heap.size := (by omega); have n2 : w.heap.size + 1 + 1 < w2.heap.size := (by omega); have p2 : w1.heap.size < w2.heap.size := (by omega)))
    | (go_at_call 38; with_reducible refine (targetR_n hk h2 _).mono ?_; rintro e w5 ⟨rfl, hb5⟩; obtain ⟨hcc5, hff5⟩ := bcell hb5; have hs5 := hb5.size; (try simp at hs5); have l5 : w.heap.size < w5.heap.size := (by omega); have m5 : w.heap.size + 1 < w5.heap.size := (by omega); have n5 : w.heap.size + 1 + 1 < w5.heap.size := (by omega)))
  go_quiet (fail)
  go_wp2
  go_ret
  refine ⟨by first | rfl | simp, ?_⟩
  go_light
  exact (by repeat (first | exact Below.refl _ _ | with_reducible apply below_alloc | with_reducible apply Below.drew | with_reducible apply below_drewN | with_reducible refine Below.setCell ?_ (by dsimp only; omega) _ | with_reducible refine below_step ?_ hb5 | with_reducible refine below_step ?_ hb4 | with_reducible refine below_step ?_ hb3 | with_reducible refine below_step ?_ hb2 | with_reducible refine below_step ?_ hb1))

set_option maxHeartbeats 4000000 in
theorem spoiltR_4b (m : ModD) (f : FuncD) (x : InsD) (w : World) (wm : m.Wf) (wf : f.Wf) (wx : x.Wf) (hm : ModOk w w.heap.size m) (hk : known x.op = true) (hz : (row x.op.toNat).n ≠ 0) (h2 : (row x.op.toNat).n ≠ 2) (e1 : (fldErr (row x.op.toNat).a x.a f.regs != 0) = false) (e2 : (fldErr (row x.op.toNat).b x.b f.regs != 0) = false) (e3 : (fldErr (row x.op.toNat).c x.c f.regs != 0) = false) (u1 : decide (x.n < 0) = false) (u2 : decide ((m.funcs.length : Int) ≤ x.n) = true) (o13 : (x.op == 13) = false) (o19 : (x.op == 19) = true) : Calls Tryd.prog 46 #[m.val, f.val, x.val] w fun e w' => e = .returned (.int .i64 65) ∧ Below w.heap.size w w' := by
  go_enter Tryd.func46, Tryd.ntmps46
  go_wp2_with (first
    | (go_at_call 37; refine (knownR _ _).mono ?_; rintro e w' ⟨rfl, rfl⟩)
    | (go_at_call 78; with_reducible refine (hasR_nz hk hz _).mono ?_; rintro e w1 ⟨rfl, hb1⟩; obtain ⟨hcc1, hff1⟩ := bcell hb1; have hs1 := hb1.size; (try simp at hs1); have l1 : w.heap.size < w1.heap.size := (by omega); have m1 : w.heap.size + 1 < w1.heap.size := (by omega); have n1 : w.heap.size + 1 + 1 < w1.heap.size := (by omega))
    | (go_at_call 79; first | (have u := hb3; refine (registerR (row x.op.toNat).c x.c f.regs _).mono ?_; rintro e w4 ⟨rfl, hb4⟩; obtain ⟨hcc4, hff4⟩ := bcell hb4; have hs4 := hb4.size; (try simp at hs4); have l4 : w.heap.size < w4.heap.size := (by omega); have m4 : w.heap.size + 1 < w4.heap.size := (by omega); have n4 : w.heap.size + 1 + 1 < w4.heap.size := (by omega); have p4 : w1.heap.size < w4.heap.size := (by omega)) | (have u := hb2; refine (registerR (row x.op.toNat).b x.b f.regs _).mono ?_; rintro e w3 ⟨rfl, hb3⟩; obtain ⟨hcc3, hff3⟩ := bcell hb3; have hs3 := hb3.size; (try simp at hs3); have l3 : w.heap.size < w3.heap.size := (by omega); have m3 : w.heap.size + 1 < w3.heap.size := (by omega); have n3 : w.heap.size + 1 + 1 < w3.heap.size := (by omega); have p3 : w1.heap.size < w3.heap.size := (by omega)) | (refine (registerR (row x.op.toNat).a x.a f.regs _).mono ?_; rintro e w2 ⟨rfl, hb2⟩; obtain ⟨hcc2, hff2⟩ := bcell hb2; have hs2 := hb2.size; (try simp at hs2); have l2 : w.heap.size < w2.heap.size := (by omega); have m2 : w.heap.size + 1 < w2.heap.size := (by omega); have n2 : w.heap.size + 1 + 1 < w2.heap.size := (by omega); have p2 : w1.heap.size < w2.heap.size := (by omega)))
    | (go_at_call 38; with_reducible refine (targetR_n hk h2 _).mono ?_; rintro e w5 ⟨rfl, hb5⟩; obtain ⟨hcc5, hff5⟩ := bcell hb5; have hs5 := hb5.size; (try simp at hs5); have l5 : w.heap.size < w5.heap.size := (by omega); have m5 : w.heap.size + 1 < w5.heap.size := (by omega); have n5 : w.heap.size + 1 + 1 < w5.heap.size := (by omega)))
  go_quiet (fail)
  go_wp2
  go_ret
  refine ⟨by first | rfl | simp, ?_⟩
  go_light
  exact (by repeat (first | exact Below.refl _ _ | with_reducible apply below_alloc | with_reducible apply Below.drew | with_reducible apply below_drewN | with_reducible refine Below.setCell ?_ (by dsimp only; omega) _ | with_reducible refine below_step ?_ hb5 | with_reducible refine below_step ?_ hb4 | with_reducible refine below_step ?_ hb3 | with_reducible refine below_step ?_ hb2 | with_reducible refine below_step ?_ hb1))

set_option maxHeartbeats 4000000 in
theorem spoiltR_4c (m : ModD) (f : FuncD) (x : InsD) (w : World) (wm : m.Wf) (wf : f.Wf) (wx : x.Wf) (hm : ModOk w w.heap.size m) (hk : known x.op = true) (hz : (row x.op.toNat).n ≠ 0) (h2 : (row x.op.toNat).n ≠ 2) (e1 : (fldErr (row x.op.toNat).a x.a f.regs != 0) = false) (e2 : (fldErr (row x.op.toNat).b x.b f.regs != 0) = false) (e3 : (fldErr (row x.op.toNat).c x.c f.regs != 0) = false) (u1 : decide (x.n < 0) = false) (u2 : decide ((m.funcs.length : Int) ≤ x.n) = false) (u3 : decide (f.regs < wrap64 (x.b + (nthF m.funcs x.n.toNat).params.length)) = true) (o13 : (x.op == 13) = false) (o19 : (x.op == 19) = true) : Calls Tryd.prog 46 #[m.val, f.val, x.val] w fun e w' => e = .returned (.int .i64 65) ∧ Below w.heap.size w w' := by
  have hflen := wm.flen
  have hi : x.n.toNat < m.funcs.length := by simp at u1 u2; omega
  have x0 : 0 ≤ x.n := by simpa using u1
  have x1 : x.n < m.funcs.length := by simpa using u2
  obtain ⟨fb, fo, hfa, hfb, z0, z1, z2, z3, z4⟩ := funcs_cells hm.funcs hi
  obtain ⟨ta, tc, ths, fa, fc, funcs⟩ := m
  dsimp only at *
  subst hfa
  go_enter Tryd.func46, Tryd.ntmps46
  go_wp2_with (first
    | (go_at_call 37; refine (knownR _ _).mono ?_; rintro e w' ⟨rfl, rfl⟩)
    | (go_at_call 78; with_reducible refine (hasR_nz hk hz _).mono ?_; rintro e w1 ⟨rfl, hb1⟩; obtain ⟨hcc1, hff1⟩ := bcell hb1; have hs1 := hb1.size; (try simp at hs1); have l1 : w.heap.size < w1.heap.size := (by omega); have fx1 : fb < w1.heap.size := (by omega); have m1 : w.heap.size + 1 < w1.heap.size := (by omega); have n1 : w.heap.size + 1 + 1 < w1.heap.size := (by omega))
    | (go_at_call 79; first | (have u := hb3; refine (registerR (row x.op.toNat).c x.c f.regs _).mono ?_; rintro e w4 ⟨rfl, hb4⟩; obtain ⟨hcc4, hff4⟩ := bcell hb4; have hs4 := hb4.size; (try simp at hs4); have l4 : w.heap.size < w4.heap.size := (by omega); have fx4 : fb < w4.heap.size := (by omega); have m4 : w.heap.size + 1 < w4.heap.size := (by omega); have n4 : w.heap.size + 1 + 1 < w4.heap.size := (by omega); have p4 : w1.heap.size < w4.heap.size := (by omega)) | (have u := hb2; refine (registerR (row x.op.toNat).b x.b f.regs _).mono ?_; rintro e w3 ⟨rfl, hb3⟩; obtain ⟨hcc3, hff3⟩ := bcell hb3; have hs3 := hb3.size; (try simp at hs3); have l3 : w.heap.size < w3.heap.size := (by omega); have fx3 : fb < w3.heap.size := (by omega); have m3 : w.heap.size + 1 < w3.heap.size := (by omega); have n3 : w.heap.size + 1 + 1 < w3.heap.size := (by omega); have p3 : w1.heap.size < w3.heap.size := (by omega)) | (refine (registerR (row x.op.toNat).a x.a f.regs _).mono ?_; rintro e w2 ⟨rfl, hb2⟩; obtain ⟨hcc2, hff2⟩ := bcell hb2; have hs2 := hb2.size; (try simp at hs2); have l2 : w.heap.size < w2.heap.size := (by omega); have fx2 : fb < w2.heap.size := (by omega); have m2 : w.heap.size + 1 < w2.heap.size := (by omega); have n2 : w.heap.size + 1 + 1 < w2.heap.size := (by omega); have p2 : w1.heap.size < w2.heap.size := (by omega)))
    | (go_at_call 38; with_reducible refine (targetR_n hk h2 _).mono ?_; rintro e w5 ⟨rfl, hb5⟩; obtain ⟨hcc5, hff5⟩ := bcell hb5; have hs5 := hb5.size; (try simp at hs5); have l5 : w.heap.size < w5.heap.size := (by omega); have fx5 : fb < w5.heap.size := (by omega); have m5 : w.heap.size + 1 < w5.heap.size := (by omega); have n5 : w.heap.size + 1 + 1 < w5.heap.size := (by omega)))
  go_quiet (fail)
  go_wp2
  go_ret
  refine ⟨by first | rfl | simp, ?_⟩
  go_light
  exact (by repeat (first | exact Below.refl _ _ | with_reducible apply below_alloc | with_reducible apply Below.drew | with_reducible apply below_drewN | with_reducible refine Below.setCell ?_ (by dsimp only; omega) _ | with_reducible refine below_step ?_ hb5 | with_reducible refine below_step ?_ hb4 | with_reducible refine below_step ?_ hb3 | with_reducible refine below_step ?_ hb2 | with_reducible refine below_step ?_ hb1))

set_option maxHeartbeats 4000000 in
theorem spoiltR_4d (m : ModD) (f : FuncD) (x : InsD) (w : World) (wm : m.Wf) (wf : f.Wf) (wx : x.Wf) (hm : ModOk w w.heap.size m) (hk : known x.op = true) (hz : (row x.op.toNat).n ≠ 0) (h2 : (row x.op.toNat).n ≠ 2) (e1 : (fldErr (row x.op.toNat).a x.a f.regs != 0) = false) (e2 : (fldErr (row x.op.toNat).b x.b f.regs != 0) = false) (e3 : (fldErr (row x.op.toNat).c x.c f.regs != 0) = false) (u1 : decide (x.n < 0) = false) (u2 : decide ((m.funcs.length : Int) ≤ x.n) = false) (u3 : decide (f.regs < wrap64 (x.b + (nthF m.funcs x.n.toNat).params.length)) = false) (o13 : (x.op == 13) = false) (o19 : (x.op == 19) = true) : Calls Tryd.prog 46 #[m.val, f.val, x.val] w fun e w' => e = .returned (.int .i64 0) ∧ Below w.heap.size w w' := by
  have hflen := wm.flen
  have hi : x.n.toNat < m.funcs.length := by simp at u1 u2; omega
  have x0 : 0 ≤ x.n := by simpa using u1
  have x1 : x.n < m.funcs.length := by simpa using u2
  obtain ⟨fb, fo, hfa, hfb, z0, z1, z2, z3, z4⟩ := funcs_cells hm.funcs hi
  obtain ⟨ta, tc, ths, fa, fc, funcs⟩ := m
  dsimp only at *
  subst hfa
  go_enter Tryd.func46, Tryd.ntmps46
  go_wp2_with (first
    | (go_at_call 37; refine (knownR _ _).mono ?_; rintro e w' ⟨rfl, rfl⟩)
    | (go_at_call 78; with_reducible refine (hasR_nz hk hz _).mono ?_; rintro e w1 ⟨rfl, hb1⟩; obtain ⟨hcc1, hff1⟩ := bcell hb1; have hs1 := hb1.size; (try simp at hs1); have l1 : w.heap.size < w1.heap.size := (by omega); have fx1 : fb < w1.heap.size := (by omega); have m1 : w.heap.size + 1 < w1.heap.size := (by omega); have n1 : w.heap.size + 1 + 1 < w1.heap.size := (by omega))
    | (go_at_call 79; first | (have u := hb3; refine (registerR (row x.op.toNat).c x.c f.regs _).mono ?_; rintro e w4 ⟨rfl, hb4⟩; obtain ⟨hcc4, hff4⟩ := bcell hb4; have hs4 := hb4.size; (try simp at hs4); have l4 : w.heap.size < w4.heap.size := (by omega); have fx4 : fb < w4.heap.size := (by omega); have m4 : w.heap.size + 1 < w4.heap.size := (by omega); have n4 : w.heap.size + 1 + 1 < w4.heap.size := (by omega); have p4 : w1.heap.size < w4.heap.size := (by omega)) | (have u := hb2; refine (registerR (row x.op.toNat).b x.b f.regs _).mono ?_; rintro e w3 ⟨rfl, hb3⟩; obtain ⟨hcc3, hff3⟩ := bcell hb3; have hs3 := hb3.size; (try simp at hs3); have l3 : w.heap.size < w3.heap.size := (by omega); have fx3 : fb < w3.heap.size := (by omega); have m3 : w.heap.size + 1 < w3.heap.size := (by omega); have n3 : w.heap.size + 1 + 1 < w3.heap.size := (by omega); have p3 : w1.heap.size < w3.heap.size := (by omega)) | (refine (registerR (row x.op.toNat).a x.a f.regs _).mono ?_; rintro e w2 ⟨rfl, hb2⟩; obtain ⟨hcc2, hff2⟩ := bcell hb2; have hs2 := hb2.size; (try simp at hs2); have l2 : w.heap.size < w2.heap.size := (by omega); have fx2 : fb < w2.heap.size := (by omega); have m2 : w.heap.size + 1 < w2.heap.size := (by omega); have n2 : w.heap.size + 1 + 1 < w2.heap.size := (by omega); have p2 : w1.heap.size < w2.heap.size := (by omega)))
    | (go_at_call 38; with_reducible refine (targetR_n hk h2 _).mono ?_; rintro e w5 ⟨rfl, hb5⟩; obtain ⟨hcc5, hff5⟩ := bcell hb5; have hs5 := hb5.size; (try simp at hs5); have l5 : w.heap.size < w5.heap.size := (by omega); have fx5 : fb < w5.heap.size := (by omega); have m5 : w.heap.size + 1 < w5.heap.size := (by omega); have n5 : w.heap.size + 1 + 1 < w5.heap.size := (by omega)))
  go_quiet (fail)
  go_wp2
  go_ret
  refine ⟨by first | rfl | simp, ?_⟩
  go_light
  exact (by repeat (first | exact Below.refl _ _ | with_reducible apply below_alloc | with_reducible apply Below.drew | with_reducible apply below_drewN | with_reducible refine Below.setCell ?_ (by dsimp only; omega) _ | with_reducible refine below_step ?_ hb5 | with_reducible refine below_step ?_ hb4 | with_reducible refine below_step ?_ hb3 | with_reducible refine below_step ?_ hb2 | with_reducible refine below_step ?_ hb1))

theorem spoiltR (m : ModD) (f : FuncD) (x : InsD) (w : World) (wm : m.Wf) (wf : f.Wf) (wx : x.Wf) (hm : ModOk w w.heap.size m) : Calls Tryd.prog 46 #[m.val, f.val, x.val] w fun e w' => e = .returned (.int .i64 (insErr m f x)) ∧ Below w.heap.size w w' := by
  cases hk : known x.op
  · rw [show insErr m f x = 60 from by rw [insErr, if_neg (by rw [hk]; decide)]]
    exact spoiltR_no m f x w wm wf wx hm hk
  have q3 := n_3 hk
  have q4 := n_4 hk
  by_cases hz : (row x.op.toNat).n = 0
  · by_cases e1 : fldErr (row x.op.toNat).a x.a f.regs = 0
    · by_cases e2 : fldErr (row x.op.toNat).b x.b f.regs = 0
      · by_cases e3 : fldErr (row x.op.toNat).c x.c f.regs = 0
        · have hr : insErr m f x = nErr (row x.op.toNat) m f x := insErr_n hk (by rw [flds_3 e1 e2, e3])
          by_cases u1 : x.n = 0
          · rw [hr, show nErr (row x.op.toNat) m f x = 0 from by simp [nErr, hz, u1]]
            exact spoiltR_0 m f x w wm wf wx hm hk hz (by omega) (by simpa using e1) (by simpa using e2) (by simpa using e3) (by simpa using u1) (by rw [q3, hz]; rfl) (by rw [q4, hz]; rfl)
          · rw [hr, show nErr (row x.op.toNat) m f x = 62 from by simp [nErr, hz, u1]]
            exact spoiltR_0n m f x w wm wf wx hm hk hz (by simpa using e1) (by simpa using e2) (by simpa using e3) (by simpa using u1)
        · rw [insErr_f hk (flds_3 e1 e2) e3]; exact spoiltR_cz m f x w wm wf wx hm hk hz (by simpa using e1) (by simpa using e2) (by simpa using e3)
      · rw [insErr_f hk (flds_2 e1 e2) e2]; exact spoiltR_bz m f x w wm wf wx hm hk hz (by simpa using e1) (by simpa using e2)
    · rw [insErr_f hk (flds_1 e1) e1]; exact spoiltR_az m f x w wm wf wx hm hk hz (by simpa using e1)
  · by_cases e1 : fldErr (row x.op.toNat).a x.a f.regs = 0
    · by_cases e2 : fldErr (row x.op.toNat).b x.b f.regs = 0
      · by_cases e3 : fldErr (row x.op.toNat).c x.c f.regs = 0
        · have hr : insErr m f x = nErr (row x.op.toNat) m f x := insErr_n hk (by rw [flds_3 e1 e2, e3])
          have b1 : (fldErr (row x.op.toNat).a x.a f.regs != 0) = false := by simpa using e1
          have b2 : (fldErr (row x.op.toNat).b x.b f.regs != 0) = false := by simpa using e2
          have b3 : (fldErr (row x.op.toNat).c x.c f.regs != 0) = false := by simpa using e3
          rw [hr]
          rcases row_n x.op.toNat with hn | hn | hn | hn | hn <;> rw [hn] at q3 q4
          · exact absurd hn hz
          · rw [show nErr (row x.op.toNat) m f x = 0 from by simp [nErr, hn]]
            exact spoiltR_1 m f x w wm wf wx hm hk hz (by omega) b1 b2 b3 q3 q4
          · by_cases u1 : x.n < 0
            · rw [show nErr (row x.op.toNat) m f x = 63 from by simp [nErr, hn, u1]]
              exact spoiltR_2a m f x w wm wf wx hm hk hz hn b1 b2 b3 (by simpa using u1)
            · by_cases u2 : (f.code.length : Int) ≤ x.n
              · rw [show nErr (row x.op.toNat) m f x = 63 from by simp [nErr, hn, u2]]
                exact spoiltR_2b m f x w wm wf wx hm hk hz hn b1 b2 b3 (by simpa using u1) (by simpa using u2)
              · rw [show nErr (row x.op.toNat) m f x = 0 from by simp [nErr, hn]; omega]
                exact spoiltR_2c m f x w wm wf wx hm hk hz hn b1 b2 b3 (by simpa using u1) (by simpa using u2) q3 q4
          · by_cases u1 : x.n < 1
            · rw [show nErr (row x.op.toNat) m f x = 2 from by simp [nErr, hn, u1]]
              exact spoiltR_3a m f x w wm wf wx hm hk hz (by omega) b1 b2 b3 (by simpa using u1) q3 q4
            · by_cases u2 : 4096 < x.n
              · rw [show nErr (row x.op.toNat) m f x = 2 from by simp [nErr, hn, u2]]
                exact spoiltR_3b m f x w wm wf wx hm hk hz (by omega) b1 b2 b3 (by simpa using u1) (by simpa using u2) q3 q4
              · rw [show nErr (row x.op.toNat) m f x = 0 from by simp [nErr, hn]; omega]
                exact spoiltR_3c m f x w wm wf wx hm hk hz (by omega) b1 b2 b3 (by simpa using u1) (by simpa using u2) q3 q4
          · by_cases u1 : x.n < 0
            · rw [show nErr (row x.op.toNat) m f x = 65 from by simp [nErr, hn, u1]]
              exact spoiltR_4a m f x w wm wf wx hm hk hz (by omega) b1 b2 b3 (by simpa using u1) q3 q4
            · by_cases u2 : (m.funcs.length : Int) ≤ x.n
              · rw [show nErr (row x.op.toNat) m f x = 65 from by simp [nErr, hn, u2]]
                exact spoiltR_4b m f x w wm wf wx hm hk hz (by omega) b1 b2 b3 (by simpa using u1) (by simpa using u2) q3 q4
              · by_cases u3 : f.regs < wrap64 (x.b + (nthF m.funcs x.n.toNat).params.length)
                · rw [show nErr (row x.op.toNat) m f x = 65 from by simp [nErr, hn, u3]]
                  exact spoiltR_4c m f x w wm wf wx hm hk hz (by omega) b1 b2 b3 (by simpa using u1) (by simpa using u2) (by simpa using u3) q3 q4
                · rw [show nErr (row x.op.toNat) m f x = 0 from by rw [nErr, if_neg (by omega), if_neg (by omega), if_neg (by omega), if_pos hn, if_neg (by omega)]]
                  exact spoiltR_4d m f x w wm wf wx hm hk hz (by omega) b1 b2 b3 (by simpa using u1) (by simpa using u2) (by simpa using u3) q3 q4
        · rw [insErr_f hk (flds_3 e1 e2) e3]; exact spoiltR_cnz m f x w wm wf wx hm hk hz (by simpa using e1) (by simpa using e2) (by simpa using e3)
      · rw [insErr_f hk (flds_2 e1 e2) e2]; exact spoiltR_bnz m f x w wm wf wx hm hk hz (by simpa using e1) (by simpa using e2)
    · rw [insErr_f hk (flds_1 e1) e1]; exact spoiltR_anz m f x w wm wf wx hm hk hz (by simpa using e1)
end Go.Proofs.YtddobhneplfddaaDoor
