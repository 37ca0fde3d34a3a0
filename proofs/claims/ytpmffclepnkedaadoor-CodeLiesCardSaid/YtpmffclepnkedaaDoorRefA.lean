/-
  Layer 9 (code): the reference's own small functions: Has, Weight, Writes, Target, register.
-/
import Derived.Test.YtpmffclepnkedaaDoorPlainM
import Derived.Test.YtpmffclepnkedaaDoorCodeA
namespace Go.Proofs.YtpmffclepnkedaaDoor
open Go.RowKit
set_option linter.unusedSimpArgs false
set_option linter.unusedVariables false
attribute [local go_sem ↓] Go.wp_at_zero Go.wp_at_succ

/-- A known operation is one of twenty numbers. -/
theorem known_cases {op : Int} (h : known op = true) {P : Int → Prop} (h10 : P 0) (h11 : P 1) (h12 : P 2) (h13 : P 3) (h14 : P 4) (h15 : P 5) (h16 : P 6) (h17 : P 7) (h18 : P 8) (h19 : P 9) (h20 : P 10) (h21 : P 11) (h22 : P 12) (h23 : P 13) (h24 : P 14) (h25 : P 15) (h26 : P 16) (h27 : P 17) (h28 : P 18) (h29 : P 19) : P op := by
  obtain ⟨h0, h1⟩ := known_yes h
  have : op = 0 ∨ op = 1 ∨ op = 2 ∨ op = 3 ∨ op = 4 ∨ op = 5 ∨ op = 6 ∨ op = 7 ∨ op = 8 ∨ op = 9 ∨ op = 10 ∨ op = 11 ∨ op = 12 ∨ op = 13 ∨ op = 14 ∨ op = 15 ∨ op = 16 ∨ op = 17 ∨ op = 18 ∨ op = 19 := by omega
  rcases this with rfl | rfl | rfl | rfl | rfl | rfl | rfl | rfl | rfl | rfl | rfl | rfl | rfl | rfl | rfl | rfl | rfl | rfl | rfl | rfl
  · exact h10
  · exact h11
  · exact h12
  · exact h13
  · exact h14
  · exact h15
  · exact h16
  · exact h17
  · exact h18
  · exact h19
  · exact h20
  · exact h21
  · exact h22
  · exact h23
  · exact h24
  · exact h25
  · exact h26
  · exact h27
  · exact h28
  · exact h29

set_option maxHeartbeats 400000 in
theorem hasR_0 (w : World) : Calls Tryd.prog 46 #[.int .i64 0] w fun e w' => e = .returned (.agg #[.bool true, .bool false, .bool false, .bool false]) ∧ Below w.heap.size w w' := by
  go_enter Tryd.func46, Tryd.ntmps46
  go_wp2
  all_goals (try simp only [Exit.inBlock, Exit.then])
  all_goals refine ret_of ?_ rfl
  all_goals simp [results, Tryd.results46, go_sem]
  all_goals go_light
  all_goals exact (by repeat (first | exact Below.refl _ _ | with_reducible apply below_alloc | with_reducible refine Below.setCell ?_ (by dsimp only; omega) _))

set_option maxHeartbeats 400000 in
theorem hasR_1 (w : World) : Calls Tryd.prog 46 #[.int .i64 1] w fun e w' => e = .returned (.agg #[.bool true, .bool false, .bool false, .bool true]) ∧ Below w.heap.size w w' := by
  go_enter Tryd.func46, Tryd.ntmps46
  go_wp2
  all_goals (try simp only [Exit.inBlock, Exit.then])
  all_goals refine ret_of ?_ rfl
  all_goals simp [results, Tryd.results46, go_sem]
  all_goals go_light
  all_goals exact (by repeat (first | exact Below.refl _ _ | with_reducible apply below_alloc | with_reducible refine Below.setCell ?_ (by dsimp only; omega) _))

set_option maxHeartbeats 400000 in
theorem hasR_2 (w : World) : Calls Tryd.prog 46 #[.int .i64 2] w fun e w' => e = .returned (.agg #[.bool true, .bool true, .bool false, .bool false]) ∧ Below w.heap.size w w' := by
  go_enter Tryd.func46, Tryd.ntmps46
  go_wp2
  all_goals (try simp only [Exit.inBlock, Exit.then])
  all_goals refine ret_of ?_ rfl
  all_goals simp [results, Tryd.results46, go_sem]
  all_goals go_light
  all_goals exact (by repeat (first | exact Below.refl _ _ | with_reducible apply below_alloc | with_reducible refine Below.setCell ?_ (by dsimp only; omega) _))

set_option maxHeartbeats 400000 in
theorem hasR_3 (w : World) : Calls Tryd.prog 46 #[.int .i64 3] w fun e w' => e = .returned (.agg #[.bool true, .bool true, .bool true, .bool false]) ∧ Below w.heap.size w w' := by
  go_enter Tryd.func46, Tryd.ntmps46
  go_wp2
  all_goals (try simp only [Exit.inBlock, Exit.then])
  all_goals refine ret_of ?_ rfl
  all_goals simp [results, Tryd.results46, go_sem]
  all_goals go_light
  all_goals exact (by repeat (first | exact Below.refl _ _ | with_reducible apply below_alloc | with_reducible refine Below.setCell ?_ (by dsimp only; omega) _))

set_option maxHeartbeats 400000 in
theorem hasR_4 (w : World) : Calls Tryd.prog 46 #[.int .i64 4] w fun e w' => e = .returned (.agg #[.bool true, .bool true, .bool true, .bool false]) ∧ Below w.heap.size w w' := by
  go_enter Tryd.func46, Tryd.ntmps46
  go_wp2
  all_goals (try simp only [Exit.inBlock, Exit.then])
  all_goals refine ret_of ?_ rfl
  all_goals simp [results, Tryd.results46, go_sem]
  all_goals go_light
  all_goals exact (by repeat (first | exact Below.refl _ _ | with_reducible apply below_alloc | with_reducible refine Below.setCell ?_ (by dsimp only; omega) _))

set_option maxHeartbeats 400000 in
theorem hasR_5 (w : World) : Calls Tryd.prog 46 #[.int .i64 5] w fun e w' => e = .returned (.agg #[.bool true, .bool true, .bool true, .bool false]) ∧ Below w.heap.size w w' := by
  go_enter Tryd.func46, Tryd.ntmps46
  go_wp2
  all_goals (try simp only [Exit.inBlock, Exit.then])
  all_goals refine ret_of ?_ rfl
  all_goals simp [results, Tryd.results46, go_sem]
  all_goals go_light
  all_goals exact (by repeat (first | exact Below.refl _ _ | with_reducible apply below_alloc | with_reducible refine Below.setCell ?_ (by dsimp only; omega) _))

set_option maxHeartbeats 400000 in
theorem hasR_6 (w : World) : Calls Tryd.prog 46 #[.int .i64 6] w fun e w' => e = .returned (.agg #[.bool true, .bool true, .bool true, .bool false]) ∧ Below w.heap.size w w' := by
  go_enter Tryd.func46, Tryd.ntmps46
  go_wp2
  all_goals (try simp only [Exit.inBlock, Exit.then])
  all_goals refine ret_of ?_ rfl
  all_goals simp [results, Tryd.results46, go_sem]
  all_goals go_light
  all_goals exact (by repeat (first | exact Below.refl _ _ | with_reducible apply below_alloc | with_reducible refine Below.setCell ?_ (by dsimp only; omega) _))

set_option maxHeartbeats 400000 in
theorem hasR_7 (w : World) : Calls Tryd.prog 46 #[.int .i64 7] w fun e w' => e = .returned (.agg #[.bool true, .bool true, .bool true, .bool false]) ∧ Below w.heap.size w w' := by
  go_enter Tryd.func46, Tryd.ntmps46
  go_wp2
  all_goals (try simp only [Exit.inBlock, Exit.then])
  all_goals refine ret_of ?_ rfl
  all_goals simp [results, Tryd.results46, go_sem]
  all_goals go_light
  all_goals exact (by repeat (first | exact Below.refl _ _ | with_reducible apply below_alloc | with_reducible refine Below.setCell ?_ (by dsimp only; omega) _))

set_option maxHeartbeats 400000 in
theorem hasR_8 (w : World) : Calls Tryd.prog 46 #[.int .i64 8] w fun e w' => e = .returned (.agg #[.bool true, .bool true, .bool true, .bool false]) ∧ Below w.heap.size w w' := by
  go_enter Tryd.func46, Tryd.ntmps46
  go_wp2
  all_goals (try simp only [Exit.inBlock, Exit.then])
  all_goals refine ret_of ?_ rfl
  all_goals simp [results, Tryd.results46, go_sem]
  all_goals go_light
  all_goals exact (by repeat (first | exact Below.refl _ _ | with_reducible apply below_alloc | with_reducible refine Below.setCell ?_ (by dsimp only; omega) _))

set_option maxHeartbeats 400000 in
theorem hasR_9 (w : World) : Calls Tryd.prog 46 #[.int .i64 9] w fun e w' => e = .returned (.agg #[.bool true, .bool true, .bool true, .bool false]) ∧ Below w.heap.size w w' := by
  go_enter Tryd.func46, Tryd.ntmps46
  go_wp2
  all_goals (try simp only [Exit.inBlock, Exit.then])
  all_goals refine ret_of ?_ rfl
  all_goals simp [results, Tryd.results46, go_sem]
  all_goals go_light
  all_goals exact (by repeat (first | exact Below.refl _ _ | with_reducible apply below_alloc | with_reducible refine Below.setCell ?_ (by dsimp only; omega) _))

set_option maxHeartbeats 400000 in
theorem hasR_10 (w : World) : Calls Tryd.prog 46 #[.int .i64 10] w fun e w' => e = .returned (.agg #[.bool true, .bool true, .bool false, .bool false]) ∧ Below w.heap.size w w' := by
  go_enter Tryd.func46, Tryd.ntmps46
  go_wp2
  all_goals (try simp only [Exit.inBlock, Exit.then])
  all_goals refine ret_of ?_ rfl
  all_goals simp [results, Tryd.results46, go_sem]
  all_goals go_light
  all_goals exact (by repeat (first | exact Below.refl _ _ | with_reducible apply below_alloc | with_reducible refine Below.setCell ?_ (by dsimp only; omega) _))

set_option maxHeartbeats 400000 in
theorem hasR_11 (w : World) : Calls Tryd.prog 46 #[.int .i64 11] w fun e w' => e = .returned (.agg #[.bool true, .bool true, .bool false, .bool true]) ∧ Below w.heap.size w w' := by
  go_enter Tryd.func46, Tryd.ntmps46
  go_wp2
  all_goals (try simp only [Exit.inBlock, Exit.then])
  all_goals refine ret_of ?_ rfl
  all_goals simp [results, Tryd.results46, go_sem]
  all_goals go_light
  all_goals exact (by repeat (first | exact Below.refl _ _ | with_reducible apply below_alloc | with_reducible refine Below.setCell ?_ (by dsimp only; omega) _))

set_option maxHeartbeats 400000 in
theorem hasR_12 (w : World) : Calls Tryd.prog 46 #[.int .i64 12] w fun e w' => e = .returned (.agg #[.bool true, .bool true, .bool false, .bool true]) ∧ Below w.heap.size w w' := by
  go_enter Tryd.func46, Tryd.ntmps46
  go_wp2
  all_goals (try simp only [Exit.inBlock, Exit.then])
  all_goals refine ret_of ?_ rfl
  all_goals simp [results, Tryd.results46, go_sem]
  all_goals go_light
  all_goals exact (by repeat (first | exact Below.refl _ _ | with_reducible apply below_alloc | with_reducible refine Below.setCell ?_ (by dsimp only; omega) _))

set_option maxHeartbeats 400000 in
theorem hasR_13 (w : World) : Calls Tryd.prog 46 #[.int .i64 13] w fun e w' => e = .returned (.agg #[.bool true, .bool false, .bool false, .bool true]) ∧ Below w.heap.size w w' := by
  go_enter Tryd.func46, Tryd.ntmps46
  go_wp2
  all_goals (try simp only [Exit.inBlock, Exit.then])
  all_goals refine ret_of ?_ rfl
  all_goals simp [results, Tryd.results46, go_sem]
  all_goals go_light
  all_goals exact (by repeat (first | exact Below.refl _ _ | with_reducible apply below_alloc | with_reducible refine Below.setCell ?_ (by dsimp only; omega) _))

set_option maxHeartbeats 400000 in
theorem hasR_14 (w : World) : Calls Tryd.prog 46 #[.int .i64 14] w fun e w' => e = .returned (.agg #[.bool false, .bool false, .bool false, .bool true]) ∧ Below w.heap.size w w' := by
  go_enter Tryd.func46, Tryd.ntmps46
  go_wp2
  all_goals (try simp only [Exit.inBlock, Exit.then])
  all_goals refine ret_of ?_ rfl
  all_goals simp [results, Tryd.results46, go_sem]
  all_goals go_light
  all_goals exact (by repeat (first | exact Below.refl _ _ | with_reducible apply below_alloc | with_reducible refine Below.setCell ?_ (by dsimp only; omega) _))

set_option maxHeartbeats 400000 in
theorem hasR_15 (w : World) : Calls Tryd.prog 46 #[.int .i64 15] w fun e w' => e = .returned (.agg #[.bool true, .bool false, .bool false, .bool true]) ∧ Below w.heap.size w w' := by
  go_enter Tryd.func46, Tryd.ntmps46
  go_wp2
  all_goals (try simp only [Exit.inBlock, Exit.then])
  all_goals refine ret_of ?_ rfl
  all_goals simp [results, Tryd.results46, go_sem]
  all_goals go_light
  all_goals exact (by repeat (first | exact Below.refl _ _ | with_reducible apply below_alloc | with_reducible refine Below.setCell ?_ (by dsimp only; omega) _))

set_option maxHeartbeats 400000 in
theorem hasR_16 (w : World) : Calls Tryd.prog 46 #[.int .i64 16] w fun e w' => e = .returned (.agg #[.bool true, .bool false, .bool false, .bool true]) ∧ Below w.heap.size w w' := by
  go_enter Tryd.func46, Tryd.ntmps46
  go_wp2
  all_goals (try simp only [Exit.inBlock, Exit.then])
  all_goals refine ret_of ?_ rfl
  all_goals simp [results, Tryd.results46, go_sem]
  all_goals go_light
  all_goals exact (by repeat (first | exact Below.refl _ _ | with_reducible apply below_alloc | with_reducible refine Below.setCell ?_ (by dsimp only; omega) _))

set_option maxHeartbeats 400000 in
theorem hasR_17 (w : World) : Calls Tryd.prog 46 #[.int .i64 17] w fun e w' => e = .returned (.agg #[.bool true, .bool true, .bool false, .bool true]) ∧ Below w.heap.size w w' := by
  go_enter Tryd.func46, Tryd.ntmps46
  go_wp2
  all_goals (try simp only [Exit.inBlock, Exit.then])
  all_goals refine ret_of ?_ rfl
  all_goals simp [results, Tryd.results46, go_sem]
  all_goals go_light
  all_goals exact (by repeat (first | exact Below.refl _ _ | with_reducible apply below_alloc | with_reducible refine Below.setCell ?_ (by dsimp only; omega) _))

set_option maxHeartbeats 400000 in
theorem hasR_18 (w : World) : Calls Tryd.prog 46 #[.int .i64 18] w fun e w' => e = .returned (.agg #[.bool true, .bool false, .bool false, .bool true]) ∧ Below w.heap.size w w' := by
  go_enter Tryd.func46, Tryd.ntmps46
  go_wp2
  all_goals (try simp only [Exit.inBlock, Exit.then])
  all_goals refine ret_of ?_ rfl
  all_goals simp [results, Tryd.results46, go_sem]
  all_goals go_light
  all_goals exact (by repeat (first | exact Below.refl _ _ | with_reducible apply below_alloc | with_reducible refine Below.setCell ?_ (by dsimp only; omega) _))

set_option maxHeartbeats 400000 in
theorem hasR_19 (w : World) : Calls Tryd.prog 46 #[.int .i64 19] w fun e w' => e = .returned (.agg #[.bool true, .bool true, .bool false, .bool true]) ∧ Below w.heap.size w w' := by
  go_enter Tryd.func46, Tryd.ntmps46
  go_wp2
  all_goals (try simp only [Exit.inBlock, Exit.then])
  all_goals refine ret_of ?_ rfl
  all_goals simp [results, Tryd.results46, go_sem]
  all_goals go_light
  all_goals exact (by repeat (first | exact Below.refl _ _ | with_reducible apply below_alloc | with_reducible refine Below.setCell ?_ (by dsimp only; omega) _))

set_option maxHeartbeats 400000 in
theorem weightR_0 (w : World) : Calls Tryd.prog 13 #[.int .i64 0] w fun e w' => e = .returned (.int .i64 1) ∧ Below w.heap.size w w' := by
  go_enter Tryd.func13, Tryd.ntmps13
  have hk : known 0 = true := rfl
  go_wp2_with (go_at_call 11; refine (knownR _ _).mono ?_; rintro e w' ⟨rfl, rfl⟩)
  all_goals go_ret
  all_goals exact ⟨by first | rfl | simp, (by repeat (first | exact Below.refl _ _ | with_reducible apply below_alloc | with_reducible refine Below.setCell ?_ (by dsimp only; omega) _))⟩

set_option maxHeartbeats 400000 in
theorem writesR_0 (a b c n : Int) (w : World) : Calls Tryd.prog 17 #[.agg #[.int .i64 0, .int .i64 a, .int .i64 b, .int .i64 c, .int .i64 n]] w fun e w' => e = .returned (.int .i64 (-1)) ∧ Below w.heap.size w w' := by
  go_enter Tryd.func17, Tryd.ntmps17
  go_wp2
  all_goals go_ret
  all_goals exact ⟨by first | rfl | simp, (by repeat (first | exact Below.refl _ _ | with_reducible apply below_alloc | with_reducible refine Below.setCell ?_ (by dsimp only; omega) _))⟩

set_option maxHeartbeats 400000 in
theorem targetR_0 (w : World) : Calls Tryd.prog 48 #[.int .i64 0] w fun e w' => e = .returned (.bool false) ∧ Below w.heap.size w w' := by
  go_enter Tryd.func48, Tryd.ntmps48
  go_wp2
  all_goals go_ret
  all_goals exact ⟨by first | rfl | simp, (by repeat (first | exact Below.refl _ _ | with_reducible apply below_alloc | with_reducible refine Below.setCell ?_ (by dsimp only; omega) _))⟩

set_option maxHeartbeats 400000 in
theorem weightR_1 (w : World) : Calls Tryd.prog 13 #[.int .i64 1] w fun e w' => e = .returned (.int .i64 1) ∧ Below w.heap.size w w' := by
  go_enter Tryd.func13, Tryd.ntmps13
  have hk : known 1 = true := rfl
  go_wp2_with (go_at_call 11; refine (knownR _ _).mono ?_; rintro e w' ⟨rfl, rfl⟩)
  all_goals go_ret
  all_goals exact ⟨by first | rfl | simp, (by repeat (first | exact Below.refl _ _ | with_reducible apply below_alloc | with_reducible refine Below.setCell ?_ (by dsimp only; omega) _))⟩

set_option maxHeartbeats 400000 in
theorem writesR_1 (a b c n : Int) (w : World) : Calls Tryd.prog 17 #[.agg #[.int .i64 1, .int .i64 a, .int .i64 b, .int .i64 c, .int .i64 n]] w fun e w' => e = .returned (.int .i64 a) ∧ Below w.heap.size w w' := by
  go_enter Tryd.func17, Tryd.ntmps17
  go_wp2
  all_goals go_ret
  all_goals exact ⟨by first | rfl | simp, (by repeat (first | exact Below.refl _ _ | with_reducible apply below_alloc | with_reducible refine Below.setCell ?_ (by dsimp only; omega) _))⟩

set_option maxHeartbeats 400000 in
theorem targetR_1 (w : World) : Calls Tryd.prog 48 #[.int .i64 1] w fun e w' => e = .returned (.bool false) ∧ Below w.heap.size w w' := by
  go_enter Tryd.func48, Tryd.ntmps48
  go_wp2
  all_goals go_ret
  all_goals exact ⟨by first | rfl | simp, (by repeat (first | exact Below.refl _ _ | with_reducible apply below_alloc | with_reducible refine Below.setCell ?_ (by dsimp only; omega) _))⟩

set_option maxHeartbeats 400000 in
theorem weightR_2 (w : World) : Calls Tryd.prog 13 #[.int .i64 2] w fun e w' => e = .returned (.int .i64 1) ∧ Below w.heap.size w w' := by
  go_enter Tryd.func13, Tryd.ntmps13
  have hk : known 2 = true := rfl
  go_wp2_with (go_at_call 11; refine (knownR _ _).mono ?_; rintro e w' ⟨rfl, rfl⟩)
  all_goals go_ret
  all_goals exact ⟨by first | rfl | simp, (by repeat (first | exact Below.refl _ _ | with_reducible apply below_alloc | with_reducible refine Below.setCell ?_ (by dsimp only; omega) _))⟩

set_option maxHeartbeats 400000 in
theorem writesR_2 (a b c n : Int) (w : World) : Calls Tryd.prog 17 #[.agg #[.int .i64 2, .int .i64 a, .int .i64 b, .int .i64 c, .int .i64 n]] w fun e w' => e = .returned (.int .i64 a) ∧ Below w.heap.size w w' := by
  go_enter Tryd.func17, Tryd.ntmps17
  go_wp2
  all_goals go_ret
  all_goals exact ⟨by first | rfl | simp, (by repeat (first | exact Below.refl _ _ | with_reducible apply below_alloc | with_reducible refine Below.setCell ?_ (by dsimp only; omega) _))⟩

set_option maxHeartbeats 400000 in
theorem targetR_2 (w : World) : Calls Tryd.prog 48 #[.int .i64 2] w fun e w' => e = .returned (.bool false) ∧ Below w.heap.size w w' := by
  go_enter Tryd.func48, Tryd.ntmps48
  go_wp2
  all_goals go_ret
  all_goals exact ⟨by first | rfl | simp, (by repeat (first | exact Below.refl _ _ | with_reducible apply below_alloc | with_reducible refine Below.setCell ?_ (by dsimp only; omega) _))⟩

set_option maxHeartbeats 400000 in
theorem weightR_3 (w : World) : Calls Tryd.prog 13 #[.int .i64 3] w fun e w' => e = .returned (.int .i64 1) ∧ Below w.heap.size w w' := by
  go_enter Tryd.func13, Tryd.ntmps13
  have hk : known 3 = true := rfl
  go_wp2_with (go_at_call 11; refine (knownR _ _).mono ?_; rintro e w' ⟨rfl, rfl⟩)
  all_goals go_ret
  all_goals exact ⟨by first | rfl | simp, (by repeat (first | exact Below.refl _ _ | with_reducible apply below_alloc | with_reducible refine Below.setCell ?_ (by dsimp only; omega) _))⟩

set_option maxHeartbeats 400000 in
theorem writesR_3 (a b c n : Int) (w : World) : Calls Tryd.prog 17 #[.agg #[.int .i64 3, .int .i64 a, .int .i64 b, .int .i64 c, .int .i64 n]] w fun e w' => e = .returned (.int .i64 a) ∧ Below w.heap.size w w' := by
  go_enter Tryd.func17, Tryd.ntmps17
  go_wp2
  all_goals go_ret
  all_goals exact ⟨by first | rfl | simp, (by repeat (first | exact Below.refl _ _ | with_reducible apply below_alloc | with_reducible refine Below.setCell ?_ (by dsimp only; omega) _))⟩

set_option maxHeartbeats 400000 in
theorem targetR_3 (w : World) : Calls Tryd.prog 48 #[.int .i64 3] w fun e w' => e = .returned (.bool false) ∧ Below w.heap.size w w' := by
  go_enter Tryd.func48, Tryd.ntmps48
  go_wp2
  all_goals go_ret
  all_goals exact ⟨by first | rfl | simp, (by repeat (first | exact Below.refl _ _ | with_reducible apply below_alloc | with_reducible refine Below.setCell ?_ (by dsimp only; omega) _))⟩

set_option maxHeartbeats 400000 in
theorem weightR_4 (w : World) : Calls Tryd.prog 13 #[.int .i64 4] w fun e w' => e = .returned (.int .i64 1) ∧ Below w.heap.size w w' := by
  go_enter Tryd.func13, Tryd.ntmps13
  have hk : known 4 = true := rfl
  go_wp2_with (go_at_call 11; refine (knownR _ _).mono ?_; rintro e w' ⟨rfl, rfl⟩)
  all_goals go_ret
  all_goals exact ⟨by first | rfl | simp, (by repeat (first | exact Below.refl _ _ | with_reducible apply below_alloc | with_reducible refine Below.setCell ?_ (by dsimp only; omega) _))⟩

set_option maxHeartbeats 400000 in
theorem writesR_4 (a b c n : Int) (w : World) : Calls Tryd.prog 17 #[.agg #[.int .i64 4, .int .i64 a, .int .i64 b, .int .i64 c, .int .i64 n]] w fun e w' => e = .returned (.int .i64 a) ∧ Below w.heap.size w w' := by
  go_enter Tryd.func17, Tryd.ntmps17
  go_wp2
  all_goals go_ret
  all_goals exact ⟨by first | rfl | simp, (by repeat (first | exact Below.refl _ _ | with_reducible apply below_alloc | with_reducible refine Below.setCell ?_ (by dsimp only; omega) _))⟩

set_option maxHeartbeats 400000 in
theorem targetR_4 (w : World) : Calls Tryd.prog 48 #[.int .i64 4] w fun e w' => e = .returned (.bool false) ∧ Below w.heap.size w w' := by
  go_enter Tryd.func48, Tryd.ntmps48
  go_wp2
  all_goals go_ret
  all_goals exact ⟨by first | rfl | simp, (by repeat (first | exact Below.refl _ _ | with_reducible apply below_alloc | with_reducible refine Below.setCell ?_ (by dsimp only; omega) _))⟩

set_option maxHeartbeats 400000 in
theorem weightR_5 (w : World) : Calls Tryd.prog 13 #[.int .i64 5] w fun e w' => e = .returned (.int .i64 3) ∧ Below w.heap.size w w' := by
  go_enter Tryd.func13, Tryd.ntmps13
  have hk : known 5 = true := rfl
  go_wp2_with (go_at_call 11; refine (knownR _ _).mono ?_; rintro e w' ⟨rfl, rfl⟩)
  all_goals go_ret
  all_goals exact ⟨by first | rfl | simp, (by repeat (first | exact Below.refl _ _ | with_reducible apply below_alloc | with_reducible refine Below.setCell ?_ (by dsimp only; omega) _))⟩

set_option maxHeartbeats 400000 in
theorem writesR_5 (a b c n : Int) (w : World) : Calls Tryd.prog 17 #[.agg #[.int .i64 5, .int .i64 a, .int .i64 b, .int .i64 c, .int .i64 n]] w fun e w' => e = .returned (.int .i64 a) ∧ Below w.heap.size w w' := by
  go_enter Tryd.func17, Tryd.ntmps17
  go_wp2
  all_goals go_ret
  all_goals exact ⟨by first | rfl | simp, (by repeat (first | exact Below.refl _ _ | with_reducible apply below_alloc | with_reducible refine Below.setCell ?_ (by dsimp only; omega) _))⟩

set_option maxHeartbeats 400000 in
theorem targetR_5 (w : World) : Calls Tryd.prog 48 #[.int .i64 5] w fun e w' => e = .returned (.bool false) ∧ Below w.heap.size w w' := by
  go_enter Tryd.func48, Tryd.ntmps48
  go_wp2
  all_goals go_ret
  all_goals exact ⟨by first | rfl | simp, (by repeat (first | exact Below.refl _ _ | with_reducible apply below_alloc | with_reducible refine Below.setCell ?_ (by dsimp only; omega) _))⟩

set_option maxHeartbeats 400000 in
theorem weightR_6 (w : World) : Calls Tryd.prog 13 #[.int .i64 6] w fun e w' => e = .returned (.int .i64 8) ∧ Below w.heap.size w w' := by
  go_enter Tryd.func13, Tryd.ntmps13
  have hk : known 6 = true := rfl
  go_wp2_with (go_at_call 11; refine (knownR _ _).mono ?_; rintro e w' ⟨rfl, rfl⟩)
  all_goals go_ret
  all_goals exact ⟨by first | rfl | simp, (by repeat (first | exact Below.refl _ _ | with_reducible apply below_alloc | with_reducible refine Below.setCell ?_ (by dsimp only; omega) _))⟩

set_option maxHeartbeats 400000 in
theorem writesR_6 (a b c n : Int) (w : World) : Calls Tryd.prog 17 #[.agg #[.int .i64 6, .int .i64 a, .int .i64 b, .int .i64 c, .int .i64 n]] w fun e w' => e = .returned (.int .i64 a) ∧ Below w.heap.size w w' := by
  go_enter Tryd.func17, Tryd.ntmps17
  go_wp2
  all_goals go_ret
  all_goals exact ⟨by first | rfl | simp, (by repeat (first | exact Below.refl _ _ | with_reducible apply below_alloc | with_reducible refine Below.setCell ?_ (by dsimp only; omega) _))⟩

set_option maxHeartbeats 400000 in
theorem targetR_6 (w : World) : Calls Tryd.prog 48 #[.int .i64 6] w fun e w' => e = .returned (.bool false) ∧ Below w.heap.size w w' := by
  go_enter Tryd.func48, Tryd.ntmps48
  go_wp2
  all_goals go_ret
  all_goals exact ⟨by first | rfl | simp, (by repeat (first | exact Below.refl _ _ | with_reducible apply below_alloc | with_reducible refine Below.setCell ?_ (by dsimp only; omega) _))⟩

set_option maxHeartbeats 400000 in
theorem weightR_7 (w : World) : Calls Tryd.prog 13 #[.int .i64 7] w fun e w' => e = .returned (.int .i64 8) ∧ Below w.heap.size w w' := by
  go_enter Tryd.func13, Tryd.ntmps13
  have hk : known 7 = true := rfl
  go_wp2_with (go_at_call 11; refine (knownR _ _).mono ?_; rintro e w' ⟨rfl, rfl⟩)
  all_goals go_ret
  all_goals exact ⟨by first | rfl | simp, (by repeat (first | exact Below.refl _ _ | with_reducible apply below_alloc | with_reducible refine Below.setCell ?_ (by dsimp only; omega) _))⟩

set_option maxHeartbeats 400000 in
theorem writesR_7 (a b c n : Int) (w : World) : Calls Tryd.prog 17 #[.agg #[.int .i64 7, .int .i64 a, .int .i64 b, .int .i64 c, .int .i64 n]] w fun e w' => e = .returned (.int .i64 a) ∧ Below w.heap.size w w' := by
  go_enter Tryd.func17, Tryd.ntmps17
  go_wp2
  all_goals go_ret
  all_goals exact ⟨by first | rfl | simp, (by repeat (first | exact Below.refl _ _ | with_reducible apply below_alloc | with_reducible refine Below.setCell ?_ (by dsimp only; omega) _))⟩

set_option maxHeartbeats 400000 in
theorem targetR_7 (w : World) : Calls Tryd.prog 48 #[.int .i64 7] w fun e w' => e = .returned (.bool false) ∧ Below w.heap.size w w' := by
  go_enter Tryd.func48, Tryd.ntmps48
  go_wp2
  all_goals go_ret
  all_goals exact ⟨by first | rfl | simp, (by repeat (first | exact Below.refl _ _ | with_reducible apply below_alloc | with_reducible refine Below.setCell ?_ (by dsimp only; omega) _))⟩

set_option maxHeartbeats 400000 in
theorem weightR_8 (w : World) : Calls Tryd.prog 13 #[.int .i64 8] w fun e w' => e = .returned (.int .i64 1) ∧ Below w.heap.size w w' := by
  go_enter Tryd.func13, Tryd.ntmps13
  have hk : known 8 = true := rfl
  go_wp2_with (go_at_call 11; refine (knownR _ _).mono ?_; rintro e w' ⟨rfl, rfl⟩)
  all_goals go_ret
  all_goals exact ⟨by first | rfl | simp, (by repeat (first | exact Below.refl _ _ | with_reducible apply below_alloc | with_reducible refine Below.setCell ?_ (by dsimp only; omega) _))⟩

set_option maxHeartbeats 400000 in
theorem writesR_8 (a b c n : Int) (w : World) : Calls Tryd.prog 17 #[.agg #[.int .i64 8, .int .i64 a, .int .i64 b, .int .i64 c, .int .i64 n]] w fun e w' => e = .returned (.int .i64 a) ∧ Below w.heap.size w w' := by
  go_enter Tryd.func17, Tryd.ntmps17
  go_wp2
  all_goals go_ret
  all_goals exact ⟨by first | rfl | simp, (by repeat (first | exact Below.refl _ _ | with_reducible apply below_alloc | with_reducible refine Below.setCell ?_ (by dsimp only; omega) _))⟩

set_option maxHeartbeats 400000 in
theorem targetR_8 (w : World) : Calls Tryd.prog 48 #[.int .i64 8] w fun e w' => e = .returned (.bool false) ∧ Below w.heap.size w w' := by
  go_enter Tryd.func48, Tryd.ntmps48
  go_wp2
  all_goals go_ret
  all_goals exact ⟨by first | rfl | simp, (by repeat (first | exact Below.refl _ _ | with_reducible apply below_alloc | with_reducible refine Below.setCell ?_ (by dsimp only; omega) _))⟩

set_option maxHeartbeats 400000 in
theorem weightR_9 (w : World) : Calls Tryd.prog 13 #[.int .i64 9] w fun e w' => e = .returned (.int .i64 1) ∧ Below w.heap.size w w' := by
  go_enter Tryd.func13, Tryd.ntmps13
  have hk : known 9 = true := rfl
  go_wp2_with (go_at_call 11; refine (knownR _ _).mono ?_; rintro e w' ⟨rfl, rfl⟩)
  all_goals go_ret
  all_goals exact ⟨by first | rfl | simp, (by repeat (first | exact Below.refl _ _ | with_reducible apply below_alloc | with_reducible refine Below.setCell ?_ (by dsimp only; omega) _))⟩

set_option maxHeartbeats 400000 in
theorem writesR_9 (a b c n : Int) (w : World) : Calls Tryd.prog 17 #[.agg #[.int .i64 9, .int .i64 a, .int .i64 b, .int .i64 c, .int .i64 n]] w fun e w' => e = .returned (.int .i64 a) ∧ Below w.heap.size w w' := by
  go_enter Tryd.func17, Tryd.ntmps17
  go_wp2
  all_goals go_ret
  all_goals exact ⟨by first | rfl | simp, (by repeat (first | exact Below.refl _ _ | with_reducible apply below_alloc | with_reducible refine Below.setCell ?_ (by dsimp only; omega) _))⟩

set_option maxHeartbeats 400000 in
theorem targetR_9 (w : World) : Calls Tryd.prog 48 #[.int .i64 9] w fun e w' => e = .returned (.bool false) ∧ Below w.heap.size w w' := by
  go_enter Tryd.func48, Tryd.ntmps48
  go_wp2
  all_goals go_ret
  all_goals exact ⟨by first | rfl | simp, (by repeat (first | exact Below.refl _ _ | with_reducible apply below_alloc | with_reducible refine Below.setCell ?_ (by dsimp only; omega) _))⟩

set_option maxHeartbeats 400000 in
theorem weightR_10 (w : World) : Calls Tryd.prog 13 #[.int .i64 10] w fun e w' => e = .returned (.int .i64 1) ∧ Below w.heap.size w w' := by
  go_enter Tryd.func13, Tryd.ntmps13
  have hk : known 10 = true := rfl
  go_wp2_with (go_at_call 11; refine (knownR _ _).mono ?_; rintro e w' ⟨rfl, rfl⟩)
  all_goals go_ret
  all_goals exact ⟨by first | rfl | simp, (by repeat (first | exact Below.refl _ _ | with_reducible apply below_alloc | with_reducible refine Below.setCell ?_ (by dsimp only; omega) _))⟩

set_option maxHeartbeats 400000 in
theorem writesR_10 (a b c n : Int) (w : World) : Calls Tryd.prog 17 #[.agg #[.int .i64 10, .int .i64 a, .int .i64 b, .int .i64 c, .int .i64 n]] w fun e w' => e = .returned (.int .i64 a) ∧ Below w.heap.size w w' := by
  go_enter Tryd.func17, Tryd.ntmps17
  go_wp2
  all_goals go_ret
  all_goals exact ⟨by first | rfl | simp, (by repeat (first | exact Below.refl _ _ | with_reducible apply below_alloc | with_reducible refine Below.setCell ?_ (by dsimp only; omega) _))⟩

set_option maxHeartbeats 400000 in
theorem targetR_10 (w : World) : Calls Tryd.prog 48 #[.int .i64 10] w fun e w' => e = .returned (.bool false) ∧ Below w.heap.size w w' := by
  go_enter Tryd.func48, Tryd.ntmps48
  go_wp2
  all_goals go_ret
  all_goals exact ⟨by first | rfl | simp, (by repeat (first | exact Below.refl _ _ | with_reducible apply below_alloc | with_reducible refine Below.setCell ?_ (by dsimp only; omega) _))⟩

set_option maxHeartbeats 400000 in
theorem weightR_11 (w : World) : Calls Tryd.prog 13 #[.int .i64 11] w fun e w' => e = .returned (.int .i64 2) ∧ Below w.heap.size w w' := by
  go_enter Tryd.func13, Tryd.ntmps13
  have hk : known 11 = true := rfl
  go_wp2_with (go_at_call 11; refine (knownR _ _).mono ?_; rintro e w' ⟨rfl, rfl⟩)
  all_goals go_ret
  all_goals exact ⟨by first | rfl | simp, (by repeat (first | exact Below.refl _ _ | with_reducible apply below_alloc | with_reducible refine Below.setCell ?_ (by dsimp only; omega) _))⟩

set_option maxHeartbeats 400000 in
theorem writesR_11 (a b c n : Int) (w : World) : Calls Tryd.prog 17 #[.agg #[.int .i64 11, .int .i64 a, .int .i64 b, .int .i64 c, .int .i64 n]] w fun e w' => e = .returned (.int .i64 a) ∧ Below w.heap.size w w' := by
  go_enter Tryd.func17, Tryd.ntmps17
  go_wp2
  all_goals go_ret
  all_goals exact ⟨by first | rfl | simp, (by repeat (first | exact Below.refl _ _ | with_reducible apply below_alloc | with_reducible refine Below.setCell ?_ (by dsimp only; omega) _))⟩

set_option maxHeartbeats 400000 in
theorem targetR_11 (w : World) : Calls Tryd.prog 48 #[.int .i64 11] w fun e w' => e = .returned (.bool false) ∧ Below w.heap.size w w' := by
  go_enter Tryd.func48, Tryd.ntmps48
  go_wp2
  all_goals go_ret
  all_goals exact ⟨by first | rfl | simp, (by repeat (first | exact Below.refl _ _ | with_reducible apply below_alloc | with_reducible refine Below.setCell ?_ (by dsimp only; omega) _))⟩

set_option maxHeartbeats 400000 in
theorem weightR_12 (w : World) : Calls Tryd.prog 13 #[.int .i64 12] w fun e w' => e = .returned (.int .i64 2) ∧ Below w.heap.size w w' := by
  go_enter Tryd.func13, Tryd.ntmps13
  have hk : known 12 = true := rfl
  go_wp2_with (go_at_call 11; refine (knownR _ _).mono ?_; rintro e w' ⟨rfl, rfl⟩)
  all_goals go_ret
  all_goals exact ⟨by first | rfl | simp, (by repeat (first | exact Below.refl _ _ | with_reducible apply below_alloc | with_reducible refine Below.setCell ?_ (by dsimp only; omega) _))⟩

set_option maxHeartbeats 400000 in
theorem writesR_12 (a b c n : Int) (w : World) : Calls Tryd.prog 17 #[.agg #[.int .i64 12, .int .i64 a, .int .i64 b, .int .i64 c, .int .i64 n]] w fun e w' => e = .returned (.int .i64 (-1)) ∧ Below w.heap.size w w' := by
  go_enter Tryd.func17, Tryd.ntmps17
  go_wp2
  all_goals go_ret
  all_goals exact ⟨by first | rfl | simp, (by repeat (first | exact Below.refl _ _ | with_reducible apply below_alloc | with_reducible refine Below.setCell ?_ (by dsimp only; omega) _))⟩

set_option maxHeartbeats 400000 in
theorem targetR_12 (w : World) : Calls Tryd.prog 48 #[.int .i64 12] w fun e w' => e = .returned (.bool false) ∧ Below w.heap.size w w' := by
  go_enter Tryd.func48, Tryd.ntmps48
  go_wp2
  all_goals go_ret
  all_goals exact ⟨by first | rfl | simp, (by repeat (first | exact Below.refl _ _ | with_reducible apply below_alloc | with_reducible refine Below.setCell ?_ (by dsimp only; omega) _))⟩

set_option maxHeartbeats 400000 in
theorem weightR_13 (w : World) : Calls Tryd.prog 13 #[.int .i64 13] w fun e w' => e = .returned (.int .i64 1) ∧ Below w.heap.size w w' := by
  go_enter Tryd.func13, Tryd.ntmps13
  have hk : known 13 = true := rfl
  go_wp2_with (go_at_call 11; refine (knownR _ _).mono ?_; rintro e w' ⟨rfl, rfl⟩)
  all_goals go_ret
  all_goals exact ⟨by first | rfl | simp, (by repeat (first | exact Below.refl _ _ | with_reducible apply below_alloc | with_reducible refine Below.setCell ?_ (by dsimp only; omega) _))⟩

set_option maxHeartbeats 400000 in
theorem writesR_13 (a b c n : Int) (w : World) : Calls Tryd.prog 17 #[.agg #[.int .i64 13, .int .i64 a, .int .i64 b, .int .i64 c, .int .i64 n]] w fun e w' => e = .returned (.int .i64 (-1)) ∧ Below w.heap.size w w' := by
  go_enter Tryd.func17, Tryd.ntmps17
  go_wp2
  all_goals go_ret
  all_goals exact ⟨by first | rfl | simp, (by repeat (first | exact Below.refl _ _ | with_reducible apply below_alloc | with_reducible refine Below.setCell ?_ (by dsimp only; omega) _))⟩

set_option maxHeartbeats 400000 in
theorem targetR_13 (w : World) : Calls Tryd.prog 48 #[.int .i64 13] w fun e w' => e = .returned (.bool false) ∧ Below w.heap.size w w' := by
  go_enter Tryd.func48, Tryd.ntmps48
  go_wp2
  all_goals go_ret
  all_goals exact ⟨by first | rfl | simp, (by repeat (first | exact Below.refl _ _ | with_reducible apply below_alloc | with_reducible refine Below.setCell ?_ (by dsimp only; omega) _))⟩

set_option maxHeartbeats 400000 in
theorem weightR_14 (w : World) : Calls Tryd.prog 13 #[.int .i64 14] w fun e w' => e = .returned (.int .i64 1) ∧ Below w.heap.size w w' := by
  go_enter Tryd.func13, Tryd.ntmps13
  have hk : known 14 = true := rfl
  go_wp2_with (go_at_call 11; refine (knownR _ _).mono ?_; rintro e w' ⟨rfl, rfl⟩)
  all_goals go_ret
  all_goals exact ⟨by first | rfl | simp, (by repeat (first | exact Below.refl _ _ | with_reducible apply below_alloc | with_reducible refine Below.setCell ?_ (by dsimp only; omega) _))⟩

set_option maxHeartbeats 400000 in
theorem writesR_14 (a b c n : Int) (w : World) : Calls Tryd.prog 17 #[.agg #[.int .i64 14, .int .i64 a, .int .i64 b, .int .i64 c, .int .i64 n]] w fun e w' => e = .returned (.int .i64 (-1)) ∧ Below w.heap.size w w' := by
  go_enter Tryd.func17, Tryd.ntmps17
  go_wp2
  all_goals go_ret
  all_goals exact ⟨by first | rfl | simp, (by repeat (first | exact Below.refl _ _ | with_reducible apply below_alloc | with_reducible refine Below.setCell ?_ (by dsimp only; omega) _))⟩

set_option maxHeartbeats 400000 in
theorem targetR_14 (w : World) : Calls Tryd.prog 48 #[.int .i64 14] w fun e w' => e = .returned (.bool true) ∧ Below w.heap.size w w' := by
  go_enter Tryd.func48, Tryd.ntmps48
  go_wp2
  all_goals go_ret
  all_goals exact ⟨by first | rfl | simp, (by repeat (first | exact Below.refl _ _ | with_reducible apply below_alloc | with_reducible refine Below.setCell ?_ (by dsimp only; omega) _))⟩

set_option maxHeartbeats 400000 in
theorem weightR_15 (w : World) : Calls Tryd.prog 13 #[.int .i64 15] w fun e w' => e = .returned (.int .i64 1) ∧ Below w.heap.size w w' := by
  go_enter Tryd.func13, Tryd.ntmps13
  have hk : known 15 = true := rfl
  go_wp2_with (go_at_call 11; refine (knownR _ _).mono ?_; rintro e w' ⟨rfl, rfl⟩)
  all_goals go_ret
  all_goals exact ⟨by first | rfl | simp, (by repeat (first | exact Below.refl _ _ | with_reducible apply below_alloc | with_reducible refine Below.setCell ?_ (by dsimp only; omega) _))⟩

set_option maxHeartbeats 400000 in
theorem writesR_15 (a b c n : Int) (w : World) : Calls Tryd.prog 17 #[.agg #[.int .i64 15, .int .i64 a, .int .i64 b, .int .i64 c, .int .i64 n]] w fun e w' => e = .returned (.int .i64 (-1)) ∧ Below w.heap.size w w' := by
  go_enter Tryd.func17, Tryd.ntmps17
  go_wp2
  all_goals go_ret
  all_goals exact ⟨by first | rfl | simp, (by repeat (first | exact Below.refl _ _ | with_reducible apply below_alloc | with_reducible refine Below.setCell ?_ (by dsimp only; omega) _))⟩

set_option maxHeartbeats 400000 in
theorem targetR_15 (w : World) : Calls Tryd.prog 48 #[.int .i64 15] w fun e w' => e = .returned (.bool true) ∧ Below w.heap.size w w' := by
  go_enter Tryd.func48, Tryd.ntmps48
  go_wp2
  all_goals go_ret
  all_goals exact ⟨by first | rfl | simp, (by repeat (first | exact Below.refl _ _ | with_reducible apply below_alloc | with_reducible refine Below.setCell ?_ (by dsimp only; omega) _))⟩

set_option maxHeartbeats 400000 in
theorem weightR_16 (w : World) : Calls Tryd.prog 13 #[.int .i64 16] w fun e w' => e = .returned (.int .i64 1) ∧ Below w.heap.size w w' := by
  go_enter Tryd.func13, Tryd.ntmps13
  have hk : known 16 = true := rfl
  go_wp2_with (go_at_call 11; refine (knownR _ _).mono ?_; rintro e w' ⟨rfl, rfl⟩)
  all_goals go_ret
  all_goals exact ⟨by first | rfl | simp, (by repeat (first | exact Below.refl _ _ | with_reducible apply below_alloc | with_reducible refine Below.setCell ?_ (by dsimp only; omega) _))⟩

set_option maxHeartbeats 400000 in
theorem writesR_16 (a b c n : Int) (w : World) : Calls Tryd.prog 17 #[.agg #[.int .i64 16, .int .i64 a, .int .i64 b, .int .i64 c, .int .i64 n]] w fun e w' => e = .returned (.int .i64 (-1)) ∧ Below w.heap.size w w' := by
  go_enter Tryd.func17, Tryd.ntmps17
  go_wp2
  all_goals go_ret
  all_goals exact ⟨by first | rfl | simp, (by repeat (first | exact Below.refl _ _ | with_reducible apply below_alloc | with_reducible refine Below.setCell ?_ (by dsimp only; omega) _))⟩

set_option maxHeartbeats 400000 in
theorem targetR_16 (w : World) : Calls Tryd.prog 48 #[.int .i64 16] w fun e w' => e = .returned (.bool true) ∧ Below w.heap.size w w' := by
  go_enter Tryd.func48, Tryd.ntmps48
  go_wp2
  all_goals go_ret
  all_goals exact ⟨by first | rfl | simp, (by repeat (first | exact Below.refl _ _ | with_reducible apply below_alloc | with_reducible refine Below.setCell ?_ (by dsimp only; omega) _))⟩

set_option maxHeartbeats 400000 in
theorem weightR_17 (w : World) : Calls Tryd.prog 13 #[.int .i64 17] w fun e w' => e = .returned (.int .i64 1) ∧ Below w.heap.size w w' := by
  go_enter Tryd.func13, Tryd.ntmps13
  have hk : known 17 = true := rfl
  go_wp2_with (go_at_call 11; refine (knownR _ _).mono ?_; rintro e w' ⟨rfl, rfl⟩)
  all_goals go_ret
  all_goals exact ⟨by first | rfl | simp, (by repeat (first | exact Below.refl _ _ | with_reducible apply below_alloc | with_reducible refine Below.setCell ?_ (by dsimp only; omega) _))⟩

set_option maxHeartbeats 400000 in
theorem writesR_17 (a b c n : Int) (w : World) : Calls Tryd.prog 17 #[.agg #[.int .i64 17, .int .i64 a, .int .i64 b, .int .i64 c, .int .i64 n]] w fun e w' => e = .returned (.int .i64 (-1)) ∧ Below w.heap.size w w' := by
  go_enter Tryd.func17, Tryd.ntmps17
  go_wp2
  all_goals go_ret
  all_goals exact ⟨by first | rfl | simp, (by repeat (first | exact Below.refl _ _ | with_reducible apply below_alloc | with_reducible refine Below.setCell ?_ (by dsimp only; omega) _))⟩

set_option maxHeartbeats 400000 in
theorem targetR_17 (w : World) : Calls Tryd.prog 48 #[.int .i64 17] w fun e w' => e = .returned (.bool true) ∧ Below w.heap.size w w' := by
  go_enter Tryd.func48, Tryd.ntmps48
  go_wp2
  all_goals go_ret
  all_goals exact ⟨by first | rfl | simp, (by repeat (first | exact Below.refl _ _ | with_reducible apply below_alloc | with_reducible refine Below.setCell ?_ (by dsimp only; omega) _))⟩

set_option maxHeartbeats 400000 in
theorem weightR_18 (w : World) : Calls Tryd.prog 13 #[.int .i64 18] w fun e w' => e = .returned (.int .i64 1) ∧ Below w.heap.size w w' := by
  go_enter Tryd.func13, Tryd.ntmps13
  have hk : known 18 = true := rfl
  go_wp2_with (go_at_call 11; refine (knownR _ _).mono ?_; rintro e w' ⟨rfl, rfl⟩)
  all_goals go_ret
  all_goals exact ⟨by first | rfl | simp, (by repeat (first | exact Below.refl _ _ | with_reducible apply below_alloc | with_reducible refine Below.setCell ?_ (by dsimp only; omega) _))⟩

set_option maxHeartbeats 400000 in
theorem writesR_18 (a b c n : Int) (w : World) : Calls Tryd.prog 17 #[.agg #[.int .i64 18, .int .i64 a, .int .i64 b, .int .i64 c, .int .i64 n]] w fun e w' => e = .returned (.int .i64 a) ∧ Below w.heap.size w w' := by
  go_enter Tryd.func17, Tryd.ntmps17
  go_wp2
  all_goals go_ret
  all_goals exact ⟨by first | rfl | simp, (by repeat (first | exact Below.refl _ _ | with_reducible apply below_alloc | with_reducible refine Below.setCell ?_ (by dsimp only; omega) _))⟩

set_option maxHeartbeats 400000 in
theorem targetR_18 (w : World) : Calls Tryd.prog 48 #[.int .i64 18] w fun e w' => e = .returned (.bool true) ∧ Below w.heap.size w w' := by
  go_enter Tryd.func48, Tryd.ntmps48
  go_wp2
  all_goals go_ret
  all_goals exact ⟨by first | rfl | simp, (by repeat (first | exact Below.refl _ _ | with_reducible apply below_alloc | with_reducible refine Below.setCell ?_ (by dsimp only; omega) _))⟩

set_option maxHeartbeats 400000 in
theorem weightR_19 (w : World) : Calls Tryd.prog 13 #[.int .i64 19] w fun e w' => e = .returned (.int .i64 4) ∧ Below w.heap.size w w' := by
  go_enter Tryd.func13, Tryd.ntmps13
  have hk : known 19 = true := rfl
  go_wp2_with (go_at_call 11; refine (knownR _ _).mono ?_; rintro e w' ⟨rfl, rfl⟩)
  all_goals go_ret
  all_goals exact ⟨by first | rfl | simp, (by repeat (first | exact Below.refl _ _ | with_reducible apply below_alloc | with_reducible refine Below.setCell ?_ (by dsimp only; omega) _))⟩

set_option maxHeartbeats 400000 in
theorem writesR_19 (a b c n : Int) (w : World) : Calls Tryd.prog 17 #[.agg #[.int .i64 19, .int .i64 a, .int .i64 b, .int .i64 c, .int .i64 n]] w fun e w' => e = .returned (.int .i64 a) ∧ Below w.heap.size w w' := by
  go_enter Tryd.func17, Tryd.ntmps17
  go_wp2
  all_goals go_ret
  all_goals exact ⟨by first | rfl | simp, (by repeat (first | exact Below.refl _ _ | with_reducible apply below_alloc | with_reducible refine Below.setCell ?_ (by dsimp only; omega) _))⟩

set_option maxHeartbeats 400000 in
theorem targetR_19 (w : World) : Calls Tryd.prog 48 #[.int .i64 19] w fun e w' => e = .returned (.bool false) ∧ Below w.heap.size w w' := by
  go_enter Tryd.func48, Tryd.ntmps48
  go_wp2
  all_goals go_ret
  all_goals exact ⟨by first | rfl | simp, (by repeat (first | exact Below.refl _ _ | with_reducible apply below_alloc | with_reducible refine Below.setCell ?_ (by dsimp only; omega) _))⟩

theorem hasR_k (op : Int) (h : known op = true) (w : World) : Calls Tryd.prog 46 #[.int .i64 op] w fun e w' => e = .returned (.agg #[.bool (row op.toNat).a, .bool (row op.toNat).b, .bool (row op.toNat).c, .bool (!decide ((row op.toNat).n = 0))]) ∧ Below w.heap.size w w' :=
  known_cases (P := fun op => Calls Tryd.prog 46 #[.int .i64 op] w fun e w' => e = .returned (.agg #[.bool (row op.toNat).a, .bool (row op.toNat).b, .bool (row op.toNat).c, .bool (!decide ((row op.toNat).n = 0))]) ∧ Below w.heap.size w w') h (hasR_0 w) (hasR_1 w) (hasR_2 w) (hasR_3 w) (hasR_4 w) (hasR_5 w) (hasR_6 w) (hasR_7 w) (hasR_8 w) (hasR_9 w) (hasR_10 w) (hasR_11 w) (hasR_12 w) (hasR_13 w) (hasR_14 w) (hasR_15 w) (hasR_16 w) (hasR_17 w) (hasR_18 w) (hasR_19 w)

theorem weightR_k (op : Int) (h : known op = true) (w : World) : Calls Tryd.prog 13 #[.int .i64 op] w fun e w' => e = .returned (.int .i64 (row op.toNat).weight) ∧ Below w.heap.size w w' :=
  known_cases (P := fun op => Calls Tryd.prog 13 #[.int .i64 op] w fun e w' => e = .returned (.int .i64 (row op.toNat).weight) ∧ Below w.heap.size w w') h (weightR_0 w) (weightR_1 w) (weightR_2 w) (weightR_3 w) (weightR_4 w) (weightR_5 w) (weightR_6 w) (weightR_7 w) (weightR_8 w) (weightR_9 w) (weightR_10 w) (weightR_11 w) (weightR_12 w) (weightR_13 w) (weightR_14 w) (weightR_15 w) (weightR_16 w) (weightR_17 w) (weightR_18 w) (weightR_19 w)

theorem writesR_k (op : Int) (a b c n : Int) (h : known op = true) (w : World) : Calls Tryd.prog 17 #[.agg #[.int .i64 op, .int .i64 a, .int .i64 b, .int .i64 c, .int .i64 n]] w fun e w' => e = .returned (.int .i64 (if (row op.toNat).wr = true then a else -1)) ∧ Below w.heap.size w w' :=
  known_cases (P := fun op => Calls Tryd.prog 17 #[.agg #[.int .i64 op, .int .i64 a, .int .i64 b, .int .i64 c, .int .i64 n]] w fun e w' => e = .returned (.int .i64 (if (row op.toNat).wr = true then a else -1)) ∧ Below w.heap.size w w') h (writesR_0 a b c n w) (writesR_1 a b c n w) (writesR_2 a b c n w) (writesR_3 a b c n w) (writesR_4 a b c n w) (writesR_5 a b c n w) (writesR_6 a b c n w) (writesR_7 a b c n w) (writesR_8 a b c n w) (writesR_9 a b c n w) (writesR_10 a b c n w) (writesR_11 a b c n w) (writesR_12 a b c n w) (writesR_13 a b c n w) (writesR_14 a b c n w) (writesR_15 a b c n w) (writesR_16 a b c n w) (writesR_17 a b c n w) (writesR_18 a b c n w) (writesR_19 a b c n w)

theorem targetR_k (op : Int) (h : known op = true) (w : World) : Calls Tryd.prog 48 #[.int .i64 op] w fun e w' => e = .returned (.bool (decide ((row op.toNat).n = 2))) ∧ Below w.heap.size w w' :=
  known_cases (P := fun op => Calls Tryd.prog 48 #[.int .i64 op] w fun e w' => e = .returned (.bool (decide ((row op.toNat).n = 2))) ∧ Below w.heap.size w w') h (targetR_0 w) (targetR_1 w) (targetR_2 w) (targetR_3 w) (targetR_4 w) (targetR_5 w) (targetR_6 w) (targetR_7 w) (targetR_8 w) (targetR_9 w) (targetR_10 w) (targetR_11 w) (targetR_12 w) (targetR_13 w) (targetR_14 w) (targetR_15 w) (targetR_16 w) (targetR_17 w) (targetR_18 w) (targetR_19 w)

set_option maxHeartbeats 400000 in
theorem weightR_no (op : Int) (hk : known op = false) (o5 : (op == 5) = false) (o6 : (op == 6) = false) (o7 : (op == 7) = false) (o11 : (op == 11) = false) (o12 : (op == 12) = false) (o19 : (op == 19) = false) (w : World) : Calls Tryd.prog 13 #[.int .i64 op] w fun e w' => e = .returned (.int .i64 0) ∧ Below w.heap.size w w' := by
  go_enter Tryd.func13, Tryd.ntmps13
  go_wp2_with (go_at_call 11; refine (knownR _ _).mono ?_; rintro e w' ⟨rfl, rfl⟩)
  all_goals go_ret
  all_goals exact ⟨by first | rfl | simp, (by repeat (first | exact Below.refl _ _ | with_reducible apply below_alloc | with_reducible refine Below.setCell ?_ (by dsimp only; omega) _))⟩

set_option maxHeartbeats 400000 in
theorem writesR_no (op a b c n : Int) (o1 : (op == 1) = false) (o2 : (op == 2) = false) (o3 : (op == 3) = false) (o4 : (op == 4) = false) (o5 : (op == 5) = false) (o6 : (op == 6) = false) (o7 : (op == 7) = false) (o8 : (op == 8) = false) (o9 : (op == 9) = false) (o10 : (op == 10) = false) (o11 : (op == 11) = false) (o18 : (op == 18) = false) (o19 : (op == 19) = false) (w : World) : Calls Tryd.prog 17 #[.agg #[.int .i64 op, .int .i64 a, .int .i64 b, .int .i64 c, .int .i64 n]] w fun e w' => e = .returned (.int .i64 (-1)) ∧ Below w.heap.size w w' := by
  go_enter Tryd.func17, Tryd.ntmps17
  go_wp2
  all_goals go_ret
  all_goals exact ⟨by first | rfl | simp, (by repeat (first | exact Below.refl _ _ | with_reducible apply below_alloc | with_reducible refine Below.setCell ?_ (by dsimp only; omega) _))⟩

theorem known_ne {op : Int} (h : known op = false) {k : Int} (h0 : 0 ≤ k) (h1 : k < 20) : (op == k) = false := by
  have := known_no h
  simp; omega
theorem weightR (op : Int) (w : World) : Calls Tryd.prog 13 #[.int .i64 op] w fun e w' => e = .returned (.int .i64 (weight op)) ∧ Below w.heap.size w w' := by
  cases h : known op
  · rw [show weight op = 0 from by simp [weight, h]]
    exact weightR_no op h (known_ne h (by decide) (by decide)) (known_ne h (by decide) (by decide)) (known_ne h (by decide) (by decide)) (known_ne h (by decide) (by decide)) (known_ne h (by decide) (by decide)) (known_ne h (by decide) (by decide)) w
  · rw [show weight op = (row op.toNat).weight from by simp [weight, h]]
    exact weightR_k op h w
theorem writesR (op a b c n : Int) (w : World) : Calls Tryd.prog 17 #[.agg #[.int .i64 op, .int .i64 a, .int .i64 b, .int .i64 c, .int .i64 n]] w fun e w' => e = .returned (.int .i64 (writes op a)) ∧ Below w.heap.size w w' := by
  cases h : known op
  · rw [show writes op a = -1 from by simp [writes, h]]
    exact writesR_no op a b c n (known_ne h (by decide) (by decide)) (known_ne h (by decide) (by decide)) (known_ne h (by decide) (by decide)) (known_ne h (by decide) (by decide)) (known_ne h (by decide) (by decide)) (known_ne h (by decide) (by decide)) (known_ne h (by decide) (by decide)) (known_ne h (by decide) (by decide)) (known_ne h (by decide) (by decide)) (known_ne h (by decide) (by decide)) (known_ne h (by decide) (by decide)) (known_ne h (by decide) (by decide)) (known_ne h (by decide) (by decide)) w
  · rw [show writes op a = (if (row op.toNat).wr = true then a else -1) from by simp [writes, h]]
    exact writesR_k op a b c n h w

set_option maxHeartbeats 400000 in
theorem registerR_1 (has : Bool) (r regs : Int) (h1 : has = false) (h2 : (r == 0) = true) (w : World) : Calls Tryd.prog 47 #[.bool has, .int .i64 r, .int .i64 regs] w fun e w' => e = .returned (.int .i64 0) ∧ Below w.heap.size w w' := by
  go_enter Tryd.func47, Tryd.ntmps47
  subst h1
  have h3 : (r != 0) = false := by simpa using h2
  go_wp2
  all_goals go_ret
  all_goals exact ⟨by first | rfl | simp, (by repeat (first | exact Below.refl _ _ | with_reducible apply below_alloc | with_reducible refine Below.setCell ?_ (by dsimp only; omega) _))⟩

set_option maxHeartbeats 400000 in
theorem registerR_2 (has : Bool) (r regs : Int) (h1 : has = false) (h2 : (r == 0) = false) (w : World) : Calls Tryd.prog 47 #[.bool has, .int .i64 r, .int .i64 regs] w fun e w' => e = .returned (.int .i64 62) ∧ Below w.heap.size w w' := by
  go_enter Tryd.func47, Tryd.ntmps47
  subst h1
  have h3 : (r != 0) = true := by simpa using h2
  go_wp2
  all_goals go_ret
  all_goals exact ⟨by first | rfl | simp, (by repeat (first | exact Below.refl _ _ | with_reducible apply below_alloc | with_reducible refine Below.setCell ?_ (by dsimp only; omega) _))⟩

set_option maxHeartbeats 400000 in
theorem registerR_3 (has : Bool) (r regs : Int) (h1 : has = true) (h2 : decide (r < 0) = true) (w : World) : Calls Tryd.prog 47 #[.bool has, .int .i64 r, .int .i64 regs] w fun e w' => e = .returned (.int .i64 61) ∧ Below w.heap.size w w' := by
  go_enter Tryd.func47, Tryd.ntmps47
  subst h1
  go_wp2
  all_goals go_ret
  all_goals exact ⟨by first | rfl | simp, (by repeat (first | exact Below.refl _ _ | with_reducible apply below_alloc | with_reducible refine Below.setCell ?_ (by dsimp only; omega) _))⟩

set_option maxHeartbeats 400000 in
theorem registerR_4 (has : Bool) (r regs : Int) (h1 : has = true) (h2 : decide (r < 0) = false) (h3 : decide (regs ≤ r) = true) (w : World) : Calls Tryd.prog 47 #[.bool has, .int .i64 r, .int .i64 regs] w fun e w' => e = .returned (.int .i64 61) ∧ Below w.heap.size w w' := by
  go_enter Tryd.func47, Tryd.ntmps47
  subst h1
  go_wp2
  all_goals go_ret
  all_goals exact ⟨by first | rfl | simp, (by repeat (first | exact Below.refl _ _ | with_reducible apply below_alloc | with_reducible refine Below.setCell ?_ (by dsimp only; omega) _))⟩

set_option maxHeartbeats 400000 in
theorem registerR_5 (has : Bool) (r regs : Int) (h1 : has = true) (h2 : decide (r < 0) = false) (h3 : decide (regs ≤ r) = false) (w : World) : Calls Tryd.prog 47 #[.bool has, .int .i64 r, .int .i64 regs] w fun e w' => e = .returned (.int .i64 0) ∧ Below w.heap.size w w' := by
  go_enter Tryd.func47, Tryd.ntmps47
  subst h1
  go_wp2
  all_goals go_ret
  all_goals exact ⟨by first | rfl | simp, (by repeat (first | exact Below.refl _ _ | with_reducible apply below_alloc | with_reducible refine Below.setCell ?_ (by dsimp only; omega) _))⟩

theorem registerR (has : Bool) (r regs : Int) (w : World) : Calls Tryd.prog 47 #[.bool has, .int .i64 r, .int .i64 regs] w fun e w' => e = .returned (.int .i64 (fldErr has r regs)) ∧ Below w.heap.size w w' := by
  rcases fldErr_cases has r regs with ⟨g1, g2, g0⟩ | ⟨g1, g2, g0⟩ | ⟨g1, g2, g0⟩ | ⟨g1, g2, g3, g0⟩ | ⟨g1, g2, g3, g0⟩ <;> rw [g0]
  · exact registerR_1 has r regs g1 (by simpa using g2) w
  · exact registerR_2 has r regs g1 (by simpa using g2) w
  · exact registerR_3 has r regs g1 (by simpa using g2) w
  · exact registerR_4 has r regs g1 (by simpa using g2) (by simpa using g3) w
  · exact registerR_5 has r regs g1 (by simpa using g2) (by simpa using g3) w
end Go.Proofs.YtpmffclepnkedaaDoor
