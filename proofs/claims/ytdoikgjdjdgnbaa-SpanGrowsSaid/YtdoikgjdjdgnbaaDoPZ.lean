/-
  Layer 8 (span): the walks of span.Do, one for each operation and case.
-/
import Derived.Test.YtdoikgjdjdgnbaaPlainO
import Derived.Test.YtdoikgjdjdgnbaaSpanC
import Derived.Test.YtdoikgjdjdgnbaaDivP
import Derived.Test.YtdoikgjdjdgnbaaKeep
namespace Go.Proofs.Ytdoikgjdjdgnbaa
open Go.RowKit
set_option linter.unusedSimpArgs false
set_option linter.unusedVariables false
set_option maxRecDepth 100000
attribute [local go_sem ↓] Go.wp_at_zero Go.wp_at_succ

set_option maxHeartbeats 1000000 in
theorem doMul_p (a b : Sp) (n1 : a.lo ≤ a.hi) (n2 : b.lo ≤ b.hi) (hc : (a.lo == a.hi) = true) (hd : (b.lo == b.hi) = true) (w : World) : Calls Try.prog 22 #[.int .i64 5, .agg #[.int .i64 a.lo, .int .i64 a.hi], .agg #[.int .i64 b.lo, .int .i64 b.hi]] w fun e w' => e = .returned (.tuple #[.agg #[.int .i64 (Sp.mk (wrap64 (a.lo * b.lo)) (wrap64 (a.lo * b.lo))).lo, .int .i64 (Sp.mk (wrap64 (a.lo * b.lo)) (wrap64 (a.lo * b.lo))).hi], .bool true]) ∧ Below w.heap.size w w' := by
  go_enter Try.func22, Try.ntmps22
  go_wp2_with (first
  | (go_at_call 31; go_in))
  all_goals (try simp only [Exit.inBlock, Exit.then])
  all_goals refine ret_of ?_ rfl
  all_goals simp [results, Try.results22, go_sem, ltS, notS, *]
  all_goals go_light
  all_goals (repeat (first | exact Below.refl _ _ | with_reducible apply below_alloc | with_reducible apply Below.drew | with_reducible refine Below.setCell ?_ (by dsimp only; omega) _ | with_reducible refine below_step ?_ hb1))

set_option maxHeartbeats 1000000 in
theorem doNone_a (a b : Sp) (op : Int) (n1 : a.hi < a.lo) (w : World) : Calls Try.prog 22 #[.int .i64 op, .agg #[.int .i64 a.lo, .int .i64 a.hi], .agg #[.int .i64 b.lo, .int .i64 b.hi]] w fun e w' => e = .returned (.tuple #[.agg #[.int .i64 (Sp.mk 0 0).lo, .int .i64 (Sp.mk 0 0).hi], .bool false]) ∧ Below w.heap.size w w' := by
  go_enter Try.func22, Try.ntmps22
  go_wp2_with (first
  | (go_at_call 31; go_in))
  all_goals (try simp only [Exit.inBlock, Exit.then])
  all_goals refine ret_of ?_ rfl
  all_goals simp [results, Try.results22, go_sem, ltS, notS, *]
  all_goals go_light
  all_goals (repeat (first | exact Below.refl _ _ | with_reducible apply below_alloc | with_reducible apply Below.drew | with_reducible refine Below.setCell ?_ (by dsimp only; omega) _ | with_reducible refine below_step ?_ hb1))

set_option maxHeartbeats 1000000 in
theorem doNone_b (a b : Sp) (op : Int) (o10 : (op == 10) = false) (p10 : (op != 10) = true) (n1 : a.lo ≤ a.hi) (n2 : b.hi < b.lo) (w : World) : Calls Try.prog 22 #[.int .i64 op, .agg #[.int .i64 a.lo, .int .i64 a.hi], .agg #[.int .i64 b.lo, .int .i64 b.hi]] w fun e w' => e = .returned (.tuple #[.agg #[.int .i64 (Sp.mk 0 0).lo, .int .i64 (Sp.mk 0 0).hi], .bool false]) ∧ Below w.heap.size w w' := by
  go_enter Try.func22, Try.ntmps22
  go_wp2_with (first
  | (go_at_call 31; go_in))
  all_goals (try simp only [Exit.inBlock, Exit.then])
  all_goals refine ret_of ?_ rfl
  all_goals simp [results, Try.results22, go_sem, ltS, notS, *]
  all_goals go_light
  all_goals (repeat (first | exact Below.refl _ _ | with_reducible apply below_alloc | with_reducible apply Below.drew | with_reducible refine Below.setCell ?_ (by dsimp only; omega) _ | with_reducible refine below_step ?_ hb1))

set_option maxHeartbeats 1000000 in
theorem doOther_p (a b : Sp) (op : Int) (o3 : (op == 3) = false) (o4 : (op == 4) = false) (o5 : (op == 5) = false) (o6 : (op == 6) = false) (o7 : (op == 7) = false) (o8 : (op == 8) = false) (o9 : (op == 9) = false) (o10 : (op == 10) = false) (p10 : (op != 10) = true) (n1 : a.lo ≤ a.hi) (n2 : b.lo ≤ b.hi) (hc : (a.lo == a.hi) = true) (hd : (b.lo == b.hi) = true) (w : World) : Calls Try.prog 22 #[.int .i64 op, .agg #[.int .i64 a.lo, .int .i64 a.hi], .agg #[.int .i64 b.lo, .int .i64 b.hi]] w fun e w' => e = .returned (.tuple #[.agg #[.int .i64 (Sp.mk 0 0).lo, .int .i64 (Sp.mk 0 0).hi], .bool false]) ∧ Below w.heap.size w w' := by
  go_enter Try.func22, Try.ntmps22
  go_wp2_with (first
  | (go_at_call 31; go_in))
  all_goals (try simp only [Exit.inBlock, Exit.then])
  all_goals refine ret_of ?_ rfl
  all_goals simp [results, Try.results22, go_sem, ltS, notS, *]
  all_goals go_light
  all_goals (repeat (first | exact Below.refl _ _ | with_reducible apply below_alloc | with_reducible apply Below.drew | with_reducible refine Below.setCell ?_ (by dsimp only; omega) _ | with_reducible refine below_step ?_ hb1))

set_option maxHeartbeats 1000000 in
theorem doOther_q (a b : Sp) (op : Int) (o3 : (op == 3) = false) (o4 : (op == 4) = false) (o5 : (op == 5) = false) (o6 : (op == 6) = false) (o7 : (op == 7) = false) (o8 : (op == 8) = false) (o9 : (op == 9) = false) (o10 : (op == 10) = false) (p10 : (op != 10) = true) (n1 : a.lo ≤ a.hi) (n2 : b.lo ≤ b.hi) (hc : (a.lo == a.hi) = true) (hd : (b.lo == b.hi) = false) (w : World) : Calls Try.prog 22 #[.int .i64 op, .agg #[.int .i64 a.lo, .int .i64 a.hi], .agg #[.int .i64 b.lo, .int .i64 b.hi]] w fun e w' => e = .returned (.tuple #[.agg #[.int .i64 (Sp.mk 0 0).lo, .int .i64 (Sp.mk 0 0).hi], .bool false]) ∧ Below w.heap.size w w' := by
  go_enter Try.func22, Try.ntmps22
  go_wp2_with (first
  | (go_at_call 31; go_in))
  all_goals (try simp only [Exit.inBlock, Exit.then])
  all_goals refine ret_of ?_ rfl
  all_goals simp [results, Try.results22, go_sem, ltS, notS, *]
  all_goals go_light
  all_goals (repeat (first | exact Below.refl _ _ | with_reducible apply below_alloc | with_reducible apply Below.drew | with_reducible refine Below.setCell ?_ (by dsimp only; omega) _ | with_reducible refine below_step ?_ hb1))

set_option maxHeartbeats 1000000 in
theorem doOther_r (a b : Sp) (op : Int) (o3 : (op == 3) = false) (o4 : (op == 4) = false) (o5 : (op == 5) = false) (o6 : (op == 6) = false) (o7 : (op == 7) = false) (o8 : (op == 8) = false) (o9 : (op == 9) = false) (o10 : (op == 10) = false) (p10 : (op != 10) = true) (n1 : a.lo ≤ a.hi) (n2 : b.lo ≤ b.hi) (hc : (a.lo == a.hi) = false) (w : World) : Calls Try.prog 22 #[.int .i64 op, .agg #[.int .i64 a.lo, .int .i64 a.hi], .agg #[.int .i64 b.lo, .int .i64 b.hi]] w fun e w' => e = .returned (.tuple #[.agg #[.int .i64 (Sp.mk 0 0).lo, .int .i64 (Sp.mk 0 0).hi], .bool false]) ∧ Below w.heap.size w w' := by
  go_enter Try.func22, Try.ntmps22
  go_wp2_with (first
  | (go_at_call 31; go_in))
  all_goals (try simp only [Exit.inBlock, Exit.then])
  all_goals refine ret_of ?_ rfl
  all_goals simp [results, Try.results22, go_sem, ltS, notS, *]
  all_goals go_light
  all_goals (repeat (first | exact Below.refl _ _ | with_reducible apply below_alloc | with_reducible apply Below.drew | with_reducible refine Below.setCell ?_ (by dsimp only; omega) _ | with_reducible refine below_step ?_ hb1))

end Go.Proofs.Ytdoikgjdjdgnbaa
