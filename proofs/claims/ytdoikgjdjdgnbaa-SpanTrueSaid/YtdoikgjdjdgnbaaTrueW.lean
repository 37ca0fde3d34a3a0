/-
  SpanTrue: the machine's value is in what Do tells: the walks.
-/
import Derived.Test.YtdoikgjdjdgnbaaFixed
import Derived.Test.YtdoikgjdjdgnbaaDoJ
import Derived.Test.YtdoikgjdjdgnbaaOpR
import Derived.Test.YtdoikgjdjdgnbaaKeep
import Derived.Test.YtdoikgjdjdgnbaaOpen
namespace Go.Proofs.Ytdoikgjdjdgnbaa
open Go.RowKit
set_option linter.unusedSimpArgs false
set_option linter.unusedVariables false
attribute [local go_sem ↓] Go.wp_at_zero Go.wp_at_succ

set_option maxRecDepth 100000 in
set_option maxHeartbeats 1000000 in
theorem trueW_a (op : Int) (a b : Sp) (ha : a.Wf) (hb : b.Wf) (x y : Int) (h : x < a.lo) (w : World) : Calls Try.prog 7 #[.int .i64 op, .agg #[.int .i64 a.lo, .int .i64 a.hi], .agg #[.int .i64 b.lo, .int .i64 b.hi], .int .i64 x, .int .i64 y] w fun e w' => e = .returned (.bool true) ∧ Below w.heap.size w w' := by
  go_enter Try.func7, Try.ntmps7
  go_wp2_with (first
    | (go_at_call 13; with_reducible refine (fixedL _).mono ?_; rintro e w1 ⟨rfl, hb1⟩; obtain ⟨hcc1, hff1⟩ := bcell hb1; have hs1 := hb1.size; (try simp at hs1); have l0_1 : w.heap.size < w1.heap.size := (by omega); have l1_1 : w.heap.size + 1 < w1.heap.size := (by omega))
    | (go_at_call 28; with_reducible refine (opR op x y _).mono ?_; rintro e w2 ⟨rfl, rfl⟩)
    | (go_at_call 22; with_reducible refine (doP op a b ha hb _).mono ?_; rintro e w3 ⟨rfl, hb3⟩; obtain ⟨hcc3, hff3⟩ := bcell hb3; have hs3 := hb3.size; (try simp at hs3); have l0_3 : w.heap.size < w3.heap.size := (by omega); have l1_3 : w.heap.size + 1 < w3.heap.size := (by omega)))
  all_goals go_ret
  all_goals refine ⟨by simp, ?_⟩
  all_goals go_light
  all_goals exact (by repeat (first | exact Below.refl _ _ | with_reducible apply Below.drew | with_reducible apply below_alloc | with_reducible refine Below.setCell ?_ (by dsimp only; omega) _ | with_reducible refine below_step ?_ hb3 | with_reducible refine below_step ?_ hb2 | with_reducible refine below_step ?_ hb1))

set_option maxRecDepth 100000 in
set_option maxHeartbeats 1000000 in
theorem trueW_b (op : Int) (a b : Sp) (ha : a.Wf) (hb : b.Wf) (x y : Int) (h1 : a.lo ≤ x) (h : a.hi < x) (w : World) : Calls Try.prog 7 #[.int .i64 op, .agg #[.int .i64 a.lo, .int .i64 a.hi], .agg #[.int .i64 b.lo, .int .i64 b.hi], .int .i64 x, .int .i64 y] w fun e w' => e = .returned (.bool true) ∧ Below w.heap.size w w' := by
  go_enter Try.func7, Try.ntmps7
  go_wp2_with (first
    | (go_at_call 13; with_reducible refine (fixedL _).mono ?_; rintro e w1 ⟨rfl, hb1⟩; obtain ⟨hcc1, hff1⟩ := bcell hb1; have hs1 := hb1.size; (try simp at hs1); have l0_1 : w.heap.size < w1.heap.size := (by omega); have l1_1 : w.heap.size + 1 < w1.heap.size := (by omega))
    | (go_at_call 28; with_reducible refine (opR op x y _).mono ?_; rintro e w2 ⟨rfl, rfl⟩)
    | (go_at_call 22; with_reducible refine (doP op a b ha hb _).mono ?_; rintro e w3 ⟨rfl, hb3⟩; obtain ⟨hcc3, hff3⟩ := bcell hb3; have hs3 := hb3.size; (try simp at hs3); have l0_3 : w.heap.size < w3.heap.size := (by omega); have l1_3 : w.heap.size + 1 < w3.heap.size := (by omega)))
  all_goals go_ret
  all_goals refine ⟨by simp, ?_⟩
  all_goals go_light
  all_goals exact (by repeat (first | exact Below.refl _ _ | with_reducible apply Below.drew | with_reducible apply below_alloc | with_reducible refine Below.setCell ?_ (by dsimp only; omega) _ | with_reducible refine below_step ?_ hb3 | with_reducible refine below_step ?_ hb2 | with_reducible refine below_step ?_ hb1))

set_option maxRecDepth 100000 in
set_option maxHeartbeats 1000000 in
theorem trueW_c (op : Int) (a b : Sp) (ha : a.Wf) (hb : b.Wf) (x y : Int) (h1 : a.lo ≤ x) (h2 : x ≤ a.hi) (o : (op != 10) = true) (h : y < b.lo) (w : World) : Calls Try.prog 7 #[.int .i64 op, .agg #[.int .i64 a.lo, .int .i64 a.hi], .agg #[.int .i64 b.lo, .int .i64 b.hi], .int .i64 x, .int .i64 y] w fun e w' => e = .returned (.bool true) ∧ Below w.heap.size w w' := by
  go_enter Try.func7, Try.ntmps7
  go_wp2_with (first
    | (go_at_call 13; with_reducible refine (fixedL _).mono ?_; rintro e w1 ⟨rfl, hb1⟩; obtain ⟨hcc1, hff1⟩ := bcell hb1; have hs1 := hb1.size; (try simp at hs1); have l0_1 : w.heap.size < w1.heap.size := (by omega); have l1_1 : w.heap.size + 1 < w1.heap.size := (by omega))
    | (go_at_call 28; with_reducible refine (opR op x y _).mono ?_; rintro e w2 ⟨rfl, rfl⟩)
    | (go_at_call 22; with_reducible refine (doP op a b ha hb _).mono ?_; rintro e w3 ⟨rfl, hb3⟩; obtain ⟨hcc3, hff3⟩ := bcell hb3; have hs3 := hb3.size; (try simp at hs3); have l0_3 : w.heap.size < w3.heap.size := (by omega); have l1_3 : w.heap.size + 1 < w3.heap.size := (by omega)))
  all_goals go_ret
  all_goals refine ⟨by simp, ?_⟩
  all_goals go_light
  all_goals exact (by repeat (first | exact Below.refl _ _ | with_reducible apply Below.drew | with_reducible apply below_alloc | with_reducible refine Below.setCell ?_ (by dsimp only; omega) _ | with_reducible refine below_step ?_ hb3 | with_reducible refine below_step ?_ hb2 | with_reducible refine below_step ?_ hb1))

set_option maxRecDepth 100000 in
set_option maxHeartbeats 1000000 in
theorem trueW_d (op : Int) (a b : Sp) (ha : a.Wf) (hb : b.Wf) (x y : Int) (h1 : a.lo ≤ x) (h2 : x ≤ a.hi) (o : (op != 10) = true) (h3 : b.lo ≤ y) (h : b.hi < y) (w : World) : Calls Try.prog 7 #[.int .i64 op, .agg #[.int .i64 a.lo, .int .i64 a.hi], .agg #[.int .i64 b.lo, .int .i64 b.hi], .int .i64 x, .int .i64 y] w fun e w' => e = .returned (.bool true) ∧ Below w.heap.size w w' := by
  go_enter Try.func7, Try.ntmps7
  go_wp2_with (first
    | (go_at_call 13; with_reducible refine (fixedL _).mono ?_; rintro e w1 ⟨rfl, hb1⟩; obtain ⟨hcc1, hff1⟩ := bcell hb1; have hs1 := hb1.size; (try simp at hs1); have l0_1 : w.heap.size < w1.heap.size := (by omega); have l1_1 : w.heap.size + 1 < w1.heap.size := (by omega))
    | (go_at_call 28; with_reducible refine (opR op x y _).mono ?_; rintro e w2 ⟨rfl, rfl⟩)
    | (go_at_call 22; with_reducible refine (doP op a b ha hb _).mono ?_; rintro e w3 ⟨rfl, hb3⟩; obtain ⟨hcc3, hff3⟩ := bcell hb3; have hs3 := hb3.size; (try simp at hs3); have l0_3 : w.heap.size < w3.heap.size := (by omega); have l1_3 : w.heap.size + 1 < w3.heap.size := (by omega)))
  all_goals go_ret
  all_goals refine ⟨by simp, ?_⟩
  all_goals go_light
  all_goals exact (by repeat (first | exact Below.refl _ _ | with_reducible apply Below.drew | with_reducible apply below_alloc | with_reducible refine Below.setCell ?_ (by dsimp only; omega) _ | with_reducible refine below_step ?_ hb3 | with_reducible refine below_step ?_ hb2 | with_reducible refine below_step ?_ hb1))

set_option maxRecDepth 100000 in
set_option maxHeartbeats 1000000 in
theorem trueW_e (op : Int) (a b : Sp) (ha : a.Wf) (hb : b.Wf) (x y : Int) (h1 : a.lo ≤ x) (h2 : x ≤ a.hi) (o : (op != 10) = true) (h3 : b.lo ≤ y) (h : y ≤ b.hi) (k : opOk op y = false) (w : World) : Calls Try.prog 7 #[.int .i64 op, .agg #[.int .i64 a.lo, .int .i64 a.hi], .agg #[.int .i64 b.lo, .int .i64 b.hi], .int .i64 x, .int .i64 y] w fun e w' => e = .returned (.bool true) ∧ Below w.heap.size w w' := by
  go_enter Try.func7, Try.ntmps7
  go_wp2_with (first
    | (go_at_call 13; with_reducible refine (fixedL _).mono ?_; rintro e w1 ⟨rfl, hb1⟩; obtain ⟨hcc1, hff1⟩ := bcell hb1; have hs1 := hb1.size; (try simp at hs1); have l0_1 : w.heap.size < w1.heap.size := (by omega); have l1_1 : w.heap.size + 1 < w1.heap.size := (by omega))
    | (go_at_call 28; with_reducible refine (opR op x y _).mono ?_; rintro e w2 ⟨rfl, rfl⟩)
    | (go_at_call 22; with_reducible refine (doP op a b ha hb _).mono ?_; rintro e w3 ⟨rfl, hb3⟩; obtain ⟨hcc3, hff3⟩ := bcell hb3; have hs3 := hb3.size; (try simp at hs3); have l0_3 : w.heap.size < w3.heap.size := (by omega); have l1_3 : w.heap.size + 1 < w3.heap.size := (by omega)))
  all_goals go_ret
  all_goals refine ⟨by simp, ?_⟩
  all_goals go_light
  all_goals exact (by repeat (first | exact Below.refl _ _ | with_reducible apply Below.drew | with_reducible apply below_alloc | with_reducible refine Below.setCell ?_ (by dsimp only; omega) _ | with_reducible refine below_step ?_ hb3 | with_reducible refine below_step ?_ hb2 | with_reducible refine below_step ?_ hb1))

set_option maxRecDepth 100000 in
set_option maxHeartbeats 1000000 in
theorem trueW_f (op : Int) (a b : Sp) (ha : a.Wf) (hb : b.Wf) (x y : Int) (h1 : a.lo ≤ x) (h2 : x ≤ a.hi) (o : (op != 10) = true) (h3 : b.lo ≤ y) (h : y ≤ b.hi) (k : opOk op y = true) (k1 : doOk op a b = true) (k2 : (doSp op a b).lo ≤ opV op x y) (k3 : opV op x y ≤ (doSp op a b).hi) (w : World) : Calls Try.prog 7 #[.int .i64 op, .agg #[.int .i64 a.lo, .int .i64 a.hi], .agg #[.int .i64 b.lo, .int .i64 b.hi], .int .i64 x, .int .i64 y] w fun e w' => e = .returned (.bool true) ∧ Below w.heap.size w w' := by
  go_enter Try.func7, Try.ntmps7
  go_wp2_with (first
    | (go_at_call 13; with_reducible refine (fixedL _).mono ?_; rintro e w1 ⟨rfl, hb1⟩; obtain ⟨hcc1, hff1⟩ := bcell hb1; have hs1 := hb1.size; (try simp at hs1); have l0_1 : w.heap.size < w1.heap.size := (by omega); have l1_1 : w.heap.size + 1 < w1.heap.size := (by omega))
    | (go_at_call 28; with_reducible refine (opR op x y _).mono ?_; rintro e w2 ⟨rfl, rfl⟩)
    | (go_at_call 22; with_reducible refine (doP op a b ha hb _).mono ?_; rintro e w3 ⟨rfl, hb3⟩; obtain ⟨hcc3, hff3⟩ := bcell hb3; have hs3 := hb3.size; (try simp at hs3); have l0_3 : w.heap.size < w3.heap.size := (by omega); have l1_3 : w.heap.size + 1 < w3.heap.size := (by omega)))
  all_goals go_ret
  all_goals refine ⟨by simp, ?_⟩
  all_goals go_light
  all_goals exact (by repeat (first | exact Below.refl _ _ | with_reducible apply Below.drew | with_reducible apply below_alloc | with_reducible refine Below.setCell ?_ (by dsimp only; omega) _ | with_reducible refine below_step ?_ hb3 | with_reducible refine below_step ?_ hb2 | with_reducible refine below_step ?_ hb1))

set_option maxRecDepth 100000 in
set_option maxHeartbeats 1000000 in
theorem trueW_g (op : Int) (a b : Sp) (ha : a.Wf) (hb : b.Wf) (x y : Int) (h1 : a.lo ≤ x) (h2 : x ≤ a.hi) (o : (op != 10) = false) (k : opOk op y = true) (k1 : doOk op a b = true) (k2 : (doSp op a b).lo ≤ opV op x y) (k3 : opV op x y ≤ (doSp op a b).hi) (w : World) : Calls Try.prog 7 #[.int .i64 op, .agg #[.int .i64 a.lo, .int .i64 a.hi], .agg #[.int .i64 b.lo, .int .i64 b.hi], .int .i64 x, .int .i64 y] w fun e w' => e = .returned (.bool true) ∧ Below w.heap.size w w' := by
  go_enter Try.func7, Try.ntmps7
  go_wp2_with (first
    | (go_at_call 13; with_reducible refine (fixedL _).mono ?_; rintro e w1 ⟨rfl, hb1⟩; obtain ⟨hcc1, hff1⟩ := bcell hb1; have hs1 := hb1.size; (try simp at hs1); have l0_1 : w.heap.size < w1.heap.size := (by omega); have l1_1 : w.heap.size + 1 < w1.heap.size := (by omega))
    | (go_at_call 28; with_reducible refine (opR op x y _).mono ?_; rintro e w2 ⟨rfl, rfl⟩)
    | (go_at_call 22; with_reducible refine (doP op a b ha hb _).mono ?_; rintro e w3 ⟨rfl, hb3⟩; obtain ⟨hcc3, hff3⟩ := bcell hb3; have hs3 := hb3.size; (try simp at hs3); have l0_3 : w.heap.size < w3.heap.size := (by omega); have l1_3 : w.heap.size + 1 < w3.heap.size := (by omega)))
  all_goals go_ret
  all_goals refine ⟨by simp, ?_⟩
  all_goals go_light
  all_goals exact (by repeat (first | exact Below.refl _ _ | with_reducible apply Below.drew | with_reducible apply below_alloc | with_reducible refine Below.setCell ?_ (by dsimp only; omega) _ | with_reducible refine below_step ?_ hb3 | with_reducible refine below_step ?_ hb2 | with_reducible refine below_step ?_ hb1))

end Go.Proofs.Ytdoikgjdjdgnbaa

