/-
  Layer 8 (span): the walks of span.Do, one for each operation and case.
-/
import Derived.Test.YtdoikgjdjdgnbaaPlainO
import Derived.Test.YtdoikgjdjdgnbaaSpanC
import Derived.Test.YtdoikgjdjdgnbaaDivP
import Derived.Test.YtdoikgjdjdgnbaaKeep
namespace Go.Proofs.Ytdoikgjdjdgnbaa
open Go.RowKit
set_option linter.unusedSimpArgs false
set_option linter.unusedVariables false
set_option maxRecDepth 100000
attribute [local go_sem ↓] Go.wp_at_zero Go.wp_at_succ

set_option maxHeartbeats 1000000 in
theorem doAdd_p (a b : Sp) (n1 : a.lo ≤ a.hi) (n2 : b.lo ≤ b.hi) (hc : (a.lo == a.hi) = true) (hd : (b.lo == b.hi) = true) (w : World) : Calls Try.prog 22 #[.int .i64 3, .agg #[.int .i64 a.lo, .int .i64 a.hi], .agg #[.int .i64 b.lo, .int .i64 b.hi]] w fun e w' => e = .returned (.tuple #[.agg #[.int .i64 (Sp.mk (wrap64 (a.lo + b.lo)) (wrap64 (a.lo + b.lo))).lo, .int .i64 (Sp.mk (wrap64 (a.lo + b.lo)) (wrap64 (a.lo + b.lo))).hi], .bool true]) ∧ Below w.heap.size w w' := by
  go_enter Try.func22, Try.ntmps22
  go_wp2_with (first
  | (go_at_call 31; go_in))
  all_goals (try simp only [Exit.inBlock, Exit.then])
  all_goals refine ret_of ?_ rfl
  all_goals simp [results, Try.results22, go_sem, ltS, notS, *]
  all_goals go_light
  all_goals (repeat (first | exact Below.refl _ _ | with_reducible apply below_alloc | with_reducible apply Below.drew | with_reducible refine Below.setCell ?_ (by dsimp only; omega) _ | with_reducible refine below_step ?_ hb1))

set_option maxHeartbeats 1000000 in
theorem doAdd_qy (a b : Sp) (n1 : a.lo ≤ a.hi) (n2 : b.lo ≤ b.hi) (ha : a.Wf) (hb : b.Wf) (hc : (a.lo == a.hi) = true) (hd : (b.lo == b.hi) = false) (o1 : Sp.sumOk a.lo b.lo = true) (o2 : Sp.sumOk a.hi b.hi = true) (w : World) : Calls Try.prog 22 #[.int .i64 3, .agg #[.int .i64 a.lo, .int .i64 a.hi], .agg #[.int .i64 b.lo, .int .i64 b.hi]] w fun e w' => e = .returned (.tuple #[.agg #[.int .i64 (hullTo [wrap64 (a.lo + b.lo), wrap64 (a.hi + b.hi)] 2).lo, .int .i64 (hullTo [wrap64 (a.lo + b.lo), wrap64 (a.hi + b.hi)] 2).hi], .bool true]) ∧ Below w.heap.size w w' := by
  have hl1 : In64 a.lo := ha.1
  have hl2 : In64 a.hi := ha.2
  have hl3 : In64 b.lo := hb.1
  have hl4 : In64 b.hi := hb.2
  go_enter Try.func22, Try.ntmps22
  go_wp2_with (first
  | (go_at_call 31; go_in)
  | (
    go_at_call 35
    refine (exactP _ _ (by assumption) (by assumption) _).mono ?_
    rintro e w1 ⟨rfl, rfl⟩)
  | (
    go_at_call 36
    refine (hullP _ _ _ [wrap64 (a.lo + b.lo), wrap64 (a.hi + b.hi)] _ ?_ (Nat.succ_pos _) (by simp) ?_).mono ?_
    · simp
    · intro k hk
      obtain rfl | rfl : k = 0 ∨ k = 1 := by simp at hk; omega
      · go_simp; rfl
      · go_simp; rfl
    rintro e w1 ⟨rfl, hb1⟩
    obtain ⟨hcc1, hff1⟩ := bcell hb1
    have hs1 := hb1.size
    simp at hs1
    have l1 : w.heap.size + 1 + 1 < w1.heap.size := (by omega)
    have m1 : w.heap.size + 1 < w1.heap.size := (by omega)
    have k1 : w.heap.size < w1.heap.size := (by omega)))
  all_goals (try simp only [Exit.inBlock, Exit.then])
  all_goals refine ret_of ?_ rfl
  all_goals simp [results, Try.results22, go_sem, ltS, notS, *]
  all_goals go_light
  all_goals (repeat (first | exact Below.refl _ _ | with_reducible apply below_alloc | with_reducible apply Below.drew | with_reducible refine Below.setCell ?_ (by dsimp only; omega) _ | with_reducible refine below_step ?_ hb1))

set_option maxHeartbeats 1000000 in
theorem doAdd_qn (a b : Sp) (n1 : a.lo ≤ a.hi) (n2 : b.lo ≤ b.hi) (ha : a.Wf) (hb : b.Wf) (hc : (a.lo == a.hi) = true) (hd : (b.lo == b.hi) = false) (o1 : Sp.sumOk a.lo b.lo = true) (o2 : Sp.sumOk a.hi b.hi = false) (w : World) : Calls Try.prog 22 #[.int .i64 3, .agg #[.int .i64 a.lo, .int .i64 a.hi], .agg #[.int .i64 b.lo, .int .i64 b.hi]] w fun e w' => e = .returned (.tuple #[.agg #[.int .i64 Sp.all.lo, .int .i64 Sp.all.hi], .bool true]) ∧ Below w.heap.size w w' := by
  have hl1 : In64 a.lo := ha.1
  have hl2 : In64 a.hi := ha.2
  have hl3 : In64 b.lo := hb.1
  have hl4 : In64 b.hi := hb.2
  go_enter Try.func22, Try.ntmps22
  go_wp2_with (first
  | (go_at_call 31; go_in)
  | (
    go_at_call 35
    refine (exactP _ _ (by assumption) (by assumption) _).mono ?_
    rintro e w1 ⟨rfl, rfl⟩)
  | (
    go_at_call 36
    refine (hullP_no _ _ _ _).mono ?_
    rintro e w1 ⟨rfl, hb1⟩
    obtain ⟨hcc1, hff1⟩ := bcell hb1
    have hs1 := hb1.size
    simp at hs1
    have l1 : w.heap.size + 1 + 1 < w1.heap.size := (by omega)
    have m1 : w.heap.size + 1 < w1.heap.size := (by omega)
    have k1 : w.heap.size < w1.heap.size := (by omega)))
  all_goals (try simp only [Exit.inBlock, Exit.then])
  all_goals refine ret_of ?_ rfl
  all_goals simp [results, Try.results22, go_sem, ltS, notS, *]
  all_goals go_light
  all_goals (repeat (first | exact Below.refl _ _ | with_reducible apply below_alloc | with_reducible apply Below.drew | with_reducible refine Below.setCell ?_ (by dsimp only; omega) _ | with_reducible refine below_step ?_ hb1))

set_option maxHeartbeats 1000000 in
theorem doAdd_qm (a b : Sp) (n1 : a.lo ≤ a.hi) (n2 : b.lo ≤ b.hi) (ha : a.Wf) (hb : b.Wf) (hc : (a.lo == a.hi) = true) (hd : (b.lo == b.hi) = false) (o1 : Sp.sumOk a.lo b.lo = false) (w : World) : Calls Try.prog 22 #[.int .i64 3, .agg #[.int .i64 a.lo, .int .i64 a.hi], .agg #[.int .i64 b.lo, .int .i64 b.hi]] w fun e w' => e = .returned (.tuple #[.agg #[.int .i64 Sp.all.lo, .int .i64 Sp.all.hi], .bool true]) ∧ Below w.heap.size w w' := by
  have hl1 : In64 a.lo := ha.1
  have hl2 : In64 a.hi := ha.2
  have hl3 : In64 b.lo := hb.1
  have hl4 : In64 b.hi := hb.2
  go_enter Try.func22, Try.ntmps22
  go_wp2_with (first
  | (go_at_call 31; go_in)
  | (
    go_at_call 35
    refine (exactP _ _ (by assumption) (by assumption) _).mono ?_
    rintro e w1 ⟨rfl, rfl⟩)
  | (
    go_at_call 36
    refine (hullP_no _ _ _ _).mono ?_
    rintro e w1 ⟨rfl, hb1⟩
    obtain ⟨hcc1, hff1⟩ := bcell hb1
    have hs1 := hb1.size
    simp at hs1
    have l1 : w.heap.size + 1 + 1 < w1.heap.size := (by omega)
    have m1 : w.heap.size + 1 < w1.heap.size := (by omega)
    have k1 : w.heap.size < w1.heap.size := (by omega)))
  all_goals (try simp only [Exit.inBlock, Exit.then])
  all_goals refine ret_of ?_ rfl
  all_goals simp [results, Try.results22, go_sem, ltS, notS, *]
  all_goals go_light
  all_goals (repeat (first | exact Below.refl _ _ | with_reducible apply below_alloc | with_reducible apply Below.drew | with_reducible refine Below.setCell ?_ (by dsimp only; omega) _ | with_reducible refine below_step ?_ hb1))

set_option maxHeartbeats 1000000 in
theorem doAdd_ry (a b : Sp) (n1 : a.lo ≤ a.hi) (n2 : b.lo ≤ b.hi) (ha : a.Wf) (hb : b.Wf) (hc : (a.lo == a.hi) = false) (o1 : Sp.sumOk a.lo b.lo = true) (o2 : Sp.sumOk a.hi b.hi = true) (w : World) : Calls Try.prog 22 #[.int .i64 3, .agg #[.int .i64 a.lo, .int .i64 a.hi], .agg #[.int .i64 b.lo, .int .i64 b.hi]] w fun e w' => e = .returned (.tuple #[.agg #[.int .i64 (hullTo [wrap64 (a.lo + b.lo), wrap64 (a.hi + b.hi)] 2).lo, .int .i64 (hullTo [wrap64 (a.lo + b.lo), wrap64 (a.hi + b.hi)] 2).hi], .bool true]) ∧ Below w.heap.size w w' := by
  have hl1 : In64 a.lo := ha.1
  have hl2 : In64 a.hi := ha.2
  have hl3 : In64 b.lo := hb.1
  have hl4 : In64 b.hi := hb.2
  go_enter Try.func22, Try.ntmps22
  go_wp2_with (first
  | (go_at_call 31; go_in)
  | (
    go_at_call 35
    refine (exactP _ _ (by assumption) (by assumption) _).mono ?_
    rintro e w1 ⟨rfl, rfl⟩)
  | (
    go_at_call 36
    refine (hullP _ _ _ [wrap64 (a.lo + b.lo), wrap64 (a.hi + b.hi)] _ ?_ (Nat.succ_pos _) (by simp) ?_).mono ?_
    · simp
    · intro k hk
      obtain rfl | rfl : k = 0 ∨ k = 1 := by simp at hk; omega
      · go_simp; rfl
      · go_simp; rfl
    rintro e w1 ⟨rfl, hb1⟩
    obtain ⟨hcc1, hff1⟩ := bcell hb1
    have hs1 := hb1.size
    simp at hs1
    have l1 : w.heap.size + 1 + 1 < w1.heap.size := (by omega)
    have m1 : w.heap.size + 1 < w1.heap.size := (by omega)
    have k1 : w.heap.size < w1.heap.size := (by omega)))
  all_goals (try simp only [Exit.inBlock, Exit.then])
  all_goals refine ret_of ?_ rfl
  all_goals simp [results, Try.results22, go_sem, ltS, notS, *]
  all_goals go_light
  all_goals (repeat (first | exact Below.refl _ _ | with_reducible apply below_alloc | with_reducible apply Below.drew | with_reducible refine Below.setCell ?_ (by dsimp only; omega) _ | with_reducible refine below_step ?_ hb1))

set_option maxHeartbeats 1000000 in
theorem doAdd_rn (a b : Sp) (n1 : a.lo ≤ a.hi) (n2 : b.lo ≤ b.hi) (ha : a.Wf) (hb : b.Wf) (hc : (a.lo == a.hi) = false) (o1 : Sp.sumOk a.lo b.lo = true) (o2 : Sp.sumOk a.hi b.hi = false) (w : World) : Calls Try.prog 22 #[.int .i64 3, .agg #[.int .i64 a.lo, .int .i64 a.hi], .agg #[.int .i64 b.lo, .int .i64 b.hi]] w fun e w' => e = .returned (.tuple #[.agg #[.int .i64 Sp.all.lo, .int .i64 Sp.all.hi], .bool true]) ∧ Below w.heap.size w w' := by
  have hl1 : In64 a.lo := ha.1
  have hl2 : In64 a.hi := ha.2
  have hl3 : In64 b.lo := hb.1
  have hl4 : In64 b.hi := hb.2
  go_enter Try.func22, Try.ntmps22
  go_wp2_with (first
  | (go_at_call 31; go_in)
  | (
    go_at_call 35
    refine (exactP _ _ (by assumption) (by assumption) _).mono ?_
    rintro e w1 ⟨rfl, rfl⟩)
  | (
    go_at_call 36
    refine (hullP_no _ _ _ _).mono ?_
    rintro e w1 ⟨rfl, hb1⟩
    obtain ⟨hcc1, hff1⟩ := bcell hb1
    have hs1 := hb1.size
    simp at hs1
    have l1 : w.heap.size + 1 + 1 < w1.heap.size := (by omega)
    have m1 : w.heap.size + 1 < w1.heap.size := (by omega)
    have k1 : w.heap.size < w1.heap.size := (by omega)))
  all_goals (try simp only [Exit.inBlock, Exit.then])
  all_goals refine ret_of ?_ rfl
  all_goals simp [results, Try.results22, go_sem, ltS, notS, *]
  all_goals go_light
  all_goals (repeat (first | exact Below.refl _ _ | with_reducible apply below_alloc | with_reducible apply Below.drew | with_reducible refine Below.setCell ?_ (by dsimp only; omega) _ | with_reducible refine below_step ?_ hb1))

set_option maxHeartbeats 1000000 in
theorem doAdd_rm (a b : Sp) (n1 : a.lo ≤ a.hi) (n2 : b.lo ≤ b.hi) (ha : a.Wf) (hb : b.Wf) (hc : (a.lo == a.hi) = false) (o1 : Sp.sumOk a.lo b.lo = false) (w : World) : Calls Try.prog 22 #[.int .i64 3, .agg #[.int .i64 a.lo, .int .i64 a.hi], .agg #[.int .i64 b.lo, .int .i64 b.hi]] w fun e w' => e = .returned (.tuple #[.agg #[.int .i64 Sp.all.lo, .int .i64 Sp.all.hi], .bool true]) ∧ Below w.heap.size w w' := by
  have hl1 : In64 a.lo := ha.1
  have hl2 : In64 a.hi := ha.2
  have hl3 : In64 b.lo := hb.1
  have hl4 : In64 b.hi := hb.2
  go_enter Try.func22, Try.ntmps22
  go_wp2_with (first
  | (go_at_call 31; go_in)
  | (
    go_at_call 35
    refine (exactP _ _ (by assumption) (by assumption) _).mono ?_
    rintro e w1 ⟨rfl, rfl⟩)
  | (
    go_at_call 36
    refine (hullP_no _ _ _ _).mono ?_
    rintro e w1 ⟨rfl, hb1⟩
    obtain ⟨hcc1, hff1⟩ := bcell hb1
    have hs1 := hb1.size
    simp at hs1
    have l1 : w.heap.size + 1 + 1 < w1.heap.size := (by omega)
    have m1 : w.heap.size + 1 < w1.heap.size := (by omega)
    have k1 : w.heap.size < w1.heap.size := (by omega)))
  all_goals (try simp only [Exit.inBlock, Exit.then])
  all_goals refine ret_of ?_ rfl
  all_goals simp [results, Try.results22, go_sem, ltS, notS, *]
  all_goals go_light
  all_goals (repeat (first | exact Below.refl _ _ | with_reducible apply below_alloc | with_reducible apply Below.drew | with_reducible refine Below.setCell ?_ (by dsimp only; omega) _ | with_reducible refine below_step ?_ hb1))

end Go.Proofs.Ytdoikgjdjdgnbaa
