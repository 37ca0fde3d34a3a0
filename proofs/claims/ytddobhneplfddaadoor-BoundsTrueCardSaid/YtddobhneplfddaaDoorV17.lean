/-
  Layer 16 (bounds): DoPa.
-/
import Derived.Test.YtddobhneplfddaaDoorV11
namespace Go.Proofs.YtddobhneplfddaaDoor
set_option maxRecDepth 100000
open Go.RowKit
set_option linter.unusedSimpArgs false
set_option linter.unusedVariables false
set_option maxRecDepth 100000
attribute [local go_sem ↓] Go.wp_at_zero Go.wp_at_succ

set_option maxHeartbeats 4000000 in
theorem doAdd_p (a b : Sp) (n1 : a.lo ≤ a.hi) (n2 : b.lo ≤ b.hi) (hc : (a.lo == a.hi) = true) (hd : (b.lo == b.hi) = true) (w : World) : Calls Tryd.prog 55 #[.int .i64 3, .agg #[.int .i64 a.lo, .int .i64 a.hi], .agg #[.int .i64 b.lo, .int .i64 b.hi]] w fun e w' => e = .returned (.tuple #[.agg #[.int .i64 (Sp.mk (wrap64 (a.lo + b.lo)) (wrap64 (a.lo + b.lo))).lo, .int .i64 (Sp.mk (wrap64 (a.lo + b.lo)) (wrap64 (a.lo + b.lo))).hi], .bool true]) ∧ Below w.heap.size w w' := by
  go_enter Tryd.func55, Tryd.ntmps55
  go_wp2_with (first
  | (go_at_call 82; go_in))
  all_goals (try simp only [Exit.inBlock, Exit.then])
  all_goals refine ret_of ?_ rfl
  all_goals simp [results, Tryd.results55, go_sem, ltS, notS, *]
  all_goals go_light
  all_goals (repeat (first | exact Below.refl _ _ | with_reducible apply below_alloc | with_reducible apply Below.drew | with_reducible refine Below.setCell ?_ (by dsimp only; omega) _ | with_reducible refine below_step ?_ hb1))

set_option maxHeartbeats 4000000 in
theorem doAdd_qy (a b : Sp) (n1 : a.lo ≤ a.hi) (n2 : b.lo ≤ b.hi) (ha : a.Wf) (hb : b.Wf) (hc : (a.lo == a.hi) = true) (hd : (b.lo == b.hi) = false) (o1 : Sp.sumOk a.lo b.lo = true) (o2 : Sp.sumOk a.hi b.hi = true) (w : World) : Calls Tryd.prog 55 #[.int .i64 3, .agg #[.int .i64 a.lo, .int .i64 a.hi], .agg #[.int .i64 b.lo, .int .i64 b.hi]] w fun e w' => e = .returned (.tuple #[.agg #[.int .i64 (hullTo [wrap64 (a.lo + b.lo), wrap64 (a.hi + b.hi)] 2).lo, .int .i64 (hullTo [wrap64 (a.lo + b.lo), wrap64 (a.hi + b.hi)] 2).hi], .bool true]) ∧ Below w.heap.size w w' := by
  have hl1 : In64 a.lo := ha.1
  have hl2 : In64 a.hi := ha.2
  have hl3 : In64 b.lo := hb.1
  have hl4 : In64 b.hi := hb.2
  go_enter Tryd.func55, Tryd.ntmps55
  go_wp2_with (first
  | (go_at_call 82; go_in)
  | (
    go_at_call 83
    refine (exactP _ _ (by assumption) (by assumption) _).mono ?_
    rintro e w1 ⟨rfl, rfl⟩)
  | (
    go_at_call 84
    refine (hullP _ _ _ [wrap64 (a.lo + b.lo), wrap64 (a.hi + b.hi)] _ ?_ (Nat.succ_pos _) (by simp) ?_).mono ?_
    · simp
    · intro k hk
      obtain rfl | rfl : k = 0 ∨ k = 1 := by simp at hk; omega
      · go_simp; rfl
      · go_simp; rfl
    rintro e w1 ⟨rfl, hb1⟩
    obtain ⟨hcc1, hff1⟩ := bcell hb1
    have hs1 := hb1.size
    simp at hs1
    have l1 : w.heap.size + 1 + 1 < w1.heap.size := (by omega)
    have m1 : w.heap.size + 1 < w1.heap.size := (by omega)
    have k1 : w.heap.size < w1.heap.size := (by omega)))
  all_goals (try simp only [Exit.inBlock, Exit.then])
  all_goals refine ret_of ?_ rfl
  all_goals simp [results, Tryd.results55, go_sem, ltS, notS, *]
  all_goals go_light
  all_goals (repeat (first | exact Below.refl _ _ | with_reducible apply below_alloc | with_reducible apply Below.drew | with_reducible refine Below.setCell ?_ (by dsimp only; omega) _ | with_reducible refine below_step ?_ hb1))

set_option maxHeartbeats 4000000 in
theorem doAdd_qn (a b : Sp) (n1 : a.lo ≤ a.hi) (n2 : b.lo ≤ b.hi) (ha : a.Wf) (hb : b.Wf) (hc : (a.lo == a.hi) = true) (hd : (b.lo == b.hi) = false) (o1 : Sp.sumOk a.lo b.lo = true) (o2 : Sp.sumOk a.hi b.hi = false) (w : World) : Calls Tryd.prog 55 #[.int .i64 3, .agg #[.int .i64 a.lo, .int .i64 a.hi], .agg #[.int .i64 b.lo, .int .i64 b.hi]] w fun e w' => e = .returned (.tuple #[.agg #[.int .i64 Sp.all.lo, .int .i64 Sp.all.hi], .bool true]) ∧ Below w.heap.size w w' := by
  have hl1 : In64 a.lo := ha.1
  have hl2 : In64 a.hi := ha.2
  have hl3 : In64 b.lo := hb.1
  have hl4 : In64 b.hi := hb.2
  go_enter Tryd.func55, Tryd.ntmps55
  go_wp2_with (first
  | (go_at_call 82; go_in)
  | (
    go_at_call 83
    refine (exactP _ _ (by assumption) (by assumption) _).mono ?_
    rintro e w1 ⟨rfl, rfl⟩)
  | (
    go_at_call 84
    refine (hullP_no _ _ _ _).mono ?_
    rintro e w1 ⟨rfl, hb1⟩
    obtain ⟨hcc1, hff1⟩ := bcell hb1
    have hs1 := hb1.size
    simp at hs1
    have l1 : w.heap.size + 1 + 1 < w1.heap.size := (by omega)
    have m1 : w.heap.size + 1 < w1.heap.size := (by omega)
    have k1 : w.heap.size < w1.heap.size := (by omega)))
  all_goals (try simp only [Exit.inBlock, Exit.then])
  all_goals refine ret_of ?_ rfl
  all_goals simp [results, Tryd.results55, go_sem, ltS, notS, *]
  all_goals go_light
  all_goals (repeat (first | exact Below.refl _ _ | with_reducible apply below_alloc | with_reducible apply Below.drew | with_reducible refine Below.setCell ?_ (by dsimp only; omega) _ | with_reducible refine below_step ?_ hb1))

set_option maxHeartbeats 4000000 in
theorem doAdd_qm (a b : Sp) (n1 : a.lo ≤ a.hi) (n2 : b.lo ≤ b.hi) (ha : a.Wf) (hb : b.Wf) (hc : (a.lo == a.hi) = true) (hd : (b.lo == b.hi) = false) (o1 : Sp.sumOk a.lo b.lo = false) (w : World) : Calls Tryd.prog 55 #[.int .i64 3, .agg #[.int .i64 a.lo, .int .i64 a.hi], .agg #[.int .i64 b.lo, .int .i64 b.hi]] w fun e w' => e = .returned (.tuple #[.agg #[.int .i64 Sp.all.lo, .int .i64 Sp.all.hi], .bool true]) ∧ Below w.heap.size w w' := by
  have hl1 : In64 a.lo := ha.1
  have hl2 : In64 a.hi := ha.2
  have hl3 : In64 b.lo := hb.1
  have hl4 : In64 b.hi := hb.2
  go_enter Tryd.func55, Tryd.ntmps55
  go_wp2_with (first
  | (go_at_call 82; go_in)
  | (
    go_at_call 83
    refine (exactP _ _ (by assumption) (by assumption) _).mono ?_
    rintro e w1 ⟨rfl, rfl⟩)
  | (
    go_at_call 84
    refine (hullP_no _ _ _ _).mono ?_
    rintro e w1 ⟨rfl, hb1⟩
    obtain ⟨hcc1, hff1⟩ := bcell hb1
    have hs1 := hb1.size
    simp at hs1
    have l1 : w.heap.size + 1 + 1 < w1.heap.size := (by omega)
    have m1 : w.heap.size + 1 < w1.heap.size := (by omega)
    have k1 : w.heap.size < w1.heap.size := (by omega)))
  all_goals (try simp only [Exit.inBlock, Exit.then])
  all_goals refine ret_of ?_ rfl
  all_goals simp [results, Tryd.results55, go_sem, ltS, notS, *]
  all_goals go_light
  all_goals (repeat (first | exact Below.refl _ _ | with_reducible apply below_alloc | with_reducible apply Below.drew | with_reducible refine Below.setCell ?_ (by dsimp only; omega) _ | with_reducible refine below_step ?_ hb1))

set_option maxHeartbeats 4000000 in
theorem doAdd_ry (a b : Sp) (n1 : a.lo ≤ a.hi) (n2 : b.lo ≤ b.hi) (ha : a.Wf) (hb : b.Wf) (hc : (a.lo == a.hi) = false) (o1 : Sp.sumOk a.lo b.lo = true) (o2 : Sp.sumOk a.hi b.hi = true) (w : World) : Calls Tryd.prog 55 #[.int .i64 3, .agg #[.int .i64 a.lo, .int .i64 a.hi], .agg #[.int .i64 b.lo, .int .i64 b.hi]] w fun e w' => e = .returned (.tuple #[.agg #[.int .i64 (hullTo [wrap64 (a.lo + b.lo), wrap64 (a.hi + b.hi)] 2).lo, .int .i64 (hullTo [wrap64 (a.lo + b.lo), wrap64 (a.hi + b.hi)] 2).hi], .bool true]) ∧ Below w.heap.size w w' := by
  have hl1 : In64 a.lo := ha.1
  have hl2 : In64 a.hi := ha.2
  have hl3 : In64 b.lo := hb.1
  have hl4 : In64 b.hi := hb.2
  go_enter Tryd.func55, Tryd.ntmps55
  go_wp2_with (first
  | (go_at_call 82; go_in)
  | (
    go_at_call 83
    refine (exactP _ _ (by assumption) (by assumption) _).mono ?_
    rintro e w1 ⟨rfl, rfl⟩)
  | (
    go_at_call 84
    refine (hullP _ _ _ [wrap64 (a.lo + b.lo), wrap64 (a.hi + b.hi)] _ ?_ (Nat.succ_pos _) (by simp) ?_).mono ?_
    · simp
    · intro k hk
      obtain rfl | rfl : k = 0 ∨ k = 1 := by simp at hk; omega
      · go_simp; rfl
      · go_simp; rfl
    rintro e w1 ⟨rfl, hb1⟩
    obtain ⟨hcc1, hff1⟩ := bcell hb1
    have hs1 := hb1.size
    simp at hs1
    have l1 : w.heap.size + 1 + 1 < w1.heap.size := (by omega)
    have m1 : w.heap.size + 1 < w1.heap.size := (by omega)
    have k1 : w.heap.size < w1.heap.size := (by omega)))
  all_goals (try simp only [Exit.inBlock, Exit.then])
  all_goals refine ret_of ?_ rfl
  all_goals simp [results, Tryd.results55, go_sem, ltS, notS, *]
  all_goals go_light
  all_goals (repeat (first | exact Below.refl _ _ | with_reducible apply below_alloc | with_reducible apply Below.drew | with_reducible refine Below.setCell ?_ (by dsimp only; omega) _ | with_reducible refine below_step ?_ hb1))

set_option maxHeartbeats 4000000 in
theorem doAdd_rn (a b : Sp) (n1 : a.lo ≤ a.hi) (n2 : b.lo ≤ b.hi) (ha : a.Wf) (hb : b.Wf) (hc : (a.lo == a.hi) = false) (o1 : Sp.sumOk a.lo b.lo = true) (o2 : Sp.sumOk a.hi b.hi = false) (w : World) : Calls Tryd.prog 55 #[.int .i64 3, .agg #[.int .i64 a.lo, .int .i64 a.hi], .agg #[.int .i64 b.lo, .int .i64 b.hi]] w fun e w' => e = .returned (.tuple #[.agg #[.int .i64 Sp.all.lo, .int .i64 Sp.all.hi], .bool true]) ∧ Below w.heap.size w w' := by
  have hl1 : In64 a.lo := ha.1
  have hl2 : In64 a.hi := ha.2
  have hl3 : In64 b.lo := hb.1
  have hl4 : In64 b.hi := hb.2
  go_enter Tryd.func55, Tryd.ntmps55
  go_wp2_with (first
  | (go_at_call 82; go_in)
  | (
    go_at_call 83
    refine (exactP _ _ (by assumption) (by assumption) _).mono ?_
    rintro e w1 ⟨rfl, rfl⟩)
  | (
    go_at_call 84
    refine (hullP_no _ _ _ _).mono ?_
    rintro e w1 ⟨rfl, hb1⟩
    obtain ⟨hcc1, hff1⟩ := bcell hb1
    have hs1 := hb1.size
    simp at hs1
    have l1 : w.heap.size + 1 + 1 < w1.heap.size := (by omega)
    have m1 : w.heap.size + 1 < w1.heap.size := (by omega)
    have k1 : w.heap.size < w1.heap.size := (by omega)))
  all_goals (try simp only [Exit.inBlock, Exit.then])
  all_goals refine ret_of ?_ rfl
  all_goals simp [results, Tryd.results55, go_sem, ltS, notS, *]
  all_goals go_light
  all_goals (repeat (first | exact Below.refl _ _ | with_reducible apply below_alloc | with_reducible apply Below.drew | with_reducible refine Below.setCell ?_ (by dsimp only; omega) _ | with_reducible refine below_step ?_ hb1))

set_option maxHeartbeats 4000000 in
theorem doAdd_rm (a b : Sp) (n1 : a.lo ≤ a.hi) (n2 : b.lo ≤ b.hi) (ha : a.Wf) (hb : b.Wf) (hc : (a.lo == a.hi) = false) (o1 : Sp.sumOk a.lo b.lo = false) (w : World) : Calls Tryd.prog 55 #[.int .i64 3, .agg #[.int .i64 a.lo, .int .i64 a.hi], .agg #[.int .i64 b.lo, .int .i64 b.hi]] w fun e w' => e = .returned (.tuple #[.agg #[.int .i64 Sp.all.lo, .int .i64 Sp.all.hi], .bool true]) ∧ Below w.heap.size w w' := by
  have hl1 : In64 a.lo := ha.1
  have hl2 : In64 a.hi := ha.2
  have hl3 : In64 b.lo := hb.1
  have hl4 : In64 b.hi := hb.2
  go_enter Tryd.func55, Tryd.ntmps55
  go_wp2_with (first
  | (go_at_call 82; go_in)
  | (
    go_at_call 83
    refine (exactP _ _ (by assumption) (by assumption) _).mono ?_
    rintro e w1 ⟨rfl, rfl⟩)
  | (
    go_at_call 84
    refine (hullP_no _ _ _ _).mono ?_
    rintro e w1 ⟨rfl, hb1⟩
    obtain ⟨hcc1, hff1⟩ := bcell hb1
    have hs1 := hb1.size
    simp at hs1
    have l1 : w.heap.size + 1 + 1 < w1.heap.size := (by omega)
    have m1 : w.heap.size + 1 < w1.heap.size := (by omega)
    have k1 : w.heap.size < w1.heap.size := (by omega)))
  all_goals (try simp only [Exit.inBlock, Exit.then])
  all_goals refine ret_of ?_ rfl
  all_goals simp [results, Tryd.results55, go_sem, ltS, notS, *]
  all_goals go_light
  all_goals (repeat (first | exact Below.refl _ _ | with_reducible apply below_alloc | with_reducible apply Below.drew | with_reducible refine Below.setCell ?_ (by dsimp only; omega) _ | with_reducible refine below_step ?_ hb1))

end Go.Proofs.YtddobhneplfddaaDoor

/-
  Layer 8 (span): the walks of span.Do, one for each operation and case.
-/
namespace Go.Proofs.YtddobhneplfddaaDoor
set_option maxRecDepth 100000
open Go.RowKit
set_option linter.unusedSimpArgs false
set_option linter.unusedVariables false
set_option maxRecDepth 100000
attribute [local go_sem ↓] Go.wp_at_zero Go.wp_at_succ

set_option maxHeartbeats 4000000 in
theorem doSub_p (a b : Sp) (n1 : a.lo ≤ a.hi) (n2 : b.lo ≤ b.hi) (hc : (a.lo == a.hi) = true) (hd : (b.lo == b.hi) = true) (w : World) : Calls Tryd.prog 55 #[.int .i64 4, .agg #[.int .i64 a.lo, .int .i64 a.hi], .agg #[.int .i64 b.lo, .int .i64 b.hi]] w fun e w' => e = .returned (.tuple #[.agg #[.int .i64 (Sp.mk (wrap64 (a.lo - b.lo)) (wrap64 (a.lo - b.lo))).lo, .int .i64 (Sp.mk (wrap64 (a.lo - b.lo)) (wrap64 (a.lo - b.lo))).hi], .bool true]) ∧ Below w.heap.size w w' := by
  go_enter Tryd.func55, Tryd.ntmps55
  go_wp2_with (first
  | (go_at_call 82; go_in))
  all_goals (try simp only [Exit.inBlock, Exit.then])
  all_goals refine ret_of ?_ rfl
  all_goals simp [results, Tryd.results55, go_sem, ltS, notS, *]
  all_goals go_light
  all_goals (repeat (first | exact Below.refl _ _ | with_reducible apply below_alloc | with_reducible apply Below.drew | with_reducible refine Below.setCell ?_ (by dsimp only; omega) _ | with_reducible refine below_step ?_ hb1))

set_option maxHeartbeats 4000000 in
theorem doSub_qy (a b : Sp) (n1 : a.lo ≤ a.hi) (n2 : b.lo ≤ b.hi) (ha : a.Wf) (hb : b.Wf) (hc : (a.lo == a.hi) = true) (hd : (b.lo == b.hi) = false) (o1 : Sp.lessOk a.lo b.hi = true) (o2 : Sp.lessOk a.hi b.lo = true) (w : World) : Calls Tryd.prog 55 #[.int .i64 4, .agg #[.int .i64 a.lo, .int .i64 a.hi], .agg #[.int .i64 b.lo, .int .i64 b.hi]] w fun e w' => e = .returned (.tuple #[.agg #[.int .i64 (hullTo [wrap64 (a.lo - b.hi), wrap64 (a.hi - b.lo)] 2).lo, .int .i64 (hullTo [wrap64 (a.lo - b.hi), wrap64 (a.hi - b.lo)] 2).hi], .bool true]) ∧ Below w.heap.size w w' := by
  have hl1 : In64 a.lo := ha.1
  have hl2 : In64 a.hi := ha.2
  have hl3 : In64 b.lo := hb.1
  have hl4 : In64 b.hi := hb.2
  go_enter Tryd.func55, Tryd.ntmps55
  go_wp2_with (first
  | (go_at_call 82; go_in)
  | (
    go_at_call 85
    refine (lessP _ _ (by assumption) (by assumption) _).mono ?_
    rintro e w1 ⟨rfl, rfl⟩)
  | (
    go_at_call 84
    refine (hullP _ _ _ [wrap64 (a.lo - b.hi), wrap64 (a.hi - b.lo)] _ ?_ (Nat.succ_pos _) (by simp) ?_).mono ?_
    · simp
    · intro k hk
      obtain rfl | rfl : k = 0 ∨ k = 1 := by simp at hk; omega
      · go_simp; rfl
      · go_simp; rfl
    rintro e w1 ⟨rfl, hb1⟩
    obtain ⟨hcc1, hff1⟩ := bcell hb1
    have hs1 := hb1.size
    simp at hs1
    have l1 : w.heap.size + 1 + 1 < w1.heap.size := (by omega)
    have m1 : w.heap.size + 1 < w1.heap.size := (by omega)
    have k1 : w.heap.size < w1.heap.size := (by omega)))
  all_goals (try simp only [Exit.inBlock, Exit.then])
  all_goals refine ret_of ?_ rfl
  all_goals simp [results, Tryd.results55, go_sem, ltS, notS, *]
  all_goals go_light
  all_goals (repeat (first | exact Below.refl _ _ | with_reducible apply below_alloc | with_reducible apply Below.drew | with_reducible refine Below.setCell ?_ (by dsimp only; omega) _ | with_reducible refine below_step ?_ hb1))

set_option maxHeartbeats 4000000 in
theorem doSub_qn (a b : Sp) (n1 : a.lo ≤ a.hi) (n2 : b.lo ≤ b.hi) (ha : a.Wf) (hb : b.Wf) (hc : (a.lo == a.hi) = true) (hd : (b.lo == b.hi) = false) (o1 : Sp.lessOk a.lo b.hi = true) (o2 : Sp.lessOk a.hi b.lo = false) (w : World) : Calls Tryd.prog 55 #[.int .i64 4, .agg #[.int .i64 a.lo, .int .i64 a.hi], .agg #[.int .i64 b.lo, .int .i64 b.hi]] w fun e w' => e = .returned (.tuple #[.agg #[.int .i64 Sp.all.lo, .int .i64 Sp.all.hi], .bool true]) ∧ Below w.heap.size w w' := by
  have hl1 : In64 a.lo := ha.1
  have hl2 : In64 a.hi := ha.2
  have hl3 : In64 b.lo := hb.1
  have hl4 : In64 b.hi := hb.2
  go_enter Tryd.func55, Tryd.ntmps55
  go_wp2_with (first
  | (go_at_call 82; go_in)
  | (
    go_at_call 85
    refine (lessP _ _ (by assumption) (by assumption) _).mono ?_
    rintro e w1 ⟨rfl, rfl⟩)
  | (
    go_at_call 84
    refine (hullP_no _ _ _ _).mono ?_
    rintro e w1 ⟨rfl, hb1⟩
    obtain ⟨hcc1, hff1⟩ := bcell hb1
    have hs1 := hb1.size
    simp at hs1
    have l1 : w.heap.size + 1 + 1 < w1.heap.size := (by omega)
    have m1 : w.heap.size + 1 < w1.heap.size := (by omega)
    have k1 : w.heap.size < w1.heap.size := (by omega)))
  all_goals (try simp only [Exit.inBlock, Exit.then])
  all_goals refine ret_of ?_ rfl
  all_goals simp [results, Tryd.results55, go_sem, ltS, notS, *]
  all_goals go_light
  all_goals (repeat (first | exact Below.refl _ _ | with_reducible apply below_alloc | with_reducible apply Below.drew | with_reducible refine Below.setCell ?_ (by dsimp only; omega) _ | with_reducible refine below_step ?_ hb1))

set_option maxHeartbeats 4000000 in
theorem doSub_qm (a b : Sp) (n1 : a.lo ≤ a.hi) (n2 : b.lo ≤ b.hi) (ha : a.Wf) (hb : b.Wf) (hc : (a.lo == a.hi) = true) (hd : (b.lo == b.hi) = false) (o1 : Sp.lessOk a.lo b.hi = false) (w : World) : Calls Tryd.prog 55 #[.int .i64 4, .agg #[.int .i64 a.lo, .int .i64 a.hi], .agg #[.int .i64 b.lo, .int .i64 b.hi]] w fun e w' => e = .returned (.tuple #[.agg #[.int .i64 Sp.all.lo, .int .i64 Sp.all.hi], .bool true]) ∧ Below w.heap.size w w' := by
  have hl1 : In64 a.lo := ha.1
  have hl2 : In64 a.hi := ha.2
  have hl3 : In64 b.lo := hb.1
  have hl4 : In64 b.hi := hb.2
  go_enter Tryd.func55, Tryd.ntmps55
  go_wp2_with (first
  | (go_at_call 82; go_in)
  | (
    go_at_call 85
    refine (lessP _ _ (by assumption) (by assumption) _).mono ?_
    rintro e w1 ⟨rfl, rfl⟩)
  | (
    go_at_call 84
    refine (hullP_no _ _ _ _).mono ?_
    rintro e w1 ⟨rfl, hb1⟩
    obtain ⟨hcc1, hff1⟩ := bcell hb1
    have hs1 := hb1.size
    simp at hs1
    have l1 : w.heap.size + 1 + 1 < w1.heap.size := (by omega)
    have m1 : w.heap.size + 1 < w1.heap.size := (by omega)
    have k1 : w.heap.size < w1.heap.size := (by omega)))
  all_goals (try simp only [Exit.inBlock, Exit.then])
  all_goals refine ret_of ?_ rfl
  all_goals simp [results, Tryd.results55, go_sem, ltS, notS, *]
  all_goals go_light
  all_goals (repeat (first | exact Below.refl _ _ | with_reducible apply below_alloc | with_reducible apply Below.drew | with_reducible refine Below.setCell ?_ (by dsimp only; omega) _ | with_reducible refine below_step ?_ hb1))

set_option maxHeartbeats 4000000 in
theorem doSub_ry (a b : Sp) (n1 : a.lo ≤ a.hi) (n2 : b.lo ≤ b.hi) (ha : a.Wf) (hb : b.Wf) (hc : (a.lo == a.hi) = false) (o1 : Sp.lessOk a.lo b.hi = true) (o2 : Sp.lessOk a.hi b.lo = true) (w : World) : Calls Tryd.prog 55 #[.int .i64 4, .agg #[.int .i64 a.lo, .int .i64 a.hi], .agg #[.int .i64 b.lo, .int .i64 b.hi]] w fun e w' => e = .returned (.tuple #[.agg #[.int .i64 (hullTo [wrap64 (a.lo - b.hi), wrap64 (a.hi - b.lo)] 2).lo, .int .i64 (hullTo [wrap64 (a.lo - b.hi), wrap64 (a.hi - b.lo)] 2).hi], .bool true]) ∧ Below w.heap.size w w' := by
  have hl1 : In64 a.lo := ha.1
  have hl2 : In64 a.hi := ha.2
  have hl3 : In64 b.lo := hb.1
  have hl4 : In64 b.hi := hb.2
  go_enter Tryd.func55, Tryd.ntmps55
  go_wp2_with (first
  | (go_at_call 82; go_in)
  | (
    go_at_call 85
    refine (lessP _ _ (by assumption) (by assumption) _).mono ?_
    rintro e w1 ⟨rfl, rfl⟩)
  | (
    go_at_call 84
    refine (hullP _ _ _ [wrap64 (a.lo - b.hi), wrap64 (a.hi - b.lo)] _ ?_ (Nat.succ_pos _) (by simp) ?_).mono ?_
    · simp
    · intro k hk
      obtain rfl | rfl : k = 0 ∨ k = 1 := by simp at hk; omega
      · go_simp; rfl
      · go_simp; rfl
    rintro e w1 ⟨rfl, hb1⟩
    obtain ⟨hcc1, hff1⟩ := bcell hb1
    have hs1 := hb1.size
    simp at hs1
    have l1 : w.heap.size + 1 + 1 < w1.heap.size := (by omega)
    have m1 : w.heap.size + 1 < w1.heap.size := (by omega)
    have k1 : w.heap.size < w1.heap.size := (by omega)))
  all_goals (try simp only [Exit.inBlock, Exit.then])
  all_goals refine ret_of ?_ rfl
  all_goals simp [results, Tryd.results55, go_sem, ltS, notS, *]
  all_goals go_light
  all_goals (repeat (first | exact Below.refl _ _ | with_reducible apply below_alloc | with_reducible apply Below.drew | with_reducible refine Below.setCell ?_ (by dsimp only; omega) _ | with_reducible refine below_step ?_ hb1))

set_option maxHeartbeats 4000000 in
theorem doSub_rn (a b : Sp) (n1 : a.lo ≤ a.hi) (n2 : b.lo ≤ b.hi) (ha : a.Wf) (hb : b.Wf) (hc : (a.lo == a.hi) = false) (o1 : Sp.lessOk a.lo b.hi = true) (o2 : Sp.lessOk a.hi b.lo = false) (w : World) : Calls Tryd.prog 55 #[.int .i64 4, .agg #[.int .i64 a.lo, .int .i64 a.hi], .agg #[.int .i64 b.lo, .int .i64 b.hi]] w fun e w' => e = .returned (.tuple #[.agg #[.int .i64 Sp.all.lo, .int .i64 Sp.all.hi], .bool true]) ∧ Below w.heap.size w w' := by
  have hl1 : In64 a.lo := ha.1
  have hl2 : In64 a.hi := ha.2
  have hl3 : In64 b.lo := hb.1
  have hl4 : In64 b.hi := hb.2
  go_enter Tryd.func55, Tryd.ntmps55
  go_wp2_with (first
  | (go_at_call 82; go_in)
  | (
    go_at_call 85
    refine (lessP _ _ (by assumption) (by assumption) _).mono ?_
    rintro e w1 ⟨rfl, rfl⟩)
  | (
    go_at_call 84
    refine (hullP_no _ _ _ _).mono ?_
    rintro e w1 ⟨rfl, hb1⟩
    obtain ⟨hcc1, hff1⟩ := bcell hb1
    have hs1 := hb1.size
    simp at hs1
    have l1 : w.heap.size + 1 + 1 < w1.heap.size := (by omega)
    have m1 : w.heap.size + 1 < w1.heap.size := (by omega)
    have k1 : w.heap.size < w1.heap.size := (by omega)))
  all_goals (try simp only [Exit.inBlock, Exit.then])
  all_goals refine ret_of ?_ rfl
  all_goals simp [results, Tryd.results55, go_sem, ltS, notS, *]
  all_goals go_light
  all_goals (repeat (first | exact Below.refl _ _ | with_reducible apply below_alloc | with_reducible apply Below.drew | with_reducible refine Below.setCell ?_ (by dsimp only; omega) _ | with_reducible refine below_step ?_ hb1))

set_option maxHeartbeats 4000000 in
theorem doSub_rm (a b : Sp) (n1 : a.lo ≤ a.hi) (n2 : b.lo ≤ b.hi) (ha : a.Wf) (hb : b.Wf) (hc : (a.lo == a.hi) = false) (o1 : Sp.lessOk a.lo b.hi = false) (w : World) : Calls Tryd.prog 55 #[.int .i64 4, .agg #[.int .i64 a.lo, .int .i64 a.hi], .agg #[.int .i64 b.lo, .int .i64 b.hi]] w fun e w' => e = .returned (.tuple #[.agg #[.int .i64 Sp.all.lo, .int .i64 Sp.all.hi], .bool true]) ∧ Below w.heap.size w w' := by
  have hl1 : In64 a.lo := ha.1
  have hl2 : In64 a.hi := ha.2
  have hl3 : In64 b.lo := hb.1
  have hl4 : In64 b.hi := hb.2
  go_enter Tryd.func55, Tryd.ntmps55
  go_wp2_with (first
  | (go_at_call 82; go_in)
  | (
    go_at_call 85
    refine (lessP _ _ (by assumption) (by assumption) _).mono ?_
    rintro e w1 ⟨rfl, rfl⟩)
  | (
    go_at_call 84
    refine (hullP_no _ _ _ _).mono ?_
    rintro e w1 ⟨rfl, hb1⟩
    obtain ⟨hcc1, hff1⟩ := bcell hb1
    have hs1 := hb1.size
    simp at hs1
    have l1 : w.heap.size + 1 + 1 < w1.heap.size := (by omega)
    have m1 : w.heap.size + 1 < w1.heap.size := (by omega)
    have k1 : w.heap.size < w1.heap.size := (by omega)))
  all_goals (try simp only [Exit.inBlock, Exit.then])
  all_goals refine ret_of ?_ rfl
  all_goals simp [results, Tryd.results55, go_sem, ltS, notS, *]
  all_goals go_light
  all_goals (repeat (first | exact Below.refl _ _ | with_reducible apply below_alloc | with_reducible apply Below.drew | with_reducible refine Below.setCell ?_ (by dsimp only; omega) _ | with_reducible refine below_step ?_ hb1))

end Go.Proofs.YtddobhneplfddaaDoor

/-
  Layer 8 (span): the walks of span.Do, one for each operation and case.
-/
namespace Go.Proofs.YtddobhneplfddaaDoor
set_option maxRecDepth 100000
open Go.RowKit
set_option linter.unusedSimpArgs false
set_option linter.unusedVariables false
set_option maxRecDepth 100000
attribute [local go_sem ↓] Go.wp_at_zero Go.wp_at_succ

set_option maxHeartbeats 4000000 in
theorem doMul_p (a b : Sp) (n1 : a.lo ≤ a.hi) (n2 : b.lo ≤ b.hi) (hc : (a.lo == a.hi) = true) (hd : (b.lo == b.hi) = true) (w : World) : Calls Tryd.prog 55 #[.int .i64 5, .agg #[.int .i64 a.lo, .int .i64 a.hi], .agg #[.int .i64 b.lo, .int .i64 b.hi]] w fun e w' => e = .returned (.tuple #[.agg #[.int .i64 (Sp.mk (wrap64 (a.lo * b.lo)) (wrap64 (a.lo * b.lo))).lo, .int .i64 (Sp.mk (wrap64 (a.lo * b.lo)) (wrap64 (a.lo * b.lo))).hi], .bool true]) ∧ Below w.heap.size w w' := by
  go_enter Tryd.func55, Tryd.ntmps55
  go_wp2_with (first
  | (go_at_call 82; go_in))
  all_goals (try simp only [Exit.inBlock, Exit.then])
  all_goals refine ret_of ?_ rfl
  all_goals simp [results, Tryd.results55, go_sem, ltS, notS, *]
  all_goals go_light
  all_goals (repeat (first | exact Below.refl _ _ | with_reducible apply below_alloc | with_reducible apply Below.drew | with_reducible refine Below.setCell ?_ (by dsimp only; omega) _ | with_reducible refine below_step ?_ hb1))

set_option maxHeartbeats 4000000 in
theorem doNone_a (a b : Sp) (op : Int) (n1 : a.hi < a.lo) (w : World) : Calls Tryd.prog 55 #[.int .i64 op, .agg #[.int .i64 a.lo, .int .i64 a.hi], .agg #[.int .i64 b.lo, .int .i64 b.hi]] w fun e w' => e = .returned (.tuple #[.agg #[.int .i64 (Sp.mk 0 0).lo, .int .i64 (Sp.mk 0 0).hi], .bool false]) ∧ Below w.heap.size w w' := by
  go_enter Tryd.func55, Tryd.ntmps55
  go_wp2_with (first
  | (go_at_call 82; go_in))
  all_goals (try simp only [Exit.inBlock, Exit.then])
  all_goals refine ret_of ?_ rfl
  all_goals simp [results, Tryd.results55, go_sem, ltS, notS, *]
  all_goals go_light
  all_goals (repeat (first | exact Below.refl _ _ | with_reducible apply below_alloc | with_reducible apply Below.drew | with_reducible refine Below.setCell ?_ (by dsimp only; omega) _ | with_reducible refine below_step ?_ hb1))

set_option maxHeartbeats 4000000 in
theorem doNone_b (a b : Sp) (op : Int) (o10 : (op == 10) = false) (p10 : (op != 10) = true) (n1 : a.lo ≤ a.hi) (n2 : b.hi < b.lo) (w : World) : Calls Tryd.prog 55 #[.int .i64 op, .agg #[.int .i64 a.lo, .int .i64 a.hi], .agg #[.int .i64 b.lo, .int .i64 b.hi]] w fun e w' => e = .returned (.tuple #[.agg #[.int .i64 (Sp.mk 0 0).lo, .int .i64 (Sp.mk 0 0).hi], .bool false]) ∧ Below w.heap.size w w' := by
  go_enter Tryd.func55, Tryd.ntmps55
  go_wp2_with (first
  | (go_at_call 82; go_in))
  all_goals (try simp only [Exit.inBlock, Exit.then])
  all_goals refine ret_of ?_ rfl
  all_goals simp [results, Tryd.results55, go_sem, ltS, notS, *]
  all_goals go_light
  all_goals (repeat (first | exact Below.refl _ _ | with_reducible apply below_alloc | with_reducible apply Below.drew | with_reducible refine Below.setCell ?_ (by dsimp only; omega) _ | with_reducible refine below_step ?_ hb1))

set_option maxHeartbeats 4000000 in
theorem doOther_p (a b : Sp) (op : Int) (o3 : (op == 3) = false) (o4 : (op == 4) = false) (o5 : (op == 5) = false) (o6 : (op == 6) = false) (o7 : (op == 7) = false) (o8 : (op == 8) = false) (o9 : (op == 9) = false) (o10 : (op == 10) = false) (p10 : (op != 10) = true) (n1 : a.lo ≤ a.hi) (n2 : b.lo ≤ b.hi) (hc : (a.lo == a.hi) = true) (hd : (b.lo == b.hi) = true) (w : World) : Calls Tryd.prog 55 #[.int .i64 op, .agg #[.int .i64 a.lo, .int .i64 a.hi], .agg #[.int .i64 b.lo, .int .i64 b.hi]] w fun e w' => e = .returned (.tuple #[.agg #[.int .i64 (Sp.mk 0 0).lo, .int .i64 (Sp.mk 0 0).hi], .bool false]) ∧ Below w.heap.size w w' := by
  go_enter Tryd.func55, Tryd.ntmps55
  go_wp2_with (first
  | (go_at_call 82; go_in))
  all_goals (try simp only [Exit.inBlock, Exit.then])
  all_goals refine ret_of ?_ rfl
  all_goals simp [results, Tryd.results55, go_sem, ltS, notS, *]
  all_goals go_light
  all_goals (repeat (first | exact Below.refl _ _ | with_reducible apply below_alloc | with_reducible apply Below.drew | with_reducible refine Below.setCell ?_ (by dsimp only; omega) _ | with_reducible refine below_step ?_ hb1))

set_option maxHeartbeats 4000000 in
theorem doOther_q (a b : Sp) (op : Int) (o3 : (op == 3) = false) (o4 : (op == 4) = false) (o5 : (op == 5) = false) (o6 : (op == 6) = false) (o7 : (op == 7) = false) (o8 : (op == 8) = false) (o9 : (op == 9) = false) (o10 : (op == 10) = false) (p10 : (op != 10) = true) (n1 : a.lo ≤ a.hi) (n2 : b.lo ≤ b.hi) (hc : (a.lo == a.hi) = true) (hd : (b.lo == b.hi) = false) (w : World) : Calls Tryd.prog 55 #[.int .i64 op, .agg #[.int .i64 a.lo, .int .i64 a.hi], .agg #[.int .i64 b.lo, .int .i64 b.hi]] w fun e w' => e = .returned (.tuple #[.agg #[.int .i64 (Sp.mk 0 0).lo, .int .i64 (Sp.mk 0 0).hi], .bool false]) ∧ Below w.heap.size w w' := by
  go_enter Tryd.func55, Tryd.ntmps55
  go_wp2_with (first
  | (go_at_call 82; go_in))
  all_goals (try simp only [Exit.inBlock, Exit.then])
  all_goals refine ret_of ?_ rfl
  all_goals simp [results, Tryd.results55, go_sem, ltS, notS, *]
  all_goals go_light
  all_goals (repeat (first | exact Below.refl _ _ | with_reducible apply below_alloc | with_reducible apply Below.drew | with_reducible refine Below.setCell ?_ (by dsimp only; omega) _ | with_reducible refine below_step ?_ hb1))

set_option maxHeartbeats 4000000 in
theorem doOther_r (a b : Sp) (op : Int) (o3 : (op == 3) = false) (o4 : (op == 4) = false) (o5 : (op == 5) = false) (o6 : (op == 6) = false) (o7 : (op == 7) = false) (o8 : (op == 8) = false) (o9 : (op == 9) = false) (o10 : (op == 10) = false) (p10 : (op != 10) = true) (n1 : a.lo ≤ a.hi) (n2 : b.lo ≤ b.hi) (hc : (a.lo == a.hi) = false) (w : World) : Calls Tryd.prog 55 #[.int .i64 op, .agg #[.int .i64 a.lo, .int .i64 a.hi], .agg #[.int .i64 b.lo, .int .i64 b.hi]] w fun e w' => e = .returned (.tuple #[.agg #[.int .i64 (Sp.mk 0 0).lo, .int .i64 (Sp.mk 0 0).hi], .bool false]) ∧ Below w.heap.size w w' := by
  go_enter Tryd.func55, Tryd.ntmps55
  go_wp2_with (first
  | (go_at_call 82; go_in))
  all_goals (try simp only [Exit.inBlock, Exit.then])
  all_goals refine ret_of ?_ rfl
  all_goals simp [results, Tryd.results55, go_sem, ltS, notS, *]
  all_goals go_light
  all_goals (repeat (first | exact Below.refl _ _ | with_reducible apply below_alloc | with_reducible apply Below.drew | with_reducible refine Below.setCell ?_ (by dsimp only; omega) _ | with_reducible refine below_step ?_ hb1))

end Go.Proofs.YtddobhneplfddaaDoor
