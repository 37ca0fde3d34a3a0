/-
  Layer 16 (bounds): DoPc.
-/
import Derived.Test.YtddobhneplfddaaDoorV11
namespace Go.Proofs.YtddobhneplfddaaDoor
set_option maxRecDepth 100000
open Go.RowKit
set_option linter.unusedSimpArgs false
set_option linter.unusedVariables false
set_option maxRecDepth 100000
attribute [local go_sem ↓] Go.wp_at_zero Go.wp_at_succ

set_option maxHeartbeats 4000000 in
theorem doLt_p (a b : Sp) (n1 : a.lo ≤ a.hi) (n2 : b.lo ≤ b.hi) (hc : (a.lo == a.hi) = true) (hd : (b.lo == b.hi) = true) (w : World) : Calls Tryd.prog 55 #[.int .i64 8, .agg #[.int .i64 a.lo, .int .i64 a.hi], .agg #[.int .i64 b.lo, .int .i64 b.hi]] w fun e w' => e = .returned (.tuple #[.agg #[.int .i64 (ltS a b).lo, .int .i64 (ltS a b).hi], .bool true]) ∧ Below w.heap.size w w' := by
  go_enter Tryd.func55, Tryd.ntmps55
  go_wp2_with (first
  | (go_at_call 82; go_in)
  | (
    go_at_call 89
    refine (truthP _ _ _).mono ?_
    rintro e w1 ⟨rfl, hb1⟩
    obtain ⟨hcc1, hff1⟩ := bcell hb1
    have hs1 := hb1.size
    simp at hs1
    have l1 : w.heap.size + 1 + 1 < w1.heap.size := (by omega)
    have m1 : w.heap.size + 1 < w1.heap.size := (by omega)
    have k1 : w.heap.size < w1.heap.size := (by omega)))
  all_goals (try simp only [Exit.inBlock, Exit.then])
  all_goals refine ret_of ?_ rfl
  all_goals simp [results, Tryd.results55, go_sem, ltS, notS, *]
  all_goals go_light
  all_goals (repeat (first | exact Below.refl _ _ | with_reducible apply below_alloc | with_reducible apply Below.drew | with_reducible refine Below.setCell ?_ (by dsimp only; omega) _ | with_reducible refine below_step ?_ hb1))

set_option maxHeartbeats 4000000 in
theorem doEq_pe (a b : Sp) (n1 : a.lo ≤ a.hi) (n2 : b.lo ≤ b.hi) (hc : (a.lo == a.hi) = true) (hd : (b.lo == b.hi) = true) (e1 : (a.lo == b.lo) = true) (e2 : (a.hi == b.hi) = true) (w : World) : Calls Tryd.prog 55 #[.int .i64 9, .agg #[.int .i64 a.lo, .int .i64 a.hi], .agg #[.int .i64 b.lo, .int .i64 b.hi]] w fun e w' => e = .returned (.tuple #[.agg #[.int .i64 (Sp.truth true (!a.meetOk b)).lo, .int .i64 (Sp.truth true (!a.meetOk b)).hi], .bool true]) ∧ Below w.heap.size w w' := by
  go_enter Tryd.func55, Tryd.ntmps55
  go_wp2_with (first
  | (go_at_call 82; go_in)
  | (
    go_at_call 89
    refine (truthP _ _ _).mono ?_
    rintro e w2 ⟨rfl, hb2⟩
    obtain ⟨hcc2, hff2⟩ := bcell hb2
    have hs2 := hb2.size
    simp at hs2
    have l2 : w.heap.size + 1 + 1 < w2.heap.size := (by omega)
    have m2 : w.heap.size + 1 < w2.heap.size := (by omega)
    have k2 : w.heap.size < w2.heap.size := (by omega))
  | (
    go_at_call 54
    refine (meetP a b _).mono ?_
    rintro e w1 ⟨rfl, hb1⟩
    obtain ⟨hcc1, hff1⟩ := bcell hb1
    have hs1 := hb1.size
    simp at hs1
    have l1 : w.heap.size + 1 + 1 < w1.heap.size := (by omega)
    have m1 : w.heap.size + 1 < w1.heap.size := (by omega)
    have k1 : w.heap.size < w1.heap.size := (by omega)))
  all_goals (try simp only [Exit.inBlock, Exit.then])
  all_goals refine ret_of ?_ rfl
  all_goals simp [results, Tryd.results55, go_sem, ltS, notS, *]
  all_goals go_light
  all_goals (repeat (first | exact Below.refl _ _ | with_reducible apply below_alloc | with_reducible apply Below.drew | with_reducible refine Below.setCell ?_ (by dsimp only; omega) _ | with_reducible refine below_step ?_ hb1 | with_reducible refine below_step ?_ hb2))

set_option maxHeartbeats 4000000 in
theorem doEq_pg (a b : Sp) (n1 : a.lo ≤ a.hi) (n2 : b.lo ≤ b.hi) (hc : (a.lo == a.hi) = true) (hd : (b.lo == b.hi) = true) (e1 : (a.lo == b.lo) = false) (w : World) : Calls Tryd.prog 55 #[.int .i64 9, .agg #[.int .i64 a.lo, .int .i64 a.hi], .agg #[.int .i64 b.lo, .int .i64 b.hi]] w fun e w' => e = .returned (.tuple #[.agg #[.int .i64 (Sp.truth false (!a.meetOk b)).lo, .int .i64 (Sp.truth false (!a.meetOk b)).hi], .bool true]) ∧ Below w.heap.size w w' := by
  go_enter Tryd.func55, Tryd.ntmps55
  go_wp2_with (first
  | (go_at_call 82; go_in)
  | (
    go_at_call 89
    refine (truthP _ _ _).mono ?_
    rintro e w2 ⟨rfl, hb2⟩
    obtain ⟨hcc2, hff2⟩ := bcell hb2
    have hs2 := hb2.size
    simp at hs2
    have l2 : w.heap.size + 1 + 1 < w2.heap.size := (by omega)
    have m2 : w.heap.size + 1 < w2.heap.size := (by omega)
    have k2 : w.heap.size < w2.heap.size := (by omega))
  | (
    go_at_call 54
    refine (meetP a b _).mono ?_
    rintro e w1 ⟨rfl, hb1⟩
    obtain ⟨hcc1, hff1⟩ := bcell hb1
    have hs1 := hb1.size
    simp at hs1
    have l1 : w.heap.size + 1 + 1 < w1.heap.size := (by omega)
    have m1 : w.heap.size + 1 < w1.heap.size := (by omega)
    have k1 : w.heap.size < w1.heap.size := (by omega)))
  all_goals (try simp only [Exit.inBlock, Exit.then])
  all_goals refine ret_of ?_ rfl
  all_goals simp [results, Tryd.results55, go_sem, ltS, notS, *]
  all_goals go_light
  all_goals (repeat (first | exact Below.refl _ _ | with_reducible apply below_alloc | with_reducible apply Below.drew | with_reducible refine Below.setCell ?_ (by dsimp only; omega) _ | with_reducible refine below_step ?_ hb1 | with_reducible refine below_step ?_ hb2))

set_option maxHeartbeats 4000000 in
theorem doLt_q (a b : Sp) (n1 : a.lo ≤ a.hi) (n2 : b.lo ≤ b.hi) (hc : (a.lo == a.hi) = true) (hd : (b.lo == b.hi) = false) (w : World) : Calls Tryd.prog 55 #[.int .i64 8, .agg #[.int .i64 a.lo, .int .i64 a.hi], .agg #[.int .i64 b.lo, .int .i64 b.hi]] w fun e w' => e = .returned (.tuple #[.agg #[.int .i64 (ltS a b).lo, .int .i64 (ltS a b).hi], .bool true]) ∧ Below w.heap.size w w' := by
  go_enter Tryd.func55, Tryd.ntmps55
  go_wp2_with (first
  | (go_at_call 82; go_in)
  | (
    go_at_call 89
    refine (truthP _ _ _).mono ?_
    rintro e w1 ⟨rfl, hb1⟩
    obtain ⟨hcc1, hff1⟩ := bcell hb1
    have hs1 := hb1.size
    simp at hs1
    have l1 : w.heap.size + 1 + 1 < w1.heap.size := (by omega)
    have m1 : w.heap.size + 1 < w1.heap.size := (by omega)
    have k1 : w.heap.size < w1.heap.size := (by omega)))
  all_goals (try simp only [Exit.inBlock, Exit.then])
  all_goals refine ret_of ?_ rfl
  all_goals simp [results, Tryd.results55, go_sem, ltS, notS, *]
  all_goals go_light
  all_goals (repeat (first | exact Below.refl _ _ | with_reducible apply below_alloc | with_reducible apply Below.drew | with_reducible refine Below.setCell ?_ (by dsimp only; omega) _ | with_reducible refine below_step ?_ hb1))

set_option maxHeartbeats 4000000 in
theorem doEq_qf (a b : Sp) (n1 : a.lo ≤ a.hi) (n2 : b.lo ≤ b.hi) (hc : (a.lo == a.hi) = true) (hd : (b.lo == b.hi) = false) (e1 : (a.lo == b.lo) = true) (e2 : (a.hi == b.hi) = false) (w : World) : Calls Tryd.prog 55 #[.int .i64 9, .agg #[.int .i64 a.lo, .int .i64 a.hi], .agg #[.int .i64 b.lo, .int .i64 b.hi]] w fun e w' => e = .returned (.tuple #[.agg #[.int .i64 (Sp.truth false (!a.meetOk b)).lo, .int .i64 (Sp.truth false (!a.meetOk b)).hi], .bool true]) ∧ Below w.heap.size w w' := by
  go_enter Tryd.func55, Tryd.ntmps55
  go_wp2_with (first
  | (go_at_call 82; go_in)
  | (
    go_at_call 89
    refine (truthP _ _ _).mono ?_
    rintro e w2 ⟨rfl, hb2⟩
    obtain ⟨hcc2, hff2⟩ := bcell hb2
    have hs2 := hb2.size
    simp at hs2
    have l2 : w.heap.size + 1 + 1 < w2.heap.size := (by omega)
    have m2 : w.heap.size + 1 < w2.heap.size := (by omega)
    have k2 : w.heap.size < w2.heap.size := (by omega))
  | (
    go_at_call 54
    refine (meetP a b _).mono ?_
    rintro e w1 ⟨rfl, hb1⟩
    obtain ⟨hcc1, hff1⟩ := bcell hb1
    have hs1 := hb1.size
    simp at hs1
    have l1 : w.heap.size + 1 + 1 < w1.heap.size := (by omega)
    have m1 : w.heap.size + 1 < w1.heap.size := (by omega)
    have k1 : w.heap.size < w1.heap.size := (by omega)))
  all_goals (try simp only [Exit.inBlock, Exit.then])
  all_goals refine ret_of ?_ rfl
  all_goals simp [results, Tryd.results55, go_sem, ltS, notS, *]
  all_goals go_light
  all_goals (repeat (first | exact Below.refl _ _ | with_reducible apply below_alloc | with_reducible apply Below.drew | with_reducible refine Below.setCell ?_ (by dsimp only; omega) _ | with_reducible refine below_step ?_ hb1 | with_reducible refine below_step ?_ hb2))

set_option maxHeartbeats 4000000 in
theorem doEq_qg (a b : Sp) (n1 : a.lo ≤ a.hi) (n2 : b.lo ≤ b.hi) (hc : (a.lo == a.hi) = true) (hd : (b.lo == b.hi) = false) (e1 : (a.lo == b.lo) = false) (w : World) : Calls Tryd.prog 55 #[.int .i64 9, .agg #[.int .i64 a.lo, .int .i64 a.hi], .agg #[.int .i64 b.lo, .int .i64 b.hi]] w fun e w' => e = .returned (.tuple #[.agg #[.int .i64 (Sp.truth false (!a.meetOk b)).lo, .int .i64 (Sp.truth false (!a.meetOk b)).hi], .bool true]) ∧ Below w.heap.size w w' := by
  go_enter Tryd.func55, Tryd.ntmps55
  go_wp2_with (first
  | (go_at_call 82; go_in)
  | (
    go_at_call 89
    refine (truthP _ _ _).mono ?_
    rintro e w2 ⟨rfl, hb2⟩
    obtain ⟨hcc2, hff2⟩ := bcell hb2
    have hs2 := hb2.size
    simp at hs2
    have l2 : w.heap.size + 1 + 1 < w2.heap.size := (by omega)
    have m2 : w.heap.size + 1 < w2.heap.size := (by omega)
    have k2 : w.heap.size < w2.heap.size := (by omega))
  | (
    go_at_call 54
    refine (meetP a b _).mono ?_
    rintro e w1 ⟨rfl, hb1⟩
    obtain ⟨hcc1, hff1⟩ := bcell hb1
    have hs1 := hb1.size
    simp at hs1
    have l1 : w.heap.size + 1 + 1 < w1.heap.size := (by omega)
    have m1 : w.heap.size + 1 < w1.heap.size := (by omega)
    have k1 : w.heap.size < w1.heap.size := (by omega)))
  all_goals (try simp only [Exit.inBlock, Exit.then])
  all_goals refine ret_of ?_ rfl
  all_goals simp [results, Tryd.results55, go_sem, ltS, notS, *]
  all_goals go_light
  all_goals (repeat (first | exact Below.refl _ _ | with_reducible apply below_alloc | with_reducible apply Below.drew | with_reducible refine Below.setCell ?_ (by dsimp only; omega) _ | with_reducible refine below_step ?_ hb1 | with_reducible refine below_step ?_ hb2))

set_option maxHeartbeats 4000000 in
theorem doLt_r (a b : Sp) (n1 : a.lo ≤ a.hi) (n2 : b.lo ≤ b.hi) (hc : (a.lo == a.hi) = false) (w : World) : Calls Tryd.prog 55 #[.int .i64 8, .agg #[.int .i64 a.lo, .int .i64 a.hi], .agg #[.int .i64 b.lo, .int .i64 b.hi]] w fun e w' => e = .returned (.tuple #[.agg #[.int .i64 (ltS a b).lo, .int .i64 (ltS a b).hi], .bool true]) ∧ Below w.heap.size w w' := by
  go_enter Tryd.func55, Tryd.ntmps55
  go_wp2_with (first
  | (go_at_call 82; go_in)
  | (
    go_at_call 89
    refine (truthP _ _ _).mono ?_
    rintro e w1 ⟨rfl, hb1⟩
    obtain ⟨hcc1, hff1⟩ := bcell hb1
    have hs1 := hb1.size
    simp at hs1
    have l1 : w.heap.size + 1 + 1 < w1.heap.size := (by omega)
    have m1 : w.heap.size + 1 < w1.heap.size := (by omega)
    have k1 : w.heap.size < w1.heap.size := (by omega)))
  all_goals (try simp only [Exit.inBlock, Exit.then])
  all_goals refine ret_of ?_ rfl
  all_goals simp [results, Tryd.results55, go_sem, ltS, notS, *]
  all_goals go_light
  all_goals (repeat (first | exact Below.refl _ _ | with_reducible apply below_alloc | with_reducible apply Below.drew | with_reducible refine Below.setCell ?_ (by dsimp only; omega) _ | with_reducible refine below_step ?_ hb1))

set_option maxHeartbeats 4000000 in
theorem doEq_re (a b : Sp) (n1 : a.lo ≤ a.hi) (n2 : b.lo ≤ b.hi) (hc : (a.lo == a.hi) = false) (e1 : (a.lo == b.lo) = true) (e2 : (a.hi == b.hi) = true) (w : World) : Calls Tryd.prog 55 #[.int .i64 9, .agg #[.int .i64 a.lo, .int .i64 a.hi], .agg #[.int .i64 b.lo, .int .i64 b.hi]] w fun e w' => e = .returned (.tuple #[.agg #[.int .i64 (Sp.truth false (!a.meetOk b)).lo, .int .i64 (Sp.truth false (!a.meetOk b)).hi], .bool true]) ∧ Below w.heap.size w w' := by
  go_enter Tryd.func55, Tryd.ntmps55
  go_wp2_with (first
  | (go_at_call 82; go_in)
  | (
    go_at_call 89
    refine (truthP _ _ _).mono ?_
    rintro e w2 ⟨rfl, hb2⟩
    obtain ⟨hcc2, hff2⟩ := bcell hb2
    have hs2 := hb2.size
    simp at hs2
    have l2 : w.heap.size + 1 + 1 < w2.heap.size := (by omega)
    have m2 : w.heap.size + 1 < w2.heap.size := (by omega)
    have k2 : w.heap.size < w2.heap.size := (by omega))
  | (
    go_at_call 54
    refine (meetP a b _).mono ?_
    rintro e w1 ⟨rfl, hb1⟩
    obtain ⟨hcc1, hff1⟩ := bcell hb1
    have hs1 := hb1.size
    simp at hs1
    have l1 : w.heap.size + 1 + 1 < w1.heap.size := (by omega)
    have m1 : w.heap.size + 1 < w1.heap.size := (by omega)
    have k1 : w.heap.size < w1.heap.size := (by omega)))
  all_goals (try simp only [Exit.inBlock, Exit.then])
  all_goals refine ret_of ?_ rfl
  all_goals simp [results, Tryd.results55, go_sem, ltS, notS, *]
  all_goals go_light
  all_goals (repeat (first | exact Below.refl _ _ | with_reducible apply below_alloc | with_reducible apply Below.drew | with_reducible refine Below.setCell ?_ (by dsimp only; omega) _ | with_reducible refine below_step ?_ hb1 | with_reducible refine below_step ?_ hb2))

set_option maxHeartbeats 4000000 in
theorem doEq_rf (a b : Sp) (n1 : a.lo ≤ a.hi) (n2 : b.lo ≤ b.hi) (hc : (a.lo == a.hi) = false) (e1 : (a.lo == b.lo) = true) (e2 : (a.hi == b.hi) = false) (w : World) : Calls Tryd.prog 55 #[.int .i64 9, .agg #[.int .i64 a.lo, .int .i64 a.hi], .agg #[.int .i64 b.lo, .int .i64 b.hi]] w fun e w' => e = .returned (.tuple #[.agg #[.int .i64 (Sp.truth false (!a.meetOk b)).lo, .int .i64 (Sp.truth false (!a.meetOk b)).hi], .bool true]) ∧ Below w.heap.size w w' := by
  go_enter Tryd.func55, Tryd.ntmps55
  go_wp2_with (first
  | (go_at_call 82; go_in)
  | (
    go_at_call 89
    refine (truthP _ _ _).mono ?_
    rintro e w2 ⟨rfl, hb2⟩
    obtain ⟨hcc2, hff2⟩ := bcell hb2
    have hs2 := hb2.size
    simp at hs2
    have l2 : w.heap.size + 1 + 1 < w2.heap.size := (by omega)
    have m2 : w.heap.size + 1 < w2.heap.size := (by omega)
    have k2 : w.heap.size < w2.heap.size := (by omega))
  | (
    go_at_call 54
    refine (meetP a b _).mono ?_
    rintro e w1 ⟨rfl, hb1⟩
    obtain ⟨hcc1, hff1⟩ := bcell hb1
    have hs1 := hb1.size
    simp at hs1
    have l1 : w.heap.size + 1 + 1 < w1.heap.size := (by omega)
    have m1 : w.heap.size + 1 < w1.heap.size := (by omega)
    have k1 : w.heap.size < w1.heap.size := (by omega)))
  all_goals (try simp only [Exit.inBlock, Exit.then])
  all_goals refine ret_of ?_ rfl
  all_goals simp [results, Tryd.results55, go_sem, ltS, notS, *]
  all_goals go_light
  all_goals (repeat (first | exact Below.refl _ _ | with_reducible apply below_alloc | with_reducible apply Below.drew | with_reducible refine Below.setCell ?_ (by dsimp only; omega) _ | with_reducible refine below_step ?_ hb1 | with_reducible refine below_step ?_ hb2))

set_option maxHeartbeats 4000000 in
theorem doEq_rg (a b : Sp) (n1 : a.lo ≤ a.hi) (n2 : b.lo ≤ b.hi) (hc : (a.lo == a.hi) = false) (e1 : (a.lo == b.lo) = false) (w : World) : Calls Tryd.prog 55 #[.int .i64 9, .agg #[.int .i64 a.lo, .int .i64 a.hi], .agg #[.int .i64 b.lo, .int .i64 b.hi]] w fun e w' => e = .returned (.tuple #[.agg #[.int .i64 (Sp.truth false (!a.meetOk b)).lo, .int .i64 (Sp.truth false (!a.meetOk b)).hi], .bool true]) ∧ Below w.heap.size w w' := by
  go_enter Tryd.func55, Tryd.ntmps55
  go_wp2_with (first
  | (go_at_call 82; go_in)
  | (
    go_at_call 89
    refine (truthP _ _ _).mono ?_
    rintro e w2 ⟨rfl, hb2⟩
    obtain ⟨hcc2, hff2⟩ := bcell hb2
    have hs2 := hb2.size
    simp at hs2
    have l2 : w.heap.size + 1 + 1 < w2.heap.size := (by omega)
    have m2 : w.heap.size + 1 < w2.heap.size := (by omega)
    have k2 : w.heap.size < w2.heap.size := (by omega))
  | (
    go_at_call 54
    refine (meetP a b _).mono ?_
    rintro e w1 ⟨rfl, hb1⟩
    obtain ⟨hcc1, hff1⟩ := bcell hb1
    have hs1 := hb1.size
    simp at hs1
    have l1 : w.heap.size + 1 + 1 < w1.heap.size := (by omega)
    have m1 : w.heap.size + 1 < w1.heap.size := (by omega)
    have k1 : w.heap.size < w1.heap.size := (by omega)))
  all_goals (try simp only [Exit.inBlock, Exit.then])
  all_goals refine ret_of ?_ rfl
  all_goals simp [results, Tryd.results55, go_sem, ltS, notS, *]
  all_goals go_light
  all_goals (repeat (first | exact Below.refl _ _ | with_reducible apply below_alloc | with_reducible apply Below.drew | with_reducible refine Below.setCell ?_ (by dsimp only; omega) _ | with_reducible refine below_step ?_ hb1 | with_reducible refine below_step ?_ hb2))

end Go.Proofs.YtddobhneplfddaaDoor

/-
  Layer 8 (span): the walks of span.Do, one for each operation and case.
-/
namespace Go.Proofs.YtddobhneplfddaaDoor
set_option maxRecDepth 100000
open Go.RowKit
set_option linter.unusedSimpArgs false
set_option linter.unusedVariables false
set_option maxRecDepth 100000
attribute [local go_sem ↓] Go.wp_at_zero Go.wp_at_succ

set_option maxHeartbeats 4000000 in
theorem doNot_apx (a b : Sp) (n1 : a.lo ≤ a.hi) (n2 : b.lo ≤ b.hi) (hc : (a.lo == a.hi) = true) (hd : (b.lo == b.hi) = true) (z1 : (a.lo == 0) = true) (z2 : (a.hi == 0) = true) (w : World) : Calls Tryd.prog 55 #[.int .i64 10, .agg #[.int .i64 a.lo, .int .i64 a.hi], .agg #[.int .i64 b.lo, .int .i64 b.hi]] w fun e w' => e = .returned (.tuple #[.agg #[.int .i64 (Sp.truth true (!a.has 0)).lo, .int .i64 (Sp.truth true (!a.has 0)).hi], .bool true]) ∧ Below w.heap.size w w' := by
  go_enter Tryd.func55, Tryd.ntmps55
  go_wp2_with (go_at_call 82; go_in)
  go_region_held3 (fun w' => w'.cell? ⟨w.heap.size, 0, none⟩ = some (.int .i64 a.lo) ∧ w'.cell? ⟨w.heap.size, 1, none⟩ = some (.int .i64 a.hi)) (first | exact keep2 (by assumption) (by assumption) | (go_simp; done)) (first
    | (go_at_call 90; refine (hasP a 0 _).mono ?_; rintro e w1 ⟨rfl, hb1⟩; obtain ⟨hcc1, hff1⟩ := bcell hb1; have hs1 := hb1.size; simp at hs1; have l1 : w.heap.size + 1 + 1 < w1.heap.size := (by omega); have m1 : w.heap.size + 1 < w1.heap.size := (by omega); have k1 : w.heap.size < w1.heap.size := (by omega))
    | (go_at_call 89; refine (truthP _ _ _).mono ?_; rintro e w2 ⟨rfl, hb2⟩; obtain ⟨hcc2, hff2⟩ := bcell hb2; have hs2 := hb2.size; have l2 : w.heap.size + 1 + 1 < w2.heap.size := (by omega)))
  go_wp2
  all_goals (try simp only [Exit.inBlock, Exit.then])
  all_goals refine ret_of ?_ rfl
  all_goals simp [results, Tryd.results55, go_sem, ltS, notS, *]
  all_goals go_light
  all_goals (repeat (first | exact Below.refl _ _ | with_reducible apply below_alloc | with_reducible apply Below.drew | with_reducible refine Below.setCell ?_ (by dsimp only; omega) _ | with_reducible refine below_step ?_ hb1 | with_reducible refine below_step ?_ hb2))

set_option maxHeartbeats 4000000 in
theorem doNot_apy (a b : Sp) (n1 : a.lo ≤ a.hi) (n2 : b.lo ≤ b.hi) (hc : (a.lo == a.hi) = true) (hd : (b.lo == b.hi) = true) (z1 : (a.lo == 0) = true) (z2 : (a.hi == 0) = false) (w : World) : Calls Tryd.prog 55 #[.int .i64 10, .agg #[.int .i64 a.lo, .int .i64 a.hi], .agg #[.int .i64 b.lo, .int .i64 b.hi]] w fun e w' => e = .returned (.tuple #[.agg #[.int .i64 (Sp.truth false (!a.has 0)).lo, .int .i64 (Sp.truth false (!a.has 0)).hi], .bool true]) ∧ Below w.heap.size w w' := by
  go_enter Tryd.func55, Tryd.ntmps55
  go_wp2_with (go_at_call 82; go_in)
  go_region_held3 (fun w' => w'.cell? ⟨w.heap.size, 0, none⟩ = some (.int .i64 a.lo) ∧ w'.cell? ⟨w.heap.size, 1, none⟩ = some (.int .i64 a.hi)) (first | exact keep2 (by assumption) (by assumption) | (go_simp; done)) (first
    | (go_at_call 90; refine (hasP a 0 _).mono ?_; rintro e w1 ⟨rfl, hb1⟩; obtain ⟨hcc1, hff1⟩ := bcell hb1; have hs1 := hb1.size; simp at hs1; have l1 : w.heap.size + 1 + 1 < w1.heap.size := (by omega); have m1 : w.heap.size + 1 < w1.heap.size := (by omega); have k1 : w.heap.size < w1.heap.size := (by omega))
    | (go_at_call 89; refine (truthP _ _ _).mono ?_; rintro e w2 ⟨rfl, hb2⟩; obtain ⟨hcc2, hff2⟩ := bcell hb2; have hs2 := hb2.size; have l2 : w.heap.size + 1 + 1 < w2.heap.size := (by omega)))
  go_wp2
  all_goals (try simp only [Exit.inBlock, Exit.then])
  all_goals refine ret_of ?_ rfl
  all_goals simp [results, Tryd.results55, go_sem, ltS, notS, *]
  all_goals go_light
  all_goals (repeat (first | exact Below.refl _ _ | with_reducible apply below_alloc | with_reducible apply Below.drew | with_reducible refine Below.setCell ?_ (by dsimp only; omega) _ | with_reducible refine below_step ?_ hb1 | with_reducible refine below_step ?_ hb2))

set_option maxHeartbeats 4000000 in
theorem doNot_apz (a b : Sp) (n1 : a.lo ≤ a.hi) (n2 : b.lo ≤ b.hi) (hc : (a.lo == a.hi) = true) (hd : (b.lo == b.hi) = true) (z1 : (a.lo == 0) = false) (w : World) : Calls Tryd.prog 55 #[.int .i64 10, .agg #[.int .i64 a.lo, .int .i64 a.hi], .agg #[.int .i64 b.lo, .int .i64 b.hi]] w fun e w' => e = .returned (.tuple #[.agg #[.int .i64 (Sp.truth false (!a.has 0)).lo, .int .i64 (Sp.truth false (!a.has 0)).hi], .bool true]) ∧ Below w.heap.size w w' := by
  go_enter Tryd.func55, Tryd.ntmps55
  go_wp2_with (go_at_call 82; go_in)
  go_region_held3 (fun w' => w'.cell? ⟨w.heap.size, 0, none⟩ = some (.int .i64 a.lo) ∧ w'.cell? ⟨w.heap.size, 1, none⟩ = some (.int .i64 a.hi)) (first | exact keep2 (by assumption) (by assumption) | (go_simp; done)) (first
    | (go_at_call 90; refine (hasP a 0 _).mono ?_; rintro e w1 ⟨rfl, hb1⟩; obtain ⟨hcc1, hff1⟩ := bcell hb1; have hs1 := hb1.size; simp at hs1; have l1 : w.heap.size + 1 + 1 < w1.heap.size := (by omega); have m1 : w.heap.size + 1 < w1.heap.size := (by omega); have k1 : w.heap.size < w1.heap.size := (by omega))
    | (go_at_call 89; refine (truthP _ _ _).mono ?_; rintro e w2 ⟨rfl, hb2⟩; obtain ⟨hcc2, hff2⟩ := bcell hb2; have hs2 := hb2.size; have l2 : w.heap.size + 1 + 1 < w2.heap.size := (by omega)))
  go_wp2
  all_goals (try simp only [Exit.inBlock, Exit.then])
  all_goals refine ret_of ?_ rfl
  all_goals simp [results, Tryd.results55, go_sem, ltS, notS, *]
  all_goals go_light
  all_goals (repeat (first | exact Below.refl _ _ | with_reducible apply below_alloc | with_reducible apply Below.drew | with_reducible refine Below.setCell ?_ (by dsimp only; omega) _ | with_reducible refine below_step ?_ hb1 | with_reducible refine below_step ?_ hb2))

set_option maxHeartbeats 4000000 in
theorem doNot_aqx (a b : Sp) (n1 : a.lo ≤ a.hi) (n2 : b.lo ≤ b.hi) (hc : (a.lo == a.hi) = true) (hd : (b.lo == b.hi) = false) (z1 : (a.lo == 0) = true) (z2 : (a.hi == 0) = true) (w : World) : Calls Tryd.prog 55 #[.int .i64 10, .agg #[.int .i64 a.lo, .int .i64 a.hi], .agg #[.int .i64 b.lo, .int .i64 b.hi]] w fun e w' => e = .returned (.tuple #[.agg #[.int .i64 (Sp.truth true (!a.has 0)).lo, .int .i64 (Sp.truth true (!a.has 0)).hi], .bool true]) ∧ Below w.heap.size w w' := by
  go_enter Tryd.func55, Tryd.ntmps55
  go_wp2_with (go_at_call 82; go_in)
  go_region_held3 (fun w' => w'.cell? ⟨w.heap.size, 0, none⟩ = some (.int .i64 a.lo) ∧ w'.cell? ⟨w.heap.size, 1, none⟩ = some (.int .i64 a.hi)) (first | exact keep2 (by assumption) (by assumption) | (go_simp; done)) (first
    | (go_at_call 90; refine (hasP a 0 _).mono ?_; rintro e w1 ⟨rfl, hb1⟩; obtain ⟨hcc1, hff1⟩ := bcell hb1; have hs1 := hb1.size; simp at hs1; have l1 : w.heap.size + 1 + 1 < w1.heap.size := (by omega); have m1 : w.heap.size + 1 < w1.heap.size := (by omega); have k1 : w.heap.size < w1.heap.size := (by omega))
    | (go_at_call 89; refine (truthP _ _ _).mono ?_; rintro e w2 ⟨rfl, hb2⟩; obtain ⟨hcc2, hff2⟩ := bcell hb2; have hs2 := hb2.size; have l2 : w.heap.size + 1 + 1 < w2.heap.size := (by omega)))
  go_wp2
  all_goals (try simp only [Exit.inBlock, Exit.then])
  all_goals refine ret_of ?_ rfl
  all_goals simp [results, Tryd.results55, go_sem, ltS, notS, *]
  all_goals go_light
  all_goals (repeat (first | exact Below.refl _ _ | with_reducible apply below_alloc | with_reducible apply Below.drew | with_reducible refine Below.setCell ?_ (by dsimp only; omega) _ | with_reducible refine below_step ?_ hb1 | with_reducible refine below_step ?_ hb2))

set_option maxHeartbeats 4000000 in
theorem doNot_aqy (a b : Sp) (n1 : a.lo ≤ a.hi) (n2 : b.lo ≤ b.hi) (hc : (a.lo == a.hi) = true) (hd : (b.lo == b.hi) = false) (z1 : (a.lo == 0) = true) (z2 : (a.hi == 0) = false) (w : World) : Calls Tryd.prog 55 #[.int .i64 10, .agg #[.int .i64 a.lo, .int .i64 a.hi], .agg #[.int .i64 b.lo, .int .i64 b.hi]] w fun e w' => e = .returned (.tuple #[.agg #[.int .i64 (Sp.truth false (!a.has 0)).lo, .int .i64 (Sp.truth false (!a.has 0)).hi], .bool true]) ∧ Below w.heap.size w w' := by
  go_enter Tryd.func55, Tryd.ntmps55
  go_wp2_with (go_at_call 82; go_in)
  go_region_held3 (fun w' => w'.cell? ⟨w.heap.size, 0, none⟩ = some (.int .i64 a.lo) ∧ w'.cell? ⟨w.heap.size, 1, none⟩ = some (.int .i64 a.hi)) (first | exact keep2 (by assumption) (by assumption) | (go_simp; done)) (first
    | (go_at_call 90; refine (hasP a 0 _).mono ?_; rintro e w1 ⟨rfl, hb1⟩; obtain ⟨hcc1, hff1⟩ := bcell hb1; have hs1 := hb1.size; simp at hs1; have l1 : w.heap.size + 1 + 1 < w1.heap.size := (by omega); have m1 : w.heap.size + 1 < w1.heap.size := (by omega); have k1 : w.heap.size < w1.heap.size := (by omega))
    | (go_at_call 89; refine (truthP _ _ _).mono ?_; rintro e w2 ⟨rfl, hb2⟩; obtain ⟨hcc2, hff2⟩ := bcell hb2; have hs2 := hb2.size; have l2 : w.heap.size + 1 + 1 < w2.heap.size := (by omega)))
  go_wp2
  all_goals (try simp only [Exit.inBlock, Exit.then])
  all_goals refine ret_of ?_ rfl
  all_goals simp [results, Tryd.results55, go_sem, ltS, notS, *]
  all_goals go_light
  all_goals (repeat (first | exact Below.refl _ _ | with_reducible apply below_alloc | with_reducible apply Below.drew | with_reducible refine Below.setCell ?_ (by dsimp only; omega) _ | with_reducible refine below_step ?_ hb1 | with_reducible refine below_step ?_ hb2))

set_option maxHeartbeats 4000000 in
theorem doNot_aqz (a b : Sp) (n1 : a.lo ≤ a.hi) (n2 : b.lo ≤ b.hi) (hc : (a.lo == a.hi) = true) (hd : (b.lo == b.hi) = false) (z1 : (a.lo == 0) = false) (w : World) : Calls Tryd.prog 55 #[.int .i64 10, .agg #[.int .i64 a.lo, .int .i64 a.hi], .agg #[.int .i64 b.lo, .int .i64 b.hi]] w fun e w' => e = .returned (.tuple #[.agg #[.int .i64 (Sp.truth false (!a.has 0)).lo, .int .i64 (Sp.truth false (!a.has 0)).hi], .bool true]) ∧ Below w.heap.size w w' := by
  go_enter Tryd.func55, Tryd.ntmps55
  go_wp2_with (go_at_call 82; go_in)
  go_region_held3 (fun w' => w'.cell? ⟨w.heap.size, 0, none⟩ = some (.int .i64 a.lo) ∧ w'.cell? ⟨w.heap.size, 1, none⟩ = some (.int .i64 a.hi)) (first | exact keep2 (by assumption) (by assumption) | (go_simp; done)) (first
    | (go_at_call 90; refine (hasP a 0 _).mono ?_; rintro e w1 ⟨rfl, hb1⟩; obtain ⟨hcc1, hff1⟩ := bcell hb1; have hs1 := hb1.size; simp at hs1; have l1 : w.heap.size + 1 + 1 < w1.heap.size := (by omega); have m1 : w.heap.size + 1 < w1.heap.size := (by omega); have k1 : w.heap.size < w1.heap.size := (by omega))
    | (go_at_call 89; refine (truthP _ _ _).mono ?_; rintro e w2 ⟨rfl, hb2⟩; obtain ⟨hcc2, hff2⟩ := bcell hb2; have hs2 := hb2.size; have l2 : w.heap.size + 1 + 1 < w2.heap.size := (by omega)))
  go_wp2
  all_goals (try simp only [Exit.inBlock, Exit.then])
  all_goals refine ret_of ?_ rfl
  all_goals simp [results, Tryd.results55, go_sem, ltS, notS, *]
  all_goals go_light
  all_goals (repeat (first | exact Below.refl _ _ | with_reducible apply below_alloc | with_reducible apply Below.drew | with_reducible refine Below.setCell ?_ (by dsimp only; omega) _ | with_reducible refine below_step ?_ hb1 | with_reducible refine below_step ?_ hb2))

set_option maxHeartbeats 4000000 in
theorem doNot_arx (a b : Sp) (n1 : a.lo ≤ a.hi) (n2 : b.lo ≤ b.hi) (hc : (a.lo == a.hi) = false) (z1 : (a.lo == 0) = true) (z2 : (a.hi == 0) = true) (w : World) : Calls Tryd.prog 55 #[.int .i64 10, .agg #[.int .i64 a.lo, .int .i64 a.hi], .agg #[.int .i64 b.lo, .int .i64 b.hi]] w fun e w' => e = .returned (.tuple #[.agg #[.int .i64 (Sp.truth true (!a.has 0)).lo, .int .i64 (Sp.truth true (!a.has 0)).hi], .bool true]) ∧ Below w.heap.size w w' := by
  go_enter Tryd.func55, Tryd.ntmps55
  go_wp2_with (go_at_call 82; go_in)
  go_region_held3 (fun w' => w'.cell? ⟨w.heap.size, 0, none⟩ = some (.int .i64 a.lo) ∧ w'.cell? ⟨w.heap.size, 1, none⟩ = some (.int .i64 a.hi)) (first | exact keep2 (by assumption) (by assumption) | (go_simp; done)) (first
    | (go_at_call 90; refine (hasP a 0 _).mono ?_; rintro e w1 ⟨rfl, hb1⟩; obtain ⟨hcc1, hff1⟩ := bcell hb1; have hs1 := hb1.size; simp at hs1; have l1 : w.heap.size + 1 + 1 < w1.heap.size := (by omega); have m1 : w.heap.size + 1 < w1.heap.size := (by omega); have k1 : w.heap.size < w1.heap.size := (by omega))
    | (go_at_call 89; refine (truthP _ _ _).mono ?_; rintro e w2 ⟨rfl, hb2⟩; obtain ⟨hcc2, hff2⟩ := bcell hb2; have hs2 := hb2.size; have l2 : w.heap.size + 1 + 1 < w2.heap.size := (by omega)))
  go_wp2
  all_goals (try simp only [Exit.inBlock, Exit.then])
  all_goals refine ret_of ?_ rfl
  all_goals simp [results, Tryd.results55, go_sem, ltS, notS, *]
  all_goals go_light
  all_goals (repeat (first | exact Below.refl _ _ | with_reducible apply below_alloc | with_reducible apply Below.drew | with_reducible refine Below.setCell ?_ (by dsimp only; omega) _ | with_reducible refine below_step ?_ hb1 | with_reducible refine below_step ?_ hb2))

set_option maxHeartbeats 4000000 in
theorem doNot_ary (a b : Sp) (n1 : a.lo ≤ a.hi) (n2 : b.lo ≤ b.hi) (hc : (a.lo == a.hi) = false) (z1 : (a.lo == 0) = true) (z2 : (a.hi == 0) = false) (w : World) : Calls Tryd.prog 55 #[.int .i64 10, .agg #[.int .i64 a.lo, .int .i64 a.hi], .agg #[.int .i64 b.lo, .int .i64 b.hi]] w fun e w' => e = .returned (.tuple #[.agg #[.int .i64 (Sp.truth false (!a.has 0)).lo, .int .i64 (Sp.truth false (!a.has 0)).hi], .bool true]) ∧ Below w.heap.size w w' := by
  go_enter Tryd.func55, Tryd.ntmps55
  go_wp2_with (go_at_call 82; go_in)
  go_region_held3 (fun w' => w'.cell? ⟨w.heap.size, 0, none⟩ = some (.int .i64 a.lo) ∧ w'.cell? ⟨w.heap.size, 1, none⟩ = some (.int .i64 a.hi)) (first | exact keep2 (by assumption) (by assumption) | (go_simp; done)) (first
    | (go_at_call 90; refine (hasP a 0 _).mono ?_; rintro e w1 ⟨rfl, hb1⟩; obtain ⟨hcc1, hff1⟩ := bcell hb1; have hs1 := hb1.size; simp at hs1; have l1 : w.heap.size + 1 + 1 < w1.heap.size := (by omega); have m1 : w.heap.size + 1 < w1.heap.size := (by omega); have k1 : w.heap.size < w1.heap.size := (by omega))
    | (go_at_call 89; refine (truthP _ _ _).mono ?_; rintro e w2 ⟨rfl, hb2⟩; obtain ⟨hcc2, hff2⟩ := bcell hb2; have hs2 := hb2.size; have l2 : w.heap.size + 1 + 1 < w2.heap.size := (by omega)))
  go_wp2
  all_goals (try simp only [Exit.inBlock, Exit.then])
  all_goals refine ret_of ?_ rfl
  all_goals simp [results, Tryd.results55, go_sem, ltS, notS, *]
  all_goals go_light
  all_goals (repeat (first | exact Below.refl _ _ | with_reducible apply below_alloc | with_reducible apply Below.drew | with_reducible refine Below.setCell ?_ (by dsimp only; omega) _ | with_reducible refine below_step ?_ hb1 | with_reducible refine below_step ?_ hb2))

set_option maxHeartbeats 4000000 in
theorem doNot_arz (a b : Sp) (n1 : a.lo ≤ a.hi) (n2 : b.lo ≤ b.hi) (hc : (a.lo == a.hi) = false) (z1 : (a.lo == 0) = false) (w : World) : Calls Tryd.prog 55 #[.int .i64 10, .agg #[.int .i64 a.lo, .int .i64 a.hi], .agg #[.int .i64 b.lo, .int .i64 b.hi]] w fun e w' => e = .returned (.tuple #[.agg #[.int .i64 (Sp.truth false (!a.has 0)).lo, .int .i64 (Sp.truth false (!a.has 0)).hi], .bool true]) ∧ Below w.heap.size w w' := by
  go_enter Tryd.func55, Tryd.ntmps55
  go_wp2_with (go_at_call 82; go_in)
  go_region_held3 (fun w' => w'.cell? ⟨w.heap.size, 0, none⟩ = some (.int .i64 a.lo) ∧ w'.cell? ⟨w.heap.size, 1, none⟩ = some (.int .i64 a.hi)) (first | exact keep2 (by assumption) (by assumption) | (go_simp; done)) (first
    | (go_at_call 90; refine (hasP a 0 _).mono ?_; rintro e w1 ⟨rfl, hb1⟩; obtain ⟨hcc1, hff1⟩ := bcell hb1; have hs1 := hb1.size; simp at hs1; have l1 : w.heap.size + 1 + 1 < w1.heap.size := (by omega); have m1 : w.heap.size + 1 < w1.heap.size := (by omega); have k1 : w.heap.size < w1.heap.size := (by omega))
    | (go_at_call 89; refine (truthP _ _ _).mono ?_; rintro e w2 ⟨rfl, hb2⟩; obtain ⟨hcc2, hff2⟩ := bcell hb2; have hs2 := hb2.size; have l2 : w.heap.size + 1 + 1 < w2.heap.size := (by omega)))
  go_wp2
  all_goals (try simp only [Exit.inBlock, Exit.then])
  all_goals refine ret_of ?_ rfl
  all_goals simp [results, Tryd.results55, go_sem, ltS, notS, *]
  all_goals go_light
  all_goals (repeat (first | exact Below.refl _ _ | with_reducible apply below_alloc | with_reducible apply Below.drew | with_reducible refine Below.setCell ?_ (by dsimp only; omega) _ | with_reducible refine below_step ?_ hb1 | with_reducible refine below_step ?_ hb2))

end Go.Proofs.YtddobhneplfddaaDoor

/-
  Layer 8 (span): the walks of span.Do, one for each operation and case.
-/
namespace Go.Proofs.YtddobhneplfddaaDoor
set_option maxRecDepth 100000
open Go.RowKit
set_option linter.unusedSimpArgs false
set_option linter.unusedVariables false
set_option maxRecDepth 100000
attribute [local go_sem ↓] Go.wp_at_zero Go.wp_at_succ

set_option maxHeartbeats 4000000 in
theorem doNot_bqx (a b : Sp) (n1 : a.lo ≤ a.hi) (n2 : b.hi < b.lo) (hc : (a.lo == a.hi) = true) (hd : (b.lo == b.hi) = false) (z1 : (a.lo == 0) = true) (z2 : (a.hi == 0) = true) (w : World) : Calls Tryd.prog 55 #[.int .i64 10, .agg #[.int .i64 a.lo, .int .i64 a.hi], .agg #[.int .i64 b.lo, .int .i64 b.hi]] w fun e w' => e = .returned (.tuple #[.agg #[.int .i64 (Sp.truth true (!a.has 0)).lo, .int .i64 (Sp.truth true (!a.has 0)).hi], .bool true]) ∧ Below w.heap.size w w' := by
  go_enter Tryd.func55, Tryd.ntmps55
  go_wp2_with (go_at_call 82; go_in)
  go_region_held3 (fun w' => w'.cell? ⟨w.heap.size, 0, none⟩ = some (.int .i64 a.lo) ∧ w'.cell? ⟨w.heap.size, 1, none⟩ = some (.int .i64 a.hi)) (first | exact keep2 (by assumption) (by assumption) | (go_simp; done)) (first
    | (go_at_call 90; refine (hasP a 0 _).mono ?_; rintro e w1 ⟨rfl, hb1⟩; obtain ⟨hcc1, hff1⟩ := bcell hb1; have hs1 := hb1.size; simp at hs1; have l1 : w.heap.size + 1 + 1 < w1.heap.size := (by omega); have m1 : w.heap.size + 1 < w1.heap.size := (by omega); have k1 : w.heap.size < w1.heap.size := (by omega))
    | (go_at_call 89; refine (truthP _ _ _).mono ?_; rintro e w2 ⟨rfl, hb2⟩; obtain ⟨hcc2, hff2⟩ := bcell hb2; have hs2 := hb2.size; have l2 : w.heap.size + 1 + 1 < w2.heap.size := (by omega)))
  go_wp2
  all_goals (try simp only [Exit.inBlock, Exit.then])
  all_goals refine ret_of ?_ rfl
  all_goals simp [results, Tryd.results55, go_sem, ltS, notS, *]
  all_goals go_light
  all_goals (repeat (first | exact Below.refl _ _ | with_reducible apply below_alloc | with_reducible apply Below.drew | with_reducible refine Below.setCell ?_ (by dsimp only; omega) _ | with_reducible refine below_step ?_ hb1 | with_reducible refine below_step ?_ hb2))

set_option maxHeartbeats 4000000 in
theorem doNot_bqy (a b : Sp) (n1 : a.lo ≤ a.hi) (n2 : b.hi < b.lo) (hc : (a.lo == a.hi) = true) (hd : (b.lo == b.hi) = false) (z1 : (a.lo == 0) = true) (z2 : (a.hi == 0) = false) (w : World) : Calls Tryd.prog 55 #[.int .i64 10, .agg #[.int .i64 a.lo, .int .i64 a.hi], .agg #[.int .i64 b.lo, .int .i64 b.hi]] w fun e w' => e = .returned (.tuple #[.agg #[.int .i64 (Sp.truth false (!a.has 0)).lo, .int .i64 (Sp.truth false (!a.has 0)).hi], .bool true]) ∧ Below w.heap.size w w' := by
  go_enter Tryd.func55, Tryd.ntmps55
  go_wp2_with (go_at_call 82; go_in)
  go_region_held3 (fun w' => w'.cell? ⟨w.heap.size, 0, none⟩ = some (.int .i64 a.lo) ∧ w'.cell? ⟨w.heap.size, 1, none⟩ = some (.int .i64 a.hi)) (first | exact keep2 (by assumption) (by assumption) | (go_simp; done)) (first
    | (go_at_call 90; refine (hasP a 0 _).mono ?_; rintro e w1 ⟨rfl, hb1⟩; obtain ⟨hcc1, hff1⟩ := bcell hb1; have hs1 := hb1.size; simp at hs1; have l1 : w.heap.size + 1 + 1 < w1.heap.size := (by omega); have m1 : w.heap.size + 1 < w1.heap.size := (by omega); have k1 : w.heap.size < w1.heap.size := (by omega))
    | (go_at_call 89; refine (truthP _ _ _).mono ?_; rintro e w2 ⟨rfl, hb2⟩; obtain ⟨hcc2, hff2⟩ := bcell hb2; have hs2 := hb2.size; have l2 : w.heap.size + 1 + 1 < w2.heap.size := (by omega)))
  go_wp2
  all_goals (try simp only [Exit.inBlock, Exit.then])
  all_goals refine ret_of ?_ rfl
  all_goals simp [results, Tryd.results55, go_sem, ltS, notS, *]
  all_goals go_light
  all_goals (repeat (first | exact Below.refl _ _ | with_reducible apply below_alloc | with_reducible apply Below.drew | with_reducible refine Below.setCell ?_ (by dsimp only; omega) _ | with_reducible refine below_step ?_ hb1 | with_reducible refine below_step ?_ hb2))

set_option maxHeartbeats 4000000 in
theorem doNot_bqz (a b : Sp) (n1 : a.lo ≤ a.hi) (n2 : b.hi < b.lo) (hc : (a.lo == a.hi) = true) (hd : (b.lo == b.hi) = false) (z1 : (a.lo == 0) = false) (w : World) : Calls Tryd.prog 55 #[.int .i64 10, .agg #[.int .i64 a.lo, .int .i64 a.hi], .agg #[.int .i64 b.lo, .int .i64 b.hi]] w fun e w' => e = .returned (.tuple #[.agg #[.int .i64 (Sp.truth false (!a.has 0)).lo, .int .i64 (Sp.truth false (!a.has 0)).hi], .bool true]) ∧ Below w.heap.size w w' := by
  go_enter Tryd.func55, Tryd.ntmps55
  go_wp2_with (go_at_call 82; go_in)
  go_region_held3 (fun w' => w'.cell? ⟨w.heap.size, 0, none⟩ = some (.int .i64 a.lo) ∧ w'.cell? ⟨w.heap.size, 1, none⟩ = some (.int .i64 a.hi)) (first | exact keep2 (by assumption) (by assumption) | (go_simp; done)) (first
    | (go_at_call 90; refine (hasP a 0 _).mono ?_; rintro e w1 ⟨rfl, hb1⟩; obtain ⟨hcc1, hff1⟩ := bcell hb1; have hs1 := hb1.size; simp at hs1; have l1 : w.heap.size + 1 + 1 < w1.heap.size := (by omega); have m1 : w.heap.size + 1 < w1.heap.size := (by omega); have k1 : w.heap.size < w1.heap.size := (by omega))
    | (go_at_call 89; refine (truthP _ _ _).mono ?_; rintro e w2 ⟨rfl, hb2⟩; obtain ⟨hcc2, hff2⟩ := bcell hb2; have hs2 := hb2.size; have l2 : w.heap.size + 1 + 1 < w2.heap.size := (by omega)))
  go_wp2
  all_goals (try simp only [Exit.inBlock, Exit.then])
  all_goals refine ret_of ?_ rfl
  all_goals simp [results, Tryd.results55, go_sem, ltS, notS, *]
  all_goals go_light
  all_goals (repeat (first | exact Below.refl _ _ | with_reducible apply below_alloc | with_reducible apply Below.drew | with_reducible refine Below.setCell ?_ (by dsimp only; omega) _ | with_reducible refine below_step ?_ hb1 | with_reducible refine below_step ?_ hb2))

set_option maxHeartbeats 4000000 in
theorem doNot_brx (a b : Sp) (n1 : a.lo ≤ a.hi) (n2 : b.hi < b.lo) (hc : (a.lo == a.hi) = false) (z1 : (a.lo == 0) = true) (z2 : (a.hi == 0) = true) (w : World) : Calls Tryd.prog 55 #[.int .i64 10, .agg #[.int .i64 a.lo, .int .i64 a.hi], .agg #[.int .i64 b.lo, .int .i64 b.hi]] w fun e w' => e = .returned (.tuple #[.agg #[.int .i64 (Sp.truth true (!a.has 0)).lo, .int .i64 (Sp.truth true (!a.has 0)).hi], .bool true]) ∧ Below w.heap.size w w' := by
  go_enter Tryd.func55, Tryd.ntmps55
  go_wp2_with (go_at_call 82; go_in)
  go_region_held3 (fun w' => w'.cell? ⟨w.heap.size, 0, none⟩ = some (.int .i64 a.lo) ∧ w'.cell? ⟨w.heap.size, 1, none⟩ = some (.int .i64 a.hi)) (first | exact keep2 (by assumption) (by assumption) | (go_simp; done)) (first
    | (go_at_call 90; refine (hasP a 0 _).mono ?_; rintro e w1 ⟨rfl, hb1⟩; obtain ⟨hcc1, hff1⟩ := bcell hb1; have hs1 := hb1.size; simp at hs1; have l1 : w.heap.size + 1 + 1 < w1.heap.size := (by omega); have m1 : w.heap.size + 1 < w1.heap.size := (by omega); have k1 : w.heap.size < w1.heap.size := (by omega))
    | (go_at_call 89; refine (truthP _ _ _).mono ?_; rintro e w2 ⟨rfl, hb2⟩; obtain ⟨hcc2, hff2⟩ := bcell hb2; have hs2 := hb2.size; have l2 : w.heap.size + 1 + 1 < w2.heap.size := (by omega)))
  go_wp2
  all_goals (try simp only [Exit.inBlock, Exit.then])
  all_goals refine ret_of ?_ rfl
  all_goals simp [results, Tryd.results55, go_sem, ltS, notS, *]
  all_goals go_light
  all_goals (repeat (first | exact Below.refl _ _ | with_reducible apply below_alloc | with_reducible apply Below.drew | with_reducible refine Below.setCell ?_ (by dsimp only; omega) _ | with_reducible refine below_step ?_ hb1 | with_reducible refine below_step ?_ hb2))

set_option maxHeartbeats 4000000 in
theorem doNot_bry (a b : Sp) (n1 : a.lo ≤ a.hi) (n2 : b.hi < b.lo) (hc : (a.lo == a.hi) = false) (z1 : (a.lo == 0) = true) (z2 : (a.hi == 0) = false) (w : World) : Calls Tryd.prog 55 #[.int .i64 10, .agg #[.int .i64 a.lo, .int .i64 a.hi], .agg #[.int .i64 b.lo, .int .i64 b.hi]] w fun e w' => e = .returned (.tuple #[.agg #[.int .i64 (Sp.truth false (!a.has 0)).lo, .int .i64 (Sp.truth false (!a.has 0)).hi], .bool true]) ∧ Below w.heap.size w w' := by
  go_enter Tryd.func55, Tryd.ntmps55
  go_wp2_with (go_at_call 82; go_in)
  go_region_held3 (fun w' => w'.cell? ⟨w.heap.size, 0, none⟩ = some (.int .i64 a.lo) ∧ w'.cell? ⟨w.heap.size, 1, none⟩ = some (.int .i64 a.hi)) (first | exact keep2 (by assumption) (by assumption) | (go_simp; done)) (first
    | (go_at_call 90; refine (hasP a 0 _).mono ?_; rintro e w1 ⟨rfl, hb1⟩; obtain ⟨hcc1, hff1⟩ := bcell hb1; have hs1 := hb1.size; simp at hs1; have l1 : w.heap.size + 1 + 1 < w1.heap.size := (by omega); have m1 : w.heap.size + 1 < w1.heap.size := (by omega); have k1 : w.heap.size < w1.heap.size := (by omega))
    | (go_at_call 89; refine (truthP _ _ _).mono ?_; rintro e w2 ⟨rfl, hb2⟩; obtain ⟨hcc2, hff2⟩ := bcell hb2; have hs2 := hb2.size; have l2 : w.heap.size + 1 + 1 < w2.heap.size := (by omega)))
  go_wp2
  all_goals (try simp only [Exit.inBlock, Exit.then])
  all_goals refine ret_of ?_ rfl
  all_goals simp [results, Tryd.results55, go_sem, ltS, notS, *]
  all_goals go_light
  all_goals (repeat (first | exact Below.refl _ _ | with_reducible apply below_alloc | with_reducible apply Below.drew | with_reducible refine Below.setCell ?_ (by dsimp only; omega) _ | with_reducible refine below_step ?_ hb1 | with_reducible refine below_step ?_ hb2))

set_option maxHeartbeats 4000000 in
theorem doNot_brz (a b : Sp) (n1 : a.lo ≤ a.hi) (n2 : b.hi < b.lo) (hc : (a.lo == a.hi) = false) (z1 : (a.lo == 0) = false) (w : World) : Calls Tryd.prog 55 #[.int .i64 10, .agg #[.int .i64 a.lo, .int .i64 a.hi], .agg #[.int .i64 b.lo, .int .i64 b.hi]] w fun e w' => e = .returned (.tuple #[.agg #[.int .i64 (Sp.truth false (!a.has 0)).lo, .int .i64 (Sp.truth false (!a.has 0)).hi], .bool true]) ∧ Below w.heap.size w w' := by
  go_enter Tryd.func55, Tryd.ntmps55
  go_wp2_with (go_at_call 82; go_in)
  go_region_held3 (fun w' => w'.cell? ⟨w.heap.size, 0, none⟩ = some (.int .i64 a.lo) ∧ w'.cell? ⟨w.heap.size, 1, none⟩ = some (.int .i64 a.hi)) (first | exact keep2 (by assumption) (by assumption) | (go_simp; done)) (first
    | (go_at_call 90; refine (hasP a 0 _).mono ?_; rintro e w1 ⟨rfl, hb1⟩; obtain ⟨hcc1, hff1⟩ := bcell hb1; have hs1 := hb1.size; simp at hs1; have l1 : w.heap.size + 1 + 1 < w1.heap.size := (by omega); have m1 : w.heap.size + 1 < w1.heap.size := (by omega); have k1 : w.heap.size < w1.heap.size := (by omega))
    | (go_at_call 89; refine (truthP _ _ _).mono ?_; rintro e w2 ⟨rfl, hb2⟩; obtain ⟨hcc2, hff2⟩ := bcell hb2; have hs2 := hb2.size; have l2 : w.heap.size + 1 + 1 < w2.heap.size := (by omega)))
  go_wp2
  all_goals (try simp only [Exit.inBlock, Exit.then])
  all_goals refine ret_of ?_ rfl
  all_goals simp [results, Tryd.results55, go_sem, ltS, notS, *]
  all_goals go_light
  all_goals (repeat (first | exact Below.refl _ _ | with_reducible apply below_alloc | with_reducible apply Below.drew | with_reducible refine Below.setCell ?_ (by dsimp only; omega) _ | with_reducible refine below_step ?_ hb1 | with_reducible refine below_step ?_ hb2))

end Go.Proofs.YtddobhneplfddaaDoor

/-
  Layer 8 (span): the walks of span.Do, one for each operation and case.
-/
namespace Go.Proofs.YtddobhneplfddaaDoor
set_option maxRecDepth 100000
open Go.RowKit
set_option linter.unusedSimpArgs false
set_option linter.unusedVariables false
set_option maxRecDepth 100000
attribute [local go_sem ↓] Go.wp_at_zero Go.wp_at_succ

def mx4 (a : Sp) : Nat → Int
  | 0 => a.lo
  | 1 => a.lo
  | _ => a.hi
def my4 (b : Sp) : Nat → Int
  | 0 => b.lo
  | 1 => b.hi
  | 2 => b.lo
  | _ => b.hi
def prods (a b : Sp) : Nat → List Int
  | 0 => []
  | k + 1 => prods a b k ++ [wrap64 (mx4 a k * my4 b k)]
def prodOk (a b : Sp) : Nat → Bool
  | 0 => true
  | k + 1 => prodOk a b k && mulOk (mx4 a k) (my4 b k)
theorem prods_len (a b : Sp) : ∀ k, (prods a b k).length = k
  | 0 => rfl
  | k + 1 => by simp [prods, prods_len a b k]
def mulRes (a b : Sp) : Sp := if prodOk a b 4 = true then hullTo (prods a b 4) 4 else Sp.all
theorem mx4_in {a : Sp} (ha : a.Wf) : ∀ k, In64 (mx4 a k)
  | 0 => ha.1
  | 1 => ha.1
  | n + 2 => ha.2
theorem my4_in {b : Sp} (hb : b.Wf) : ∀ k, In64 (my4 b k)
  | 0 => hb.1
  | 1 => hb.2
  | 2 => hb.1
  | n + 3 => hb.2

set_option maxHeartbeats 4000000 in
theorem doMul_q (a b : Sp) (n1 : a.lo ≤ a.hi) (n2 : b.lo ≤ b.hi) (ha : a.Wf) (hb : b.Wf) (hc : (a.lo == a.hi) = true) (hd : (b.lo == b.hi) = false) (w : World) : Calls Tryd.prog 55 #[.int .i64 5, .agg #[.int .i64 a.lo, .int .i64 a.hi], .agg #[.int .i64 b.lo, .int .i64 b.hi]] w fun e w' => e = .returned (.tuple #[.agg #[.int .i64 (mulRes a b).lo, .int .i64 (mulRes a b).hi], .bool true]) ∧ Below w.heap.size w w' := by
  obtain ⟨i0, hi, hz0, hz1, hz2⟩ := info_parts infoInt
  have ii : ∀ k : Nat, k < 4 → ∀ w, (Instr.index 118 (.agg #[.int .i64 a.lo, .int .i64 b.lo, .int .i64 a.lo, .int .i64 b.hi, .int .i64 a.hi, .int .i64 b.lo, .int .i64 a.hi, .int .i64 b.hi]) (.int .i64 k)).run Tryd.prog w = .ok (.agg #[.int .i64 (mx4 a k), .int .i64 (my4 b k)]) w := by
    intro k hk w
    have hk5 : k = 0 ∨ k = 1 ∨ k = 2 ∨ k = 3 := by omega
    rcases hk5 with rfl | rfl | rfl | rfl
    · exact (show ∀ w, (Instr.index 118 (.agg #[.int .i64 a.lo, .int .i64 b.lo, .int .i64 a.lo, .int .i64 b.hi, .int .i64 a.hi, .int .i64 b.lo, .int .i64 a.hi, .int .i64 b.hi]) (.int .i64 0)).run Tryd.prog w = .ok (.agg #[.int .i64 a.lo, .int .i64 b.lo]) w from fun _ => by kernel_rfl) w
    · exact (show ∀ w, (Instr.index 118 (.agg #[.int .i64 a.lo, .int .i64 b.lo, .int .i64 a.lo, .int .i64 b.hi, .int .i64 a.hi, .int .i64 b.lo, .int .i64 a.hi, .int .i64 b.hi]) (.int .i64 1)).run Tryd.prog w = .ok (.agg #[.int .i64 a.lo, .int .i64 b.hi]) w from fun _ => by kernel_rfl) w
    · exact (show ∀ w, (Instr.index 118 (.agg #[.int .i64 a.lo, .int .i64 b.lo, .int .i64 a.lo, .int .i64 b.hi, .int .i64 a.hi, .int .i64 b.lo, .int .i64 a.hi, .int .i64 b.hi]) (.int .i64 2)).run Tryd.prog w = .ok (.agg #[.int .i64 a.hi, .int .i64 b.lo]) w from fun _ => by kernel_rfl) w
    · exact (show ∀ w, (Instr.index 118 (.agg #[.int .i64 a.lo, .int .i64 b.lo, .int .i64 a.lo, .int .i64 b.hi, .int .i64 a.hi, .int .i64 b.lo, .int .i64 a.hi, .int .i64 b.hi]) (.int .i64 3)).run Tryd.prog w = .ok (.agg #[.int .i64 a.hi, .int .i64 b.hi]) w from fun _ => by kernel_rfl) w
  have II := Lib.hid ii; clear ii
  go_enter Tryd.func55, Tryd.ntmps55
  go_wp2_with (go_at_call 82; go_in)
  go_loopw [17, 18, 174] (fun v al i wr => ∃ k : Nat, k ≤ 4 ∧ i = .int .i64 k ∧ al = .bool (prodOk a b k) ∧ DivMem w a b v (prods a b k) wr) (fun _ _ i _ => 4 - (intOf i).toNat)
  case atStart => exact ⟨0, by omega, rfl, rfl, ((DivMem.start w a b).go (by repeat (first | exact Below.refl _ _ | with_reducible apply below_alloc)))⟩
  case round =>
    obtain ⟨k, hk, rfl, rfl, hM⟩ := hrel
    have hlen := prods_len a b k
    have d1 : wr.cell? ⟨w.heap.size, 0, none⟩ = some (.int .i64 a.lo) := hM.pa.cell 0
    have hsz := hM.size
    by_cases hlt : k < 4
    · have ik := II.out k hlt
      have hx := mx4_in ha k
      have hy := my4_in hb k
      cases hal : prodOk a b k
      all_goals go_wp2_with (first
        | (
          go_at_call 86
          refine (timesP _ _ hx hy _).mono ?_
          rintro e w1 ⟨rfl, rfl⟩)
        | (at_builtin
           refine wpList_append_own _ rfl _ _ _ rfl (w.heap.size + 1 + 1 + 1) 2 i0 (.int .i64 0) 1 8 Tryd.underlying22 hi hz0 hz1 hz2 rfl (by decide) _ (prods a b k).length ((prods a b k).map (Value.int .i64)) rfl ((hM.own.alloc _).alloc _) ⟨wr.heap.size + 1, 0, none⟩ 1 1 [.int .i64 (wrap64 (mx4 a k * my4 b k))] rfl ?c1 ?c2 ?c3 ?c4 ?c5 ?c6 ?_
           case c1 => rfl
           case c2 =>
             have := cell_one_new (wr.alloc (.cells #[.int .i64 (mx4 a k), .int .i64 (my4 b k)] 117)) (.int .i64 (wrap64 (mx4 a k * my4 b k))) 2
             rw [World.size_alloc] at this
             exact this
           case c3 => simp [Value.oneCell']
           case c4 => unfold maxLen; omega
           case c5 => omega
           case c6 => simp; omega
           intro v1 w1 hown hgrow hnil))
      all_goals go_roundw
      case' rel => go_light
      all_goals (try (simp only [intOf]; omega))
      all_goals refine ⟨k + 1, by omega, by go_num, by simp [prodOk, hal], hM.app (L2 := prods a b (k + 1)) (below_alloc (below_alloc (Below.refl _ _) _) _) hgrow (by simp [prods]) (by simp [prods]) hown⟩
    · obtain rfl : k = 4 := by omega
      obtain ⟨g, cap, hv, _, _⟩ := hM.own.form (by omega)
      subst hv
      have hcell : ∀ j, j < (prods a b 4).length → wr.cell? ⟨g, 0 + j, none⟩ = some (.int .i64 (nthI (prods a b 4) j)) := fun j hj => by
        rw [Nat.zero_add, hM.own.cellAt j (by omega)]
        simp [nthI, hj]
      have hlg := (hM.own.lt g rfl).2
      have HC := Lib.hid hcell; clear hcell
      have d5 : wr.cell? ⟨w.heap.size + 1 + 1, 0, none⟩ = some (.int .i64 0) := hM.po.cell 0
      have d6 : wr.cell? ⟨w.heap.size + 1 + 1, 1, none⟩ = some (.int .i64 0) := hM.po.cell 1
      have f5 := hM.po.frozen 0
      have f6 := hM.po.frozen 1
      cases hal : prodOk a b 4
      · have hR : mulRes a b = Sp.all := by simp [mulRes, hal]
        go_wp2_with (go_at_call 84; refine (hullP_no _ _ _ _).mono ?_; rintro e w2 ⟨rfl, hb2⟩; have hM2 := hM.go hb2; have d7 : w2.cell? ⟨w.heap.size + 1 + 1, 0, none⟩ = some (.int .i64 0) := hM2.po.cell 0; have d8 : w2.cell? ⟨w.heap.size + 1 + 1, 1, none⟩ = some (.int .i64 0) := hM2.po.cell 1; have f7 := hM2.po.frozen 0; have f8 := hM2.po.frozen 1)
        all_goals (try simp only [Exit.inBlock, Exit.then])
        all_goals refine ret_of ?_ rfl
        all_goals simp [results, Tryd.results55, go_sem, d7, d8, f7, f8, hR, hlen]
        refine Below.setCell (Below.setCell hM2.below ?_ _) ?_ _
        all_goals first | omega | (dsimp only; omega)
      · have hR : mulRes a b = hullTo (prods a b 4) (prods a b 4).length := by simp [mulRes, hal, hlen]
        go_wp2_with (go_at_call 84; refine (hullP g 0 cap (prods a b 4) _ hlg (by omega) (by omega) HC.out).mono ?_; rintro e w2 ⟨rfl, hb2⟩; have hM2 := hM.go hb2; have d7 : w2.cell? ⟨w.heap.size + 1 + 1, 0, none⟩ = some (.int .i64 0) := hM2.po.cell 0; have d8 : w2.cell? ⟨w.heap.size + 1 + 1, 1, none⟩ = some (.int .i64 0) := hM2.po.cell 1; have f7 := hM2.po.frozen 0; have f8 := hM2.po.frozen 1)
        all_goals (try simp only [Exit.inBlock, Exit.then])
        all_goals refine ret_of ?_ rfl
        all_goals simp [results, Tryd.results55, go_sem, d7, d8, f7, f8, hR, hlen]
        refine Below.setCell (Below.setCell hM2.below ?_ _) ?_ _
        all_goals first | omega | (dsimp only; omega)

set_option maxHeartbeats 4000000 in
theorem doMul_r (a b : Sp) (n1 : a.lo ≤ a.hi) (n2 : b.lo ≤ b.hi) (ha : a.Wf) (hb : b.Wf) (hc : (a.lo == a.hi) = false) (w : World) : Calls Tryd.prog 55 #[.int .i64 5, .agg #[.int .i64 a.lo, .int .i64 a.hi], .agg #[.int .i64 b.lo, .int .i64 b.hi]] w fun e w' => e = .returned (.tuple #[.agg #[.int .i64 (mulRes a b).lo, .int .i64 (mulRes a b).hi], .bool true]) ∧ Below w.heap.size w w' := by
  obtain ⟨i0, hi, hz0, hz1, hz2⟩ := info_parts infoInt
  have ii : ∀ k : Nat, k < 4 → ∀ w, (Instr.index 118 (.agg #[.int .i64 a.lo, .int .i64 b.lo, .int .i64 a.lo, .int .i64 b.hi, .int .i64 a.hi, .int .i64 b.lo, .int .i64 a.hi, .int .i64 b.hi]) (.int .i64 k)).run Tryd.prog w = .ok (.agg #[.int .i64 (mx4 a k), .int .i64 (my4 b k)]) w := by
    intro k hk w
    have hk5 : k = 0 ∨ k = 1 ∨ k = 2 ∨ k = 3 := by omega
    rcases hk5 with rfl | rfl | rfl | rfl
    · exact (show ∀ w, (Instr.index 118 (.agg #[.int .i64 a.lo, .int .i64 b.lo, .int .i64 a.lo, .int .i64 b.hi, .int .i64 a.hi, .int .i64 b.lo, .int .i64 a.hi, .int .i64 b.hi]) (.int .i64 0)).run Tryd.prog w = .ok (.agg #[.int .i64 a.lo, .int .i64 b.lo]) w from fun _ => by kernel_rfl) w
    · exact (show ∀ w, (Instr.index 118 (.agg #[.int .i64 a.lo, .int .i64 b.lo, .int .i64 a.lo, .int .i64 b.hi, .int .i64 a.hi, .int .i64 b.lo, .int .i64 a.hi, .int .i64 b.hi]) (.int .i64 1)).run Tryd.prog w = .ok (.agg #[.int .i64 a.lo, .int .i64 b.hi]) w from fun _ => by kernel_rfl) w
    · exact (show ∀ w, (Instr.index 118 (.agg #[.int .i64 a.lo, .int .i64 b.lo, .int .i64 a.lo, .int .i64 b.hi, .int .i64 a.hi, .int .i64 b.lo, .int .i64 a.hi, .int .i64 b.hi]) (.int .i64 2)).run Tryd.prog w = .ok (.agg #[.int .i64 a.hi, .int .i64 b.lo]) w from fun _ => by kernel_rfl) w
    · exact (show ∀ w, (Instr.index 118 (.agg #[.int .i64 a.lo, .int .i64 b.lo, .int .i64 a.lo, .int .i64 b.hi, .int .i64 a.hi, .int .i64 b.lo, .int .i64 a.hi, .int .i64 b.hi]) (.int .i64 3)).run Tryd.prog w = .ok (.agg #[.int .i64 a.hi, .int .i64 b.hi]) w from fun _ => by kernel_rfl) w
  have II := Lib.hid ii; clear ii
  go_enter Tryd.func55, Tryd.ntmps55
  go_wp2_with (go_at_call 82; go_in)
  go_loopw [17, 18, 174] (fun v al i wr => ∃ k : Nat, k ≤ 4 ∧ i = .int .i64 k ∧ al = .bool (prodOk a b k) ∧ DivMem w a b v (prods a b k) wr) (fun _ _ i _ => 4 - (intOf i).toNat)
  case atStart => exact ⟨0, by omega, rfl, rfl, ((DivMem.start w a b).go (by repeat (first | exact Below.refl _ _ | with_reducible apply below_alloc)))⟩
  case round =>
    obtain ⟨k, hk, rfl, rfl, hM⟩ := hrel
    have hlen := prods_len a b k
    have d1 : wr.cell? ⟨w.heap.size, 0, none⟩ = some (.int .i64 a.lo) := hM.pa.cell 0
    have hsz := hM.size
    by_cases hlt : k < 4
    · have ik := II.out k hlt
      have hx := mx4_in ha k
      have hy := my4_in hb k
      cases hal : prodOk a b k
      all_goals go_wp2_with (first
        | (
          go_at_call 86
          refine (timesP _ _ hx hy _).mono ?_
          rintro e w1 ⟨rfl, rfl⟩)
        | (at_builtin
           refine wpList_append_own _ rfl _ _ _ rfl (w.heap.size + 1 + 1 + 1) 2 i0 (.int .i64 0) 1 8 Tryd.underlying22 hi hz0 hz1 hz2 rfl (by decide) _ (prods a b k).length ((prods a b k).map (Value.int .i64)) rfl ((hM.own.alloc _).alloc _) ⟨wr.heap.size + 1, 0, none⟩ 1 1 [.int .i64 (wrap64 (mx4 a k * my4 b k))] rfl ?c1 ?c2 ?c3 ?c4 ?c5 ?c6 ?_
           case c1 => rfl
           case c2 =>
             have := cell_one_new (wr.alloc (.cells #[.int .i64 (mx4 a k), .int .i64 (my4 b k)] 117)) (.int .i64 (wrap64 (mx4 a k * my4 b k))) 2
             rw [World.size_alloc] at this
             exact this
           case c3 => simp [Value.oneCell']
           case c4 => unfold maxLen; omega
           case c5 => omega
           case c6 => simp; omega
           intro v1 w1 hown hgrow hnil))
      all_goals go_roundw
      case' rel => go_light
      all_goals (try (simp only [intOf]; omega))
      all_goals refine ⟨k + 1, by omega, by go_num, by simp [prodOk, hal], hM.app (L2 := prods a b (k + 1)) (below_alloc (below_alloc (Below.refl _ _) _) _) hgrow (by simp [prods]) (by simp [prods]) hown⟩
    · obtain rfl : k = 4 := by omega
      obtain ⟨g, cap, hv, _, _⟩ := hM.own.form (by omega)
      subst hv
      have hcell : ∀ j, j < (prods a b 4).length → wr.cell? ⟨g, 0 + j, none⟩ = some (.int .i64 (nthI (prods a b 4) j)) := fun j hj => by
        rw [Nat.zero_add, hM.own.cellAt j (by omega)]
        simp [nthI, hj]
      have hlg := (hM.own.lt g rfl).2
      have HC := Lib.hid hcell; clear hcell
      have d5 : wr.cell? ⟨w.heap.size + 1 + 1, 0, none⟩ = some (.int .i64 0) := hM.po.cell 0
      have d6 : wr.cell? ⟨w.heap.size + 1 + 1, 1, none⟩ = some (.int .i64 0) := hM.po.cell 1
      have f5 := hM.po.frozen 0
      have f6 := hM.po.frozen 1
      cases hal : prodOk a b 4
      · have hR : mulRes a b = Sp.all := by simp [mulRes, hal]
        go_wp2_with (go_at_call 84; refine (hullP_no _ _ _ _).mono ?_; rintro e w2 ⟨rfl, hb2⟩; have hM2 := hM.go hb2; have d7 : w2.cell? ⟨w.heap.size + 1 + 1, 0, none⟩ = some (.int .i64 0) := hM2.po.cell 0; have d8 : w2.cell? ⟨w.heap.size + 1 + 1, 1, none⟩ = some (.int .i64 0) := hM2.po.cell 1; have f7 := hM2.po.frozen 0; have f8 := hM2.po.frozen 1)
        all_goals (try simp only [Exit.inBlock, Exit.then])
        all_goals refine ret_of ?_ rfl
        all_goals simp [results, Tryd.results55, go_sem, d7, d8, f7, f8, hR, hlen]
        refine Below.setCell (Below.setCell hM2.below ?_ _) ?_ _
        all_goals first | omega | (dsimp only; omega)
      · have hR : mulRes a b = hullTo (prods a b 4) (prods a b 4).length := by simp [mulRes, hal, hlen]
        go_wp2_with (go_at_call 84; refine (hullP g 0 cap (prods a b 4) _ hlg (by omega) (by omega) HC.out).mono ?_; rintro e w2 ⟨rfl, hb2⟩; have hM2 := hM.go hb2; have d7 : w2.cell? ⟨w.heap.size + 1 + 1, 0, none⟩ = some (.int .i64 0) := hM2.po.cell 0; have d8 : w2.cell? ⟨w.heap.size + 1 + 1, 1, none⟩ = some (.int .i64 0) := hM2.po.cell 1; have f7 := hM2.po.frozen 0; have f8 := hM2.po.frozen 1)
        all_goals (try simp only [Exit.inBlock, Exit.then])
        all_goals refine ret_of ?_ rfl
        all_goals simp [results, Tryd.results55, go_sem, d7, d8, f7, f8, hR, hlen]
        refine Below.setCell (Below.setCell hM2.below ?_ _) ?_ _
        all_goals first | omega | (dsimp only; omega)

end Go.Proofs.YtddobhneplfddaaDoor
