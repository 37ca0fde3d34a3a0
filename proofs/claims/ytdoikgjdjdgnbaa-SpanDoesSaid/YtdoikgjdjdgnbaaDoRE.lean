/-
  Layer 8 (span): the walks of soffitref08.Do, one for each operation and case.
-/
import Derived.Test.YtdoikgjdjdgnbaaQuotR
import Derived.Test.YtdoikgjdjdgnbaaRestR
import Derived.Test.YtdoikgjdjdgnbaaOpR
import Derived.Test.YtdoikgjdjdgnbaaPlainJ
import Derived.Test.YtdoikgjdjdgnbaaKeep
import Derived.Deep.RegionWith
namespace Go.Proofs.Ytdoikgjdjdgnbaa
open Go.RowKit
set_option linter.unusedSimpArgs false
set_option linter.unusedVariables false
set_option maxRecDepth 100000
attribute [local go_sem ↓] Go.wp_at_zero Go.wp_at_succ

set_option maxHeartbeats 1000000 in
theorem rEq_pec (a b : Sp) (n1 : a.lo ≤ a.hi) (n2 : b.lo ≤ b.hi) (hc : (a.lo == a.hi) = true) (hd : (b.lo == b.hi) = true) (z1 : (b.lo == 0) = false) (e1 : (a.lo == b.lo) = true) (w : World) : Calls Try.prog 23 #[.int .i64 9, .agg #[.int .i64 a.lo, .int .i64 a.hi], .agg #[.int .i64 b.lo, .int .i64 b.hi]] w fun e w' => e = .returned (.tuple #[.agg #[.int .i64 (Sp.truth true (!a.meetOk b)).lo, .int .i64 (Sp.truth true (!a.meetOk b)).hi], .bool true]) ∧ Below w.heap.size w w' := by
  go_enter Try.func23, Try.ntmps23
  go_wp2_with (first
  | (go_at_call 34; go_in)
  | (
    go_at_call 42
    refine (truthR _ _ _).mono ?_
    rintro e w2 ⟨rfl, hb2⟩
    obtain ⟨hcc2, hff2⟩ := bcell hb2
    have hs2 := hb2.size
    simp at hs2
    have l2 : w.heap.size + 1 + 1 < w2.heap.size := (by omega)
    have m2 : w.heap.size + 1 < w2.heap.size := (by omega)
    have k2 : w.heap.size < w2.heap.size := (by omega))
  | (
    go_at_call 12
    refine (meetR a b _).mono ?_
    rintro e w1 ⟨rfl, hb1⟩
    obtain ⟨hcc1, hff1⟩ := bcell hb1
    have hs1 := hb1.size
    simp at hs1
    have l1 : w.heap.size + 1 + 1 < w1.heap.size := (by omega)
    have m1 : w.heap.size + 1 < w1.heap.size := (by omega)
    have k1 : w.heap.size < w1.heap.size := (by omega)))
  all_goals (try simp only [Exit.inBlock, Exit.then])
  all_goals refine ret_of ?_ rfl
  all_goals simp [results, Try.results23, go_sem, ltS, notS, *]
  all_goals go_light
  all_goals (repeat (first | exact Below.refl _ _ | with_reducible apply below_alloc | with_reducible apply Below.drew | with_reducible refine Below.setCell ?_ (by dsimp only; omega) _ | with_reducible refine below_step ?_ hb1 | with_reducible refine below_step ?_ hb2))

set_option maxHeartbeats 1000000 in
theorem rEq_pfc (a b : Sp) (n1 : a.lo ≤ a.hi) (n2 : b.lo ≤ b.hi) (hc : (a.lo == a.hi) = true) (hd : (b.lo == b.hi) = true) (z1 : (b.lo == 0) = false) (e1 : (a.lo == b.lo) = false) (w : World) : Calls Try.prog 23 #[.int .i64 9, .agg #[.int .i64 a.lo, .int .i64 a.hi], .agg #[.int .i64 b.lo, .int .i64 b.hi]] w fun e w' => e = .returned (.tuple #[.agg #[.int .i64 (Sp.truth false (!a.meetOk b)).lo, .int .i64 (Sp.truth false (!a.meetOk b)).hi], .bool true]) ∧ Below w.heap.size w w' := by
  go_enter Try.func23, Try.ntmps23
  go_wp2_with (first
  | (go_at_call 34; go_in)
  | (
    go_at_call 42
    refine (truthR _ _ _).mono ?_
    rintro e w2 ⟨rfl, hb2⟩
    obtain ⟨hcc2, hff2⟩ := bcell hb2
    have hs2 := hb2.size
    simp at hs2
    have l2 : w.heap.size + 1 + 1 < w2.heap.size := (by omega)
    have m2 : w.heap.size + 1 < w2.heap.size := (by omega)
    have k2 : w.heap.size < w2.heap.size := (by omega))
  | (
    go_at_call 12
    refine (meetR a b _).mono ?_
    rintro e w1 ⟨rfl, hb1⟩
    obtain ⟨hcc1, hff1⟩ := bcell hb1
    have hs1 := hb1.size
    simp at hs1
    have l1 : w.heap.size + 1 + 1 < w1.heap.size := (by omega)
    have m1 : w.heap.size + 1 < w1.heap.size := (by omega)
    have k1 : w.heap.size < w1.heap.size := (by omega)))
  all_goals (try simp only [Exit.inBlock, Exit.then])
  all_goals refine ret_of ?_ rfl
  all_goals simp [results, Try.results23, go_sem, ltS, notS, *]
  all_goals go_light
  all_goals (repeat (first | exact Below.refl _ _ | with_reducible apply below_alloc | with_reducible apply Below.drew | with_reducible refine Below.setCell ?_ (by dsimp only; omega) _ | with_reducible refine below_step ?_ hb1 | with_reducible refine below_step ?_ hb2))

set_option maxHeartbeats 1000000 in
theorem rEq_ped (a b : Sp) (n1 : a.lo ≤ a.hi) (n2 : b.lo ≤ b.hi) (hc : (a.lo == a.hi) = true) (hd : (b.lo == b.hi) = true) (z1 : (b.lo == 0) = true) (z2 : (b.hi == 0) = false) (e1 : (a.lo == b.lo) = true) (w : World) : Calls Try.prog 23 #[.int .i64 9, .agg #[.int .i64 a.lo, .int .i64 a.hi], .agg #[.int .i64 b.lo, .int .i64 b.hi]] w fun e w' => e = .returned (.tuple #[.agg #[.int .i64 (Sp.truth true (!a.meetOk b)).lo, .int .i64 (Sp.truth true (!a.meetOk b)).hi], .bool true]) ∧ Below w.heap.size w w' := by
  go_enter Try.func23, Try.ntmps23
  go_wp2_with (first
  | (go_at_call 34; go_in)
  | (
    go_at_call 42
    refine (truthR _ _ _).mono ?_
    rintro e w2 ⟨rfl, hb2⟩
    obtain ⟨hcc2, hff2⟩ := bcell hb2
    have hs2 := hb2.size
    simp at hs2
    have l2 : w.heap.size + 1 + 1 < w2.heap.size := (by omega)
    have m2 : w.heap.size + 1 < w2.heap.size := (by omega)
    have k2 : w.heap.size < w2.heap.size := (by omega))
  | (
    go_at_call 12
    refine (meetR a b _).mono ?_
    rintro e w1 ⟨rfl, hb1⟩
    obtain ⟨hcc1, hff1⟩ := bcell hb1
    have hs1 := hb1.size
    simp at hs1
    have l1 : w.heap.size + 1 + 1 < w1.heap.size := (by omega)
    have m1 : w.heap.size + 1 < w1.heap.size := (by omega)
    have k1 : w.heap.size < w1.heap.size := (by omega)))
  all_goals (try simp only [Exit.inBlock, Exit.then])
  all_goals refine ret_of ?_ rfl
  all_goals simp [results, Try.results23, go_sem, ltS, notS, *]
  all_goals go_light
  all_goals (repeat (first | exact Below.refl _ _ | with_reducible apply below_alloc | with_reducible apply Below.drew | with_reducible refine Below.setCell ?_ (by dsimp only; omega) _ | with_reducible refine below_step ?_ hb1 | with_reducible refine below_step ?_ hb2))

set_option maxHeartbeats 1000000 in
theorem rEq_pfd (a b : Sp) (n1 : a.lo ≤ a.hi) (n2 : b.lo ≤ b.hi) (hc : (a.lo == a.hi) = true) (hd : (b.lo == b.hi) = true) (z1 : (b.lo == 0) = true) (z2 : (b.hi == 0) = false) (e1 : (a.lo == b.lo) = false) (w : World) : Calls Try.prog 23 #[.int .i64 9, .agg #[.int .i64 a.lo, .int .i64 a.hi], .agg #[.int .i64 b.lo, .int .i64 b.hi]] w fun e w' => e = .returned (.tuple #[.agg #[.int .i64 (Sp.truth false (!a.meetOk b)).lo, .int .i64 (Sp.truth false (!a.meetOk b)).hi], .bool true]) ∧ Below w.heap.size w w' := by
  go_enter Try.func23, Try.ntmps23
  go_wp2_with (first
  | (go_at_call 34; go_in)
  | (
    go_at_call 42
    refine (truthR _ _ _).mono ?_
    rintro e w2 ⟨rfl, hb2⟩
    obtain ⟨hcc2, hff2⟩ := bcell hb2
    have hs2 := hb2.size
    simp at hs2
    have l2 : w.heap.size + 1 + 1 < w2.heap.size := (by omega)
    have m2 : w.heap.size + 1 < w2.heap.size := (by omega)
    have k2 : w.heap.size < w2.heap.size := (by omega))
  | (
    go_at_call 12
    refine (meetR a b _).mono ?_
    rintro e w1 ⟨rfl, hb1⟩
    obtain ⟨hcc1, hff1⟩ := bcell hb1
    have hs1 := hb1.size
    simp at hs1
    have l1 : w.heap.size + 1 + 1 < w1.heap.size := (by omega)
    have m1 : w.heap.size + 1 < w1.heap.size := (by omega)
    have k1 : w.heap.size < w1.heap.size := (by omega)))
  all_goals (try simp only [Exit.inBlock, Exit.then])
  all_goals refine ret_of ?_ rfl
  all_goals simp [results, Try.results23, go_sem, ltS, notS, *]
  all_goals go_light
  all_goals (repeat (first | exact Below.refl _ _ | with_reducible apply below_alloc | with_reducible apply Below.drew | with_reducible refine Below.setCell ?_ (by dsimp only; omega) _ | with_reducible refine below_step ?_ hb1 | with_reducible refine below_step ?_ hb2))

set_option maxHeartbeats 1000000 in
theorem rEq_pez (a b : Sp) (n1 : a.lo ≤ a.hi) (n2 : b.lo ≤ b.hi) (hc : (a.lo == a.hi) = true) (hd : (b.lo == b.hi) = true) (z1 : (b.lo == 0) = true) (z2 : (b.hi == 0) = true) (e1 : (a.lo == b.lo) = true) (w : World) : Calls Try.prog 23 #[.int .i64 9, .agg #[.int .i64 a.lo, .int .i64 a.hi], .agg #[.int .i64 b.lo, .int .i64 b.hi]] w fun e w' => e = .returned (.tuple #[.agg #[.int .i64 (Sp.truth true (!a.meetOk b)).lo, .int .i64 (Sp.truth true (!a.meetOk b)).hi], .bool true]) ∧ Below w.heap.size w w' := by
  go_enter Try.func23, Try.ntmps23
  go_wp2_with (first
  | (go_at_call 34; go_in)
  | (
    go_at_call 42
    refine (truthR _ _ _).mono ?_
    rintro e w2 ⟨rfl, hb2⟩
    obtain ⟨hcc2, hff2⟩ := bcell hb2
    have hs2 := hb2.size
    simp at hs2
    have l2 : w.heap.size + 1 + 1 < w2.heap.size := (by omega)
    have m2 : w.heap.size + 1 < w2.heap.size := (by omega)
    have k2 : w.heap.size < w2.heap.size := (by omega))
  | (
    go_at_call 12
    refine (meetR a b _).mono ?_
    rintro e w1 ⟨rfl, hb1⟩
    obtain ⟨hcc1, hff1⟩ := bcell hb1
    have hs1 := hb1.size
    simp at hs1
    have l1 : w.heap.size + 1 + 1 < w1.heap.size := (by omega)
    have m1 : w.heap.size + 1 < w1.heap.size := (by omega)
    have k1 : w.heap.size < w1.heap.size := (by omega)))
  all_goals (try simp only [Exit.inBlock, Exit.then])
  all_goals refine ret_of ?_ rfl
  all_goals simp [results, Try.results23, go_sem, ltS, notS, *]
  all_goals go_light
  all_goals (repeat (first | exact Below.refl _ _ | with_reducible apply below_alloc | with_reducible apply Below.drew | with_reducible refine Below.setCell ?_ (by dsimp only; omega) _ | with_reducible refine below_step ?_ hb1 | with_reducible refine below_step ?_ hb2))

set_option maxHeartbeats 1000000 in
theorem rEq_pfz (a b : Sp) (n1 : a.lo ≤ a.hi) (n2 : b.lo ≤ b.hi) (hc : (a.lo == a.hi) = true) (hd : (b.lo == b.hi) = true) (z1 : (b.lo == 0) = true) (z2 : (b.hi == 0) = true) (e1 : (a.lo == b.lo) = false) (w : World) : Calls Try.prog 23 #[.int .i64 9, .agg #[.int .i64 a.lo, .int .i64 a.hi], .agg #[.int .i64 b.lo, .int .i64 b.hi]] w fun e w' => e = .returned (.tuple #[.agg #[.int .i64 (Sp.truth false (!a.meetOk b)).lo, .int .i64 (Sp.truth false (!a.meetOk b)).hi], .bool true]) ∧ Below w.heap.size w w' := by
  go_enter Try.func23, Try.ntmps23
  go_wp2_with (first
  | (go_at_call 34; go_in)
  | (
    go_at_call 42
    refine (truthR _ _ _).mono ?_
    rintro e w2 ⟨rfl, hb2⟩
    obtain ⟨hcc2, hff2⟩ := bcell hb2
    have hs2 := hb2.size
    simp at hs2
    have l2 : w.heap.size + 1 + 1 < w2.heap.size := (by omega)
    have m2 : w.heap.size + 1 < w2.heap.size := (by omega)
    have k2 : w.heap.size < w2.heap.size := (by omega))
  | (
    go_at_call 12
    refine (meetR a b _).mono ?_
    rintro e w1 ⟨rfl, hb1⟩
    obtain ⟨hcc1, hff1⟩ := bcell hb1
    have hs1 := hb1.size
    simp at hs1
    have l1 : w.heap.size + 1 + 1 < w1.heap.size := (by omega)
    have m1 : w.heap.size + 1 < w1.heap.size := (by omega)
    have k1 : w.heap.size < w1.heap.size := (by omega)))
  all_goals (try simp only [Exit.inBlock, Exit.then])
  all_goals refine ret_of ?_ rfl
  all_goals simp [results, Try.results23, go_sem, ltS, notS, *]
  all_goals go_light
  all_goals (repeat (first | exact Below.refl _ _ | with_reducible apply below_alloc | with_reducible apply Below.drew | with_reducible refine Below.setCell ?_ (by dsimp only; omega) _ | with_reducible refine below_step ?_ hb1 | with_reducible refine below_step ?_ hb2))

set_option maxHeartbeats 1000000 in
theorem rEq_qc (a b : Sp) (n1 : a.lo ≤ a.hi) (n2 : b.lo ≤ b.hi) (hc : (a.lo == a.hi) = true) (hd : (b.lo == b.hi) = false) (z1 : (b.lo == 0) = false) (w : World) : Calls Try.prog 23 #[.int .i64 9, .agg #[.int .i64 a.lo, .int .i64 a.hi], .agg #[.int .i64 b.lo, .int .i64 b.hi]] w fun e w' => e = .returned (.tuple #[.agg #[.int .i64 (Sp.truth false (!a.meetOk b)).lo, .int .i64 (Sp.truth false (!a.meetOk b)).hi], .bool true]) ∧ Below w.heap.size w w' := by
  go_enter Try.func23, Try.ntmps23
  go_wp2_with (first
  | (go_at_call 34; go_in)
  | (
    go_at_call 42
    refine (truthR _ _ _).mono ?_
    rintro e w2 ⟨rfl, hb2⟩
    obtain ⟨hcc2, hff2⟩ := bcell hb2
    have hs2 := hb2.size
    simp at hs2
    have l2 : w.heap.size + 1 + 1 < w2.heap.size := (by omega)
    have m2 : w.heap.size + 1 < w2.heap.size := (by omega)
    have k2 : w.heap.size < w2.heap.size := (by omega))
  | (
    go_at_call 12
    refine (meetR a b _).mono ?_
    rintro e w1 ⟨rfl, hb1⟩
    obtain ⟨hcc1, hff1⟩ := bcell hb1
    have hs1 := hb1.size
    simp at hs1
    have l1 : w.heap.size + 1 + 1 < w1.heap.size := (by omega)
    have m1 : w.heap.size + 1 < w1.heap.size := (by omega)
    have k1 : w.heap.size < w1.heap.size := (by omega)))
  all_goals (try simp only [Exit.inBlock, Exit.then])
  all_goals refine ret_of ?_ rfl
  all_goals simp [results, Try.results23, go_sem, ltS, notS, *]
  all_goals go_light
  all_goals (repeat (first | exact Below.refl _ _ | with_reducible apply below_alloc | with_reducible apply Below.drew | with_reducible refine Below.setCell ?_ (by dsimp only; omega) _ | with_reducible refine below_step ?_ hb1 | with_reducible refine below_step ?_ hb2))

set_option maxHeartbeats 1000000 in
theorem rEq_qd (a b : Sp) (n1 : a.lo ≤ a.hi) (n2 : b.lo ≤ b.hi) (hc : (a.lo == a.hi) = true) (hd : (b.lo == b.hi) = false) (z1 : (b.lo == 0) = true) (z2 : (b.hi == 0) = false) (w : World) : Calls Try.prog 23 #[.int .i64 9, .agg #[.int .i64 a.lo, .int .i64 a.hi], .agg #[.int .i64 b.lo, .int .i64 b.hi]] w fun e w' => e = .returned (.tuple #[.agg #[.int .i64 (Sp.truth false (!a.meetOk b)).lo, .int .i64 (Sp.truth false (!a.meetOk b)).hi], .bool true]) ∧ Below w.heap.size w w' := by
  go_enter Try.func23, Try.ntmps23
  go_wp2_with (first
  | (go_at_call 34; go_in)
  | (
    go_at_call 42
    refine (truthR _ _ _).mono ?_
    rintro e w2 ⟨rfl, hb2⟩
    obtain ⟨hcc2, hff2⟩ := bcell hb2
    have hs2 := hb2.size
    simp at hs2
    have l2 : w.heap.size + 1 + 1 < w2.heap.size := (by omega)
    have m2 : w.heap.size + 1 < w2.heap.size := (by omega)
    have k2 : w.heap.size < w2.heap.size := (by omega))
  | (
    go_at_call 12
    refine (meetR a b _).mono ?_
    rintro e w1 ⟨rfl, hb1⟩
    obtain ⟨hcc1, hff1⟩ := bcell hb1
    have hs1 := hb1.size
    simp at hs1
    have l1 : w.heap.size + 1 + 1 < w1.heap.size := (by omega)
    have m1 : w.heap.size + 1 < w1.heap.size := (by omega)
    have k1 : w.heap.size < w1.heap.size := (by omega)))
  all_goals (try simp only [Exit.inBlock, Exit.then])
  all_goals refine ret_of ?_ rfl
  all_goals simp [results, Try.results23, go_sem, ltS, notS, *]
  all_goals go_light
  all_goals (repeat (first | exact Below.refl _ _ | with_reducible apply below_alloc | with_reducible apply Below.drew | with_reducible refine Below.setCell ?_ (by dsimp only; omega) _ | with_reducible refine below_step ?_ hb1 | with_reducible refine below_step ?_ hb2))

set_option maxHeartbeats 1000000 in
theorem rEq_qz (a b : Sp) (n1 : a.lo ≤ a.hi) (n2 : b.lo ≤ b.hi) (hc : (a.lo == a.hi) = true) (hd : (b.lo == b.hi) = false) (z1 : (b.lo == 0) = true) (z2 : (b.hi == 0) = true) (w : World) : Calls Try.prog 23 #[.int .i64 9, .agg #[.int .i64 a.lo, .int .i64 a.hi], .agg #[.int .i64 b.lo, .int .i64 b.hi]] w fun e w' => e = .returned (.tuple #[.agg #[.int .i64 (Sp.truth false (!a.meetOk b)).lo, .int .i64 (Sp.truth false (!a.meetOk b)).hi], .bool true]) ∧ Below w.heap.size w w' := by
  go_enter Try.func23, Try.ntmps23
  go_wp2_with (first
  | (go_at_call 34; go_in)
  | (
    go_at_call 42
    refine (truthR _ _ _).mono ?_
    rintro e w2 ⟨rfl, hb2⟩
    obtain ⟨hcc2, hff2⟩ := bcell hb2
    have hs2 := hb2.size
    simp at hs2
    have l2 : w.heap.size + 1 + 1 < w2.heap.size := (by omega)
    have m2 : w.heap.size + 1 < w2.heap.size := (by omega)
    have k2 : w.heap.size < w2.heap.size := (by omega))
  | (
    go_at_call 12
    refine (meetR a b _).mono ?_
    rintro e w1 ⟨rfl, hb1⟩
    obtain ⟨hcc1, hff1⟩ := bcell hb1
    have hs1 := hb1.size
    simp at hs1
    have l1 : w.heap.size + 1 + 1 < w1.heap.size := (by omega)
    have m1 : w.heap.size + 1 < w1.heap.size := (by omega)
    have k1 : w.heap.size < w1.heap.size := (by omega)))
  all_goals (try simp only [Exit.inBlock, Exit.then])
  all_goals refine ret_of ?_ rfl
  all_goals simp [results, Try.results23, go_sem, ltS, notS, *]
  all_goals go_light
  all_goals (repeat (first | exact Below.refl _ _ | with_reducible apply below_alloc | with_reducible apply Below.drew | with_reducible refine Below.setCell ?_ (by dsimp only; omega) _ | with_reducible refine below_step ?_ hb1 | with_reducible refine below_step ?_ hb2))

set_option maxHeartbeats 1000000 in
theorem rEq_rc (a b : Sp) (n1 : a.lo ≤ a.hi) (n2 : b.lo ≤ b.hi) (hc : (a.lo == a.hi) = false) (z1 : (b.lo == 0) = false) (w : World) : Calls Try.prog 23 #[.int .i64 9, .agg #[.int .i64 a.lo, .int .i64 a.hi], .agg #[.int .i64 b.lo, .int .i64 b.hi]] w fun e w' => e = .returned (.tuple #[.agg #[.int .i64 (Sp.truth false (!a.meetOk b)).lo, .int .i64 (Sp.truth false (!a.meetOk b)).hi], .bool true]) ∧ Below w.heap.size w w' := by
  go_enter Try.func23, Try.ntmps23
  go_wp2_with (first
  | (go_at_call 34; go_in)
  | (
    go_at_call 42
    refine (truthR _ _ _).mono ?_
    rintro e w2 ⟨rfl, hb2⟩
    obtain ⟨hcc2, hff2⟩ := bcell hb2
    have hs2 := hb2.size
    simp at hs2
    have l2 : w.heap.size + 1 + 1 < w2.heap.size := (by omega)
    have m2 : w.heap.size + 1 < w2.heap.size := (by omega)
    have k2 : w.heap.size < w2.heap.size := (by omega))
  | (
    go_at_call 12
    refine (meetR a b _).mono ?_
    rintro e w1 ⟨rfl, hb1⟩
    obtain ⟨hcc1, hff1⟩ := bcell hb1
    have hs1 := hb1.size
    simp at hs1
    have l1 : w.heap.size + 1 + 1 < w1.heap.size := (by omega)
    have m1 : w.heap.size + 1 < w1.heap.size := (by omega)
    have k1 : w.heap.size < w1.heap.size := (by omega)))
  all_goals (try simp only [Exit.inBlock, Exit.then])
  all_goals refine ret_of ?_ rfl
  all_goals simp [results, Try.results23, go_sem, ltS, notS, *]
  all_goals go_light
  all_goals (repeat (first | exact Below.refl _ _ | with_reducible apply below_alloc | with_reducible apply Below.drew | with_reducible refine Below.setCell ?_ (by dsimp only; omega) _ | with_reducible refine below_step ?_ hb1 | with_reducible refine below_step ?_ hb2))

set_option maxHeartbeats 1000000 in
theorem rEq_rd (a b : Sp) (n1 : a.lo ≤ a.hi) (n2 : b.lo ≤ b.hi) (hc : (a.lo == a.hi) = false) (z1 : (b.lo == 0) = true) (z2 : (b.hi == 0) = false) (w : World) : Calls Try.prog 23 #[.int .i64 9, .agg #[.int .i64 a.lo, .int .i64 a.hi], .agg #[.int .i64 b.lo, .int .i64 b.hi]] w fun e w' => e = .returned (.tuple #[.agg #[.int .i64 (Sp.truth false (!a.meetOk b)).lo, .int .i64 (Sp.truth false (!a.meetOk b)).hi], .bool true]) ∧ Below w.heap.size w w' := by
  go_enter Try.func23, Try.ntmps23
  go_wp2_with (first
  | (go_at_call 34; go_in)
  | (
    go_at_call 42
    refine (truthR _ _ _).mono ?_
    rintro e w2 ⟨rfl, hb2⟩
    obtain ⟨hcc2, hff2⟩ := bcell hb2
    have hs2 := hb2.size
    simp at hs2
    have l2 : w.heap.size + 1 + 1 < w2.heap.size := (by omega)
    have m2 : w.heap.size + 1 < w2.heap.size := (by omega)
    have k2 : w.heap.size < w2.heap.size := (by omega))
  | (
    go_at_call 12
    refine (meetR a b _).mono ?_
    rintro e w1 ⟨rfl, hb1⟩
    obtain ⟨hcc1, hff1⟩ := bcell hb1
    have hs1 := hb1.size
    simp at hs1
    have l1 : w.heap.size + 1 + 1 < w1.heap.size := (by omega)
    have m1 : w.heap.size + 1 < w1.heap.size := (by omega)
    have k1 : w.heap.size < w1.heap.size := (by omega)))
  all_goals (try simp only [Exit.inBlock, Exit.then])
  all_goals refine ret_of ?_ rfl
  all_goals simp [results, Try.results23, go_sem, ltS, notS, *]
  all_goals go_light
  all_goals (repeat (first | exact Below.refl _ _ | with_reducible apply below_alloc | with_reducible apply Below.drew | with_reducible refine Below.setCell ?_ (by dsimp only; omega) _ | with_reducible refine below_step ?_ hb1 | with_reducible refine below_step ?_ hb2))

set_option maxHeartbeats 1000000 in
theorem rEq_rz (a b : Sp) (n1 : a.lo ≤ a.hi) (n2 : b.lo ≤ b.hi) (hc : (a.lo == a.hi) = false) (z1 : (b.lo == 0) = true) (z2 : (b.hi == 0) = true) (w : World) : Calls Try.prog 23 #[.int .i64 9, .agg #[.int .i64 a.lo, .int .i64 a.hi], .agg #[.int .i64 b.lo, .int .i64 b.hi]] w fun e w' => e = .returned (.tuple #[.agg #[.int .i64 (Sp.truth false (!a.meetOk b)).lo, .int .i64 (Sp.truth false (!a.meetOk b)).hi], .bool true]) ∧ Below w.heap.size w w' := by
  go_enter Try.func23, Try.ntmps23
  go_wp2_with (first
  | (go_at_call 34; go_in)
  | (
    go_at_call 42
    refine (truthR _ _ _).mono ?_
    rintro e w2 ⟨rfl, hb2⟩
    obtain ⟨hcc2, hff2⟩ := bcell hb2
    have hs2 := hb2.size
    simp at hs2
    have l2 : w.heap.size + 1 + 1 < w2.heap.size := (by omega)
    have m2 : w.heap.size + 1 < w2.heap.size := (by omega)
    have k2 : w.heap.size < w2.heap.size := (by omega))
  | (
    go_at_call 12
    refine (meetR a b _).mono ?_
    rintro e w1 ⟨rfl, hb1⟩
    obtain ⟨hcc1, hff1⟩ := bcell hb1
    have hs1 := hb1.size
    simp at hs1
    have l1 : w.heap.size + 1 + 1 < w1.heap.size := (by omega)
    have m1 : w.heap.size + 1 < w1.heap.size := (by omega)
    have k1 : w.heap.size < w1.heap.size := (by omega)))
  all_goals (try simp only [Exit.inBlock, Exit.then])
  all_goals refine ret_of ?_ rfl
  all_goals simp [results, Try.results23, go_sem, ltS, notS, *]
  all_goals go_light
  all_goals (repeat (first | exact Below.refl _ _ | with_reducible apply below_alloc | with_reducible apply Below.drew | with_reducible refine Below.setCell ?_ (by dsimp only; omega) _ | with_reducible refine below_step ?_ hb1 | with_reducible refine below_step ?_ hb2))

end Go.Proofs.Ytdoikgjdjdgnbaa
