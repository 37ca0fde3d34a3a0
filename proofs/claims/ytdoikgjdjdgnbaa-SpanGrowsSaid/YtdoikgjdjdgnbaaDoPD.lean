/-
  Layer 8 (span): the walks of span.Do, one for each operation and case.
-/
import Derived.Test.YtdoikgjdjdgnbaaPlainO
import Derived.Test.YtdoikgjdjdgnbaaSpanC
import Derived.Test.YtdoikgjdjdgnbaaDivP
import Derived.Test.YtdoikgjdjdgnbaaKeep
namespace Go.Proofs.Ytdoikgjdjdgnbaa
open Go.RowKit
set_option linter.unusedSimpArgs false
set_option linter.unusedVariables false
set_option maxRecDepth 100000
attribute [local go_sem ↓] Go.wp_at_zero Go.wp_at_succ

set_option maxHeartbeats 1000000 in
theorem doDiv_pz (a b : Sp) (n1 : a.lo ≤ a.hi) (n2 : b.lo ≤ b.hi) (hc : (a.lo == a.hi) = true) (hd : (b.lo == b.hi) = true) (z1 : (b.lo == 0) = true) (z2 : (b.hi == 0) = true) (w : World) : Calls Try.prog 22 #[.int .i64 6, .agg #[.int .i64 a.lo, .int .i64 a.hi], .agg #[.int .i64 b.lo, .int .i64 b.hi]] w fun e w' => e = .returned (.tuple #[.agg #[.int .i64 (Sp.mk 0 0).lo, .int .i64 (Sp.mk 0 0).hi], .bool false]) ∧ Below w.heap.size w w' := by
  go_enter Try.func22, Try.ntmps22
  go_wp2_with (first
  | (go_at_call 31; go_in))
  all_goals (try simp only [Exit.inBlock, Exit.then])
  all_goals refine ret_of ?_ rfl
  all_goals simp [results, Try.results22, go_sem, ltS, notS, *]
  all_goals go_light
  all_goals (repeat (first | exact Below.refl _ _ | with_reducible apply below_alloc | with_reducible apply Below.drew | with_reducible refine Below.setCell ?_ (by dsimp only; omega) _ | with_reducible refine below_step ?_ hb1))

set_option maxHeartbeats 1000000 in
theorem doDiv_pc (a b : Sp) (n1 : a.lo ≤ a.hi) (n2 : b.lo ≤ b.hi) (hc : (a.lo == a.hi) = true) (hd : (b.lo == b.hi) = true) (z1 : (b.lo == 0) = false) (w : World) : Calls Try.prog 22 #[.int .i64 6, .agg #[.int .i64 a.lo, .int .i64 a.hi], .agg #[.int .i64 b.lo, .int .i64 b.hi]] w fun e w' => e = .returned (.tuple #[.agg #[.int .i64 (divS a b).lo, .int .i64 (divS a b).hi], .bool true]) ∧ Below w.heap.size w w' := by
  have z : b.lo ≠ 0 ∨ b.hi ≠ 0 := .inl (by simpa using z1)
  have Z := Lib.hid z; clear z
  go_enter Try.func22, Try.ntmps22
  go_wp2_with (first
  | (go_at_call 31; go_in)
  | (
    go_at_call 40
    refine (dividedP a b _ (by assumption) Z.out).mono ?_
    rintro e w1 ⟨rfl, hb1⟩
    obtain ⟨hcc1, hff1⟩ := bcell hb1
    have hs1 := hb1.size
    simp at hs1
    have l1 : w.heap.size + 1 + 1 < w1.heap.size := (by omega)
    have m1 : w.heap.size + 1 < w1.heap.size := (by omega)
    have k1 : w.heap.size < w1.heap.size := (by omega)))
  all_goals (try simp only [Exit.inBlock, Exit.then])
  all_goals refine ret_of ?_ rfl
  all_goals simp [results, Try.results22, go_sem, ltS, notS, *]
  all_goals go_light
  all_goals (repeat (first | exact Below.refl _ _ | with_reducible apply below_alloc | with_reducible apply Below.drew | with_reducible refine Below.setCell ?_ (by dsimp only; omega) _ | with_reducible refine below_step ?_ hb1))

set_option maxHeartbeats 1000000 in
theorem doDiv_pd (a b : Sp) (n1 : a.lo ≤ a.hi) (n2 : b.lo ≤ b.hi) (hc : (a.lo == a.hi) = true) (hd : (b.lo == b.hi) = true) (z1 : (b.lo == 0) = true) (z2 : (b.hi == 0) = false) (w : World) : Calls Try.prog 22 #[.int .i64 6, .agg #[.int .i64 a.lo, .int .i64 a.hi], .agg #[.int .i64 b.lo, .int .i64 b.hi]] w fun e w' => e = .returned (.tuple #[.agg #[.int .i64 (divS a b).lo, .int .i64 (divS a b).hi], .bool true]) ∧ Below w.heap.size w w' := by
  have z : b.lo ≠ 0 ∨ b.hi ≠ 0 := .inr (by simpa using z2)
  have Z := Lib.hid z; clear z
  go_enter Try.func22, Try.ntmps22
  go_wp2_with (first
  | (go_at_call 31; go_in)
  | (
    go_at_call 40
    refine (dividedP a b _ (by assumption) Z.out).mono ?_
    rintro e w1 ⟨rfl, hb1⟩
    obtain ⟨hcc1, hff1⟩ := bcell hb1
    have hs1 := hb1.size
    simp at hs1
    have l1 : w.heap.size + 1 + 1 < w1.heap.size := (by omega)
    have m1 : w.heap.size + 1 < w1.heap.size := (by omega)
    have k1 : w.heap.size < w1.heap.size := (by omega)))
  all_goals (try simp only [Exit.inBlock, Exit.then])
  all_goals refine ret_of ?_ rfl
  all_goals simp [results, Try.results22, go_sem, ltS, notS, *]
  all_goals go_light
  all_goals (repeat (first | exact Below.refl _ _ | with_reducible apply below_alloc | with_reducible apply Below.drew | with_reducible refine Below.setCell ?_ (by dsimp only; omega) _ | with_reducible refine below_step ?_ hb1))

set_option maxHeartbeats 1000000 in
theorem doDiv_qz (a b : Sp) (n1 : a.lo ≤ a.hi) (n2 : b.lo ≤ b.hi) (hc : (a.lo == a.hi) = true) (hd : (b.lo == b.hi) = false) (z1 : (b.lo == 0) = true) (z2 : (b.hi == 0) = true) (w : World) : Calls Try.prog 22 #[.int .i64 6, .agg #[.int .i64 a.lo, .int .i64 a.hi], .agg #[.int .i64 b.lo, .int .i64 b.hi]] w fun e w' => e = .returned (.tuple #[.agg #[.int .i64 (Sp.mk 0 0).lo, .int .i64 (Sp.mk 0 0).hi], .bool false]) ∧ Below w.heap.size w w' := by
  go_enter Try.func22, Try.ntmps22
  go_wp2_with (first
  | (go_at_call 31; go_in))
  all_goals (try simp only [Exit.inBlock, Exit.then])
  all_goals refine ret_of ?_ rfl
  all_goals simp [results, Try.results22, go_sem, ltS, notS, *]
  all_goals go_light
  all_goals (repeat (first | exact Below.refl _ _ | with_reducible apply below_alloc | with_reducible apply Below.drew | with_reducible refine Below.setCell ?_ (by dsimp only; omega) _ | with_reducible refine below_step ?_ hb1))

set_option maxHeartbeats 1000000 in
theorem doDiv_qc (a b : Sp) (n1 : a.lo ≤ a.hi) (n2 : b.lo ≤ b.hi) (hc : (a.lo == a.hi) = true) (hd : (b.lo == b.hi) = false) (z1 : (b.lo == 0) = false) (w : World) : Calls Try.prog 22 #[.int .i64 6, .agg #[.int .i64 a.lo, .int .i64 a.hi], .agg #[.int .i64 b.lo, .int .i64 b.hi]] w fun e w' => e = .returned (.tuple #[.agg #[.int .i64 (divS a b).lo, .int .i64 (divS a b).hi], .bool true]) ∧ Below w.heap.size w w' := by
  have z : b.lo ≠ 0 ∨ b.hi ≠ 0 := .inl (by simpa using z1)
  have Z := Lib.hid z; clear z
  go_enter Try.func22, Try.ntmps22
  go_wp2_with (first
  | (go_at_call 31; go_in)
  | (
    go_at_call 40
    refine (dividedP a b _ (by assumption) Z.out).mono ?_
    rintro e w1 ⟨rfl, hb1⟩
    obtain ⟨hcc1, hff1⟩ := bcell hb1
    have hs1 := hb1.size
    simp at hs1
    have l1 : w.heap.size + 1 + 1 < w1.heap.size := (by omega)
    have m1 : w.heap.size + 1 < w1.heap.size := (by omega)
    have k1 : w.heap.size < w1.heap.size := (by omega)))
  all_goals (try simp only [Exit.inBlock, Exit.then])
  all_goals refine ret_of ?_ rfl
  all_goals simp [results, Try.results22, go_sem, ltS, notS, *]
  all_goals go_light
  all_goals (repeat (first | exact Below.refl _ _ | with_reducible apply below_alloc | with_reducible apply Below.drew | with_reducible refine Below.setCell ?_ (by dsimp only; omega) _ | with_reducible refine below_step ?_ hb1))

set_option maxHeartbeats 1000000 in
theorem doDiv_qd (a b : Sp) (n1 : a.lo ≤ a.hi) (n2 : b.lo ≤ b.hi) (hc : (a.lo == a.hi) = true) (hd : (b.lo == b.hi) = false) (z1 : (b.lo == 0) = true) (z2 : (b.hi == 0) = false) (w : World) : Calls Try.prog 22 #[.int .i64 6, .agg #[.int .i64 a.lo, .int .i64 a.hi], .agg #[.int .i64 b.lo, .int .i64 b.hi]] w fun e w' => e = .returned (.tuple #[.agg #[.int .i64 (divS a b).lo, .int .i64 (divS a b).hi], .bool true]) ∧ Below w.heap.size w w' := by
  have z : b.lo ≠ 0 ∨ b.hi ≠ 0 := .inr (by simpa using z2)
  have Z := Lib.hid z; clear z
  go_enter Try.func22, Try.ntmps22
  go_wp2_with (first
  | (go_at_call 31; go_in)
  | (
    go_at_call 40
    refine (dividedP a b _ (by assumption) Z.out).mono ?_
    rintro e w1 ⟨rfl, hb1⟩
    obtain ⟨hcc1, hff1⟩ := bcell hb1
    have hs1 := hb1.size
    simp at hs1
    have l1 : w.heap.size + 1 + 1 < w1.heap.size := (by omega)
    have m1 : w.heap.size + 1 < w1.heap.size := (by omega)
    have k1 : w.heap.size < w1.heap.size := (by omega)))
  all_goals (try simp only [Exit.inBlock, Exit.then])
  all_goals refine ret_of ?_ rfl
  all_goals simp [results, Try.results22, go_sem, ltS, notS, *]
  all_goals go_light
  all_goals (repeat (first | exact Below.refl _ _ | with_reducible apply below_alloc | with_reducible apply Below.drew | with_reducible refine Below.setCell ?_ (by dsimp only; omega) _ | with_reducible refine below_step ?_ hb1))

set_option maxHeartbeats 1000000 in
theorem doDiv_rz (a b : Sp) (n1 : a.lo ≤ a.hi) (n2 : b.lo ≤ b.hi) (hc : (a.lo == a.hi) = false) (z1 : (b.lo == 0) = true) (z2 : (b.hi == 0) = true) (w : World) : Calls Try.prog 22 #[.int .i64 6, .agg #[.int .i64 a.lo, .int .i64 a.hi], .agg #[.int .i64 b.lo, .int .i64 b.hi]] w fun e w' => e = .returned (.tuple #[.agg #[.int .i64 (Sp.mk 0 0).lo, .int .i64 (Sp.mk 0 0).hi], .bool false]) ∧ Below w.heap.size w w' := by
  go_enter Try.func22, Try.ntmps22
  go_wp2_with (first
  | (go_at_call 31; go_in))
  all_goals (try simp only [Exit.inBlock, Exit.then])
  all_goals refine ret_of ?_ rfl
  all_goals simp [results, Try.results22, go_sem, ltS, notS, *]
  all_goals go_light
  all_goals (repeat (first | exact Below.refl _ _ | with_reducible apply below_alloc | with_reducible apply Below.drew | with_reducible refine Below.setCell ?_ (by dsimp only; omega) _ | with_reducible refine below_step ?_ hb1))

set_option maxHeartbeats 1000000 in
theorem doDiv_rc (a b : Sp) (n1 : a.lo ≤ a.hi) (n2 : b.lo ≤ b.hi) (hc : (a.lo == a.hi) = false) (z1 : (b.lo == 0) = false) (w : World) : Calls Try.prog 22 #[.int .i64 6, .agg #[.int .i64 a.lo, .int .i64 a.hi], .agg #[.int .i64 b.lo, .int .i64 b.hi]] w fun e w' => e = .returned (.tuple #[.agg #[.int .i64 (divS a b).lo, .int .i64 (divS a b).hi], .bool true]) ∧ Below w.heap.size w w' := by
  have z : b.lo ≠ 0 ∨ b.hi ≠ 0 := .inl (by simpa using z1)
  have Z := Lib.hid z; clear z
  go_enter Try.func22, Try.ntmps22
  go_wp2_with (first
  | (go_at_call 31; go_in)
  | (
    go_at_call 40
    refine (dividedP a b _ (by assumption) Z.out).mono ?_
    rintro e w1 ⟨rfl, hb1⟩
    obtain ⟨hcc1, hff1⟩ := bcell hb1
    have hs1 := hb1.size
    simp at hs1
    have l1 : w.heap.size + 1 + 1 < w1.heap.size := (by omega)
    have m1 : w.heap.size + 1 < w1.heap.size := (by omega)
    have k1 : w.heap.size < w1.heap.size := (by omega)))
  all_goals (try simp only [Exit.inBlock, Exit.then])
  all_goals refine ret_of ?_ rfl
  all_goals simp [results, Try.results22, go_sem, ltS, notS, *]
  all_goals go_light
  all_goals (repeat (first | exact Below.refl _ _ | with_reducible apply below_alloc | with_reducible apply Below.drew | with_reducible refine Below.setCell ?_ (by dsimp only; omega) _ | with_reducible refine below_step ?_ hb1))

set_option maxHeartbeats 1000000 in
theorem doDiv_rd (a b : Sp) (n1 : a.lo ≤ a.hi) (n2 : b.lo ≤ b.hi) (hc : (a.lo == a.hi) = false) (z1 : (b.lo == 0) = true) (z2 : (b.hi == 0) = false) (w : World) : Calls Try.prog 22 #[.int .i64 6, .agg #[.int .i64 a.lo, .int .i64 a.hi], .agg #[.int .i64 b.lo, .int .i64 b.hi]] w fun e w' => e = .returned (.tuple #[.agg #[.int .i64 (divS a b).lo, .int .i64 (divS a b).hi], .bool true]) ∧ Below w.heap.size w w' := by
  have z : b.lo ≠ 0 ∨ b.hi ≠ 0 := .inr (by simpa using z2)
  have Z := Lib.hid z; clear z
  go_enter Try.func22, Try.ntmps22
  go_wp2_with (first
  | (go_at_call 31; go_in)
  | (
    go_at_call 40
    refine (dividedP a b _ (by assumption) Z.out).mono ?_
    rintro e w1 ⟨rfl, hb1⟩
    obtain ⟨hcc1, hff1⟩ := bcell hb1
    have hs1 := hb1.size
    simp at hs1
    have l1 : w.heap.size + 1 + 1 < w1.heap.size := (by omega)
    have m1 : w.heap.size + 1 < w1.heap.size := (by omega)
    have k1 : w.heap.size < w1.heap.size := (by omega)))
  all_goals (try simp only [Exit.inBlock, Exit.then])
  all_goals refine ret_of ?_ rfl
  all_goals simp [results, Try.results22, go_sem, ltS, notS, *]
  all_goals go_light
  all_goals (repeat (first | exact Below.refl _ _ | with_reducible apply below_alloc | with_reducible apply Below.drew | with_reducible refine Below.setCell ?_ (by dsimp only; omega) _ | with_reducible refine below_step ?_ hb1))

end Go.Proofs.Ytdoikgjdjdgnbaa
