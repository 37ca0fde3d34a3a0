/-
  Layer 8 (span): the walks of span.Do, one for each operation and case.
-/
import Derived.Test.YtdoikgjdjdgnbaaPlainO
import Derived.Test.YtdoikgjdjdgnbaaSpanC
import Derived.Test.YtdoikgjdjdgnbaaDivP
import Derived.Test.YtdoikgjdjdgnbaaKeep
namespace Go.Proofs.Ytdoikgjdjdgnbaa
open Go.RowKit
set_option linter.unusedSimpArgs false
set_option linter.unusedVariables false
set_option maxRecDepth 100000
attribute [local go_sem ↓] Go.wp_at_zero Go.wp_at_succ

set_option maxHeartbeats 1000000 in
theorem doNot_bqx (a b : Sp) (n1 : a.lo ≤ a.hi) (n2 : b.hi < b.lo) (hc : (a.lo == a.hi) = true) (hd : (b.lo == b.hi) = false) (z1 : (a.lo == 0) = true) (z2 : (a.hi == 0) = true) (w : World) : Calls Try.prog 22 #[.int .i64 10, .agg #[.int .i64 a.lo, .int .i64 a.hi], .agg #[.int .i64 b.lo, .int .i64 b.hi]] w fun e w' => e = .returned (.tuple #[.agg #[.int .i64 (Sp.truth true (!a.has 0)).lo, .int .i64 (Sp.truth true (!a.has 0)).hi], .bool true]) ∧ Below w.heap.size w w' := by
  go_enter Try.func22, Try.ntmps22
  go_wp2_with (go_at_call 31; go_in)
  go_region_held3 (fun w' => w'.cell? ⟨w.heap.size, 0, none⟩ = some (.int .i64 a.lo) ∧ w'.cell? ⟨w.heap.size, 1, none⟩ = some (.int .i64 a.hi)) (first | exact keep2 (by assumption) (by assumption) | (go_simp; done)) (first
    | (go_at_call 16; refine (hasP a 0 _).mono ?_; rintro e w1 ⟨rfl, hb1⟩; obtain ⟨hcc1, hff1⟩ := bcell hb1; have hs1 := hb1.size; simp at hs1; have l1 : w.heap.size + 1 + 1 < w1.heap.size := (by omega); have m1 : w.heap.size + 1 < w1.heap.size := (by omega); have k1 : w.heap.size < w1.heap.size := (by omega))
    | (go_at_call 41; refine (truthP _ _ _).mono ?_; rintro e w2 ⟨rfl, hb2⟩; obtain ⟨hcc2, hff2⟩ := bcell hb2; have hs2 := hb2.size; have l2 : w.heap.size + 1 + 1 < w2.heap.size := (by omega)))
  go_wp2
  all_goals (try simp only [Exit.inBlock, Exit.then])
  all_goals refine ret_of ?_ rfl
  all_goals simp [results, Try.results22, go_sem, ltS, notS, *]
  all_goals go_light
  all_goals (repeat (first | exact Below.refl _ _ | with_reducible apply below_alloc | with_reducible apply Below.drew | with_reducible refine Below.setCell ?_ (by dsimp only; omega) _ | with_reducible refine below_step ?_ hb1 | with_reducible refine below_step ?_ hb2))

set_option maxHeartbeats 1000000 in
theorem doNot_bqy (a b : Sp) (n1 : a.lo ≤ a.hi) (n2 : b.hi < b.lo) (hc : (a.lo == a.hi) = true) (hd : (b.lo == b.hi) = false) (z1 : (a.lo == 0) = true) (z2 : (a.hi == 0) = false) (w : World) : Calls Try.prog 22 #[.int .i64 10, .agg #[.int .i64 a.lo, .int .i64 a.hi], .agg #[.int .i64 b.lo, .int .i64 b.hi]] w fun e w' => e = .returned (.tuple #[.agg #[.int .i64 (Sp.truth false (!a.has 0)).lo, .int .i64 (Sp.truth false (!a.has 0)).hi], .bool true]) ∧ Below w.heap.size w w' := by
  go_enter Try.func22, Try.ntmps22
  go_wp2_with (go_at_call 31; go_in)
  go_region_held3 (fun w' => w'.cell? ⟨w.heap.size, 0, none⟩ = some (.int .i64 a.lo) ∧ w'.cell? ⟨w.heap.size, 1, none⟩ = some (.int .i64 a.hi)) (first | exact keep2 (by assumption) (by assumption) | (go_simp; done)) (first
    | (go_at_call 16; refine (hasP a 0 _).mono ?_; rintro e w1 ⟨rfl, hb1⟩; obtain ⟨hcc1, hff1⟩ := bcell hb1; have hs1 := hb1.size; simp at hs1; have l1 : w.heap.size + 1 + 1 < w1.heap.size := (by omega); have m1 : w.heap.size + 1 < w1.heap.size := (by omega); have k1 : w.heap.size < w1.heap.size := (by omega))
    | (go_at_call 41; refine (truthP _ _ _).mono ?_; rintro e w2 ⟨rfl, hb2⟩; obtain ⟨hcc2, hff2⟩ := bcell hb2; have hs2 := hb2.size; have l2 : w.heap.size + 1 + 1 < w2.heap.size := (by omega)))
  go_wp2
  all_goals (try simp only [Exit.inBlock, Exit.then])
  all_goals refine ret_of ?_ rfl
  all_goals simp [results, Try.results22, go_sem, ltS, notS, *]
  all_goals go_light
  all_goals (repeat (first | exact Below.refl _ _ | with_reducible apply below_alloc | with_reducible apply Below.drew | with_reducible refine Below.setCell ?_ (by dsimp only; omega) _ | with_reducible refine below_step ?_ hb1 | with_reducible refine below_step ?_ hb2))

set_option maxHeartbeats 1000000 in
theorem doNot_bqz (a b : Sp) (n1 : a.lo ≤ a.hi) (n2 : b.hi < b.lo) (hc : (a.lo == a.hi) = true) (hd : (b.lo == b.hi) = false) (z1 : (a.lo == 0) = false) (w : World) : Calls Try.prog 22 #[.int .i64 10, .agg #[.int .i64 a.lo, .int .i64 a.hi], .agg #[.int .i64 b.lo, .int .i64 b.hi]] w fun e w' => e = .returned (.tuple #[.agg #[.int .i64 (Sp.truth false (!a.has 0)).lo, .int .i64 (Sp.truth false (!a.has 0)).hi], .bool true]) ∧ Below w.heap.size w w' := by
  go_enter Try.func22, Try.ntmps22
  go_wp2_with (go_at_call 31; go_in)
  go_region_held3 (fun w' => w'.cell? ⟨w.heap.size, 0, none⟩ = some (.int .i64 a.lo) ∧ w'.cell? ⟨w.heap.size, 1, none⟩ = some (.int .i64 a.hi)) (first | exact keep2 (by assumption) (by assumption) | (go_simp; done)) (first
    | (go_at_call 16; refine (hasP a 0 _).mono ?_; rintro e w1 ⟨rfl, hb1⟩; obtain ⟨hcc1, hff1⟩ := bcell hb1; have hs1 := hb1.size; simp at hs1; have l1 : w.heap.size + 1 + 1 < w1.heap.size := (by omega); have m1 : w.heap.size + 1 < w1.heap.size := (by omega); have k1 : w.heap.size < w1.heap.size := (by omega))
    | (go_at_call 41; refine (truthP _ _ _).mono ?_; rintro e w2 ⟨rfl, hb2⟩; obtain ⟨hcc2, hff2⟩ := bcell hb2; have hs2 := hb2.size; have l2 : w.heap.size + 1 + 1 < w2.heap.size := (by omega)))
  go_wp2
  all_goals (try simp only [Exit.inBlock, Exit.then])
  all_goals refine ret_of ?_ rfl
  all_goals simp [results, Try.results22, go_sem, ltS, notS, *]
  all_goals go_light
  all_goals (repeat (first | exact Below.refl _ _ | with_reducible apply below_alloc | with_reducible apply Below.drew | with_reducible refine Below.setCell ?_ (by dsimp only; omega) _ | with_reducible refine below_step ?_ hb1 | with_reducible refine below_step ?_ hb2))

set_option maxHeartbeats 1000000 in
theorem doNot_brx (a b : Sp) (n1 : a.lo ≤ a.hi) (n2 : b.hi < b.lo) (hc : (a.lo == a.hi) = false) (z1 : (a.lo == 0) = true) (z2 : (a.hi == 0) = true) (w : World) : Calls Try.prog 22 #[.int .i64 10, .agg #[.int .i64 a.lo, .int .i64 a.hi], .agg #[.int .i64 b.lo, .int .i64 b.hi]] w fun e w' => e = .returned (.tuple #[.agg #[.int .i64 (Sp.truth true (!a.has 0)).lo, .int .i64 (Sp.truth true (!a.has 0)).hi], .bool true]) ∧ Below w.heap.size w w' := by
  go_enter Try.func22, Try.ntmps22
  go_wp2_with (go_at_call 31; go_in)
  go_region_held3 (fun w' => w'.cell? ⟨w.heap.size, 0, none⟩ = some (.int .i64 a.lo) ∧ w'.cell? ⟨w.heap.size, 1, none⟩ = some (.int .i64 a.hi)) (first | exact keep2 (by assumption) (by assumption) | (go_simp; done)) (first
    | (go_at_call 16; refine (hasP a 0 _).mono ?_; rintro e w1 ⟨rfl, hb1⟩; obtain ⟨hcc1, hff1⟩ := bcell hb1; have hs1 := hb1.size; simp at hs1; have l1 : w.heap.size + 1 + 1 < w1.heap.size := (by omega); have m1 : w.heap.size + 1 < w1.heap.size := (by omega); have k1 : w.heap.size < w1.heap.size := (by omega))
    | (go_at_call 41; refine (truthP _ _ _).mono ?_; rintro e w2 ⟨rfl, hb2⟩; obtain ⟨hcc2, hff2⟩ := bcell hb2; have hs2 := hb2.size; have l2 : w.heap.size + 1 + 1 < w2.heap.size := (by omega)))
  go_wp2
  all_goals (try simp only [Exit.inBlock, Exit.then])
  all_goals refine ret_of ?_ rfl
  all_goals simp [results, Try.results22, go_sem, ltS, notS, *]
  all_goals go_light
  all_goals (repeat (first | exact Below.refl _ _ | with_reducible apply below_alloc | with_reducible apply Below.drew | with_reducible refine Below.setCell ?_ (by dsimp only; omega) _ | with_reducible refine below_step ?_ hb1 | with_reducible refine below_step ?_ hb2))

set_option maxHeartbeats 1000000 in
theorem doNot_bry (a b : Sp) (n1 : a.lo ≤ a.hi) (n2 : b.hi < b.lo) (hc : (a.lo == a.hi) = false) (z1 : (a.lo == 0) = true) (z2 : (a.hi == 0) = false) (w : World) : Calls Try.prog 22 #[.int .i64 10, .agg #[.int .i64 a.lo, .int .i64 a.hi], .agg #[.int .i64 b.lo, .int .i64 b.hi]] w fun e w' => e = .returned (.tuple #[.agg #[.int .i64 (Sp.truth false (!a.has 0)).lo, .int .i64 (Sp.truth false (!a.has 0)).hi], .bool true]) ∧ Below w.heap.size w w' := by
  go_enter Try.func22, Try.ntmps22
  go_wp2_with (go_at_call 31; go_in)
  go_region_held3 (fun w' => w'.cell? ⟨w.heap.size, 0, none⟩ = some (.int .i64 a.lo) ∧ w'.cell? ⟨w.heap.size, 1, none⟩ = some (.int .i64 a.hi)) (first | exact keep2 (by assumption) (by assumption) | (go_simp; done)) (first
    | (go_at_call 16; refine (hasP a 0 _).mono ?_; rintro e w1 ⟨rfl, hb1⟩; obtain ⟨hcc1, hff1⟩ := bcell hb1; have hs1 := hb1.size; simp at hs1; have l1 : w.heap.size + 1 + 1 < w1.heap.size := (by omega); have m1 : w.heap.size + 1 < w1.heap.size := (by omega); have k1 : w.heap.size < w1.heap.size := (by omega))
    | (go_at_call 41; refine (truthP _ _ _).mono ?_; rintro e w2 ⟨rfl, hb2⟩; obtain ⟨hcc2, hff2⟩ := bcell hb2; have hs2 := hb2.size; have l2 : w.heap.size + 1 + 1 < w2.heap.size := (by omega)))
  go_wp2
  all_goals (try simp only [Exit.inBlock, Exit.then])
  all_goals refine ret_of ?_ rfl
  all_goals simp [results, Try.results22, go_sem, ltS, notS, *]
  all_goals go_light
  all_goals (repeat (first | exact Below.refl _ _ | with_reducible apply below_alloc | with_reducible apply Below.drew | with_reducible refine Below.setCell ?_ (by dsimp only; omega) _ | with_reducible refine below_step ?_ hb1 | with_reducible refine below_step ?_ hb2))

set_option maxHeartbeats 1000000 in
theorem doNot_brz (a b : Sp) (n1 : a.lo ≤ a.hi) (n2 : b.hi < b.lo) (hc : (a.lo == a.hi) = false) (z1 : (a.lo == 0) = false) (w : World) : Calls Try.prog 22 #[.int .i64 10, .agg #[.int .i64 a.lo, .int .i64 a.hi], .agg #[.int .i64 b.lo, .int .i64 b.hi]] w fun e w' => e = .returned (.tuple #[.agg #[.int .i64 (Sp.truth false (!a.has 0)).lo, .int .i64 (Sp.truth false (!a.has 0)).hi], .bool true]) ∧ Below w.heap.size w w' := by
  go_enter Try.func22, Try.ntmps22
  go_wp2_with (go_at_call 31; go_in)
  go_region_held3 (fun w' => w'.cell? ⟨w.heap.size, 0, none⟩ = some (.int .i64 a.lo) ∧ w'.cell? ⟨w.heap.size, 1, none⟩ = some (.int .i64 a.hi)) (first | exact keep2 (by assumption) (by assumption) | (go_simp; done)) (first
    | (go_at_call 16; refine (hasP a 0 _).mono ?_; rintro e w1 ⟨rfl, hb1⟩; obtain ⟨hcc1, hff1⟩ := bcell hb1; have hs1 := hb1.size; simp at hs1; have l1 : w.heap.size + 1 + 1 < w1.heap.size := (by omega); have m1 : w.heap.size + 1 < w1.heap.size := (by omega); have k1 : w.heap.size < w1.heap.size := (by omega))
    | (go_at_call 41; refine (truthP _ _ _).mono ?_; rintro e w2 ⟨rfl, hb2⟩; obtain ⟨hcc2, hff2⟩ := bcell hb2; have hs2 := hb2.size; have l2 : w.heap.size + 1 + 1 < w2.heap.size := (by omega)))
  go_wp2
  all_goals (try simp only [Exit.inBlock, Exit.then])
  all_goals refine ret_of ?_ rfl
  all_goals simp [results, Try.results22, go_sem, ltS, notS, *]
  all_goals go_light
  all_goals (repeat (first | exact Below.refl _ _ | with_reducible apply below_alloc | with_reducible apply Below.drew | with_reducible refine Below.setCell ?_ (by dsimp only; omega) _ | with_reducible refine below_step ?_ hb1 | with_reducible refine below_step ?_ hb2))

end Go.Proofs.Ytdoikgjdjdgnbaa
