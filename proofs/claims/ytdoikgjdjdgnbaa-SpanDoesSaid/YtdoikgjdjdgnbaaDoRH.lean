/-
  Layer 8 (span): the walks of soffitref08.Do, one for each operation and case.
-/
import Derived.Test.YtdoikgjdjdgnbaaQuotR
import Derived.Test.YtdoikgjdjdgnbaaRestR
import Derived.Test.YtdoikgjdjdgnbaaOpR
import Derived.Test.YtdoikgjdjdgnbaaPlainJ
import Derived.Test.YtdoikgjdjdgnbaaKeep
import Derived.Deep.RegionWith
namespace Go.Proofs.Ytdoikgjdjdgnbaa
open Go.RowKit
set_option linter.unusedSimpArgs false
set_option linter.unusedVariables false
set_option maxRecDepth 100000
attribute [local go_sem ↓] Go.wp_at_zero Go.wp_at_succ

set_option maxHeartbeats 1000000 in
theorem rMul_pd (a b : Sp) (n1 : a.lo ≤ a.hi) (n2 : b.lo ≤ b.hi) (hc : (a.lo == a.hi) = true) (hd : (b.lo == b.hi) = true) (z1 : (b.lo == 0) = true) (z2 : (b.hi == 0) = false) (w : World) : Calls Try.prog 23 #[.int .i64 5, .agg #[.int .i64 a.lo, .int .i64 a.hi], .agg #[.int .i64 b.lo, .int .i64 b.hi]] w fun e w' => e = .returned (.tuple #[.agg #[.int .i64 (Sp.mk (wrap64 (a.lo * b.lo)) (wrap64 (a.lo * b.lo))).lo, .int .i64 (Sp.mk (wrap64 (a.lo * b.lo)) (wrap64 (a.lo * b.lo))).hi], .bool true]) ∧ Below w.heap.size w w' := by
  go_enter Try.func23, Try.ntmps23
  go_wp2_with (first
  | (go_at_call 34; go_in)
  | (
    go_at_call 28
    refine (opR_5 _ _  _).mono ?_
    rintro e w1 ⟨rfl, rfl⟩))
  all_goals (try simp only [Exit.inBlock, Exit.then])
  all_goals refine ret_of ?_ rfl
  all_goals simp [results, Try.results23, go_sem, ltS, notS, *]
  all_goals go_light
  all_goals (repeat (first | exact Below.refl _ _ | with_reducible apply below_alloc | with_reducible apply Below.drew | with_reducible refine Below.setCell ?_ (by dsimp only; omega) _ | with_reducible refine below_step ?_ hb1))

set_option maxHeartbeats 1000000 in
theorem rMul_q0d (a b : Sp) (n1 : a.lo ≤ a.hi) (n2 : b.lo ≤ b.hi) (ha : a.Wf) (hb : b.Wf) (hc : (a.lo == a.hi) = true) (hd : (b.lo == b.hi) = false) (z1 : (b.lo == 0) = true) (z2 : (b.hi == 0) = false) (o1 : mulOk a.lo b.lo = false) (w : World) : Calls Try.prog 23 #[.int .i64 5, .agg #[.int .i64 a.lo, .int .i64 a.hi], .agg #[.int .i64 b.lo, .int .i64 b.hi]] w fun e w' => e = .returned (.tuple #[.agg #[.int .i64 Sp.all.lo, .int .i64 Sp.all.hi], .bool true]) ∧ Below w.heap.size w w' := by
  have hl1 : In64 a.lo := ha.1
  have hl2 : In64 a.hi := ha.2
  have hl3 : In64 b.lo := hb.1
  have hl4 : In64 b.hi := hb.2
  go_enter Try.func23, Try.ntmps23
  go_wp2_with (first
  | (go_at_call 34; go_in)
  | (
    go_at_call 46
    refine (productR _ _ (by assumption) (by assumption) _).mono ?_
    first
    | (have u := hb3; rintro e w4 ⟨rfl, hb4⟩; obtain ⟨hcc4, hff4⟩ := bcell hb4; have hs4 := hb4.size; (try simp at hs4); have l4 : w.heap.size + 1 + 1 < w4.heap.size := (by omega); have m4 : w.heap.size + 1 < w4.heap.size := (by omega); have k4 : w.heap.size < w4.heap.size := (by omega))
    | (have u := hb2; rintro e w3 ⟨rfl, hb3⟩; obtain ⟨hcc3, hff3⟩ := bcell hb3; have hs3 := hb3.size; (try simp at hs3); have l3 : w.heap.size + 1 + 1 < w3.heap.size := (by omega); have m3 : w.heap.size + 1 < w3.heap.size := (by omega); have k3 : w.heap.size < w3.heap.size := (by omega))
    | (have u := hb1; rintro e w2 ⟨rfl, hb2⟩; obtain ⟨hcc2, hff2⟩ := bcell hb2; have hs2 := hb2.size; (try simp at hs2); have l2 : w.heap.size + 1 + 1 < w2.heap.size := (by omega); have m2 : w.heap.size + 1 < w2.heap.size := (by omega); have k2 : w.heap.size < w2.heap.size := (by omega))
    | (rintro e w1 ⟨rfl, hb1⟩; obtain ⟨hcc1, hff1⟩ := bcell hb1; have hs1 := hb1.size; (try simp at hs1); have l1 : w.heap.size + 1 + 1 < w1.heap.size := (by omega); have m1 : w.heap.size + 1 < w1.heap.size := (by omega); have k1 : w.heap.size < w1.heap.size := (by omega)))
  | (
    go_at_call 44
    refine (endsR_no _ _ _ _).mono ?_
    rintro e w5 ⟨rfl, hb5⟩
    obtain ⟨hcc5, hff5⟩ := bcell hb5
    have hs5 := hb5.size
    (try simp at hs5)
    have l5 : w.heap.size + 1 + 1 < w5.heap.size := (by omega)
    have m5 : w.heap.size + 1 < w5.heap.size := (by omega)
    have k5 : w.heap.size < w5.heap.size := (by omega)))
  all_goals (try simp only [Exit.inBlock, Exit.then])
  all_goals refine ret_of ?_ rfl
  all_goals simp [results, Try.results23, go_sem, ltS, notS, *]
  all_goals go_light
  all_goals (repeat (first | exact Below.refl _ _ | with_reducible apply below_alloc | with_reducible apply Below.drew | with_reducible refine Below.setCell ?_ (by dsimp only; omega) _ | with_reducible refine below_step ?_ hb1 | with_reducible refine below_step ?_ hb2 | with_reducible refine below_step ?_ hb3 | with_reducible refine below_step ?_ hb4 | with_reducible refine below_step ?_ hb5))

set_option maxHeartbeats 1000000 in
theorem rMul_q1d (a b : Sp) (n1 : a.lo ≤ a.hi) (n2 : b.lo ≤ b.hi) (ha : a.Wf) (hb : b.Wf) (hc : (a.lo == a.hi) = true) (hd : (b.lo == b.hi) = false) (z1 : (b.lo == 0) = true) (z2 : (b.hi == 0) = false) (o1 : mulOk a.lo b.lo = true) (o2 : mulOk a.lo b.hi = false) (w : World) : Calls Try.prog 23 #[.int .i64 5, .agg #[.int .i64 a.lo, .int .i64 a.hi], .agg #[.int .i64 b.lo, .int .i64 b.hi]] w fun e w' => e = .returned (.tuple #[.agg #[.int .i64 Sp.all.lo, .int .i64 Sp.all.hi], .bool true]) ∧ Below w.heap.size w w' := by
  have hl1 : In64 a.lo := ha.1
  have hl2 : In64 a.hi := ha.2
  have hl3 : In64 b.lo := hb.1
  have hl4 : In64 b.hi := hb.2
  go_enter Try.func23, Try.ntmps23
  go_wp2_with (first
  | (go_at_call 34; go_in)
  | (
    go_at_call 46
    refine (productR _ _ (by assumption) (by assumption) _).mono ?_
    first
    | (have u := hb3; rintro e w4 ⟨rfl, hb4⟩; obtain ⟨hcc4, hff4⟩ := bcell hb4; have hs4 := hb4.size; (try simp at hs4); have l4 : w.heap.size + 1 + 1 < w4.heap.size := (by omega); have m4 : w.heap.size + 1 < w4.heap.size := (by omega); have k4 : w.heap.size < w4.heap.size := (by omega))
    | (have u := hb2; rintro e w3 ⟨rfl, hb3⟩; obtain ⟨hcc3, hff3⟩ := bcell hb3; have hs3 := hb3.size; (try simp at hs3); have l3 : w.heap.size + 1 + 1 < w3.heap.size := (by omega); have m3 : w.heap.size + 1 < w3.heap.size := (by omega); have k3 : w.heap.size < w3.heap.size := (by omega))
    | (have u := hb1; rintro e w2 ⟨rfl, hb2⟩; obtain ⟨hcc2, hff2⟩ := bcell hb2; have hs2 := hb2.size; (try simp at hs2); have l2 : w.heap.size + 1 + 1 < w2.heap.size := (by omega); have m2 : w.heap.size + 1 < w2.heap.size := (by omega); have k2 : w.heap.size < w2.heap.size := (by omega))
    | (rintro e w1 ⟨rfl, hb1⟩; obtain ⟨hcc1, hff1⟩ := bcell hb1; have hs1 := hb1.size; (try simp at hs1); have l1 : w.heap.size + 1 + 1 < w1.heap.size := (by omega); have m1 : w.heap.size + 1 < w1.heap.size := (by omega); have k1 : w.heap.size < w1.heap.size := (by omega)))
  | (
    go_at_call 44
    refine (endsR_no _ _ _ _).mono ?_
    rintro e w5 ⟨rfl, hb5⟩
    obtain ⟨hcc5, hff5⟩ := bcell hb5
    have hs5 := hb5.size
    (try simp at hs5)
    have l5 : w.heap.size + 1 + 1 < w5.heap.size := (by omega)
    have m5 : w.heap.size + 1 < w5.heap.size := (by omega)
    have k5 : w.heap.size < w5.heap.size := (by omega)))
  all_goals (try simp only [Exit.inBlock, Exit.then])
  all_goals refine ret_of ?_ rfl
  all_goals simp [results, Try.results23, go_sem, ltS, notS, *]
  all_goals go_light
  all_goals (repeat (first | exact Below.refl _ _ | with_reducible apply below_alloc | with_reducible apply Below.drew | with_reducible refine Below.setCell ?_ (by dsimp only; omega) _ | with_reducible refine below_step ?_ hb1 | with_reducible refine below_step ?_ hb2 | with_reducible refine below_step ?_ hb3 | with_reducible refine below_step ?_ hb4 | with_reducible refine below_step ?_ hb5))

set_option maxHeartbeats 1000000 in
theorem rMul_q2d (a b : Sp) (n1 : a.lo ≤ a.hi) (n2 : b.lo ≤ b.hi) (ha : a.Wf) (hb : b.Wf) (hc : (a.lo == a.hi) = true) (hd : (b.lo == b.hi) = false) (z1 : (b.lo == 0) = true) (z2 : (b.hi == 0) = false) (o1 : mulOk a.lo b.lo = true) (o2 : mulOk a.lo b.hi = true) (o3 : mulOk a.hi b.lo = false) (w : World) : Calls Try.prog 23 #[.int .i64 5, .agg #[.int .i64 a.lo, .int .i64 a.hi], .agg #[.int .i64 b.lo, .int .i64 b.hi]] w fun e w' => e = .returned (.tuple #[.agg #[.int .i64 Sp.all.lo, .int .i64 Sp.all.hi], .bool true]) ∧ Below w.heap.size w w' := by
  have hl1 : In64 a.lo := ha.1
  have hl2 : In64 a.hi := ha.2
  have hl3 : In64 b.lo := hb.1
  have hl4 : In64 b.hi := hb.2
  go_enter Try.func23, Try.ntmps23
  go_wp2_with (first
  | (go_at_call 34; go_in)
  | (
    go_at_call 46
    refine (productR _ _ (by assumption) (by assumption) _).mono ?_
    first
    | (have u := hb3; rintro e w4 ⟨rfl, hb4⟩; obtain ⟨hcc4, hff4⟩ := bcell hb4; have hs4 := hb4.size; (try simp at hs4); have l4 : w.heap.size + 1 + 1 < w4.heap.size := (by omega); have m4 : w.heap.size + 1 < w4.heap.size := (by omega); have k4 : w.heap.size < w4.heap.size := (by omega))
    | (have u := hb2; rintro e w3 ⟨rfl, hb3⟩; obtain ⟨hcc3, hff3⟩ := bcell hb3; have hs3 := hb3.size; (try simp at hs3); have l3 : w.heap.size + 1 + 1 < w3.heap.size := (by omega); have m3 : w.heap.size + 1 < w3.heap.size := (by omega); have k3 : w.heap.size < w3.heap.size := (by omega))
    | (have u := hb1; rintro e w2 ⟨rfl, hb2⟩; obtain ⟨hcc2, hff2⟩ := bcell hb2; have hs2 := hb2.size; (try simp at hs2); have l2 : w.heap.size + 1 + 1 < w2.heap.size := (by omega); have m2 : w.heap.size + 1 < w2.heap.size := (by omega); have k2 : w.heap.size < w2.heap.size := (by omega))
    | (rintro e w1 ⟨rfl, hb1⟩; obtain ⟨hcc1, hff1⟩ := bcell hb1; have hs1 := hb1.size; (try simp at hs1); have l1 : w.heap.size + 1 + 1 < w1.heap.size := (by omega); have m1 : w.heap.size + 1 < w1.heap.size := (by omega); have k1 : w.heap.size < w1.heap.size := (by omega)))
  | (
    go_at_call 44
    refine (endsR_no _ _ _ _).mono ?_
    rintro e w5 ⟨rfl, hb5⟩
    obtain ⟨hcc5, hff5⟩ := bcell hb5
    have hs5 := hb5.size
    (try simp at hs5)
    have l5 : w.heap.size + 1 + 1 < w5.heap.size := (by omega)
    have m5 : w.heap.size + 1 < w5.heap.size := (by omega)
    have k5 : w.heap.size < w5.heap.size := (by omega)))
  all_goals (try simp only [Exit.inBlock, Exit.then])
  all_goals refine ret_of ?_ rfl
  all_goals simp [results, Try.results23, go_sem, ltS, notS, *]
  all_goals go_light
  all_goals (repeat (first | exact Below.refl _ _ | with_reducible apply below_alloc | with_reducible apply Below.drew | with_reducible refine Below.setCell ?_ (by dsimp only; omega) _ | with_reducible refine below_step ?_ hb1 | with_reducible refine below_step ?_ hb2 | with_reducible refine below_step ?_ hb3 | with_reducible refine below_step ?_ hb4 | with_reducible refine below_step ?_ hb5))

set_option maxHeartbeats 1000000 in
theorem rMul_q3d (a b : Sp) (n1 : a.lo ≤ a.hi) (n2 : b.lo ≤ b.hi) (ha : a.Wf) (hb : b.Wf) (hc : (a.lo == a.hi) = true) (hd : (b.lo == b.hi) = false) (z1 : (b.lo == 0) = true) (z2 : (b.hi == 0) = false) (o1 : mulOk a.lo b.lo = true) (o2 : mulOk a.lo b.hi = true) (o3 : mulOk a.hi b.lo = true) (o4 : mulOk a.hi b.hi = false) (w : World) : Calls Try.prog 23 #[.int .i64 5, .agg #[.int .i64 a.lo, .int .i64 a.hi], .agg #[.int .i64 b.lo, .int .i64 b.hi]] w fun e w' => e = .returned (.tuple #[.agg #[.int .i64 Sp.all.lo, .int .i64 Sp.all.hi], .bool true]) ∧ Below w.heap.size w w' := by
  have hl1 : In64 a.lo := ha.1
  have hl2 : In64 a.hi := ha.2
  have hl3 : In64 b.lo := hb.1
  have hl4 : In64 b.hi := hb.2
  go_enter Try.func23, Try.ntmps23
  go_wp2_with (first
  | (go_at_call 34; go_in)
  | (
    go_at_call 46
    refine (productR _ _ (by assumption) (by assumption) _).mono ?_
    first
    | (have u := hb3; rintro e w4 ⟨rfl, hb4⟩; obtain ⟨hcc4, hff4⟩ := bcell hb4; have hs4 := hb4.size; (try simp at hs4); have l4 : w.heap.size + 1 + 1 < w4.heap.size := (by omega); have m4 : w.heap.size + 1 < w4.heap.size := (by omega); have k4 : w.heap.size < w4.heap.size := (by omega))
    | (have u := hb2; rintro e w3 ⟨rfl, hb3⟩; obtain ⟨hcc3, hff3⟩ := bcell hb3; have hs3 := hb3.size; (try simp at hs3); have l3 : w.heap.size + 1 + 1 < w3.heap.size := (by omega); have m3 : w.heap.size + 1 < w3.heap.size := (by omega); have k3 : w.heap.size < w3.heap.size := (by omega))
    | (have u := hb1; rintro e w2 ⟨rfl, hb2⟩; obtain ⟨hcc2, hff2⟩ := bcell hb2; have hs2 := hb2.size; (try simp at hs2); have l2 : w.heap.size + 1 + 1 < w2.heap.size := (by omega); have m2 : w.heap.size + 1 < w2.heap.size := (by omega); have k2 : w.heap.size < w2.heap.size := (by omega))
    | (rintro e w1 ⟨rfl, hb1⟩; obtain ⟨hcc1, hff1⟩ := bcell hb1; have hs1 := hb1.size; (try simp at hs1); have l1 : w.heap.size + 1 + 1 < w1.heap.size := (by omega); have m1 : w.heap.size + 1 < w1.heap.size := (by omega); have k1 : w.heap.size < w1.heap.size := (by omega)))
  | (
    go_at_call 44
    refine (endsR_no _ _ _ _).mono ?_
    rintro e w5 ⟨rfl, hb5⟩
    obtain ⟨hcc5, hff5⟩ := bcell hb5
    have hs5 := hb5.size
    (try simp at hs5)
    have l5 : w.heap.size + 1 + 1 < w5.heap.size := (by omega)
    have m5 : w.heap.size + 1 < w5.heap.size := (by omega)
    have k5 : w.heap.size < w5.heap.size := (by omega)))
  all_goals (try simp only [Exit.inBlock, Exit.then])
  all_goals refine ret_of ?_ rfl
  all_goals simp [results, Try.results23, go_sem, ltS, notS, *]
  all_goals go_light
  all_goals (repeat (first | exact Below.refl _ _ | with_reducible apply below_alloc | with_reducible apply Below.drew | with_reducible refine Below.setCell ?_ (by dsimp only; omega) _ | with_reducible refine below_step ?_ hb1 | with_reducible refine below_step ?_ hb2 | with_reducible refine below_step ?_ hb3 | with_reducible refine below_step ?_ hb4 | with_reducible refine below_step ?_ hb5))

set_option maxHeartbeats 1000000 in
theorem rMul_q4d (a b : Sp) (n1 : a.lo ≤ a.hi) (n2 : b.lo ≤ b.hi) (ha : a.Wf) (hb : b.Wf) (hc : (a.lo == a.hi) = true) (hd : (b.lo == b.hi) = false) (z1 : (b.lo == 0) = true) (z2 : (b.hi == 0) = false) (o1 : mulOk a.lo b.lo = true) (o2 : mulOk a.lo b.hi = true) (o3 : mulOk a.hi b.lo = true) (o4 : mulOk a.hi b.hi = true) (w : World) : Calls Try.prog 23 #[.int .i64 5, .agg #[.int .i64 a.lo, .int .i64 a.hi], .agg #[.int .i64 b.lo, .int .i64 b.hi]] w fun e w' => e = .returned (.tuple #[.agg #[.int .i64 (hullTo [prodV a.lo b.lo, prodV a.lo b.hi, prodV a.hi b.lo, prodV a.hi b.hi] 4).lo, .int .i64 (hullTo [prodV a.lo b.lo, prodV a.lo b.hi, prodV a.hi b.lo, prodV a.hi b.hi] 4).hi], .bool true]) ∧ Below w.heap.size w w' := by
  have hl1 : In64 a.lo := ha.1
  have hl2 : In64 a.hi := ha.2
  have hl3 : In64 b.lo := hb.1
  have hl4 : In64 b.hi := hb.2
  go_enter Try.func23, Try.ntmps23
  go_wp2_with (first
  | (go_at_call 34; go_in)
  | (
    go_at_call 46
    refine (productR _ _ (by assumption) (by assumption) _).mono ?_
    first
    | (have u := hb3; rintro e w4 ⟨rfl, hb4⟩; obtain ⟨hcc4, hff4⟩ := bcell hb4; have hs4 := hb4.size; (try simp at hs4); have l4 : w.heap.size + 1 + 1 < w4.heap.size := (by omega); have m4 : w.heap.size + 1 < w4.heap.size := (by omega); have k4 : w.heap.size < w4.heap.size := (by omega))
    | (have u := hb2; rintro e w3 ⟨rfl, hb3⟩; obtain ⟨hcc3, hff3⟩ := bcell hb3; have hs3 := hb3.size; (try simp at hs3); have l3 : w.heap.size + 1 + 1 < w3.heap.size := (by omega); have m3 : w.heap.size + 1 < w3.heap.size := (by omega); have k3 : w.heap.size < w3.heap.size := (by omega))
    | (have u := hb1; rintro e w2 ⟨rfl, hb2⟩; obtain ⟨hcc2, hff2⟩ := bcell hb2; have hs2 := hb2.size; (try simp at hs2); have l2 : w.heap.size + 1 + 1 < w2.heap.size := (by omega); have m2 : w.heap.size + 1 < w2.heap.size := (by omega); have k2 : w.heap.size < w2.heap.size := (by omega))
    | (rintro e w1 ⟨rfl, hb1⟩; obtain ⟨hcc1, hff1⟩ := bcell hb1; have hs1 := hb1.size; (try simp at hs1); have l1 : w.heap.size + 1 + 1 < w1.heap.size := (by omega); have m1 : w.heap.size + 1 < w1.heap.size := (by omega); have k1 : w.heap.size < w1.heap.size := (by omega)))
  | (
    go_at_call 44
    refine (endsR _ _ _ [prodV a.lo b.lo, prodV a.lo b.hi, prodV a.hi b.lo, prodV a.hi b.hi] _ ?_ (Nat.succ_pos _) (by simp) ?_).mono ?_
    · simp
    · intro k hk
      obtain rfl | rfl | rfl | rfl : k = 0 ∨ k = 1 ∨ k = 2 ∨ k = 3 := by simp at hk; omega
      · go_simp; rfl
      · go_simp; rfl
      · go_simp; rfl
      · go_simp; rfl
    rintro e w5 ⟨rfl, hb5⟩
    obtain ⟨hcc5, hff5⟩ := bcell hb5
    have hs5 := hb5.size
    (try simp at hs5)
    have l5 : w.heap.size + 1 + 1 < w5.heap.size := (by omega)
    have m5 : w.heap.size + 1 < w5.heap.size := (by omega)
    have k5 : w.heap.size < w5.heap.size := (by omega)))
  all_goals (try simp only [Exit.inBlock, Exit.then])
  all_goals refine ret_of ?_ rfl
  all_goals simp [results, Try.results23, go_sem, ltS, notS, *]
  all_goals go_light
  all_goals (repeat (first | exact Below.refl _ _ | with_reducible apply below_alloc | with_reducible apply Below.drew | with_reducible refine Below.setCell ?_ (by dsimp only; omega) _ | with_reducible refine below_step ?_ hb1 | with_reducible refine below_step ?_ hb2 | with_reducible refine below_step ?_ hb3 | with_reducible refine below_step ?_ hb4 | with_reducible refine below_step ?_ hb5))

set_option maxHeartbeats 1000000 in
theorem rMul_r0d (a b : Sp) (n1 : a.lo ≤ a.hi) (n2 : b.lo ≤ b.hi) (ha : a.Wf) (hb : b.Wf) (hc : (a.lo == a.hi) = false) (z1 : (b.lo == 0) = true) (z2 : (b.hi == 0) = false) (o1 : mulOk a.lo b.lo = false) (w : World) : Calls Try.prog 23 #[.int .i64 5, .agg #[.int .i64 a.lo, .int .i64 a.hi], .agg #[.int .i64 b.lo, .int .i64 b.hi]] w fun e w' => e = .returned (.tuple #[.agg #[.int .i64 Sp.all.lo, .int .i64 Sp.all.hi], .bool true]) ∧ Below w.heap.size w w' := by
  have hl1 : In64 a.lo := ha.1
  have hl2 : In64 a.hi := ha.2
  have hl3 : In64 b.lo := hb.1
  have hl4 : In64 b.hi := hb.2
  go_enter Try.func23, Try.ntmps23
  go_wp2_with (first
  | (go_at_call 34; go_in)
  | (
    go_at_call 46
    refine (productR _ _ (by assumption) (by assumption) _).mono ?_
    first
    | (have u := hb3; rintro e w4 ⟨rfl, hb4⟩; obtain ⟨hcc4, hff4⟩ := bcell hb4; have hs4 := hb4.size; (try simp at hs4); have l4 : w.heap.size + 1 + 1 < w4.heap.size := (by omega); have m4 : w.heap.size + 1 < w4.heap.size := (by omega); have k4 : w.heap.size < w4.heap.size := (by omega))
    | (have u := hb2; rintro e w3 ⟨rfl, hb3⟩; obtain ⟨hcc3, hff3⟩ := bcell hb3; have hs3 := hb3.size; (try simp at hs3); have l3 : w.heap.size + 1 + 1 < w3.heap.size := (by omega); have m3 : w.heap.size + 1 < w3.heap.size := (by omega); have k3 : w.heap.size < w3.heap.size := (by omega))
    | (have u := hb1; rintro e w2 ⟨rfl, hb2⟩; obtain ⟨hcc2, hff2⟩ := bcell hb2; have hs2 := hb2.size; (try simp at hs2); have l2 : w.heap.size + 1 + 1 < w2.heap.size := (by omega); have m2 : w.heap.size + 1 < w2.heap.size := (by omega); have k2 : w.heap.size < w2.heap.size := (by omega))
    | (rintro e w1 ⟨rfl, hb1⟩; obtain ⟨hcc1, hff1⟩ := bcell hb1; have hs1 := hb1.size; (try simp at hs1); have l1 : w.heap.size + 1 + 1 < w1.heap.size := (by omega); have m1 : w.heap.size + 1 < w1.heap.size := (by omega); have k1 : w.heap.size < w1.heap.size := (by omega)))
  | (
    go_at_call 44
    refine (endsR_no _ _ _ _).mono ?_
    rintro e w5 ⟨rfl, hb5⟩
    obtain ⟨hcc5, hff5⟩ := bcell hb5
    have hs5 := hb5.size
    (try simp at hs5)
    have l5 : w.heap.size + 1 + 1 < w5.heap.size := (by omega)
    have m5 : w.heap.size + 1 < w5.heap.size := (by omega)
    have k5 : w.heap.size < w5.heap.size := (by omega)))
  all_goals (try simp only [Exit.inBlock, Exit.then])
  all_goals refine ret_of ?_ rfl
  all_goals simp [results, Try.results23, go_sem, ltS, notS, *]
  all_goals go_light
  all_goals (repeat (first | exact Below.refl _ _ | with_reducible apply below_alloc | with_reducible apply Below.drew | with_reducible refine Below.setCell ?_ (by dsimp only; omega) _ | with_reducible refine below_step ?_ hb1 | with_reducible refine below_step ?_ hb2 | with_reducible refine below_step ?_ hb3 | with_reducible refine below_step ?_ hb4 | with_reducible refine below_step ?_ hb5))

set_option maxHeartbeats 1000000 in
theorem rMul_r1d (a b : Sp) (n1 : a.lo ≤ a.hi) (n2 : b.lo ≤ b.hi) (ha : a.Wf) (hb : b.Wf) (hc : (a.lo == a.hi) = false) (z1 : (b.lo == 0) = true) (z2 : (b.hi == 0) = false) (o1 : mulOk a.lo b.lo = true) (o2 : mulOk a.lo b.hi = false) (w : World) : Calls Try.prog 23 #[.int .i64 5, .agg #[.int .i64 a.lo, .int .i64 a.hi], .agg #[.int .i64 b.lo, .int .i64 b.hi]] w fun e w' => e = .returned (.tuple #[.agg #[.int .i64 Sp.all.lo, .int .i64 Sp.all.hi], .bool true]) ∧ Below w.heap.size w w' := by
  have hl1 : In64 a.lo := ha.1
  have hl2 : In64 a.hi := ha.2
  have hl3 : In64 b.lo := hb.1
  have hl4 : In64 b.hi := hb.2
  go_enter Try.func23, Try.ntmps23
  go_wp2_with (first
  | (go_at_call 34; go_in)
  | (
    go_at_call 46
    refine (productR _ _ (by assumption) (by assumption) _).mono ?_
    first
    | (have u := hb3; rintro e w4 ⟨rfl, hb4⟩; obtain ⟨hcc4, hff4⟩ := bcell hb4; have hs4 := hb4.size; (try simp at hs4); have l4 : w.heap.size + 1 + 1 < w4.heap.size := (by omega); have m4 : w.heap.size + 1 < w4.heap.size := (by omega); have k4 : w.heap.size < w4.heap.size := (by omega))
    | (have u := hb2; rintro e w3 ⟨rfl, hb3⟩; obtain ⟨hcc3, hff3⟩ := bcell hb3; have hs3 := hb3.size; (try simp at hs3); have l3 : w.heap.size + 1 + 1 < w3.heap.size := (by omega); have m3 : w.heap.size + 1 < w3.heap.size := (by omega); have k3 : w.heap.size < w3.heap.size := (by omega))
    | (have u := hb1; rintro e w2 ⟨rfl, hb2⟩; obtain ⟨hcc2, hff2⟩ := bcell hb2; have hs2 := hb2.size; (try simp at hs2); have l2 : w.heap.size + 1 + 1 < w2.heap.size := (by omega); have m2 : w.heap.size + 1 < w2.heap.size := (by omega); have k2 : w.heap.size < w2.heap.size := (by omega))
    | (rintro e w1 ⟨rfl, hb1⟩; obtain ⟨hcc1, hff1⟩ := bcell hb1; have hs1 := hb1.size; (try simp at hs1); have l1 : w.heap.size + 1 + 1 < w1.heap.size := (by omega); have m1 : w.heap.size + 1 < w1.heap.size := (by omega); have k1 : w.heap.size < w1.heap.size := (by omega)))
  | (
    go_at_call 44
    refine (endsR_no _ _ _ _).mono ?_
    rintro e w5 ⟨rfl, hb5⟩
    obtain ⟨hcc5, hff5⟩ := bcell hb5
    have hs5 := hb5.size
    (try simp at hs5)
    have l5 : w.heap.size + 1 + 1 < w5.heap.size := (by omega)
    have m5 : w.heap.size + 1 < w5.heap.size := (by omega)
    have k5 : w.heap.size < w5.heap.size := (by omega)))
  all_goals (try simp only [Exit.inBlock, Exit.then])
  all_goals refine ret_of ?_ rfl
  all_goals simp [results, Try.results23, go_sem, ltS, notS, *]
  all_goals go_light
  all_goals (repeat (first | exact Below.refl _ _ | with_reducible apply below_alloc | with_reducible apply Below.drew | with_reducible refine Below.setCell ?_ (by dsimp only; omega) _ | with_reducible refine below_step ?_ hb1 | with_reducible refine below_step ?_ hb2 | with_reducible refine below_step ?_ hb3 | with_reducible refine below_step ?_ hb4 | with_reducible refine below_step ?_ hb5))

set_option maxHeartbeats 1000000 in
theorem rMul_r2d (a b : Sp) (n1 : a.lo ≤ a.hi) (n2 : b.lo ≤ b.hi) (ha : a.Wf) (hb : b.Wf) (hc : (a.lo == a.hi) = false) (z1 : (b.lo == 0) = true) (z2 : (b.hi == 0) = false) (o1 : mulOk a.lo b.lo = true) (o2 : mulOk a.lo b.hi = true) (o3 : mulOk a.hi b.lo = false) (w : World) : Calls Try.prog 23 #[.int .i64 5, .agg #[.int .i64 a.lo, .int .i64 a.hi], .agg #[.int .i64 b.lo, .int .i64 b.hi]] w fun e w' => e = .returned (.tuple #[.agg #[.int .i64 Sp.all.lo, .int .i64 Sp.all.hi], .bool true]) ∧ Below w.heap.size w w' := by
  have hl1 : In64 a.lo := ha.1
  have hl2 : In64 a.hi := ha.2
  have hl3 : In64 b.lo := hb.1
  have hl4 : In64 b.hi := hb.2
  go_enter Try.func23, Try.ntmps23
  go_wp2_with (first
  | (go_at_call 34; go_in)
  | (
    go_at_call 46
    refine (productR _ _ (by assumption) (by assumption) _).mono ?_
    first
    | (have u := hb3; rintro e w4 ⟨rfl, hb4⟩; obtain ⟨hcc4, hff4⟩ := bcell hb4; have hs4 := hb4.size; (try simp at hs4); have l4 : w.heap.size + 1 + 1 < w4.heap.size := (by omega); have m4 : w.heap.size + 1 < w4.heap.size := (by omega); have k4 : w.heap.size < w4.heap.size := (by omega))
    | (have u := hb2; rintro e w3 ⟨rfl, hb3⟩; obtain ⟨hcc3, hff3⟩ := bcell hb3; have hs3 := hb3.size; (try simp at hs3); have l3 : w.heap.size + 1 + 1 < w3.heap.size := (by omega); have m3 : w.heap.size + 1 < w3.heap.size := (by omega); have k3 : w.heap.size < w3.heap.size := (by omega))
    | (have u := hb1; rintro e w2 ⟨rfl, hb2⟩; obtain ⟨hcc2, hff2⟩ := bcell hb2; have hs2 := hb2.size; (try simp at hs2); have l2 : w.heap.size + 1 + 1 < w2.heap.size := (by omega); have m2 : w.heap.size + 1 < w2.heap.size := (by omega); have k2 : w.heap.size < w2.heap.size := (by omega))
    | (rintro e w1 ⟨rfl, hb1⟩; obtain ⟨hcc1, hff1⟩ := bcell hb1; have hs1 := hb1.size; (try simp at hs1); have l1 : w.heap.size + 1 + 1 < w1.heap.size := (by omega); have m1 : w.heap.size + 1 < w1.heap.size := (by omega); have k1 : w.heap.size < w1.heap.size := (by omega)))
  | (
    go_at_call 44
    refine (endsR_no _ _ _ _).mono ?_
    rintro e w5 ⟨rfl, hb5⟩
    obtain ⟨hcc5, hff5⟩ := bcell hb5
    have hs5 := hb5.size
    (try simp at hs5)
    have l5 : w.heap.size + 1 + 1 < w5.heap.size := (by omega)
    have m5 : w.heap.size + 1 < w5.heap.size := (by omega)
    have k5 : w.heap.size < w5.heap.size := (by omega)))
  all_goals (try simp only [Exit.inBlock, Exit.then])
  all_goals refine ret_of ?_ rfl
  all_goals simp [results, Try.results23, go_sem, ltS, notS, *]
  all_goals go_light
  all_goals (repeat (first | exact Below.refl _ _ | with_reducible apply below_alloc | with_reducible apply Below.drew | with_reducible refine Below.setCell ?_ (by dsimp only; omega) _ | with_reducible refine below_step ?_ hb1 | with_reducible refine below_step ?_ hb2 | with_reducible refine below_step ?_ hb3 | with_reducible refine below_step ?_ hb4 | with_reducible refine below_step ?_ hb5))

set_option maxHeartbeats 1000000 in
theorem rMul_r3d (a b : Sp) (n1 : a.lo ≤ a.hi) (n2 : b.lo ≤ b.hi) (ha : a.Wf) (hb : b.Wf) (hc : (a.lo == a.hi) = false) (z1 : (b.lo == 0) = true) (z2 : (b.hi == 0) = false) (o1 : mulOk a.lo b.lo = true) (o2 : mulOk a.lo b.hi = true) (o3 : mulOk a.hi b.lo = true) (o4 : mulOk a.hi b.hi = false) (w : World) : Calls Try.prog 23 #[.int .i64 5, .agg #[.int .i64 a.lo, .int .i64 a.hi], .agg #[.int .i64 b.lo, .int .i64 b.hi]] w fun e w' => e = .returned (.tuple #[.agg #[.int .i64 Sp.all.lo, .int .i64 Sp.all.hi], .bool true]) ∧ Below w.heap.size w w' := by
  have hl1 : In64 a.lo := ha.1
  have hl2 : In64 a.hi := ha.2
  have hl3 : In64 b.lo := hb.1
  have hl4 : In64 b.hi := hb.2
  go_enter Try.func23, Try.ntmps23
  go_wp2_with (first
  | (go_at_call 34; go_in)
  | (
    go_at_call 46
    refine (productR _ _ (by assumption) (by assumption) _).mono ?_
    first
    | (have u := hb3; rintro e w4 ⟨rfl, hb4⟩; obtain ⟨hcc4, hff4⟩ := bcell hb4; have hs4 := hb4.size; (try simp at hs4); have l4 : w.heap.size + 1 + 1 < w4.heap.size := (by omega); have m4 : w.heap.size + 1 < w4.heap.size := (by omega); have k4 : w.heap.size < w4.heap.size := (by omega))
    | (have u := hb2; rintro e w3 ⟨rfl, hb3⟩; obtain ⟨hcc3, hff3⟩ := bcell hb3; have hs3 := hb3.size; (try simp at hs3); have l3 : w.heap.size + 1 + 1 < w3.heap.size := (by omega); have m3 : w.heap.size + 1 < w3.heap.size := (by omega); have k3 : w.heap.size < w3.heap.size := (by omega))
    | (have u := hb1; rintro e w2 ⟨rfl, hb2⟩; obtain ⟨hcc2, hff2⟩ := bcell hb2; have hs2 := hb2.size; (try simp at hs2); have l2 : w.heap.size + 1 + 1 < w2.heap.size := (by omega); have m2 : w.heap.size + 1 < w2.heap.size := (by omega); have k2 : w.heap.size < w2.heap.size := (by omega))
    | (rintro e w1 ⟨rfl, hb1⟩; obtain ⟨hcc1, hff1⟩ := bcell hb1; have hs1 := hb1.size; (try simp at hs1); have l1 : w.heap.size + 1 + 1 < w1.heap.size := (by omega); have m1 : w.heap.size + 1 < w1.heap.size := (by omega); have k1 : w.heap.size < w1.heap.size := (by omega)))
  | (
    go_at_call 44
    refine (endsR_no _ _ _ _).mono ?_
    rintro e w5 ⟨rfl, hb5⟩
    obtain ⟨hcc5, hff5⟩ := bcell hb5
    have hs5 := hb5.size
    (try simp at hs5)
    have l5 : w.heap.size + 1 + 1 < w5.heap.size := (by omega)
    have m5 : w.heap.size + 1 < w5.heap.size := (by omega)
    have k5 : w.heap.size < w5.heap.size := (by omega)))
  all_goals (try simp only [Exit.inBlock, Exit.then])
  all_goals refine ret_of ?_ rfl
  all_goals simp [results, Try.results23, go_sem, ltS, notS, *]
  all_goals go_light
  all_goals (repeat (first | exact Below.refl _ _ | with_reducible apply below_alloc | with_reducible apply Below.drew | with_reducible refine Below.setCell ?_ (by dsimp only; omega) _ | with_reducible refine below_step ?_ hb1 | with_reducible refine below_step ?_ hb2 | with_reducible refine below_step ?_ hb3 | with_reducible refine below_step ?_ hb4 | with_reducible refine below_step ?_ hb5))

set_option maxHeartbeats 1000000 in
theorem rMul_r4d (a b : Sp) (n1 : a.lo ≤ a.hi) (n2 : b.lo ≤ b.hi) (ha : a.Wf) (hb : b.Wf) (hc : (a.lo == a.hi) = false) (z1 : (b.lo == 0) = true) (z2 : (b.hi == 0) = false) (o1 : mulOk a.lo b.lo = true) (o2 : mulOk a.lo b.hi = true) (o3 : mulOk a.hi b.lo = true) (o4 : mulOk a.hi b.hi = true) (w : World) : Calls Try.prog 23 #[.int .i64 5, .agg #[.int .i64 a.lo, .int .i64 a.hi], .agg #[.int .i64 b.lo, .int .i64 b.hi]] w fun e w' => e = .returned (.tuple #[.agg #[.int .i64 (hullTo [prodV a.lo b.lo, prodV a.lo b.hi, prodV a.hi b.lo, prodV a.hi b.hi] 4).lo, .int .i64 (hullTo [prodV a.lo b.lo, prodV a.lo b.hi, prodV a.hi b.lo, prodV a.hi b.hi] 4).hi], .bool true]) ∧ Below w.heap.size w w' := by
  have hl1 : In64 a.lo := ha.1
  have hl2 : In64 a.hi := ha.2
  have hl3 : In64 b.lo := hb.1
  have hl4 : In64 b.hi := hb.2
  go_enter Try.func23, Try.ntmps23
  go_wp2_with (first
  | (go_at_call 34; go_in)
  | (
    go_at_call 46
    refine (productR _ _ (by assumption) (by assumption) _).mono ?_
    first
    | (have u := hb3; rintro e w4 ⟨rfl, hb4⟩; obtain ⟨hcc4, hff4⟩ := bcell hb4; have hs4 := hb4.size; (try simp at hs4); have l4 : w.heap.size + 1 + 1 < w4.heap.size := (by omega); have m4 : w.heap.size + 1 < w4.heap.size := (by omega); have k4 : w.heap.size < w4.heap.size := (by omega))
    | (have u := hb2; rintro e w3 ⟨rfl, hb3⟩; obtain ⟨hcc3, hff3⟩ := bcell hb3; have hs3 := hb3.size; (try simp at hs3); have l3 : w.heap.size + 1 + 1 < w3.heap.size := (by omega); have m3 : w.heap.size + 1 < w3.heap.size := (by omega); have k3 : w.heap.size < w3.heap.size := (by omega))
    | (have u := hb1; rintro e w2 ⟨rfl, hb2⟩; obtain ⟨hcc2, hff2⟩ := bcell hb2; have hs2 := hb2.size; (try simp at hs2); have l2 : w.heap.size + 1 + 1 < w2.heap.size := (by omega); have m2 : w.heap.size + 1 < w2.heap.size := (by omega); have k2 : w.heap.size < w2.heap.size := (by omega))
    | (rintro e w1 ⟨rfl, hb1⟩; obtain ⟨hcc1, hff1⟩ := bcell hb1; have hs1 := hb1.size; (try simp at hs1); have l1 : w.heap.size + 1 + 1 < w1.heap.size := (by omega); have m1 : w.heap.size + 1 < w1.heap.size := (by omega); have k1 : w.heap.size < w1.heap.size := (by omega)))
  | (
    go_at_call 44
    refine (endsR _ _ _ [prodV a.lo b.lo, prodV a.lo b.hi, prodV a.hi b.lo, prodV a.hi b.hi] _ ?_ (Nat.succ_pos _) (by simp) ?_).mono ?_
    · simp
    · intro k hk
      obtain rfl | rfl | rfl | rfl : k = 0 ∨ k = 1 ∨ k = 2 ∨ k = 3 := by simp at hk; omega
      · go_simp; rfl
      · go_simp; rfl
      · go_simp; rfl
      · go_simp; rfl
    rintro e w5 ⟨rfl, hb5⟩
    obtain ⟨hcc5, hff5⟩ := bcell hb5
    have hs5 := hb5.size
    (try simp at hs5)
    have l5 : w.heap.size + 1 + 1 < w5.heap.size := (by omega)
    have m5 : w.heap.size + 1 < w5.heap.size := (by omega)
    have k5 : w.heap.size < w5.heap.size := (by omega)))
  all_goals (try simp only [Exit.inBlock, Exit.then])
  all_goals refine ret_of ?_ rfl
  all_goals simp [results, Try.results23, go_sem, ltS, notS, *]
  all_goals go_light
  all_goals (repeat (first | exact Below.refl _ _ | with_reducible apply below_alloc | with_reducible apply Below.drew | with_reducible refine Below.setCell ?_ (by dsimp only; omega) _ | with_reducible refine below_step ?_ hb1 | with_reducible refine below_step ?_ hb2 | with_reducible refine below_step ?_ hb3 | with_reducible refine below_step ?_ hb4 | with_reducible refine below_step ?_ hb5))

end Go.Proofs.Ytdoikgjdjdgnbaa
