/-
  Layer 8 (span): the walks of soffitref08.Do, one for each operation and case.
-/
import Derived.Test.YtdoikgjdjdgnbaaQuotR
import Derived.Test.YtdoikgjdjdgnbaaRestR
import Derived.Test.YtdoikgjdjdgnbaaOpR
import Derived.Test.YtdoikgjdjdgnbaaPlainJ
import Derived.Test.YtdoikgjdjdgnbaaKeep
namespace Go.Proofs.Ytdoikgjdjdgnbaa
open Go.RowKit
set_option linter.unusedSimpArgs false
set_option linter.unusedVariables false
set_option maxRecDepth 100000
attribute [local go_sem ↓] Go.wp_at_zero Go.wp_at_succ

set_option maxHeartbeats 1000000 in
theorem rSub_pc (a b : Sp) (n1 : a.lo ≤ a.hi) (n2 : b.lo ≤ b.hi) (hc : (a.lo == a.hi) = true) (hd : (b.lo == b.hi) = true) (z1 : (b.lo == 0) = false) (w : World) : Calls Try.prog 23 #[.int .i64 4, .agg #[.int .i64 a.lo, .int .i64 a.hi], .agg #[.int .i64 b.lo, .int .i64 b.hi]] w fun e w' => e = .returned (.tuple #[.agg #[.int .i64 (Sp.mk (wrap64 (a.lo - b.lo)) (wrap64 (a.lo - b.lo))).lo, .int .i64 (Sp.mk (wrap64 (a.lo - b.lo)) (wrap64 (a.lo - b.lo))).hi], .bool true]) ∧ Below w.heap.size w w' := by
  go_enter Try.func23, Try.ntmps23
  go_wp2_with (first
  | (go_at_call 34; go_in)
  | (
    go_at_call 28
    refine (opR_4 _ _  _).mono ?_
    rintro e w1 ⟨rfl, rfl⟩))
  all_goals (try simp only [Exit.inBlock, Exit.then])
  all_goals refine ret_of ?_ rfl
  all_goals simp [results, Try.results23, go_sem, ltS, notS, *]
  all_goals go_light
  all_goals (repeat (first | exact Below.refl _ _ | with_reducible apply below_alloc | with_reducible apply Below.drew | with_reducible refine Below.setCell ?_ (by dsimp only; omega) _ | with_reducible refine below_step ?_ hb1))

set_option maxHeartbeats 1000000 in
theorem rSub_qyc (a b : Sp) (n1 : a.lo ≤ a.hi) (n2 : b.lo ≤ b.hi) (ha : a.Wf) (hb : b.Wf) (hc : (a.lo == a.hi) = true) (hd : (b.lo == b.hi) = false) (z1 : (b.lo == 0) = false) (o1 : Sp.lessOk a.lo b.hi = true) (o2 : Sp.lessOk a.hi b.lo = true) (w : World) : Calls Try.prog 23 #[.int .i64 4, .agg #[.int .i64 a.lo, .int .i64 a.hi], .agg #[.int .i64 b.lo, .int .i64 b.hi]] w fun e w' => e = .returned (.tuple #[.agg #[.int .i64 (hullTo [a.lo - b.hi, a.hi - b.lo] 2).lo, .int .i64 (hullTo [a.lo - b.hi, a.hi - b.lo] 2).hi], .bool true]) ∧ Below w.heap.size w w' := by
  have hl1 : In64 a.lo := ha.1
  have hl2 : In64 a.hi := ha.2
  have hl3 : In64 b.lo := hb.1
  have hl4 : In64 b.hi := hb.2
  go_enter Try.func23, Try.ntmps23
  go_wp2_with (first
  | (go_at_call 34; go_in)
  | (
    go_at_call 45
    refine (lessR _ _ (by assumption) (by assumption) _).mono ?_
    rintro e w1 ⟨rfl, rfl⟩)
  | (
    go_at_call 44
    refine (endsR _ _ _ [a.lo - b.hi, a.hi - b.lo] _ ?_ (Nat.succ_pos _) (by simp) ?_).mono ?_
    · simp
    · intro k hk
      obtain rfl | rfl : k = 0 ∨ k = 1 := by simp at hk; omega
      · go_simp; rfl
      · go_simp; rfl
    rintro e w1 ⟨rfl, hb1⟩
    obtain ⟨hcc1, hff1⟩ := bcell hb1
    have hs1 := hb1.size
    simp at hs1
    have l1 : w.heap.size + 1 + 1 < w1.heap.size := (by omega)
    have m1 : w.heap.size + 1 < w1.heap.size := (by omega)
    have k1 : w.heap.size < w1.heap.size := (by omega)))
  all_goals (try simp only [Exit.inBlock, Exit.then])
  all_goals refine ret_of ?_ rfl
  all_goals simp [results, Try.results23, go_sem, ltS, notS, *]
  all_goals go_light
  all_goals (repeat (first | exact Below.refl _ _ | with_reducible apply below_alloc | with_reducible apply Below.drew | with_reducible refine Below.setCell ?_ (by dsimp only; omega) _ | with_reducible refine below_step ?_ hb1))

set_option maxHeartbeats 1000000 in
theorem rSub_qnc (a b : Sp) (n1 : a.lo ≤ a.hi) (n2 : b.lo ≤ b.hi) (ha : a.Wf) (hb : b.Wf) (hc : (a.lo == a.hi) = true) (hd : (b.lo == b.hi) = false) (z1 : (b.lo == 0) = false) (o1 : Sp.lessOk a.lo b.hi = true) (o2 : Sp.lessOk a.hi b.lo = false) (w : World) : Calls Try.prog 23 #[.int .i64 4, .agg #[.int .i64 a.lo, .int .i64 a.hi], .agg #[.int .i64 b.lo, .int .i64 b.hi]] w fun e w' => e = .returned (.tuple #[.agg #[.int .i64 Sp.all.lo, .int .i64 Sp.all.hi], .bool true]) ∧ Below w.heap.size w w' := by
  have hl1 : In64 a.lo := ha.1
  have hl2 : In64 a.hi := ha.2
  have hl3 : In64 b.lo := hb.1
  have hl4 : In64 b.hi := hb.2
  go_enter Try.func23, Try.ntmps23
  go_wp2_with (first
  | (go_at_call 34; go_in)
  | (
    go_at_call 45
    refine (lessR _ _ (by assumption) (by assumption) _).mono ?_
    rintro e w1 ⟨rfl, rfl⟩)
  | (
    go_at_call 44
    refine (endsR_no _ _ _ _).mono ?_
    rintro e w1 ⟨rfl, hb1⟩
    obtain ⟨hcc1, hff1⟩ := bcell hb1
    have hs1 := hb1.size
    simp at hs1
    have l1 : w.heap.size + 1 + 1 < w1.heap.size := (by omega)
    have m1 : w.heap.size + 1 < w1.heap.size := (by omega)
    have k1 : w.heap.size < w1.heap.size := (by omega)))
  all_goals (try simp only [Exit.inBlock, Exit.then])
  all_goals refine ret_of ?_ rfl
  all_goals simp [results, Try.results23, go_sem, ltS, notS, *]
  all_goals go_light
  all_goals (repeat (first | exact Below.refl _ _ | with_reducible apply below_alloc | with_reducible apply Below.drew | with_reducible refine Below.setCell ?_ (by dsimp only; omega) _ | with_reducible refine below_step ?_ hb1))

set_option maxHeartbeats 1000000 in
theorem rSub_qmc (a b : Sp) (n1 : a.lo ≤ a.hi) (n2 : b.lo ≤ b.hi) (ha : a.Wf) (hb : b.Wf) (hc : (a.lo == a.hi) = true) (hd : (b.lo == b.hi) = false) (z1 : (b.lo == 0) = false) (o1 : Sp.lessOk a.lo b.hi = false) (w : World) : Calls Try.prog 23 #[.int .i64 4, .agg #[.int .i64 a.lo, .int .i64 a.hi], .agg #[.int .i64 b.lo, .int .i64 b.hi]] w fun e w' => e = .returned (.tuple #[.agg #[.int .i64 Sp.all.lo, .int .i64 Sp.all.hi], .bool true]) ∧ Below w.heap.size w w' := by
  have hl1 : In64 a.lo := ha.1
  have hl2 : In64 a.hi := ha.2
  have hl3 : In64 b.lo := hb.1
  have hl4 : In64 b.hi := hb.2
  go_enter Try.func23, Try.ntmps23
  go_wp2_with (first
  | (go_at_call 34; go_in)
  | (
    go_at_call 45
    refine (lessR _ _ (by assumption) (by assumption) _).mono ?_
    rintro e w1 ⟨rfl, rfl⟩)
  | (
    go_at_call 44
    refine (endsR_no _ _ _ _).mono ?_
    rintro e w1 ⟨rfl, hb1⟩
    obtain ⟨hcc1, hff1⟩ := bcell hb1
    have hs1 := hb1.size
    simp at hs1
    have l1 : w.heap.size + 1 + 1 < w1.heap.size := (by omega)
    have m1 : w.heap.size + 1 < w1.heap.size := (by omega)
    have k1 : w.heap.size < w1.heap.size := (by omega)))
  all_goals (try simp only [Exit.inBlock, Exit.then])
  all_goals refine ret_of ?_ rfl
  all_goals simp [results, Try.results23, go_sem, ltS, notS, *]
  all_goals go_light
  all_goals (repeat (first | exact Below.refl _ _ | with_reducible apply below_alloc | with_reducible apply Below.drew | with_reducible refine Below.setCell ?_ (by dsimp only; omega) _ | with_reducible refine below_step ?_ hb1))

set_option maxHeartbeats 1000000 in
theorem rSub_ryc (a b : Sp) (n1 : a.lo ≤ a.hi) (n2 : b.lo ≤ b.hi) (ha : a.Wf) (hb : b.Wf) (hc : (a.lo == a.hi) = false) (z1 : (b.lo == 0) = false) (o1 : Sp.lessOk a.lo b.hi = true) (o2 : Sp.lessOk a.hi b.lo = true) (w : World) : Calls Try.prog 23 #[.int .i64 4, .agg #[.int .i64 a.lo, .int .i64 a.hi], .agg #[.int .i64 b.lo, .int .i64 b.hi]] w fun e w' => e = .returned (.tuple #[.agg #[.int .i64 (hullTo [a.lo - b.hi, a.hi - b.lo] 2).lo, .int .i64 (hullTo [a.lo - b.hi, a.hi - b.lo] 2).hi], .bool true]) ∧ Below w.heap.size w w' := by
  have hl1 : In64 a.lo := ha.1
  have hl2 : In64 a.hi := ha.2
  have hl3 : In64 b.lo := hb.1
  have hl4 : In64 b.hi := hb.2
  go_enter Try.func23, Try.ntmps23
  go_wp2_with (first
  | (go_at_call 34; go_in)
  | (
    go_at_call 45
    refine (lessR _ _ (by assumption) (by assumption) _).mono ?_
    rintro e w1 ⟨rfl, rfl⟩)
  | (
    go_at_call 44
    refine (endsR _ _ _ [a.lo - b.hi, a.hi - b.lo] _ ?_ (Nat.succ_pos _) (by simp) ?_).mono ?_
    · simp
    · intro k hk
      obtain rfl | rfl : k = 0 ∨ k = 1 := by simp at hk; omega
      · go_simp; rfl
      · go_simp; rfl
    rintro e w1 ⟨rfl, hb1⟩
    obtain ⟨hcc1, hff1⟩ := bcell hb1
    have hs1 := hb1.size
    simp at hs1
    have l1 : w.heap.size + 1 + 1 < w1.heap.size := (by omega)
    have m1 : w.heap.size + 1 < w1.heap.size := (by omega)
    have k1 : w.heap.size < w1.heap.size := (by omega)))
  all_goals (try simp only [Exit.inBlock, Exit.then])
  all_goals refine ret_of ?_ rfl
  all_goals simp [results, Try.results23, go_sem, ltS, notS, *]
  all_goals go_light
  all_goals (repeat (first | exact Below.refl _ _ | with_reducible apply below_alloc | with_reducible apply Below.drew | with_reducible refine Below.setCell ?_ (by dsimp only; omega) _ | with_reducible refine below_step ?_ hb1))

set_option maxHeartbeats 1000000 in
theorem rSub_rnc (a b : Sp) (n1 : a.lo ≤ a.hi) (n2 : b.lo ≤ b.hi) (ha : a.Wf) (hb : b.Wf) (hc : (a.lo == a.hi) = false) (z1 : (b.lo == 0) = false) (o1 : Sp.lessOk a.lo b.hi = true) (o2 : Sp.lessOk a.hi b.lo = false) (w : World) : Calls Try.prog 23 #[.int .i64 4, .agg #[.int .i64 a.lo, .int .i64 a.hi], .agg #[.int .i64 b.lo, .int .i64 b.hi]] w fun e w' => e = .returned (.tuple #[.agg #[.int .i64 Sp.all.lo, .int .i64 Sp.all.hi], .bool true]) ∧ Below w.heap.size w w' := by
  have hl1 : In64 a.lo := ha.1
  have hl2 : In64 a.hi := ha.2
  have hl3 : In64 b.lo := hb.1
  have hl4 : In64 b.hi := hb.2
  go_enter Try.func23, Try.ntmps23
  go_wp2_with (first
  | (go_at_call 34; go_in)
  | (
    go_at_call 45
    refine (lessR _ _ (by assumption) (by assumption) _).mono ?_
    rintro e w1 ⟨rfl, rfl⟩)
  | (
    go_at_call 44
    refine (endsR_no _ _ _ _).mono ?_
    rintro e w1 ⟨rfl, hb1⟩
    obtain ⟨hcc1, hff1⟩ := bcell hb1
    have hs1 := hb1.size
    simp at hs1
    have l1 : w.heap.size + 1 + 1 < w1.heap.size := (by omega)
    have m1 : w.heap.size + 1 < w1.heap.size := (by omega)
    have k1 : w.heap.size < w1.heap.size := (by omega)))
  all_goals (try simp only [Exit.inBlock, Exit.then])
  all_goals refine ret_of ?_ rfl
  all_goals simp [results, Try.results23, go_sem, ltS, notS, *]
  all_goals go_light
  all_goals (repeat (first | exact Below.refl _ _ | with_reducible apply below_alloc | with_reducible apply Below.drew | with_reducible refine Below.setCell ?_ (by dsimp only; omega) _ | with_reducible refine below_step ?_ hb1))

set_option maxHeartbeats 1000000 in
theorem rSub_rmc (a b : Sp) (n1 : a.lo ≤ a.hi) (n2 : b.lo ≤ b.hi) (ha : a.Wf) (hb : b.Wf) (hc : (a.lo == a.hi) = false) (z1 : (b.lo == 0) = false) (o1 : Sp.lessOk a.lo b.hi = false) (w : World) : Calls Try.prog 23 #[.int .i64 4, .agg #[.int .i64 a.lo, .int .i64 a.hi], .agg #[.int .i64 b.lo, .int .i64 b.hi]] w fun e w' => e = .returned (.tuple #[.agg #[.int .i64 Sp.all.lo, .int .i64 Sp.all.hi], .bool true]) ∧ Below w.heap.size w w' := by
  have hl1 : In64 a.lo := ha.1
  have hl2 : In64 a.hi := ha.2
  have hl3 : In64 b.lo := hb.1
  have hl4 : In64 b.hi := hb.2
  go_enter Try.func23, Try.ntmps23
  go_wp2_with (first
  | (go_at_call 34; go_in)
  | (
    go_at_call 45
    refine (lessR _ _ (by assumption) (by assumption) _).mono ?_
    rintro e w1 ⟨rfl, rfl⟩)
  | (
    go_at_call 44
    refine (endsR_no _ _ _ _).mono ?_
    rintro e w1 ⟨rfl, hb1⟩
    obtain ⟨hcc1, hff1⟩ := bcell hb1
    have hs1 := hb1.size
    simp at hs1
    have l1 : w.heap.size + 1 + 1 < w1.heap.size := (by omega)
    have m1 : w.heap.size + 1 < w1.heap.size := (by omega)
    have k1 : w.heap.size < w1.heap.size := (by omega)))
  all_goals (try simp only [Exit.inBlock, Exit.then])
  all_goals refine ret_of ?_ rfl
  all_goals simp [results, Try.results23, go_sem, ltS, notS, *]
  all_goals go_light
  all_goals (repeat (first | exact Below.refl _ _ | with_reducible apply below_alloc | with_reducible apply Below.drew | with_reducible refine Below.setCell ?_ (by dsimp only; omega) _ | with_reducible refine below_step ?_ hb1))

set_option maxHeartbeats 1000000 in
theorem rSub_pd (a b : Sp) (n1 : a.lo ≤ a.hi) (n2 : b.lo ≤ b.hi) (hc : (a.lo == a.hi) = true) (hd : (b.lo == b.hi) = true) (z1 : (b.lo == 0) = true) (z2 : (b.hi == 0) = false) (w : World) : Calls Try.prog 23 #[.int .i64 4, .agg #[.int .i64 a.lo, .int .i64 a.hi], .agg #[.int .i64 b.lo, .int .i64 b.hi]] w fun e w' => e = .returned (.tuple #[.agg #[.int .i64 (Sp.mk (wrap64 (a.lo - b.lo)) (wrap64 (a.lo - b.lo))).lo, .int .i64 (Sp.mk (wrap64 (a.lo - b.lo)) (wrap64 (a.lo - b.lo))).hi], .bool true]) ∧ Below w.heap.size w w' := by
  go_enter Try.func23, Try.ntmps23
  go_wp2_with (first
  | (go_at_call 34; go_in)
  | (
    go_at_call 28
    refine (opR_4 _ _  _).mono ?_
    rintro e w1 ⟨rfl, rfl⟩))
  all_goals (try simp only [Exit.inBlock, Exit.then])
  all_goals refine ret_of ?_ rfl
  all_goals simp [results, Try.results23, go_sem, ltS, notS, *]
  all_goals go_light
  all_goals (repeat (first | exact Below.refl _ _ | with_reducible apply below_alloc | with_reducible apply Below.drew | with_reducible refine Below.setCell ?_ (by dsimp only; omega) _ | with_reducible refine below_step ?_ hb1))

set_option maxHeartbeats 1000000 in
theorem rSub_qyd (a b : Sp) (n1 : a.lo ≤ a.hi) (n2 : b.lo ≤ b.hi) (ha : a.Wf) (hb : b.Wf) (hc : (a.lo == a.hi) = true) (hd : (b.lo == b.hi) = false) (z1 : (b.lo == 0) = true) (z2 : (b.hi == 0) = false) (o1 : Sp.lessOk a.lo b.hi = true) (o2 : Sp.lessOk a.hi b.lo = true) (w : World) : Calls Try.prog 23 #[.int .i64 4, .agg #[.int .i64 a.lo, .int .i64 a.hi], .agg #[.int .i64 b.lo, .int .i64 b.hi]] w fun e w' => e = .returned (.tuple #[.agg #[.int .i64 (hullTo [a.lo - b.hi, a.hi - b.lo] 2).lo, .int .i64 (hullTo [a.lo - b.hi, a.hi - b.lo] 2).hi], .bool true]) ∧ Below w.heap.size w w' := by
  have hl1 : In64 a.lo := ha.1
  have hl2 : In64 a.hi := ha.2
  have hl3 : In64 b.lo := hb.1
  have hl4 : In64 b.hi := hb.2
  go_enter Try.func23, Try.ntmps23
  go_wp2_with (first
  | (go_at_call 34; go_in)
  | (
    go_at_call 45
    refine (lessR _ _ (by assumption) (by assumption) _).mono ?_
    rintro e w1 ⟨rfl, rfl⟩)
  | (
    go_at_call 44
    refine (endsR _ _ _ [a.lo - b.hi, a.hi - b.lo] _ ?_ (Nat.succ_pos _) (by simp) ?_).mono ?_
    · simp
    · intro k hk
      obtain rfl | rfl : k = 0 ∨ k = 1 := by simp at hk; omega
      · go_simp; rfl
      · go_simp; rfl
    rintro e w1 ⟨rfl, hb1⟩
    obtain ⟨hcc1, hff1⟩ := bcell hb1
    have hs1 := hb1.size
    simp at hs1
    have l1 : w.heap.size + 1 + 1 < w1.heap.size := (by omega)
    have m1 : w.heap.size + 1 < w1.heap.size := (by omega)
    have k1 : w.heap.size < w1.heap.size := (by omega)))
  all_goals (try simp only [Exit.inBlock, Exit.then])
  all_goals refine ret_of ?_ rfl
  all_goals simp [results, Try.results23, go_sem, ltS, notS, *]
  all_goals go_light
  all_goals (repeat (first | exact Below.refl _ _ | with_reducible apply below_alloc | with_reducible apply Below.drew | with_reducible refine Below.setCell ?_ (by dsimp only; omega) _ | with_reducible refine below_step ?_ hb1))

set_option maxHeartbeats 1000000 in
theorem rSub_qnd (a b : Sp) (n1 : a.lo ≤ a.hi) (n2 : b.lo ≤ b.hi) (ha : a.Wf) (hb : b.Wf) (hc : (a.lo == a.hi) = true) (hd : (b.lo == b.hi) = false) (z1 : (b.lo == 0) = true) (z2 : (b.hi == 0) = false) (o1 : Sp.lessOk a.lo b.hi = true) (o2 : Sp.lessOk a.hi b.lo = false) (w : World) : Calls Try.prog 23 #[.int .i64 4, .agg #[.int .i64 a.lo, .int .i64 a.hi], .agg #[.int .i64 b.lo, .int .i64 b.hi]] w fun e w' => e = .returned (.tuple #[.agg #[.int .i64 Sp.all.lo, .int .i64 Sp.all.hi], .bool true]) ∧ Below w.heap.size w w' := by
  have hl1 : In64 a.lo := ha.1
  have hl2 : In64 a.hi := ha.2
  have hl3 : In64 b.lo := hb.1
  have hl4 : In64 b.hi := hb.2
  go_enter Try.func23, Try.ntmps23
  go_wp2_with (first
  | (go_at_call 34; go_in)
  | (
    go_at_call 45
    refine (lessR _ _ (by assumption) (by assumption) _).mono ?_
    rintro e w1 ⟨rfl, rfl⟩)
  | (
    go_at_call 44
    refine (endsR_no _ _ _ _).mono ?_
    rintro e w1 ⟨rfl, hb1⟩
    obtain ⟨hcc1, hff1⟩ := bcell hb1
    have hs1 := hb1.size
    simp at hs1
    have l1 : w.heap.size + 1 + 1 < w1.heap.size := (by omega)
    have m1 : w.heap.size + 1 < w1.heap.size := (by omega)
    have k1 : w.heap.size < w1.heap.size := (by omega)))
  all_goals (try simp only [Exit.inBlock, Exit.then])
  all_goals refine ret_of ?_ rfl
  all_goals simp [results, Try.results23, go_sem, ltS, notS, *]
  all_goals go_light
  all_goals (repeat (first | exact Below.refl _ _ | with_reducible apply below_alloc | with_reducible apply Below.drew | with_reducible refine Below.setCell ?_ (by dsimp only; omega) _ | with_reducible refine below_step ?_ hb1))

set_option maxHeartbeats 1000000 in
theorem rSub_qmd (a b : Sp) (n1 : a.lo ≤ a.hi) (n2 : b.lo ≤ b.hi) (ha : a.Wf) (hb : b.Wf) (hc : (a.lo == a.hi) = true) (hd : (b.lo == b.hi) = false) (z1 : (b.lo == 0) = true) (z2 : (b.hi == 0) = false) (o1 : Sp.lessOk a.lo b.hi = false) (w : World) : Calls Try.prog 23 #[.int .i64 4, .agg #[.int .i64 a.lo, .int .i64 a.hi], .agg #[.int .i64 b.lo, .int .i64 b.hi]] w fun e w' => e = .returned (.tuple #[.agg #[.int .i64 Sp.all.lo, .int .i64 Sp.all.hi], .bool true]) ∧ Below w.heap.size w w' := by
  have hl1 : In64 a.lo := ha.1
  have hl2 : In64 a.hi := ha.2
  have hl3 : In64 b.lo := hb.1
  have hl4 : In64 b.hi := hb.2
  go_enter Try.func23, Try.ntmps23
  go_wp2_with (first
  | (go_at_call 34; go_in)
  | (
    go_at_call 45
    refine (lessR _ _ (by assumption) (by assumption) _).mono ?_
    rintro e w1 ⟨rfl, rfl⟩)
  | (
    go_at_call 44
    refine (endsR_no _ _ _ _).mono ?_
    rintro e w1 ⟨rfl, hb1⟩
    obtain ⟨hcc1, hff1⟩ := bcell hb1
    have hs1 := hb1.size
    simp at hs1
    have l1 : w.heap.size + 1 + 1 < w1.heap.size := (by omega)
    have m1 : w.heap.size + 1 < w1.heap.size := (by omega)
    have k1 : w.heap.size < w1.heap.size := (by omega)))
  all_goals (try simp only [Exit.inBlock, Exit.then])
  all_goals refine ret_of ?_ rfl
  all_goals simp [results, Try.results23, go_sem, ltS, notS, *]
  all_goals go_light
  all_goals (repeat (first | exact Below.refl _ _ | with_reducible apply below_alloc | with_reducible apply Below.drew | with_reducible refine Below.setCell ?_ (by dsimp only; omega) _ | with_reducible refine below_step ?_ hb1))

set_option maxHeartbeats 1000000 in
theorem rSub_ryd (a b : Sp) (n1 : a.lo ≤ a.hi) (n2 : b.lo ≤ b.hi) (ha : a.Wf) (hb : b.Wf) (hc : (a.lo == a.hi) = false) (z1 : (b.lo == 0) = true) (z2 : (b.hi == 0) = false) (o1 : Sp.lessOk a.lo b.hi = true) (o2 : Sp.lessOk a.hi b.lo = true) (w : World) : Calls Try.prog 23 #[.int .i64 4, .agg #[.int .i64 a.lo, .int .i64 a.hi], .agg #[.int .i64 b.lo, .int .i64 b.hi]] w fun e w' => e = .returned (.tuple #[.agg #[.int .i64 (hullTo [a.lo - b.hi, a.hi - b.lo] 2).lo, .int .i64 (hullTo [a.lo - b.hi, a.hi - b.lo] 2).hi], .bool true]) ∧ Below w.heap.size w w' := by
  have hl1 : In64 a.lo := ha.1
  have hl2 : In64 a.hi := ha.2
  have hl3 : In64 b.lo := hb.1
  have hl4 : In64 b.hi := hb.2
  go_enter Try.func23, Try.ntmps23
  go_wp2_with (first
  | (go_at_call 34; go_in)
  | (
    go_at_call 45
    refine (lessR _ _ (by assumption) (by assumption) _).mono ?_
    rintro e w1 ⟨rfl, rfl⟩)
  | (
    go_at_call 44
    refine (endsR _ _ _ [a.lo - b.hi, a.hi - b.lo] _ ?_ (Nat.succ_pos _) (by simp) ?_).mono ?_
    · simp
    · intro k hk
      obtain rfl | rfl : k = 0 ∨ k = 1 := by simp at hk; omega
      · go_simp; rfl
      · go_simp; rfl
    rintro e w1 ⟨rfl, hb1⟩
    obtain ⟨hcc1, hff1⟩ := bcell hb1
    have hs1 := hb1.size
    simp at hs1
    have l1 : w.heap.size + 1 + 1 < w1.heap.size := (by omega)
    have m1 : w.heap.size + 1 < w1.heap.size := (by omega)
    have k1 : w.heap.size < w1.heap.size := (by omega)))
  all_goals (try simp only [Exit.inBlock, Exit.then])
  all_goals refine ret_of ?_ rfl
  all_goals simp [results, Try.results23, go_sem, ltS, notS, *]
  all_goals go_light
  all_goals (repeat (first | exact Below.refl _ _ | with_reducible apply below_alloc | with_reducible apply Below.drew | with_reducible refine Below.setCell ?_ (by dsimp only; omega) _ | with_reducible refine below_step ?_ hb1))

set_option maxHeartbeats 1000000 in
theorem rSub_rnd (a b : Sp) (n1 : a.lo ≤ a.hi) (n2 : b.lo ≤ b.hi) (ha : a.Wf) (hb : b.Wf) (hc : (a.lo == a.hi) = false) (z1 : (b.lo == 0) = true) (z2 : (b.hi == 0) = false) (o1 : Sp.lessOk a.lo b.hi = true) (o2 : Sp.lessOk a.hi b.lo = false) (w : World) : Calls Try.prog 23 #[.int .i64 4, .agg #[.int .i64 a.lo, .int .i64 a.hi], .agg #[.int .i64 b.lo, .int .i64 b.hi]] w fun e w' => e = .returned (.tuple #[.agg #[.int .i64 Sp.all.lo, .int .i64 Sp.all.hi], .bool true]) ∧ Below w.heap.size w w' := by
  have hl1 : In64 a.lo := ha.1
  have hl2 : In64 a.hi := ha.2
  have hl3 : In64 b.lo := hb.1
  have hl4 : In64 b.hi := hb.2
  go_enter Try.func23, Try.ntmps23
  go_wp2_with (first
  | (go_at_call 34; go_in)
  | (
    go_at_call 45
    refine (lessR _ _ (by assumption) (by assumption) _).mono ?_
    rintro e w1 ⟨rfl, rfl⟩)
  | (
    go_at_call 44
    refine (endsR_no _ _ _ _).mono ?_
    rintro e w1 ⟨rfl, hb1⟩
    obtain ⟨hcc1, hff1⟩ := bcell hb1
    have hs1 := hb1.size
    simp at hs1
    have l1 : w.heap.size + 1 + 1 < w1.heap.size := (by omega)
    have m1 : w.heap.size + 1 < w1.heap.size := (by omega)
    have k1 : w.heap.size < w1.heap.size := (by omega)))
  all_goals (try simp only [Exit.inBlock, Exit.then])
  all_goals refine ret_of ?_ rfl
  all_goals simp [results, Try.results23, go_sem, ltS, notS, *]
  all_goals go_light
  all_goals (repeat (first | exact Below.refl _ _ | with_reducible apply below_alloc | with_reducible apply Below.drew | with_reducible refine Below.setCell ?_ (by dsimp only; omega) _ | with_reducible refine below_step ?_ hb1))

set_option maxHeartbeats 1000000 in
theorem rSub_rmd (a b : Sp) (n1 : a.lo ≤ a.hi) (n2 : b.lo ≤ b.hi) (ha : a.Wf) (hb : b.Wf) (hc : (a.lo == a.hi) = false) (z1 : (b.lo == 0) = true) (z2 : (b.hi == 0) = false) (o1 : Sp.lessOk a.lo b.hi = false) (w : World) : Calls Try.prog 23 #[.int .i64 4, .agg #[.int .i64 a.lo, .int .i64 a.hi], .agg #[.int .i64 b.lo, .int .i64 b.hi]] w fun e w' => e = .returned (.tuple #[.agg #[.int .i64 Sp.all.lo, .int .i64 Sp.all.hi], .bool true]) ∧ Below w.heap.size w w' := by
  have hl1 : In64 a.lo := ha.1
  have hl2 : In64 a.hi := ha.2
  have hl3 : In64 b.lo := hb.1
  have hl4 : In64 b.hi := hb.2
  go_enter Try.func23, Try.ntmps23
  go_wp2_with (first
  | (go_at_call 34; go_in)
  | (
    go_at_call 45
    refine (lessR _ _ (by assumption) (by assumption) _).mono ?_
    rintro e w1 ⟨rfl, rfl⟩)
  | (
    go_at_call 44
    refine (endsR_no _ _ _ _).mono ?_
    rintro e w1 ⟨rfl, hb1⟩
    obtain ⟨hcc1, hff1⟩ := bcell hb1
    have hs1 := hb1.size
    simp at hs1
    have l1 : w.heap.size + 1 + 1 < w1.heap.size := (by omega)
    have m1 : w.heap.size + 1 < w1.heap.size := (by omega)
    have k1 : w.heap.size < w1.heap.size := (by omega)))
  all_goals (try simp only [Exit.inBlock, Exit.then])
  all_goals refine ret_of ?_ rfl
  all_goals simp [results, Try.results23, go_sem, ltS, notS, *]
  all_goals go_light
  all_goals (repeat (first | exact Below.refl _ _ | with_reducible apply below_alloc | with_reducible apply Below.drew | with_reducible refine Below.setCell ?_ (by dsimp only; omega) _ | with_reducible refine below_step ?_ hb1))

set_option maxHeartbeats 1000000 in
theorem rSub_pz (a b : Sp) (n1 : a.lo ≤ a.hi) (n2 : b.lo ≤ b.hi) (hc : (a.lo == a.hi) = true) (hd : (b.lo == b.hi) = true) (z1 : (b.lo == 0) = true) (z2 : (b.hi == 0) = true) (w : World) : Calls Try.prog 23 #[.int .i64 4, .agg #[.int .i64 a.lo, .int .i64 a.hi], .agg #[.int .i64 b.lo, .int .i64 b.hi]] w fun e w' => e = .returned (.tuple #[.agg #[.int .i64 (Sp.mk (wrap64 (a.lo - b.lo)) (wrap64 (a.lo - b.lo))).lo, .int .i64 (Sp.mk (wrap64 (a.lo - b.lo)) (wrap64 (a.lo - b.lo))).hi], .bool true]) ∧ Below w.heap.size w w' := by
  go_enter Try.func23, Try.ntmps23
  go_wp2_with (first
  | (go_at_call 34; go_in)
  | (
    go_at_call 28
    refine (opR_4 _ _  _).mono ?_
    rintro e w1 ⟨rfl, rfl⟩))
  all_goals (try simp only [Exit.inBlock, Exit.then])
  all_goals refine ret_of ?_ rfl
  all_goals simp [results, Try.results23, go_sem, ltS, notS, *]
  all_goals go_light
  all_goals (repeat (first | exact Below.refl _ _ | with_reducible apply below_alloc | with_reducible apply Below.drew | with_reducible refine Below.setCell ?_ (by dsimp only; omega) _ | with_reducible refine below_step ?_ hb1))

set_option maxHeartbeats 1000000 in
theorem rSub_qyz (a b : Sp) (n1 : a.lo ≤ a.hi) (n2 : b.lo ≤ b.hi) (ha : a.Wf) (hb : b.Wf) (hc : (a.lo == a.hi) = true) (hd : (b.lo == b.hi) = false) (z1 : (b.lo == 0) = true) (z2 : (b.hi == 0) = true) (o1 : Sp.lessOk a.lo b.hi = true) (o2 : Sp.lessOk a.hi b.lo = true) (w : World) : Calls Try.prog 23 #[.int .i64 4, .agg #[.int .i64 a.lo, .int .i64 a.hi], .agg #[.int .i64 b.lo, .int .i64 b.hi]] w fun e w' => e = .returned (.tuple #[.agg #[.int .i64 (hullTo [a.lo - b.hi, a.hi - b.lo] 2).lo, .int .i64 (hullTo [a.lo - b.hi, a.hi - b.lo] 2).hi], .bool true]) ∧ Below w.heap.size w w' := by
  have hl1 : In64 a.lo := ha.1
  have hl2 : In64 a.hi := ha.2
  have hl3 : In64 b.lo := hb.1
  have hl4 : In64 b.hi := hb.2
  go_enter Try.func23, Try.ntmps23
  go_wp2_with (first
  | (go_at_call 34; go_in)
  | (
    go_at_call 45
    refine (lessR _ _ (by assumption) (by assumption) _).mono ?_
    rintro e w1 ⟨rfl, rfl⟩)
  | (
    go_at_call 44
    refine (endsR _ _ _ [a.lo - b.hi, a.hi - b.lo] _ ?_ (Nat.succ_pos _) (by simp) ?_).mono ?_
    · simp
    · intro k hk
      obtain rfl | rfl : k = 0 ∨ k = 1 := by simp at hk; omega
      · go_simp; rfl
      · go_simp; rfl
    rintro e w1 ⟨rfl, hb1⟩
    obtain ⟨hcc1, hff1⟩ := bcell hb1
    have hs1 := hb1.size
    simp at hs1
    have l1 : w.heap.size + 1 + 1 < w1.heap.size := (by omega)
    have m1 : w.heap.size + 1 < w1.heap.size := (by omega)
    have k1 : w.heap.size < w1.heap.size := (by omega)))
  all_goals (try simp only [Exit.inBlock, Exit.then])
  all_goals refine ret_of ?_ rfl
  all_goals simp [results, Try.results23, go_sem, ltS, notS, *]
  all_goals go_light
  all_goals (repeat (first | exact Below.refl _ _ | with_reducible apply below_alloc | with_reducible apply Below.drew | with_reducible refine Below.setCell ?_ (by dsimp only; omega) _ | with_reducible refine below_step ?_ hb1))

set_option maxHeartbeats 1000000 in
theorem rSub_qnz (a b : Sp) (n1 : a.lo ≤ a.hi) (n2 : b.lo ≤ b.hi) (ha : a.Wf) (hb : b.Wf) (hc : (a.lo == a.hi) = true) (hd : (b.lo == b.hi) = false) (z1 : (b.lo == 0) = true) (z2 : (b.hi == 0) = true) (o1 : Sp.lessOk a.lo b.hi = true) (o2 : Sp.lessOk a.hi b.lo = false) (w : World) : Calls Try.prog 23 #[.int .i64 4, .agg #[.int .i64 a.lo, .int .i64 a.hi], .agg #[.int .i64 b.lo, .int .i64 b.hi]] w fun e w' => e = .returned (.tuple #[.agg #[.int .i64 Sp.all.lo, .int .i64 Sp.all.hi], .bool true]) ∧ Below w.heap.size w w' := by
  have hl1 : In64 a.lo := ha.1
  have hl2 : In64 a.hi := ha.2
  have hl3 : In64 b.lo := hb.1
  have hl4 : In64 b.hi := hb.2
  go_enter Try.func23, Try.ntmps23
  go_wp2_with (first
  | (go_at_call 34; go_in)
  | (
    go_at_call 45
    refine (lessR _ _ (by assumption) (by assumption) _).mono ?_
    rintro e w1 ⟨rfl, rfl⟩)
  | (
    go_at_call 44
    refine (endsR_no _ _ _ _).mono ?_
    rintro e w1 ⟨rfl, hb1⟩
    obtain ⟨hcc1, hff1⟩ := bcell hb1
    have hs1 := hb1.size
    simp at hs1
    have l1 : w.heap.size + 1 + 1 < w1.heap.size := (by omega)
    have m1 : w.heap.size + 1 < w1.heap.size := (by omega)
    have k1 : w.heap.size < w1.heap.size := (by omega)))
  all_goals (try simp only [Exit.inBlock, Exit.then])
  all_goals refine ret_of ?_ rfl
  all_goals simp [results, Try.results23, go_sem, ltS, notS, *]
  all_goals go_light
  all_goals (repeat (first | exact Below.refl _ _ | with_reducible apply below_alloc | with_reducible apply Below.drew | with_reducible refine Below.setCell ?_ (by dsimp only; omega) _ | with_reducible refine below_step ?_ hb1))

set_option maxHeartbeats 1000000 in
theorem rSub_qmz (a b : Sp) (n1 : a.lo ≤ a.hi) (n2 : b.lo ≤ b.hi) (ha : a.Wf) (hb : b.Wf) (hc : (a.lo == a.hi) = true) (hd : (b.lo == b.hi) = false) (z1 : (b.lo == 0) = true) (z2 : (b.hi == 0) = true) (o1 : Sp.lessOk a.lo b.hi = false) (w : World) : Calls Try.prog 23 #[.int .i64 4, .agg #[.int .i64 a.lo, .int .i64 a.hi], .agg #[.int .i64 b.lo, .int .i64 b.hi]] w fun e w' => e = .returned (.tuple #[.agg #[.int .i64 Sp.all.lo, .int .i64 Sp.all.hi], .bool true]) ∧ Below w.heap.size w w' := by
  have hl1 : In64 a.lo := ha.1
  have hl2 : In64 a.hi := ha.2
  have hl3 : In64 b.lo := hb.1
  have hl4 : In64 b.hi := hb.2
  go_enter Try.func23, Try.ntmps23
  go_wp2_with (first
  | (go_at_call 34; go_in)
  | (
    go_at_call 45
    refine (lessR _ _ (by assumption) (by assumption) _).mono ?_
    rintro e w1 ⟨rfl, rfl⟩)
  | (
    go_at_call 44
    refine (endsR_no _ _ _ _).mono ?_
    rintro e w1 ⟨rfl, hb1⟩
    obtain ⟨hcc1, hff1⟩ := bcell hb1
    have hs1 := hb1.size
    simp at hs1
    have l1 : w.heap.size + 1 + 1 < w1.heap.size := (by omega)
    have m1 : w.heap.size + 1 < w1.heap.size := (by omega)
    have k1 : w.heap.size < w1.heap.size := (by omega)))
  all_goals (try simp only [Exit.inBlock, Exit.then])
  all_goals refine ret_of ?_ rfl
  all_goals simp [results, Try.results23, go_sem, ltS, notS, *]
  all_goals go_light
  all_goals (repeat (first | exact Below.refl _ _ | with_reducible apply below_alloc | with_reducible apply Below.drew | with_reducible refine Below.setCell ?_ (by dsimp only; omega) _ | with_reducible refine below_step ?_ hb1))

set_option maxHeartbeats 1000000 in
theorem rSub_ryz (a b : Sp) (n1 : a.lo ≤ a.hi) (n2 : b.lo ≤ b.hi) (ha : a.Wf) (hb : b.Wf) (hc : (a.lo == a.hi) = false) (z1 : (b.lo == 0) = true) (z2 : (b.hi == 0) = true) (o1 : Sp.lessOk a.lo b.hi = true) (o2 : Sp.lessOk a.hi b.lo = true) (w : World) : Calls Try.prog 23 #[.int .i64 4, .agg #[.int .i64 a.lo, .int .i64 a.hi], .agg #[.int .i64 b.lo, .int .i64 b.hi]] w fun e w' => e = .returned (.tuple #[.agg #[.int .i64 (hullTo [a.lo - b.hi, a.hi - b.lo] 2).lo, .int .i64 (hullTo [a.lo - b.hi, a.hi - b.lo] 2).hi], .bool true]) ∧ Below w.heap.size w w' := by
  have hl1 : In64 a.lo := ha.1
  have hl2 : In64 a.hi := ha.2
  have hl3 : In64 b.lo := hb.1
  have hl4 : In64 b.hi := hb.2
  go_enter Try.func23, Try.ntmps23
  go_wp2_with (first
  | (go_at_call 34; go_in)
  | (
    go_at_call 45
    refine (lessR _ _ (by assumption) (by assumption) _).mono ?_
    rintro e w1 ⟨rfl, rfl⟩)
  | (
    go_at_call 44
    refine (endsR _ _ _ [a.lo - b.hi, a.hi - b.lo] _ ?_ (Nat.succ_pos _) (by simp) ?_).mono ?_
    · simp
    · intro k hk
      obtain rfl | rfl : k = 0 ∨ k = 1 := by simp at hk; omega
      · go_simp; rfl
      · go_simp; rfl
    rintro e w1 ⟨rfl, hb1⟩
    obtain ⟨hcc1, hff1⟩ := bcell hb1
    have hs1 := hb1.size
    simp at hs1
    have l1 : w.heap.size + 1 + 1 < w1.heap.size := (by omega)
    have m1 : w.heap.size + 1 < w1.heap.size := (by omega)
    have k1 : w.heap.size < w1.heap.size := (by omega)))
  all_goals (try simp only [Exit.inBlock, Exit.then])
  all_goals refine ret_of ?_ rfl
  all_goals simp [results, Try.results23, go_sem, ltS, notS, *]
  all_goals go_light
  all_goals (repeat (first | exact Below.refl _ _ | with_reducible apply below_alloc | with_reducible apply Below.drew | with_reducible refine Below.setCell ?_ (by dsimp only; omega) _ | with_reducible refine below_step ?_ hb1))

set_option maxHeartbeats 1000000 in
theorem rSub_rnz (a b : Sp) (n1 : a.lo ≤ a.hi) (n2 : b.lo ≤ b.hi) (ha : a.Wf) (hb : b.Wf) (hc : (a.lo == a.hi) = false) (z1 : (b.lo == 0) = true) (z2 : (b.hi == 0) = true) (o1 : Sp.lessOk a.lo b.hi = true) (o2 : Sp.lessOk a.hi b.lo = false) (w : World) : Calls Try.prog 23 #[.int .i64 4, .agg #[.int .i64 a.lo, .int .i64 a.hi], .agg #[.int .i64 b.lo, .int .i64 b.hi]] w fun e w' => e = .returned (.tuple #[.agg #[.int .i64 Sp.all.lo, .int .i64 Sp.all.hi], .bool true]) ∧ Below w.heap.size w w' := by
  have hl1 : In64 a.lo := ha.1
  have hl2 : In64 a.hi := ha.2
  have hl3 : In64 b.lo := hb.1
  have hl4 : In64 b.hi := hb.2
  go_enter Try.func23, Try.ntmps23
  go_wp2_with (first
  | (go_at_call 34; go_in)
  | (
    go_at_call 45
    refine (lessR _ _ (by assumption) (by assumption) _).mono ?_
    rintro e w1 ⟨rfl, rfl⟩)
  | (
    go_at_call 44
    refine (endsR_no _ _ _ _).mono ?_
    rintro e w1 ⟨rfl, hb1⟩
    obtain ⟨hcc1, hff1⟩ := bcell hb1
    have hs1 := hb1.size
    simp at hs1
    have l1 : w.heap.size + 1 + 1 < w1.heap.size := (by omega)
    have m1 : w.heap.size + 1 < w1.heap.size := (by omega)
    have k1 : w.heap.size < w1.heap.size := (by omega)))
  all_goals (try simp only [Exit.inBlock, Exit.then])
  all_goals refine ret_of ?_ rfl
  all_goals simp [results, Try.results23, go_sem, ltS, notS, *]
  all_goals go_light
  all_goals (repeat (first | exact Below.refl _ _ | with_reducible apply below_alloc | with_reducible apply Below.drew | with_reducible refine Below.setCell ?_ (by dsimp only; omega) _ | with_reducible refine below_step ?_ hb1))

set_option maxHeartbeats 1000000 in
theorem rSub_rmz (a b : Sp) (n1 : a.lo ≤ a.hi) (n2 : b.lo ≤ b.hi) (ha : a.Wf) (hb : b.Wf) (hc : (a.lo == a.hi) = false) (z1 : (b.lo == 0) = true) (z2 : (b.hi == 0) = true) (o1 : Sp.lessOk a.lo b.hi = false) (w : World) : Calls Try.prog 23 #[.int .i64 4, .agg #[.int .i64 a.lo, .int .i64 a.hi], .agg #[.int .i64 b.lo, .int .i64 b.hi]] w fun e w' => e = .returned (.tuple #[.agg #[.int .i64 Sp.all.lo, .int .i64 Sp.all.hi], .bool true]) ∧ Below w.heap.size w w' := by
  have hl1 : In64 a.lo := ha.1
  have hl2 : In64 a.hi := ha.2
  have hl3 : In64 b.lo := hb.1
  have hl4 : In64 b.hi := hb.2
  go_enter Try.func23, Try.ntmps23
  go_wp2_with (first
  | (go_at_call 34; go_in)
  | (
    go_at_call 45
    refine (lessR _ _ (by assumption) (by assumption) _).mono ?_
    rintro e w1 ⟨rfl, rfl⟩)
  | (
    go_at_call 44
    refine (endsR_no _ _ _ _).mono ?_
    rintro e w1 ⟨rfl, hb1⟩
    obtain ⟨hcc1, hff1⟩ := bcell hb1
    have hs1 := hb1.size
    simp at hs1
    have l1 : w.heap.size + 1 + 1 < w1.heap.size := (by omega)
    have m1 : w.heap.size + 1 < w1.heap.size := (by omega)
    have k1 : w.heap.size < w1.heap.size := (by omega)))
  all_goals (try simp only [Exit.inBlock, Exit.then])
  all_goals refine ret_of ?_ rfl
  all_goals simp [results, Try.results23, go_sem, ltS, notS, *]
  all_goals go_light
  all_goals (repeat (first | exact Below.refl _ _ | with_reducible apply below_alloc | with_reducible apply Below.drew | with_reducible refine Below.setCell ?_ (by dsimp only; omega) _ | with_reducible refine below_step ?_ hb1))

end Go.Proofs.Ytdoikgjdjdgnbaa
