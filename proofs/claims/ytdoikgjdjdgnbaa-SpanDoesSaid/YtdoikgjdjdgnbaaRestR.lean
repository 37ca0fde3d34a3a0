/-
  Layer 8 (span): the walk of the reference's rests.
-/
import Derived.Test.YtdoikgjdjdgnbaaArR
import Derived.Deep.RegionHeld3
import Derived.Deep.DrawnRows
import Derived.BigRegion
namespace Go.Proofs.Ytdoikgjdjdgnbaa
open Go.RowKit
set_option linter.unusedSimpArgs false
set_option linter.unusedVariables false
attribute [local go_sem ↓] Go.wp_at_zero Go.wp_at_succ

set_option maxHeartbeats 400000 in
theorem restsR1a (a b : Sp) (ha : a.Wf) (hb : b.Wf) (hle : b.lo ≤ b.hi) (h1 : b.lo < 0) (h2 : 0 < b.hi) (g1 : a.lo < 0) (g2 : 0 < a.hi) (w : World) : Calls Try.prog 48 #[.agg #[.int .i64 a.lo, .int .i64 a.hi], .agg #[.int .i64 b.lo, .int .i64 b.hi]] w fun e w' => e = .returned (.agg #[.int .i64 (leftS a b).lo, .int .i64 (leftS a b).hi]) ∧ Below w.heap.size w w' := by
  obtain ⟨⟨_, _⟩, _, _⟩ := hb
  have hM : leftM b = Sp.mx (-(b.lo + 1)) (b.hi - 1) := by (simp only [leftM, Sp.mx]; repeat' split) <;> omega
  have m0 : 0 ≤ leftM b ∧ leftM b ≤ 9223372036854775807 := by (simp only [leftM]; split) <;> omega
  have e2 : IntKind.i64.wrap (-leftM b) = -leftM b := IntWalk.i64_in _ (by omega)
  have e3 : -9223372036854775808 ≤ -leftM b ∧ -leftM b ≤ 9223372036854775807 := by omega
  have HM := Lib.hid hM.symm
  clear hM m0 
  go_enter Try.func48, Try.ntmps48
  go_wp2_with (first | (go_at_call 33; refine (lesserR _ _ _).mono ?_; rintro e w' ⟨rfl, rfl⟩) | (go_at_call 32; refine (greaterR _ _ _).mono ?_; rintro e w' ⟨rfl, rfl⟩))
  all_goals (try simp only [Exit.inBlock, Exit.then])
  all_goals refine ret_of ?_ rfl
  all_goals simp [results, Try.results48, go_sem]
  all_goals refine ⟨?_, (by repeat (first | exact Below.refl _ _ | apply Below.drew | refine Below.alloc ?_ (by simp <;> omega) _ | refine Below.setCell ?_ (by simp <;> omega) _))⟩
  all_goals go_light
  all_goals (have hM := HM.out; simp [leftS, Sp.mx, Sp.mn, wrap64] at hM ⊢; (repeat' split) <;> (try simp) <;> (try omega) <;> (repeat' split at hM) <;> omega)

set_option maxHeartbeats 400000 in
theorem restsR1b (a b : Sp) (ha : a.Wf) (hb : b.Wf) (hle : b.lo ≤ b.hi) (h1 : b.lo < 0) (h2 : 0 < b.hi) (g1 : a.lo < 0) (g2 : a.hi ≤ 0) (w : World) : Calls Try.prog 48 #[.agg #[.int .i64 a.lo, .int .i64 a.hi], .agg #[.int .i64 b.lo, .int .i64 b.hi]] w fun e w' => e = .returned (.agg #[.int .i64 (leftS a b).lo, .int .i64 (leftS a b).hi]) ∧ Below w.heap.size w w' := by
  obtain ⟨⟨_, _⟩, _, _⟩ := hb
  have hM : leftM b = Sp.mx (-(b.lo + 1)) (b.hi - 1) := by (simp only [leftM, Sp.mx]; repeat' split) <;> omega
  have m0 : 0 ≤ leftM b ∧ leftM b ≤ 9223372036854775807 := by (simp only [leftM]; split) <;> omega
  have e2 : IntKind.i64.wrap (-leftM b) = -leftM b := IntWalk.i64_in _ (by omega)
  have e3 : -9223372036854775808 ≤ -leftM b ∧ -leftM b ≤ 9223372036854775807 := by omega
  have HM := Lib.hid hM.symm
  clear hM m0 
  go_enter Try.func48, Try.ntmps48
  go_wp2_with (first | (go_at_call 33; refine (lesserR _ _ _).mono ?_; rintro e w' ⟨rfl, rfl⟩) | (go_at_call 32; refine (greaterR _ _ _).mono ?_; rintro e w' ⟨rfl, rfl⟩))
  all_goals (try simp only [Exit.inBlock, Exit.then])
  all_goals refine ret_of ?_ rfl
  all_goals simp [results, Try.results48, go_sem]
  all_goals refine ⟨?_, (by repeat (first | exact Below.refl _ _ | apply Below.drew | refine Below.alloc ?_ (by simp <;> omega) _ | refine Below.setCell ?_ (by simp <;> omega) _))⟩
  all_goals go_light
  all_goals (have hM := HM.out; simp [leftS, Sp.mx, Sp.mn, wrap64] at hM ⊢; (repeat' split) <;> (try simp) <;> (try omega) <;> (repeat' split at hM) <;> omega)

set_option maxHeartbeats 400000 in
theorem restsR1c (a b : Sp) (ha : a.Wf) (hb : b.Wf) (hle : b.lo ≤ b.hi) (h1 : b.lo < 0) (h2 : 0 < b.hi) (g1 : 0 ≤ a.lo) (g2 : 0 < a.hi) (w : World) : Calls Try.prog 48 #[.agg #[.int .i64 a.lo, .int .i64 a.hi], .agg #[.int .i64 b.lo, .int .i64 b.hi]] w fun e w' => e = .returned (.agg #[.int .i64 (leftS a b).lo, .int .i64 (leftS a b).hi]) ∧ Below w.heap.size w w' := by
  obtain ⟨⟨_, _⟩, _, _⟩ := hb
  have hM : leftM b = Sp.mx (-(b.lo + 1)) (b.hi - 1) := by (simp only [leftM, Sp.mx]; repeat' split) <;> omega
  have m0 : 0 ≤ leftM b ∧ leftM b ≤ 9223372036854775807 := by (simp only [leftM]; split) <;> omega
  have e2 : IntKind.i64.wrap (-leftM b) = -leftM b := IntWalk.i64_in _ (by omega)
  have e3 : -9223372036854775808 ≤ -leftM b ∧ -leftM b ≤ 9223372036854775807 := by omega
  have HM := Lib.hid hM.symm
  clear hM m0 
  go_enter Try.func48, Try.ntmps48
  go_wp2_with (first | (go_at_call 33; refine (lesserR _ _ _).mono ?_; rintro e w' ⟨rfl, rfl⟩) | (go_at_call 32; refine (greaterR _ _ _).mono ?_; rintro e w' ⟨rfl, rfl⟩))
  all_goals (try simp only [Exit.inBlock, Exit.then])
  all_goals refine ret_of ?_ rfl
  all_goals simp [results, Try.results48, go_sem]
  all_goals refine ⟨?_, (by repeat (first | exact Below.refl _ _ | apply Below.drew | refine Below.alloc ?_ (by simp <;> omega) _ | refine Below.setCell ?_ (by simp <;> omega) _))⟩
  all_goals go_light
  all_goals (have hM := HM.out; simp [leftS, Sp.mx, Sp.mn, wrap64] at hM ⊢; (repeat' split) <;> (try simp) <;> (try omega) <;> (repeat' split at hM) <;> omega)

set_option maxHeartbeats 400000 in
theorem restsR1d (a b : Sp) (ha : a.Wf) (hb : b.Wf) (hle : b.lo ≤ b.hi) (h1 : b.lo < 0) (h2 : 0 < b.hi) (g1 : 0 ≤ a.lo) (g2 : a.hi ≤ 0) (w : World) : Calls Try.prog 48 #[.agg #[.int .i64 a.lo, .int .i64 a.hi], .agg #[.int .i64 b.lo, .int .i64 b.hi]] w fun e w' => e = .returned (.agg #[.int .i64 (leftS a b).lo, .int .i64 (leftS a b).hi]) ∧ Below w.heap.size w w' := by
  obtain ⟨⟨_, _⟩, _, _⟩ := hb
  have hM : leftM b = Sp.mx (-(b.lo + 1)) (b.hi - 1) := by (simp only [leftM, Sp.mx]; repeat' split) <;> omega
  have m0 : 0 ≤ leftM b ∧ leftM b ≤ 9223372036854775807 := by (simp only [leftM]; split) <;> omega
  have e2 : IntKind.i64.wrap (-leftM b) = -leftM b := IntWalk.i64_in _ (by omega)
  have e3 : -9223372036854775808 ≤ -leftM b ∧ -leftM b ≤ 9223372036854775807 := by omega
  have HM := Lib.hid hM.symm
  clear hM m0 
  go_enter Try.func48, Try.ntmps48
  go_wp2_with (first | (go_at_call 33; refine (lesserR _ _ _).mono ?_; rintro e w' ⟨rfl, rfl⟩) | (go_at_call 32; refine (greaterR _ _ _).mono ?_; rintro e w' ⟨rfl, rfl⟩))
  all_goals (try simp only [Exit.inBlock, Exit.then])
  all_goals refine ret_of ?_ rfl
  all_goals simp [results, Try.results48, go_sem]
  all_goals refine ⟨?_, (by repeat (first | exact Below.refl _ _ | apply Below.drew | refine Below.alloc ?_ (by simp <;> omega) _ | refine Below.setCell ?_ (by simp <;> omega) _))⟩
  all_goals go_light
  all_goals (have hM := HM.out; simp [leftS, Sp.mx, Sp.mn, wrap64] at hM ⊢; (repeat' split) <;> (try simp) <;> (try omega) <;> (repeat' split at hM) <;> omega)

set_option maxHeartbeats 400000 in
theorem restsR2a (a b : Sp) (ha : a.Wf) (hb : b.Wf) (hle : b.lo ≤ b.hi) (h1 : b.lo < 0) (h2 : b.hi = 0) (g1 : a.lo < 0) (g2 : 0 < a.hi) (w : World) : Calls Try.prog 48 #[.agg #[.int .i64 a.lo, .int .i64 a.hi], .agg #[.int .i64 b.lo, .int .i64 b.hi]] w fun e w' => e = .returned (.agg #[.int .i64 (leftS a b).lo, .int .i64 (leftS a b).hi]) ∧ Below w.heap.size w w' := by
  obtain ⟨⟨_, _⟩, _, _⟩ := hb
  have hM : leftM b = -(b.lo + 1) := by (simp only [leftM, Sp.mx]; repeat' split) <;> omega
  have m0 : 0 ≤ leftM b ∧ leftM b ≤ 9223372036854775807 := by (simp only [leftM]; split) <;> omega
  have e2 : IntKind.i64.wrap (-leftM b) = -leftM b := IntWalk.i64_in _ (by omega)
  have e3 : -9223372036854775808 ≤ -leftM b ∧ -leftM b ≤ 9223372036854775807 := by omega
  have HM := Lib.hid hM.symm
  clear hM m0 
  go_enter Try.func48, Try.ntmps48
  go_wp2_with (first | (go_at_call 33; refine (lesserR _ _ _).mono ?_; rintro e w' ⟨rfl, rfl⟩) | (go_at_call 32; refine (greaterR _ _ _).mono ?_; rintro e w' ⟨rfl, rfl⟩))
  all_goals (try simp only [Exit.inBlock, Exit.then])
  all_goals refine ret_of ?_ rfl
  all_goals simp [results, Try.results48, go_sem]
  all_goals refine ⟨?_, (by repeat (first | exact Below.refl _ _ | apply Below.drew | refine Below.alloc ?_ (by simp <;> omega) _ | refine Below.setCell ?_ (by simp <;> omega) _))⟩
  all_goals go_light
  all_goals (have hM := HM.out; simp [leftS, Sp.mx, Sp.mn, wrap64] at hM ⊢; (repeat' split) <;> (try simp) <;> (try omega) <;> (repeat' split at hM) <;> omega)

set_option maxHeartbeats 400000 in
theorem restsR2b (a b : Sp) (ha : a.Wf) (hb : b.Wf) (hle : b.lo ≤ b.hi) (h1 : b.lo < 0) (h2 : b.hi = 0) (g1 : a.lo < 0) (g2 : a.hi ≤ 0) (w : World) : Calls Try.prog 48 #[.agg #[.int .i64 a.lo, .int .i64 a.hi], .agg #[.int .i64 b.lo, .int .i64 b.hi]] w fun e w' => e = .returned (.agg #[.int .i64 (leftS a b).lo, .int .i64 (leftS a b).hi]) ∧ Below w.heap.size w w' := by
  obtain ⟨⟨_, _⟩, _, _⟩ := hb
  have hM : leftM b = -(b.lo + 1) := by (simp only [leftM, Sp.mx]; repeat' split) <;> omega
  have m0 : 0 ≤ leftM b ∧ leftM b ≤ 9223372036854775807 := by (simp only [leftM]; split) <;> omega
  have e2 : IntKind.i64.wrap (-leftM b) = -leftM b := IntWalk.i64_in _ (by omega)
  have e3 : -9223372036854775808 ≤ -leftM b ∧ -leftM b ≤ 9223372036854775807 := by omega
  have HM := Lib.hid hM.symm
  clear hM m0 
  go_enter Try.func48, Try.ntmps48
  go_wp2_with (first | (go_at_call 33; refine (lesserR _ _ _).mono ?_; rintro e w' ⟨rfl, rfl⟩) | (go_at_call 32; refine (greaterR _ _ _).mono ?_; rintro e w' ⟨rfl, rfl⟩))
  all_goals (try simp only [Exit.inBlock, Exit.then])
  all_goals refine ret_of ?_ rfl
  all_goals simp [results, Try.results48, go_sem]
  all_goals refine ⟨?_, (by repeat (first | exact Below.refl _ _ | apply Below.drew | refine Below.alloc ?_ (by simp <;> omega) _ | refine Below.setCell ?_ (by simp <;> omega) _))⟩
  all_goals go_light
  all_goals (have hM := HM.out; simp [leftS, Sp.mx, Sp.mn, wrap64] at hM ⊢; (repeat' split) <;> (try simp) <;> (try omega) <;> (repeat' split at hM) <;> omega)

set_option maxHeartbeats 400000 in
theorem restsR2c (a b : Sp) (ha : a.Wf) (hb : b.Wf) (hle : b.lo ≤ b.hi) (h1 : b.lo < 0) (h2 : b.hi = 0) (g1 : 0 ≤ a.lo) (g2 : 0 < a.hi) (w : World) : Calls Try.prog 48 #[.agg #[.int .i64 a.lo, .int .i64 a.hi], .agg #[.int .i64 b.lo, .int .i64 b.hi]] w fun e w' => e = .returned (.agg #[.int .i64 (leftS a b).lo, .int .i64 (leftS a b).hi]) ∧ Below w.heap.size w w' := by
  obtain ⟨⟨_, _⟩, _, _⟩ := hb
  have hM : leftM b = -(b.lo + 1) := by (simp only [leftM, Sp.mx]; repeat' split) <;> omega
  have m0 : 0 ≤ leftM b ∧ leftM b ≤ 9223372036854775807 := by (simp only [leftM]; split) <;> omega
  have e2 : IntKind.i64.wrap (-leftM b) = -leftM b := IntWalk.i64_in _ (by omega)
  have e3 : -9223372036854775808 ≤ -leftM b ∧ -leftM b ≤ 9223372036854775807 := by omega
  have HM := Lib.hid hM.symm
  clear hM m0 
  go_enter Try.func48, Try.ntmps48
  go_wp2_with (first | (go_at_call 33; refine (lesserR _ _ _).mono ?_; rintro e w' ⟨rfl, rfl⟩) | (go_at_call 32; refine (greaterR _ _ _).mono ?_; rintro e w' ⟨rfl, rfl⟩))
  all_goals (try simp only [Exit.inBlock, Exit.then])
  all_goals refine ret_of ?_ rfl
  all_goals simp [results, Try.results48, go_sem]
  all_goals refine ⟨?_, (by repeat (first | exact Below.refl _ _ | apply Below.drew | refine Below.alloc ?_ (by simp <;> omega) _ | refine Below.setCell ?_ (by simp <;> omega) _))⟩
  all_goals go_light
  all_goals (have hM := HM.out; simp [leftS, Sp.mx, Sp.mn, wrap64] at hM ⊢; (repeat' split) <;> (try simp) <;> (try omega) <;> (repeat' split at hM) <;> omega)

set_option maxHeartbeats 400000 in
theorem restsR2d (a b : Sp) (ha : a.Wf) (hb : b.Wf) (hle : b.lo ≤ b.hi) (h1 : b.lo < 0) (h2 : b.hi = 0) (g1 : 0 ≤ a.lo) (g2 : a.hi ≤ 0) (w : World) : Calls Try.prog 48 #[.agg #[.int .i64 a.lo, .int .i64 a.hi], .agg #[.int .i64 b.lo, .int .i64 b.hi]] w fun e w' => e = .returned (.agg #[.int .i64 (leftS a b).lo, .int .i64 (leftS a b).hi]) ∧ Below w.heap.size w w' := by
  obtain ⟨⟨_, _⟩, _, _⟩ := hb
  have hM : leftM b = -(b.lo + 1) := by (simp only [leftM, Sp.mx]; repeat' split) <;> omega
  have m0 : 0 ≤ leftM b ∧ leftM b ≤ 9223372036854775807 := by (simp only [leftM]; split) <;> omega
  have e2 : IntKind.i64.wrap (-leftM b) = -leftM b := IntWalk.i64_in _ (by omega)
  have e3 : -9223372036854775808 ≤ -leftM b ∧ -leftM b ≤ 9223372036854775807 := by omega
  have HM := Lib.hid hM.symm
  clear hM m0 
  go_enter Try.func48, Try.ntmps48
  go_wp2_with (first | (go_at_call 33; refine (lesserR _ _ _).mono ?_; rintro e w' ⟨rfl, rfl⟩) | (go_at_call 32; refine (greaterR _ _ _).mono ?_; rintro e w' ⟨rfl, rfl⟩))
  all_goals (try simp only [Exit.inBlock, Exit.then])
  all_goals refine ret_of ?_ rfl
  all_goals simp [results, Try.results48, go_sem]
  all_goals refine ⟨?_, (by repeat (first | exact Below.refl _ _ | apply Below.drew | refine Below.alloc ?_ (by simp <;> omega) _ | refine Below.setCell ?_ (by simp <;> omega) _))⟩
  all_goals go_light
  all_goals (have hM := HM.out; simp [leftS, Sp.mx, Sp.mn, wrap64] at hM ⊢; (repeat' split) <;> (try simp) <;> (try omega) <;> (repeat' split at hM) <;> omega)

set_option maxHeartbeats 400000 in
theorem restsR3a (a b : Sp) (ha : a.Wf) (hb : b.Wf) (hle : b.lo ≤ b.hi) (h1 : b.lo < 0) (h2 : b.hi < 0) (g1 : a.lo < 0) (g2 : 0 < a.hi) (w : World) : Calls Try.prog 48 #[.agg #[.int .i64 a.lo, .int .i64 a.hi], .agg #[.int .i64 b.lo, .int .i64 b.hi]] w fun e w' => e = .returned (.agg #[.int .i64 (leftS a b).lo, .int .i64 (leftS a b).hi]) ∧ Below w.heap.size w w' := by
  obtain ⟨⟨_, _⟩, _, _⟩ := hb
  have hM : leftM b = Sp.mx (-(b.lo + 1)) (-(b.hi + 1)) := by (simp only [leftM, Sp.mx]; repeat' split) <;> omega
  have m0 : 0 ≤ leftM b ∧ leftM b ≤ 9223372036854775807 := by (simp only [leftM]; split) <;> omega
  have e2 : IntKind.i64.wrap (-leftM b) = -leftM b := IntWalk.i64_in _ (by omega)
  have e3 : -9223372036854775808 ≤ -leftM b ∧ -leftM b ≤ 9223372036854775807 := by omega
  have HM := Lib.hid hM.symm
  clear hM m0 
  go_enter Try.func48, Try.ntmps48
  go_wp2_with (first | (go_at_call 33; refine (lesserR _ _ _).mono ?_; rintro e w' ⟨rfl, rfl⟩) | (go_at_call 32; refine (greaterR _ _ _).mono ?_; rintro e w' ⟨rfl, rfl⟩))
  all_goals (try simp only [Exit.inBlock, Exit.then])
  all_goals refine ret_of ?_ rfl
  all_goals simp [results, Try.results48, go_sem]
  all_goals refine ⟨?_, (by repeat (first | exact Below.refl _ _ | apply Below.drew | refine Below.alloc ?_ (by simp <;> omega) _ | refine Below.setCell ?_ (by simp <;> omega) _))⟩
  all_goals go_light
  all_goals (have hM := HM.out; simp [leftS, Sp.mx, Sp.mn, wrap64] at hM ⊢; (repeat' split) <;> (try simp) <;> (try omega) <;> (repeat' split at hM) <;> omega)

set_option maxHeartbeats 400000 in
theorem restsR3b (a b : Sp) (ha : a.Wf) (hb : b.Wf) (hle : b.lo ≤ b.hi) (h1 : b.lo < 0) (h2 : b.hi < 0) (g1 : a.lo < 0) (g2 : a.hi ≤ 0) (w : World) : Calls Try.prog 48 #[.agg #[.int .i64 a.lo, .int .i64 a.hi], .agg #[.int .i64 b.lo, .int .i64 b.hi]] w fun e w' => e = .returned (.agg #[.int .i64 (leftS a b).lo, .int .i64 (leftS a b).hi]) ∧ Below w.heap.size w w' := by
  obtain ⟨⟨_, _⟩, _, _⟩ := hb
  have hM : leftM b = Sp.mx (-(b.lo + 1)) (-(b.hi + 1)) := by (simp only [leftM, Sp.mx]; repeat' split) <;> omega
  have m0 : 0 ≤ leftM b ∧ leftM b ≤ 9223372036854775807 := by (simp only [leftM]; split) <;> omega
  have e2 : IntKind.i64.wrap (-leftM b) = -leftM b := IntWalk.i64_in _ (by omega)
  have e3 : -9223372036854775808 ≤ -leftM b ∧ -leftM b ≤ 9223372036854775807 := by omega
  have HM := Lib.hid hM.symm
  clear hM m0 
  go_enter Try.func48, Try.ntmps48
  go_wp2_with (first | (go_at_call 33; refine (lesserR _ _ _).mono ?_; rintro e w' ⟨rfl, rfl⟩) | (go_at_call 32; refine (greaterR _ _ _).mono ?_; rintro e w' ⟨rfl, rfl⟩))
  all_goals (try simp only [Exit.inBlock, Exit.then])
  all_goals refine ret_of ?_ rfl
  all_goals simp [results, Try.results48, go_sem]
  all_goals refine ⟨?_, (by repeat (first | exact Below.refl _ _ | apply Below.drew | refine Below.alloc ?_ (by simp <;> omega) _ | refine Below.setCell ?_ (by simp <;> omega) _))⟩
  all_goals go_light
  all_goals (have hM := HM.out; simp [leftS, Sp.mx, Sp.mn, wrap64] at hM ⊢; (repeat' split) <;> (try simp) <;> (try omega) <;> (repeat' split at hM) <;> omega)

set_option maxHeartbeats 400000 in
theorem restsR3c (a b : Sp) (ha : a.Wf) (hb : b.Wf) (hle : b.lo ≤ b.hi) (h1 : b.lo < 0) (h2 : b.hi < 0) (g1 : 0 ≤ a.lo) (g2 : 0 < a.hi) (w : World) : Calls Try.prog 48 #[.agg #[.int .i64 a.lo, .int .i64 a.hi], .agg #[.int .i64 b.lo, .int .i64 b.hi]] w fun e w' => e = .returned (.agg #[.int .i64 (leftS a b).lo, .int .i64 (leftS a b).hi]) ∧ Below w.heap.size w w' := by
  obtain ⟨⟨_, _⟩, _, _⟩ := hb
  have hM : leftM b = Sp.mx (-(b.lo + 1)) (-(b.hi + 1)) := by (simp only [leftM, Sp.mx]; repeat' split) <;> omega
  have m0 : 0 ≤ leftM b ∧ leftM b ≤ 9223372036854775807 := by (simp only [leftM]; split) <;> omega
  have e2 : IntKind.i64.wrap (-leftM b) = -leftM b := IntWalk.i64_in _ (by omega)
  have e3 : -9223372036854775808 ≤ -leftM b ∧ -leftM b ≤ 9223372036854775807 := by omega
  have HM := Lib.hid hM.symm
  clear hM m0 
  go_enter Try.func48, Try.ntmps48
  go_wp2_with (first | (go_at_call 33; refine (lesserR _ _ _).mono ?_; rintro e w' ⟨rfl, rfl⟩) | (go_at_call 32; refine (greaterR _ _ _).mono ?_; rintro e w' ⟨rfl, rfl⟩))
  all_goals (try simp only [Exit.inBlock, Exit.then])
  all_goals refine ret_of ?_ rfl
  all_goals simp [results, Try.results48, go_sem]
  all_goals refine ⟨?_, (by repeat (first | exact Below.refl _ _ | apply Below.drew | refine Below.alloc ?_ (by simp <;> omega) _ | refine Below.setCell ?_ (by simp <;> omega) _))⟩
  all_goals go_light
  all_goals (have hM := HM.out; simp [leftS, Sp.mx, Sp.mn, wrap64] at hM ⊢; (repeat' split) <;> (try simp) <;> (try omega) <;> (repeat' split at hM) <;> omega)

set_option maxHeartbeats 400000 in
theorem restsR3d (a b : Sp) (ha : a.Wf) (hb : b.Wf) (hle : b.lo ≤ b.hi) (h1 : b.lo < 0) (h2 : b.hi < 0) (g1 : 0 ≤ a.lo) (g2 : a.hi ≤ 0) (w : World) : Calls Try.prog 48 #[.agg #[.int .i64 a.lo, .int .i64 a.hi], .agg #[.int .i64 b.lo, .int .i64 b.hi]] w fun e w' => e = .returned (.agg #[.int .i64 (leftS a b).lo, .int .i64 (leftS a b).hi]) ∧ Below w.heap.size w w' := by
  obtain ⟨⟨_, _⟩, _, _⟩ := hb
  have hM : leftM b = Sp.mx (-(b.lo + 1)) (-(b.hi + 1)) := by (simp only [leftM, Sp.mx]; repeat' split) <;> omega
  have m0 : 0 ≤ leftM b ∧ leftM b ≤ 9223372036854775807 := by (simp only [leftM]; split) <;> omega
  have e2 : IntKind.i64.wrap (-leftM b) = -leftM b := IntWalk.i64_in _ (by omega)
  have e3 : -9223372036854775808 ≤ -leftM b ∧ -leftM b ≤ 9223372036854775807 := by omega
  have HM := Lib.hid hM.symm
  clear hM m0 
  go_enter Try.func48, Try.ntmps48
  go_wp2_with (first | (go_at_call 33; refine (lesserR _ _ _).mono ?_; rintro e w' ⟨rfl, rfl⟩) | (go_at_call 32; refine (greaterR _ _ _).mono ?_; rintro e w' ⟨rfl, rfl⟩))
  all_goals (try simp only [Exit.inBlock, Exit.then])
  all_goals refine ret_of ?_ rfl
  all_goals simp [results, Try.results48, go_sem]
  all_goals refine ⟨?_, (by repeat (first | exact Below.refl _ _ | apply Below.drew | refine Below.alloc ?_ (by simp <;> omega) _ | refine Below.setCell ?_ (by simp <;> omega) _))⟩
  all_goals go_light
  all_goals (have hM := HM.out; simp [leftS, Sp.mx, Sp.mn, wrap64] at hM ⊢; (repeat' split) <;> (try simp) <;> (try omega) <;> (repeat' split at hM) <;> omega)

set_option maxHeartbeats 400000 in
theorem restsR4a (a b : Sp) (ha : a.Wf) (hb : b.Wf) (hle : b.lo ≤ b.hi) (h1 : 0 < b.lo) (h2 : 0 < b.hi) (g1 : a.lo < 0) (g2 : 0 < a.hi) (w : World) : Calls Try.prog 48 #[.agg #[.int .i64 a.lo, .int .i64 a.hi], .agg #[.int .i64 b.lo, .int .i64 b.hi]] w fun e w' => e = .returned (.agg #[.int .i64 (leftS a b).lo, .int .i64 (leftS a b).hi]) ∧ Below w.heap.size w w' := by
  obtain ⟨⟨_, _⟩, _, _⟩ := hb
  have hM : leftM b = Sp.mx (Sp.mx 0 (b.hi - 1)) (b.lo - 1) := by (simp only [leftM, Sp.mx]; repeat' split) <;> omega
  have m0 : 0 ≤ leftM b ∧ leftM b ≤ 9223372036854775807 := by (simp only [leftM]; split) <;> omega
  have e2 : IntKind.i64.wrap (-leftM b) = -leftM b := IntWalk.i64_in _ (by omega)
  have e3 : -9223372036854775808 ≤ -leftM b ∧ -leftM b ≤ 9223372036854775807 := by omega
  have HM := Lib.hid hM.symm
  clear hM m0 
  go_enter Try.func48, Try.ntmps48
  go_wp2_with (first | (go_at_call 33; refine (lesserR _ _ _).mono ?_; rintro e w' ⟨rfl, rfl⟩) | (go_at_call 32; refine (greaterR _ _ _).mono ?_; rintro e w' ⟨rfl, rfl⟩))
  all_goals (try simp only [Exit.inBlock, Exit.then])
  all_goals refine ret_of ?_ rfl
  all_goals simp [results, Try.results48, go_sem]
  all_goals refine ⟨?_, (by repeat (first | exact Below.refl _ _ | apply Below.drew | refine Below.alloc ?_ (by simp <;> omega) _ | refine Below.setCell ?_ (by simp <;> omega) _))⟩
  all_goals go_light
  all_goals (have hM := HM.out; simp [leftS, Sp.mx, Sp.mn, wrap64] at hM ⊢; (repeat' split) <;> (try simp) <;> (try omega) <;> (repeat' split at hM) <;> omega)

set_option maxHeartbeats 400000 in
theorem restsR4b (a b : Sp) (ha : a.Wf) (hb : b.Wf) (hle : b.lo ≤ b.hi) (h1 : 0 < b.lo) (h2 : 0 < b.hi) (g1 : a.lo < 0) (g2 : a.hi ≤ 0) (w : World) : Calls Try.prog 48 #[.agg #[.int .i64 a.lo, .int .i64 a.hi], .agg #[.int .i64 b.lo, .int .i64 b.hi]] w fun e w' => e = .returned (.agg #[.int .i64 (leftS a b).lo, .int .i64 (leftS a b).hi]) ∧ Below w.heap.size w w' := by
  obtain ⟨⟨_, _⟩, _, _⟩ := hb
  have hM : leftM b = Sp.mx (Sp.mx 0 (b.hi - 1)) (b.lo - 1) := by (simp only [leftM, Sp.mx]; repeat' split) <;> omega
  have m0 : 0 ≤ leftM b ∧ leftM b ≤ 9223372036854775807 := by (simp only [leftM]; split) <;> omega
  have e2 : IntKind.i64.wrap (-leftM b) = -leftM b := IntWalk.i64_in _ (by omega)
  have e3 : -9223372036854775808 ≤ -leftM b ∧ -leftM b ≤ 9223372036854775807 := by omega
  have HM := Lib.hid hM.symm
  clear hM m0 
  go_enter Try.func48, Try.ntmps48
  go_wp2_with (first | (go_at_call 33; refine (lesserR _ _ _).mono ?_; rintro e w' ⟨rfl, rfl⟩) | (go_at_call 32; refine (greaterR _ _ _).mono ?_; rintro e w' ⟨rfl, rfl⟩))
  all_goals (try simp only [Exit.inBlock, Exit.then])
  all_goals refine ret_of ?_ rfl
  all_goals simp [results, Try.results48, go_sem]
  all_goals refine ⟨?_, (by repeat (first | exact Below.refl _ _ | apply Below.drew | refine Below.alloc ?_ (by simp <;> omega) _ | refine Below.setCell ?_ (by simp <;> omega) _))⟩
  all_goals go_light
  all_goals (have hM := HM.out; simp [leftS, Sp.mx, Sp.mn, wrap64] at hM ⊢; (repeat' split) <;> (try simp) <;> (try omega) <;> (repeat' split at hM) <;> omega)

set_option maxHeartbeats 400000 in
theorem restsR4c (a b : Sp) (ha : a.Wf) (hb : b.Wf) (hle : b.lo ≤ b.hi) (h1 : 0 < b.lo) (h2 : 0 < b.hi) (g1 : 0 ≤ a.lo) (g2 : 0 < a.hi) (w : World) : Calls Try.prog 48 #[.agg #[.int .i64 a.lo, .int .i64 a.hi], .agg #[.int .i64 b.lo, .int .i64 b.hi]] w fun e w' => e = .returned (.agg #[.int .i64 (leftS a b).lo, .int .i64 (leftS a b).hi]) ∧ Below w.heap.size w w' := by
  obtain ⟨⟨_, _⟩, _, _⟩ := hb
  have hM : leftM b = Sp.mx (Sp.mx 0 (b.hi - 1)) (b.lo - 1) := by (simp only [leftM, Sp.mx]; repeat' split) <;> omega
  have m0 : 0 ≤ leftM b ∧ leftM b ≤ 9223372036854775807 := by (simp only [leftM]; split) <;> omega
  have e2 : IntKind.i64.wrap (-leftM b) = -leftM b := IntWalk.i64_in _ (by omega)
  have e3 : -9223372036854775808 ≤ -leftM b ∧ -leftM b ≤ 9223372036854775807 := by omega
  have HM := Lib.hid hM.symm
  clear hM m0 
  go_enter Try.func48, Try.ntmps48
  go_wp2_with (first | (go_at_call 33; refine (lesserR _ _ _).mono ?_; rintro e w' ⟨rfl, rfl⟩) | (go_at_call 32; refine (greaterR _ _ _).mono ?_; rintro e w' ⟨rfl, rfl⟩))
  all_goals (try simp only [Exit.inBlock, Exit.then])
  all_goals refine ret_of ?_ rfl
  all_goals simp [results, Try.results48, go_sem]
  all_goals refine ⟨?_, (by repeat (first | exact Below.refl _ _ | apply Below.drew | refine Below.alloc ?_ (by simp <;> omega) _ | refine Below.setCell ?_ (by simp <;> omega) _))⟩
  all_goals go_light
  all_goals (have hM := HM.out; simp [leftS, Sp.mx, Sp.mn, wrap64] at hM ⊢; (repeat' split) <;> (try simp) <;> (try omega) <;> (repeat' split at hM) <;> omega)

set_option maxHeartbeats 400000 in
theorem restsR4d (a b : Sp) (ha : a.Wf) (hb : b.Wf) (hle : b.lo ≤ b.hi) (h1 : 0 < b.lo) (h2 : 0 < b.hi) (g1 : 0 ≤ a.lo) (g2 : a.hi ≤ 0) (w : World) : Calls Try.prog 48 #[.agg #[.int .i64 a.lo, .int .i64 a.hi], .agg #[.int .i64 b.lo, .int .i64 b.hi]] w fun e w' => e = .returned (.agg #[.int .i64 (leftS a b).lo, .int .i64 (leftS a b).hi]) ∧ Below w.heap.size w w' := by
  obtain ⟨⟨_, _⟩, _, _⟩ := hb
  have hM : leftM b = Sp.mx (Sp.mx 0 (b.hi - 1)) (b.lo - 1) := by (simp only [leftM, Sp.mx]; repeat' split) <;> omega
  have m0 : 0 ≤ leftM b ∧ leftM b ≤ 9223372036854775807 := by (simp only [leftM]; split) <;> omega
  have e2 : IntKind.i64.wrap (-leftM b) = -leftM b := IntWalk.i64_in _ (by omega)
  have e3 : -9223372036854775808 ≤ -leftM b ∧ -leftM b ≤ 9223372036854775807 := by omega
  have HM := Lib.hid hM.symm
  clear hM m0 
  go_enter Try.func48, Try.ntmps48
  go_wp2_with (first | (go_at_call 33; refine (lesserR _ _ _).mono ?_; rintro e w' ⟨rfl, rfl⟩) | (go_at_call 32; refine (greaterR _ _ _).mono ?_; rintro e w' ⟨rfl, rfl⟩))
  all_goals (try simp only [Exit.inBlock, Exit.then])
  all_goals refine ret_of ?_ rfl
  all_goals simp [results, Try.results48, go_sem]
  all_goals refine ⟨?_, (by repeat (first | exact Below.refl _ _ | apply Below.drew | refine Below.alloc ?_ (by simp <;> omega) _ | refine Below.setCell ?_ (by simp <;> omega) _))⟩
  all_goals go_light
  all_goals (have hM := HM.out; simp [leftS, Sp.mx, Sp.mn, wrap64] at hM ⊢; (repeat' split) <;> (try simp) <;> (try omega) <;> (repeat' split at hM) <;> omega)

set_option maxHeartbeats 400000 in
theorem restsR5a (a b : Sp) (ha : a.Wf) (hb : b.Wf) (hle : b.lo ≤ b.hi) (h1 : b.lo = 0) (h2 : 0 < b.hi) (g1 : a.lo < 0) (g2 : 0 < a.hi) (w : World) : Calls Try.prog 48 #[.agg #[.int .i64 a.lo, .int .i64 a.hi], .agg #[.int .i64 b.lo, .int .i64 b.hi]] w fun e w' => e = .returned (.agg #[.int .i64 (leftS a b).lo, .int .i64 (leftS a b).hi]) ∧ Below w.heap.size w w' := by
  obtain ⟨⟨_, _⟩, _, _⟩ := hb
  have hM : leftM b = Sp.mx 0 (b.hi - 1) := by (simp only [leftM, Sp.mx]; repeat' split) <;> omega
  have m0 : 0 ≤ leftM b ∧ leftM b ≤ 9223372036854775807 := by (simp only [leftM]; split) <;> omega
  have e2 : IntKind.i64.wrap (-leftM b) = -leftM b := IntWalk.i64_in _ (by omega)
  have e3 : -9223372036854775808 ≤ -leftM b ∧ -leftM b ≤ 9223372036854775807 := by omega
  have HM := Lib.hid hM.symm
  clear hM m0 
  go_enter Try.func48, Try.ntmps48
  go_wp2_with (first | (go_at_call 33; refine (lesserR _ _ _).mono ?_; rintro e w' ⟨rfl, rfl⟩) | (go_at_call 32; refine (greaterR _ _ _).mono ?_; rintro e w' ⟨rfl, rfl⟩))
  all_goals (try simp only [Exit.inBlock, Exit.then])
  all_goals refine ret_of ?_ rfl
  all_goals simp [results, Try.results48, go_sem]
  all_goals refine ⟨?_, (by repeat (first | exact Below.refl _ _ | apply Below.drew | refine Below.alloc ?_ (by simp <;> omega) _ | refine Below.setCell ?_ (by simp <;> omega) _))⟩
  all_goals go_light
  all_goals (have hM := HM.out; simp [leftS, Sp.mx, Sp.mn, wrap64] at hM ⊢; (repeat' split) <;> (try simp) <;> (try omega) <;> (repeat' split at hM) <;> omega)

set_option maxHeartbeats 400000 in
theorem restsR5b (a b : Sp) (ha : a.Wf) (hb : b.Wf) (hle : b.lo ≤ b.hi) (h1 : b.lo = 0) (h2 : 0 < b.hi) (g1 : a.lo < 0) (g2 : a.hi ≤ 0) (w : World) : Calls Try.prog 48 #[.agg #[.int .i64 a.lo, .int .i64 a.hi], .agg #[.int .i64 b.lo, .int .i64 b.hi]] w fun e w' => e = .returned (.agg #[.int .i64 (leftS a b).lo, .int .i64 (leftS a b).hi]) ∧ Below w.heap.size w w' := by
  obtain ⟨⟨_, _⟩, _, _⟩ := hb
  have hM : leftM b = Sp.mx 0 (b.hi - 1) := by (simp only [leftM, Sp.mx]; repeat' split) <;> omega
  have m0 : 0 ≤ leftM b ∧ leftM b ≤ 9223372036854775807 := by (simp only [leftM]; split) <;> omega
  have e2 : IntKind.i64.wrap (-leftM b) = -leftM b := IntWalk.i64_in _ (by omega)
  have e3 : -9223372036854775808 ≤ -leftM b ∧ -leftM b ≤ 9223372036854775807 := by omega
  have HM := Lib.hid hM.symm
  clear hM m0 
  go_enter Try.func48, Try.ntmps48
  go_wp2_with (first | (go_at_call 33; refine (lesserR _ _ _).mono ?_; rintro e w' ⟨rfl, rfl⟩) | (go_at_call 32; refine (greaterR _ _ _).mono ?_; rintro e w' ⟨rfl, rfl⟩))
  all_goals (try simp only [Exit.inBlock, Exit.then])
  all_goals refine ret_of ?_ rfl
  all_goals simp [results, Try.results48, go_sem]
  all_goals refine ⟨?_, (by repeat (first | exact Below.refl _ _ | apply Below.drew | refine Below.alloc ?_ (by simp <;> omega) _ | refine Below.setCell ?_ (by simp <;> omega) _))⟩
  all_goals go_light
  all_goals (have hM := HM.out; simp [leftS, Sp.mx, Sp.mn, wrap64] at hM ⊢; (repeat' split) <;> (try simp) <;> (try omega) <;> (repeat' split at hM) <;> omega)

set_option maxHeartbeats 400000 in
theorem restsR5c (a b : Sp) (ha : a.Wf) (hb : b.Wf) (hle : b.lo ≤ b.hi) (h1 : b.lo = 0) (h2 : 0 < b.hi) (g1 : 0 ≤ a.lo) (g2 : 0 < a.hi) (w : World) : Calls Try.prog 48 #[.agg #[.int .i64 a.lo, .int .i64 a.hi], .agg #[.int .i64 b.lo, .int .i64 b.hi]] w fun e w' => e = .returned (.agg #[.int .i64 (leftS a b).lo, .int .i64 (leftS a b).hi]) ∧ Below w.heap.size w w' := by
  obtain ⟨⟨_, _⟩, _, _⟩ := hb
  have hM : leftM b = Sp.mx 0 (b.hi - 1) := by (simp only [leftM, Sp.mx]; repeat' split) <;> omega
  have m0 : 0 ≤ leftM b ∧ leftM b ≤ 9223372036854775807 := by (simp only [leftM]; split) <;> omega
  have e2 : IntKind.i64.wrap (-leftM b) = -leftM b := IntWalk.i64_in _ (by omega)
  have e3 : -9223372036854775808 ≤ -leftM b ∧ -leftM b ≤ 9223372036854775807 := by omega
  have HM := Lib.hid hM.symm
  clear hM m0 
  go_enter Try.func48, Try.ntmps48
  go_wp2_with (first | (go_at_call 33; refine (lesserR _ _ _).mono ?_; rintro e w' ⟨rfl, rfl⟩) | (go_at_call 32; refine (greaterR _ _ _).mono ?_; rintro e w' ⟨rfl, rfl⟩))
  all_goals (try simp only [Exit.inBlock, Exit.then])
  all_goals refine ret_of ?_ rfl
  all_goals simp [results, Try.results48, go_sem]
  all_goals refine ⟨?_, (by repeat (first | exact Below.refl _ _ | apply Below.drew | refine Below.alloc ?_ (by simp <;> omega) _ | refine Below.setCell ?_ (by simp <;> omega) _))⟩
  all_goals go_light
  all_goals (have hM := HM.out; simp [leftS, Sp.mx, Sp.mn, wrap64] at hM ⊢; (repeat' split) <;> (try simp) <;> (try omega) <;> (repeat' split at hM) <;> omega)

set_option maxHeartbeats 400000 in
theorem restsR5d (a b : Sp) (ha : a.Wf) (hb : b.Wf) (hle : b.lo ≤ b.hi) (h1 : b.lo = 0) (h2 : 0 < b.hi) (g1 : 0 ≤ a.lo) (g2 : a.hi ≤ 0) (w : World) : Calls Try.prog 48 #[.agg #[.int .i64 a.lo, .int .i64 a.hi], .agg #[.int .i64 b.lo, .int .i64 b.hi]] w fun e w' => e = .returned (.agg #[.int .i64 (leftS a b).lo, .int .i64 (leftS a b).hi]) ∧ Below w.heap.size w w' := by
  obtain ⟨⟨_, _⟩, _, _⟩ := hb
  have hM : leftM b = Sp.mx 0 (b.hi - 1) := by (simp only [leftM, Sp.mx]; repeat' split) <;> omega
  have m0 : 0 ≤ leftM b ∧ leftM b ≤ 9223372036854775807 := by (simp only [leftM]; split) <;> omega
  have e2 : IntKind.i64.wrap (-leftM b) = -leftM b := IntWalk.i64_in _ (by omega)
  have e3 : -9223372036854775808 ≤ -leftM b ∧ -leftM b ≤ 9223372036854775807 := by omega
  have HM := Lib.hid hM.symm
  clear hM m0 
  go_enter Try.func48, Try.ntmps48
  go_wp2_with (first | (go_at_call 33; refine (lesserR _ _ _).mono ?_; rintro e w' ⟨rfl, rfl⟩) | (go_at_call 32; refine (greaterR _ _ _).mono ?_; rintro e w' ⟨rfl, rfl⟩))
  all_goals (try simp only [Exit.inBlock, Exit.then])
  all_goals refine ret_of ?_ rfl
  all_goals simp [results, Try.results48, go_sem]
  all_goals refine ⟨?_, (by repeat (first | exact Below.refl _ _ | apply Below.drew | refine Below.alloc ?_ (by simp <;> omega) _ | refine Below.setCell ?_ (by simp <;> omega) _))⟩
  all_goals go_light
  all_goals (have hM := HM.out; simp [leftS, Sp.mx, Sp.mn, wrap64] at hM ⊢; (repeat' split) <;> (try simp) <;> (try omega) <;> (repeat' split at hM) <;> omega)

theorem restsR (a b : Sp) (ha : a.Wf) (hb : b.Wf) (hle : b.lo ≤ b.hi) (h0 : b.lo ≠ 0 ∨ b.hi ≠ 0) (w : World) : Calls Try.prog 48 #[.agg #[.int .i64 a.lo, .int .i64 a.hi], .agg #[.int .i64 b.lo, .int .i64 b.hi]] w fun e w' => e = .returned (.agg #[.int .i64 (leftS a b).lo, .int .i64 (leftS a b).hi]) ∧ Below w.heap.size w w' := by
  rcases (by omega : (b.lo < 0 ∧ 0 < b.hi) ∨ (b.lo < 0 ∧ b.hi = 0) ∨ (b.lo < 0 ∧ b.hi < 0) ∨ (0 < b.lo ∧ 0 < b.hi) ∨ (b.lo = 0 ∧ 0 < b.hi)) with ⟨h1, h2⟩ | ⟨h1, h2⟩ | ⟨h1, h2⟩ | ⟨h1, h2⟩ | ⟨h1, h2⟩ <;> by_cases g1 : a.lo < 0 <;> by_cases g2 : 0 < a.hi
  · exact restsR1a a b ha hb hle h1 h2 g1 g2 w
  · exact restsR1b a b ha hb hle h1 h2 g1 (by omega) w
  · exact restsR1c a b ha hb hle h1 h2 (by omega) g2 w
  · exact restsR1d a b ha hb hle h1 h2 (by omega) (by omega) w
  · exact restsR2a a b ha hb hle h1 h2 g1 g2 w
  · exact restsR2b a b ha hb hle h1 h2 g1 (by omega) w
  · exact restsR2c a b ha hb hle h1 h2 (by omega) g2 w
  · exact restsR2d a b ha hb hle h1 h2 (by omega) (by omega) w
  · exact restsR3a a b ha hb hle h1 h2 g1 g2 w
  · exact restsR3b a b ha hb hle h1 h2 g1 (by omega) w
  · exact restsR3c a b ha hb hle h1 h2 (by omega) g2 w
  · exact restsR3d a b ha hb hle h1 h2 (by omega) (by omega) w
  · exact restsR4a a b ha hb hle h1 h2 g1 g2 w
  · exact restsR4b a b ha hb hle h1 h2 g1 (by omega) w
  · exact restsR4c a b ha hb hle h1 h2 (by omega) g2 w
  · exact restsR4d a b ha hb hle h1 h2 (by omega) (by omega) w
  · exact restsR5a a b ha hb hle h1 h2 g1 g2 w
  · exact restsR5b a b ha hb hle h1 h2 g1 (by omega) w
  · exact restsR5c a b ha hb hle h1 h2 (by omega) g2 w
  · exact restsR5d a b ha hb hle h1 h2 (by omega) (by omega) w
end Go.Proofs.Ytdoikgjdjdgnbaa

