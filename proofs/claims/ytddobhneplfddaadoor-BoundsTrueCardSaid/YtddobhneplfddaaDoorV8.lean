/-
  Layer 16 (bounds): SpanB.
-/
import Derived.Test.YtddobhneplfddaaDoorV0
import Derived.Test.YtddobhneplfddaaDoorV4
import Derived.Deep.AppendLies
import Derived.Maps.AppendAt
namespace Go.Proofs.YtddobhneplfddaaDoor
set_option maxRecDepth 100000
open Go.RowKit
set_option linter.unusedSimpArgs false
set_option linter.unusedVariables false
attribute [local go_sem ↓] Go.wp_at_zero Go.wp_at_succ

set_option maxHeartbeats 4000000 in
theorem exactP (a b : Int) (ha : In64 a) (hb : In64 b) (w : World) : Calls Tryd.prog 83 #[.int .i64 a, .int .i64 b] w fun e w' => e = .returned (.tuple #[.int .i64 (wrap64 (a + b)), .bool (Sp.sumOk a b)]) ∧ w = w' := by
  go_enter Tryd.func83, Tryd.ntmps83
  go_wp2
  all_goals go_ret2
  all_goals refine ⟨?_, rfl⟩
  all_goals go_light
  all_goals exact congrArg (fun t => Ending.returned (.tuple #[.int .i64 (wrap64 (a + b)), .bool t])) (exact_ok ha hb)

set_option maxHeartbeats 4000000 in
theorem lessP (a b : Int) (ha : In64 a) (hb : In64 b) (w : World) : Calls Tryd.prog 85 #[.int .i64 a, .int .i64 b] w fun e w' => e = .returned (.tuple #[.int .i64 (wrap64 (a - b)), .bool (Sp.lessOk a b)]) ∧ w = w' := by
  go_enter Tryd.func85, Tryd.ntmps85
  go_wp2
  all_goals go_ret2
  all_goals refine ⟨?_, rfl⟩
  all_goals go_light
  all_goals exact congrArg (fun t => Ending.returned (.tuple #[.int .i64 (wrap64 (a - b)), .bool t])) (less_ok ha hb)

set_option maxHeartbeats 4000000 in
theorem distancePN (a : Int) (ha : In64 a) (h : a < 0) (w : World) : Calls Tryd.prog 96 #[.int .i64 a] w fun e w' => e = .returned (.int .u64 (a.natAbs : Int)) ∧ w = w' := by
  go_enter Tryd.func96, Tryd.ntmps96
  go_wp2
  all_goals go_ret
  all_goals refine ⟨?_, rfl⟩
  all_goals go_light
  all_goals exact congrArg (fun t => Ending.returned (.int .u64 t)) (dist_neg ha h)

set_option maxHeartbeats 4000000 in
theorem distancePP (a : Int) (ha : In64 a) (h : 0 ≤ a) (w : World) : Calls Tryd.prog 96 #[.int .i64 a] w fun e w' => e = .returned (.int .u64 (a.natAbs : Int)) ∧ w = w' := by
  go_enter Tryd.func96, Tryd.ntmps96
  go_wp2
  all_goals go_ret
  all_goals refine ⟨?_, rfl⟩
  all_goals go_light
  all_goals exact congrArg (fun t => Ending.returned (.int .u64 t)) (dist_pos ha h)

theorem distanceP (a : Int) (ha : In64 a) (w : World) : Calls Tryd.prog 96 #[.int .i64 a] w fun e w' => e = .returned (.int .u64 (a.natAbs : Int)) ∧ w = w' := by
  by_cases h : a < 0
  · exact distancePN a ha h w
  · exact distancePP a ha (by omega) w

theorem mulC (a b : Int) (ha : In64 a) (hb : In64 b) (w : World) : Calls Tryd.prog 95 #[.int .u64 (a.natAbs : Int), .int .u64 (b.natAbs : Int)] w fun e w' => e = .returned (.tuple #[.int .u64 (mulHi a b), .int .u64 (mulLo a b)]) ∧ w = w' :=
  (bits_Mul64 a.natAbs b.natAbs (by obtain ⟨_, _⟩ := ha; omega) (by obtain ⟨_, _⟩ := hb; omega) w).mono fun e w' ⟨he, hw⟩ => ⟨he, hw.symm⟩

set_option maxHeartbeats 4000000 in
theorem timesP1y (a b : Int) (ha : In64 a) (hb : In64 b) (h1 : a < 0) (h2 : 0 ≤ b) (hz : (mulHi a b == 0) = true) (w : World) : Calls Tryd.prog 86 #[.int .i64 a, .int .i64 b] w fun e w' => e = .returned (.tuple #[.int .i64 (wrap64 (-(wrap64 (mulLo a b)))), .bool (decide (mulLo a b ≤ 9223372036854775808))]) ∧ w = w' := by
  have d1 : decide (a < 0) = true := by simp; omega
  have d2 : decide (b < 0) = false := by simp; omega
  go_enter Tryd.func86, Tryd.ntmps86
  go_wp2_with (first
    | (go_at_call 96; refine (distanceP _ (by assumption) _).mono ?_; rintro e w' ⟨rfl, rfl⟩)
    | (go_at_call 95; refine (mulC a b ha hb _).mono ?_; rintro e w' ⟨rfl, rfl⟩))
  all_goals go_ret2
  all_goals refine ⟨?_, rfl⟩
  all_goals go_light
  all_goals rfl

set_option maxHeartbeats 4000000 in
theorem timesP1n (a b : Int) (ha : In64 a) (hb : In64 b) (h1 : a < 0) (h2 : 0 ≤ b) (hz : (mulHi a b == 0) = false) (w : World) : Calls Tryd.prog 86 #[.int .i64 a, .int .i64 b] w fun e w' => e = .returned (.tuple #[.int .i64 (wrap64 (-(wrap64 (mulLo a b)))), .bool (false)]) ∧ w = w' := by
  have d1 : decide (a < 0) = true := by simp; omega
  have d2 : decide (b < 0) = false := by simp; omega
  go_enter Tryd.func86, Tryd.ntmps86
  go_wp2_with (first
    | (go_at_call 96; refine (distanceP _ (by assumption) _).mono ?_; rintro e w' ⟨rfl, rfl⟩)
    | (go_at_call 95; refine (mulC a b ha hb _).mono ?_; rintro e w' ⟨rfl, rfl⟩))
  all_goals go_ret2
  all_goals refine ⟨?_, rfl⟩
  all_goals go_light
  all_goals rfl

theorem timesP1 (a b : Int) (ha : In64 a) (hb : In64 b) (h1 : a < 0) (h2 : 0 ≤ b) (w : World) : Calls Tryd.prog 86 #[.int .i64 a, .int .i64 b] w fun e w' => e = .returned (.tuple #[.int .i64 (wrap64 (a * b)), .bool (mulOk a b)]) ∧ w = w' := by
  obtain ⟨e1, e2⟩ := times_neg (.inl ⟨h1, h2⟩)
  rw [← e1, ← e2]
  cases hz : (mulHi a b == 0)
  · have : decide (mulHi a b = 0) = false := by simpa using hz
    rw [this, Bool.false_and]
    exact timesP1n a b ha hb h1 h2 hz w
  · have : decide (mulHi a b = 0) = true := by simpa using hz
    rw [this, Bool.true_and]
    exact timesP1y a b ha hb h1 h2 hz w

set_option maxHeartbeats 4000000 in
theorem timesP2y (a b : Int) (ha : In64 a) (hb : In64 b) (h1 : 0 ≤ a) (h2 : b < 0) (hz : (mulHi a b == 0) = true) (w : World) : Calls Tryd.prog 86 #[.int .i64 a, .int .i64 b] w fun e w' => e = .returned (.tuple #[.int .i64 (wrap64 (-(wrap64 (mulLo a b)))), .bool (decide (mulLo a b ≤ 9223372036854775808))]) ∧ w = w' := by
  have d1 : decide (a < 0) = false := by simp; omega
  have d2 : decide (b < 0) = true := by simp; omega
  go_enter Tryd.func86, Tryd.ntmps86
  go_wp2_with (first
    | (go_at_call 96; refine (distanceP _ (by assumption) _).mono ?_; rintro e w' ⟨rfl, rfl⟩)
    | (go_at_call 95; refine (mulC a b ha hb _).mono ?_; rintro e w' ⟨rfl, rfl⟩))
  all_goals go_ret2
  all_goals refine ⟨?_, rfl⟩
  all_goals go_light
  all_goals rfl

set_option maxHeartbeats 4000000 in
theorem timesP2n (a b : Int) (ha : In64 a) (hb : In64 b) (h1 : 0 ≤ a) (h2 : b < 0) (hz : (mulHi a b == 0) = false) (w : World) : Calls Tryd.prog 86 #[.int .i64 a, .int .i64 b] w fun e w' => e = .returned (.tuple #[.int .i64 (wrap64 (-(wrap64 (mulLo a b)))), .bool (false)]) ∧ w = w' := by
  have d1 : decide (a < 0) = false := by simp; omega
  have d2 : decide (b < 0) = true := by simp; omega
  go_enter Tryd.func86, Tryd.ntmps86
  go_wp2_with (first
    | (go_at_call 96; refine (distanceP _ (by assumption) _).mono ?_; rintro e w' ⟨rfl, rfl⟩)
    | (go_at_call 95; refine (mulC a b ha hb _).mono ?_; rintro e w' ⟨rfl, rfl⟩))
  all_goals go_ret2
  all_goals refine ⟨?_, rfl⟩
  all_goals go_light
  all_goals rfl

theorem timesP2 (a b : Int) (ha : In64 a) (hb : In64 b) (h1 : 0 ≤ a) (h2 : b < 0) (w : World) : Calls Tryd.prog 86 #[.int .i64 a, .int .i64 b] w fun e w' => e = .returned (.tuple #[.int .i64 (wrap64 (a * b)), .bool (mulOk a b)]) ∧ w = w' := by
  obtain ⟨e1, e2⟩ := times_neg (.inr ⟨h1, h2⟩)
  rw [← e1, ← e2]
  cases hz : (mulHi a b == 0)
  · have : decide (mulHi a b = 0) = false := by simpa using hz
    rw [this, Bool.false_and]
    exact timesP2n a b ha hb h1 h2 hz w
  · have : decide (mulHi a b = 0) = true := by simpa using hz
    rw [this, Bool.true_and]
    exact timesP2y a b ha hb h1 h2 hz w

set_option maxHeartbeats 4000000 in
theorem timesP3y (a b : Int) (ha : In64 a) (hb : In64 b) (h1 : a < 0) (h2 : b < 0) (hz : (mulHi a b == 0) = true) (w : World) : Calls Tryd.prog 86 #[.int .i64 a, .int .i64 b] w fun e w' => e = .returned (.tuple #[.int .i64 (wrap64 (mulLo a b)), .bool (decide (mulLo a b ≤ 9223372036854775807))]) ∧ w = w' := by
  have d1 : decide (a < 0) = true := by simp; omega
  have d2 : decide (b < 0) = true := by simp; omega
  go_enter Tryd.func86, Tryd.ntmps86
  go_wp2_with (first
    | (go_at_call 96; refine (distanceP _ (by assumption) _).mono ?_; rintro e w' ⟨rfl, rfl⟩)
    | (go_at_call 95; refine (mulC a b ha hb _).mono ?_; rintro e w' ⟨rfl, rfl⟩))
  all_goals go_ret2
  all_goals refine ⟨?_, rfl⟩
  all_goals go_light
  all_goals rfl

set_option maxHeartbeats 4000000 in
theorem timesP3n (a b : Int) (ha : In64 a) (hb : In64 b) (h1 : a < 0) (h2 : b < 0) (hz : (mulHi a b == 0) = false) (w : World) : Calls Tryd.prog 86 #[.int .i64 a, .int .i64 b] w fun e w' => e = .returned (.tuple #[.int .i64 (wrap64 (mulLo a b)), .bool (false)]) ∧ w = w' := by
  have d1 : decide (a < 0) = true := by simp; omega
  have d2 : decide (b < 0) = true := by simp; omega
  go_enter Tryd.func86, Tryd.ntmps86
  go_wp2_with (first
    | (go_at_call 96; refine (distanceP _ (by assumption) _).mono ?_; rintro e w' ⟨rfl, rfl⟩)
    | (go_at_call 95; refine (mulC a b ha hb _).mono ?_; rintro e w' ⟨rfl, rfl⟩))
  all_goals go_ret2
  all_goals refine ⟨?_, rfl⟩
  all_goals go_light
  all_goals rfl

theorem timesP3 (a b : Int) (ha : In64 a) (hb : In64 b) (h1 : a < 0) (h2 : b < 0) (w : World) : Calls Tryd.prog 86 #[.int .i64 a, .int .i64 b] w fun e w' => e = .returned (.tuple #[.int .i64 (wrap64 (a * b)), .bool (mulOk a b)]) ∧ w = w' := by
  obtain ⟨e1, e2⟩ := times_pos (.inl ⟨h1, h2⟩)
  rw [← e1, ← e2]
  cases hz : (mulHi a b == 0)
  · have : decide (mulHi a b = 0) = false := by simpa using hz
    rw [this, Bool.false_and]
    exact timesP3n a b ha hb h1 h2 hz w
  · have : decide (mulHi a b = 0) = true := by simpa using hz
    rw [this, Bool.true_and]
    exact timesP3y a b ha hb h1 h2 hz w

set_option maxHeartbeats 4000000 in
theorem timesP4y (a b : Int) (ha : In64 a) (hb : In64 b) (h1 : 0 ≤ a) (h2 : 0 ≤ b) (hz : (mulHi a b == 0) = true) (w : World) : Calls Tryd.prog 86 #[.int .i64 a, .int .i64 b] w fun e w' => e = .returned (.tuple #[.int .i64 (wrap64 (mulLo a b)), .bool (decide (mulLo a b ≤ 9223372036854775807))]) ∧ w = w' := by
  have d1 : decide (a < 0) = false := by simp; omega
  have d2 : decide (b < 0) = false := by simp; omega
  go_enter Tryd.func86, Tryd.ntmps86
  go_wp2_with (first
    | (go_at_call 96; refine (distanceP _ (by assumption) _).mono ?_; rintro e w' ⟨rfl, rfl⟩)
    | (go_at_call 95; refine (mulC a b ha hb _).mono ?_; rintro e w' ⟨rfl, rfl⟩))
  all_goals go_ret2
  all_goals refine ⟨?_, rfl⟩
  all_goals go_light
  all_goals rfl

set_option maxHeartbeats 4000000 in
theorem timesP4n (a b : Int) (ha : In64 a) (hb : In64 b) (h1 : 0 ≤ a) (h2 : 0 ≤ b) (hz : (mulHi a b == 0) = false) (w : World) : Calls Tryd.prog 86 #[.int .i64 a, .int .i64 b] w fun e w' => e = .returned (.tuple #[.int .i64 (wrap64 (mulLo a b)), .bool (false)]) ∧ w = w' := by
  have d1 : decide (a < 0) = false := by simp; omega
  have d2 : decide (b < 0) = false := by simp; omega
  go_enter Tryd.func86, Tryd.ntmps86
  go_wp2_with (first
    | (go_at_call 96; refine (distanceP _ (by assumption) _).mono ?_; rintro e w' ⟨rfl, rfl⟩)
    | (go_at_call 95; refine (mulC a b ha hb _).mono ?_; rintro e w' ⟨rfl, rfl⟩))
  all_goals go_ret2
  all_goals refine ⟨?_, rfl⟩
  all_goals go_light
  all_goals rfl

theorem timesP4 (a b : Int) (ha : In64 a) (hb : In64 b) (h1 : 0 ≤ a) (h2 : 0 ≤ b) (w : World) : Calls Tryd.prog 86 #[.int .i64 a, .int .i64 b] w fun e w' => e = .returned (.tuple #[.int .i64 (wrap64 (a * b)), .bool (mulOk a b)]) ∧ w = w' := by
  obtain ⟨e1, e2⟩ := times_pos (.inr ⟨h1, h2⟩)
  rw [← e1, ← e2]
  cases hz : (mulHi a b == 0)
  · have : decide (mulHi a b = 0) = false := by simpa using hz
    rw [this, Bool.false_and]
    exact timesP4n a b ha hb h1 h2 hz w
  · have : decide (mulHi a b = 0) = true := by simpa using hz
    rw [this, Bool.true_and]
    exact timesP4y a b ha hb h1 h2 hz w

theorem timesP (a b : Int) (ha : In64 a) (hb : In64 b) (w : World) : Calls Tryd.prog 86 #[.int .i64 a, .int .i64 b] w fun e w' => e = .returned (.tuple #[.int .i64 (wrap64 (a * b)), .bool (mulOk a b)]) ∧ w = w' := by
  by_cases h1 : a < 0 <;> by_cases h2 : b < 0
  · exact timesP3 a b ha hb h1 h2 w
  · exact timesP1 a b ha hb h1 (by omega) w
  · exact timesP2 a b ha hb (by omega) h2 w
  · exact timesP4 a b ha hb (by omega) (by omega) w

end Go.Proofs.YtddobhneplfddaaDoor


/-
  Layer 8 (span): the walks of left and divided of package span.
-/
namespace Go.Proofs.YtddobhneplfddaaDoor
open Go.RowKit
set_option linter.unusedSimpArgs false
set_option linter.unusedVariables false
attribute [local go_sem ↓] Go.wp_at_zero Go.wp_at_succ

set_option maxHeartbeats 4000000 in
theorem leftP1a (a b : Sp) (ha : a.Wf) (hb : b.Wf) (h0 : b.lo ≠ 0 ∨ b.hi ≠ 0) (hc : b.lo.natAbs < b.hi.natAbs) (g1 : a.lo < 0) (g2 : 0 < a.hi) (w : World) : Calls Tryd.prog 87 #[.agg #[.int .i64 a.lo, .int .i64 a.hi], .agg #[.int .i64 b.lo, .int .i64 b.hi]] w fun e w' => e = .returned (.agg #[.int .i64 (leftS a b).lo, .int .i64 (leftS a b).hi]) ∧ Below w.heap.size w w' := by
  have hM : leftM b = (b.hi.natAbs : Int) - 1 := by unfold leftM; split <;> omega
  obtain ⟨m0, m1⟩ := leftM_in hb h0
  have hl : In64 b.lo := hb.1
  have hh : In64 b.hi := hb.2
  have e1 : IntKind.u64.wrap ((b.hi.natAbs : Int) - 1) = leftM b := by rw [← hM]; exact IntWalk.u64_in _ (by omega)
  have e2 : IntKind.i64.wrap (leftM b) = leftM b := IntWalk.i64_in _ (by omega)
  have HM := Lib.hid hM
  clear hM h0
  go_enter Tryd.func87, Tryd.ntmps87
  go_wp2
  go_region_held3 (fun w' => w'.cell? ⟨w.heap.size, 0, none⟩ = some (.int .i64 a.lo) ∧ w'.cell? ⟨w.heap.size, 1, none⟩ = some (.int .i64 a.hi) ∧ w'.cell? ⟨w.heap.size + 1, 0, none⟩ = some (.int .i64 b.lo) ∧ w'.cell? ⟨w.heap.size + 1, 1, none⟩ = some (.int .i64 b.hi)) (go_simp) (first | (go_at_call 96; refine (distanceP _ (by assumption) _).mono ?_; rintro e w' ⟨rfl, rfl⟩))
  go_wp2
  all_goals (try simp only [Exit.inBlock, Exit.then])
  all_goals refine ret_of ?_ rfl
  all_goals simp [results, Tryd.results87, go_sem]
  all_goals refine ⟨?_, (by repeat (first | exact Below.refl _ _ | with_reducible apply Below.drew | refine Below.alloc ?_ (by simp <;> omega) _ | refine Below.setCell ?_ (by simp <;> omega) _))⟩
  all_goals go_light
  all_goals (first | (simp [leftS, Sp.mx, Sp.mn, *]; done) | (simp [leftS, Sp.mx, Sp.mn]; omega) | ((simp [leftS, Sp.mx, Sp.mn]; repeat' split) <;> (first | omega | (simp_all; done) | (simp_all; omega))))

set_option maxHeartbeats 4000000 in
theorem leftP1b (a b : Sp) (ha : a.Wf) (hb : b.Wf) (h0 : b.lo ≠ 0 ∨ b.hi ≠ 0) (hc : b.lo.natAbs < b.hi.natAbs) (g1 : a.lo < 0) (g2 : a.hi ≤ 0) (w : World) : Calls Tryd.prog 87 #[.agg #[.int .i64 a.lo, .int .i64 a.hi], .agg #[.int .i64 b.lo, .int .i64 b.hi]] w fun e w' => e = .returned (.agg #[.int .i64 (leftS a b).lo, .int .i64 (leftS a b).hi]) ∧ Below w.heap.size w w' := by
  have hM : leftM b = (b.hi.natAbs : Int) - 1 := by unfold leftM; split <;> omega
  obtain ⟨m0, m1⟩ := leftM_in hb h0
  have hl : In64 b.lo := hb.1
  have hh : In64 b.hi := hb.2
  have e1 : IntKind.u64.wrap ((b.hi.natAbs : Int) - 1) = leftM b := by rw [← hM]; exact IntWalk.u64_in _ (by omega)
  have e2 : IntKind.i64.wrap (leftM b) = leftM b := IntWalk.i64_in _ (by omega)
  have HM := Lib.hid hM
  clear hM h0
  go_enter Tryd.func87, Tryd.ntmps87
  go_wp2
  go_region_held3 (fun w' => w'.cell? ⟨w.heap.size, 0, none⟩ = some (.int .i64 a.lo) ∧ w'.cell? ⟨w.heap.size, 1, none⟩ = some (.int .i64 a.hi) ∧ w'.cell? ⟨w.heap.size + 1, 0, none⟩ = some (.int .i64 b.lo) ∧ w'.cell? ⟨w.heap.size + 1, 1, none⟩ = some (.int .i64 b.hi)) (go_simp) (first | (go_at_call 96; refine (distanceP _ (by assumption) _).mono ?_; rintro e w' ⟨rfl, rfl⟩))
  go_wp2
  all_goals (try simp only [Exit.inBlock, Exit.then])
  all_goals refine ret_of ?_ rfl
  all_goals simp [results, Tryd.results87, go_sem]
  all_goals refine ⟨?_, (by repeat (first | exact Below.refl _ _ | with_reducible apply Below.drew | refine Below.alloc ?_ (by simp <;> omega) _ | refine Below.setCell ?_ (by simp <;> omega) _))⟩
  all_goals go_light
  all_goals (first | (simp [leftS, Sp.mx, Sp.mn, *]; done) | (simp [leftS, Sp.mx, Sp.mn]; omega) | ((simp [leftS, Sp.mx, Sp.mn]; repeat' split) <;> (first | omega | (simp_all; done) | (simp_all; omega))))

set_option maxHeartbeats 4000000 in
theorem leftP1c (a b : Sp) (ha : a.Wf) (hb : b.Wf) (h0 : b.lo ≠ 0 ∨ b.hi ≠ 0) (hc : b.lo.natAbs < b.hi.natAbs) (g1 : 0 ≤ a.lo) (g2 : 0 < a.hi) (w : World) : Calls Tryd.prog 87 #[.agg #[.int .i64 a.lo, .int .i64 a.hi], .agg #[.int .i64 b.lo, .int .i64 b.hi]] w fun e w' => e = .returned (.agg #[.int .i64 (leftS a b).lo, .int .i64 (leftS a b).hi]) ∧ Below w.heap.size w w' := by
  have hM : leftM b = (b.hi.natAbs : Int) - 1 := by unfold leftM; split <;> omega
  obtain ⟨m0, m1⟩ := leftM_in hb h0
  have hl : In64 b.lo := hb.1
  have hh : In64 b.hi := hb.2
  have e1 : IntKind.u64.wrap ((b.hi.natAbs : Int) - 1) = leftM b := by rw [← hM]; exact IntWalk.u64_in _ (by omega)
  have e2 : IntKind.i64.wrap (leftM b) = leftM b := IntWalk.i64_in _ (by omega)
  have HM := Lib.hid hM
  clear hM h0
  go_enter Tryd.func87, Tryd.ntmps87
  go_wp2
  go_region_held3 (fun w' => w'.cell? ⟨w.heap.size, 0, none⟩ = some (.int .i64 a.lo) ∧ w'.cell? ⟨w.heap.size, 1, none⟩ = some (.int .i64 a.hi) ∧ w'.cell? ⟨w.heap.size + 1, 0, none⟩ = some (.int .i64 b.lo) ∧ w'.cell? ⟨w.heap.size + 1, 1, none⟩ = some (.int .i64 b.hi)) (go_simp) (first | (go_at_call 96; refine (distanceP _ (by assumption) _).mono ?_; rintro e w' ⟨rfl, rfl⟩))
  go_wp2
  all_goals (try simp only [Exit.inBlock, Exit.then])
  all_goals refine ret_of ?_ rfl
  all_goals simp [results, Tryd.results87, go_sem]
  all_goals refine ⟨?_, (by repeat (first | exact Below.refl _ _ | with_reducible apply Below.drew | refine Below.alloc ?_ (by simp <;> omega) _ | refine Below.setCell ?_ (by simp <;> omega) _))⟩
  all_goals go_light
  all_goals (first | (simp [leftS, Sp.mx, Sp.mn, *]; done) | (simp [leftS, Sp.mx, Sp.mn]; omega) | ((simp [leftS, Sp.mx, Sp.mn]; repeat' split) <;> (first | omega | (simp_all; done) | (simp_all; omega))))

set_option maxHeartbeats 4000000 in
theorem leftP1d (a b : Sp) (ha : a.Wf) (hb : b.Wf) (h0 : b.lo ≠ 0 ∨ b.hi ≠ 0) (hc : b.lo.natAbs < b.hi.natAbs) (g1 : 0 ≤ a.lo) (g2 : a.hi ≤ 0) (w : World) : Calls Tryd.prog 87 #[.agg #[.int .i64 a.lo, .int .i64 a.hi], .agg #[.int .i64 b.lo, .int .i64 b.hi]] w fun e w' => e = .returned (.agg #[.int .i64 (leftS a b).lo, .int .i64 (leftS a b).hi]) ∧ Below w.heap.size w w' := by
  have hM : leftM b = (b.hi.natAbs : Int) - 1 := by unfold leftM; split <;> omega
  obtain ⟨m0, m1⟩ := leftM_in hb h0
  have hl : In64 b.lo := hb.1
  have hh : In64 b.hi := hb.2
  have e1 : IntKind.u64.wrap ((b.hi.natAbs : Int) - 1) = leftM b := by rw [← hM]; exact IntWalk.u64_in _ (by omega)
  have e2 : IntKind.i64.wrap (leftM b) = leftM b := IntWalk.i64_in _ (by omega)
  have HM := Lib.hid hM
  clear hM h0
  go_enter Tryd.func87, Tryd.ntmps87
  go_wp2
  go_region_held3 (fun w' => w'.cell? ⟨w.heap.size, 0, none⟩ = some (.int .i64 a.lo) ∧ w'.cell? ⟨w.heap.size, 1, none⟩ = some (.int .i64 a.hi) ∧ w'.cell? ⟨w.heap.size + 1, 0, none⟩ = some (.int .i64 b.lo) ∧ w'.cell? ⟨w.heap.size + 1, 1, none⟩ = some (.int .i64 b.hi)) (go_simp) (first | (go_at_call 96; refine (distanceP _ (by assumption) _).mono ?_; rintro e w' ⟨rfl, rfl⟩))
  go_wp2
  all_goals (try simp only [Exit.inBlock, Exit.then])
  all_goals refine ret_of ?_ rfl
  all_goals simp [results, Tryd.results87, go_sem]
  all_goals refine ⟨?_, (by repeat (first | exact Below.refl _ _ | with_reducible apply Below.drew | refine Below.alloc ?_ (by simp <;> omega) _ | refine Below.setCell ?_ (by simp <;> omega) _))⟩
  all_goals go_light
  all_goals (first | (simp [leftS, Sp.mx, Sp.mn, *]; done) | (simp [leftS, Sp.mx, Sp.mn]; omega) | ((simp [leftS, Sp.mx, Sp.mn]; repeat' split) <;> (first | omega | (simp_all; done) | (simp_all; omega))))

set_option maxHeartbeats 4000000 in
theorem leftP2a (a b : Sp) (ha : a.Wf) (hb : b.Wf) (h0 : b.lo ≠ 0 ∨ b.hi ≠ 0) (hc : b.hi.natAbs ≤ b.lo.natAbs) (g1 : a.lo < 0) (g2 : 0 < a.hi) (w : World) : Calls Tryd.prog 87 #[.agg #[.int .i64 a.lo, .int .i64 a.hi], .agg #[.int .i64 b.lo, .int .i64 b.hi]] w fun e w' => e = .returned (.agg #[.int .i64 (leftS a b).lo, .int .i64 (leftS a b).hi]) ∧ Below w.heap.size w w' := by
  have hM : leftM b = (b.lo.natAbs : Int) - 1 := by unfold leftM; split <;> omega
  obtain ⟨m0, m1⟩ := leftM_in hb h0
  have hl : In64 b.lo := hb.1
  have hh : In64 b.hi := hb.2
  have e1 : IntKind.u64.wrap ((b.lo.natAbs : Int) - 1) = leftM b := by rw [← hM]; exact IntWalk.u64_in _ (by omega)
  have e2 : IntKind.i64.wrap (leftM b) = leftM b := IntWalk.i64_in _ (by omega)
  have HM := Lib.hid hM
  clear hM h0
  go_enter Tryd.func87, Tryd.ntmps87
  go_wp2
  go_region_held3 (fun w' => w'.cell? ⟨w.heap.size, 0, none⟩ = some (.int .i64 a.lo) ∧ w'.cell? ⟨w.heap.size, 1, none⟩ = some (.int .i64 a.hi) ∧ w'.cell? ⟨w.heap.size + 1, 0, none⟩ = some (.int .i64 b.lo) ∧ w'.cell? ⟨w.heap.size + 1, 1, none⟩ = some (.int .i64 b.hi)) (go_simp) (first | (go_at_call 96; refine (distanceP _ (by assumption) _).mono ?_; rintro e w' ⟨rfl, rfl⟩))
  go_wp2
  all_goals (try simp only [Exit.inBlock, Exit.then])
  all_goals refine ret_of ?_ rfl
  all_goals simp [results, Tryd.results87, go_sem]
  all_goals refine ⟨?_, (by repeat (first | exact Below.refl _ _ | with_reducible apply Below.drew | refine Below.alloc ?_ (by simp <;> omega) _ | refine Below.setCell ?_ (by simp <;> omega) _))⟩
  all_goals go_light
  all_goals (first | (simp [leftS, Sp.mx, Sp.mn, *]; done) | (simp [leftS, Sp.mx, Sp.mn]; omega) | ((simp [leftS, Sp.mx, Sp.mn]; repeat' split) <;> (first | omega | (simp_all; done) | (simp_all; omega))))

set_option maxHeartbeats 4000000 in
theorem leftP2b (a b : Sp) (ha : a.Wf) (hb : b.Wf) (h0 : b.lo ≠ 0 ∨ b.hi ≠ 0) (hc : b.hi.natAbs ≤ b.lo.natAbs) (g1 : a.lo < 0) (g2 : a.hi ≤ 0) (w : World) : Calls Tryd.prog 87 #[.agg #[.int .i64 a.lo, .int .i64 a.hi], .agg #[.int .i64 b.lo, .int .i64 b.hi]] w fun e w' => e = .returned (.agg #[.int .i64 (leftS a b).lo, .int .i64 (leftS a b).hi]) ∧ Below w.heap.size w w' := by
  have hM : leftM b = (b.lo.natAbs : Int) - 1 := by unfold leftM; split <;> omega
  obtain ⟨m0, m1⟩ := leftM_in hb h0
  have hl : In64 b.lo := hb.1
  have hh : In64 b.hi := hb.2
  have e1 : IntKind.u64.wrap ((b.lo.natAbs : Int) - 1) = leftM b := by rw [← hM]; exact IntWalk.u64_in _ (by omega)
  have e2 : IntKind.i64.wrap (leftM b) = leftM b := IntWalk.i64_in _ (by omega)
  have HM := Lib.hid hM
  clear hM h0
  go_enter Tryd.func87, Tryd.ntmps87
  go_wp2
  go_region_held3 (fun w' => w'.cell? ⟨w.heap.size, 0, none⟩ = some (.int .i64 a.lo) ∧ w'.cell? ⟨w.heap.size, 1, none⟩ = some (.int .i64 a.hi) ∧ w'.cell? ⟨w.heap.size + 1, 0, none⟩ = some (.int .i64 b.lo) ∧ w'.cell? ⟨w.heap.size + 1, 1, none⟩ = some (.int .i64 b.hi)) (go_simp) (first | (go_at_call 96; refine (distanceP _ (by assumption) _).mono ?_; rintro e w' ⟨rfl, rfl⟩))
  go_wp2
  all_goals (try simp only [Exit.inBlock, Exit.then])
  all_goals refine ret_of ?_ rfl
  all_goals simp [results, Tryd.results87, go_sem]
  all_goals refine ⟨?_, (by repeat (first | exact Below.refl _ _ | with_reducible apply Below.drew | refine Below.alloc ?_ (by simp <;> omega) _ | refine Below.setCell ?_ (by simp <;> omega) _))⟩
  all_goals go_light
  all_goals (first | (simp [leftS, Sp.mx, Sp.mn, *]; done) | (simp [leftS, Sp.mx, Sp.mn]; omega) | ((simp [leftS, Sp.mx, Sp.mn]; repeat' split) <;> (first | omega | (simp_all; done) | (simp_all; omega))))

set_option maxHeartbeats 4000000 in
theorem leftP2c (a b : Sp) (ha : a.Wf) (hb : b.Wf) (h0 : b.lo ≠ 0 ∨ b.hi ≠ 0) (hc : b.hi.natAbs ≤ b.lo.natAbs) (g1 : 0 ≤ a.lo) (g2 : 0 < a.hi) (w : World) : Calls Tryd.prog 87 #[.agg #[.int .i64 a.lo, .int .i64 a.hi], .agg #[.int .i64 b.lo, .int .i64 b.hi]] w fun e w' => e = .returned (.agg #[.int .i64 (leftS a b).lo, .int .i64 (leftS a b).hi]) ∧ Below w.heap.size w w' := by
  have hM : leftM b = (b.lo.natAbs : Int) - 1 := by unfold leftM; split <;> omega
  obtain ⟨m0, m1⟩ := leftM_in hb h0
  have hl : In64 b.lo := hb.1
  have hh : In64 b.hi := hb.2
  have e1 : IntKind.u64.wrap ((b.lo.natAbs : Int) - 1) = leftM b := by rw [← hM]; exact IntWalk.u64_in _ (by omega)
  have e2 : IntKind.i64.wrap (leftM b) = leftM b := IntWalk.i64_in _ (by omega)
  have HM := Lib.hid hM
  clear hM h0
  go_enter Tryd.func87, Tryd.ntmps87
  go_wp2
  go_region_held3 (fun w' => w'.cell? ⟨w.heap.size, 0, none⟩ = some (.int .i64 a.lo) ∧ w'.cell? ⟨w.heap.size, 1, none⟩ = some (.int .i64 a.hi) ∧ w'.cell? ⟨w.heap.size + 1, 0, none⟩ = some (.int .i64 b.lo) ∧ w'.cell? ⟨w.heap.size + 1, 1, none⟩ = some (.int .i64 b.hi)) (go_simp) (first | (go_at_call 96; refine (distanceP _ (by assumption) _).mono ?_; rintro e w' ⟨rfl, rfl⟩))
  go_wp2
  all_goals (try simp only [Exit.inBlock, Exit.then])
  all_goals refine ret_of ?_ rfl
  all_goals simp [results, Tryd.results87, go_sem]
  all_goals refine ⟨?_, (by repeat (first | exact Below.refl _ _ | with_reducible apply Below.drew | refine Below.alloc ?_ (by simp <;> omega) _ | refine Below.setCell ?_ (by simp <;> omega) _))⟩
  all_goals go_light
  all_goals (first | (simp [leftS, Sp.mx, Sp.mn, *]; done) | (simp [leftS, Sp.mx, Sp.mn]; omega) | ((simp [leftS, Sp.mx, Sp.mn]; repeat' split) <;> (first | omega | (simp_all; done) | (simp_all; omega))))

set_option maxHeartbeats 4000000 in
theorem leftP2d (a b : Sp) (ha : a.Wf) (hb : b.Wf) (h0 : b.lo ≠ 0 ∨ b.hi ≠ 0) (hc : b.hi.natAbs ≤ b.lo.natAbs) (g1 : 0 ≤ a.lo) (g2 : a.hi ≤ 0) (w : World) : Calls Tryd.prog 87 #[.agg #[.int .i64 a.lo, .int .i64 a.hi], .agg #[.int .i64 b.lo, .int .i64 b.hi]] w fun e w' => e = .returned (.agg #[.int .i64 (leftS a b).lo, .int .i64 (leftS a b).hi]) ∧ Below w.heap.size w w' := by
  have hM : leftM b = (b.lo.natAbs : Int) - 1 := by unfold leftM; split <;> omega
  obtain ⟨m0, m1⟩ := leftM_in hb h0
  have hl : In64 b.lo := hb.1
  have hh : In64 b.hi := hb.2
  have e1 : IntKind.u64.wrap ((b.lo.natAbs : Int) - 1) = leftM b := by rw [← hM]; exact IntWalk.u64_in _ (by omega)
  have e2 : IntKind.i64.wrap (leftM b) = leftM b := IntWalk.i64_in _ (by omega)
  have HM := Lib.hid hM
  clear hM h0
  go_enter Tryd.func87, Tryd.ntmps87
  go_wp2
  go_region_held3 (fun w' => w'.cell? ⟨w.heap.size, 0, none⟩ = some (.int .i64 a.lo) ∧ w'.cell? ⟨w.heap.size, 1, none⟩ = some (.int .i64 a.hi) ∧ w'.cell? ⟨w.heap.size + 1, 0, none⟩ = some (.int .i64 b.lo) ∧ w'.cell? ⟨w.heap.size + 1, 1, none⟩ = some (.int .i64 b.hi)) (go_simp) (first | (go_at_call 96; refine (distanceP _ (by assumption) _).mono ?_; rintro e w' ⟨rfl, rfl⟩))
  go_wp2
  all_goals (try simp only [Exit.inBlock, Exit.then])
  all_goals refine ret_of ?_ rfl
  all_goals simp [results, Tryd.results87, go_sem]
  all_goals refine ⟨?_, (by repeat (first | exact Below.refl _ _ | with_reducible apply Below.drew | refine Below.alloc ?_ (by simp <;> omega) _ | refine Below.setCell ?_ (by simp <;> omega) _))⟩
  all_goals go_light
  all_goals (first | (simp [leftS, Sp.mx, Sp.mn, *]; done) | (simp [leftS, Sp.mx, Sp.mn]; omega) | ((simp [leftS, Sp.mx, Sp.mn]; repeat' split) <;> (first | omega | (simp_all; done) | (simp_all; omega))))

theorem leftP (a b : Sp) (ha : a.Wf) (hb : b.Wf) (h0 : b.lo ≠ 0 ∨ b.hi ≠ 0) (w : World) : Calls Tryd.prog 87 #[.agg #[.int .i64 a.lo, .int .i64 a.hi], .agg #[.int .i64 b.lo, .int .i64 b.hi]] w fun e w' => e = .returned (.agg #[.int .i64 (leftS a b).lo, .int .i64 (leftS a b).hi]) ∧ Below w.heap.size w w' := by
  by_cases hc : b.lo.natAbs < b.hi.natAbs <;> by_cases g1 : a.lo < 0 <;> by_cases g2 : 0 < a.hi
  · exact leftP1a a b ha hb h0 hc g1 g2 w
  · exact leftP1b a b ha hb h0 hc g1 (by omega) w
  · exact leftP1c a b ha hb h0 hc (by omega) g2 w
  · exact leftP1d a b ha hb h0 hc (by omega) (by omega) w
  · exact leftP2a a b ha hb h0 (by omega) g1 g2 w
  · exact leftP2b a b ha hb h0 (by omega) g1 (by omega) w
  · exact leftP2c a b ha hb h0 (by omega) (by omega) g2 w
  · exact leftP2d a b ha hb h0 (by omega) (by omega) (by omega) w

end Go.Proofs.YtddobhneplfddaaDoor


/-
  Layer 8 (span): the walk of divided: a loop over four divisors, which appends the quotients to a row of its own.
-/
namespace Go.Proofs.YtddobhneplfddaaDoor
open Go.RowKit
set_option linter.unusedSimpArgs false
set_option linter.unusedVariables false
attribute [local go_sem ↓] Go.wp_at_zero Go.wp_at_succ
end Go.Proofs.YtddobhneplfddaaDoor
