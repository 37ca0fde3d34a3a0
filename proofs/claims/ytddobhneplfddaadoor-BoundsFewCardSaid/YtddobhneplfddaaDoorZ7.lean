/-
  Layer 16 (bounds): SpanB, DivP, DoPa.
-/
import Derived.Test.YtddobhneplfddaaDoorProg
import Derived.Test.YtddobhneplfddaaDoorRows
import Derived.Test.YtddobhneplfddaaDoorZ0
import Derived.Test.YtddobhneplfddaaDoorZ1
import Derived.BigRegion
import Derived.Carry
import Derived.Deep.AppendLies
import Derived.Deep.DeepHandedRow
import Derived.Deep.DrawnRows
import Derived.Deep.Light
import Derived.Deep.RegionHeld3
import Derived.JoinedCond
import Derived.Lib.Hide
import Derived.Maps.AppendAt
import Derived.OpenShut
import Derived.OpenVars
import Derived.Outline
import Derived.ProofKit
import Derived.Shelf.Bits.Mul64
import Derived.WalkKit
import Derived.WalkLawsBesides
import Derived.WalkSpells
namespace Go.Proofs.YtddobhneplfddaaDoor
set_option maxRecDepth 100000
open Go.RowKit
set_option linter.unusedSimpArgs false
set_option linter.unusedVariables false
attribute [local go_sem ↓] Go.wp_at_zero Go.wp_at_succ

set_option maxHeartbeats 4000000 in
theorem exactP (a b : Int) (ha : In64 a) (hb : In64 b) (w : World) : Calls Tryd.prog 83 #[.int .i64 a, .int .i64 b] w fun e w' => e = .returned (.tuple #[.int .i64 (wrap64 (a + b)), .bool (Sp.sumOk a b)]) ∧ w = w' := by
  go_enter Tryd.func83, Tryd.ntmps83
  go_wp2
  all_goals go_ret2
  all_goals refine ⟨?_, rfl⟩
  all_goals go_light
  all_goals exact congrArg (fun t => Ending.returned (.tuple #[.int .i64 (wrap64 (a + b)), .bool t])) (exact_ok ha hb)

set_option maxHeartbeats 4000000 in
theorem lessP (a b : Int) (ha : In64 a) (hb : In64 b) (w : World) : Calls Tryd.prog 85 #[.int .i64 a, .int .i64 b] w fun e w' => e = .returned (.tuple #[.int .i64 (wrap64 (a - b)), .bool (Sp.lessOk a b)]) ∧ w = w' := by
  go_enter Tryd.func85, Tryd.ntmps85
  go_wp2
  all_goals go_ret2
  all_goals refine ⟨?_, rfl⟩
  all_goals go_light
  all_goals exact congrArg (fun t => Ending.returned (.tuple #[.int .i64 (wrap64 (a - b)), .bool t])) (less_ok ha hb)

set_option maxHeartbeats 4000000 in
theorem distancePN (a : Int) (ha : In64 a) (h : a < 0) (w : World) : Calls Tryd.prog 96 #[.int .i64 a] w fun e w' => e = .returned (.int .u64 (a.natAbs : Int)) ∧ w = w' := by
  go_enter Tryd.func96, Tryd.ntmps96
  go_wp2
  all_goals go_ret
  all_goals refine ⟨?_, rfl⟩
  all_goals go_light
  all_goals exact congrArg (fun t => Ending.returned (.int .u64 t)) (dist_neg ha h)

set_option maxHeartbeats 4000000 in
theorem distancePP (a : Int) (ha : In64 a) (h : 0 ≤ a) (w : World) : Calls Tryd.prog 96 #[.int .i64 a] w fun e w' => e = .returned (.int .u64 (a.natAbs : Int)) ∧ w = w' := by
  go_enter Tryd.func96, Tryd.ntmps96
  go_wp2
  all_goals go_ret
  all_goals refine ⟨?_, rfl⟩
  all_goals go_light
  all_goals exact congrArg (fun t => Ending.returned (.int .u64 t)) (dist_pos ha h)

theorem distanceP (a : Int) (ha : In64 a) (w : World) : Calls Tryd.prog 96 #[.int .i64 a] w fun e w' => e = .returned (.int .u64 (a.natAbs : Int)) ∧ w = w' := by
  by_cases h : a < 0
  · exact distancePN a ha h w
  · exact distancePP a ha (by omega) w

theorem mulC (a b : Int) (ha : In64 a) (hb : In64 b) (w : World) : Calls Tryd.prog 95 #[.int .u64 (a.natAbs : Int), .int .u64 (b.natAbs : Int)] w fun e w' => e = .returned (.tuple #[.int .u64 (mulHi a b), .int .u64 (mulLo a b)]) ∧ w = w' :=
  (bits_Mul64 a.natAbs b.natAbs (by obtain ⟨_, _⟩ := ha; omega) (by obtain ⟨_, _⟩ := hb; omega) w).mono fun e w' ⟨he, hw⟩ => ⟨he, hw.symm⟩

set_option maxHeartbeats 4000000 in
theorem timesP1y (a b : Int) (ha : In64 a) (hb : In64 b) (h1 : a < 0) (h2 : 0 ≤ b) (hz : (mulHi a b == 0) = true) (w : World) : Calls Tryd.prog 86 #[.int .i64 a, .int .i64 b] w fun e w' => e = .returned (.tuple #[.int .i64 (wrap64 (-(wrap64 (mulLo a b)))), .bool (decide (mulLo a b ≤ 9223372036854775808))]) ∧ w = w' := by
  have d1 : decide (a < 0) = true := by simp; omega
  have d2 : decide (b < 0) = false := by simp; omega
  go_enter Tryd.func86, Tryd.ntmps86
  go_wp2_with (first
    | (go_at_call 96; refine (distanceP _ (by assumption) _).mono ?_; rintro e w' ⟨rfl, rfl⟩)
    | (go_at_call 95; refine (mulC a b ha hb _).mono ?_; rintro e w' ⟨rfl, rfl⟩))
  all_goals go_ret2
  all_goals refine ⟨?_, rfl⟩
  all_goals go_light
  all_goals rfl

set_option maxHeartbeats 4000000 in
theorem timesP1n (a b : Int) (ha : In64 a) (hb : In64 b) (h1 : a < 0) (h2 : 0 ≤ b) (hz : (mulHi a b == 0) = false) (w : World) : Calls Tryd.prog 86 #[.int .i64 a, .int .i64 b] w fun e w' => e = .returned (.tuple #[.int .i64 (wrap64 (-(wrap64 (mulLo a b)))), .bool (false)]) ∧ w = w' := by
  have d1 : decide (a < 0) = true := by simp; omega
  have d2 : decide (b < 0) = false := by simp; omega
  go_enter Tryd.func86, Tryd.ntmps86
  go_wp2_with (first
    | (go_at_call 96; refine (distanceP _ (by assumption) _).mono ?_; rintro e w' ⟨rfl, rfl⟩)
    | (go_at_call 95; refine (mulC a b ha hb _).mono ?_; rintro e w' ⟨rfl, rfl⟩))
  all_goals go_ret2
  all_goals refine ⟨?_, rfl⟩
  all_goals go_light
  all_goals rfl

theorem timesP1 (a b : Int) (ha : In64 a) (hb : In64 b) (h1 : a < 0) (h2 : 0 ≤ b) (w : World) : Calls Tryd.prog 86 #[.int .i64 a, .int .i64 b] w fun e w' => e = .returned (.tuple #[.int .i64 (wrap64 (a * b)), .bool (mulOk a b)]) ∧ w = w' := by
  obtain ⟨e1, e2⟩ := times_neg (.inl ⟨h1, h2⟩)
  rw [← e1, ← e2]
  cases hz : (mulHi a b == 0)
  · have : decide (mulHi a b = 0) = false := by simpa using hz
    rw [this, Bool.false_and]
    exact timesP1n a b ha hb h1 h2 hz w
  · have : decide (mulHi a b = 0) = true := by simpa using hz
    rw [this, Bool.true_and]
    exact timesP1y a b ha hb h1 h2 hz w

set_option maxHeartbeats 4000000 in
theorem timesP2y (a b : Int) (ha : In64 a) (hb : In64 b) (h1 : 0 ≤ a) (h2 : b < 0) (hz : (mulHi a b == 0) = true) (w : World) : Calls Tryd.prog 86 #[.int .i64 a, .int .i64 b] w fun e w' => e = .returned (.tuple #[.int .i64 (wrap64 (-(wrap64 (mulLo a b)))), .bool (decide (mulLo a b ≤ 9223372036854775808))]) ∧ w = w' := by
  have d1 : decide (a < 0) = false := by simp; omega
  have d2 : decide (b < 0) = true := by simp; omega
  go_enter Tryd.func86, Tryd.ntmps86
  go_wp2_with (first
    | (go_at_call 96; refine (distanceP _ (by assumption) _).mono ?_; rintro e w' ⟨rfl, rfl⟩)
    | (go_at_call 95; refine (mulC a b ha hb _).mono ?_; rintro e w' ⟨rfl, rfl⟩))
  all_goals go_ret2
  all_goals refine ⟨?_, rfl⟩
  all_goals go_light
  all_goals rfl

set_option maxHeartbeats 4000000 in
theorem timesP2n (a b : Int) (ha : In64 a) (hb : In64 b) (h1 : 0 ≤ a) (h2 : b < 0) (hz : (mulHi a b == 0) = false) (w : World) : Calls Tryd.prog 86 #[.int .i64 a, .int .i64 b] w fun e w' => e = .returned (.tuple #[.int .i64 (wrap64 (-(wrap64 (mulLo a b)))), .bool (false)]) ∧ w = w' := by
  have d1 : decide (a < 0) = false := by simp; omega
  have d2 : decide (b < 0) = true := by simp; omega
  go_enter Tryd.func86, Tryd.ntmps86
  go_wp2_with (first
    | (go_at_call 96; refine (distanceP _ (by assumption) _).mono ?_; rintro e w' ⟨rfl, rfl⟩)
    | (go_at_call 95; refine (mulC a b ha hb _).mono ?_; rintro e w' ⟨rfl, rfl⟩))
  all_goals go_ret2
  all_goals refine ⟨?_, rfl⟩
  all_goals go_light
  all_goals rfl

theorem timesP2 (a b : Int) (ha : In64 a) (hb : In64 b) (h1 : 0 ≤ a) (h2 : b < 0) (w : World) : Calls Tryd.prog 86 #[.int .i64 a, .int .i64 b] w fun e w' => e = .returned (.tuple #[.int .i64 (wrap64 (a * b)), .bool (mulOk a b)]) ∧ w = w' := by
  obtain ⟨e1, e2⟩ := times_neg (.inr ⟨h1, h2⟩)
  rw [← e1, ← e2]
  cases hz : (mulHi a b == 0)
  · have : decide (mulHi a b = 0) = false := by simpa using hz
    rw [this, Bool.false_and]
    exact timesP2n a b ha hb h1 h2 hz w
  · have : decide (mulHi a b = 0) = true := by simpa using hz
    rw [this, Bool.true_and]
    exact timesP2y a b ha hb h1 h2 hz w

set_option maxHeartbeats 4000000 in
theorem timesP3y (a b : Int) (ha : In64 a) (hb : In64 b) (h1 : a < 0) (h2 : b < 0) (hz : (mulHi a b == 0) = true) (w : World) : Calls Tryd.prog 86 #[.int .i64 a, .int .i64 b] w fun e w' => e = .returned (.tuple #[.int .i64 (wrap64 (mulLo a b)), .bool (decide (mulLo a b ≤ 9223372036854775807))]) ∧ w = w' := by
  have d1 : decide (a < 0) = true := by simp; omega
  have d2 : decide (b < 0) = true := by simp; omega
  go_enter Tryd.func86, Tryd.ntmps86
  go_wp2_with (first
    | (go_at_call 96; refine (distanceP _ (by assumption) _).mono ?_; rintro e w' ⟨rfl, rfl⟩)
    | (go_at_call 95; refine (mulC a b ha hb _).mono ?_; rintro e w' ⟨rfl, rfl⟩))
  all_goals go_ret2
  all_goals refine ⟨?_, rfl⟩
  all_goals go_light
  all_goals rfl

set_option maxHeartbeats 4000000 in
theorem timesP3n (a b : Int) (ha : In64 a) (hb : In64 b) (h1 : a < 0) (h2 : b < 0) (hz : (mulHi a b == 0) = false) (w : World) : Calls Tryd.prog 86 #[.int .i64 a, .int .i64 b] w fun e w' => e = .returned (.tuple #[.int .i64 (wrap64 (mulLo a b)), .bool (false)]) ∧ w = w' := by
  have d1 : decide (a < 0) = true := by simp; omega
  have d2 : decide (b < 0) = true := by simp; omega
  go_enter Tryd.func86, Tryd.ntmps86
  go_wp2_with (first
    | (go_at_call 96; refine (distanceP _ (by assumption) _).mono ?_; rintro e w' ⟨rfl, rfl⟩)
    | (go_at_call 95; refine (mulC a b ha hb _).mono ?_; rintro e w' ⟨rfl, rfl⟩))
  all_goals go_ret2
  all_goals refine ⟨?_, rfl⟩
  all_goals go_light
  all_goals rfl

theorem timesP3 (a b : Int) (ha : In64 a) (hb : In64 b) (h1 : a < 0) (h2 : b < 0) (w : World) : Calls Tryd.prog 86 #[.int .i64 a, .int .i64 b] w fun e w' => e = .returned (.tuple #[.int .i64 (wrap64 (a * b)), .bool (mulOk a b)]) ∧ w = w' := by
  obtain ⟨e1, e2⟩ := times_pos (.inl ⟨h1, h2⟩)
  rw [← e1, ← e2]
  cases hz : (mulHi a b == 0)
  · have : decide (mulHi a b = 0) = false := by simpa using hz
    rw [this, Bool.false_and]
    exact timesP3n a b ha hb h1 h2 hz w
  · have : decide (mulHi a b = 0) = true := by simpa using hz
    rw [this, Bool.true_and]
    exact timesP3y a b ha hb h1 h2 hz w

set_option maxHeartbeats 4000000 in
theorem timesP4y (a b : Int) (ha : In64 a) (hb : In64 b) (h1 : 0 ≤ a) (h2 : 0 ≤ b) (hz : (mulHi a b == 0) = true) (w : World) : Calls Tryd.prog 86 #[.int .i64 a, .int .i64 b] w fun e w' => e = .returned (.tuple #[.int .i64 (wrap64 (mulLo a b)), .bool (decide (mulLo a b ≤ 9223372036854775807))]) ∧ w = w' := by
  have d1 : decide (a < 0) = false := by simp; omega
  have d2 : decide (b < 0) = false := by simp; omega
  go_enter Tryd.func86, Tryd.ntmps86
  go_wp2_with (first
    | (go_at_call 96; refine (distanceP _ (by assumption) _).mono ?_; rintro e w' ⟨rfl, rfl⟩)
    | (go_at_call 95; refine (mulC a b ha hb _).mono ?_; rintro e w' ⟨rfl, rfl⟩))
  all_goals go_ret2
  all_goals refine ⟨?_, rfl⟩
  all_goals go_light
  all_goals rfl

set_option maxHeartbeats 4000000 in
theorem timesP4n (a b : Int) (ha : In64 a) (hb : In64 b) (h1 : 0 ≤ a) (h2 : 0 ≤ b) (hz : (mulHi a b == 0) = false) (w : World) : Calls Tryd.prog 86 #[.int .i64 a, .int .i64 b] w fun e w' => e = .returned (.tuple #[.int .i64 (wrap64 (mulLo a b)), .bool (false)]) ∧ w = w' := by
  have d1 : decide (a < 0) = false := by simp; omega
  have d2 : decide (b < 0) = false := by simp; omega
  go_enter Tryd.func86, Tryd.ntmps86
  go_wp2_with (first
    | (go_at_call 96; refine (distanceP _ (by assumption) _).mono ?_; rintro e w' ⟨rfl, rfl⟩)
    | (go_at_call 95; refine (mulC a b ha hb _).mono ?_; rintro e w' ⟨rfl, rfl⟩))
  all_goals go_ret2
  all_goals refine ⟨?_, rfl⟩
  all_goals go_light
  all_goals rfl

theorem timesP4 (a b : Int) (ha : In64 a) (hb : In64 b) (h1 : 0 ≤ a) (h2 : 0 ≤ b) (w : World) : Calls Tryd.prog 86 #[.int .i64 a, .int .i64 b] w fun e w' => e = .returned (.tuple #[.int .i64 (wrap64 (a * b)), .bool (mulOk a b)]) ∧ w = w' := by
  obtain ⟨e1, e2⟩ := times_pos (.inr ⟨h1, h2⟩)
  rw [← e1, ← e2]
  cases hz : (mulHi a b == 0)
  · have : decide (mulHi a b = 0) = false := by simpa using hz
    rw [this, Bool.false_and]
    exact timesP4n a b ha hb h1 h2 hz w
  · have : decide (mulHi a b = 0) = true := by simpa using hz
    rw [this, Bool.true_and]
    exact timesP4y a b ha hb h1 h2 hz w

theorem timesP (a b : Int) (ha : In64 a) (hb : In64 b) (w : World) : Calls Tryd.prog 86 #[.int .i64 a, .int .i64 b] w fun e w' => e = .returned (.tuple #[.int .i64 (wrap64 (a * b)), .bool (mulOk a b)]) ∧ w = w' := by
  by_cases h1 : a < 0 <;> by_cases h2 : b < 0
  · exact timesP3 a b ha hb h1 h2 w
  · exact timesP1 a b ha hb h1 (by omega) w
  · exact timesP2 a b ha hb (by omega) h2 w
  · exact timesP4 a b ha hb (by omega) (by omega) w

end Go.Proofs.YtddobhneplfddaaDoor


/-
  Layer 8 (span): the walks of left and divided of package span.
-/
namespace Go.Proofs.YtddobhneplfddaaDoor
open Go.RowKit
set_option linter.unusedSimpArgs false
set_option linter.unusedVariables false
attribute [local go_sem ↓] Go.wp_at_zero Go.wp_at_succ

set_option maxHeartbeats 4000000 in
theorem leftP1a (a b : Sp) (ha : a.Wf) (hb : b.Wf) (h0 : b.lo ≠ 0 ∨ b.hi ≠ 0) (hc : b.lo.natAbs < b.hi.natAbs) (g1 : a.lo < 0) (g2 : 0 < a.hi) (w : World) : Calls Tryd.prog 87 #[.agg #[.int .i64 a.lo, .int .i64 a.hi], .agg #[.int .i64 b.lo, .int .i64 b.hi]] w fun e w' => e = .returned (.agg #[.int .i64 (leftS a b).lo, .int .i64 (leftS a b).hi]) ∧ Below w.heap.size w w' := by
  have hM : leftM b = (b.hi.natAbs : Int) - 1 := by unfold leftM; split <;> omega
  obtain ⟨m0, m1⟩ := leftM_in hb h0
  have hl : In64 b.lo := hb.1
  have hh : In64 b.hi := hb.2
  have e1 : IntKind.u64.wrap ((b.hi.natAbs : Int) - 1) = leftM b := by rw [← hM]; exact IntWalk.u64_in _ (by omega)
  have e2 : IntKind.i64.wrap (leftM b) = leftM b := IntWalk.i64_in _ (by omega)
  have HM := Lib.hid hM
  clear hM h0
  go_enter Tryd.func87, Tryd.ntmps87
  go_wp2
  go_region_held3 (fun w' => w'.cell? ⟨w.heap.size, 0, none⟩ = some (.int .i64 a.lo) ∧ w'.cell? ⟨w.heap.size, 1, none⟩ = some (.int .i64 a.hi) ∧ w'.cell? ⟨w.heap.size + 1, 0, none⟩ = some (.int .i64 b.lo) ∧ w'.cell? ⟨w.heap.size + 1, 1, none⟩ = some (.int .i64 b.hi)) (go_simp) (first | (go_at_call 96; refine (distanceP _ (by assumption) _).mono ?_; rintro e w' ⟨rfl, rfl⟩))
  go_wp2
  all_goals (try simp only [Exit.inBlock, Exit.then])
  all_goals refine ret_of ?_ rfl
  all_goals simp [results, Tryd.results87, go_sem]
  all_goals refine ⟨?_, (by repeat (first | exact Below.refl _ _ | with_reducible apply Below.drew | refine Below.alloc ?_ (by simp <;> omega) _ | refine Below.setCell ?_ (by simp <;> omega) _))⟩
  all_goals go_light
  all_goals (first | (simp [leftS, Sp.mx, Sp.mn, *]; done) | (simp [leftS, Sp.mx, Sp.mn]; omega) | ((simp [leftS, Sp.mx, Sp.mn]; repeat' split) <;> (first | omega | (simp_all; done) | (simp_all; omega))))

set_option maxHeartbeats 4000000 in
theorem leftP1b (a b : Sp) (ha : a.Wf) (hb : b.Wf) (h0 : b.lo ≠ 0 ∨ b.hi ≠ 0) (hc : b.lo.natAbs < b.hi.natAbs) (g1 : a.lo < 0) (g2 : a.hi ≤ 0) (w : World) : Calls Tryd.prog 87 #[.agg #[.int .i64 a.lo, .int .i64 a.hi], .agg #[.int .i64 b.lo, .int .i64 b.hi]] w fun e w' => e = .returned (.agg #[.int .i64 (leftS a b).lo, .int .i64 (leftS a b).hi]) ∧ Below w.heap.size w w' := by
  have hM : leftM b = (b.hi.natAbs : Int) - 1 := by unfold leftM; split <;> omega
  obtain ⟨m0, m1⟩ := leftM_in hb h0
  have hl : In64 b.lo := hb.1
  have hh : In64 b.hi := hb.2
  have e1 : IntKind.u64.wrap ((b.hi.natAbs : Int) - 1) = leftM b := by rw [← hM]; exact IntWalk.u64_in _ (by omega)
  have e2 : IntKind.i64.wrap (leftM b) = leftM b := IntWalk.i64_in _ (by omega)
  have HM := Lib.hid hM
  clear hM h0
  go_enter Tryd.func87, Tryd.ntmps87
  go_wp2
  go_region_held3 (fun w' => w'.cell? ⟨w.heap.size, 0, none⟩ = some (.int .i64 a.lo) ∧ w'.cell? ⟨w.heap.size, 1, none⟩ = some (.int .i64 a.hi) ∧ w'.cell? ⟨w.heap.size + 1, 0, none⟩ = some (.int .i64 b.lo) ∧ w'.cell? ⟨w.heap.size + 1, 1, none⟩ = some (.int .i64 b.hi)) (go_simp) (first | (go_at_call 96; refine (distanceP _ (by assumption) _).mono ?_; rintro e w' ⟨rfl, rfl⟩))
  go_wp2
  all_goals (try simp only [Exit.inBlock, Exit.then])
  all_goals refine ret_of ?_ rfl
  all_goals simp [results, Tryd.results87, go_sem]
  all_goals refine ⟨?_, (by repeat (first | exact Below.refl _ _ | with_reducible apply Below.drew | refine Below.alloc ?_ (by simp <;> omega) _ | refine Below.setCell ?_ (by simp <;> omega) _))⟩
  all_goals go_light
  all_goals (first | (simp [leftS, Sp.mx, Sp.mn, *]; done) | (simp [leftS, Sp.mx, Sp.mn]; omega) | ((simp [leftS, Sp.mx, Sp.mn]; repeat' split) <;> (first | omega | (simp_all; done) | (simp_all; omega))))

set_option maxHeartbeats 4000000 in
theorem leftP1c (a b : Sp) (ha : a.Wf) (hb : b.Wf) (h0 : b.lo ≠ 0 ∨ b.hi ≠ 0) (hc : b.lo.natAbs < b.hi.natAbs) (g1 : 0 ≤ a.lo) (g2 : 0 < a.hi) (w : World) : Calls Tryd.prog 87 #[.agg #[.int .i64 a.lo, .int .i64 a.hi], .agg #[.int .i64 b.lo, .int .i64 b.hi]] w fun e w' => e = .returned (.agg #[.int .i64 (leftS a b).lo, .int .i64 (leftS a b).hi]) ∧ Below w.heap.size w w' := by
  have hM : leftM b = (b.hi.natAbs : Int) - 1 := by unfold leftM; split <;> omega
  obtain ⟨m0, m1⟩ := leftM_in hb h0
  have hl : In64 b.lo := hb.1
  have hh : In64 b.hi := hb.2
  have e1 : IntKind.u64.wrap ((b.hi.natAbs : Int) - 1) = leftM b := by rw [← hM]; exact IntWalk.u64_in _ (by omega)
  have e2 : IntKind.i64.wrap (leftM b) = leftM b := IntWalk.i64_in _ (by omega)
  have HM := Lib.hid hM
  clear hM h0
  go_enter Tryd.func87, Tryd.ntmps87
  go_wp2
  go_region_held3 (fun w' => w'.cell? ⟨w.heap.size, 0, none⟩ = some (.int .i64 a.lo) ∧ w'.cell? ⟨w.heap.size, 1, none⟩ = some (.int .i64 a.hi) ∧ w'.cell? ⟨w.heap.size + 1, 0, none⟩ = some (.int .i64 b.lo) ∧ w'.cell? ⟨w.heap.size + 1, 1, none⟩ = some (.int .i64 b.hi)) (go_simp) (first | (go_at_call 96; refine (distanceP _ (by assumption) _).mono ?_; rintro e w' ⟨rfl, rfl⟩))
  go_wp2
  all_goals (try simp only [Exit.inBlock, Exit.then])
  all_goals refine ret_of ?_ rfl
  all_goals simp [results, Tryd.results87, go_sem]
  all_goals refine ⟨?_, (by repeat (first | exact Below.refl _ _ | with_reducible apply Below.drew | refine Below.alloc ?_ (by simp <;> omega) _ | refine Below.setCell ?_ (by simp <;> omega) _))⟩
  all_goals go_light
  all_goals (first | (simp [leftS, Sp.mx, Sp.mn, *]; done) | (simp [leftS, Sp.mx, Sp.mn]; omega) | ((simp [leftS, Sp.mx, Sp.mn]; repeat' split) <;> (first | omega | (simp_all; done) | (simp_all; omega))))

set_option maxHeartbeats 4000000 in
theorem leftP1d (a b : Sp) (ha : a.Wf) (hb : b.Wf) (h0 : b.lo ≠ 0 ∨ b.hi ≠ 0) (hc : b.lo.natAbs < b.hi.natAbs) (g1 : 0 ≤ a.lo) (g2 : a.hi ≤ 0) (w : World) : Calls Tryd.prog 87 #[.agg #[.int .i64 a.lo, .int .i64 a.hi], .agg #[.int .i64 b.lo, .int .i64 b.hi]] w fun e w' => e = .returned (.agg #[.int .i64 (leftS a b).lo, .int .i64 (leftS a b).hi]) ∧ Below w.heap.size w w' := by
  have hM : leftM b = (b.hi.natAbs : Int) - 1 := by unfold leftM; split <;> omega
  obtain ⟨m0, m1⟩ := leftM_in hb h0
  have hl : In64 b.lo := hb.1
  have hh : In64 b.hi := hb.2
  have e1 : IntKind.u64.wrap ((b.hi.natAbs : Int) - 1) = leftM b := by rw [← hM]; exact IntWalk.u64_in _ (by omega)
  have e2 : IntKind.i64.wrap (leftM b) = leftM b := IntWalk.i64_in _ (by omega)
  have HM := Lib.hid hM
  clear hM h0
  go_enter Tryd.func87, Tryd.ntmps87
  go_wp2
  go_region_held3 (fun w' => w'.cell? ⟨w.heap.size, 0, none⟩ = some (.int .i64 a.lo) ∧ w'.cell? ⟨w.heap.size, 1, none⟩ = some (.int .i64 a.hi) ∧ w'.cell? ⟨w.heap.size + 1, 0, none⟩ = some (.int .i64 b.lo) ∧ w'.cell? ⟨w.heap.size + 1, 1, none⟩ = some (.int .i64 b.hi)) (go_simp) (first | (go_at_call 96; refine (distanceP _ (by assumption) _).mono ?_; rintro e w' ⟨rfl, rfl⟩))
  go_wp2
  all_goals (try simp only [Exit.inBlock, Exit.then])
  all_goals refine ret_of ?_ rfl
  all_goals simp [results, Tryd.results87, go_sem]
  all_goals refine ⟨?_, (by repeat (first | exact Below.refl _ _ | with_reducible apply Below.drew | refine Below.alloc ?_ (by simp <;> omega) _ | refine Below.setCell ?_ (by simp <;> omega) _))⟩
  all_goals go_light
  all_goals (first | (simp [leftS, Sp.mx, Sp.mn, *]; done) | (simp [leftS, Sp.mx, Sp.mn]; omega) | ((simp [leftS, Sp.mx, Sp.mn]; repeat' split) <;> (first | omega | (simp_all; done) | (simp_all; omega))))

set_option maxHeartbeats 4000000 in
theorem leftP2a (a b : Sp) (ha : a.Wf) (hb : b.Wf) (h0 : b.lo ≠ 0 ∨ b.hi ≠ 0) (hc : b.hi.natAbs ≤ b.lo.natAbs) (g1 : a.lo < 0) (g2 : 0 < a.hi) (w : World) : Calls Tryd.prog 87 #[.agg #[.int .i64 a.lo, .int .i64 a.hi], .agg #[.int .i64 b.lo, .int .i64 b.hi]] w fun e w' => e = .returned (.agg #[.int .i64 (leftS a b).lo, .int .i64 (leftS a b).hi]) ∧ Below w.heap.size w w' := by
  have hM : leftM b = (b.lo.natAbs : Int) - 1 := by unfold leftM; split <;> omega
  obtain ⟨m0, m1⟩ := leftM_in hb h0
  have hl : In64 b.lo := hb.1
  have hh : In64 b.hi := hb.2
  have e1 : IntKind.u64.wrap ((b.lo.natAbs : Int) - 1) = leftM b := by rw [← hM]; exact IntWalk.u64_in _ (by omega)
  have e2 : IntKind.i64.wrap (leftM b) = leftM b := IntWalk.i64_in _ (by omega)
  have HM := Lib.hid hM
  clear hM h0
  go_enter Tryd.func87, Tryd.ntmps87
  go_wp2
  go_region_held3 (fun w' => w'.cell? ⟨w.heap.size, 0, none⟩ = some (.int .i64 a.lo) ∧ w'.cell? ⟨w.heap.size, 1, none⟩ = some (.int .i64 a.hi) ∧ w'.cell? ⟨w.heap.size + 1, 0, none⟩ = some (.int .i64 b.lo) ∧ w'.cell? ⟨w.heap.size + 1, 1, none⟩ = some (.int .i64 b.hi)) (go_simp) (first | (go_at_call 96; refine (distanceP _ (by assumption) _).mono ?_; rintro e w' ⟨rfl, rfl⟩))
  go_wp2
  all_goals (try simp only [Exit.inBlock, Exit.then])
  all_goals refine ret_of ?_ rfl
  all_goals simp [results, Tryd.results87, go_sem]
  all_goals refine ⟨?_, (by repeat (first | exact Below.refl _ _ | with_reducible apply Below.drew | refine Below.alloc ?_ (by simp <;> omega) _ | refine Below.setCell ?_ (by simp <;> omega) _))⟩
  all_goals go_light
  all_goals (first | (simp [leftS, Sp.mx, Sp.mn, *]; done) | (simp [leftS, Sp.mx, Sp.mn]; omega) | ((simp [leftS, Sp.mx, Sp.mn]; repeat' split) <;> (first | omega | (simp_all; done) | (simp_all; omega))))

set_option maxHeartbeats 4000000 in
theorem leftP2b (a b : Sp) (ha : a.Wf) (hb : b.Wf) (h0 : b.lo ≠ 0 ∨ b.hi ≠ 0) (hc : b.hi.natAbs ≤ b.lo.natAbs) (g1 : a.lo < 0) (g2 : a.hi ≤ 0) (w : World) : Calls Tryd.prog 87 #[.agg #[.int .i64 a.lo, .int .i64 a.hi], .agg #[.int .i64 b.lo, .int .i64 b.hi]] w fun e w' => e = .returned (.agg #[.int .i64 (leftS a b).lo, .int .i64 (leftS a b).hi]) ∧ Below w.heap.size w w' := by
  have hM : leftM b = (b.lo.natAbs : Int) - 1 := by unfold leftM; split <;> omega
  obtain ⟨m0, m1⟩ := leftM_in hb h0
  have hl : In64 b.lo := hb.1
  have hh : In64 b.hi := hb.2
  have e1 : IntKind.u64.wrap ((b.lo.natAbs : Int) - 1) = leftM b := by rw [← hM]; exact IntWalk.u64_in _ (by omega)
  have e2 : IntKind.i64.wrap (leftM b) = leftM b := IntWalk.i64_in _ (by omega)
  have HM := Lib.hid hM
  clear hM h0
  go_enter Tryd.func87, Tryd.ntmps87
  go_wp2
  go_region_held3 (fun w' => w'.cell? ⟨w.heap.size, 0, none⟩ = some (.int .i64 a.lo) ∧ w'.cell? ⟨w.heap.size, 1, none⟩ = some (.int .i64 a.hi) ∧ w'.cell? ⟨w.heap.size + 1, 0, none⟩ = some (.int .i64 b.lo) ∧ w'.cell? ⟨w.heap.size + 1, 1, none⟩ = some (.int .i64 b.hi)) (go_simp) (first | (go_at_call 96; refine (distanceP _ (by assumption) _).mono ?_; rintro e w' ⟨rfl, rfl⟩))
  go_wp2
  all_goals (try simp only [Exit.inBlock, Exit.then])
  all_goals refine ret_of ?_ rfl
  all_goals simp [results, Tryd.results87, go_sem]
  all_goals refine ⟨?_, (by repeat (first | exact Below.refl _ _ | with_reducible apply Below.drew | refine Below.alloc ?_ (by simp <;> omega) _ | refine Below.setCell ?_ (by simp <;> omega) _))⟩
  all_goals go_light
  all_goals (first | (simp [leftS, Sp.mx, Sp.mn, *]; done) | (simp [leftS, Sp.mx, Sp.mn]; omega) | ((simp [leftS, Sp.mx, Sp.mn]; repeat' split) <;> (first | omega | (simp_all; done) | (simp_all; omega))))

set_option maxHeartbeats 4000000 in
theorem leftP2c (a b : Sp) (ha : a.Wf) (hb : b.Wf) (h0 : b.lo ≠ 0 ∨ b.hi ≠ 0) (hc : b.hi.natAbs ≤ b.lo.natAbs) (g1 : 0 ≤ a.lo) (g2 : 0 < a.hi) (w : World) : Calls Tryd.prog 87 #[.agg #[.int .i64 a.lo, .int .i64 a.hi], .agg #[.int .i64 b.lo, .int .i64 b.hi]] w fun e w' => e = .returned (.agg #[.int .i64 (leftS a b).lo, .int .i64 (leftS a b).hi]) ∧ Below w.heap.size w w' := by
  have hM : leftM b = (b.lo.natAbs : Int) - 1 := by unfold leftM; split <;> omega
  obtain ⟨m0, m1⟩ := leftM_in hb h0
  have hl : In64 b.lo := hb.1
  have hh : In64 b.hi := hb.2
  have e1 : IntKind.u64.wrap ((b.lo.natAbs : Int) - 1) = leftM b := by rw [← hM]; exact IntWalk.u64_in _ (by omega)
  have e2 : IntKind.i64.wrap (leftM b) = leftM b := IntWalk.i64_in _ (by omega)
  have HM := Lib.hid hM
  clear hM h0
  go_enter Tryd.func87, Tryd.ntmps87
  go_wp2
  go_region_held3 (fun w' => w'.cell? ⟨w.heap.size, 0, none⟩ = some (.int .i64 a.lo) ∧ w'.cell? ⟨w.heap.size, 1, none⟩ = some (.int .i64 a.hi) ∧ w'.cell? ⟨w.heap.size + 1, 0, none⟩ = some (.int .i64 b.lo) ∧ w'.cell? ⟨w.heap.size + 1, 1, none⟩ = some (.int .i64 b.hi)) (go_simp) (first | (go_at_call 96; refine (distanceP _ (by assumption) _).mono ?_; rintro e w' ⟨rfl, rfl⟩))
  go_wp2
  all_goals (try simp only [Exit.inBlock, Exit.then])
  all_goals refine ret_of ?_ rfl
  all_goals simp [results, Tryd.results87, go_sem]
  all_goals refine ⟨?_, (by repeat (first | exact Below.refl _ _ | with_reducible apply Below.drew | refine Below.alloc ?_ (by simp <;> omega) _ | refine Below.setCell ?_ (by simp <;> omega) _))⟩
  all_goals go_light
  all_goals (first | (simp [leftS, Sp.mx, Sp.mn, *]; done) | (simp [leftS, Sp.mx, Sp.mn]; omega) | ((simp [leftS, Sp.mx, Sp.mn]; repeat' split) <;> (first | omega | (simp_all; done) | (simp_all; omega))))

set_option maxHeartbeats 4000000 in
theorem leftP2d (a b : Sp) (ha : a.Wf) (hb : b.Wf) (h0 : b.lo ≠ 0 ∨ b.hi ≠ 0) (hc : b.hi.natAbs ≤ b.lo.natAbs) (g1 : 0 ≤ a.lo) (g2 : a.hi ≤ 0) (w : World) : Calls Tryd.prog 87 #[.agg #[.int .i64 a.lo, .int .i64 a.hi], .agg #[.int .i64 b.lo, .int .i64 b.hi]] w fun e w' => e = .returned (.agg #[.int .i64 (leftS a b).lo, .int .i64 (leftS a b).hi]) ∧ Below w.heap.size w w' := by
  have hM : leftM b = (b.lo.natAbs : Int) - 1 := by unfold leftM; split <;> omega
  obtain ⟨m0, m1⟩ := leftM_in hb h0
  have hl : In64 b.lo := hb.1
  have hh : In64 b.hi := hb.2
  have e1 : IntKind.u64.wrap ((b.lo.natAbs : Int) - 1) = leftM b := by rw [← hM]; exact IntWalk.u64_in _ (by omega)
  have e2 : IntKind.i64.wrap (leftM b) = leftM b := IntWalk.i64_in _ (by omega)
  have HM := Lib.hid hM
  clear hM h0
  go_enter Tryd.func87, Tryd.ntmps87
  go_wp2
  go_region_held3 (fun w' => w'.cell? ⟨w.heap.size, 0, none⟩ = some (.int .i64 a.lo) ∧ w'.cell? ⟨w.heap.size, 1, none⟩ = some (.int .i64 a.hi) ∧ w'.cell? ⟨w.heap.size + 1, 0, none⟩ = some (.int .i64 b.lo) ∧ w'.cell? ⟨w.heap.size + 1, 1, none⟩ = some (.int .i64 b.hi)) (go_simp) (first | (go_at_call 96; refine (distanceP _ (by assumption) _).mono ?_; rintro e w' ⟨rfl, rfl⟩))
  go_wp2
  all_goals (try simp only [Exit.inBlock, Exit.then])
  all_goals refine ret_of ?_ rfl
  all_goals simp [results, Tryd.results87, go_sem]
  all_goals refine ⟨?_, (by repeat (first | exact Below.refl _ _ | with_reducible apply Below.drew | refine Below.alloc ?_ (by simp <;> omega) _ | refine Below.setCell ?_ (by simp <;> omega) _))⟩
  all_goals go_light
  all_goals (first | (simp [leftS, Sp.mx, Sp.mn, *]; done) | (simp [leftS, Sp.mx, Sp.mn]; omega) | ((simp [leftS, Sp.mx, Sp.mn]; repeat' split) <;> (first | omega | (simp_all; done) | (simp_all; omega))))

theorem leftP (a b : Sp) (ha : a.Wf) (hb : b.Wf) (h0 : b.lo ≠ 0 ∨ b.hi ≠ 0) (w : World) : Calls Tryd.prog 87 #[.agg #[.int .i64 a.lo, .int .i64 a.hi], .agg #[.int .i64 b.lo, .int .i64 b.hi]] w fun e w' => e = .returned (.agg #[.int .i64 (leftS a b).lo, .int .i64 (leftS a b).hi]) ∧ Below w.heap.size w w' := by
  by_cases hc : b.lo.natAbs < b.hi.natAbs <;> by_cases g1 : a.lo < 0 <;> by_cases g2 : 0 < a.hi
  · exact leftP1a a b ha hb h0 hc g1 g2 w
  · exact leftP1b a b ha hb h0 hc g1 (by omega) w
  · exact leftP1c a b ha hb h0 hc (by omega) g2 w
  · exact leftP1d a b ha hb h0 hc (by omega) (by omega) w
  · exact leftP2a a b ha hb h0 (by omega) g1 g2 w
  · exact leftP2b a b ha hb h0 (by omega) g1 (by omega) w
  · exact leftP2c a b ha hb h0 (by omega) (by omega) g2 w
  · exact leftP2d a b ha hb h0 (by omega) (by omega) (by omega) w

end Go.Proofs.YtddobhneplfddaaDoor


/-
  Layer 8 (span): the walk of divided: a loop over four divisors, which appends the quotients to a row of its own.
-/
namespace Go.Proofs.YtddobhneplfddaaDoor
open Go.RowKit
set_option linter.unusedSimpArgs false
set_option linter.unusedVariables false
attribute [local go_sem ↓] Go.wp_at_zero Go.wp_at_succ
end Go.Proofs.YtddobhneplfddaaDoor

namespace Go.Proofs.YtddobhneplfddaaDoor
set_option maxRecDepth 100000
open Go.RowKit
set_option linter.unusedSimpArgs false
set_option linter.unusedVariables false
attribute [local go_sem ↓] Go.wp_at_zero Go.wp_at_succ
theorem infoInt : (Tryd.prog.info? 2).map (fun i => (i.zero, i.size, i.bytes)) = some (some (.int .i64 0), 1, 8) := by kernel_rfl
theorem grown_of_below {w w' : World} (h : Below w.heap.size w w') (row : Option Nat) : w.grownBy w' row := ⟨h.os, h.tape, h.output, h.size, fun i hi _ => h.block i hi⟩

/-- What lies in memory while the quotients are gathered: the two spans, the result's place, the row of the quotients. -/
structure DivMem (w : World) (a b : Sp) (v : Value) (L : List Int) (wr : World) : Prop where
  below : Below w.heap.size w wr
  pa : Whl wr w.heap.size 34 #[.int .i64 a.lo, .int .i64 a.hi]
  pb : Whl wr (w.heap.size + 1) 34 #[.int .i64 b.lo, .int .i64 b.hi]
  po : Whl wr (w.heap.size + 1 + 1) 34 #[.int .i64 0, .int .i64 0]
  own : wr.ownsRow (w.heap.size + 1 + 1 + 1) 2 1 v L.length (L.map (Value.int .i64))
  size : w.heap.size + 1 + 1 + 1 ≤ wr.heap.size
theorem DivMem.go {w wr W : World} {a b : Sp} {v : Value} {L : List Int} (h : DivMem w a b v L wr) (hW : Below wr.heap.size wr W) : DivMem w a b v L W :=
  ⟨below_step h.below hW, h.pa.below' hW, h.pb.below' hW, h.po.below' hW, h.own.kept (grown_of_below hW none) (by cases v.ownBlock <;> simp), Nat.le_trans h.size hW.size⟩
theorem DivMem.app {w wr W w2 : World} {a b : Sp} {v v2 : Value} {L L2 : List Int} {n2 : Nat} {xs : List Value} (h : DivMem w a b v L wr) (hW : Below wr.heap.size wr W) (hg : W.grownBy w2 v.ownBlock)
    (hn : n2 = L2.length) (hx : xs = L2.map (Value.int .i64)) (hown : w2.ownsRow (w.heap.size + 1 + 1 + 1) 2 1 v2 n2 xs) : DivMem w a b v2 L2 w2 := by
  subst hn hx
  have hr : ∀ g, g < w.heap.size + 1 + 1 + 1 → some g ≠ v.ownBlock := fun g hlt e => by have := (h.own.lt g e.symm).1; omega
  have h' := h.go hW
  exact ⟨h'.below.grown hg h'.below.size (fun k hk => by have := (h.own.lt k hk).1; omega), h'.pa.grown hg (hr _ (by omega)), h'.pb.grown hg (hr _ (by omega)), h'.po.grown hg (hr _ (by omega)), hown, Nat.le_trans h'.size hg.size⟩

theorem DivMem.paGrow {w wr W w2 : World} {a b : Sp} {v : Value} {L : List Int} (h : DivMem w a b v L wr) (hW : Below wr.heap.size wr W) (hg : W.grownBy w2 v.ownBlock) :
    w2.cell? ⟨w.heap.size, 0, none⟩ = some (.int .i64 a.lo) ∧ w2.cell? ⟨w.heap.size, 1, none⟩ = some (.int .i64 a.hi) := by
  have hr : some w.heap.size ≠ v.ownBlock := fun e => by have := (h.own.lt _ e.symm).1; omega
  have := (h.go hW).pa.grown hg hr
  exact ⟨this.cell 0, this.cell 1⟩
/-- At the beginning: three new boxes, no quotient. -/
theorem DivMem.start (w : World) (a b : Sp) : DivMem w a b (.slice none 0 0) [] (((w.alloc (.cells #[.int .i64 a.lo, .int .i64 a.hi] 34)).alloc (.cells #[.int .i64 b.lo, .int .i64 b.hi] 34)).alloc (.cells #[.int .i64 0, .int .i64 0] 34)) :=
  ⟨by repeat (first | exact Below.refl _ _ | apply below_alloc), ((Whl.new w 34 _).alloc _).alloc _, (Whl.new1 w _ 34 _).alloc _, Whl.new2 w _ _ 34 _, World.ownsRow_nil _ _ _ _, by simp⟩

set_option maxHeartbeats 4000000 in
theorem dividedP_all (a b : Sp) (w : World) (h1 : a.lo = -9223372036854775808) (h2 : b.lo ≤ -1) (h3 : -1 ≤ b.hi) : Calls Tryd.prog 88 #[.agg #[.int .i64 a.lo, .int .i64 a.hi], .agg #[.int .i64 b.lo, .int .i64 b.hi]] w fun e w' => e = .returned (.agg #[.int .i64 Sp.all.lo, .int .i64 Sp.all.hi]) ∧ Below w.heap.size w w' := by
  have hd : (a.lo == -9223372036854775808) = true := by simp [h1]
  have H1 := Lib.hid h1; clear h1
  go_enter Tryd.func88, Tryd.ntmps88
  go_wp2_with (first
    | (go_at_call 90; go_in)
    | (go_at_call 58
       refine (allP _).mono ?_
       rintro e w1 ⟨rfl, hb1⟩
       obtain ⟨hcc1, hff1⟩ := bcell hb1
       have hs1 := hb1.size
       simp at hs1
       have l1 : w.heap.size + 1 + 1 < w1.heap.size := (by omega)))
  all_goals (try simp only [Exit.inBlock, Exit.then])
  all_goals refine ret_of ?_ rfl
  all_goals simp [results, Tryd.results88, go_sem, *]
  all_goals go_light
  repeat (first | exact Below.refl _ _ | with_reducible apply Below.drew | apply below_alloc | refine Below.setCell ?_ (by dsimp only; omega) _ | refine below_step ?_ hb1)

set_option maxHeartbeats 4000000 in
theorem dividedP_l1 (a b : Sp) (w : World) (hca : (a.lo == -9223372036854775808) = false) (h2 : b.lo ≤ b.hi) (h3 : b.lo ≠ 0 ∨ b.hi ≠ 0) : Calls Tryd.prog 88 #[.agg #[.int .i64 a.lo, .int .i64 a.hi], .agg #[.int .i64 b.lo, .int .i64 b.hi]] w fun e w' => e = .returned (.agg #[.int .i64 (hullTo (quots a b 4) (quots a b 4).length).lo, .int .i64 (hullTo (quots a b 4) (quots a b 4).length).hi]) ∧ Below w.heap.size w w' := by
  obtain ⟨i0, hi, hz0, hz1, hz2⟩ := info_parts infoInt
  have ii : ∀ k : Nat, k < 4 → ∀ w, (Instr.index 126 (.agg #[.int .i64 b.lo, .int .i64 b.hi, .int .i64 (-1), .int .i64 1]) (.int .i64 k)).run Tryd.prog w = .ok (.int .i64 (cand b k)) w := by
    intro k hk w
    have hk5 : k = 0 ∨ k = 1 ∨ k = 2 ∨ k = 3 := by omega
    rcases hk5 with rfl | rfl | rfl | rfl
    · exact (show ∀ w, (Instr.index 126 (.agg #[.int .i64 b.lo, .int .i64 b.hi, .int .i64 (-1), .int .i64 1]) (.int .i64 0)).run Tryd.prog w = .ok (.int .i64 b.lo) w from fun _ => by kernel_rfl) w
    · exact (show ∀ w, (Instr.index 126 (.agg #[.int .i64 b.lo, .int .i64 b.hi, .int .i64 (-1), .int .i64 1]) (.int .i64 1)).run Tryd.prog w = .ok (.int .i64 b.hi) w from fun _ => by kernel_rfl) w
    · exact (show ∀ w, (Instr.index 126 (.agg #[.int .i64 b.lo, .int .i64 b.hi, .int .i64 (-1), .int .i64 1]) (.int .i64 2)).run Tryd.prog w = .ok (.int .i64 (-1)) w from fun _ => by kernel_rfl) w
    · exact (show ∀ w, (Instr.index 126 (.agg #[.int .i64 b.lo, .int .i64 b.hi, .int .i64 (-1), .int .i64 1]) (.int .i64 3)).run Tryd.prog w = .ok (.int .i64 1) w from fun _ => by kernel_rfl) w
  have II := Lib.hid ii; clear ii
  have hpos := quots_some (a := a) h2 h3
  clear h2 h3
  go_enter Tryd.func88, Tryd.ntmps88
  go_wp2
  go_loopw [5, 21] (fun v i wr => ∃ k : Nat, k ≤ 4 ∧ i = .int .i64 k ∧ DivMem w a b v (quots a b k) wr) (fun _ i _ => 4 - (intOf i).toNat)
  case atStart => exact ⟨0, by omega, rfl, (by repeat (first | exact Below.refl _ _ | with_reducible apply Below.drew | apply below_alloc)), ((Whl.new w 34 _).alloc _).alloc _, (Whl.new1 w _ 34 _).alloc _, Whl.new2 w _ _ 34 _, World.ownsRow_nil _ _ _ _, by simp⟩
  case round =>
    obtain ⟨k, hk, rfl, hM⟩ := hrel
    clear hca
    have hlen := quots_len a b k
    have d1 : wr.cell? ⟨w.heap.size, 0, none⟩ = some (.int .i64 a.lo) := hM.pa.cell 0
    have d2 : wr.cell? ⟨w.heap.size, 1, none⟩ = some (.int .i64 a.hi) := hM.pa.cell 1
    have d3 : wr.cell? ⟨w.heap.size + 1, 0, none⟩ = some (.int .i64 b.lo) := hM.pb.cell 0
    have d4 : wr.cell? ⟨w.heap.size + 1, 1, none⟩ = some (.int .i64 b.hi) := hM.pb.cell 1
    have hsz := hM.size
    by_cases hlt : k < 4
    · have ik := II.out k hlt
      cases hz : (cand b k == 0)
      · have hz' : (cand b k != 0) = true := by rw [bne, hz]; rfl
        cases hh : b.has (cand b k)
        · go_wp2_with (go_at_call 90; refine (hasP b (cand b k) _).mono ?_; rintro e w3 ⟨rfl, hb3⟩; have hM3 := hM.go hb3; have d11 : w3.cell? ⟨w.heap.size, 0, none⟩ = some (.int .i64 a.lo) := hM3.pa.cell 0; have d12 : w3.cell? ⟨w.heap.size, 1, none⟩ = some (.int .i64 a.hi) := hM3.pa.cell 1; have l10 := hM3.pa.lt; have l11 := hM3.pb.lt; have hsz3 := hM3.size)
          go_roundw
          case rel =>
            go_light
            exact ⟨k + 1, by omega, by go_num, by rw [quots_no (candOk_out hh)]; exact hM3⟩
          case measure => simp [intOf]; omega
        · have hne : ¬ cand b k = 0 := by simpa using hz
          go_wp2_with (go_at_call 90; refine (hasP b (cand b k) _).mono ?_; rintro e w3 ⟨rfl, hb3⟩; have hM3 := hM.go hb3; have d11 : w3.cell? ⟨w.heap.size, 0, none⟩ = some (.int .i64 a.lo) := hM3.pa.cell 0; have d12 : w3.cell? ⟨w.heap.size, 1, none⟩ = some (.int .i64 a.hi) := hM3.pa.cell 1; have l10 := hM3.pa.lt; have l11 := hM3.pb.lt; have hsz3 := hM3.size)
          go_region_held3 (fun w' => w'.cell? ⟨w.heap.size, 0, none⟩ = some (.int .i64 a.lo) ∧ w'.cell? ⟨w.heap.size, 1, none⟩ = some (.int .i64 a.hi)) (first | exact hM.paGrow (below_alloc hb3 _).drew hgrow | (go_simp; done))
            ((refine step_append_lies _ (by rfl) _ _ _ (by rfl) (w.heap.size + 1 + 1 + 1) 2 i0 _ 1 8 Tryd.underlying22 hi hz0 hz1 hz2 rfl (by omega) _ _ _ (by rfl) ((hM3.own.alloc _).drew) ⟨w3.heap.size, 0, none⟩ 2 2 [.int .i64 (IntKind.i64.wrap (a.lo.tdiv (cand b k))), .int .i64 (IntKind.i64.wrap (a.hi.tdiv (cand b k)))] (by rfl) (by rfl) (World.news_of_block (cs := #[.int .i64 (IntKind.i64.wrap (a.lo.tdiv (cand b k))), .int .i64 (IntKind.i64.wrap (a.hi.tdiv (cand b k)))]) (t := 2) (fr := (0, 0)) (heap_alloc_new w3 _)) (by simp [Value.oneCell']) (by omega) (by unfold maxLen; omega) (by omega) (by simp; omega) (w3.heap.size + 1) (by simp) ?_; intro g cap w2 hown2 hgrow hat hlt2))
          go_wp2
          go_roundw
          case rel =>
            go_light
            refine ⟨k + 1, by omega, by go_num, hM.app (L2 := quots a b (k + 1)) ?hW hgrow ?hn ?hx hown2⟩
            case hW => exact (below_alloc hb3 _).drew
            case hn => rw [quots_yes (candOk_in hz hh)]; simp
            case hx => rw [quots_yes (candOk_in hz hh)]; simp [IntWalk.i64_left]
          case measure => simp [intOf]; omega
      · have hz' : (cand b k != 0) = false := by rw [bne, hz]; rfl
        go_wp2
        go_roundw
        case rel =>
          go_light
          exact ⟨k + 1, by omega, by go_num, by rw [quots_no (candOk_zero hz)]; exact hM⟩
        case measure => simp [intOf]; omega
    · obtain rfl : k = 4 := by omega
      obtain ⟨g, cap, hv, _, _⟩ := hM.own.form hpos
      subst hv
      have hcell : ∀ j, j < (quots a b 4).length → wr.cell? ⟨g, 0 + j, none⟩ = some (.int .i64 (nthI (quots a b 4) j)) := fun j hj => by
        rw [Nat.zero_add, hM.own.cellAt j (by omega)]
        simp [nthI, hj]
      have hlg := (hM.own.lt g rfl).2
      have HC := Lib.hid hcell; clear hcell
      have d5 : wr.cell? ⟨w.heap.size + 1 + 1, 0, none⟩ = some (.int .i64 0) := hM.po.cell 0
      have d6 : wr.cell? ⟨w.heap.size + 1 + 1, 1, none⟩ = some (.int .i64 0) := hM.po.cell 1
      have f5 := hM.po.frozen 0
      have f6 := hM.po.frozen 1
      go_wp2_with (go_at_call 84; refine (hullP g 0 cap (quots a b 4) _ hlg hpos (by omega) HC.out).mono ?_; rintro e w2 ⟨rfl, hb2⟩; have hM2 := hM.go hb2; have d7 : w2.cell? ⟨w.heap.size + 1 + 1, 0, none⟩ = some (.int .i64 0) := hM2.po.cell 0; have d8 : w2.cell? ⟨w.heap.size + 1 + 1, 1, none⟩ = some (.int .i64 0) := hM2.po.cell 1; have f7 := hM2.po.frozen 0; have f8 := hM2.po.frozen 1)
      all_goals (try simp only [Exit.inBlock, Exit.then])
      all_goals refine ret_of ?_ rfl
      all_goals simp [results, Tryd.results88, go_sem, d7, d8, f7, f8]
      exact (hM2.below.setCell (by dsimp only; omega) _).setCell (by dsimp only; omega) _

set_option maxHeartbeats 4000000 in
theorem dividedP_l2 (a b : Sp) (w : World) (hca : (a.lo == -9223372036854775808) = true) (hh1 : b.has (-1) = false) (h2 : b.lo ≤ b.hi) (h3 : b.lo ≠ 0 ∨ b.hi ≠ 0) : Calls Tryd.prog 88 #[.agg #[.int .i64 a.lo, .int .i64 a.hi], .agg #[.int .i64 b.lo, .int .i64 b.hi]] w fun e w' => e = .returned (.agg #[.int .i64 (hullTo (quots a b 4) (quots a b 4).length).lo, .int .i64 (hullTo (quots a b 4) (quots a b 4).length).hi]) ∧ Below w.heap.size w w' := by
  obtain ⟨i0, hi, hz0, hz1, hz2⟩ := info_parts infoInt
  have ii : ∀ k : Nat, k < 4 → ∀ w, (Instr.index 126 (.agg #[.int .i64 b.lo, .int .i64 b.hi, .int .i64 (-1), .int .i64 1]) (.int .i64 k)).run Tryd.prog w = .ok (.int .i64 (cand b k)) w := by
    intro k hk w
    have hk5 : k = 0 ∨ k = 1 ∨ k = 2 ∨ k = 3 := by omega
    rcases hk5 with rfl | rfl | rfl | rfl
    · exact (show ∀ w, (Instr.index 126 (.agg #[.int .i64 b.lo, .int .i64 b.hi, .int .i64 (-1), .int .i64 1]) (.int .i64 0)).run Tryd.prog w = .ok (.int .i64 b.lo) w from fun _ => by kernel_rfl) w
    · exact (show ∀ w, (Instr.index 126 (.agg #[.int .i64 b.lo, .int .i64 b.hi, .int .i64 (-1), .int .i64 1]) (.int .i64 1)).run Tryd.prog w = .ok (.int .i64 b.hi) w from fun _ => by kernel_rfl) w
    · exact (show ∀ w, (Instr.index 126 (.agg #[.int .i64 b.lo, .int .i64 b.hi, .int .i64 (-1), .int .i64 1]) (.int .i64 2)).run Tryd.prog w = .ok (.int .i64 (-1)) w from fun _ => by kernel_rfl) w
    · exact (show ∀ w, (Instr.index 126 (.agg #[.int .i64 b.lo, .int .i64 b.hi, .int .i64 (-1), .int .i64 1]) (.int .i64 3)).run Tryd.prog w = .ok (.int .i64 1) w from fun _ => by kernel_rfl) w
  have II := Lib.hid ii; clear ii
  have hpos := quots_some (a := a) h2 h3
  clear h2 h3
  go_enter Tryd.func88, Tryd.ntmps88
  go_wp2_with (go_at_call 90; refine (hasP b (-1) _).mono ?_; rintro e w4 ⟨rfl, hb4⟩; have hM4 := (DivMem.start w a b).go hb4; have q1 : w4.cell? ⟨w.heap.size + 1, 0, none⟩ = some (.int .i64 b.lo) := hM4.pb.cell 0; have q2 : w4.cell? ⟨w.heap.size + 1, 1, none⟩ = some (.int .i64 b.hi) := hM4.pb.cell 1)
  go_loopw [5, 21] (fun v i wr => ∃ k : Nat, k ≤ 4 ∧ i = .int .i64 k ∧ DivMem w a b v (quots a b k) wr) (fun _ i _ => 4 - (intOf i).toNat)
  case atStart => exact ⟨0, by omega, rfl, hM4⟩
  case round =>
    obtain ⟨k, hk, rfl, hM⟩ := hrel
    clear hca
    have hlen := quots_len a b k
    have d1 : wr.cell? ⟨w.heap.size, 0, none⟩ = some (.int .i64 a.lo) := hM.pa.cell 0
    have d2 : wr.cell? ⟨w.heap.size, 1, none⟩ = some (.int .i64 a.hi) := hM.pa.cell 1
    have d3 : wr.cell? ⟨w.heap.size + 1, 0, none⟩ = some (.int .i64 b.lo) := hM.pb.cell 0
    have d4 : wr.cell? ⟨w.heap.size + 1, 1, none⟩ = some (.int .i64 b.hi) := hM.pb.cell 1
    have hsz := hM.size
    by_cases hlt : k < 4
    · have ik := II.out k hlt
      cases hz : (cand b k == 0)
      · have hz' : (cand b k != 0) = true := by rw [bne, hz]; rfl
        cases hh : b.has (cand b k)
        · go_wp2_with (go_at_call 90; refine (hasP b (cand b k) _).mono ?_; rintro e w3 ⟨rfl, hb3⟩; have hM3 := hM.go hb3; have d11 : w3.cell? ⟨w.heap.size, 0, none⟩ = some (.int .i64 a.lo) := hM3.pa.cell 0; have d12 : w3.cell? ⟨w.heap.size, 1, none⟩ = some (.int .i64 a.hi) := hM3.pa.cell 1; have l10 := hM3.pa.lt; have l11 := hM3.pb.lt; have hsz3 := hM3.size)
          go_roundw
          case rel =>
            go_light
            exact ⟨k + 1, by omega, by go_num, by rw [quots_no (candOk_out hh)]; exact hM3⟩
          case measure => simp [intOf]; omega
        · have hne : ¬ cand b k = 0 := by simpa using hz
          go_wp2_with (go_at_call 90; refine (hasP b (cand b k) _).mono ?_; rintro e w3 ⟨rfl, hb3⟩; have hM3 := hM.go hb3; have d11 : w3.cell? ⟨w.heap.size, 0, none⟩ = some (.int .i64 a.lo) := hM3.pa.cell 0; have d12 : w3.cell? ⟨w.heap.size, 1, none⟩ = some (.int .i64 a.hi) := hM3.pa.cell 1; have l10 := hM3.pa.lt; have l11 := hM3.pb.lt; have hsz3 := hM3.size)
          go_region_held3 (fun w' => w'.cell? ⟨w.heap.size, 0, none⟩ = some (.int .i64 a.lo) ∧ w'.cell? ⟨w.heap.size, 1, none⟩ = some (.int .i64 a.hi)) (first | exact hM.paGrow (below_alloc hb3 _).drew hgrow | (go_simp; done))
            ((refine step_append_lies _ (by rfl) _ _ _ (by rfl) (w.heap.size + 1 + 1 + 1) 2 i0 _ 1 8 Tryd.underlying22 hi hz0 hz1 hz2 rfl (by omega) _ _ _ (by rfl) ((hM3.own.alloc _).drew) ⟨w3.heap.size, 0, none⟩ 2 2 [.int .i64 (IntKind.i64.wrap (a.lo.tdiv (cand b k))), .int .i64 (IntKind.i64.wrap (a.hi.tdiv (cand b k)))] (by rfl) (by rfl) (World.news_of_block (cs := #[.int .i64 (IntKind.i64.wrap (a.lo.tdiv (cand b k))), .int .i64 (IntKind.i64.wrap (a.hi.tdiv (cand b k)))]) (t := 2) (fr := (0, 0)) (heap_alloc_new w3 _)) (by simp [Value.oneCell']) (by omega) (by unfold maxLen; omega) (by omega) (by simp; omega) (w3.heap.size + 1) (by simp) ?_; intro g cap w2 hown2 hgrow hat hlt2))
          go_wp2
          go_roundw
          case rel =>
            go_light
            refine ⟨k + 1, by omega, by go_num, hM.app (L2 := quots a b (k + 1)) ?hW hgrow ?hn ?hx hown2⟩
            case hW => exact (below_alloc hb3 _).drew
            case hn => rw [quots_yes (candOk_in hz hh)]; simp
            case hx => rw [quots_yes (candOk_in hz hh)]; simp [IntWalk.i64_left]
          case measure => simp [intOf]; omega
      · have hz' : (cand b k != 0) = false := by rw [bne, hz]; rfl
        go_wp2
        go_roundw
        case rel =>
          go_light
          exact ⟨k + 1, by omega, by go_num, by rw [quots_no (candOk_zero hz)]; exact hM⟩
        case measure => simp [intOf]; omega
    · obtain rfl : k = 4 := by omega
      obtain ⟨g, cap, hv, _, _⟩ := hM.own.form hpos
      subst hv
      have hcell : ∀ j, j < (quots a b 4).length → wr.cell? ⟨g, 0 + j, none⟩ = some (.int .i64 (nthI (quots a b 4) j)) := fun j hj => by
        rw [Nat.zero_add, hM.own.cellAt j (by omega)]
        simp [nthI, hj]
      have hlg := (hM.own.lt g rfl).2
      have HC := Lib.hid hcell; clear hcell
      have d5 : wr.cell? ⟨w.heap.size + 1 + 1, 0, none⟩ = some (.int .i64 0) := hM.po.cell 0
      have d6 : wr.cell? ⟨w.heap.size + 1 + 1, 1, none⟩ = some (.int .i64 0) := hM.po.cell 1
      have f5 := hM.po.frozen 0
      have f6 := hM.po.frozen 1
      go_wp2_with (go_at_call 84; refine (hullP g 0 cap (quots a b 4) _ hlg hpos (by omega) HC.out).mono ?_; rintro e w2 ⟨rfl, hb2⟩; have hM2 := hM.go hb2; have d7 : w2.cell? ⟨w.heap.size + 1 + 1, 0, none⟩ = some (.int .i64 0) := hM2.po.cell 0; have d8 : w2.cell? ⟨w.heap.size + 1 + 1, 1, none⟩ = some (.int .i64 0) := hM2.po.cell 1; have f7 := hM2.po.frozen 0; have f8 := hM2.po.frozen 1)
      all_goals (try simp only [Exit.inBlock, Exit.then])
      all_goals refine ret_of ?_ rfl
      all_goals simp [results, Tryd.results88, go_sem, d7, d8, f7, f8]
      exact (hM2.below.setCell (by dsimp only; omega) _).setCell (by dsimp only; omega) _

set_option maxHeartbeats 4000000 in
theorem dividedP_list (a b : Sp) (w : World) (h1 : ¬ (a.lo = -9223372036854775808 ∧ b.has (-1) = true)) (h2 : b.lo ≤ b.hi) (h3 : b.lo ≠ 0 ∨ b.hi ≠ 0) : Calls Tryd.prog 88 #[.agg #[.int .i64 a.lo, .int .i64 a.hi], .agg #[.int .i64 b.lo, .int .i64 b.hi]] w fun e w' => e = .returned (.agg #[.int .i64 (hullTo (quots a b 4) (quots a b 4).length).lo, .int .i64 (hullTo (quots a b 4) (quots a b 4).length).hi]) ∧ Below w.heap.size w w' := by
  cases hca : (a.lo == -9223372036854775808)
  · exact dividedP_l1 a b w hca h2 h3
  · have hh : b.has (-1) = false := by
      cases x : b.has (-1)
      · rfl
      · exact absurd ⟨by simpa using hca, x⟩ h1
    exact dividedP_l2 a b w hca hh h2 h3
theorem dividedP (a b : Sp) (w : World) (h2 : b.lo ≤ b.hi) (h3 : b.lo ≠ 0 ∨ b.hi ≠ 0) : Calls Tryd.prog 88 #[.agg #[.int .i64 a.lo, .int .i64 a.hi], .agg #[.int .i64 b.lo, .int .i64 b.hi]] w fun e w' => e = .returned (.agg #[.int .i64 (divS a b).lo, .int .i64 (divS a b).hi]) ∧ Below w.heap.size w w' := by
  by_cases h : a.lo = -9223372036854775808 ∧ b.has (-1) = true
  · have e : divS a b = Sp.all := by simp [divS, Sp.least, h.1, h.2]
    rw [e]
    have hb : b.lo ≤ -1 ∧ -1 ≤ b.hi := by simpa [Sp.has] using h.2
    exact dividedP_all a b w h.1 hb.1 hb.2
  · have e : divS a b = hullTo (quots a b 4) (quots a b 4).length := by unfold divS Sp.least; rw [if_neg h]
    rw [e]
    exact dividedP_list a b w h h2 h3
end Go.Proofs.YtddobhneplfddaaDoor

namespace Go.Proofs.YtddobhneplfddaaDoor
set_option maxRecDepth 100000
open Go.RowKit
set_option linter.unusedSimpArgs false
set_option linter.unusedVariables false
set_option maxRecDepth 100000
attribute [local go_sem ↓] Go.wp_at_zero Go.wp_at_succ

set_option maxHeartbeats 4000000 in
theorem doAdd_p (a b : Sp) (n1 : a.lo ≤ a.hi) (n2 : b.lo ≤ b.hi) (hc : (a.lo == a.hi) = true) (hd : (b.lo == b.hi) = true) (w : World) : Calls Tryd.prog 55 #[.int .i64 3, .agg #[.int .i64 a.lo, .int .i64 a.hi], .agg #[.int .i64 b.lo, .int .i64 b.hi]] w fun e w' => e = .returned (.tuple #[.agg #[.int .i64 (Sp.mk (wrap64 (a.lo + b.lo)) (wrap64 (a.lo + b.lo))).lo, .int .i64 (Sp.mk (wrap64 (a.lo + b.lo)) (wrap64 (a.lo + b.lo))).hi], .bool true]) ∧ Below w.heap.size w w' := by
  go_enter Tryd.func55, Tryd.ntmps55
  go_wp2_with (first
  | (go_at_call 82; go_in))
  all_goals (try simp only [Exit.inBlock, Exit.then])
  all_goals refine ret_of ?_ rfl
  all_goals simp [results, Tryd.results55, go_sem, ltS, notS, *]
  all_goals go_light
  all_goals (repeat (first | exact Below.refl _ _ | with_reducible apply below_alloc | with_reducible apply Below.drew | with_reducible refine Below.setCell ?_ (by dsimp only; omega) _ | with_reducible refine below_step ?_ hb1))

set_option maxHeartbeats 4000000 in
theorem doAdd_qy (a b : Sp) (n1 : a.lo ≤ a.hi) (n2 : b.lo ≤ b.hi) (ha : a.Wf) (hb : b.Wf) (hc : (a.lo == a.hi) = true) (hd : (b.lo == b.hi) = false) (o1 : Sp.sumOk a.lo b.lo = true) (o2 : Sp.sumOk a.hi b.hi = true) (w : World) : Calls Tryd.prog 55 #[.int .i64 3, .agg #[.int .i64 a.lo, .int .i64 a.hi], .agg #[.int .i64 b.lo, .int .i64 b.hi]] w fun e w' => e = .returned (.tuple #[.agg #[.int .i64 (hullTo [wrap64 (a.lo + b.lo), wrap64 (a.hi + b.hi)] 2).lo, .int .i64 (hullTo [wrap64 (a.lo + b.lo), wrap64 (a.hi + b.hi)] 2).hi], .bool true]) ∧ Below w.heap.size w w' := by
  have hl1 : In64 a.lo := ha.1
  have hl2 : In64 a.hi := ha.2
  have hl3 : In64 b.lo := hb.1
  have hl4 : In64 b.hi := hb.2
  go_enter Tryd.func55, Tryd.ntmps55
  go_wp2_with (first
  | (go_at_call 82; go_in)
  | (
    go_at_call 83
    refine (exactP _ _ (by assumption) (by assumption) _).mono ?_
    rintro e w1 ⟨rfl, rfl⟩)
  | (
    go_at_call 84
    refine (hullP _ _ _ [wrap64 (a.lo + b.lo), wrap64 (a.hi + b.hi)] _ ?_ (Nat.succ_pos _) (by simp) ?_).mono ?_
    · simp
    · intro k hk
      obtain rfl | rfl : k = 0 ∨ k = 1 := by simp at hk; omega
      · go_simp; rfl
      · go_simp; rfl
    rintro e w1 ⟨rfl, hb1⟩
    obtain ⟨hcc1, hff1⟩ := bcell hb1
    have hs1 := hb1.size
    simp at hs1
    have l1 : w.heap.size + 1 + 1 < w1.heap.size := (by omega)
    have m1 : w.heap.size + 1 < w1.heap.size := (by omega)
    have k1 : w.heap.size < w1.heap.size := (by omega)))
  all_goals (try simp only [Exit.inBlock, Exit.then])
  all_goals refine ret_of ?_ rfl
  all_goals simp [results, Tryd.results55, go_sem, ltS, notS, *]
  all_goals go_light
  all_goals (repeat (first | exact Below.refl _ _ | with_reducible apply below_alloc | with_reducible apply Below.drew | with_reducible refine Below.setCell ?_ (by dsimp only; omega) _ | with_reducible refine below_step ?_ hb1))

set_option maxHeartbeats 4000000 in
theorem doAdd_qn (a b : Sp) (n1 : a.lo ≤ a.hi) (n2 : b.lo ≤ b.hi) (ha : a.Wf) (hb : b.Wf) (hc : (a.lo == a.hi) = true) (hd : (b.lo == b.hi) = false) (o1 : Sp.sumOk a.lo b.lo = true) (o2 : Sp.sumOk a.hi b.hi = false) (w : World) : Calls Tryd.prog 55 #[.int .i64 3, .agg #[.int .i64 a.lo, .int .i64 a.hi], .agg #[.int .i64 b.lo, .int .i64 b.hi]] w fun e w' => e = .returned (.tuple #[.agg #[.int .i64 Sp.all.lo, .int .i64 Sp.all.hi], .bool true]) ∧ Below w.heap.size w w' := by
  have hl1 : In64 a.lo := ha.1
  have hl2 : In64 a.hi := ha.2
  have hl3 : In64 b.lo := hb.1
  have hl4 : In64 b.hi := hb.2
  go_enter Tryd.func55, Tryd.ntmps55
  go_wp2_with (first
  | (go_at_call 82; go_in)
  | (
    go_at_call 83
    refine (exactP _ _ (by assumption) (by assumption) _).mono ?_
    rintro e w1 ⟨rfl, rfl⟩)
  | (
    go_at_call 84
    refine (hullP_no _ _ _ _).mono ?_
    rintro e w1 ⟨rfl, hb1⟩
    obtain ⟨hcc1, hff1⟩ := bcell hb1
    have hs1 := hb1.size
    simp at hs1
    have l1 : w.heap.size + 1 + 1 < w1.heap.size := (by omega)
    have m1 : w.heap.size + 1 < w1.heap.size := (by omega)
    have k1 : w.heap.size < w1.heap.size := (by omega)))
  all_goals (try simp only [Exit.inBlock, Exit.then])
  all_goals refine ret_of ?_ rfl
  all_goals simp [results, Tryd.results55, go_sem, ltS, notS, *]
  all_goals go_light
  all_goals (repeat (first | exact Below.refl _ _ | with_reducible apply below_alloc | with_reducible apply Below.drew | with_reducible refine Below.setCell ?_ (by dsimp only; omega) _ | with_reducible refine below_step ?_ hb1))

set_option maxHeartbeats 4000000 in
theorem doAdd_qm (a b : Sp) (n1 : a.lo ≤ a.hi) (n2 : b.lo ≤ b.hi) (ha : a.Wf) (hb : b.Wf) (hc : (a.lo == a.hi) = true) (hd : (b.lo == b.hi) = false) (o1 : Sp.sumOk a.lo b.lo = false) (w : World) : Calls Tryd.prog 55 #[.int .i64 3, .agg #[.int .i64 a.lo, .int .i64 a.hi], .agg #[.int .i64 b.lo, .int .i64 b.hi]] w fun e w' => e = .returned (.tuple #[.agg #[.int .i64 Sp.all.lo, .int .i64 Sp.all.hi], .bool true]) ∧ Below w.heap.size w w' := by
  have hl1 : In64 a.lo := ha.1
  have hl2 : In64 a.hi := ha.2
  have hl3 : In64 b.lo := hb.1
  have hl4 : In64 b.hi := hb.2
  go_enter Tryd.func55, Tryd.ntmps55
  go_wp2_with (first
  | (go_at_call 82; go_in)
  | (
    go_at_call 83
    refine (exactP _ _ (by assumption) (by assumption) _).mono ?_
    rintro e w1 ⟨rfl, rfl⟩)
  | (
    go_at_call 84
    refine (hullP_no _ _ _ _).mono ?_
    rintro e w1 ⟨rfl, hb1⟩
    obtain ⟨hcc1, hff1⟩ := bcell hb1
    have hs1 := hb1.size
    simp at hs1
    have l1 : w.heap.size + 1 + 1 < w1.heap.size := (by omega)
    have m1 : w.heap.size + 1 < w1.heap.size := (by omega)
    have k1 : w.heap.size < w1.heap.size := (by omega)))
  all_goals (try simp only [Exit.inBlock, Exit.then])
  all_goals refine ret_of ?_ rfl
  all_goals simp [results, Tryd.results55, go_sem, ltS, notS, *]
  all_goals go_light
  all_goals (repeat (first | exact Below.refl _ _ | with_reducible apply below_alloc | with_reducible apply Below.drew | with_reducible refine Below.setCell ?_ (by dsimp only; omega) _ | with_reducible refine below_step ?_ hb1))

set_option maxHeartbeats 4000000 in
theorem doAdd_ry (a b : Sp) (n1 : a.lo ≤ a.hi) (n2 : b.lo ≤ b.hi) (ha : a.Wf) (hb : b.Wf) (hc : (a.lo == a.hi) = false) (o1 : Sp.sumOk a.lo b.lo = true) (o2 : Sp.sumOk a.hi b.hi = true) (w : World) : Calls Tryd.prog 55 #[.int .i64 3, .agg #[.int .i64 a.lo, .int .i64 a.hi], .agg #[.int .i64 b.lo, .int .i64 b.hi]] w fun e w' => e = .returned (.tuple #[.agg #[.int .i64 (hullTo [wrap64 (a.lo + b.lo), wrap64 (a.hi + b.hi)] 2).lo, .int .i64 (hullTo [wrap64 (a.lo + b.lo), wrap64 (a.hi + b.hi)] 2).hi], .bool true]) ∧ Below w.heap.size w w' := by
  have hl1 : In64 a.lo := ha.1
  have hl2 : In64 a.hi := ha.2
  have hl3 : In64 b.lo := hb.1
  have hl4 : In64 b.hi := hb.2
  go_enter Tryd.func55, Tryd.ntmps55
  go_wp2_with (first
  | (go_at_call 82; go_in)
  | (
    go_at_call 83
    refine (exactP _ _ (by assumption) (by assumption) _).mono ?_
    rintro e w1 ⟨rfl, rfl⟩)
  | (
    go_at_call 84
    refine (hullP _ _ _ [wrap64 (a.lo + b.lo), wrap64 (a.hi + b.hi)] _ ?_ (Nat.succ_pos _) (by simp) ?_).mono ?_
    · simp
    · intro k hk
      obtain rfl | rfl : k = 0 ∨ k = 1 := by simp at hk; omega
      · go_simp; rfl
      · go_simp; rfl
    rintro e w1 ⟨rfl, hb1⟩
    obtain ⟨hcc1, hff1⟩ := bcell hb1
    have hs1 := hb1.size
    simp at hs1
    have l1 : w.heap.size + 1 + 1 < w1.heap.size := (by omega)
    have m1 : w.heap.size + 1 < w1.heap.size := (by omega)
    have k1 : w.heap.size < w1.heap.size := (by omega)))
  all_goals (try simp only [Exit.inBlock, Exit.then])
  all_goals refine ret_of ?_ rfl
  all_goals simp [results, Tryd.results55, go_sem, ltS, notS, *]
  all_goals go_light
  all_goals (repeat (first | exact Below.refl _ _ | with_reducible apply below_alloc | with_reducible apply Below.drew | with_reducible refine Below.setCell ?_ (by dsimp only; omega) _ | with_reducible refine below_step ?_ hb1))

set_option maxHeartbeats 4000000 in
theorem doAdd_rn (a b : Sp) (n1 : a.lo ≤ a.hi) (n2 : b.lo ≤ b.hi) (ha : a.Wf) (hb : b.Wf) (hc : (a.lo == a.hi) = false) (o1 : Sp.sumOk a.lo b.lo = true) (o2 : Sp.sumOk a.hi b.hi = false) (w : World) : Calls Tryd.prog 55 #[.int .i64 3, .agg #[.int .i64 a.lo, .int .i64 a.hi], .agg #[.int .i64 b.lo, .int .i64 b.hi]] w fun e w' => e = .returned (.tuple #[.agg #[.int .i64 Sp.all.lo, .int .i64 Sp.all.hi], .bool true]) ∧ Below w.heap.size w w' := by
  have hl1 : In64 a.lo := ha.1
  have hl2 : In64 a.hi := ha.2
  have hl3 : In64 b.lo := hb.1
  have hl4 : In64 b.hi := hb.2
  go_enter Tryd.func55, Tryd.ntmps55
  go_wp2_with (first
  | (go_at_call 82; go_in)
  | (
    go_at_call 83
    refine (exactP _ _ (by assumption) (by assumption) _).mono ?_
    rintro e w1 ⟨rfl, rfl⟩)
  | (
    go_at_call 84
    refine (hullP_no _ _ _ _).mono ?_
    rintro e w1 ⟨rfl, hb1⟩
    obtain ⟨hcc1, hff1⟩ := bcell hb1
    have hs1 := hb1.size
    simp at hs1
    have l1 : w.heap.size + 1 + 1 < w1.heap.size := (by omega)
    have m1 : w.heap.size + 1 < w1.heap.size := (by omega)
    have k1 : w.heap.size < w1.heap.size := (by omega)))
  all_goals (try simp only [Exit.inBlock, Exit.then])
  all_goals refine ret_of ?_ rfl
  all_goals simp [results, Tryd.results55, go_sem, ltS, notS, *]
  all_goals go_light
  all_goals (repeat (first | exact Below.refl _ _ | with_reducible apply below_alloc | with_reducible apply Below.drew | with_reducible refine Below.setCell ?_ (by dsimp only; omega) _ | with_reducible refine below_step ?_ hb1))

set_option maxHeartbeats 4000000 in
theorem doAdd_rm (a b : Sp) (n1 : a.lo ≤ a.hi) (n2 : b.lo ≤ b.hi) (ha : a.Wf) (hb : b.Wf) (hc : (a.lo == a.hi) = false) (o1 : Sp.sumOk a.lo b.lo = false) (w : World) : Calls Tryd.prog 55 #[.int .i64 3, .agg #[.int .i64 a.lo, .int .i64 a.hi], .agg #[.int .i64 b.lo, .int .i64 b.hi]] w fun e w' => e = .returned (.tuple #[.agg #[.int .i64 Sp.all.lo, .int .i64 Sp.all.hi], .bool true]) ∧ Below w.heap.size w w' := by
  have hl1 : In64 a.lo := ha.1
  have hl2 : In64 a.hi := ha.2
  have hl3 : In64 b.lo := hb.1
  have hl4 : In64 b.hi := hb.2
  go_enter Tryd.func55, Tryd.ntmps55
  go_wp2_with (first
  | (go_at_call 82; go_in)
  | (
    go_at_call 83
    refine (exactP _ _ (by assumption) (by assumption) _).mono ?_
    rintro e w1 ⟨rfl, rfl⟩)
  | (
    go_at_call 84
    refine (hullP_no _ _ _ _).mono ?_
    rintro e w1 ⟨rfl, hb1⟩
    obtain ⟨hcc1, hff1⟩ := bcell hb1
    have hs1 := hb1.size
    simp at hs1
    have l1 : w.heap.size + 1 + 1 < w1.heap.size := (by omega)
    have m1 : w.heap.size + 1 < w1.heap.size := (by omega)
    have k1 : w.heap.size < w1.heap.size := (by omega)))
  all_goals (try simp only [Exit.inBlock, Exit.then])
  all_goals refine ret_of ?_ rfl
  all_goals simp [results, Tryd.results55, go_sem, ltS, notS, *]
  all_goals go_light
  all_goals (repeat (first | exact Below.refl _ _ | with_reducible apply below_alloc | with_reducible apply Below.drew | with_reducible refine Below.setCell ?_ (by dsimp only; omega) _ | with_reducible refine below_step ?_ hb1))

end Go.Proofs.YtddobhneplfddaaDoor

/-
  Layer 8 (span): the walks of span.Do, one for each operation and case.
-/
namespace Go.Proofs.YtddobhneplfddaaDoor
set_option maxRecDepth 100000
open Go.RowKit
set_option linter.unusedSimpArgs false
set_option linter.unusedVariables false
set_option maxRecDepth 100000
attribute [local go_sem ↓] Go.wp_at_zero Go.wp_at_succ

set_option maxHeartbeats 4000000 in
theorem doSub_p (a b : Sp) (n1 : a.lo ≤ a.hi) (n2 : b.lo ≤ b.hi) (hc : (a.lo == a.hi) = true) (hd : (b.lo == b.hi) = true) (w : World) : Calls Tryd.prog 55 #[.int .i64 4, .agg #[.int .i64 a.lo, .int .i64 a.hi], .agg #[.int .i64 b.lo, .int .i64 b.hi]] w fun e w' => e = .returned (.tuple #[.agg #[.int .i64 (Sp.mk (wrap64 (a.lo - b.lo)) (wrap64 (a.lo - b.lo))).lo, .int .i64 (Sp.mk (wrap64 (a.lo - b.lo)) (wrap64 (a.lo - b.lo))).hi], .bool true]) ∧ Below w.heap.size w w' := by
  go_enter Tryd.func55, Tryd.ntmps55
  go_wp2_with (first
  | (go_at_call 82; go_in))
  all_goals (try simp only [Exit.inBlock, Exit.then])
  all_goals refine ret_of ?_ rfl
  all_goals simp [results, Tryd.results55, go_sem, ltS, notS, *]
  all_goals go_light
  all_goals (repeat (first | exact Below.refl _ _ | with_reducible apply below_alloc | with_reducible apply Below.drew | with_reducible refine Below.setCell ?_ (by dsimp only; omega) _ | with_reducible refine below_step ?_ hb1))

set_option maxHeartbeats 4000000 in
theorem doSub_qy (a b : Sp) (n1 : a.lo ≤ a.hi) (n2 : b.lo ≤ b.hi) (ha : a.Wf) (hb : b.Wf) (hc : (a.lo == a.hi) = true) (hd : (b.lo == b.hi) = false) (o1 : Sp.lessOk a.lo b.hi = true) (o2 : Sp.lessOk a.hi b.lo = true) (w : World) : Calls Tryd.prog 55 #[.int .i64 4, .agg #[.int .i64 a.lo, .int .i64 a.hi], .agg #[.int .i64 b.lo, .int .i64 b.hi]] w fun e w' => e = .returned (.tuple #[.agg #[.int .i64 (hullTo [wrap64 (a.lo - b.hi), wrap64 (a.hi - b.lo)] 2).lo, .int .i64 (hullTo [wrap64 (a.lo - b.hi), wrap64 (a.hi - b.lo)] 2).hi], .bool true]) ∧ Below w.heap.size w w' := by
  have hl1 : In64 a.lo := ha.1
  have hl2 : In64 a.hi := ha.2
  have hl3 : In64 b.lo := hb.1
  have hl4 : In64 b.hi := hb.2
  go_enter Tryd.func55, Tryd.ntmps55
  go_wp2_with (first
  | (go_at_call 82; go_in)
  | (
    go_at_call 85
    refine (lessP _ _ (by assumption) (by assumption) _).mono ?_
    rintro e w1 ⟨rfl, rfl⟩)
  | (
    go_at_call 84
    refine (hullP _ _ _ [wrap64 (a.lo - b.hi), wrap64 (a.hi - b.lo)] _ ?_ (Nat.succ_pos _) (by simp) ?_).mono ?_
    · simp
    · intro k hk
      obtain rfl | rfl : k = 0 ∨ k = 1 := by simp at hk; omega
      · go_simp; rfl
      · go_simp; rfl
    rintro e w1 ⟨rfl, hb1⟩
    obtain ⟨hcc1, hff1⟩ := bcell hb1
    have hs1 := hb1.size
    simp at hs1
    have l1 : w.heap.size + 1 + 1 < w1.heap.size := (by omega)
    have m1 : w.heap.size + 1 < w1.heap.size := (by omega)
    have k1 : w.heap.size < w1.heap.size := (by omega)))
  all_goals (try simp only [Exit.inBlock, Exit.then])
  all_goals refine ret_of ?_ rfl
  all_goals simp [results, Tryd.results55, go_sem, ltS, notS, *]
  all_goals go_light
  all_goals (repeat (first | exact Below.refl _ _ | with_reducible apply below_alloc | with_reducible apply Below.drew | with_reducible refine Below.setCell ?_ (by dsimp only; omega) _ | with_reducible refine below_step ?_ hb1))

set_option maxHeartbeats 4000000 in
theorem doSub_qn (a b : Sp) (n1 : a.lo ≤ a.hi) (n2 : b.lo ≤ b.hi) (ha : a.Wf) (hb : b.Wf) (hc : (a.lo == a.hi) = true) (hd : (b.lo == b.hi) = false) (o1 : Sp.lessOk a.lo b.hi = true) (o2 : Sp.lessOk a.hi b.lo = false) (w : World) : Calls Tryd.prog 55 #[.int .i64 4, .agg #[.int .i64 a.lo, .int .i64 a.hi], .agg #[.int .i64 b.lo, .int .i64 b.hi]] w fun e w' => e = .returned (.tuple #[.agg #[.int .i64 Sp.all.lo, .int .i64 Sp.all.hi], .bool true]) ∧ Below w.heap.size w w' := by
  have hl1 : In64 a.lo := ha.1
  have hl2 : In64 a.hi := ha.2
  have hl3 : In64 b.lo := hb.1
  have hl4 : In64 b.hi := hb.2
  go_enter Tryd.func55, Tryd.ntmps55
  go_wp2_with (first
  | (go_at_call 82; go_in)
  | (
    go_at_call 85
    refine (lessP _ _ (by assumption) (by assumption) _).mono ?_
    rintro e w1 ⟨rfl, rfl⟩)
  | (
    go_at_call 84
    refine (hullP_no _ _ _ _).mono ?_
    rintro e w1 ⟨rfl, hb1⟩
    obtain ⟨hcc1, hff1⟩ := bcell hb1
    have hs1 := hb1.size
    simp at hs1
    have l1 : w.heap.size + 1 + 1 < w1.heap.size := (by omega)
    have m1 : w.heap.size + 1 < w1.heap.size := (by omega)
    have k1 : w.heap.size < w1.heap.size := (by omega)))
  all_goals (try simp only [Exit.inBlock, Exit.then])
  all_goals refine ret_of ?_ rfl
  all_goals simp [results, Tryd.results55, go_sem, ltS, notS, *]
  all_goals go_light
  all_goals (repeat (first | exact Below.refl _ _ | with_reducible apply below_alloc | with_reducible apply Below.drew | with_reducible refine Below.setCell ?_ (by dsimp only; omega) _ | with_reducible refine below_step ?_ hb1))

set_option maxHeartbeats 4000000 in
theorem doSub_qm (a b : Sp) (n1 : a.lo ≤ a.hi) (n2 : b.lo ≤ b.hi) (ha : a.Wf) (hb : b.Wf) (hc : (a.lo == a.hi) = true) (hd : (b.lo == b.hi) = false) (o1 : Sp.lessOk a.lo b.hi = false) (w : World) : Calls Tryd.prog 55 #[.int .i64 4, .agg #[.int .i64 a.lo, .int .i64 a.hi], .agg #[.int .i64 b.lo, .int .i64 b.hi]] w fun e w' => e = .returned (.tuple #[.agg #[.int .i64 Sp.all.lo, .int .i64 Sp.all.hi], .bool true]) ∧ Below w.heap.size w w' := by
  have hl1 : In64 a.lo := ha.1
  have hl2 : In64 a.hi := ha.2
  have hl3 : In64 b.lo := hb.1
  have hl4 : In64 b.hi := hb.2
  go_enter Tryd.func55, Tryd.ntmps55
  go_wp2_with (first
  | (go_at_call 82; go_in)
  | (
    go_at_call 85
    refine (lessP _ _ (by assumption) (by assumption) _).mono ?_
    rintro e w1 ⟨rfl, rfl⟩)
  | (
    go_at_call 84
    refine (hullP_no _ _ _ _).mono ?_
    rintro e w1 ⟨rfl, hb1⟩
    obtain ⟨hcc1, hff1⟩ := bcell hb1
    have hs1 := hb1.size
    simp at hs1
    have l1 : w.heap.size + 1 + 1 < w1.heap.size := (by omega)
    have m1 : w.heap.size + 1 < w1.heap.size := (by omega)
    have k1 : w.heap.size < w1.heap.size := (by omega)))
  all_goals (try simp only [Exit.inBlock, Exit.then])
  all_goals refine ret_of ?_ rfl
  all_goals simp [results, Tryd.results55, go_sem, ltS, notS, *]
  all_goals go_light
  all_goals (repeat (first | exact Below.refl _ _ | with_reducible apply below_alloc | with_reducible apply Below.drew | with_reducible refine Below.setCell ?_ (by dsimp only; omega) _ | with_reducible refine below_step ?_ hb1))

set_option maxHeartbeats 4000000 in
theorem doSub_ry (a b : Sp) (n1 : a.lo ≤ a.hi) (n2 : b.lo ≤ b.hi) (ha : a.Wf) (hb : b.Wf) (hc : (a.lo == a.hi) = false) (o1 : Sp.lessOk a.lo b.hi = true) (o2 : Sp.lessOk a.hi b.lo = true) (w : World) : Calls Tryd.prog 55 #[.int .i64 4, .agg #[.int .i64 a.lo, .int .i64 a.hi], .agg #[.int .i64 b.lo, .int .i64 b.hi]] w fun e w' => e = .returned (.tuple #[.agg #[.int .i64 (hullTo [wrap64 (a.lo - b.hi), wrap64 (a.hi - b.lo)] 2).lo, .int .i64 (hullTo [wrap64 (a.lo - b.hi), wrap64 (a.hi - b.lo)] 2).hi], .bool true]) ∧ Below w.heap.size w w' := by
  have hl1 : In64 a.lo := ha.1
  have hl2 : In64 a.hi := ha.2
  have hl3 : In64 b.lo := hb.1
  have hl4 : In64 b.hi := hb.2
  go_enter Tryd.func55, Tryd.ntmps55
  go_wp2_with (first
  | (go_at_call 82; go_in)
  | (
    go_at_call 85
    refine (lessP _ _ (by assumption) (by assumption) _).mono ?_
    rintro e w1 ⟨rfl, rfl⟩)
  | (
    go_at_call 84
    refine (hullP _ _ _ [wrap64 (a.lo - b.hi), wrap64 (a.hi - b.lo)] _ ?_ (Nat.succ_pos _) (by simp) ?_).mono ?_
    · simp
    · intro k hk
      obtain rfl | rfl : k = 0 ∨ k = 1 := by simp at hk; omega
      · go_simp; rfl
      · go_simp; rfl
    rintro e w1 ⟨rfl, hb1⟩
    obtain ⟨hcc1, hff1⟩ := bcell hb1
    have hs1 := hb1.size
    simp at hs1
    have l1 : w.heap.size + 1 + 1 < w1.heap.size := (by omega)
    have m1 : w.heap.size + 1 < w1.heap.size := (by omega)
    have k1 : w.heap.size < w1.heap.size := (by omega)))
  all_goals (try simp only [Exit.inBlock, Exit.then])
  all_goals refine ret_of ?_ rfl
  all_goals simp [results, Tryd.results55, go_sem, ltS, notS, *]
  all_goals go_light
  all_goals (repeat (first | exact Below.refl _ _ | with_reducible apply below_alloc | with_reducible apply Below.drew | with_reducible refine Below.setCell ?_ (by dsimp only; omega) _ | with_reducible refine below_step ?_ hb1))

set_option maxHeartbeats 4000000 in
theorem doSub_rn (a b : Sp) (n1 : a.lo ≤ a.hi) (n2 : b.lo ≤ b.hi) (ha : a.Wf) (hb : b.Wf) (hc : (a.lo == a.hi) = false) (o1 : Sp.lessOk a.lo b.hi = true) (o2 : Sp.lessOk a.hi b.lo = false) (w : World) : Calls Tryd.prog 55 #[.int .i64 4, .agg #[.int .i64 a.lo, .int .i64 a.hi], .agg #[.int .i64 b.lo, .int .i64 b.hi]] w fun e w' => e = .returned (.tuple #[.agg #[.int .i64 Sp.all.lo, .int .i64 Sp.all.hi], .bool true]) ∧ Below w.heap.size w w' := by
  have hl1 : In64 a.lo := ha.1
  have hl2 : In64 a.hi := ha.2
  have hl3 : In64 b.lo := hb.1
  have hl4 : In64 b.hi := hb.2
  go_enter Tryd.func55, Tryd.ntmps55
  go_wp2_with (first
  | (go_at_call 82; go_in)
  | (
    go_at_call 85
    refine (lessP _ _ (by assumption) (by assumption) _).mono ?_
    rintro e w1 ⟨rfl, rfl⟩)
  | (
    go_at_call 84
    refine (hullP_no _ _ _ _).mono ?_
    rintro e w1 ⟨rfl, hb1⟩
    obtain ⟨hcc1, hff1⟩ := bcell hb1
    have hs1 := hb1.size
    simp at hs1
    have l1 : w.heap.size + 1 + 1 < w1.heap.size := (by omega)
    have m1 : w.heap.size + 1 < w1.heap.size := (by omega)
    have k1 : w.heap.size < w1.heap.size := (by omega)))
  all_goals (try simp only [Exit.inBlock, Exit.then])
  all_goals refine ret_of ?_ rfl
  all_goals simp [results, Tryd.results55, go_sem, ltS, notS, *]
  all_goals go_light
  all_goals (repeat (first | exact Below.refl _ _ | with_reducible apply below_alloc | with_reducible apply Below.drew | with_reducible refine Below.setCell ?_ (by dsimp only; omega) _ | with_reducible refine below_step ?_ hb1))

set_option maxHeartbeats 4000000 in
theorem doSub_rm (a b : Sp) (n1 : a.lo ≤ a.hi) (n2 : b.lo ≤ b.hi) (ha : a.Wf) (hb : b.Wf) (hc : (a.lo == a.hi) = false) (o1 : Sp.lessOk a.lo b.hi = false) (w : World) : Calls Tryd.prog 55 #[.int .i64 4, .agg #[.int .i64 a.lo, .int .i64 a.hi], .agg #[.int .i64 b.lo, .int .i64 b.hi]] w fun e w' => e = .returned (.tuple #[.agg #[.int .i64 Sp.all.lo, .int .i64 Sp.all.hi], .bool true]) ∧ Below w.heap.size w w' := by
  have hl1 : In64 a.lo := ha.1
  have hl2 : In64 a.hi := ha.2
  have hl3 : In64 b.lo := hb.1
  have hl4 : In64 b.hi := hb.2
  go_enter Tryd.func55, Tryd.ntmps55
  go_wp2_with (first
  | (go_at_call 82; go_in)
  | (
    go_at_call 85
    refine (lessP _ _ (by assumption) (by assumption) _).mono ?_
    rintro e w1 ⟨rfl, rfl⟩)
  | (
    go_at_call 84
    refine (hullP_no _ _ _ _).mono ?_
    rintro e w1 ⟨rfl, hb1⟩
    obtain ⟨hcc1, hff1⟩ := bcell hb1
    have hs1 := hb1.size
    simp at hs1
    have l1 : w.heap.size + 1 + 1 < w1.heap.size := (by omega)
    have m1 : w.heap.size + 1 < w1.heap.size := (by omega)
    have k1 : w.heap.size < w1.heap.size := (by omega)))
  all_goals (try simp only [Exit.inBlock, Exit.then])
  all_goals refine ret_of ?_ rfl
  all_goals simp [results, Tryd.results55, go_sem, ltS, notS, *]
  all_goals go_light
  all_goals (repeat (first | exact Below.refl _ _ | with_reducible apply below_alloc | with_reducible apply Below.drew | with_reducible refine Below.setCell ?_ (by dsimp only; omega) _ | with_reducible refine below_step ?_ hb1))

end Go.Proofs.YtddobhneplfddaaDoor

/-
  Layer 8 (span): the walks of span.Do, one for each operation and case.
-/
namespace Go.Proofs.YtddobhneplfddaaDoor
set_option maxRecDepth 100000
open Go.RowKit
set_option linter.unusedSimpArgs false
set_option linter.unusedVariables false
set_option maxRecDepth 100000
attribute [local go_sem ↓] Go.wp_at_zero Go.wp_at_succ

set_option maxHeartbeats 4000000 in
theorem doMul_p (a b : Sp) (n1 : a.lo ≤ a.hi) (n2 : b.lo ≤ b.hi) (hc : (a.lo == a.hi) = true) (hd : (b.lo == b.hi) = true) (w : World) : Calls Tryd.prog 55 #[.int .i64 5, .agg #[.int .i64 a.lo, .int .i64 a.hi], .agg #[.int .i64 b.lo, .int .i64 b.hi]] w fun e w' => e = .returned (.tuple #[.agg #[.int .i64 (Sp.mk (wrap64 (a.lo * b.lo)) (wrap64 (a.lo * b.lo))).lo, .int .i64 (Sp.mk (wrap64 (a.lo * b.lo)) (wrap64 (a.lo * b.lo))).hi], .bool true]) ∧ Below w.heap.size w w' := by
  go_enter Tryd.func55, Tryd.ntmps55
  go_wp2_with (first
  | (go_at_call 82; go_in))
  all_goals (try simp only [Exit.inBlock, Exit.then])
  all_goals refine ret_of ?_ rfl
  all_goals simp [results, Tryd.results55, go_sem, ltS, notS, *]
  all_goals go_light
  all_goals (repeat (first | exact Below.refl _ _ | with_reducible apply below_alloc | with_reducible apply Below.drew | with_reducible refine Below.setCell ?_ (by dsimp only; omega) _ | with_reducible refine below_step ?_ hb1))

set_option maxHeartbeats 4000000 in
theorem doNone_a (a b : Sp) (op : Int) (n1 : a.hi < a.lo) (w : World) : Calls Tryd.prog 55 #[.int .i64 op, .agg #[.int .i64 a.lo, .int .i64 a.hi], .agg #[.int .i64 b.lo, .int .i64 b.hi]] w fun e w' => e = .returned (.tuple #[.agg #[.int .i64 (Sp.mk 0 0).lo, .int .i64 (Sp.mk 0 0).hi], .bool false]) ∧ Below w.heap.size w w' := by
  go_enter Tryd.func55, Tryd.ntmps55
  go_wp2_with (first
  | (go_at_call 82; go_in))
  all_goals (try simp only [Exit.inBlock, Exit.then])
  all_goals refine ret_of ?_ rfl
  all_goals simp [results, Tryd.results55, go_sem, ltS, notS, *]
  all_goals go_light
  all_goals (repeat (first | exact Below.refl _ _ | with_reducible apply below_alloc | with_reducible apply Below.drew | with_reducible refine Below.setCell ?_ (by dsimp only; omega) _ | with_reducible refine below_step ?_ hb1))

set_option maxHeartbeats 4000000 in
theorem doNone_b (a b : Sp) (op : Int) (o10 : (op == 10) = false) (p10 : (op != 10) = true) (n1 : a.lo ≤ a.hi) (n2 : b.hi < b.lo) (w : World) : Calls Tryd.prog 55 #[.int .i64 op, .agg #[.int .i64 a.lo, .int .i64 a.hi], .agg #[.int .i64 b.lo, .int .i64 b.hi]] w fun e w' => e = .returned (.tuple #[.agg #[.int .i64 (Sp.mk 0 0).lo, .int .i64 (Sp.mk 0 0).hi], .bool false]) ∧ Below w.heap.size w w' := by
  go_enter Tryd.func55, Tryd.ntmps55
  go_wp2_with (first
  | (go_at_call 82; go_in))
  all_goals (try simp only [Exit.inBlock, Exit.then])
  all_goals refine ret_of ?_ rfl
  all_goals simp [results, Tryd.results55, go_sem, ltS, notS, *]
  all_goals go_light
  all_goals (repeat (first | exact Below.refl _ _ | with_reducible apply below_alloc | with_reducible apply Below.drew | with_reducible refine Below.setCell ?_ (by dsimp only; omega) _ | with_reducible refine below_step ?_ hb1))

set_option maxHeartbeats 4000000 in
theorem doOther_p (a b : Sp) (op : Int) (o3 : (op == 3) = false) (o4 : (op == 4) = false) (o5 : (op == 5) = false) (o6 : (op == 6) = false) (o7 : (op == 7) = false) (o8 : (op == 8) = false) (o9 : (op == 9) = false) (o10 : (op == 10) = false) (p10 : (op != 10) = true) (n1 : a.lo ≤ a.hi) (n2 : b.lo ≤ b.hi) (hc : (a.lo == a.hi) = true) (hd : (b.lo == b.hi) = true) (w : World) : Calls Tryd.prog 55 #[.int .i64 op, .agg #[.int .i64 a.lo, .int .i64 a.hi], .agg #[.int .i64 b.lo, .int .i64 b.hi]] w fun e w' => e = .returned (.tuple #[.agg #[.int .i64 (Sp.mk 0 0).lo, .int .i64 (Sp.mk 0 0).hi], .bool false]) ∧ Below w.heap.size w w' := by
  go_enter Tryd.func55, Tryd.ntmps55
  go_wp2_with (first
  | (go_at_call 82; go_in))
  all_goals (try simp only [Exit.inBlock, Exit.then])
  all_goals refine ret_of ?_ rfl
  all_goals simp [results, Tryd.results55, go_sem, ltS, notS, *]
  all_goals go_light
  all_goals (repeat (first | exact Below.refl _ _ | with_reducible apply below_alloc | with_reducible apply Below.drew | with_reducible refine Below.setCell ?_ (by dsimp only; omega) _ | with_reducible refine below_step ?_ hb1))

set_option maxHeartbeats 4000000 in
theorem doOther_q (a b : Sp) (op : Int) (o3 : (op == 3) = false) (o4 : (op == 4) = false) (o5 : (op == 5) = false) (o6 : (op == 6) = false) (o7 : (op == 7) = false) (o8 : (op == 8) = false) (o9 : (op == 9) = false) (o10 : (op == 10) = false) (p10 : (op != 10) = true) (n1 : a.lo ≤ a.hi) (n2 : b.lo ≤ b.hi) (hc : (a.lo == a.hi) = true) (hd : (b.lo == b.hi) = false) (w : World) : Calls Tryd.prog 55 #[.int .i64 op, .agg #[.int .i64 a.lo, .int .i64 a.hi], .agg #[.int .i64 b.lo, .int .i64 b.hi]] w fun e w' => e = .returned (.tuple #[.agg #[.int .i64 (Sp.mk 0 0).lo, .int .i64 (Sp.mk 0 0).hi], .bool false]) ∧ Below w.heap.size w w' := by
  go_enter Tryd.func55, Tryd.ntmps55
  go_wp2_with (first
  | (go_at_call 82; go_in))
  all_goals (try simp only [Exit.inBlock, Exit.then])
  all_goals refine ret_of ?_ rfl
  all_goals simp [results, Tryd.results55, go_sem, ltS, notS, *]
  all_goals go_light
  all_goals (repeat (first | exact Below.refl _ _ | with_reducible apply below_alloc | with_reducible apply Below.drew | with_reducible refine Below.setCell ?_ (by dsimp only; omega) _ | with_reducible refine below_step ?_ hb1))

set_option maxHeartbeats 4000000 in
theorem doOther_r (a b : Sp) (op : Int) (o3 : (op == 3) = false) (o4 : (op == 4) = false) (o5 : (op == 5) = false) (o6 : (op == 6) = false) (o7 : (op == 7) = false) (o8 : (op == 8) = false) (o9 : (op == 9) = false) (o10 : (op == 10) = false) (p10 : (op != 10) = true) (n1 : a.lo ≤ a.hi) (n2 : b.lo ≤ b.hi) (hc : (a.lo == a.hi) = false) (w : World) : Calls Tryd.prog 55 #[.int .i64 op, .agg #[.int .i64 a.lo, .int .i64 a.hi], .agg #[.int .i64 b.lo, .int .i64 b.hi]] w fun e w' => e = .returned (.tuple #[.agg #[.int .i64 (Sp.mk 0 0).lo, .int .i64 (Sp.mk 0 0).hi], .bool false]) ∧ Below w.heap.size w w' := by
  go_enter Tryd.func55, Tryd.ntmps55
  go_wp2_with (first
  | (go_at_call 82; go_in))
  all_goals (try simp only [Exit.inBlock, Exit.then])
  all_goals refine ret_of ?_ rfl
  all_goals simp [results, Tryd.results55, go_sem, ltS, notS, *]
  all_goals go_light
  all_goals (repeat (first | exact Below.refl _ _ | with_reducible apply below_alloc | with_reducible apply Below.drew | with_reducible refine Below.setCell ?_ (by dsimp only; omega) _ | with_reducible refine below_step ?_ hb1))

end Go.Proofs.YtddobhneplfddaaDoor
