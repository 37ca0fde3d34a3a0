/-
  Layer 8 (span): the walks of left and divided of package span.
-/
import Derived.Test.YtdoikgjdjdgnbaaSpanB
import Derived.Deep.RegionHeld3
import Derived.Deep.DrawnRows
import Derived.BigRegion
namespace Go.Proofs.Ytdoikgjdjdgnbaa
open Go.RowKit
set_option linter.unusedSimpArgs false
set_option linter.unusedVariables false
attribute [local go_sem ↓] Go.wp_at_zero Go.wp_at_succ

set_option maxHeartbeats 400000 in
theorem leftP1a (a b : Sp) (ha : a.Wf) (hb : b.Wf) (h0 : b.lo ≠ 0 ∨ b.hi ≠ 0) (hc : b.lo.natAbs < b.hi.natAbs) (g1 : a.lo < 0) (g2 : 0 < a.hi) (w : World) : Calls Try.prog 39 #[.agg #[.int .i64 a.lo, .int .i64 a.hi], .agg #[.int .i64 b.lo, .int .i64 b.hi]] w fun e w' => e = .returned (.agg #[.int .i64 (leftS a b).lo, .int .i64 (leftS a b).hi]) ∧ Below w.heap.size w w' := by
  have hM : leftM b = (b.hi.natAbs : Int) - 1 := by unfold leftM; split <;> omega
  obtain ⟨m0, m1⟩ := leftM_in hb h0
  have hl : In64 b.lo := hb.1
  have hh : In64 b.hi := hb.2
  have e1 : IntKind.u64.wrap ((b.hi.natAbs : Int) - 1) = leftM b := by rw [← hM]; exact IntWalk.u64_in _ (by omega)
  have e2 : IntKind.i64.wrap (leftM b) = leftM b := IntWalk.i64_in _ (by omega)
  have HM := Lib.hid hM
  clear hM h0
  go_enter Try.func39, Try.ntmps39
  go_wp2
  go_region_held3 (fun w' => w'.cell? ⟨w.heap.size, 0, none⟩ = some (.int .i64 a.lo) ∧ w'.cell? ⟨w.heap.size, 1, none⟩ = some (.int .i64 a.hi) ∧ w'.cell? ⟨w.heap.size + 1, 0, none⟩ = some (.int .i64 b.lo) ∧ w'.cell? ⟨w.heap.size + 1, 1, none⟩ = some (.int .i64 b.hi)) (go_simp) (first | (go_at_call 50; refine (distanceP _ (by assumption) _).mono ?_; rintro e w' ⟨rfl, rfl⟩))
  go_wp2
  all_goals (try simp only [Exit.inBlock, Exit.then])
  all_goals refine ret_of ?_ rfl
  all_goals simp [results, Try.results39, go_sem]
  all_goals refine ⟨?_, (by repeat (first | exact Below.refl _ _ | apply Below.drew | refine Below.alloc ?_ (by simp <;> omega) _ | refine Below.setCell ?_ (by simp <;> omega) _))⟩
  all_goals go_light
  all_goals (first | (simp [leftS, Sp.mx, Sp.mn, *]; done) | (simp [leftS, Sp.mx, Sp.mn]; omega) | ((simp [leftS, Sp.mx, Sp.mn]; repeat' split) <;> (first | omega | (simp_all; done) | (simp_all; omega))))

set_option maxHeartbeats 400000 in
theorem leftP1b (a b : Sp) (ha : a.Wf) (hb : b.Wf) (h0 : b.lo ≠ 0 ∨ b.hi ≠ 0) (hc : b.lo.natAbs < b.hi.natAbs) (g1 : a.lo < 0) (g2 : a.hi ≤ 0) (w : World) : Calls Try.prog 39 #[.agg #[.int .i64 a.lo, .int .i64 a.hi], .agg #[.int .i64 b.lo, .int .i64 b.hi]] w fun e w' => e = .returned (.agg #[.int .i64 (leftS a b).lo, .int .i64 (leftS a b).hi]) ∧ Below w.heap.size w w' := by
  have hM : leftM b = (b.hi.natAbs : Int) - 1 := by unfold leftM; split <;> omega
  obtain ⟨m0, m1⟩ := leftM_in hb h0
  have hl : In64 b.lo := hb.1
  have hh : In64 b.hi := hb.2
  have e1 : IntKind.u64.wrap ((b.hi.natAbs : Int) - 1) = leftM b := by rw [← hM]; exact IntWalk.u64_in _ (by omega)
  have e2 : IntKind.i64.wrap (leftM b) = leftM b := IntWalk.i64_in _ (by omega)
  have HM := Lib.hid hM
  clear hM h0
  go_enter Try.func39, Try.ntmps39
  go_wp2
  go_region_held3 (fun w' => w'.cell? ⟨w.heap.size, 0, none⟩ = some (.int .i64 a.lo) ∧ w'.cell? ⟨w.heap.size, 1, none⟩ = some (.int .i64 a.hi) ∧ w'.cell? ⟨w.heap.size + 1, 0, none⟩ = some (.int .i64 b.lo) ∧ w'.cell? ⟨w.heap.size + 1, 1, none⟩ = some (.int .i64 b.hi)) (go_simp) (first | (go_at_call 50; refine (distanceP _ (by assumption) _).mono ?_; rintro e w' ⟨rfl, rfl⟩))
  go_wp2
  all_goals (try simp only [Exit.inBlock, Exit.then])
  all_goals refine ret_of ?_ rfl
  all_goals simp [results, Try.results39, go_sem]
  all_goals refine ⟨?_, (by repeat (first | exact Below.refl _ _ | apply Below.drew | refine Below.alloc ?_ (by simp <;> omega) _ | refine Below.setCell ?_ (by simp <;> omega) _))⟩
  all_goals go_light
  all_goals (first | (simp [leftS, Sp.mx, Sp.mn, *]; done) | (simp [leftS, Sp.mx, Sp.mn]; omega) | ((simp [leftS, Sp.mx, Sp.mn]; repeat' split) <;> (first | omega | (simp_all; done) | (simp_all; omega))))

set_option maxHeartbeats 400000 in
theorem leftP1c (a b : Sp) (ha : a.Wf) (hb : b.Wf) (h0 : b.lo ≠ 0 ∨ b.hi ≠ 0) (hc : b.lo.natAbs < b.hi.natAbs) (g1 : 0 ≤ a.lo) (g2 : 0 < a.hi) (w : World) : Calls Try.prog 39 #[.agg #[.int .i64 a.lo, .int .i64 a.hi], .agg #[.int .i64 b.lo, .int .i64 b.hi]] w fun e w' => e = .returned (.agg #[.int .i64 (leftS a b).lo, .int .i64 (leftS a b).hi]) ∧ Below w.heap.size w w' := by
  have hM : leftM b = (b.hi.natAbs : Int) - 1 := by unfold leftM; split <;> omega
  obtain ⟨m0, m1⟩ := leftM_in hb h0
  have hl : In64 b.lo := hb.1
  have hh : In64 b.hi := hb.2
  have e1 : IntKind.u64.wrap ((b.hi.natAbs : Int) - 1) = leftM b := by rw [← hM]; exact IntWalk.u64_in _ (by omega)
  have e2 : IntKind.i64.wrap (leftM b) = leftM b := IntWalk.i64_in _ (by omega)
  have HM := Lib.hid hM
  clear hM h0
  go_enter Try.func39, Try.ntmps39
  go_wp2
  go_region_held3 (fun w' => w'.cell? ⟨w.heap.size, 0, none⟩ = some (.int .i64 a.lo) ∧ w'.cell? ⟨w.heap.size, 1, none⟩ = some (.int .i64 a.hi) ∧ w'.cell? ⟨w.heap.size + 1, 0, none⟩ = some (.int .i64 b.lo) ∧ w'.cell? ⟨w.heap.size + 1, 1, none⟩ = some (.int .i64 b.hi)) (go_simp) (first | (go_at_call 50; refine (distanceP _ (by assumption) _).mono ?_; rintro e w' ⟨rfl, rfl⟩))
  go_wp2
  all_goals (try simp only [Exit.inBlock, Exit.then])
  all_goals refine ret_of ?_ rfl
  all_goals simp [results, Try.results39, go_sem]
  all_goals refine ⟨?_, (by repeat (first | exact Below.refl _ _ | apply Below.drew | refine Below.alloc ?_ (by simp <;> omega) _ | refine Below.setCell ?_ (by simp <;> omega) _))⟩
  all_goals go_light
  all_goals (first | (simp [leftS, Sp.mx, Sp.mn, *]; done) | (simp [leftS, Sp.mx, Sp.mn]; omega) | ((simp [leftS, Sp.mx, Sp.mn]; repeat' split) <;> (first | omega | (simp_all; done) | (simp_all; omega))))

set_option maxHeartbeats 400000 in
theorem leftP1d (a b : Sp) (ha : a.Wf) (hb : b.Wf) (h0 : b.lo ≠ 0 ∨ b.hi ≠ 0) (hc : b.lo.natAbs < b.hi.natAbs) (g1 : 0 ≤ a.lo) (g2 : a.hi ≤ 0) (w : World) : Calls Try.prog 39 #[.agg #[.int .i64 a.lo, .int .i64 a.hi], .agg #[.int .i64 b.lo, .int .i64 b.hi]] w fun e w' => e = .returned (.agg #[.int .i64 (leftS a b).lo, .int .i64 (leftS a b).hi]) ∧ Below w.heap.size w w' := by
  have hM : leftM b = (b.hi.natAbs : Int) - 1 := by unfold leftM; split <;> omega
  obtain ⟨m0, m1⟩ := leftM_in hb h0
  have hl : In64 b.lo := hb.1
  have hh : In64 b.hi := hb.2
  have e1 : IntKind.u64.wrap ((b.hi.natAbs : Int) - 1) = leftM b := by rw [← hM]; exact IntWalk.u64_in _ (by omega)
  have e2 : IntKind.i64.wrap (leftM b) = leftM b := IntWalk.i64_in _ (by omega)
  have HM := Lib.hid hM
  clear hM h0
  go_enter Try.func39, Try.ntmps39
  go_wp2
  go_region_held3 (fun w' => w'.cell? ⟨w.heap.size, 0, none⟩ = some (.int .i64 a.lo) ∧ w'.cell? ⟨w.heap.size, 1, none⟩ = some (.int .i64 a.hi) ∧ w'.cell? ⟨w.heap.size + 1, 0, none⟩ = some (.int .i64 b.lo) ∧ w'.cell? ⟨w.heap.size + 1, 1, none⟩ = some (.int .i64 b.hi)) (go_simp) (first | (go_at_call 50; refine (distanceP _ (by assumption) _).mono ?_; rintro e w' ⟨rfl, rfl⟩))
  go_wp2
  all_goals (try simp only [Exit.inBlock, Exit.then])
  all_goals refine ret_of ?_ rfl
  all_goals simp [results, Try.results39, go_sem]
  all_goals refine ⟨?_, (by repeat (first | exact Below.refl _ _ | apply Below.drew | refine Below.alloc ?_ (by simp <;> omega) _ | refine Below.setCell ?_ (by simp <;> omega) _))⟩
  all_goals go_light
  all_goals (first | (simp [leftS, Sp.mx, Sp.mn, *]; done) | (simp [leftS, Sp.mx, Sp.mn]; omega) | ((simp [leftS, Sp.mx, Sp.mn]; repeat' split) <;> (first | omega | (simp_all; done) | (simp_all; omega))))

set_option maxHeartbeats 400000 in
theorem leftP2a (a b : Sp) (ha : a.Wf) (hb : b.Wf) (h0 : b.lo ≠ 0 ∨ b.hi ≠ 0) (hc : b.hi.natAbs ≤ b.lo.natAbs) (g1 : a.lo < 0) (g2 : 0 < a.hi) (w : World) : Calls Try.prog 39 #[.agg #[.int .i64 a.lo, .int .i64 a.hi], .agg #[.int .i64 b.lo, .int .i64 b.hi]] w fun e w' => e = .returned (.agg #[.int .i64 (leftS a b).lo, .int .i64 (leftS a b).hi]) ∧ Below w.heap.size w w' := by
  have hM : leftM b = (b.lo.natAbs : Int) - 1 := by unfold leftM; split <;> omega
  obtain ⟨m0, m1⟩ := leftM_in hb h0
  have hl : In64 b.lo := hb.1
  have hh : In64 b.hi := hb.2
  have e1 : IntKind.u64.wrap ((b.lo.natAbs : Int) - 1) = leftM b := by rw [← hM]; exact IntWalk.u64_in _ (by omega)
  have e2 : IntKind.i64.wrap (leftM b) = leftM b := IntWalk.i64_in _ (by omega)
  have HM := Lib.hid hM
  clear hM h0
  go_enter Try.func39, Try.ntmps39
  go_wp2
  go_region_held3 (fun w' => w'.cell? ⟨w.heap.size, 0, none⟩ = some (.int .i64 a.lo) ∧ w'.cell? ⟨w.heap.size, 1, none⟩ = some (.int .i64 a.hi) ∧ w'.cell? ⟨w.heap.size + 1, 0, none⟩ = some (.int .i64 b.lo) ∧ w'.cell? ⟨w.heap.size + 1, 1, none⟩ = some (.int .i64 b.hi)) (go_simp) (first | (go_at_call 50; refine (distanceP _ (by assumption) _).mono ?_; rintro e w' ⟨rfl, rfl⟩))
  go_wp2
  all_goals (try simp only [Exit.inBlock, Exit.then])
  all_goals refine ret_of ?_ rfl
  all_goals simp [results, Try.results39, go_sem]
  all_goals refine ⟨?_, (by repeat (first | exact Below.refl _ _ | apply Below.drew | refine Below.alloc ?_ (by simp <;> omega) _ | refine Below.setCell ?_ (by simp <;> omega) _))⟩
  all_goals go_light
  all_goals (first | (simp [leftS, Sp.mx, Sp.mn, *]; done) | (simp [leftS, Sp.mx, Sp.mn]; omega) | ((simp [leftS, Sp.mx, Sp.mn]; repeat' split) <;> (first | omega | (simp_all; done) | (simp_all; omega))))

set_option maxHeartbeats 400000 in
theorem leftP2b (a b : Sp) (ha : a.Wf) (hb : b.Wf) (h0 : b.lo ≠ 0 ∨ b.hi ≠ 0) (hc : b.hi.natAbs ≤ b.lo.natAbs) (g1 : a.lo < 0) (g2 : a.hi ≤ 0) (w : World) : Calls Try.prog 39 #[.agg #[.int .i64 a.lo, .int .i64 a.hi], .agg #[.int .i64 b.lo, .int .i64 b.hi]] w fun e w' => e = .returned (.agg #[.int .i64 (leftS a b).lo, .int .i64 (leftS a b).hi]) ∧ Below w.heap.size w w' := by
  have hM : leftM b = (b.lo.natAbs : Int) - 1 := by unfold leftM; split <;> omega
  obtain ⟨m0, m1⟩ := leftM_in hb h0
  have hl : In64 b.lo := hb.1
  have hh : In64 b.hi := hb.2
  have e1 : IntKind.u64.wrap ((b.lo.natAbs : Int) - 1) = leftM b := by rw [← hM]; exact IntWalk.u64_in _ (by omega)
  have e2 : IntKind.i64.wrap (leftM b) = leftM b := IntWalk.i64_in _ (by omega)
  have HM := Lib.hid hM
  clear hM h0
  go_enter Try.func39, Try.ntmps39
  go_wp2
  go_region_held3 (fun w' => w'.cell? ⟨w.heap.size, 0, none⟩ = some (.int .i64 a.lo) ∧ w'.cell? ⟨w.heap.size, 1, none⟩ = some (.int .i64 a.hi) ∧ w'.cell? ⟨w.heap.size + 1, 0, none⟩ = some (.int .i64 b.lo) ∧ w'.cell? ⟨w.heap.size + 1, 1, none⟩ = some (.int .i64 b.hi)) (go_simp) (first | (go_at_call 50; refine (distanceP _ (by assumption) _).mono ?_; rintro e w' ⟨rfl, rfl⟩))
  go_wp2
  all_goals (try simp only [Exit.inBlock, Exit.then])
  all_goals refine ret_of ?_ rfl
  all_goals simp [results, Try.results39, go_sem]
  all_goals refine ⟨?_, (by repeat (first | exact Below.refl _ _ | apply Below.drew | refine Below.alloc ?_ (by simp <;> omega) _ | refine Below.setCell ?_ (by simp <;> omega) _))⟩
  all_goals go_light
  all_goals (first | (simp [leftS, Sp.mx, Sp.mn, *]; done) | (simp [leftS, Sp.mx, Sp.mn]; omega) | ((simp [leftS, Sp.mx, Sp.mn]; repeat' split) <;> (first | omega | (simp_all; done) | (simp_all; omega))))

set_option maxHeartbeats 400000 in
theorem leftP2c (a b : Sp) (ha : a.Wf) (hb : b.Wf) (h0 : b.lo ≠ 0 ∨ b.hi ≠ 0) (hc : b.hi.natAbs ≤ b.lo.natAbs) (g1 : 0 ≤ a.lo) (g2 : 0 < a.hi) (w : World) : Calls Try.prog 39 #[.agg #[.int .i64 a.lo, .int .i64 a.hi], .agg #[.int .i64 b.lo, .int .i64 b.hi]] w fun e w' => e = .returned (.agg #[.int .i64 (leftS a b).lo, .int .i64 (leftS a b).hi]) ∧ Below w.heap.size w w' := by
  have hM : leftM b = (b.lo.natAbs : Int) - 1 := by unfold leftM; split <;> omega
  obtain ⟨m0, m1⟩ := leftM_in hb h0
  have hl : In64 b.lo := hb.1
  have hh : In64 b.hi := hb.2
  have e1 : IntKind.u64.wrap ((b.lo.natAbs : Int) - 1) = leftM b := by rw [← hM]; exact IntWalk.u64_in _ (by omega)
  have e2 : IntKind.i64.wrap (leftM b) = leftM b := IntWalk.i64_in _ (by omega)
  have HM := Lib.hid hM
  clear hM h0
  go_enter Try.func39, Try.ntmps39
  go_wp2
  go_region_held3 (fun w' => w'.cell? ⟨w.heap.size, 0, none⟩ = some (.int .i64 a.lo) ∧ w'.cell? ⟨w.heap.size, 1, none⟩ = some (.int .i64 a.hi) ∧ w'.cell? ⟨w.heap.size + 1, 0, none⟩ = some (.int .i64 b.lo) ∧ w'.cell? ⟨w.heap.size + 1, 1, none⟩ = some (.int .i64 b.hi)) (go_simp) (first | (go_at_call 50; refine (distanceP _ (by assumption) _).mono ?_; rintro e w' ⟨rfl, rfl⟩))
  go_wp2
  all_goals (try simp only [Exit.inBlock, Exit.then])
  all_goals refine ret_of ?_ rfl
  all_goals simp [results, Try.results39, go_sem]
  all_goals refine ⟨?_, (by repeat (first | exact Below.refl _ _ | apply Below.drew | refine Below.alloc ?_ (by simp <;> omega) _ | refine Below.setCell ?_ (by simp <;> omega) _))⟩
  all_goals go_light
  all_goals (first | (simp [leftS, Sp.mx, Sp.mn, *]; done) | (simp [leftS, Sp.mx, Sp.mn]; omega) | ((simp [leftS, Sp.mx, Sp.mn]; repeat' split) <;> (first | omega | (simp_all; done) | (simp_all; omega))))

set_option maxHeartbeats 400000 in
theorem leftP2d (a b : Sp) (ha : a.Wf) (hb : b.Wf) (h0 : b.lo ≠ 0 ∨ b.hi ≠ 0) (hc : b.hi.natAbs ≤ b.lo.natAbs) (g1 : 0 ≤ a.lo) (g2 : a.hi ≤ 0) (w : World) : Calls Try.prog 39 #[.agg #[.int .i64 a.lo, .int .i64 a.hi], .agg #[.int .i64 b.lo, .int .i64 b.hi]] w fun e w' => e = .returned (.agg #[.int .i64 (leftS a b).lo, .int .i64 (leftS a b).hi]) ∧ Below w.heap.size w w' := by
  have hM : leftM b = (b.lo.natAbs : Int) - 1 := by unfold leftM; split <;> omega
  obtain ⟨m0, m1⟩ := leftM_in hb h0
  have hl : In64 b.lo := hb.1
  have hh : In64 b.hi := hb.2
  have e1 : IntKind.u64.wrap ((b.lo.natAbs : Int) - 1) = leftM b := by rw [← hM]; exact IntWalk.u64_in _ (by omega)
  have e2 : IntKind.i64.wrap (leftM b) = leftM b := IntWalk.i64_in _ (by omega)
  have HM := Lib.hid hM
  clear hM h0
  go_enter Try.func39, Try.ntmps39
  go_wp2
  go_region_held3 (fun w' => w'.cell? ⟨w.heap.size, 0, none⟩ = some (.int .i64 a.lo) ∧ w'.cell? ⟨w.heap.size, 1, none⟩ = some (.int .i64 a.hi) ∧ w'.cell? ⟨w.heap.size + 1, 0, none⟩ = some (.int .i64 b.lo) ∧ w'.cell? ⟨w.heap.size + 1, 1, none⟩ = some (.int .i64 b.hi)) (go_simp) (first | (go_at_call 50; refine (distanceP _ (by assumption) _).mono ?_; rintro e w' ⟨rfl, rfl⟩))
  go_wp2
  all_goals (try simp only [Exit.inBlock, Exit.then])
  all_goals refine ret_of ?_ rfl
  all_goals simp [results, Try.results39, go_sem]
  all_goals refine ⟨?_, (by repeat (first | exact Below.refl _ _ | apply Below.drew | refine Below.alloc ?_ (by simp <;> omega) _ | refine Below.setCell ?_ (by simp <;> omega) _))⟩
  all_goals go_light
  all_goals (first | (simp [leftS, Sp.mx, Sp.mn, *]; done) | (simp [leftS, Sp.mx, Sp.mn]; omega) | ((simp [leftS, Sp.mx, Sp.mn]; repeat' split) <;> (first | omega | (simp_all; done) | (simp_all; omega))))

theorem leftP (a b : Sp) (ha : a.Wf) (hb : b.Wf) (h0 : b.lo ≠ 0 ∨ b.hi ≠ 0) (w : World) : Calls Try.prog 39 #[.agg #[.int .i64 a.lo, .int .i64 a.hi], .agg #[.int .i64 b.lo, .int .i64 b.hi]] w fun e w' => e = .returned (.agg #[.int .i64 (leftS a b).lo, .int .i64 (leftS a b).hi]) ∧ Below w.heap.size w w' := by
  by_cases hc : b.lo.natAbs < b.hi.natAbs <;> by_cases g1 : a.lo < 0 <;> by_cases g2 : 0 < a.hi
  · exact leftP1a a b ha hb h0 hc g1 g2 w
  · exact leftP1b a b ha hb h0 hc g1 (by omega) w
  · exact leftP1c a b ha hb h0 hc (by omega) g2 w
  · exact leftP1d a b ha hb h0 hc (by omega) (by omega) w
  · exact leftP2a a b ha hb h0 (by omega) g1 g2 w
  · exact leftP2b a b ha hb h0 (by omega) g1 (by omega) w
  · exact leftP2c a b ha hb h0 (by omega) (by omega) g2 w
  · exact leftP2d a b ha hb h0 (by omega) (by omega) (by omega) w

end Go.Proofs.Ytdoikgjdjdgnbaa

