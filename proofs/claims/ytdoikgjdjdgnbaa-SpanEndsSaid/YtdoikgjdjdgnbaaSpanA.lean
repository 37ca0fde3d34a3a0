/-
  Layer 8 (span): the walks of the small functions of package span and of its reference.
-/
import Derived.Test.YtdoikgjdjdgnbaaPlainA
import Derived.Deep.RegionHeld3
import Derived.Deep.DrawnRows
import Derived.BigRegion
namespace Go.Proofs.Ytdoikgjdjdgnbaa
open Go.RowKit
set_option linter.unusedSimpArgs false
set_option linter.unusedVariables false
attribute [local go_sem ↓] Go.wp_at_zero Go.wp_at_succ

set_option maxHeartbeats 400000 in
theorem allP (w : World) : Calls Try.prog 14 #[] w fun e w' => e = .returned (.agg #[.int .i64 Sp.all.lo, .int .i64 Sp.all.hi]) ∧ Below w.heap.size w w' := by
  go_enter Try.func14, Try.ntmps14
  go_wp2
  all_goals (try simp only [Exit.inBlock, Exit.then])
  all_goals refine ret_of ?_ rfl
  all_goals simp [results, Try.results14, go_sem]
  all_goals refine ⟨?_, (by repeat (first | exact Below.refl _ _ | apply Below.drew | refine Below.alloc ?_ (by simp <;> omega) _ | refine Below.setCell ?_ (by simp <;> omega) _))⟩
  all_goals go_light
  all_goals (first | (simp [Sp.all, Sp.least, Sp.greatest, *]; done) | (simp [Sp.all, Sp.least, Sp.greatest]; omega) | ((simp [Sp.all, Sp.least, Sp.greatest]; repeat' split) <;> (first | omega | (simp_all; done) | (simp_all; omega))))

set_option maxHeartbeats 400000 in
theorem noneP (a : Sp) (w : World) : Calls Try.prog 31 #[.agg #[.int .i64 a.lo, .int .i64 a.hi]] w fun e w' => e = .returned (.bool a.none) ∧ Below w.heap.size w w' := by
  go_enter Try.func31, Try.ntmps31
  go_wp2
  all_goals go_ret
  all_goals refine ⟨?_, (by repeat (first | exact Below.refl _ _ | apply Below.drew | refine Below.alloc ?_ (by simp <;> omega) _ | refine Below.setCell ?_ (by simp <;> omega) _))⟩
  all_goals go_light
  all_goals (first | (simp [Sp.none, *]; done) | (simp [Sp.none]; omega) | ((simp [Sp.none]; repeat' split) <;> (first | omega | (simp_all; done) | (simp_all; omega))))

set_option maxHeartbeats 400000 in
theorem hasP (a : Sp) (n : Int) (w : World) : Calls Try.prog 16 #[.agg #[.int .i64 a.lo, .int .i64 a.hi], .int .i64 n] w fun e w' => e = .returned (.bool (a.has n)) ∧ Below w.heap.size w w' := by
  go_enter Try.func16, Try.ntmps16
  go_wp2
  all_goals go_ret
  all_goals refine ⟨?_, (by repeat (first | exact Below.refl _ _ | apply Below.drew | refine Below.alloc ?_ (by simp <;> omega) _ | refine Below.setCell ?_ (by simp <;> omega) _))⟩
  all_goals go_light
  all_goals (first | (simp [Sp.has, *]; done) | (simp [Sp.has]; omega) | ((simp [Sp.has]; repeat' split) <;> (first | omega | (simp_all; done) | (simp_all; omega))))

set_option maxHeartbeats 400000 in
theorem joinP (a b : Sp) (w : World) : Calls Try.prog 18 #[.agg #[.int .i64 a.lo, .int .i64 a.hi], .agg #[.int .i64 b.lo, .int .i64 b.hi]] w fun e w' => e = .returned (.agg #[.int .i64 (a.join b).lo, .int .i64 (a.join b).hi]) ∧ Below w.heap.size w w' := by
  go_enter Try.func18, Try.ntmps18
  go_wp2
  all_goals (try simp only [Exit.inBlock, Exit.then])
  all_goals refine ret_of ?_ rfl
  all_goals simp [results, Try.results18, go_sem]
  all_goals refine ⟨?_, (by repeat (first | exact Below.refl _ _ | apply Below.drew | refine Below.alloc ?_ (by simp <;> omega) _ | refine Below.setCell ?_ (by simp <;> omega) _))⟩
  all_goals go_light
  all_goals (first | (simp [Sp.join, Sp.none, Sp.mn, Sp.mx, *]; done) | (simp [Sp.join, Sp.none, Sp.mn, Sp.mx]; omega) | ((simp [Sp.join, Sp.none, Sp.mn, Sp.mx]; repeat' split) <;> (first | omega | (simp_all; done) | (simp_all; omega))))

set_option maxHeartbeats 400000 in
theorem meetP (a b : Sp) (w : World) : Calls Try.prog 11 #[.agg #[.int .i64 a.lo, .int .i64 a.hi], .agg #[.int .i64 b.lo, .int .i64 b.hi]] w fun e w' => e = .returned (.tuple #[.agg #[.int .i64 (a.meet b).lo, .int .i64 (a.meet b).hi], .bool (a.meetOk b)]) ∧ Below w.heap.size w w' := by
  go_enter Try.func11, Try.ntmps11
  go_wp2
  all_goals (try simp only [Exit.inBlock, Exit.then])
  all_goals refine ret_of ?_ rfl
  all_goals simp [results, Try.results11, go_sem]
  all_goals refine ⟨?_, (by repeat (first | exact Below.refl _ _ | apply Below.drew | refine Below.alloc ?_ (by simp <;> omega) _ | refine Below.setCell ?_ (by simp <;> omega) _))⟩
  all_goals go_light
  all_goals (first | (simp [Sp.meet, Sp.meetOk, Sp.meetS, Sp.none, Sp.mn, Sp.mx, *]; done) | (simp [Sp.meet, Sp.meetOk, Sp.meetS, Sp.none, Sp.mn, Sp.mx]; omega) | ((simp [Sp.meet, Sp.meetOk, Sp.meetS, Sp.none, Sp.mn, Sp.mx]; repeat' split) <;> (first | omega | (simp_all; done) | (simp_all; omega))))

set_option maxHeartbeats 400000 in
theorem lengthP (a b : Sp) (ha : a.Wf) (hb : b.Wf) (w : World) : Calls Try.prog 20 #[.agg #[.int .i64 a.lo, .int .i64 a.hi], .agg #[.int .i64 b.lo, .int .i64 b.hi]] w fun e w' => e = .returned (.int .u64 (a.len b)) ∧ Below w.heap.size w w' := by
  obtain ⟨⟨_, _⟩, _, _⟩ := ha
  obtain ⟨⟨_, _⟩, _, _⟩ := hb
  go_enter Try.func20, Try.ntmps20
  go_wp2
  all_goals go_ret
  all_goals refine ⟨?_, (by repeat (first | exact Below.refl _ _ | apply Below.drew | refine Below.alloc ?_ (by simp <;> omega) _ | refine Below.setCell ?_ (by simp <;> omega) _))⟩
  all_goals go_light
  all_goals (first | (simp [Sp.len, *]; done) | (rw [u64_diff (by omega) (by omega) (by omega)]; simp [Sp.len]; omega))

set_option maxHeartbeats 400000 in
theorem truthP (y n : Bool) (w : World) : Calls Try.prog 41 #[.bool y, .bool n] w fun e w' => e = .returned (.agg #[.int .i64 (Sp.truth y n).lo, .int .i64 (Sp.truth y n).hi]) ∧ Below w.heap.size w w' := by
  go_enter Try.func41, Try.ntmps41
  go_wp2
  all_goals (try simp only [Exit.inBlock, Exit.then])
  all_goals refine ret_of ?_ rfl
  all_goals simp [results, Try.results41, go_sem]
  all_goals refine ⟨?_, (by repeat (first | exact Below.refl _ _ | apply Below.drew | refine Below.alloc ?_ (by simp <;> omega) _ | refine Below.setCell ?_ (by simp <;> omega) _))⟩
  all_goals go_light
  all_goals (first | (simp [Sp.truth, *]; done) | (simp [Sp.truth]; omega) | ((simp [Sp.truth]; repeat' split) <;> (first | omega | (simp_all; done) | (simp_all; omega))))

set_option maxHeartbeats 400000 in
theorem belowP1 (a b : Sp) (ha : a.Wf) (hb : b.Wf) (h1 : a.hi < a.lo) (w : World) : Calls Try.prog 24 #[.agg #[.int .i64 a.lo, .int .i64 a.hi], .agg #[.int .i64 b.lo, .int .i64 b.hi]] w fun e w' => e = .returned (.tuple #[.agg #[.int .i64 (a.belowA b).lo, .int .i64 (a.belowA b).hi], .agg #[.int .i64 (a.belowB b).lo, .int .i64 (a.belowB b).hi], .bool (a.belowOk b)]) ∧ Below w.heap.size w w' := by
  obtain ⟨⟨_, _⟩, _, _⟩ := ha
  obtain ⟨⟨_, _⟩, _, _⟩ := hb
  go_enter Try.func24, Try.ntmps24
  go_wp2
  all_goals (try simp only [Exit.inBlock, Exit.then])
  all_goals refine ret_of ?_ rfl
  all_goals simp [results, Try.results24, go_sem]
  all_goals refine ⟨?_, (by repeat (first | exact Below.refl _ _ | apply Below.drew | refine Below.alloc ?_ (by simp <;> omega) _ | refine Below.setCell ?_ (by simp <;> omega) _))⟩
  all_goals go_light
  all_goals (first | (simp [Sp.belowA, Sp.belowB, Sp.belowOk, Sp.none, Sp.mn, Sp.mx, *]; done) | (simp [Sp.belowA, Sp.belowB, Sp.belowOk, Sp.none, Sp.mn, Sp.mx]; omega) | ((simp [Sp.belowA, Sp.belowB, Sp.belowOk, Sp.none, Sp.mn, Sp.mx]; repeat' split) <;> (first | omega | (simp_all; done) | (simp_all; omega))))

set_option maxHeartbeats 400000 in
theorem belowP2 (a b : Sp) (ha : a.Wf) (hb : b.Wf) (h1 : a.lo ≤ a.hi) (h2 : b.hi < b.lo) (w : World) : Calls Try.prog 24 #[.agg #[.int .i64 a.lo, .int .i64 a.hi], .agg #[.int .i64 b.lo, .int .i64 b.hi]] w fun e w' => e = .returned (.tuple #[.agg #[.int .i64 (a.belowA b).lo, .int .i64 (a.belowA b).hi], .agg #[.int .i64 (a.belowB b).lo, .int .i64 (a.belowB b).hi], .bool (a.belowOk b)]) ∧ Below w.heap.size w w' := by
  obtain ⟨⟨_, _⟩, _, _⟩ := ha
  obtain ⟨⟨_, _⟩, _, _⟩ := hb
  go_enter Try.func24, Try.ntmps24
  go_wp2
  all_goals (try simp only [Exit.inBlock, Exit.then])
  all_goals refine ret_of ?_ rfl
  all_goals simp [results, Try.results24, go_sem]
  all_goals refine ⟨?_, (by repeat (first | exact Below.refl _ _ | apply Below.drew | refine Below.alloc ?_ (by simp <;> omega) _ | refine Below.setCell ?_ (by simp <;> omega) _))⟩
  all_goals go_light
  all_goals (first | (simp [Sp.belowA, Sp.belowB, Sp.belowOk, Sp.none, Sp.mn, Sp.mx, *]; done) | (simp [Sp.belowA, Sp.belowB, Sp.belowOk, Sp.none, Sp.mn, Sp.mx]; omega) | ((simp [Sp.belowA, Sp.belowB, Sp.belowOk, Sp.none, Sp.mn, Sp.mx]; repeat' split) <;> (first | omega | (simp_all; done) | (simp_all; omega))))

set_option maxHeartbeats 400000 in
theorem belowP3 (a b : Sp) (ha : a.Wf) (hb : b.Wf) (h1 : a.lo ≤ a.hi) (h2 : b.lo ≤ b.hi) (h3 : b.hi ≤ a.lo) (w : World) : Calls Try.prog 24 #[.agg #[.int .i64 a.lo, .int .i64 a.hi], .agg #[.int .i64 b.lo, .int .i64 b.hi]] w fun e w' => e = .returned (.tuple #[.agg #[.int .i64 (a.belowA b).lo, .int .i64 (a.belowA b).hi], .agg #[.int .i64 (a.belowB b).lo, .int .i64 (a.belowB b).hi], .bool (a.belowOk b)]) ∧ Below w.heap.size w w' := by
  obtain ⟨⟨_, _⟩, _, _⟩ := ha
  obtain ⟨⟨_, _⟩, _, _⟩ := hb
  go_enter Try.func24, Try.ntmps24
  go_wp2
  all_goals (try simp only [Exit.inBlock, Exit.then])
  all_goals refine ret_of ?_ rfl
  all_goals simp [results, Try.results24, go_sem]
  all_goals refine ⟨?_, (by repeat (first | exact Below.refl _ _ | apply Below.drew | refine Below.alloc ?_ (by simp <;> omega) _ | refine Below.setCell ?_ (by simp <;> omega) _))⟩
  all_goals go_light
  all_goals (first | (simp [Sp.belowA, Sp.belowB, Sp.belowOk, Sp.none, Sp.mn, Sp.mx, *]; done) | (simp [Sp.belowA, Sp.belowB, Sp.belowOk, Sp.none, Sp.mn, Sp.mx]; omega) | ((simp [Sp.belowA, Sp.belowB, Sp.belowOk, Sp.none, Sp.mn, Sp.mx]; repeat' split) <;> (first | omega | (simp_all; done) | (simp_all; omega))))

set_option maxHeartbeats 400000 in
theorem belowP4 (a b : Sp) (ha : a.Wf) (hb : b.Wf) (h1 : a.lo ≤ a.hi) (h2 : b.lo ≤ b.hi) (h3 : a.lo < b.hi) (w : World) : Calls Try.prog 24 #[.agg #[.int .i64 a.lo, .int .i64 a.hi], .agg #[.int .i64 b.lo, .int .i64 b.hi]] w fun e w' => e = .returned (.tuple #[.agg #[.int .i64 (a.belowA b).lo, .int .i64 (a.belowA b).hi], .agg #[.int .i64 (a.belowB b).lo, .int .i64 (a.belowB b).hi], .bool (a.belowOk b)]) ∧ Below w.heap.size w w' := by
  obtain ⟨⟨_, _⟩, _, _⟩ := ha
  obtain ⟨⟨_, _⟩, _, _⟩ := hb
  have e1 : IntKind.i64.wrap (b.hi - 1) = b.hi - 1 := IntWalk.i64_in _ (by omega)
  have e2 : IntKind.i64.wrap (a.lo + 1) = a.lo + 1 := IntWalk.i64_in _ (by omega)
  go_enter Try.func24, Try.ntmps24
  go_wp2
  go_region_held3 (fun w' => w'.cell? ⟨w.heap.size, 0, none⟩ = some (.int .i64 a.lo) ∧ w'.cell? ⟨w.heap.size, 1, none⟩ = some (.int .i64 a.hi) ∧ w'.cell? ⟨w.heap.size + 1, 0, none⟩ = some (.int .i64 b.lo) ∧ w'.cell? ⟨w.heap.size + 1, 1, none⟩ = some (.int .i64 b.hi)) (go_simp) (fail)
  go_wp2
  all_goals (try simp only [Exit.inBlock, Exit.then])
  all_goals refine ret_of ?_ rfl
  all_goals simp [results, Try.results24, go_sem]
  all_goals refine ⟨?_, (by repeat (first | exact Below.refl _ _ | apply Below.drew | refine Below.alloc ?_ (by simp <;> omega) _ | refine Below.setCell ?_ (by simp <;> omega) _))⟩
  all_goals go_light
  all_goals (first | (simp [Sp.belowA, Sp.belowB, Sp.belowOk, Sp.none, Sp.mn, Sp.mx, *]; done) | (simp [Sp.belowA, Sp.belowB, Sp.belowOk, Sp.none, Sp.mn, Sp.mx]; omega) | ((simp [Sp.belowA, Sp.belowB, Sp.belowOk, Sp.none, Sp.mn, Sp.mx]; repeat' split) <;> (first | omega | (simp_all; done) | (simp_all; omega))))

theorem belowP (a b : Sp) (ha : a.Wf) (hb : b.Wf) (w : World) : Calls Try.prog 24 #[.agg #[.int .i64 a.lo, .int .i64 a.hi], .agg #[.int .i64 b.lo, .int .i64 b.hi]] w fun e w' => e = .returned (.tuple #[.agg #[.int .i64 (a.belowA b).lo, .int .i64 (a.belowA b).hi], .agg #[.int .i64 (a.belowB b).lo, .int .i64 (a.belowB b).hi], .bool (a.belowOk b)]) ∧ Below w.heap.size w w' := by
  by_cases h1 : a.hi < a.lo
  · exact belowP1 a b ha hb h1 w
  · by_cases h2 : b.hi < b.lo
    · exact belowP2 a b ha hb (by omega) h2 w
    · by_cases h3 : b.hi ≤ a.lo
      · exact belowP3 a b ha hb (by omega) (by omega) h3 w
      · exact belowP4 a b ha hb (by omega) (by omega) (by omega) w

set_option maxHeartbeats 400000 in
theorem withinL (a b : Sp) (w : World) : Calls Try.prog 30 #[.agg #[.int .i64 a.lo, .int .i64 a.hi], .agg #[.int .i64 b.lo, .int .i64 b.hi]] w fun e w' => e = .returned (.bool (a.within b)) ∧ Below w.heap.size w w' := by
  go_enter Try.func30, Try.ntmps30
  go_wp2
  all_goals go_ret
  all_goals refine ⟨?_, (by repeat (first | exact Below.refl _ _ | apply Below.drew | refine Below.alloc ?_ (by simp <;> omega) _ | refine Below.setCell ?_ (by simp <;> omega) _))⟩
  all_goals go_light
  all_goals (first | (simp [Sp.within, Sp.none, *]; done) | (simp [Sp.within, Sp.none]; omega) | ((simp [Sp.within, Sp.none]; repeat' split) <;> (first | omega | (simp_all; done) | (simp_all; omega))))

set_option maxHeartbeats 400000 in
theorem grownL (a b : Sp) (w : World) : Calls Try.prog 29 #[.agg #[.int .i64 a.lo, .int .i64 a.hi], .agg #[.int .i64 b.lo, .int .i64 b.hi]] w fun e w' => e = .returned (.agg #[.int .i64 (a.join b).lo, .int .i64 (a.join b).hi]) ∧ Below w.heap.size w w' := by
  go_enter Try.func29, Try.ntmps29
  go_wp2
  all_goals (try simp only [Exit.inBlock, Exit.then])
  all_goals refine ret_of ?_ rfl
  all_goals simp [results, Try.results29, go_sem]
  all_goals refine ⟨?_, (by repeat (first | exact Below.refl _ _ | apply Below.drew | refine Below.alloc ?_ (by simp <;> omega) _ | refine Below.setCell ?_ (by simp <;> omega) _))⟩
  all_goals go_light
  all_goals (first | (simp [Sp.join, Sp.none, Sp.mn, Sp.mx, *]; done) | (simp [Sp.join, Sp.none, Sp.mn, Sp.mx]; omega) | ((simp [Sp.join, Sp.none, Sp.mn, Sp.mx]; repeat' split) <;> (first | omega | (simp_all; done) | (simp_all; omega))))

end Go.Proofs.Ytdoikgjdjdgnbaa

