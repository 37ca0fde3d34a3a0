/-
  Layer 8 (span): the walks of the small functions of package span and of its reference.
-/
import Derived.Test.YtdoikgjdjdgnbaaPlainA
import Derived.Deep.RegionHeld3
import Derived.Deep.DrawnRows
import Derived.BigRegion
namespace Go.Proofs.Ytdoikgjdjdgnbaa
open Go.RowKit
set_option linter.unusedSimpArgs false
set_option linter.unusedVariables false
attribute [local go_sem ↓] Go.wp_at_zero Go.wp_at_succ

set_option maxHeartbeats 400000 in
theorem lesserR (a b : Int) (w : World) : Calls Try.prog 33 #[.int .i64 a, .int .i64 b] w fun e w' => e = .returned (.int .i64 (Sp.mn a b)) ∧ w = w' := by
  go_enter Try.func33, Try.ntmps33
  go_wp2
  all_goals go_ret
  all_goals refine ⟨?_, rfl⟩
  all_goals go_light
  all_goals (first | (simp [Sp.mn, *]; done) | (simp [Sp.mn]; omega) | ((simp [Sp.mn]; repeat' split) <;> (first | omega | (simp_all; done) | (simp_all; omega))))

set_option maxHeartbeats 400000 in
theorem greaterR (a b : Int) (w : World) : Calls Try.prog 32 #[.int .i64 a, .int .i64 b] w fun e w' => e = .returned (.int .i64 (Sp.mx a b)) ∧ w = w' := by
  go_enter Try.func32, Try.ntmps32
  go_wp2
  all_goals go_ret
  all_goals refine ⟨?_, rfl⟩
  all_goals go_light
  all_goals (first | (simp [Sp.mx, *]; done) | (simp [Sp.mx]; omega) | ((simp [Sp.mx]; repeat' split) <;> (first | omega | (simp_all; done) | (simp_all; omega))))

set_option maxHeartbeats 400000 in
theorem allR (w : World) : Calls Try.prog 15 #[] w fun e w' => e = .returned (.agg #[.int .i64 Sp.all.lo, .int .i64 Sp.all.hi]) ∧ Below w.heap.size w w' := by
  go_enter Try.func15, Try.ntmps15
  go_wp2
  all_goals (try simp only [Exit.inBlock, Exit.then])
  all_goals refine ret_of ?_ rfl
  all_goals simp [results, Try.results15, go_sem]
  all_goals refine ⟨?_, (by repeat (first | exact Below.refl _ _ | apply Below.drew | refine Below.alloc ?_ (by simp <;> omega) _ | refine Below.setCell ?_ (by simp <;> omega) _))⟩
  all_goals go_light
  all_goals (first | (simp [Sp.all, Sp.least, Sp.greatest, *]; done) | (simp [Sp.all, Sp.least, Sp.greatest]; omega) | ((simp [Sp.all, Sp.least, Sp.greatest]; repeat' split) <;> (first | omega | (simp_all; done) | (simp_all; omega))))

set_option maxHeartbeats 400000 in
theorem noneR (a : Sp) (w : World) : Calls Try.prog 34 #[.agg #[.int .i64 a.lo, .int .i64 a.hi]] w fun e w' => e = .returned (.bool a.none) ∧ Below w.heap.size w w' := by
  go_enter Try.func34, Try.ntmps34
  go_wp2
  all_goals go_ret
  all_goals refine ⟨?_, (by repeat (first | exact Below.refl _ _ | apply Below.drew | refine Below.alloc ?_ (by simp <;> omega) _ | refine Below.setCell ?_ (by simp <;> omega) _))⟩
  all_goals go_light
  all_goals (first | (simp [Sp.none, *]; done) | (simp [Sp.none]; omega) | ((simp [Sp.none]; repeat' split) <;> (first | omega | (simp_all; done) | (simp_all; omega))))

set_option maxHeartbeats 400000 in
theorem hasR (a : Sp) (n : Int) (w : World) : Calls Try.prog 17 #[.agg #[.int .i64 a.lo, .int .i64 a.hi], .int .i64 n] w fun e w' => e = .returned (.bool (a.has n)) ∧ Below w.heap.size w w' := by
  go_enter Try.func17, Try.ntmps17
  go_wp2
  all_goals go_ret
  all_goals refine ⟨?_, (by repeat (first | exact Below.refl _ _ | apply Below.drew | refine Below.alloc ?_ (by simp <;> omega) _ | refine Below.setCell ?_ (by simp <;> omega) _))⟩
  all_goals go_light
  all_goals (first | (simp [Sp.has, *]; done) | (simp [Sp.has]; omega) | ((simp [Sp.has]; repeat' split) <;> (first | omega | (simp_all; done) | (simp_all; omega))))

set_option maxHeartbeats 400000 in
theorem joinR1 (a b : Sp) (h1 : a.hi < a.lo) (w : World) : Calls Try.prog 19 #[.agg #[.int .i64 a.lo, .int .i64 a.hi], .agg #[.int .i64 b.lo, .int .i64 b.hi]] w fun e w' => e = .returned (.agg #[.int .i64 (a.join b).lo, .int .i64 (a.join b).hi]) ∧ Below w.heap.size w w' := by
  go_enter Try.func19, Try.ntmps19
  go_wp2
  all_goals (try simp only [Exit.inBlock, Exit.then])
  all_goals refine ret_of ?_ rfl
  all_goals simp [results, Try.results19, go_sem]
  all_goals refine ⟨?_, (by repeat (first | exact Below.refl _ _ | apply Below.drew | refine Below.alloc ?_ (by simp <;> omega) _ | refine Below.setCell ?_ (by simp <;> omega) _))⟩
  all_goals go_light
  all_goals (first | (simp [Sp.join, Sp.none, Sp.mn, Sp.mx, *]; done) | (simp [Sp.join, Sp.none, Sp.mn, Sp.mx]; omega) | ((simp [Sp.join, Sp.none, Sp.mn, Sp.mx]; repeat' split) <;> (first | omega | (simp_all; done) | (simp_all; omega))))

set_option maxHeartbeats 400000 in
theorem joinR2 (a b : Sp) (h1 : a.lo ≤ a.hi) (h2 : b.hi < b.lo) (w : World) : Calls Try.prog 19 #[.agg #[.int .i64 a.lo, .int .i64 a.hi], .agg #[.int .i64 b.lo, .int .i64 b.hi]] w fun e w' => e = .returned (.agg #[.int .i64 (a.join b).lo, .int .i64 (a.join b).hi]) ∧ Below w.heap.size w w' := by
  go_enter Try.func19, Try.ntmps19
  go_wp2
  all_goals (try simp only [Exit.inBlock, Exit.then])
  all_goals refine ret_of ?_ rfl
  all_goals simp [results, Try.results19, go_sem]
  all_goals refine ⟨?_, (by repeat (first | exact Below.refl _ _ | apply Below.drew | refine Below.alloc ?_ (by simp <;> omega) _ | refine Below.setCell ?_ (by simp <;> omega) _))⟩
  all_goals go_light
  all_goals (first | (simp [Sp.join, Sp.none, Sp.mn, Sp.mx, *]; done) | (simp [Sp.join, Sp.none, Sp.mn, Sp.mx]; omega) | ((simp [Sp.join, Sp.none, Sp.mn, Sp.mx]; repeat' split) <;> (first | omega | (simp_all; done) | (simp_all; omega))))

set_option maxHeartbeats 400000 in
theorem joinR3 (a b : Sp) (h1 : a.lo ≤ a.hi) (h2 : b.lo ≤ b.hi) (w : World) : Calls Try.prog 19 #[.agg #[.int .i64 a.lo, .int .i64 a.hi], .agg #[.int .i64 b.lo, .int .i64 b.hi]] w fun e w' => e = .returned (.agg #[.int .i64 (a.join b).lo, .int .i64 (a.join b).hi]) ∧ Below w.heap.size w w' := by
  go_enter Try.func19, Try.ntmps19
  go_wp2
  go_region_held3 (fun w' => w'.cell? ⟨w.heap.size, 0, none⟩ = some (.int .i64 a.lo) ∧ w'.cell? ⟨w.heap.size, 1, none⟩ = some (.int .i64 a.hi) ∧ w'.cell? ⟨w.heap.size + 1, 0, none⟩ = some (.int .i64 b.lo) ∧ w'.cell? ⟨w.heap.size + 1, 1, none⟩ = some (.int .i64 b.hi)) (go_simp) (first | (go_at_call 33; refine (lesserR _ _ _).mono ?_; rintro e w' ⟨rfl, rfl⟩) | (go_at_call 32; refine (greaterR _ _ _).mono ?_; rintro e w' ⟨rfl, rfl⟩))
  go_wp2
  all_goals (try simp only [Exit.inBlock, Exit.then])
  all_goals refine ret_of ?_ rfl
  all_goals simp [results, Try.results19, go_sem]
  all_goals refine ⟨?_, (by repeat (first | exact Below.refl _ _ | apply Below.drew | refine Below.alloc ?_ (by simp <;> omega) _ | refine Below.setCell ?_ (by simp <;> omega) _))⟩
  all_goals go_light
  all_goals (first | (simp [Sp.join, Sp.none, Sp.mn, Sp.mx, *]; done) | (simp [Sp.join, Sp.none, Sp.mn, Sp.mx]; omega) | ((simp [Sp.join, Sp.none, Sp.mn, Sp.mx]; repeat' split) <;> (first | omega | (simp_all; done) | (simp_all; omega))))

theorem joinR (a b : Sp) (w : World) : Calls Try.prog 19 #[.agg #[.int .i64 a.lo, .int .i64 a.hi], .agg #[.int .i64 b.lo, .int .i64 b.hi]] w fun e w' => e = .returned (.agg #[.int .i64 (a.join b).lo, .int .i64 (a.join b).hi]) ∧ Below w.heap.size w w' := by
  by_cases h1 : a.hi < a.lo
  · exact joinR1 a b h1 w
  · by_cases h2 : b.hi < b.lo
    · exact joinR2 a b (by omega) h2 w
    · exact joinR3 a b (by omega) (by omega) w

set_option maxHeartbeats 400000 in
theorem meetR (a b : Sp) (w : World) : Calls Try.prog 12 #[.agg #[.int .i64 a.lo, .int .i64 a.hi], .agg #[.int .i64 b.lo, .int .i64 b.hi]] w fun e w' => e = .returned (.tuple #[.agg #[.int .i64 (a.meet b).lo, .int .i64 (a.meet b).hi], .bool (a.meetOk b)]) ∧ Below w.heap.size w w' := by
  go_enter Try.func12, Try.ntmps12
  go_wp2
  go_region_held3 (fun w' => w'.cell? ⟨w.heap.size, 0, none⟩ = some (.int .i64 a.lo) ∧ w'.cell? ⟨w.heap.size, 1, none⟩ = some (.int .i64 a.hi) ∧ w'.cell? ⟨w.heap.size + 1, 0, none⟩ = some (.int .i64 b.lo) ∧ w'.cell? ⟨w.heap.size + 1, 1, none⟩ = some (.int .i64 b.hi)) (go_simp) (first | (go_at_call 33; refine (lesserR _ _ _).mono ?_; rintro e w' ⟨rfl, rfl⟩) | (go_at_call 32; refine (greaterR _ _ _).mono ?_; rintro e w' ⟨rfl, rfl⟩))
  go_wp2
  all_goals (try simp only [Exit.inBlock, Exit.then])
  all_goals refine ret_of ?_ rfl
  all_goals simp [results, Try.results12, go_sem]
  all_goals refine ⟨?_, (by repeat (first | exact Below.refl _ _ | apply Below.drew | refine Below.alloc ?_ (by simp <;> omega) _ | refine Below.setCell ?_ (by simp <;> omega) _))⟩
  all_goals go_light
  all_goals (by_cases hm : Sp.mn a.hi b.hi < Sp.mx a.lo b.lo <;> first | (exfalso; omega) | simp [Sp.meet, Sp.meetOk, Sp.meetS, Sp.none, hm])

set_option maxHeartbeats 400000 in
theorem lengthR (a b : Sp) (ha : a.Wf) (hb : b.Wf) (w : World) : Calls Try.prog 21 #[.agg #[.int .i64 a.lo, .int .i64 a.hi], .agg #[.int .i64 b.lo, .int .i64 b.hi]] w fun e w' => e = .returned (.int .u64 (a.len b)) ∧ Below w.heap.size w w' := by
  obtain ⟨⟨_, _⟩, _, _⟩ := ha
  obtain ⟨⟨_, _⟩, _, _⟩ := hb
  go_enter Try.func21, Try.ntmps21
  go_wp2
  all_goals go_ret
  all_goals refine ⟨?_, (by repeat (first | exact Below.refl _ _ | apply Below.drew | refine Below.alloc ?_ (by simp <;> omega) _ | refine Below.setCell ?_ (by simp <;> omega) _))⟩
  all_goals go_light
  all_goals (first | (simp [Sp.len, *]; done) | (rw [u64_diff (by omega) (by omega) (by omega)]; simp [Sp.len]; omega))

set_option maxHeartbeats 400000 in
theorem truthR (y n : Bool) (w : World) : Calls Try.prog 42 #[.bool y, .bool n] w fun e w' => e = .returned (.agg #[.int .i64 (Sp.truth y n).lo, .int .i64 (Sp.truth y n).hi]) ∧ Below w.heap.size w w' := by
  go_enter Try.func42, Try.ntmps42
  go_wp2
  all_goals (try simp only [Exit.inBlock, Exit.then])
  all_goals refine ret_of ?_ rfl
  all_goals simp [results, Try.results42, go_sem]
  all_goals refine ⟨?_, (by repeat (first | exact Below.refl _ _ | apply Below.drew | refine Below.alloc ?_ (by simp <;> omega) _ | refine Below.setCell ?_ (by simp <;> omega) _))⟩
  all_goals go_light
  all_goals (first | (simp [Sp.truth, *]; done) | (simp [Sp.truth]; omega) | ((simp [Sp.truth]; repeat' split) <;> (first | omega | (simp_all; done) | (simp_all; omega))))

set_option maxHeartbeats 400000 in
theorem belowR1 (a b : Sp) (ha : a.Wf) (hb : b.Wf) (h1 : a.hi < a.lo) (w : World) : Calls Try.prog 25 #[.agg #[.int .i64 a.lo, .int .i64 a.hi], .agg #[.int .i64 b.lo, .int .i64 b.hi]] w fun e w' => e = .returned (.tuple #[.agg #[.int .i64 (a.belowA b).lo, .int .i64 (a.belowA b).hi], .agg #[.int .i64 (a.belowB b).lo, .int .i64 (a.belowB b).hi], .bool (a.belowOk b)]) ∧ Below w.heap.size w w' := by
  obtain ⟨⟨_, _⟩, _, _⟩ := ha
  obtain ⟨⟨_, _⟩, _, _⟩ := hb
  go_enter Try.func25, Try.ntmps25
  go_wp2
  all_goals (try simp only [Exit.inBlock, Exit.then])
  all_goals refine ret_of ?_ rfl
  all_goals simp [results, Try.results25, go_sem]
  all_goals refine ⟨?_, (by repeat (first | exact Below.refl _ _ | apply Below.drew | refine Below.alloc ?_ (by simp <;> omega) _ | refine Below.setCell ?_ (by simp <;> omega) _))⟩
  all_goals go_light
  all_goals (first | (simp [Sp.belowA, Sp.belowB, Sp.belowOk, Sp.none, Sp.mn, Sp.mx, *]; done) | (simp [Sp.belowA, Sp.belowB, Sp.belowOk, Sp.none, Sp.mn, Sp.mx]; omega) | ((simp [Sp.belowA, Sp.belowB, Sp.belowOk, Sp.none, Sp.mn, Sp.mx]; repeat' split) <;> (first | omega | (simp_all; done) | (simp_all; omega))))

set_option maxHeartbeats 400000 in
theorem belowR2 (a b : Sp) (ha : a.Wf) (hb : b.Wf) (h1 : a.lo ≤ a.hi) (h2 : b.hi < b.lo) (w : World) : Calls Try.prog 25 #[.agg #[.int .i64 a.lo, .int .i64 a.hi], .agg #[.int .i64 b.lo, .int .i64 b.hi]] w fun e w' => e = .returned (.tuple #[.agg #[.int .i64 (a.belowA b).lo, .int .i64 (a.belowA b).hi], .agg #[.int .i64 (a.belowB b).lo, .int .i64 (a.belowB b).hi], .bool (a.belowOk b)]) ∧ Below w.heap.size w w' := by
  obtain ⟨⟨_, _⟩, _, _⟩ := ha
  obtain ⟨⟨_, _⟩, _, _⟩ := hb
  go_enter Try.func25, Try.ntmps25
  go_wp2
  all_goals (try simp only [Exit.inBlock, Exit.then])
  all_goals refine ret_of ?_ rfl
  all_goals simp [results, Try.results25, go_sem]
  all_goals refine ⟨?_, (by repeat (first | exact Below.refl _ _ | apply Below.drew | refine Below.alloc ?_ (by simp <;> omega) _ | refine Below.setCell ?_ (by simp <;> omega) _))⟩
  all_goals go_light
  all_goals (first | (simp [Sp.belowA, Sp.belowB, Sp.belowOk, Sp.none, Sp.mn, Sp.mx, *]; done) | (simp [Sp.belowA, Sp.belowB, Sp.belowOk, Sp.none, Sp.mn, Sp.mx]; omega) | ((simp [Sp.belowA, Sp.belowB, Sp.belowOk, Sp.none, Sp.mn, Sp.mx]; repeat' split) <;> (first | omega | (simp_all; done) | (simp_all; omega))))

set_option maxHeartbeats 400000 in
theorem belowR3 (a b : Sp) (ha : a.Wf) (hb : b.Wf) (h1 : a.lo ≤ a.hi) (h2 : b.lo ≤ b.hi) (h3 : b.hi ≤ a.lo) (w : World) : Calls Try.prog 25 #[.agg #[.int .i64 a.lo, .int .i64 a.hi], .agg #[.int .i64 b.lo, .int .i64 b.hi]] w fun e w' => e = .returned (.tuple #[.agg #[.int .i64 (a.belowA b).lo, .int .i64 (a.belowA b).hi], .agg #[.int .i64 (a.belowB b).lo, .int .i64 (a.belowB b).hi], .bool (a.belowOk b)]) ∧ Below w.heap.size w w' := by
  obtain ⟨⟨_, _⟩, _, _⟩ := ha
  obtain ⟨⟨_, _⟩, _, _⟩ := hb
  go_enter Try.func25, Try.ntmps25
  go_wp2
  all_goals (try simp only [Exit.inBlock, Exit.then])
  all_goals refine ret_of ?_ rfl
  all_goals simp [results, Try.results25, go_sem]
  all_goals refine ⟨?_, (by repeat (first | exact Below.refl _ _ | apply Below.drew | refine Below.alloc ?_ (by simp <;> omega) _ | refine Below.setCell ?_ (by simp <;> omega) _))⟩
  all_goals go_light
  all_goals (first | (simp [Sp.belowA, Sp.belowB, Sp.belowOk, Sp.none, Sp.mn, Sp.mx, *]; done) | (simp [Sp.belowA, Sp.belowB, Sp.belowOk, Sp.none, Sp.mn, Sp.mx]; omega) | ((simp [Sp.belowA, Sp.belowB, Sp.belowOk, Sp.none, Sp.mn, Sp.mx]; repeat' split) <;> (first | omega | (simp_all; done) | (simp_all; omega))))

set_option maxHeartbeats 400000 in
theorem belowR4 (a b : Sp) (ha : a.Wf) (hb : b.Wf) (h1 : a.lo ≤ a.hi) (h2 : b.lo ≤ b.hi) (h3 : a.lo < b.hi) (w : World) : Calls Try.prog 25 #[.agg #[.int .i64 a.lo, .int .i64 a.hi], .agg #[.int .i64 b.lo, .int .i64 b.hi]] w fun e w' => e = .returned (.tuple #[.agg #[.int .i64 (a.belowA b).lo, .int .i64 (a.belowA b).hi], .agg #[.int .i64 (a.belowB b).lo, .int .i64 (a.belowB b).hi], .bool (a.belowOk b)]) ∧ Below w.heap.size w w' := by
  obtain ⟨⟨_, _⟩, _, _⟩ := ha
  obtain ⟨⟨_, _⟩, _, _⟩ := hb
  have e1 : IntKind.i64.wrap (b.hi - 1) = b.hi - 1 := IntWalk.i64_in _ (by omega)
  have e2 : IntKind.i64.wrap (a.lo + 1) = a.lo + 1 := IntWalk.i64_in _ (by omega)
  go_enter Try.func25, Try.ntmps25
  go_wp2
  go_region_held3 (fun w' => w'.cell? ⟨w.heap.size, 0, none⟩ = some (.int .i64 a.lo) ∧ w'.cell? ⟨w.heap.size, 1, none⟩ = some (.int .i64 a.hi) ∧ w'.cell? ⟨w.heap.size + 1, 0, none⟩ = some (.int .i64 b.lo) ∧ w'.cell? ⟨w.heap.size + 1, 1, none⟩ = some (.int .i64 b.hi)) (go_simp) (first | (go_at_call 33; refine (lesserR _ _ _).mono ?_; rintro e w' ⟨rfl, rfl⟩) | (go_at_call 32; refine (greaterR _ _ _).mono ?_; rintro e w' ⟨rfl, rfl⟩))
  go_wp2
  all_goals (try simp only [Exit.inBlock, Exit.then])
  all_goals refine ret_of ?_ rfl
  all_goals simp [results, Try.results25, go_sem]
  all_goals refine ⟨?_, (by repeat (first | exact Below.refl _ _ | apply Below.drew | refine Below.alloc ?_ (by simp <;> omega) _ | refine Below.setCell ?_ (by simp <;> omega) _))⟩
  all_goals go_light
  all_goals (first | (simp [Sp.belowA, Sp.belowB, Sp.belowOk, Sp.none, Sp.mn, Sp.mx, *]; done) | (simp [Sp.belowA, Sp.belowB, Sp.belowOk, Sp.none, Sp.mn, Sp.mx]; omega) | ((simp [Sp.belowA, Sp.belowB, Sp.belowOk, Sp.none, Sp.mn, Sp.mx]; repeat' split) <;> (first | omega | (simp_all; done) | (simp_all; omega))))

theorem belowR (a b : Sp) (ha : a.Wf) (hb : b.Wf) (w : World) : Calls Try.prog 25 #[.agg #[.int .i64 a.lo, .int .i64 a.hi], .agg #[.int .i64 b.lo, .int .i64 b.hi]] w fun e w' => e = .returned (.tuple #[.agg #[.int .i64 (a.belowA b).lo, .int .i64 (a.belowA b).hi], .agg #[.int .i64 (a.belowB b).lo, .int .i64 (a.belowB b).hi], .bool (a.belowOk b)]) ∧ Below w.heap.size w w' := by
  by_cases h1 : a.hi < a.lo
  · exact belowR1 a b ha hb h1 w
  · by_cases h2 : b.hi < b.lo
    · exact belowR2 a b ha hb (by omega) h2 w
    · by_cases h3 : b.hi ≤ a.lo
      · exact belowR3 a b ha hb (by omega) (by omega) h3 w
      · exact belowR4 a b ha hb (by omega) (by omega) (by omega) w

end Go.Proofs.Ytdoikgjdjdgnbaa

