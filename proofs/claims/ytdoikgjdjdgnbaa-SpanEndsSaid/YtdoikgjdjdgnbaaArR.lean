/-
  Layer 8 (span): the walks of the reference's arithmetic.
-/
import Derived.Test.YtdoikgjdjdgnbaaSpanR
import Derived.Test.YtdoikgjdjdgnbaaPlainD
import Derived.Deep.QuietTactic
import Derived.BigQuiet
import Derived.BigRegion
import Derived.Deep.RegionHeld3
import Derived.Deep.DrawnRows
import Derived.BigRegion
namespace Go.Proofs.Ytdoikgjdjdgnbaa
open Go.RowKit
set_option linter.unusedSimpArgs false
set_option linter.unusedVariables false
attribute [local go_sem ↓] Go.wp_at_zero Go.wp_at_succ

set_option maxHeartbeats 400000 in
theorem sumR1 (a b : Int) (ha : In64 a) (hb : In64 b) (h1 : 0 < b) (h2 : 9223372036854775807 - b < a) (w : World) : Calls Try.prog 43 #[.int .i64 a, .int .i64 b] w fun e w' => e = .returned (.tuple #[.int .i64 (0), .bool false]) ∧ w = w' := by
  obtain ⟨_, _⟩ := ha
  obtain ⟨_, _⟩ := hb
  go_enter Try.func43, Try.ntmps43
  go_wp2
  all_goals go_ret2
  all_goals refine ⟨?_, rfl⟩
  all_goals go_light
  all_goals first | rfl | simp

set_option maxHeartbeats 400000 in
theorem sumR2 (a b : Int) (ha : In64 a) (hb : In64 b) (h1 : b < 0) (h2 : a < -9223372036854775808 - b) (w : World) : Calls Try.prog 43 #[.int .i64 a, .int .i64 b] w fun e w' => e = .returned (.tuple #[.int .i64 (0), .bool false]) ∧ w = w' := by
  obtain ⟨_, _⟩ := ha
  obtain ⟨_, _⟩ := hb
  go_enter Try.func43, Try.ntmps43
  go_wp2
  all_goals go_ret2
  all_goals refine ⟨?_, rfl⟩
  all_goals go_light
  all_goals first | rfl | simp

set_option maxHeartbeats 400000 in
theorem sumR3 (a b : Int) (ha : In64 a) (hb : In64 b) (h1 : 0 < b) (h2 : ¬ 9223372036854775807 - b < a) (w : World) : Calls Try.prog 43 #[.int .i64 a, .int .i64 b] w fun e w' => e = .returned (.tuple #[.int .i64 (a + b), .bool true]) ∧ w = w' := by
  obtain ⟨_, _⟩ := ha
  obtain ⟨_, _⟩ := hb
  go_enter Try.func43, Try.ntmps43
  go_wp2
  all_goals go_ret2
  all_goals refine ⟨?_, rfl⟩
  all_goals go_light
  all_goals first | rfl | simp

set_option maxHeartbeats 400000 in
theorem sumR4 (a b : Int) (ha : In64 a) (hb : In64 b) (h1 : b < 0) (h2 : ¬ a < -9223372036854775808 - b) (w : World) : Calls Try.prog 43 #[.int .i64 a, .int .i64 b] w fun e w' => e = .returned (.tuple #[.int .i64 (a + b), .bool true]) ∧ w = w' := by
  obtain ⟨_, _⟩ := ha
  obtain ⟨_, _⟩ := hb
  go_enter Try.func43, Try.ntmps43
  go_wp2
  all_goals go_ret2
  all_goals refine ⟨?_, rfl⟩
  all_goals go_light
  all_goals first | rfl | simp

set_option maxHeartbeats 400000 in
theorem sumR5 (a b : Int) (ha : In64 a) (hb : In64 b) (h1 : b = 0) (w : World) : Calls Try.prog 43 #[.int .i64 a, .int .i64 b] w fun e w' => e = .returned (.tuple #[.int .i64 (a + 0), .bool true]) ∧ w = w' := by
  obtain ⟨_, _⟩ := ha
  obtain ⟨_, _⟩ := hb
  subst h1
  go_enter Try.func43, Try.ntmps43
  go_wp2
  all_goals go_ret2
  all_goals refine ⟨?_, rfl⟩
  all_goals go_light
  all_goals first | rfl | simp

theorem sumR (a b : Int) (ha : In64 a) (hb : In64 b) (w : World) : Calls Try.prog 43 #[.int .i64 a, .int .i64 b] w fun e w' => e = .returned (.tuple #[.int .i64 (if Sp.sumOk a b = true then a + b else 0), .bool (Sp.sumOk a b)]) ∧ w = w' := by
  have hb' := hb
  have ha' := ha
  obtain ⟨_, _⟩ := ha'
  obtain ⟨_, _⟩ := hb'
  rcases (by omega : (0 < b ∧ 9223372036854775807 - b < a) ∨ (b < 0 ∧ a < -9223372036854775808 - b) ∨ (0 < b ∧ ¬ 9223372036854775807 - b < a) ∨ (b < 0 ∧ ¬ a < -9223372036854775808 - b) ∨ b = 0) with ⟨h1, h2⟩ | ⟨h1, h2⟩ | ⟨h1, h2⟩ | ⟨h1, h2⟩ | h1
  · have e : Sp.sumOk a b = false := by rw [Bool.eq_false_iff, Ne, sumOk_iff]; omega
    rw [e]; exact sumR1 a b ha hb h1 h2 w
  · have e : Sp.sumOk a b = false := by rw [Bool.eq_false_iff, Ne, sumOk_iff]; omega
    rw [e]; exact sumR2 a b ha hb h1 h2 w
  · have e : Sp.sumOk a b = true := by rw [sumOk_iff]; omega
    rw [e]; exact sumR3 a b ha hb h1 h2 w
  · have e : Sp.sumOk a b = true := by rw [sumOk_iff]; omega
    rw [e]; exact sumR4 a b ha hb h1 h2 w
  · have e : Sp.sumOk a b = true := by rw [sumOk_iff]; omega
    rw [e]; have := sumR5 a b ha hb h1 w; subst h1; exact this

set_option maxHeartbeats 400000 in
theorem lessR1 (a b : Int) (ha : In64 a) (hb : In64 b) (h1 : b < 0) (h2 : 9223372036854775807 + b < a) (w : World) : Calls Try.prog 45 #[.int .i64 a, .int .i64 b] w fun e w' => e = .returned (.tuple #[.int .i64 (0), .bool false]) ∧ w = w' := by
  obtain ⟨_, _⟩ := ha
  obtain ⟨_, _⟩ := hb
  go_enter Try.func45, Try.ntmps45
  go_wp2
  all_goals go_ret2
  all_goals refine ⟨?_, rfl⟩
  all_goals go_light
  all_goals first | rfl | simp

set_option maxHeartbeats 400000 in
theorem lessR2 (a b : Int) (ha : In64 a) (hb : In64 b) (h1 : 0 < b) (h2 : a < -9223372036854775808 + b) (w : World) : Calls Try.prog 45 #[.int .i64 a, .int .i64 b] w fun e w' => e = .returned (.tuple #[.int .i64 (0), .bool false]) ∧ w = w' := by
  obtain ⟨_, _⟩ := ha
  obtain ⟨_, _⟩ := hb
  go_enter Try.func45, Try.ntmps45
  go_wp2
  all_goals go_ret2
  all_goals refine ⟨?_, rfl⟩
  all_goals go_light
  all_goals first | rfl | simp

set_option maxHeartbeats 400000 in
theorem lessR3 (a b : Int) (ha : In64 a) (hb : In64 b) (h1 : b < 0) (h2 : ¬ 9223372036854775807 + b < a) (w : World) : Calls Try.prog 45 #[.int .i64 a, .int .i64 b] w fun e w' => e = .returned (.tuple #[.int .i64 (a - b), .bool true]) ∧ w = w' := by
  obtain ⟨_, _⟩ := ha
  obtain ⟨_, _⟩ := hb
  go_enter Try.func45, Try.ntmps45
  go_wp2
  all_goals go_ret2
  all_goals refine ⟨?_, rfl⟩
  all_goals go_light
  all_goals first | rfl | simp

set_option maxHeartbeats 400000 in
theorem lessR4 (a b : Int) (ha : In64 a) (hb : In64 b) (h1 : 0 < b) (h2 : ¬ a < -9223372036854775808 + b) (w : World) : Calls Try.prog 45 #[.int .i64 a, .int .i64 b] w fun e w' => e = .returned (.tuple #[.int .i64 (a - b), .bool true]) ∧ w = w' := by
  obtain ⟨_, _⟩ := ha
  obtain ⟨_, _⟩ := hb
  go_enter Try.func45, Try.ntmps45
  go_wp2
  all_goals go_ret2
  all_goals refine ⟨?_, rfl⟩
  all_goals go_light
  all_goals first | rfl | simp

set_option maxHeartbeats 400000 in
theorem lessR5 (a b : Int) (ha : In64 a) (hb : In64 b) (h1 : b = 0) (w : World) : Calls Try.prog 45 #[.int .i64 a, .int .i64 b] w fun e w' => e = .returned (.tuple #[.int .i64 (a - 0), .bool true]) ∧ w = w' := by
  obtain ⟨_, _⟩ := ha
  obtain ⟨_, _⟩ := hb
  subst h1
  go_enter Try.func45, Try.ntmps45
  go_wp2
  all_goals go_ret2
  all_goals refine ⟨?_, rfl⟩
  all_goals go_light
  all_goals first | rfl | simp

theorem lessR (a b : Int) (ha : In64 a) (hb : In64 b) (w : World) : Calls Try.prog 45 #[.int .i64 a, .int .i64 b] w fun e w' => e = .returned (.tuple #[.int .i64 (if Sp.lessOk a b = true then a - b else 0), .bool (Sp.lessOk a b)]) ∧ w = w' := by
  have hb' := hb
  have ha' := ha
  obtain ⟨_, _⟩ := ha'
  obtain ⟨_, _⟩ := hb'
  rcases (by omega : (b < 0 ∧ 9223372036854775807 + b < a) ∨ (0 < b ∧ a < -9223372036854775808 + b) ∨ (b < 0 ∧ ¬ 9223372036854775807 + b < a) ∨ (0 < b ∧ ¬ a < -9223372036854775808 + b) ∨ b = 0) with ⟨h1, h2⟩ | ⟨h1, h2⟩ | ⟨h1, h2⟩ | ⟨h1, h2⟩ | h1
  · have e : Sp.lessOk a b = false := by rw [Bool.eq_false_iff, Ne, lessOk_iff]; omega
    rw [e]; exact lessR1 a b ha hb h1 h2 w
  · have e : Sp.lessOk a b = false := by rw [Bool.eq_false_iff, Ne, lessOk_iff]; omega
    rw [e]; exact lessR2 a b ha hb h1 h2 w
  · have e : Sp.lessOk a b = true := by rw [lessOk_iff]; omega
    rw [e]; exact lessR3 a b ha hb h1 h2 w
  · have e : Sp.lessOk a b = true := by rw [lessOk_iff]; omega
    rw [e]; exact lessR4 a b ha hb h1 h2 w
  · have e : Sp.lessOk a b = true := by rw [lessOk_iff]; omega
    rw [e]; have := lessR5 a b ha hb h1 w; subst h1; exact this

set_option maxHeartbeats 400000 in
theorem otherR1 (a b : Int) (h : a = -1) (w : World) : Calls Try.prog 51 #[.int .i64 a, .int .i64 b] w fun e w' => e = .returned (.int .i64 b) ∧ w = w' := by
  subst h
  go_enter Try.func51, Try.ntmps51
  go_wp2
  all_goals go_ret
  all_goals refine ⟨?_, rfl⟩
  all_goals go_light
  all_goals rfl

set_option maxHeartbeats 400000 in
theorem otherR2 (a b : Int) (h : (a == -1) = false) (w : World) : Calls Try.prog 51 #[.int .i64 a, .int .i64 b] w fun e w' => e = .returned (.int .i64 a) ∧ w = w' := by
  go_enter Try.func51, Try.ntmps51
  go_wp2
  all_goals go_ret
  all_goals refine ⟨?_, rfl⟩
  all_goals go_light
  all_goals rfl

theorem otherR (a b : Int) (w : World) : Calls Try.prog 51 #[.int .i64 a, .int .i64 b] w fun e w' => e = .returned (.int .i64 (if a = -1 then b else a)) ∧ w = w' := by
  by_cases h : a = -1
  · rw [if_pos h]; exact otherR1 a b h w
  · rw [if_neg h]; exact otherR2 a b (by simpa using h) w

set_option maxHeartbeats 400000 in
theorem productR0 (a b : Int) (ha : In64 a) (hb : In64 b) (h : (a == 0) = true) (w : World) : Calls Try.prog 46 #[.int .i64 a, .int .i64 b] w fun e w' => e = .returned (.tuple #[.int .i64 0, .bool true]) ∧ w = w' := by
  go_enter Try.func46, Try.ntmps46
  go_wp2
  all_goals go_ret2
  all_goals refine ⟨?_, rfl⟩
  all_goals go_light
  all_goals rfl

set_option maxHeartbeats 400000 in
theorem productR1 (a b : Int) (ha : In64 a) (hb : In64 b) (h : (a == 0) = false) (h2 : (b == 0) = true) (w : World) : Calls Try.prog 46 #[.int .i64 a, .int .i64 b] w fun e w' => e = .returned (.tuple #[.int .i64 0, .bool true]) ∧ w = w' := by
  go_enter Try.func46, Try.ntmps46
  go_wp2
  all_goals go_ret2
  all_goals refine ⟨?_, rfl⟩
  all_goals go_light
  all_goals rfl

set_option maxHeartbeats 400000 in
theorem productR2 (a b : Int) (ha : In64 a) (hb : In64 b) (h1 : (a == 0) = false) (h2 : (b == 0) = false) (h3 : (a == -1) = true) (w : World) : Calls Try.prog 46 #[.int .i64 a, .int .i64 b] w fun e w' => e = .returned (.tuple #[.int .i64 (if Sp.lessOk 0 (if a = -1 then b else a) = true then 0 - (if a = -1 then b else a) else 0), .bool (Sp.lessOk 0 (if a = -1 then b else a))]) ∧ w = w' := by
  have ho : In64 (if a = -1 then b else a) := by split <;> assumption
  have HO := Lib.hid ho; clear ho
  go_enter Try.func46, Try.ntmps46
  go_wp2_with (first
    | (go_at_call 51; refine (otherR a b _).mono ?_; rintro e w' ⟨rfl, rfl⟩)
    | (go_at_call 45; refine (lessR 0 (if a = -1 then b else a) ⟨by decide, by decide⟩ HO.out _).mono ?_; rintro e w' ⟨rfl, rfl⟩))
  all_goals go_ret2
  all_goals refine ⟨?_, rfl⟩
  all_goals go_light
  all_goals rfl

set_option maxHeartbeats 400000 in
theorem productR3 (a b : Int) (ha : In64 a) (hb : In64 b) (h1 : (a == 0) = false) (h2 : (b == 0) = false) (h3 : (a == -1) = false) (h4 : (b == -1) = true) (w : World) : Calls Try.prog 46 #[.int .i64 a, .int .i64 b] w fun e w' => e = .returned (.tuple #[.int .i64 (if Sp.lessOk 0 (if a = -1 then b else a) = true then 0 - (if a = -1 then b else a) else 0), .bool (Sp.lessOk 0 (if a = -1 then b else a))]) ∧ w = w' := by
  have ho : In64 (if a = -1 then b else a) := by split <;> assumption
  have HO := Lib.hid ho; clear ho
  go_enter Try.func46, Try.ntmps46
  go_wp2_with (first
    | (go_at_call 51; refine (otherR a b _).mono ?_; rintro e w' ⟨rfl, rfl⟩)
    | (go_at_call 45; refine (lessR 0 (if a = -1 then b else a) ⟨by decide, by decide⟩ HO.out _).mono ?_; rintro e w' ⟨rfl, rfl⟩))
  all_goals go_ret2
  all_goals refine ⟨?_, rfl⟩
  all_goals go_light
  all_goals rfl

set_option maxHeartbeats 400000 in
theorem productR4 (a b : Int) (ha : In64 a) (hb : In64 b) (h1 : (a == 0) = false) (h2 : (b == 0) = false) (h3 : (a == -1) = false) (h4 : (b == -1) = false) (g1 : (qd (wrap64 (a * b)) b == a) = false) (w : World) : Calls Try.prog 46 #[.int .i64 a, .int .i64 b] w fun e w' => e = .returned (.tuple #[.int .i64 (wrap64 (a * b)), .bool (false)]) ∧ Below w.heap.size w w' := by
  have n1 : ¬ a = 0 := by simpa using h1
  have n2 : ¬ b = 0 := by simpa using h2
  have n3 : ¬ a = -1 := by simpa using h3
  have n4 : ¬ b = -1 := by simpa using h4
  have e1 : IntKind.i64.wrap ((wrap64 (a * b)).tdiv b) = qd (wrap64 (a * b)) b := qd_wrap (wrap64_In _) n2 n4
  have e2 : IntKind.i64.wrap ((wrap64 (a * b)).tdiv a) = qd (wrap64 (a * b)) a := qd_wrap (wrap64_In _) n1 n3
  clear n3 n4 ha hb
  go_enter Try.func46, Try.ntmps46
  go_wp2
  go_region
  all_goals go_wp2
  all_goals go_ret2
  all_goals refine ⟨?_, (by repeat (first | exact Below.refl _ _ | apply Below.drew | refine Below.alloc ?_ (by simp <;> omega) _ | refine Below.setCell ?_ (by simp <;> omega) _))⟩
  all_goals go_light
  all_goals rfl

set_option maxHeartbeats 400000 in
theorem productR5 (a b : Int) (ha : In64 a) (hb : In64 b) (h1 : (a == 0) = false) (h2 : (b == 0) = false) (h3 : (a == -1) = false) (h4 : (b == -1) = false) (g1 : (qd (wrap64 (a * b)) b == a) = true) (w : World) : Calls Try.prog 46 #[.int .i64 a, .int .i64 b] w fun e w' => e = .returned (.tuple #[.int .i64 (wrap64 (a * b)), .bool (qd (wrap64 (a * b)) a == b)]) ∧ Below w.heap.size w w' := by
  have n1 : ¬ a = 0 := by simpa using h1
  have n2 : ¬ b = 0 := by simpa using h2
  have n3 : ¬ a = -1 := by simpa using h3
  have n4 : ¬ b = -1 := by simpa using h4
  have e1 : IntKind.i64.wrap ((wrap64 (a * b)).tdiv b) = qd (wrap64 (a * b)) b := qd_wrap (wrap64_In _) n2 n4
  have e2 : IntKind.i64.wrap ((wrap64 (a * b)).tdiv a) = qd (wrap64 (a * b)) a := qd_wrap (wrap64_In _) n1 n3
  clear n3 n4 ha hb
  go_enter Try.func46, Try.ntmps46
  go_wp2
  go_region
  all_goals go_wp2
  all_goals go_ret2
  all_goals refine ⟨?_, (by repeat (first | exact Below.refl _ _ | apply Below.drew | refine Below.alloc ?_ (by simp <;> omega) _ | refine Below.setCell ?_ (by simp <;> omega) _))⟩
  all_goals go_light
  all_goals rfl

theorem productR (a b : Int) (ha : In64 a) (hb : In64 b) (w : World) : Calls Try.prog 46 #[.int .i64 a, .int .i64 b] w fun e w' => e = .returned (.tuple #[.int .i64 (prodV a b), .bool (mulOk a b)]) ∧ Below w.heap.size w w' := by
  have zero : a = 0 ∨ b = 0 → prodV a b = 0 ∧ mulOk a b = true := fun h => ⟨by unfold prodV; rw [if_pos h], by
    rw [mulOk_iff]; rcases h with rfl | rfl <;> simp⟩
  cases h1 : (a == 0)
  · have n1 : ¬ a = 0 := by simpa using h1
    cases h2 : (b == 0)
    · have n2 : ¬ b = 0 := by simpa using h2
      have one : a = -1 ∨ b = -1 → prodV a b = (if Sp.lessOk 0 (if a = -1 then b else a) = true then 0 - (if a = -1 then b else a) else 0) ∧ mulOk a b = Sp.lessOk 0 (if a = -1 then b else a) := fun h => by
        refine ⟨?_, mulOk_one h⟩
        unfold prodV
        rw [if_neg (by omega), if_pos h, mulOk_one h]
        congr 1
        rcases h with h | h
        · subst h; simp
        · subst h
          by_cases ha : a = -1
          · subst ha; simp
          · rw [if_neg ha]; simp
      cases h3 : (a == -1)
      · have n3 : ¬ a = -1 := by simpa using h3
        cases h4 : (b == -1)
        · have n4 : ¬ b = -1 := by simpa using h4
          have ev : prodV a b = wrap64 (a * b) := by unfold prodV; rw [if_neg (by omega), if_neg (by omega)]
          rw [ev, ← prod_ok ha hb n1 n2 n3 n4]
          cases g1 : (qd (wrap64 (a * b)) b == a)
          · have e : decide ((wrap64 (a * b)).tdiv b = a) = false := by simpa [qd] using g1
            rw [e, Bool.false_and]
            exact productR4 a b ha hb h1 h2 h3 h4 g1 w
          · have e : decide ((wrap64 (a * b)).tdiv b = a) = true := by simpa [qd] using g1
            have e2 : decide ((wrap64 (a * b)).tdiv a = b) = (qd (wrap64 (a * b)) a == b) := by rw [Bool.eq_iff_iff]; simp [qd]
            rw [e, Bool.true_and, e2]
            exact productR5 a b ha hb h1 h2 h3 h4 g1 w
        · obtain ⟨e1, e2⟩ := one (.inr (by simpa using h4))
          rw [e1, e2]
          exact (productR3 a b ha hb h1 h2 h3 h4 w).mono fun e w' ⟨he, hw⟩ => ⟨he, hw ▸ Below.refl _ _⟩
      · obtain ⟨e1, e2⟩ := one (.inl (by simpa using h3))
        rw [e1, e2]
        exact (productR2 a b ha hb h1 h2 h3 w).mono fun e w' ⟨he, hw⟩ => ⟨he, hw ▸ Below.refl _ _⟩
    · obtain ⟨e1, e2⟩ := zero (.inr (by simpa using h2))
      rw [e1, e2]
      exact (productR1 a b ha hb h1 h2 w).mono fun e w' ⟨he, hw⟩ => ⟨he, hw ▸ Below.refl _ _⟩
  · obtain ⟨e1, e2⟩ := zero (.inl (by simpa using h1))
    rw [e1, e2]
    exact (productR0 a b ha hb h1 w).mono fun e w' ⟨he, hw⟩ => ⟨he, hw ▸ Below.refl _ _⟩

end Go.Proofs.Ytdoikgjdjdgnbaa

