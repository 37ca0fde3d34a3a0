/-
  Layer 2 (tree): the walks of counting and arity: what a kind has.
-/
import Derived.Test.YtdddppmfeoebgaaGreatDoorTurn
namespace Go.Proofs.YtdddppmfeoebgaaGreatDoor
open Go.RowKit
set_option linter.unusedSimpArgs false
set_option linter.unusedVariables false
abbrev fieldsV (k : Int) : Value := .agg #[.bool (cName k), .bool (cNum k), .bool (cA k), .bool (cB k), .bool (cBody k), .bool (cEls k), .bool (cCases k)]
abbrev fieldsC (k : Int) : Array Value := #[.bool (cName k), .bool (cNum k), .bool (cA k), .bool (cB k), .bool (cBody k), .bool (cEls k), .bool (cCases k)]
theorem fields_no {k : Int} (h : knownS k = false) : cName k = false ∧ cNum k = false ∧ cA k = false ∧ cB k = false ∧ cBody k = false ∧ cEls k = false ∧ cCases k = false := by
  simp only [knownS, Bool.and_eq_false_iff, decide_eq_false_iff_not] at h
  simp only [cName, cNum, cA, cB, cBody, cEls, cCases, Bool.or_eq_false_iff, beq_eq_false_iff_ne]
  omega
set_option maxHeartbeats 2000000 in
theorem countingP (k : Int) (w : World) : Calls Tryz.prog 41 #[.int .i64 k] w fun e w' => e = .returned (.tuple #[fieldsV k, .bool (knownS k)]) ∧ Below w.heap.size w w' := by
  rcases (by omega : k = 1 ∨ k = 2 ∨ k = 3 ∨ k = 4 ∨ k = 5 ∨ k = 6 ∨ k = 7 ∨ k = 8 ∨ k = 9 ∨ k = 10 ∨ (k ≠ 1 ∧ k ≠ 2 ∧ k ≠ 3 ∧ k ≠ 4 ∧ k ≠ 5 ∧ k ≠ 6 ∧ k ≠ 7 ∧ k ≠ 8 ∧ k ≠ 9 ∧ k ≠ 10)) with rfl | rfl | rfl | rfl | rfl | rfl | rfl | rfl | rfl | rfl | ⟨n1, n2, n3, n4, n5, n6, n7, n8, n9, n10⟩
  case inr.inr.inr.inr.inr.inr.inr.inr.inr.inr =>
    have hk : knownS k = false := by simp only [knownS, Bool.and_eq_false_iff, decide_eq_false_iff_not]; omega
    obtain ⟨e0, e1, e2, e3, e4, e5, e6⟩ := fields_no hk
    unfold fieldsV
    rw [hk, e0, e1, e2, e3, e4, e5, e6]
    clear hk e0 e1 e2 e3 e4 e5 e6
    have b1 : (k == 1) = false := by simpa using n1
    have b2 : (k == 2) = false := by simpa using n2
    have b3 : (k == 3) = false := by simpa using n3
    have b4 : (k == 4) = false := by simpa using n4
    have b5 : (k == 5) = false := by simpa using n5
    have b6 : (k == 6) = false := by simpa using n6
    have b7 : (k == 7) = false := by simpa using n7
    have b8 : (k == 8) = false := by simpa using n8
    have b9 : (k == 9) = false := by simpa using n9
    have b10 : (k == 10) = false := by simpa using n10
    clear n1 n2 n3 n4 n5 n6 n7 n8 n9 n10
    go_enter Tryz.func41, Tryz.ntmps41
    go_wp2
    refine ret_of ?_ rfl
    refine ⟨_, by simp [results, Tryz.results41, go_sem] <;> decide, rfl, ?_⟩
    exact ((Below.refl _ _).alloc (Nat.le_refl _) _)
  all_goals
    go_enter Tryz.func41, Tryz.ntmps41
    go_wp2
    refine ret_of ?_ rfl
    refine ⟨_, by simp [results, Tryz.results41, go_sem] <;> decide, rfl, ?_⟩
    exact ((Below.refl _ _).alloc (Nat.le_refl _) _)
theorem ar_no {k : Int} (h : ¬ (1 ≤ k ∧ k ≤ 6) ∧ k ≠ 20) : arD k = 2 ∧ namedD k = false ∧ knownE k = (decide (7 ≤ k) && decide (k ≤ 19)) := by
  refine ⟨?_, ?_, ?_⟩
  · unfold arD
    repeat' split
    all_goals simp_all
    all_goals omega
  · simp only [namedD, Bool.or_eq_false_iff, beq_eq_false_iff_ne]; omega
  · rw [Bool.eq_iff_iff]
    simp only [knownE, Bool.and_eq_true, decide_eq_true_eq]; omega
set_option maxHeartbeats 2000000 in
theorem arityP (k : Int) (w : World) : Calls Tryz.prog 69 #[.int .i64 k] w fun e w' => e = .returned (.tuple #[.int .i64 (arD k), .bool (namedD k), .bool (knownE k)]) ∧ w = w' := by
  rcases (by omega : k = 1 ∨ k = 2 ∨ k = 3 ∨ k = 4 ∨ k = 5 ∨ k = 6 ∨ k = 20 ∨ (k ≠ 1 ∧ k ≠ 2 ∧ k ≠ 3 ∧ k ≠ 4 ∧ k ≠ 5 ∧ k ≠ 6 ∧ k ≠ 20)) with rfl | rfl | rfl | rfl | rfl | rfl | rfl | ⟨n1, n2, n3, n4, n5, n6, n20⟩
  case inr.inr.inr.inr.inr.inr.inr =>
    obtain ⟨e0, e1, e2⟩ := ar_no (k := k) ⟨by omega, by omega⟩
    rw [e0, e1, e2]
    clear e0 e1 e2
    have b1 : (k == 1) = false := by simpa using n1
    have b2 : (k == 2) = false := by simpa using n2
    have b3 : (k == 3) = false := by simpa using n3
    have b4 : (k == 4) = false := by simpa using n4
    have b5 : (k == 5) = false := by simpa using n5
    have b6 : (k == 6) = false := by simpa using n6
    have b20 : (k == 20) = false := by simpa using n20
    cases h1 : decide (7 ≤ k) <;> cases h2 : decide (k ≤ 19)
    all_goals
      go_enter Tryz.func69, Tryz.ntmps69
      go_wp2
      refine ret_of ?_ rfl
      exact ⟨_, by simp [results, Tryz.results69, go_sem] <;> decide, rfl, rfl⟩
  all_goals
    go_enter Tryz.func69, Tryz.ntmps69
    go_wp2
    refine ret_of ?_ rfl
    exact ⟨_, by simp [results, Tryz.results69, go_sem] <;> decide, rfl, rfl⟩
end Go.Proofs.YtdddppmfeoebgaaGreatDoor
