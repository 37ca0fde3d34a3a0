/-
  Layer 2 (tree): the walk of own: what a statement has itself.
-/
import Derived.Test.YtdddppmfeoebgaaGreatDoorOwnB
import Derived.Test.YtdddppmfeoebgaaGreatDoorOwnC
namespace Go.Proofs.YtdddppmfeoebgaaGreatDoor
open Go.RowKit
set_option linter.unusedSimpArgs false
set_option linter.unusedVariables false
set_option maxRecDepth 100000 in
set_option maxHeartbeats 4000000 in
theorem own_no (x : StD) (hk : knownS x.kind = false) (h : HdS) (w : World) :
    Calls Tryz.prog 42 #[.agg (stC x h), .agg #[.bool false, .bool false, .bool false, .bool false, .bool false, .bool false, .bool false], .bool false] w fun e w' => e = .returned (.int .i64 (ownS x)) ∧ Below w.heap.size w w' := by
  have HO := Lib.hid (show ownS x = 5 by
    have e : formS x = false := by simp only [formS, hk, Bool.false_and]
    rw [ownS, e]; rfl)
  clear hk
  go_enter Tryz.func42, Tryz.ntmps42
  simp only [List.append_eq, List.cons_append, List.nil_append]
  go_wp2
  refine ret_of ?_ rfl
  exact ⟨_, by simp [results, Tryz.results42, go_sem]; rfl, by rw [HO.out], (below_alloc (below_alloc (Below.refl _ _) _) _)⟩
theorem ownP (x : StD) (h : HdS) (q : Nat → Hd) (B : Nat) (w : World) (hB : B ≤ w.heap.size) (hin : StIn w B x h q) :
    Calls Tryz.prog 42 #[.agg (stC x h), fieldsV x.kind, .bool (knownS x.kind)] w fun e w' => e = .returned (.int .i64 (ownS x)) ∧ Below w.heap.size w w' := by
  cases hk : knownS x.kind
  · have := own_no x hk h w
    obtain ⟨e0, e1, e2, e3, e4, e5, e6⟩ := fields_no hk
    unfold fieldsV
    rw [e0, e1, e2, e3, e4, e5, e6]
    exact this
  · simp only [knownS, Bool.and_eq_true, decide_eq_true_eq] at hk
    rcases (by omega : x.kind = 1 ∨ x.kind = 2 ∨ x.kind = 3 ∨ x.kind = 4 ∨ x.kind = 5 ∨ x.kind = 6 ∨ x.kind = 7 ∨ x.kind = 8 ∨ x.kind = 9 ∨ x.kind = 10) with e | e | e | e | e | e | e | e | e | e
    · have := own_1 x e h q B w hB hin; unfold fieldsV; rw [e]; exact this
    · have := own_2 x e h q B w hB hin; unfold fieldsV; rw [e]; exact this
    · have := own_3 x e h q B w hB hin; unfold fieldsV; rw [e]; exact this
    · have := own_4 x e h q B w hB hin; unfold fieldsV; rw [e]; exact this
    · have := own_5 x e h q B w hB hin; unfold fieldsV; rw [e]; exact this
    · have := own_6 x e h q B w hB hin; unfold fieldsV; rw [e]; exact this
    · have := own_7 x e h q B w hB hin; unfold fieldsV; rw [e]; exact this
    · have := own_8 x e h q B w hB hin; unfold fieldsV; rw [e]; exact this
    · have := own_9 x e h q B w hB hin; unfold fieldsV; rw [e]; exact this
    · have := own_10 x e h q B w hB hin; unfold fieldsV; rw [e]; exact this
end Go.Proofs.YtdddppmfeoebgaaGreatDoor
