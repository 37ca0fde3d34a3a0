/-
  Layer 2 (tree): the walks of full and zero.
-/
import Derived.Test.YtdddppmfeoebgaaGreatDoorTreeP
import Derived.IntWalk
import Derived.WalkMore
namespace Go.Proofs.YtdddppmfeoebgaaGreatDoor
open Go.RowKit
set_option linter.unusedSimpArgs false
set_option linter.unusedVariables false
theorem fullP (n : Int) (g : Nat) (w : World) (h : Whl w g 72 #[.int .i64 n]) :
    Calls Tryz.prog 44 #[.pointer (some ⟨g, 0, none⟩)] w fun e w' => e = .returned (.bool (decide (4096 < n))) ∧ w = w' := by
  have c0 : w.cell? ⟨g, 0, none⟩ = some (.int .i64 n) := h.cell 0
  have lg := h.lt
  go_enter Tryz.func44, Tryz.ntmps44
  go_wp2
  go_ret
  exact ⟨rfl, rfl⟩
theorem zeroP (x : ExD) (h : Hd) (w : World) (hn : x.name.size ≤ maxLen) :
    Calls Tryz.prog 45 #[.agg #[.int .i64 x.kind, .int .i64 x.n, .string x.name, .slice h.a x.args.length h.c]] w fun e w' => e = .returned (.bool (zeroE x)) ∧ Below w.heap.size w w' := by
  have hl : (x.name.toList == []) = (x.name.size == 0) := by
    rw [ByteArray.toList_eq]
    rw [Bool.eq_iff_iff, beq_iff_eq, beq_iff_eq]
    exact List.length_eq_zero_iff.symm.trans (by rw [Array.length_toList]; rfl)
  have hz : zeroE x = (x.kind == 0 && x.n == 0 && x.name.size == 0 && x.args.length == 0) := rfl
  have ha : ((x.args.length : Int) == 0) = (x.args.length == 0) := by rw [Bool.eq_iff_iff, beq_iff_eq, beq_iff_eq]; omega
  cases h1 : (x.kind == 0) <;> cases h2 : (x.n == 0) <;> cases h3 : (x.name.size == 0) <;> cases h4 : (x.args.length == 0)
  all_goals
    rw [h3] at hl
    rw [h4] at ha
    rw [hz, h1, h2, h3, h4]
    clear h3 h4 hz
    go_enter Tryz.func45, Tryz.ntmps45
    go_wp2
    go_ret
    exact ⟨rfl, by repeat (first | exact Below.refl _ _ | (with_reducible refine Below.alloc ?_ (by simp) _) | (with_reducible refine below_alloc ?_ _) | (with_reducible refine Below.setCell ?_ (by simp) _))⟩
end Go.Proofs.YtdddppmfeoebgaaGreatDoor
