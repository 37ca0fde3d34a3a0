/-
  Layer 9 (code): Known, inside a fence.
-/
import Derived.Test.YtpmffclepnkedaaDoorReadsR
import Derived.RangeFuncNested
import Derived.RangeFuncBound
import Derived.RangeFuncCalls
import Derived.RangeFuncLeaves
import Derived.Shelf.Abstract
import Derived.WalkKit
import Derived.OwnWalkIn
import Derived.TacticsInMore
import Derived.LoopNIn
import Derived.LoopIn
namespace Go.Proofs.YtpmffclepnkedaaDoor
open Go.RowKit Go.Shelf
set_option linter.unusedSimpArgs false
set_option linter.unusedVariables false
attribute [local go_sem] Oper.semAt_some

set_option maxRecDepth 100000 in
theorem known_in (F : Fence) (n : Nat) (h10 : F.fn 10) (hro : F.round = none) (op : Int) (w : World) :
    CallsIn F n Tryd.prog 10 #[.int .i64 op] w fun e w' => e = .returned (.bool (known op)) ∧ w = w' := by
  rcases (by omega : op < 0 ∨ (0 ≤ op ∧ op < 20) ∨ 20 ≤ op) with h | ⟨h, h'⟩ | h
  all_goals
    refine callsIn_of_wp Tryd.func10 rfl h10 ?_ hro
    simp only [Tryd.ntmps10, List.size_toArray, List.length_cons, List.length_nil, Nat.reduceAdd, Nat.reduceSub, Array.replicate_succ, Array.replicate_zero, List.push_toArray, List.append_toArray, List.nil_append, List.cons_append]
    gi_wp2
    go_ret
    exact ⟨by simp [known] <;> omega, rfl⟩
/-- What the iterator asks of a round: what lay below n0 lies there, and so do the cells that were made since the loop began. -/
def KeepI (n0 n1 : Nat) (A B : World) : Prop := Below n0 A B ∧ ∀ k o, n1 ≤ k → A.heap[k]? = some o → o.isCells = true → B.heap[k]? = some o
theorem keepI_t {n0 n1 : Nat} {A B C : World} (h : KeepI n0 n1 A B) (k : KeepI n0 n1 B C) : KeepI n0 n1 A C :=
  ⟨h.1.trans k.1, fun j o hj ho hc => k.2 j o hj (h.2 j o hj ho hc) hc⟩
theorem KeepI.whl {n0 n1 : Nat} {A B : World} (h : KeepI n0 n1 A B) {g : Nat} {t : TypeId} {cs : Array Value} (hg : n1 ≤ g) (hw : Whl A g t cs) : Whl B g t cs := h.2 g _ hg hw rfl
theorem KeepI.whlAt {n0 n1 : Nat} {A B : World} (h : KeepI n0 n1 A B) {g : Nat} {t : TypeId} {cs : Array Value} (hg : g < n0 ∨ n1 ≤ g) (hw : Whl A g t cs) : Whl B g t cs := by
  rcases hg with hg | hg
  · exact hw.below h.1 hg
  · exact h.whl hg hw
end Go.Proofs.YtpmffclepnkedaaDoor
