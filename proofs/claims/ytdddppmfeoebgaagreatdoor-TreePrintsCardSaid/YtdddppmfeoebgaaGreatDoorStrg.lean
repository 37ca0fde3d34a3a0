/-
  Layer 2 (tree): how long the printer's text is, and the text.
-/
import Derived.Test.YtdddppmfeoebgaaGreatDoorPut
import Derived.RegionTactic
import Derived.BigRegion
namespace Go.Proofs.YtdddppmfeoebgaaGreatDoor
open Go.RowKit
set_option linter.unusedSimpArgs false
set_option linter.unusedVariables false
theorem lenP (W : World) (B g : Nat) (l : List UInt8) (d : Int) (h : Prn W B g l d) :
    Calls Tryz.prog 14 #[.pointer (some ⟨g, 0, none⟩)] W fun e w' => e = .returned (.int .i64 (l.length : Int)) ∧ W = w' := by
  obtain ⟨a, v, _, hp⟩ := h
  obtain ⟨A, c, rfl⟩ := ownB_slice hp.own
  have c1 : W.cell? ⟨g, 1, none⟩ = some (.slice A l.length c) := hp.whl.cell 1
  go_enter Tryz.func14, Tryz.ntmps14
  go_wp2
  go_ret
  exact ⟨rfl, rfl⟩
theorem whl_freeze {w : World} {b : Nat} {t : TypeId} {cs : Array Value} {p : Addr} {n : Nat} (h : Whl w b t cs) (hk : b ≠ p.block) : Whl (w.freeze p n) b t cs := by
  unfold World.freeze
  split
  · exact h
  · unfold Whl at *
    simp only [Array.getElem?_modify]
    rw [if_neg (fun e => hk e.symm)]
    exact h
set_option maxHeartbeats 2000000 in
set_option maxRecDepth 100000 in
theorem stringP (W : World) (B g : Nat) (l : List UInt8) (d : Int) (h : Prn W B g l d) :
    Calls Tryz.prog 15 #[.pointer (some ⟨g, 0, none⟩)] W fun e w' => e = .returned (strV l) ∧ Turn B g W w' := by
  obtain ⟨a, v, _, hp⟩ := h
  by_cases h0 : l = []
  · have hv := hp.nil h0
    subst hv
    subst h0
    have c1 : W.drew.cell? ⟨g, 1, none⟩ = some (.slice none 0 0) := hp.whl.cell 1
    have hUS := fun (w : World) (q : Option Addr) => Lib.run_unsafeString_none (P := Tryz.prog) w 81 3 9 q
    have hSD : (Builtin.unsafeSliceData_ #[50] 81 #[.slice none 0 0]).run Tryz.prog W.drew = .ok (.pointer none) W.drew := rfl
    go_enter Tryz.func15, Tryz.ntmps15
    go_wp2
    go_region
    all_goals (go_wp2; go_ret; exact ⟨rfl, (Turn.refl B g W).drew⟩)
  · have hl0 : l.length ≠ 0 := by simpa using h0
    have hown := hp.own
    have hwh := hp.whl
    obtain ⟨k, cap, cur, rfl, hbg, hg, hnc, hcm, hcs, htake⟩ : ∃ k cap cur, v = .slice (some ⟨k, 0, none⟩) l.length cap ∧ B ≤ k ∧ W.heap[k]? = some (.cells cur 5 (0, 0)) ∧ l.length ≤ cap ∧ cap ≤ maxLen ∧ cur.size = cap * 1 ∧ cur.toList.take (l.length * 1) = U8s l := by
      rcases hown.2 with ⟨_, hz⟩ | ⟨g, cap, cur, hv, r⟩
      · exact absurd hz hl0
      · exact ⟨g, cap, cur, hv, r⟩
    have c1 : W.drew.cell? ⟨g, 1, none⟩ = some (.slice (some ⟨k, 0, none⟩) l.length cap) := hwh.cell 1
    have hSD : (Builtin.unsafeSliceData_ #[50] 81 #[.slice (some ⟨k, 0, none⟩) l.length cap]).run Tryz.prog W.drew = .ok (.pointer (some ⟨k, 0, none⟩)) W.drew :=
      Lib.run_unsafeSliceData_row _ _ _ _ _ _ (by omega)
    have hUS : (Builtin.unsafeString_ #[81, 3] 9 #[.pointer (some ⟨k, 0, none⟩), .int .i64 l.length]).run Tryz.prog W.drew = .ok (strV l) (W.drew.freeze ⟨k, 0, none⟩ l.length) := by
      refine Lib.run_unsafeString_row W.drew 81 3 9 5 Tryz.underlying81 (by kernel_rfl) k cur.size (by have hg' : W.drew.heap[k]? = some (.cells cur 5 (0, 0)) := hg; simp [World.shape?, hg']) l h0 (by omega) (by unfold maxLen at hcm; omega) ?_
      intro j x hx
      exact hown.cells (g := k) rfl j (.int .u8 x.toNat) (by simp [U8s, hx])
    go_enter Tryz.func15, Tryz.ntmps15
    go_wp2
    go_region
    all_goals (go_wp2; go_ret; exact ⟨rfl, Lib.below_freeze (Below.drew (Below.refl B W)) (p := ⟨k, 0, none⟩) hbg _, fun b t cs hb ht hw => whl_freeze hw.drew (fun e => ownB_far hown hw ht (by rw [show b = k from e]; rfl))⟩)
end Go.Proofs.YtdddppmfeoebgaaGreatDoor
