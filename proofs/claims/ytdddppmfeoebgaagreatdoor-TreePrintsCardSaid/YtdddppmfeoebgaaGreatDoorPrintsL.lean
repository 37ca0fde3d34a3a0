/-
  Layer 2 (tree): the walk of TreePrints.
-/
import Derived.Test.YtdddppmfeoebgaaGreatDoorAwakeA
import Derived.Test.YtdddppmfeoebgaaGreatDoorPrintR
import Derived.Laws.StructEq
namespace Go.Proofs.YtdddppmfeoebgaaGreatDoor
open Go.RowKit
set_option linter.unusedSimpArgs false
set_option linter.unusedVariables false
set_option maxRecDepth 100000 in
set_option maxHeartbeats 4000000 in
theorem printsL (p : PrD) (wa fa : Option Addr) (uc vc : Nat) (w : World) (hp : PrOk w w.heap.size p wa fa) (ht : Pow10 w) :
    Calls Tryz.prog 3 #[prV p wa fa uc vc] w fun e w' => e = .returned (.bool true) ∧ Below w.heap.size w w' := by
  have X0 := Whl.new w 25 (prC p wa fa uc vc)
  have K0 := below_alloc (Below.refl w.heap.size w) (.cells (prC p wa fa uc vc) 25)
  have HP := Lib.hid hp
  have HT := Lib.hid ht
  have HA := Lib.hid (awakeL _ (ht.step K0))
  clear hp ht
  obtain ⟨x0, x1⟩ := X0.c2
  have h1 : ∀ W, PrOk W W.heap.size p wa fa → Pow10 W → Calls Tryz.prog 5 #[prV p wa fa uc vc] W fun e W' => e = .returned (.tuple #[strV (printD p).1, faultV (printD p).2]) ∧ Below W.heap.size W W' := fun W h h2 => printP p wa fa uc vc _ W (Nat.le_refl _) h h2
  have h2 : ∀ W, PrOk W W.heap.size p wa fa → Calls Tryz.prog 6 #[prV p wa fa uc vc] W fun e W' => e = .returned (.tuple #[strV (printD p).1, faultV (printD p).2]) ∧ Below W.heap.size W W' := fun W h => printRef p wa fa uc vc _ W (Nat.le_refl _) h
  generalize (printD p).1 = S at h1 h2
  generalize (printD p).2 = F at h1 h2
  have H1 := Lib.hid h1
  have H2 := Lib.hid h2
  clear h1 h2
  go_enter Tryz.func3, Tryz.ntmps3
  go_upto_region 3 with (go_at_call 4; go_must (refine HA.out.mono ?_; rintro e w1 ⟨rfl, hb1⟩; have X1 := X0.below' hb1; have K1 := below_step K0 hb1; clear x0 x1; obtain ⟨x0, x1⟩ := X1.c2; have lx1 := X1.lt))
  go_upto_region 4 with (go_at_call 5; go_must (refine (H1.out w1 (HP.out.step K1) (HT.out.step K1)).mono ?_; rintro e w2 ⟨rfl, hb2⟩; have X2 := X1.below' hb2; have K2 := below_step K1 hb2; clear x0 x1; obtain ⟨x0, x1⟩ := X2.c2; have lx2 := X2.lt))
  have F3 := Whl.new w2 29 (#[.int .i64 F.e, .int .i64 (F.fn : Int), .int .i64 (F.at_ : Int)])
  have X3 := X2.alloc (.cells (#[.int .i64 F.e, .int .i64 (F.fn : Int), .int .i64 (F.at_ : Int)]) 29)
  have K3 := below_alloc K2 (.cells (#[.int .i64 F.e, .int .i64 (F.fn : Int), .int .i64 (F.at_ : Int)]) 29)
  generalize w2.alloc (.cells (#[.int .i64 F.e, .int .i64 (F.fn : Int), .int .i64 (F.at_ : Int)]) 29) = v3 at F3 X3 K3 ⊢
  obtain ⟨fb, hfb⟩ : ∃ fb, fb = w2.heap.size := ⟨_, rfl⟩
  rw [← hfb] at F3 ⊢
  clear x0 x1 X0 X1 X2 K0 K1 K2 hb1 hb2 lx1 lx2 hfb HA
  obtain ⟨x0, x1⟩ := X3.c2
  have lx3 := X3.lt
  have lf3 := F3.lt
  go_upto_region 5 with (go_at_call 6; go_must (refine (H2.out v3 (HP.out.step K3)).mono ?_; rintro e w4 ⟨rfl, hb4⟩; have F4 := F3.below' hb4; have K4 := below_step K3 hb4))
  have G5 := Whl.new w4 29 (#[.int .i64 F.e, .int .i64 (F.fn : Int), .int .i64 (F.at_ : Int)])
  have F5 := F4.alloc (.cells (#[.int .i64 F.e, .int .i64 (F.fn : Int), .int .i64 (F.at_ : Int)]) 29)
  have K5 := below_alloc K4 (.cells (#[.int .i64 F.e, .int .i64 (F.fn : Int), .int .i64 (F.at_ : Int)]) 29)
  generalize w4.alloc (.cells (#[.int .i64 F.e, .int .i64 (F.fn : Int), .int .i64 (F.at_ : Int)]) 29) = v5 at G5 F5 K5 ⊢
  obtain ⟨gb, hgb⟩ : ∃ gb, gb = w4.heap.size := ⟨_, rfl⟩
  rw [← hgb] at G5 ⊢
  clear x0 x1 X3 K3 hb4 F3 F4 K4 lx3 lf3 hgb
  obtain ⟨f0, f1, f2⟩ := F5.c3
  obtain ⟨g0, g1, g2⟩ := G5.c3
  have lf5 := F5.lt
  have lg5 := G5.lt
  go_wp2
  go_ret
  exact ⟨rfl, K5⟩
end Go.Proofs.YtdddppmfeoebgaaGreatDoor
