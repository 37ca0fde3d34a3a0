/-
  Layer 2 (tree): the walk of TreeSame.
-/
import Derived.Test.YtdddppmfeoebgaaDoorAwakeA
import Derived.Test.YtdddppmfeoebgaaDoorCopyW
import Derived.Test.YtdddppmfeoebgaaDoorSameRW
import Derived.Deep.CutBlock
namespace Go.Proofs.YtdddppmfeoebgaaDoor
open Go.RowKit
set_option linter.unusedSimpArgs false
set_option linter.unusedVariables false
set_option maxRecDepth 100000 in
set_option maxHeartbeats 8000000 in
theorem sameL (p q : PrD) (wa fa wa2 fa2 : Option Addr) (uc vc uc2 vc2 : Nat) (w : World) (hp : PrOk w w.heap.size p wa fa) (hq : PrOk w w.heap.size q wa2 fa2) (ht : Pow10 w) :
    Calls Tryd.prog 6 #[prV p wa fa uc vc, prV q wa2 fa2 uc2 vc2] w fun e w' => e = .returned (.bool true) ∧ Below w.heap.size w w' := by
  have X0 := (Whl.new w 26 (prC p wa fa uc vc)).alloc (.cells (prC q wa2 fa2 uc2 vc2) 26)
  have Y0 := Whl.new1 w (.cells (prC p wa fa uc vc) 26) 26 (prC q wa2 fa2 uc2 vc2)
  have K0 := below_alloc (below_alloc (Below.refl w.heap.size w) (.cells (prC p wa fa uc vc) 26)) (.cells (prC q wa2 fa2 uc2 vc2) 26)
  have HP := Lib.hid hp
  have HQ := Lib.hid hq
  have HA := Lib.hid (awakeL _ (ht.step K0))
  clear hp hq ht
  obtain ⟨x0, x1⟩ := X0.c2
  obtain ⟨y0, y1⟩ := Y0.c2
  cases hs : sameP p q
  all_goals
    have HS := Lib.hid hs
    clear hs
    go_enter Tryd.func6, Tryd.ntmps6
    go_upto_region 3 with (go_at_call 11; go_must (refine HA.out.mono ?_; rintro e w1 ⟨rfl, hb1⟩; have X1 := X0.below' hb1; have Y1 := Y0.below' hb1; have K1 := below_step K0 hb1; have lx1 := X1.lt; have ly1 := Y1.lt; clear x0 x1 y0 y1; obtain ⟨x0, x1⟩ := X1.c2; obtain ⟨y0, y1⟩ := Y1.c2))
    have tk0 := Lib.hid trivial
    go_upto_if 13 with (first | (go_at_call 16; have u := tk0; clear u tk0; go_must (refine (bigR p wa fa uc vc w1.heap.size w1 (Nat.le_refl _) (HP.out.step K1)).mono ?_; rintro e w2 ⟨b1, rfl, hb2⟩; have X2 := X1.below' hb2; have Y2 := Y1.below' hb2; have K2 := below_step K1 hb2; have lx2 := X2.lt; have ly2 := Y2.lt; clear x0 x1 y0 y1; obtain ⟨x0, x1⟩ := X2.c2; obtain ⟨y0, y1⟩ := Y2.c2; have tk1 := Lib.hid trivial)) | (go_at_call 16; have u := tk1; clear u tk1; go_must (refine (bigR q wa2 fa2 uc2 vc2 w2.heap.size w2 (Nat.le_refl _) (HQ.out.step K2)).mono ?_; rintro e w3 ⟨b2, rfl, hb3⟩; have X3 := X2.below' hb3; have Y3 := Y2.below' hb3; have K3 := below_step K2 hb3; have lx3 := X3.lt; have ly3 := Y3.lt; clear x0 x1 y0 y1; obtain ⟨x0, x1⟩ := X3.c2; obtain ⟨y0, y1⟩ := Y3.c2)))
    · go_wp2
      go_ret
      exact ⟨rfl, K2⟩
    · cases b2
      · have HS4 := sameRef p q wa fa wa2 fa2 uc vc uc2 vc2 w3.heap.size w3 (Nat.le_refl _) (HP.out.step K3) (HQ.out.step K3)
        rw [HS.out] at HS4
        have HS5 := Lib.hid HS4
        clear HS4
        go_upto_region 6 with (go_at_call 17; go_must (refine HS5.out.mono ?_; rintro e w4 ⟨rfl, hb4⟩; have X4 := X3.below' hb4; have Y4 := Y3.below' hb4; have K4 := below_step K3 hb4; have lx4 := X4.lt; have ly4 := Y4.lt; clear x0 x1 y0 y1; obtain ⟨x0, x1⟩ := X4.c2; obtain ⟨y0, y1⟩ := Y4.c2))
        have hs6 := sameCall p q wa fa wa2 fa2 uc vc uc2 vc2 w4.drew.heap.size w4.drew (Nat.le_refl _) (HP.out.step K4.drew) (HQ.out.step K4.drew)
        rw [HS.out] at hs6
        have HS6 := Lib.hid hs6
        have HS7 := Lib.hid fun (w5 : World) (K5 : Below w.heap.size w w5) => sameCall q p wa2 fa2 wa fa uc2 vc2 uc vc w5.heap.size w5 (Nat.le_refl _) (HQ.out.step K5) (HP.out.step K5)
        rw [sameP_swap, HS.out] at HS7
        clear hs6 HS5 X0 X1 X2 X3 Y0 Y1 Y2 Y3 K0 K1 K2 K3 hb1 hb2 hb3 hb4 HA
        have tk2 := Lib.hid trivial
        go_region_held3 (fun w' => w'.cell? ⟨w.heap.size, 0, none⟩ = some (.slice wa p.widen.length uc) ∧ w'.cell? ⟨w.heap.size, 1, none⟩ = some (.slice fa p.funcs.length vc) ∧ w'.cell? ⟨w.heap.size + 1, 0, none⟩ = some (.slice wa2 q.widen.length uc2) ∧ w'.cell? ⟨w.heap.size + 1, 1, none⟩ = some (.slice fa2 q.funcs.length vc2))
          (first | exact ⟨X8.cell 0, X8.cell 1, Y8.cell 0, Y8.cell 1⟩ | exact ⟨X7.cell 0, X7.cell 1, Y7.cell 0, Y7.cell 1⟩ | exact ⟨X6.cell 0, X6.cell 1, Y6.cell 0, Y6.cell 1⟩ | exact ⟨X5.cell 0, X5.cell 1, Y5.cell 0, Y5.cell 1⟩ | exact ⟨X4.cell 0, X4.cell 1, Y4.cell 0, Y4.cell 1⟩ | (go_simp; done))
          (first
            | (go_at_call 18; have u := tk2; clear u tk2; refine HS6.out.mono ?_; rintro e w5 ⟨rfl, hb5⟩; have K5 := below_step K4.drew hb5; have X5 := X4.drew.below' hb5; have Y5 := Y4.drew.below' hb5; have tk3 := Lib.hid trivial)
            | (go_at_call 18; have u := tk3; clear u tk3; refine (HS7.out _ K5).mono ?_; rintro e w6 ⟨rfl, hb6⟩; have K6 := below_step K5 hb6; have X6 := X5.below' hb6; have Y6 := Y5.below' hb6; have tk4 := Lib.hid trivial)
            | (go_at_call 19; have u := tk4; refine (copyR p wa fa uc vc _ w6 (Nat.le_refl _) (HP.out.step K6)).mono ?_; rintro e w7 ⟨gw, gf, gp, gb, lb, hb, rfl, own, hb7⟩; have K7 := below_step K6 hb7; have X7 := X6.below' hb7; have Y7 := Y6.below' hb7; have OK := own.ok HP.out)
            | (go_at_call 18; have u := tk4; have u2 := hb7; refine (sameCall p p wa fa _ _ uc vc _ _ _ w7 (Nat.le_refl _) (HP.out.step K7) OK).mono ?_; rintro e w8 ⟨rfl, hb8⟩; have K8 := below_step K7 hb8; have X8 := X7.below' hb8; have Y8 := Y7.below' hb8))
        go_wp2
        go_ret
        exact ⟨by rw [sameP_self]; rfl, K8⟩
      · go_wp2
        go_ret
        exact ⟨rfl, K3⟩
end Go.Proofs.YtdddppmfeoebgaaDoor
