/-
  Layer 16 (bounds): FixB.
-/
import Derived.Test.YtddobhneplfddaaDoorV37
namespace Go.Proofs.YtddobhneplfddaaDoor
set_option maxRecDepth 100000
open Go.RowKit
set_option linter.unusedSimpArgs false
set_option linter.unusedVariables false
set_option maxHeartbeats 4000000 in
theorem fixedL (w : World) (ht : TabOk w) : Calls Tryd.prog 13 #[] w fun e w' => e = .returned (.bool true) ∧ Below w.heap.size w w' := by
  have F0 := FixMem.start w
  have HT := Lib.hid ht
  clear ht
  go_enter Tryd.func13, Tryd.ntmps13
  have m0 := F0.b4.cell 0
  have m1 := F0.b4.cell 1
  simp only [List.getElem?_toArray, List.getElem?_cons_zero, List.getElem?_cons_succ] at m0 m1
  go_wp2_with fail
  go_at_call 15
  refine (fix_Run F0 HT.out).mono ?_
  rintro e V1 ⟨ib, cb, rfl, hA1, hb1⟩
  have F1 := F0.go hb1
  have B1 := F1.below
  have lm1 := F1.b4.lt
  have lA := hA1
  clear m0 m1 F0 hb1
  have HA1 := Lib.hid hA1
  clear hA1 lA
  have F2 : FixMem w ((((((((((((V1.alloc (.cells #[.slice (some ⟨ib, 0, none⟩) 3 3, .slice (some ⟨cb, 0, none⟩) 3 3] 39)).alloc (.cells #[.int .i64 (-3), .int .i64 9] 34)).alloc (.cells #[.int .i64 0, .int .i64 9223372036854775807] 34)).alloc (.cells #[.int .i64 (-3), .int .i64 9, .int .i64 0, .int .i64 9223372036854775807] 34)).alloc (.cells #[.int .i64 (-3), .int .i64 9, .int .i64 0, .int .i64 8] 34)).alloc (.cells #[.int .i64 (-3), .int .i64 9, .int .i64 0, .int .i64 9223372036854775807] 34)).alloc (.cells #[.slice (some ⟨V1.heap.size + 1 + 1 + 1, 0, none⟩) 2 2, .slice (some ⟨V1.heap.size + 1 + 1 + 1 + 1, 0, none⟩) 2 2, .slice (some ⟨V1.heap.size + 1 + 1 + 1 + 1 + 1, 0, none⟩) 2 2] 26)).alloc (.cells #[.int .i64 0, .int .i64 6] 3)).alloc (.cells #[.int .i64 0, .int .i64 5] 3)).alloc (.cells #[.int .i64 0, .int .i64 6] 3)).alloc (.cells #[.slice (some ⟨V1.heap.size + 1 + 1 + 1 + 1 + 1 + 1 + 1, 0, none⟩) 2 2, .slice (some ⟨V1.heap.size + 1 + 1 + 1 + 1 + 1 + 1 + 1 + 1, 0, none⟩) 2 2, .slice (some ⟨V1.heap.size + 1 + 1 + 1 + 1 + 1 + 1 + 1 + 1 + 1, 0, none⟩) 2 2] 44)).alloc (.cells #[.slice (some ⟨V1.heap.size + 1 + 1 + 1 + 1 + 1 + 1, 0, none⟩) 3 3, .slice (some ⟨V1.heap.size + 1 + 1 + 1 + 1 + 1 + 1 + 1 + 1 + 1 + 1, 0, none⟩) 3 3] 39)) := F1.go (below_allocs [(39, #[.slice (some ⟨ib, 0, none⟩) 3 3, .slice (some ⟨cb, 0, none⟩) 3 3]), (34, #[.int .i64 (-3), .int .i64 9]), (34, #[.int .i64 0, .int .i64 9223372036854775807]), (34, #[.int .i64 (-3), .int .i64 9, .int .i64 0, .int .i64 9223372036854775807]), (34, #[.int .i64 (-3), .int .i64 9, .int .i64 0, .int .i64 8]), (34, #[.int .i64 (-3), .int .i64 9, .int .i64 0, .int .i64 9223372036854775807]), (26, #[.slice (some ⟨V1.heap.size + 1 + 1 + 1, 0, none⟩) 2 2, .slice (some ⟨V1.heap.size + 1 + 1 + 1 + 1, 0, none⟩) 2 2, .slice (some ⟨V1.heap.size + 1 + 1 + 1 + 1 + 1, 0, none⟩) 2 2]), (3, #[.int .i64 0, .int .i64 6]), (3, #[.int .i64 0, .int .i64 5]), (3, #[.int .i64 0, .int .i64 6]), (44, #[.slice (some ⟨V1.heap.size + 1 + 1 + 1 + 1 + 1 + 1 + 1, 0, none⟩) 2 2, .slice (some ⟨V1.heap.size + 1 + 1 + 1 + 1 + 1 + 1 + 1 + 1, 0, none⟩) 2 2, .slice (some ⟨V1.heap.size + 1 + 1 + 1 + 1 + 1 + 1 + 1 + 1 + 1, 0, none⟩) 2 2]), (39, #[.slice (some ⟨V1.heap.size + 1 + 1 + 1 + 1 + 1 + 1, 0, none⟩) 3 3, .slice (some ⟨V1.heap.size + 1 + 1 + 1 + 1 + 1 + 1 + 1 + 1 + 1 + 1, 0, none⟩) 3 3])] V1 (Below.refl _ _))
  have A2 : Whl ((((((((((((V1.alloc (.cells #[.slice (some ⟨ib, 0, none⟩) 3 3, .slice (some ⟨cb, 0, none⟩) 3 3] 39)).alloc (.cells #[.int .i64 (-3), .int .i64 9] 34)).alloc (.cells #[.int .i64 0, .int .i64 9223372036854775807] 34)).alloc (.cells #[.int .i64 (-3), .int .i64 9, .int .i64 0, .int .i64 9223372036854775807] 34)).alloc (.cells #[.int .i64 (-3), .int .i64 9, .int .i64 0, .int .i64 8] 34)).alloc (.cells #[.int .i64 (-3), .int .i64 9, .int .i64 0, .int .i64 9223372036854775807] 34)).alloc (.cells #[.slice (some ⟨V1.heap.size + 1 + 1 + 1, 0, none⟩) 2 2, .slice (some ⟨V1.heap.size + 1 + 1 + 1 + 1, 0, none⟩) 2 2, .slice (some ⟨V1.heap.size + 1 + 1 + 1 + 1 + 1, 0, none⟩) 2 2] 26)).alloc (.cells #[.int .i64 0, .int .i64 6] 3)).alloc (.cells #[.int .i64 0, .int .i64 5] 3)).alloc (.cells #[.int .i64 0, .int .i64 6] 3)).alloc (.cells #[.slice (some ⟨V1.heap.size + 1 + 1 + 1 + 1 + 1 + 1 + 1, 0, none⟩) 2 2, .slice (some ⟨V1.heap.size + 1 + 1 + 1 + 1 + 1 + 1 + 1 + 1, 0, none⟩) 2 2, .slice (some ⟨V1.heap.size + 1 + 1 + 1 + 1 + 1 + 1 + 1 + 1 + 1, 0, none⟩) 2 2] 44)).alloc (.cells #[.slice (some ⟨V1.heap.size + 1 + 1 + 1 + 1 + 1 + 1, 0, none⟩) 3 3, .slice (some ⟨V1.heap.size + 1 + 1 + 1 + 1 + 1 + 1 + 1 + 1 + 1 + 1, 0, none⟩) 3 3] 39)) (V1.heap.size) 39 #[.slice (some ⟨ib, 0, none⟩) 3 3, .slice (some ⟨cb, 0, none⟩) 3 3] := whl_allocs [(39, #[.slice (some ⟨ib, 0, none⟩) 3 3, .slice (some ⟨cb, 0, none⟩) 3 3]), (34, #[.int .i64 (-3), .int .i64 9]), (34, #[.int .i64 0, .int .i64 9223372036854775807]), (34, #[.int .i64 (-3), .int .i64 9, .int .i64 0, .int .i64 9223372036854775807]), (34, #[.int .i64 (-3), .int .i64 9, .int .i64 0, .int .i64 8]), (34, #[.int .i64 (-3), .int .i64 9, .int .i64 0, .int .i64 9223372036854775807]), (26, #[.slice (some ⟨V1.heap.size + 1 + 1 + 1, 0, none⟩) 2 2, .slice (some ⟨V1.heap.size + 1 + 1 + 1 + 1, 0, none⟩) 2 2, .slice (some ⟨V1.heap.size + 1 + 1 + 1 + 1 + 1, 0, none⟩) 2 2]), (3, #[.int .i64 0, .int .i64 6]), (3, #[.int .i64 0, .int .i64 5]), (3, #[.int .i64 0, .int .i64 6]), (44, #[.slice (some ⟨V1.heap.size + 1 + 1 + 1 + 1 + 1 + 1 + 1, 0, none⟩) 2 2, .slice (some ⟨V1.heap.size + 1 + 1 + 1 + 1 + 1 + 1 + 1 + 1, 0, none⟩) 2 2, .slice (some ⟨V1.heap.size + 1 + 1 + 1 + 1 + 1 + 1 + 1 + 1 + 1, 0, none⟩) 2 2]), (39, #[.slice (some ⟨V1.heap.size + 1 + 1 + 1 + 1 + 1 + 1, 0, none⟩) 3 3, .slice (some ⟨V1.heap.size + 1 + 1 + 1 + 1 + 1 + 1 + 1 + 1 + 1 + 1, 0, none⟩) 3 3])] V1 0 _ _ rfl
  have E2 : Whl ((((((((((((V1.alloc (.cells #[.slice (some ⟨ib, 0, none⟩) 3 3, .slice (some ⟨cb, 0, none⟩) 3 3] 39)).alloc (.cells #[.int .i64 (-3), .int .i64 9] 34)).alloc (.cells #[.int .i64 0, .int .i64 9223372036854775807] 34)).alloc (.cells #[.int .i64 (-3), .int .i64 9, .int .i64 0, .int .i64 9223372036854775807] 34)).alloc (.cells #[.int .i64 (-3), .int .i64 9, .int .i64 0, .int .i64 8] 34)).alloc (.cells #[.int .i64 (-3), .int .i64 9, .int .i64 0, .int .i64 9223372036854775807] 34)).alloc (.cells #[.slice (some ⟨V1.heap.size + 1 + 1 + 1, 0, none⟩) 2 2, .slice (some ⟨V1.heap.size + 1 + 1 + 1 + 1, 0, none⟩) 2 2, .slice (some ⟨V1.heap.size + 1 + 1 + 1 + 1 + 1, 0, none⟩) 2 2] 26)).alloc (.cells #[.int .i64 0, .int .i64 6] 3)).alloc (.cells #[.int .i64 0, .int .i64 5] 3)).alloc (.cells #[.int .i64 0, .int .i64 6] 3)).alloc (.cells #[.slice (some ⟨V1.heap.size + 1 + 1 + 1 + 1 + 1 + 1 + 1, 0, none⟩) 2 2, .slice (some ⟨V1.heap.size + 1 + 1 + 1 + 1 + 1 + 1 + 1 + 1, 0, none⟩) 2 2, .slice (some ⟨V1.heap.size + 1 + 1 + 1 + 1 + 1 + 1 + 1 + 1 + 1, 0, none⟩) 2 2] 44)).alloc (.cells #[.slice (some ⟨V1.heap.size + 1 + 1 + 1 + 1 + 1 + 1, 0, none⟩) 3 3, .slice (some ⟨V1.heap.size + 1 + 1 + 1 + 1 + 1 + 1 + 1 + 1 + 1 + 1, 0, none⟩) 3 3] 39)) (V1.heap.size + 1 + 1 + 1 + 1 + 1 + 1 + 1 + 1 + 1 + 1 + 1) 39 #[.slice (some ⟨V1.heap.size + 1 + 1 + 1 + 1 + 1 + 1, 0, none⟩) 3 3, .slice (some ⟨V1.heap.size + 1 + 1 + 1 + 1 + 1 + 1 + 1 + 1 + 1 + 1, 0, none⟩) 3 3] := whl_allocs [(39, #[.slice (some ⟨ib, 0, none⟩) 3 3, .slice (some ⟨cb, 0, none⟩) 3 3]), (34, #[.int .i64 (-3), .int .i64 9]), (34, #[.int .i64 0, .int .i64 9223372036854775807]), (34, #[.int .i64 (-3), .int .i64 9, .int .i64 0, .int .i64 9223372036854775807]), (34, #[.int .i64 (-3), .int .i64 9, .int .i64 0, .int .i64 8]), (34, #[.int .i64 (-3), .int .i64 9, .int .i64 0, .int .i64 9223372036854775807]), (26, #[.slice (some ⟨V1.heap.size + 1 + 1 + 1, 0, none⟩) 2 2, .slice (some ⟨V1.heap.size + 1 + 1 + 1 + 1, 0, none⟩) 2 2, .slice (some ⟨V1.heap.size + 1 + 1 + 1 + 1 + 1, 0, none⟩) 2 2]), (3, #[.int .i64 0, .int .i64 6]), (3, #[.int .i64 0, .int .i64 5]), (3, #[.int .i64 0, .int .i64 6]), (44, #[.slice (some ⟨V1.heap.size + 1 + 1 + 1 + 1 + 1 + 1 + 1, 0, none⟩) 2 2, .slice (some ⟨V1.heap.size + 1 + 1 + 1 + 1 + 1 + 1 + 1 + 1, 0, none⟩) 2 2, .slice (some ⟨V1.heap.size + 1 + 1 + 1 + 1 + 1 + 1 + 1 + 1 + 1, 0, none⟩) 2 2]), (39, #[.slice (some ⟨V1.heap.size + 1 + 1 + 1 + 1 + 1 + 1, 0, none⟩) 3 3, .slice (some ⟨V1.heap.size + 1 + 1 + 1 + 1 + 1 + 1 + 1 + 1 + 1 + 1, 0, none⟩) 3 3])] V1 11 _ _ rfl
  have T2 := (want_at (((V1.alloc (.cells #[.slice (some ⟨ib, 0, none⟩) 3 3, .slice (some ⟨cb, 0, none⟩) 3 3] 39)).alloc (.cells #[.int .i64 (-3), .int .i64 9] 34)).alloc (.cells #[.int .i64 0, .int .i64 9223372036854775807] 34))).1
  have Y2 : Below V1.heap.size V1 ((((((((((((V1.alloc (.cells #[.slice (some ⟨ib, 0, none⟩) 3 3, .slice (some ⟨cb, 0, none⟩) 3 3] 39)).alloc (.cells #[.int .i64 (-3), .int .i64 9] 34)).alloc (.cells #[.int .i64 0, .int .i64 9223372036854775807] 34)).alloc (.cells #[.int .i64 (-3), .int .i64 9, .int .i64 0, .int .i64 9223372036854775807] 34)).alloc (.cells #[.int .i64 (-3), .int .i64 9, .int .i64 0, .int .i64 8] 34)).alloc (.cells #[.int .i64 (-3), .int .i64 9, .int .i64 0, .int .i64 9223372036854775807] 34)).alloc (.cells #[.slice (some ⟨V1.heap.size + 1 + 1 + 1, 0, none⟩) 2 2, .slice (some ⟨V1.heap.size + 1 + 1 + 1 + 1, 0, none⟩) 2 2, .slice (some ⟨V1.heap.size + 1 + 1 + 1 + 1 + 1, 0, none⟩) 2 2] 26)).alloc (.cells #[.int .i64 0, .int .i64 6] 3)).alloc (.cells #[.int .i64 0, .int .i64 5] 3)).alloc (.cells #[.int .i64 0, .int .i64 6] 3)).alloc (.cells #[.slice (some ⟨V1.heap.size + 1 + 1 + 1 + 1 + 1 + 1 + 1, 0, none⟩) 2 2, .slice (some ⟨V1.heap.size + 1 + 1 + 1 + 1 + 1 + 1 + 1 + 1, 0, none⟩) 2 2, .slice (some ⟨V1.heap.size + 1 + 1 + 1 + 1 + 1 + 1 + 1 + 1 + 1, 0, none⟩) 2 2] 44)).alloc (.cells #[.slice (some ⟨V1.heap.size + 1 + 1 + 1 + 1 + 1 + 1, 0, none⟩) 3 3, .slice (some ⟨V1.heap.size + 1 + 1 + 1 + 1 + 1 + 1 + 1 + 1 + 1 + 1, 0, none⟩) 3 3] 39)) := below_allocs [(39, #[.slice (some ⟨ib, 0, none⟩) 3 3, .slice (some ⟨cb, 0, none⟩) 3 3]), (34, #[.int .i64 (-3), .int .i64 9]), (34, #[.int .i64 0, .int .i64 9223372036854775807]), (34, #[.int .i64 (-3), .int .i64 9, .int .i64 0, .int .i64 9223372036854775807]), (34, #[.int .i64 (-3), .int .i64 9, .int .i64 0, .int .i64 8]), (34, #[.int .i64 (-3), .int .i64 9, .int .i64 0, .int .i64 9223372036854775807]), (26, #[.slice (some ⟨V1.heap.size + 1 + 1 + 1, 0, none⟩) 2 2, .slice (some ⟨V1.heap.size + 1 + 1 + 1 + 1, 0, none⟩) 2 2, .slice (some ⟨V1.heap.size + 1 + 1 + 1 + 1 + 1, 0, none⟩) 2 2]), (3, #[.int .i64 0, .int .i64 6]), (3, #[.int .i64 0, .int .i64 5]), (3, #[.int .i64 0, .int .i64 6]), (44, #[.slice (some ⟨V1.heap.size + 1 + 1 + 1 + 1 + 1 + 1 + 1, 0, none⟩) 2 2, .slice (some ⟨V1.heap.size + 1 + 1 + 1 + 1 + 1 + 1 + 1 + 1, 0, none⟩) 2 2, .slice (some ⟨V1.heap.size + 1 + 1 + 1 + 1 + 1 + 1 + 1 + 1 + 1, 0, none⟩) 2 2]), (39, #[.slice (some ⟨V1.heap.size + 1 + 1 + 1 + 1 + 1 + 1, 0, none⟩) 3 3, .slice (some ⟨V1.heap.size + 1 + 1 + 1 + 1 + 1 + 1 + 1 + 1 + 1 + 1, 0, none⟩) 3 3])] V1 (Below.refl _ _)
  have X2 := HA1.out.step Y2
  have hz3 : (((V1.alloc (.cells #[.slice (some ⟨ib, 0, none⟩) 3 3, .slice (some ⟨cb, 0, none⟩) 3 3] 39)).alloc (.cells #[.int .i64 (-3), .int .i64 9] 34)).alloc (.cells #[.int .i64 0, .int .i64 9223372036854775807] 34)).heap.size = V1.heap.size + 1 + 1 + 1 := by simp only [World.size_alloc]
  rw [hz3] at T2
  go_upto_region 6 with (fail)
  obtain ⟨W2, hW2⟩ : ∃ W2, ((((((((((((V1.alloc (.cells #[.slice (some ⟨ib, 0, none⟩) 3 3, .slice (some ⟨cb, 0, none⟩) 3 3] 39)).alloc (.cells #[.int .i64 (-3), .int .i64 9] 34)).alloc (.cells #[.int .i64 0, .int .i64 9223372036854775807] 34)).alloc (.cells #[.int .i64 (-3), .int .i64 9, .int .i64 0, .int .i64 9223372036854775807] 34)).alloc (.cells #[.int .i64 (-3), .int .i64 9, .int .i64 0, .int .i64 8] 34)).alloc (.cells #[.int .i64 (-3), .int .i64 9, .int .i64 0, .int .i64 9223372036854775807] 34)).alloc (.cells #[.slice (some ⟨V1.heap.size + 1 + 1 + 1, 0, none⟩) 2 2, .slice (some ⟨V1.heap.size + 1 + 1 + 1 + 1, 0, none⟩) 2 2, .slice (some ⟨V1.heap.size + 1 + 1 + 1 + 1 + 1, 0, none⟩) 2 2] 26)).alloc (.cells #[.int .i64 0, .int .i64 6] 3)).alloc (.cells #[.int .i64 0, .int .i64 5] 3)).alloc (.cells #[.int .i64 0, .int .i64 6] 3)).alloc (.cells #[.slice (some ⟨V1.heap.size + 1 + 1 + 1 + 1 + 1 + 1 + 1, 0, none⟩) 2 2, .slice (some ⟨V1.heap.size + 1 + 1 + 1 + 1 + 1 + 1 + 1 + 1, 0, none⟩) 2 2, .slice (some ⟨V1.heap.size + 1 + 1 + 1 + 1 + 1 + 1 + 1 + 1 + 1, 0, none⟩) 2 2] 44)).alloc (.cells #[.slice (some ⟨V1.heap.size + 1 + 1 + 1 + 1 + 1 + 1, 0, none⟩) 3 3, .slice (some ⟨V1.heap.size + 1 + 1 + 1 + 1 + 1 + 1 + 1 + 1 + 1 + 1, 0, none⟩) 3 3] 39)) = W2 := ⟨_, rfl⟩
  rw [hW2] at F2 A2 E2 T2 Y2 X2 ⊢
  clear hW2 hz3 lm1 F1
  have m0 := F2.b4.cell 0
  have m1 := F2.b4.cell 1
  have lm := F2.b4.lt
  simp only [List.getElem?_toArray, List.getElem?_cons_zero, List.getElem?_cons_succ] at m0 m1
  have B2 := F2.below
  go_wp2_with fail
  go_at_call 10
  refine (fix_Edge F2 HT.out).mono ?_
  rintro e V3 ⟨eg, ec, rfl, hR3, hb3⟩
  have B3 := below_step B2 hb3
  have A3 := A2.below' hb3
  have E3 := E2.below' hb3
  have T3 := T2.step hb3
  have X3 := X2.step hb3
  have a0 := A3.cell 0
  have a1 := A3.cell 1
  have e0 := E3.cell 0
  have e1 := E3.cell 1
  have la := A3.lt
  have le := E3.lt
  simp only [List.getElem?_toArray, List.getElem?_cons_zero, List.getElem?_cons_succ] at a0 a1 e0 e1
  have ST := Lib.hid (sameAT _ _ _ _ 3 3 3 3 wantI wantC (by unfold maxLen; decide) (by unfold maxLen; decide) V3 X3 T3)
  have HR3 := Lib.hid hR3
  clear m0 m1 lm A2 E2 T2 X2 X3 T3 hR3
  go_wp2_with fail
  go_at_call 17
  refine ST.out.mono ?_
  rintro e V4 ⟨rfl, hb4⟩
  have B4 := below_step B3 hb4
  have D4 := Whl.new V4 34 #[.int .i64 3, .int .i64 5, .int .i64 0, .int .i64 4]
  have hD : RowsAt (V4.alloc (.cells #[.int .i64 3, .int .i64 5, .int .i64 0, .int .i64 4] 34)) (V4.alloc (.cells #[.int .i64 3, .int .i64 5, .int .i64 0, .int .i64 4] 34)).heap.size (some ⟨V4.heap.size, 0, none⟩) 2 2 (fun k => spV (nthS [⟨3, 5⟩, ⟨0, 4⟩] k)) := fun _ => ⟨_, 0, rfl, D4.lt, fun k hk j hj => by
    rw [D4.cell]
    obtain rfl | rfl : k = 0 ∨ k = 1 := by omega
    all_goals
      obtain rfl | rfl : j = 0 ∨ j = 1 := by omega
      all_goals rfl⟩
  have hE := ((HR3.out.below hb4 (Nat.le_refl _)).more hb4.size).below (below_alloc (Below.refl _ _) (.cells #[.int .i64 3, .int .i64 5, .int .i64 0, .int .i64 4] 34)) (Nat.le_refl _)
  have SS := Lib.hid (sameSpansS (some ⟨eg, 0, none⟩) (some ⟨V4.heap.size, 0, none⟩) ec 2 [⟨3, 5⟩, ⟨0, 4⟩] (by unfold maxLen; decide) _ (hE.more (by simp)) hD)
  clear hD hE D4
  go_wp2_with fail
  go_at_call 14
  refine SS.out.mono ?_
  rintro e V5 ⟨rfl, hb5⟩
  go_wp2
  go_ret
  exact ⟨rfl, below_step (below_alloc B4 _) hb5⟩
end Go.Proofs.YtddobhneplfddaaDoor
