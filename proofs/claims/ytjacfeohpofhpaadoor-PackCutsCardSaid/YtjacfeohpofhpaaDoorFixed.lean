/-
  Layer 11 (pack): the laws' fixed: calls whose answers the document fixes.
-/
import Derived.Test.YtjacfeohpofhpaaDoorLawW
namespace Go.Proofs.YtjacfeohpofhpaaDoor
open Go.RowKit
set_option linter.unusedSimpArgs false
set_option linter.unusedVariables false
def fixL : List UInt8 := [83, 70, 84, 1, 1, 254, 255, 255, 255, 255, 255, 255, 255, 0]
abbrev fixM (A : Option Addr) : ModD := ⟨A, 1, [-2], none, 0, []⟩
theorem fix_may (A : Option Addr) : mayD (fixM A) = ⟨0, 0, 0⟩ := rfl
theorem fix_enc (A : Option Addr) : encL (fixM A) = fixL := rfl
theorem fix_dec : decS fixL = .ok 14 := rfl
theorem fix_mod : decM fixL = ⟨none, 0, [-2], none, 0, []⟩ := rfl
theorem fix_bad : decS [83, 70, 85] = .bad 5 2 := rfl
variable {w W : World}
theorem fixM_ok {A : Option Addr} (h : IntsAt W W.heap.size A [-2]) : ModOk W W.heap.size (fixM A) := ⟨h, fun h0 => by simp at h0, fun k hk => by simp at hk⟩
theorem fixM_wf (A : Option Addr) : (fixM A).Wf := ⟨fun t ht => by simp at ht; subst ht; unfold In64; omega, by simp, fun f hf => by simp at hf, by simp⟩
theorem byteR_lit (w : World) (l : List UInt8) (hl : l ≠ []) : ByteR (w.alloc (.cells (U8s l).toArray 5)) (w.heap.size + 1) (.slice (some ⟨w.heap.size, 0, none⟩) l.length l.length) l :=
  ⟨_, _, rfl, Nat.le_refl _, (fun h => by cases h), fun _ => ⟨_, 0, rfl, Nat.lt_succ_self _, fun j hj => by
    rw [(Whl.new w _ _).cell]
    simp [U8s, hj, List.getD_eq_getElem?_getD]⟩⟩
theorem byteR_short (w : World) (o : Obj) : ByteR ((w.alloc o).alloc (.cells #[.int .u8 83, .int .u8 70, .int .u8 85] 5)) ((w.alloc o).alloc (.cells #[.int .u8 83, .int .u8 70, .int .u8 85] 5)).heap.size (.slice (some ⟨w.heap.size + 1, 0, none⟩) 3 3) [83, 70, 85] := by
  have h := (byteR_lit (w.alloc o) [83, 70, 85] (by simp)).more (B' := ((w.alloc o).alloc (.cells #[.int .u8 83, .int .u8 70, .int .u8 85] 5)).heap.size) (by simp)
  have e : (w.alloc o).heap.size = w.heap.size + 1 := by simp
  have h2 : ByteR ((w.alloc o).alloc (.cells #[.int .u8 83, .int .u8 70, .int .u8 85] 5)) ((w.alloc o).alloc (.cells #[.int .u8 83, .int .u8 70, .int .u8 85] 5)).heap.size (.slice (some ⟨(w.alloc o).heap.size, 0, none⟩) 3 3) [83, 70, 85] := h
  rwa [show (Value.slice (some ⟨(w.alloc o).heap.size, 0, none⟩) 3 3) = .slice (some ⟨w.heap.size + 1, 0, none⟩) 3 3 by rw [e]] at h2
theorem fixEnc (A : Option Addr) (hm : ModOk w w.heap.size (fixM A)) (ht : TabOk w) : Calls Tryd.prog 8 #[.agg #[.slice A 1 1, .slice none 0 0]] w fun e w' =>
    ∃ v, e = .returned (.tuple #[v, .agg #[.int .i64 0, .int .i64 0, .int .i64 0]]) ∧ OwnB w' w.heap.size v fixL ∧ Below w.heap.size w w' :=
  (encP (fixM A) w (fixM_wf A) hm ht).mono fun _ _ ⟨⟨v, e, h1⟩, h2⟩ => ⟨v, e, h1, h2⟩
theorem fixDec {v : Value} (h : ByteR w w.heap.size v fixL) (A : Option Addr) : Calls Tryd.prog 13 #[v] w fun e w' =>
    ∃ c : ModD, e = .returned (.tuple #[c.val, .int .i64 0, .int .i64 0]) ∧ (sameD (fixM A) c = true ∧ c.Wf ∧ ModOk w' w'.heap.size c) ∧ Below w.heap.size w w' :=
  (decP h).mono fun _ _ ⟨c, e, h1, h2, h3⟩ => ⟨c, e, ⟨by rw [sameD_right h1]; rfl, wf_same h1 decM_wf, h2.ok⟩, h3⟩
theorem fixBad {v : Value} (h : ByteR w w.heap.size v [83, 70, 85]) : Calls Tryd.prog 13 #[v] w fun e w' =>
    ∃ c : ModD, e = .returned (.tuple #[c.val, .int .i64 5, .int .i64 2]) ∧ Below w.heap.size w w' :=
  (decP h).mono fun _ _ ⟨c, e, h1, h2, h3⟩ => ⟨c, e, h3⟩
set_option maxHeartbeats 1000000 in
set_option maxRecDepth 100000 in
theorem fixedL (w : World) (ht : TabOk w) : Calls Tryd.prog 11 #[] w fun e w' => e = .returned (.bool true) ∧ Below w.heap.size w w' := by
  have hI : IntsAt (w.alloc (.cells #[.int .i64 (-2)] 2)) (w.heap.size + 1) (some ⟨w.heap.size, 0, none⟩) [-2] := IntsAt.lit w 2 [-2]
  have B0 := below_alloc (below_alloc (Below.refl w.heap.size w) (.cells #[.int .i64 (-2)] 2)) (.cells #[.slice (some ⟨w.heap.size, 0, none⟩) 1 1, .slice none 0 0] 25)
  have hM0 : ModOk _ _ (fixM (some ⟨w.heap.size, 0, none⟩)) := fixM_ok ((hI.below (below_alloc (Below.refl _ _) (.cells #[.slice (some ⟨w.heap.size, 0, none⟩) 1 1, .slice none 0 0] 25)) (by simp)).more (by simp))
  have HM := Lib.hid hM0
  have HT := Lib.hid ht
  have X0 := Whl.new1 w (.cells #[.int .i64 (-2)] 2) 25 #[.slice (some ⟨w.heap.size, 0, none⟩) 1 1, .slice none 0 0]
  clear hI hM0 ht
  have wf := fixM_wf (some ⟨w.heap.size, 0, none⟩)
  go_enter Tryd.func11, Tryd.ntmps11
  go_wp2_with (first
    | (fail_if_success (have _t := b1)
       go_at_call 8
       refine (fixEnc (some ⟨w.heap.size, 0, none⟩) HM.out (HT.out.below B0 HT.out.size)).mono ?_
       rintro e w1 ⟨v1, rfl, ho1, b1⟩
       have B1 := below_step B0 b1
       have B2 := below_alloc B1 (.cells #[.int .i64 0, .int .i64 0, .int .i64 0] 30)
       have X1 := X0.below' b1
       have Y1 := Whl.new w1 30 #[.int .i64 0, .int .i64 0, .int .i64 0]
       have R1 := (ByteR.of_own ho1).step (below_alloc (Below.refl _ _) (.cells #[.int .i64 0, .int .i64 0, .int .i64 0] 30))
       have M1 := (HM.out.step b1).step (below_alloc (Below.refl _ _) (.cells #[.int .i64 0, .int .i64 0, .int .i64 0] 30)))
    | (fail_if_success (have _t := b2)
       go_at_call 13
       refine (fixDec R1 (some ⟨w.heap.size, 0, none⟩)).mono ?_
       rintro e w2 ⟨c, rfl, hc, b2⟩
       have HC := Lib.hid hc
       clear hc
       have B3 := below_step B2 b2
       have X2 := (X1.alloc _).below' b2
       have Y2 := Y1.below' b2
       have R2 := R1.step b2
       have M2 := M1.step b2
       have N2 := Whl.new w2 25 #[.slice c.ta c.ths.length c.tc, .slice c.fa c.funcs.length c.fc]
       have R3 := byteR_short w2 (.cells #[.slice c.ta c.ths.length c.tc, .slice c.fa c.funcs.length c.fc] 25)
       have S3 := below_alloc (below_alloc (Below.refl w2.heap.size w2) (.cells #[.slice c.ta c.ths.length c.tc, .slice c.fa c.funcs.length c.fc] 25)) (.cells #[.int .u8 83, .int .u8 70, .int .u8 85] 5))
    | (fail_if_success (have _t := b3)
       go_at_call 13
       refine (fixBad R3).mono ?_
       rintro e w3 ⟨c3, rfl, b3⟩
       have B4 := below_step S3 b3
       have X3 := X2.below' B4
       have Y3 := Y2.below' B4
       have N3 := (N2.alloc (.cells #[.int .u8 83, .int .u8 70, .int .u8 85] 5)).below' b3
       have D3 := below_alloc B4 (.cells #[.slice c3.ta c3.ths.length c3.tc, .slice c3.fa c3.funcs.length c3.fc] 25)
       have R4 := R2.step D3
       have M3 := M2.step D3
       have C3 := HC.out.2.2.step D3
       obtain ⟨x0, x1, _, _⟩ := Whl.two X3
       obtain ⟨n0, n1, _, _⟩ := Whl.two N3
       have lx := X3.lt
       have ln := N3.lt
       have ly := Y3.lt)
    | (go_at_call 10
       refine (sameMR (fixM (some ⟨w.heap.size, 0, none⟩)) c _ wf HC.out.2.1 M3 C3).mono ?_
       rintro e w4 ⟨rfl, b4⟩
       rw [HC.out.1]
       have k5 := (R4.step b4).conv
       have Y4 := (Y3.alloc (.cells #[.slice c3.ta c3.ths.length c3.tc, .slice c3.fa c3.funcs.length c3.fc] 25)).below' b4
       have y0 := Y4.cell 0
       have y1 := Y4.cell 1
       have y2 := Y4.cell 2
       have ly4 := Y4.lt
       have B5 := below_step (below_step B3 D3) b4))
  go_ret
  exact ⟨rfl, B5⟩
end Go.Proofs.YtjacfeohpofhpaaDoor
