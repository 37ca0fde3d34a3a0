/-
  Layer 11 (pack): the walk of the law PackCuts.
-/
import Derived.Test.YtjacfeohpofhpaaDoorLawG
import Derived.Test.YtjacfeohpofhpaaDoorOpenM
namespace Go.Proofs.YtjacfeohpofhpaaDoor
open Go.RowKit
set_option linter.unusedSimpArgs false
set_option linter.unusedVariables false
variable {w W : World} {v : Value} {l : List UInt8} {m : ModD}
theorem ByteR.cap {B n c : Nat} {A : Option Addr} (h : ByteR w B (.slice A n c) l) : n = l.length ∧ l.length ≤ c := by
  obtain ⟨A2, c2, e, hc, hn, hr⟩ := h.row
  injection e with e1 e2 e3
  exact ⟨e2, by omega⟩
/-- The first k bytes. -/
theorem ByteR.take {B k n c : Nat} {A : Option Addr} (h : ByteR w B (.slice A n c) l) (hk : k ≤ l.length) : ByteR w B (.slice A k c) (l.take k) := by
  obtain ⟨A2, c2, e, hc, hn, hr⟩ := h.row
  injection e with e1 e2 e3
  subst e1 e3
  have hl : (l.take k).length = k := by rw [List.length_take]; omega
  refine ⟨A, c, by rw [hl], by omega, hn, fun h0 => ?_⟩
  obtain ⟨b, off, e, hlt, hcell⟩ := hr (by intro e; subst e; simp at h0)
  refine ⟨b, off, e, hlt, fun j hj => ?_⟩
  rw [hl] at hj
  rw [hcell j (by omega)]
  simp only [List.getD_eq_getElem?_getD, List.getElem?_take, if_pos hj]
set_option maxHeartbeats 2000000 in
set_option maxRecDepth 100000 in
theorem cuts_no (m : ModD) (cut : Int) (v : Value) (l : List UInt8) (w : World) (ht : TabOk w) (wm : m.Wf) (hm : ModOk w w.heap.size m) (hr : ByteR w w.heap.size v l) (hl : l.length ≤ 140737488351232) (hmay : (mayD m).e ≠ 0) : Calls Tryd.prog 6 #[m.val, .int .i64 cut, v] w fun e w' => e = .returned (.bool true) ∧ Below w.heap.size w w' := by
  obtain ⟨A, cv, rfl, _, hnv, _⟩ := hr.row
  have B0 := below_alloc (Below.refl w.heap.size w) (.cells (mCells m) 25)
  have X0 := Whl.new w 25 (mCells m)
  have HM := Lib.hid hm
  have HT := Lib.hid ht
  have HR := Lib.hid hr
  clear hm ht hr
  have p1 : ((mayD m).e == 0) = false := by simpa using hmay
  have p2 : ((mayD m).e != 0) = true := by simpa using hmay
  go_enter Tryd.func6, Tryd.ntmps6
  go_wp2_with (first
    | (fail_if_success (have _t := b1)
       go_at_call 8
       refine (encNo wm ((HM.out.below B0 (Nat.le_refl _)).more B0.size) (HT.out.below B0 HT.out.size) hmay).mono ?_
       rintro e w1 ⟨rfl, b1⟩
       have D1 := below_alloc (below_step B0 b1) (fBox (mayD m))
       have F1 := Whl.new w1 30 #[.int .i64 (mayD m).e, .int .i64 (mayD m).f, .int .i64 (mayD m).a])
    | (go_at_call 11
       refine (fixedL _ (HT.out.below D1 HT.out.size)).mono ?_
       rintro e w4 ⟨rfl, b4⟩
       have D4 := below_step D1 b4
       have F4 := F1.below' b4
       obtain ⟨f0, f1, f2⟩ := fault_cells F4
       have lf := F4.lt))
  go_ret
  exact ⟨rfl, D4⟩
set_option maxHeartbeats 2000000 in
set_option maxRecDepth 100000 in
theorem cuts_long (m : ModD) (cut : Int) (v : Value) (l : List UInt8) (w : World) (ht : TabOk w) (wm : m.Wf) (hm : ModOk w w.heap.size m) (hr : ByteR w w.heap.size v l) (hl : l.length ≤ 140737488351232) (hmay : mayD m = ⟨0, 0, 0⟩) (hbig : 1048576 < l.length) : Calls Tryd.prog 6 #[m.val, .int .i64 cut, v] w fun e w' => e = .returned (.bool true) ∧ Below w.heap.size w w' := by
  obtain ⟨A, cv, rfl, _, hnv, _⟩ := hr.row
  have B0 := below_alloc (Below.refl w.heap.size w) (.cells (mCells m) 25)
  have X0 := Whl.new w 25 (mCells m)
  have HM := Lib.hid hm
  have HT := Lib.hid ht
  have HR := Lib.hid hr
  clear hm ht hr
  go_enter Tryd.func6, Tryd.ntmps6
  go_wp2_with (first
    | (fail_if_success (have _t := b1)
       go_at_call 8
       refine (encOk wm ((HM.out.below B0 (Nat.le_refl _)).more B0.size) (HT.out.below B0 HT.out.size) hmay).mono ?_
       rintro e w1 ⟨v1, rfl, o1, b1⟩
       obtain ⟨Ab, cb, rfl, hAb⟩ := own_slice o1
       have D1 := below_alloc (below_step B0 b1) fBox0
       have X1 := (X0.below' b1).alloc fBox0
       have F1 := Whl.new w1 30 #[.int .i64 0, .int .i64 0, .int .i64 0]
       have K1 := ByteR.of_own (o1.alloc fBox0))
    | (go_at_call 11
       refine (fixedL _ (HT.out.below D1 HT.out.size)).mono ?_
       rintro e w4 ⟨rfl, b4⟩
       have D4 := below_step D1 b4
       have F4 := F1.below' b4
       obtain ⟨f0, f1, f2⟩ := fault_cells F4
       have lf := F4.lt))
  go_ret
  exact ⟨rfl, D4⟩
set_option maxHeartbeats 2000000 in
set_option maxRecDepth 100000 in
theorem cuts_p1 (m : ModD) (cut : Int) (v : Value) (l : List UInt8) (w : World) (ht : TabOk w) (wm : m.Wf) (hm : ModOk w w.heap.size m) (hr : ByteR w w.heap.size v l) (hl : l.length ≤ 140737488351232) (hcut : In64 cut) (hmay : mayD m = ⟨0, 0, 0⟩) (hsm : l.length ≤ 1048576) (t : Int) (k : Nat) (hmod : cut.tmod ((encM m).length : Int) = t) (hk : t = (k : Int)) (hkl : k < (encM m).length) (hl0 : l = []) : Calls Tryd.prog 6 #[m.val, .int .i64 cut, v] w fun e w' => e = .returned (.bool true) ∧ Below w.heap.size w w' := by
  obtain ⟨A, cv, rfl, _, hnv, _⟩ := hr.row
  have B0 := below_alloc (Below.refl w.heap.size w) (.cells (mCells m) 25)
  have X0 := Whl.new w 25 (mCells m)
  have HM := Lib.hid hm
  have HT := Lib.hid ht
  have HR := Lib.hid hr
  clear hm ht hr
  have hN := encM_pos m
  have hN2 := encM_len (small_of hmay)
  have hN3 : (((encM m).length : Int) == 0) = false := by simpa using (show ((encM m).length : Int) ≠ 0 by omega)
  have hmk := dec_cut wm hmay hkl
  have HMK := Lib.hid hmk
  clear hmk
  have HMOD := Lib.hid hmod
  subst hk
  subst hl0
  obtain ⟨iB, hiB, zB0, zB1, zB2⟩ := info_parts infoB
  go_enter Tryd.func6, Tryd.ntmps6
  go_wp2_with (first
    | (fail_if_success (have _t := b1)
       go_at_call 8
       refine (encOk wm ((HM.out.below B0 (Nat.le_refl _)).more B0.size) (HT.out.below B0 HT.out.size) hmay).mono ?_
       rintro e w1 ⟨v1, rfl, o1, b1⟩
       obtain ⟨Ab, cb, rfl, hAb⟩ := own_slice o1
       have D1 := below_alloc (below_step B0 b1) fBox0
       have X1 := (X0.below' b1).alloc fBox0
       have F1 := Whl.new w1 30 #[.int .i64 0, .int .i64 0, .int .i64 0]
       have K1 := ByteR.of_own (o1.alloc fBox0))
    | (go_at_call 11
       refine (fixedL _ (HT.out.below D1 HT.out.size)).mono ?_
       rintro e w4 ⟨rfl, b4⟩
       have D4 := below_step D1 b4
       have F4 := F1.below' b4
       obtain ⟨f0, f1, f2⟩ := fault_cells F4
       have lf := F4.lt
       have X4 := X1.below' b4
       have K4 := K1.step b4
       have K5 := K4.take (k := k) (by omega)
       have hcb : (k : Int) ≤ (cb : Int) := by have := K4.cap; omega)
    | (fail_if_success (have _t := b5)
       go_at_call 13
       refine (decNo K5 HMK.out).mono ?_
       rintro e w5 ⟨A51, A52, c51, c52, rfl, b5⟩
       have D5 := below_alloc (below_step D4 b5) (.cells #[.slice A51 0 c51, .slice A52 0 c52] 25)
       have E5 := below_alloc D5 (.cells #[] 5)
       have X5 := ((X4.below' b5).alloc (.cells #[.slice A51 0 c51, .slice A52 0 c52] 25)).alloc (.cells #[] 5)
       have S5 := below_step b5 (below_alloc (below_alloc (Below.refl _ _) (.cells #[.slice A51 0 c51, .slice A52 0 c52] 25)) (.cells #[] 5))
       have K6 := K4.step S5
       have h00 := own_made0 (w := w5.alloc (.cells #[.slice A51 0 c51, .slice A52 0 c52] 25)) (base := w.heap.size) 5 1 (w5.heap.size + 1) D5.size (by simp))
    | (fail_if_success (have _t := g6)
       at_builtin
       refine wpList_append_any rfl _ _ _ rfl w.heap.size 5 iB (.int .u8 0) 1 1 Tryd.underlying27 hiB zB0 zB1 zB2 rfl (by decide) _ 0 [] rfl h00 Ab (encM m).length cb (fun k _ => u8V ((encM m).getD k 0)) rfl K6.rows.2.2 hAb (fun k j => rfl) (by unfold maxLen; omega) (by omega) E5.size ?_
       intro v6 w6 own6 g6
       rw [Nat.zero_add, List.nil_append, rowsL_U8s] at own6
       have D6' : Below w.heap.size w w6 := E5.grown g6 E5.size (fun k hk => by cases hk; have := D5.size; simp at this; omega)
       have X6' := X5.grown g6 (own_whl h00 X5 (by decide))
       have R6' := (HR.out.below D6' (Nat.le_refl _)).more D6'.size)
    | (fail_if_success (have _t := g7)
       at_builtin
       refine wpList_append_any rfl _ _ _ rfl w.heap.size 5 iB (.int .u8 0) 1 1 Tryd.underlying27 hiB zB0 zB1 zB2 rfl (by decide) v6 (encM m).length (U8s (encM m)) rfl own6 A 0 cv (fun k _ => u8V (([] : List UInt8).getD k 0)) rfl R6'.rows.2.2 hnv (fun k j => rfl) (by unfold maxLen; omega) (by omega) D6'.size ?_
       intro v7 w7 own7 g7
       rw [show (rowsL 0 1 fun k _ => u8V (([] : List UInt8).getD k 0)) = U8s [] from rfl] at own7
       have o6 : OwnB w7 w.heap.size v7 (encM m ++ ([] : List UInt8)) := by
         unfold OwnB
         rw [List.length_append, U8s_app]
         exact own7
       have D6 : Below w.heap.size w w7 := D6'.grown g7 D6'.size (fun k hk => (own6.lt k hk).1)
       have X6 := X6'.grown g7 (own_whl own6 X6' (by decide)))
    | (fail_if_success (have _t := b7)
       have _t6 := o6
       go_at_call 13
       refine (decBack wm hmay (by have := ByteR.of_own o6; rwa [List.append_nil] at this)).mono ?_
       rintro e w9 ⟨c7, rfl, ⟨hs7, wc7, mc7⟩, b7⟩
       have D7 := below_alloc (below_step D6 b7) (.cells (mCells c7) 25)
       have X7 := (X6.below' b7).alloc (.cells (mCells c7) 25)
       have M7 := (HM.out.below D7 (Nat.le_refl _)).more D7.size
       have N7 := mc7.step (below_alloc (Below.refl _ _) (.cells (mCells c7) 25))
       have HS7 := Lib.hid hs7
       clear hs7
       obtain ⟨x0, x1, _, _⟩ := Whl.two X7
       have lx := X7.lt)
    | (go_at_call 10
       refine (sameMR m c7 _ wm wc7 M7 N7).mono ?_
       rintro e w8 ⟨rfl, b8⟩
       rw [HS7.out]
       have D8 := below_step D7 b8))
  go_ret
  exact ⟨by simp, D8⟩
set_option maxHeartbeats 2000000 in
set_option maxRecDepth 100000 in
theorem cuts_p2 (m : ModD) (cut : Int) (v : Value) (l : List UInt8) (w : World) (ht : TabOk w) (wm : m.Wf) (hm : ModOk w w.heap.size m) (hr : ByteR w w.heap.size v l) (hl : l.length ≤ 140737488351232) (hcut : In64 cut) (hmay : mayD m = ⟨0, 0, 0⟩) (hsm : l.length ≤ 1048576) (t : Int) (k : Nat) (hmod : cut.tmod ((encM m).length : Int) = t) (hk : t = (k : Int)) (hkl : k < (encM m).length) (hl0 : l ≠ []) (hbig : 1048576 < (encM m).length + l.length) : Calls Tryd.prog 6 #[m.val, .int .i64 cut, v] w fun e w' => e = .returned (.bool true) ∧ Below w.heap.size w w' := by
  obtain ⟨A, cv, rfl, _, hnv, _⟩ := hr.row
  have B0 := below_alloc (Below.refl w.heap.size w) (.cells (mCells m) 25)
  have X0 := Whl.new w 25 (mCells m)
  have HM := Lib.hid hm
  have HT := Lib.hid ht
  have HR := Lib.hid hr
  clear hm ht hr
  have hN := encM_pos m
  have hN2 := encM_len (small_of hmay)
  have hN3 : (((encM m).length : Int) == 0) = false := by simpa using (show ((encM m).length : Int) ≠ 0 by omega)
  have hmk := dec_cut wm hmay hkl
  have HMK := Lib.hid hmk
  clear hmk
  have HMOD := Lib.hid hmod
  subst hk
  have hl1 : 0 < l.length := List.length_pos_iff.2 hl0
  have hdd : decS (encM m ++ l) = .bad 4 1048576 := if_pos (by rw [List.length_append]; omega)
  have HDD := Lib.hid hdd
  clear hdd hl0
  obtain ⟨iB, hiB, zB0, zB1, zB2⟩ := info_parts infoB
  go_enter Tryd.func6, Tryd.ntmps6
  go_wp2_with (first
    | (fail_if_success (have _t := b1)
       go_at_call 8
       refine (encOk wm ((HM.out.below B0 (Nat.le_refl _)).more B0.size) (HT.out.below B0 HT.out.size) hmay).mono ?_
       rintro e w1 ⟨v1, rfl, o1, b1⟩
       obtain ⟨Ab, cb, rfl, hAb⟩ := own_slice o1
       have D1 := below_alloc (below_step B0 b1) fBox0
       have X1 := (X0.below' b1).alloc fBox0
       have F1 := Whl.new w1 30 #[.int .i64 0, .int .i64 0, .int .i64 0]
       have K1 := ByteR.of_own (o1.alloc fBox0))
    | (go_at_call 11
       refine (fixedL _ (HT.out.below D1 HT.out.size)).mono ?_
       rintro e w4 ⟨rfl, b4⟩
       have D4 := below_step D1 b4
       have F4 := F1.below' b4
       obtain ⟨f0, f1, f2⟩ := fault_cells F4
       have lf := F4.lt
       have X4 := X1.below' b4
       have K4 := K1.step b4
       have K5 := K4.take (k := k) (by omega)
       have hcb : (k : Int) ≤ (cb : Int) := by have := K4.cap; omega)
    | (fail_if_success (have _t := b5)
       go_at_call 13
       refine (decNo K5 HMK.out).mono ?_
       rintro e w5 ⟨A51, A52, c51, c52, rfl, b5⟩
       have D5 := below_alloc (below_step D4 b5) (.cells #[.slice A51 0 c51, .slice A52 0 c52] 25)
       have E5 := below_alloc D5 (.cells #[] 5)
       have X5 := ((X4.below' b5).alloc (.cells #[.slice A51 0 c51, .slice A52 0 c52] 25)).alloc (.cells #[] 5)
       have S5 := below_step b5 (below_alloc (below_alloc (Below.refl _ _) (.cells #[.slice A51 0 c51, .slice A52 0 c52] 25)) (.cells #[] 5))
       have K6 := K4.step S5
       have h00 := own_made0 (w := w5.alloc (.cells #[.slice A51 0 c51, .slice A52 0 c52] 25)) (base := w.heap.size) 5 1 (w5.heap.size + 1) D5.size (by simp))
    | (fail_if_success (have _t := g6)
       at_builtin
       refine wpList_append_any rfl _ _ _ rfl w.heap.size 5 iB (.int .u8 0) 1 1 Tryd.underlying27 hiB zB0 zB1 zB2 rfl (by decide) _ 0 [] rfl h00 Ab (encM m).length cb (fun k _ => u8V ((encM m).getD k 0)) rfl K6.rows.2.2 hAb (fun k j => rfl) (by unfold maxLen; omega) (by omega) E5.size ?_
       intro v6 w6 own6 g6
       rw [Nat.zero_add, List.nil_append, rowsL_U8s] at own6
       have D6' : Below w.heap.size w w6 := E5.grown g6 E5.size (fun k hk => by cases hk; have := D5.size; simp at this; omega)
       have X6' := X5.grown g6 (own_whl h00 X5 (by decide))
       have R6' := (HR.out.below D6' (Nat.le_refl _)).more D6'.size)
    | (fail_if_success (have _t := g7)
       at_builtin
       refine wpList_append_any rfl _ _ _ rfl w.heap.size 5 iB (.int .u8 0) 1 1 Tryd.underlying27 hiB zB0 zB1 zB2 rfl (by decide) v6 (encM m).length (U8s (encM m)) rfl own6 A l.length cv (fun k _ => u8V (l.getD k 0)) rfl R6'.rows.2.2 hnv (fun k j => rfl) (by unfold maxLen; omega) (by omega) D6'.size ?_
       intro v7 w7 own7 g7
       rw [rowsL_U8s] at own7
       have o6 : OwnB w7 w.heap.size v7 (encM m ++ l) := by
         unfold OwnB
         rw [List.length_append, U8s_app]
         exact own7
       have D6 : Below w.heap.size w w7 := D6'.grown g7 D6'.size (fun k hk => (own6.lt k hk).1)
       have X6 := X6'.grown g7 (own_whl own6 X6' (by decide)))
    | (fail_if_success (have _t := b7)
       have _t6 := o6
       go_at_call 13
       refine (decNo (ByteR.of_own o6) HDD.out).mono ?_
       rintro e w9 ⟨A71, A72, c71, c72, rfl, b7⟩
       have D7 := below_alloc (below_step D6 b7) (.cells #[.slice A71 0 c71, .slice A72 0 c72] 25)))
  go_ret
  exact ⟨by simp, D7⟩
set_option maxHeartbeats 2000000 in
set_option maxRecDepth 100000 in
theorem cuts_p3 (m : ModD) (cut : Int) (v : Value) (l : List UInt8) (w : World) (ht : TabOk w) (wm : m.Wf) (hm : ModOk w w.heap.size m) (hr : ByteR w w.heap.size v l) (hl : l.length ≤ 140737488351232) (hcut : In64 cut) (hmay : mayD m = ⟨0, 0, 0⟩) (hsm : l.length ≤ 1048576) (t : Int) (k : Nat) (hmod : cut.tmod ((encM m).length : Int) = t) (hk : t = (k : Int)) (hkl : k < (encM m).length) (hl0 : l ≠ []) (hbig : ¬ 1048576 < (encM m).length + l.length) : Calls Tryd.prog 6 #[m.val, .int .i64 cut, v] w fun e w' => e = .returned (.bool true) ∧ Below w.heap.size w w' := by
  obtain ⟨A, cv, rfl, _, hnv, _⟩ := hr.row
  have B0 := below_alloc (Below.refl w.heap.size w) (.cells (mCells m) 25)
  have X0 := Whl.new w 25 (mCells m)
  have HM := Lib.hid hm
  have HT := Lib.hid ht
  have HR := Lib.hid hr
  clear hm ht hr
  have hN := encM_pos m
  have hN2 := encM_len (small_of hmay)
  have hN3 : (((encM m).length : Int) == 0) = false := by simpa using (show ((encM m).length : Int) ≠ 0 by omega)
  have hmk := dec_cut wm hmay hkl
  have HMK := Lib.hid hmk
  clear hmk
  have HMOD := Lib.hid hmod
  subst hk
  have hl1 : 0 < l.length := List.length_pos_iff.2 hl0
  have hdd : decS (encM m ++ l) = .bad 7 ((encM m).length : Nat) := dec_more wm hmay hl0 (by omega)
  have HDD := Lib.hid hdd
  clear hdd hl0
  obtain ⟨iB, hiB, zB0, zB1, zB2⟩ := info_parts infoB
  go_enter Tryd.func6, Tryd.ntmps6
  go_wp2_with (first
    | (fail_if_success (have _t := b1)
       go_at_call 8
       refine (encOk wm ((HM.out.below B0 (Nat.le_refl _)).more B0.size) (HT.out.below B0 HT.out.size) hmay).mono ?_
       rintro e w1 ⟨v1, rfl, o1, b1⟩
       obtain ⟨Ab, cb, rfl, hAb⟩ := own_slice o1
       have D1 := below_alloc (below_step B0 b1) fBox0
       have X1 := (X0.below' b1).alloc fBox0
       have F1 := Whl.new w1 30 #[.int .i64 0, .int .i64 0, .int .i64 0]
       have K1 := ByteR.of_own (o1.alloc fBox0))
    | (go_at_call 11
       refine (fixedL _ (HT.out.below D1 HT.out.size)).mono ?_
       rintro e w4 ⟨rfl, b4⟩
       have D4 := below_step D1 b4
       have F4 := F1.below' b4
       obtain ⟨f0, f1, f2⟩ := fault_cells F4
       have lf := F4.lt
       have X4 := X1.below' b4
       have K4 := K1.step b4
       have K5 := K4.take (k := k) (by omega)
       have hcb : (k : Int) ≤ (cb : Int) := by have := K4.cap; omega)
    | (fail_if_success (have _t := b5)
       go_at_call 13
       refine (decNo K5 HMK.out).mono ?_
       rintro e w5 ⟨A51, A52, c51, c52, rfl, b5⟩
       have D5 := below_alloc (below_step D4 b5) (.cells #[.slice A51 0 c51, .slice A52 0 c52] 25)
       have E5 := below_alloc D5 (.cells #[] 5)
       have X5 := ((X4.below' b5).alloc (.cells #[.slice A51 0 c51, .slice A52 0 c52] 25)).alloc (.cells #[] 5)
       have S5 := below_step b5 (below_alloc (below_alloc (Below.refl _ _) (.cells #[.slice A51 0 c51, .slice A52 0 c52] 25)) (.cells #[] 5))
       have K6 := K4.step S5
       have h00 := own_made0 (w := w5.alloc (.cells #[.slice A51 0 c51, .slice A52 0 c52] 25)) (base := w.heap.size) 5 1 (w5.heap.size + 1) D5.size (by simp))
    | (fail_if_success (have _t := g6)
       at_builtin
       refine wpList_append_any rfl _ _ _ rfl w.heap.size 5 iB (.int .u8 0) 1 1 Tryd.underlying27 hiB zB0 zB1 zB2 rfl (by decide) _ 0 [] rfl h00 Ab (encM m).length cb (fun k _ => u8V ((encM m).getD k 0)) rfl K6.rows.2.2 hAb (fun k j => rfl) (by unfold maxLen; omega) (by omega) E5.size ?_
       intro v6 w6 own6 g6
       rw [Nat.zero_add, List.nil_append, rowsL_U8s] at own6
       have D6' : Below w.heap.size w w6 := E5.grown g6 E5.size (fun k hk => by cases hk; have := D5.size; simp at this; omega)
       have X6' := X5.grown g6 (own_whl h00 X5 (by decide))
       have R6' := (HR.out.below D6' (Nat.le_refl _)).more D6'.size)
    | (fail_if_success (have _t := g7)
       at_builtin
       refine wpList_append_any rfl _ _ _ rfl w.heap.size 5 iB (.int .u8 0) 1 1 Tryd.underlying27 hiB zB0 zB1 zB2 rfl (by decide) v6 (encM m).length (U8s (encM m)) rfl own6 A l.length cv (fun k _ => u8V (l.getD k 0)) rfl R6'.rows.2.2 hnv (fun k j => rfl) (by unfold maxLen; omega) (by omega) D6'.size ?_
       intro v7 w7 own7 g7
       rw [rowsL_U8s] at own7
       have o6 : OwnB w7 w.heap.size v7 (encM m ++ l) := by
         unfold OwnB
         rw [List.length_append, U8s_app]
         exact own7
       have D6 : Below w.heap.size w w7 := D6'.grown g7 D6'.size (fun k hk => (own6.lt k hk).1)
       have X6 := X6'.grown g7 (own_whl own6 X6' (by decide)))
    | (fail_if_success (have _t := b7)
       have _t6 := o6
       go_at_call 13
       refine (decNo (ByteR.of_own o6) HDD.out).mono ?_
       rintro e w9 ⟨A71, A72, c71, c72, rfl, b7⟩
       have D7 := below_alloc (below_step D6 b7) (.cells #[.slice A71 0 c71, .slice A72 0 c72] 25)))
  go_ret
  exact ⟨by simp, D7⟩
set_option maxHeartbeats 2000000 in
set_option maxRecDepth 100000 in
theorem cuts_n1 (m : ModD) (cut : Int) (v : Value) (l : List UInt8) (w : World) (ht : TabOk w) (wm : m.Wf) (hm : ModOk w w.heap.size m) (hr : ByteR w w.heap.size v l) (hl : l.length ≤ 140737488351232) (hcut : In64 cut) (hmay : mayD m = ⟨0, 0, 0⟩) (hsm : l.length ≤ 1048576) (t : Int) (k : Nat) (hmod : cut.tmod ((encM m).length : Int) = t) (hk : t = -(k : Int)) (hkl : k < (encM m).length) (hk0 : 0 < k) (hl0 : l = []) : Calls Tryd.prog 6 #[m.val, .int .i64 cut, v] w fun e w' => e = .returned (.bool true) ∧ Below w.heap.size w w' := by
  obtain ⟨A, cv, rfl, _, hnv, _⟩ := hr.row
  have B0 := below_alloc (Below.refl w.heap.size w) (.cells (mCells m) 25)
  have X0 := Whl.new w 25 (mCells m)
  have HM := Lib.hid hm
  have HT := Lib.hid ht
  have HR := Lib.hid hr
  clear hm ht hr
  have hN := encM_pos m
  have hN2 := encM_len (small_of hmay)
  have hN3 : (((encM m).length : Int) == 0) = false := by simpa using (show ((encM m).length : Int) ≠ 0 by omega)
  have hmk := dec_cut wm hmay hkl
  have HMK := Lib.hid hmk
  clear hmk
  have HMOD := Lib.hid hmod
  subst hk
  subst hl0
  obtain ⟨iB, hiB, zB0, zB1, zB2⟩ := info_parts infoB
  go_enter Tryd.func6, Tryd.ntmps6
  go_wp2_with (first
    | (fail_if_success (have _t := b1)
       go_at_call 8
       refine (encOk wm ((HM.out.below B0 (Nat.le_refl _)).more B0.size) (HT.out.below B0 HT.out.size) hmay).mono ?_
       rintro e w1 ⟨v1, rfl, o1, b1⟩
       obtain ⟨Ab, cb, rfl, hAb⟩ := own_slice o1
       have D1 := below_alloc (below_step B0 b1) fBox0
       have X1 := (X0.below' b1).alloc fBox0
       have F1 := Whl.new w1 30 #[.int .i64 0, .int .i64 0, .int .i64 0]
       have K1 := ByteR.of_own (o1.alloc fBox0))
    | (go_at_call 11
       refine (fixedL _ (HT.out.below D1 HT.out.size)).mono ?_
       rintro e w4 ⟨rfl, b4⟩
       have D4 := below_step D1 b4
       have F4 := F1.below' b4
       obtain ⟨f0, f1, f2⟩ := fault_cells F4
       have lf := F4.lt
       have X4 := X1.below' b4
       have K4 := K1.step b4
       have K5 := K4.take (k := k) (by omega)
       have hcb : (k : Int) ≤ (cb : Int) := by have := K4.cap; omega)
    | (fail_if_success (have _t := b5)
       go_at_call 13
       refine (decNo K5 HMK.out).mono ?_
       rintro e w5 ⟨A51, A52, c51, c52, rfl, b5⟩
       have D5 := below_alloc (below_step D4 b5) (.cells #[.slice A51 0 c51, .slice A52 0 c52] 25)
       have E5 := below_alloc D5 (.cells #[] 5)
       have X5 := ((X4.below' b5).alloc (.cells #[.slice A51 0 c51, .slice A52 0 c52] 25)).alloc (.cells #[] 5)
       have S5 := below_step b5 (below_alloc (below_alloc (Below.refl _ _) (.cells #[.slice A51 0 c51, .slice A52 0 c52] 25)) (.cells #[] 5))
       have K6 := K4.step S5
       have h00 := own_made0 (w := w5.alloc (.cells #[.slice A51 0 c51, .slice A52 0 c52] 25)) (base := w.heap.size) 5 1 (w5.heap.size + 1) D5.size (by simp))
    | (fail_if_success (have _t := g6)
       at_builtin
       refine wpList_append_any rfl _ _ _ rfl w.heap.size 5 iB (.int .u8 0) 1 1 Tryd.underlying27 hiB zB0 zB1 zB2 rfl (by decide) _ 0 [] rfl h00 Ab (encM m).length cb (fun k _ => u8V ((encM m).getD k 0)) rfl K6.rows.2.2 hAb (fun k j => rfl) (by unfold maxLen; omega) (by omega) E5.size ?_
       intro v6 w6 own6 g6
       rw [Nat.zero_add, List.nil_append, rowsL_U8s] at own6
       have D6' : Below w.heap.size w w6 := E5.grown g6 E5.size (fun k hk => by cases hk; have := D5.size; simp at this; omega)
       have X6' := X5.grown g6 (own_whl h00 X5 (by decide))
       have R6' := (HR.out.below D6' (Nat.le_refl _)).more D6'.size)
    | (fail_if_success (have _t := g7)
       at_builtin
       refine wpList_append_any rfl _ _ _ rfl w.heap.size 5 iB (.int .u8 0) 1 1 Tryd.underlying27 hiB zB0 zB1 zB2 rfl (by decide) v6 (encM m).length (U8s (encM m)) rfl own6 A 0 cv (fun k _ => u8V (([] : List UInt8).getD k 0)) rfl R6'.rows.2.2 hnv (fun k j => rfl) (by unfold maxLen; omega) (by omega) D6'.size ?_
       intro v7 w7 own7 g7
       rw [show (rowsL 0 1 fun k _ => u8V (([] : List UInt8).getD k 0)) = U8s [] from rfl] at own7
       have o6 : OwnB w7 w.heap.size v7 (encM m ++ ([] : List UInt8)) := by
         unfold OwnB
         rw [List.length_append, U8s_app]
         exact own7
       have D6 : Below w.heap.size w w7 := D6'.grown g7 D6'.size (fun k hk => (own6.lt k hk).1)
       have X6 := X6'.grown g7 (own_whl own6 X6' (by decide)))
    | (fail_if_success (have _t := b7)
       have _t6 := o6
       go_at_call 13
       refine (decBack wm hmay (by have := ByteR.of_own o6; rwa [List.append_nil] at this)).mono ?_
       rintro e w9 ⟨c7, rfl, ⟨hs7, wc7, mc7⟩, b7⟩
       have D7 := below_alloc (below_step D6 b7) (.cells (mCells c7) 25)
       have X7 := (X6.below' b7).alloc (.cells (mCells c7) 25)
       have M7 := (HM.out.below D7 (Nat.le_refl _)).more D7.size
       have N7 := mc7.step (below_alloc (Below.refl _ _) (.cells (mCells c7) 25))
       have HS7 := Lib.hid hs7
       clear hs7
       obtain ⟨x0, x1, _, _⟩ := Whl.two X7
       have lx := X7.lt)
    | (go_at_call 10
       refine (sameMR m c7 _ wm wc7 M7 N7).mono ?_
       rintro e w8 ⟨rfl, b8⟩
       rw [HS7.out]
       have D8 := below_step D7 b8))
  go_ret
  exact ⟨by simp, D8⟩
set_option maxHeartbeats 2000000 in
set_option maxRecDepth 100000 in
theorem cuts_n2 (m : ModD) (cut : Int) (v : Value) (l : List UInt8) (w : World) (ht : TabOk w) (wm : m.Wf) (hm : ModOk w w.heap.size m) (hr : ByteR w w.heap.size v l) (hl : l.length ≤ 140737488351232) (hcut : In64 cut) (hmay : mayD m = ⟨0, 0, 0⟩) (hsm : l.length ≤ 1048576) (t : Int) (k : Nat) (hmod : cut.tmod ((encM m).length : Int) = t) (hk : t = -(k : Int)) (hkl : k < (encM m).length) (hk0 : 0 < k) (hl0 : l ≠ []) (hbig : 1048576 < (encM m).length + l.length) : Calls Tryd.prog 6 #[m.val, .int .i64 cut, v] w fun e w' => e = .returned (.bool true) ∧ Below w.heap.size w w' := by
  obtain ⟨A, cv, rfl, _, hnv, _⟩ := hr.row
  have B0 := below_alloc (Below.refl w.heap.size w) (.cells (mCells m) 25)
  have X0 := Whl.new w 25 (mCells m)
  have HM := Lib.hid hm
  have HT := Lib.hid ht
  have HR := Lib.hid hr
  clear hm ht hr
  have hN := encM_pos m
  have hN2 := encM_len (small_of hmay)
  have hN3 : (((encM m).length : Int) == 0) = false := by simpa using (show ((encM m).length : Int) ≠ 0 by omega)
  have hmk := dec_cut wm hmay hkl
  have HMK := Lib.hid hmk
  clear hmk
  have HMOD := Lib.hid hmod
  subst hk
  have hl1 : 0 < l.length := List.length_pos_iff.2 hl0
  have hdd : decS (encM m ++ l) = .bad 4 1048576 := if_pos (by rw [List.length_append]; omega)
  have HDD := Lib.hid hdd
  clear hdd hl0
  obtain ⟨iB, hiB, zB0, zB1, zB2⟩ := info_parts infoB
  go_enter Tryd.func6, Tryd.ntmps6
  go_wp2_with (first
    | (fail_if_success (have _t := b1)
       go_at_call 8
       refine (encOk wm ((HM.out.below B0 (Nat.le_refl _)).more B0.size) (HT.out.below B0 HT.out.size) hmay).mono ?_
       rintro e w1 ⟨v1, rfl, o1, b1⟩
       obtain ⟨Ab, cb, rfl, hAb⟩ := own_slice o1
       have D1 := below_alloc (below_step B0 b1) fBox0
       have X1 := (X0.below' b1).alloc fBox0
       have F1 := Whl.new w1 30 #[.int .i64 0, .int .i64 0, .int .i64 0]
       have K1 := ByteR.of_own (o1.alloc fBox0))
    | (go_at_call 11
       refine (fixedL _ (HT.out.below D1 HT.out.size)).mono ?_
       rintro e w4 ⟨rfl, b4⟩
       have D4 := below_step D1 b4
       have F4 := F1.below' b4
       obtain ⟨f0, f1, f2⟩ := fault_cells F4
       have lf := F4.lt
       have X4 := X1.below' b4
       have K4 := K1.step b4
       have K5 := K4.take (k := k) (by omega)
       have hcb : (k : Int) ≤ (cb : Int) := by have := K4.cap; omega)
    | (fail_if_success (have _t := b5)
       go_at_call 13
       refine (decNo K5 HMK.out).mono ?_
       rintro e w5 ⟨A51, A52, c51, c52, rfl, b5⟩
       have D5 := below_alloc (below_step D4 b5) (.cells #[.slice A51 0 c51, .slice A52 0 c52] 25)
       have E5 := below_alloc D5 (.cells #[] 5)
       have X5 := ((X4.below' b5).alloc (.cells #[.slice A51 0 c51, .slice A52 0 c52] 25)).alloc (.cells #[] 5)
       have S5 := below_step b5 (below_alloc (below_alloc (Below.refl _ _) (.cells #[.slice A51 0 c51, .slice A52 0 c52] 25)) (.cells #[] 5))
       have K6 := K4.step S5
       have h00 := own_made0 (w := w5.alloc (.cells #[.slice A51 0 c51, .slice A52 0 c52] 25)) (base := w.heap.size) 5 1 (w5.heap.size + 1) D5.size (by simp))
    | (fail_if_success (have _t := g6)
       at_builtin
       refine wpList_append_any rfl _ _ _ rfl w.heap.size 5 iB (.int .u8 0) 1 1 Tryd.underlying27 hiB zB0 zB1 zB2 rfl (by decide) _ 0 [] rfl h00 Ab (encM m).length cb (fun k _ => u8V ((encM m).getD k 0)) rfl K6.rows.2.2 hAb (fun k j => rfl) (by unfold maxLen; omega) (by omega) E5.size ?_
       intro v6 w6 own6 g6
       rw [Nat.zero_add, List.nil_append, rowsL_U8s] at own6
       have D6' : Below w.heap.size w w6 := E5.grown g6 E5.size (fun k hk => by cases hk; have := D5.size; simp at this; omega)
       have X6' := X5.grown g6 (own_whl h00 X5 (by decide))
       have R6' := (HR.out.below D6' (Nat.le_refl _)).more D6'.size)
    | (fail_if_success (have _t := g7)
       at_builtin
       refine wpList_append_any rfl _ _ _ rfl w.heap.size 5 iB (.int .u8 0) 1 1 Tryd.underlying27 hiB zB0 zB1 zB2 rfl (by decide) v6 (encM m).length (U8s (encM m)) rfl own6 A l.length cv (fun k _ => u8V (l.getD k 0)) rfl R6'.rows.2.2 hnv (fun k j => rfl) (by unfold maxLen; omega) (by omega) D6'.size ?_
       intro v7 w7 own7 g7
       rw [rowsL_U8s] at own7
       have o6 : OwnB w7 w.heap.size v7 (encM m ++ l) := by
         unfold OwnB
         rw [List.length_append, U8s_app]
         exact own7
       have D6 : Below w.heap.size w w7 := D6'.grown g7 D6'.size (fun k hk => (own6.lt k hk).1)
       have X6 := X6'.grown g7 (own_whl own6 X6' (by decide)))
    | (fail_if_success (have _t := b7)
       have _t6 := o6
       go_at_call 13
       refine (decNo (ByteR.of_own o6) HDD.out).mono ?_
       rintro e w9 ⟨A71, A72, c71, c72, rfl, b7⟩
       have D7 := below_alloc (below_step D6 b7) (.cells #[.slice A71 0 c71, .slice A72 0 c72] 25)))
  go_ret
  exact ⟨by simp, D7⟩
set_option maxHeartbeats 2000000 in
set_option maxRecDepth 100000 in
theorem cuts_n3 (m : ModD) (cut : Int) (v : Value) (l : List UInt8) (w : World) (ht : TabOk w) (wm : m.Wf) (hm : ModOk w w.heap.size m) (hr : ByteR w w.heap.size v l) (hl : l.length ≤ 140737488351232) (hcut : In64 cut) (hmay : mayD m = ⟨0, 0, 0⟩) (hsm : l.length ≤ 1048576) (t : Int) (k : Nat) (hmod : cut.tmod ((encM m).length : Int) = t) (hk : t = -(k : Int)) (hkl : k < (encM m).length) (hk0 : 0 < k) (hl0 : l ≠ []) (hbig : ¬ 1048576 < (encM m).length + l.length) : Calls Tryd.prog 6 #[m.val, .int .i64 cut, v] w fun e w' => e = .returned (.bool true) ∧ Below w.heap.size w w' := by
  obtain ⟨A, cv, rfl, _, hnv, _⟩ := hr.row
  have B0 := below_alloc (Below.refl w.heap.size w) (.cells (mCells m) 25)
  have X0 := Whl.new w 25 (mCells m)
  have HM := Lib.hid hm
  have HT := Lib.hid ht
  have HR := Lib.hid hr
  clear hm ht hr
  have hN := encM_pos m
  have hN2 := encM_len (small_of hmay)
  have hN3 : (((encM m).length : Int) == 0) = false := by simpa using (show ((encM m).length : Int) ≠ 0 by omega)
  have hmk := dec_cut wm hmay hkl
  have HMK := Lib.hid hmk
  clear hmk
  have HMOD := Lib.hid hmod
  subst hk
  have hl1 : 0 < l.length := List.length_pos_iff.2 hl0
  have hdd : decS (encM m ++ l) = .bad 7 ((encM m).length : Nat) := dec_more wm hmay hl0 (by omega)
  have HDD := Lib.hid hdd
  clear hdd hl0
  obtain ⟨iB, hiB, zB0, zB1, zB2⟩ := info_parts infoB
  go_enter Tryd.func6, Tryd.ntmps6
  go_wp2_with (first
    | (fail_if_success (have _t := b1)
       go_at_call 8
       refine (encOk wm ((HM.out.below B0 (Nat.le_refl _)).more B0.size) (HT.out.below B0 HT.out.size) hmay).mono ?_
       rintro e w1 ⟨v1, rfl, o1, b1⟩
       obtain ⟨Ab, cb, rfl, hAb⟩ := own_slice o1
       have D1 := below_alloc (below_step B0 b1) fBox0
       have X1 := (X0.below' b1).alloc fBox0
       have F1 := Whl.new w1 30 #[.int .i64 0, .int .i64 0, .int .i64 0]
       have K1 := ByteR.of_own (o1.alloc fBox0))
    | (go_at_call 11
       refine (fixedL _ (HT.out.below D1 HT.out.size)).mono ?_
       rintro e w4 ⟨rfl, b4⟩
       have D4 := below_step D1 b4
       have F4 := F1.below' b4
       obtain ⟨f0, f1, f2⟩ := fault_cells F4
       have lf := F4.lt
       have X4 := X1.below' b4
       have K4 := K1.step b4
       have K5 := K4.take (k := k) (by omega)
       have hcb : (k : Int) ≤ (cb : Int) := by have := K4.cap; omega)
    | (fail_if_success (have _t := b5)
       go_at_call 13
       refine (decNo K5 HMK.out).mono ?_
       rintro e w5 ⟨A51, A52, c51, c52, rfl, b5⟩
       have D5 := below_alloc (below_step D4 b5) (.cells #[.slice A51 0 c51, .slice A52 0 c52] 25)
       have E5 := below_alloc D5 (.cells #[] 5)
       have X5 := ((X4.below' b5).alloc (.cells #[.slice A51 0 c51, .slice A52 0 c52] 25)).alloc (.cells #[] 5)
       have S5 := below_step b5 (below_alloc (below_alloc (Below.refl _ _) (.cells #[.slice A51 0 c51, .slice A52 0 c52] 25)) (.cells #[] 5))
       have K6 := K4.step S5
       have h00 := own_made0 (w := w5.alloc (.cells #[.slice A51 0 c51, .slice A52 0 c52] 25)) (base := w.heap.size) 5 1 (w5.heap.size + 1) D5.size (by simp))
    | (fail_if_success (have _t := g6)
       at_builtin
       refine wpList_append_any rfl _ _ _ rfl w.heap.size 5 iB (.int .u8 0) 1 1 Tryd.underlying27 hiB zB0 zB1 zB2 rfl (by decide) _ 0 [] rfl h00 Ab (encM m).length cb (fun k _ => u8V ((encM m).getD k 0)) rfl K6.rows.2.2 hAb (fun k j => rfl) (by unfold maxLen; omega) (by omega) E5.size ?_
       intro v6 w6 own6 g6
       rw [Nat.zero_add, List.nil_append, rowsL_U8s] at own6
       have D6' : Below w.heap.size w w6 := E5.grown g6 E5.size (fun k hk => by cases hk; have := D5.size; simp at this; omega)
       have X6' := X5.grown g6 (own_whl h00 X5 (by decide))
       have R6' := (HR.out.below D6' (Nat.le_refl _)).more D6'.size)
    | (fail_if_success (have _t := g7)
       at_builtin
       refine wpList_append_any rfl _ _ _ rfl w.heap.size 5 iB (.int .u8 0) 1 1 Tryd.underlying27 hiB zB0 zB1 zB2 rfl (by decide) v6 (encM m).length (U8s (encM m)) rfl own6 A l.length cv (fun k _ => u8V (l.getD k 0)) rfl R6'.rows.2.2 hnv (fun k j => rfl) (by unfold maxLen; omega) (by omega) D6'.size ?_
       intro v7 w7 own7 g7
       rw [rowsL_U8s] at own7
       have o6 : OwnB w7 w.heap.size v7 (encM m ++ l) := by
         unfold OwnB
         rw [List.length_append, U8s_app]
         exact own7
       have D6 : Below w.heap.size w w7 := D6'.grown g7 D6'.size (fun k hk => (own6.lt k hk).1)
       have X6 := X6'.grown g7 (own_whl own6 X6' (by decide)))
    | (fail_if_success (have _t := b7)
       have _t6 := o6
       go_at_call 13
       refine (decNo (ByteR.of_own o6) HDD.out).mono ?_
       rintro e w9 ⟨A71, A72, c71, c72, rfl, b7⟩
       have D7 := below_alloc (below_step D6 b7) (.cells #[.slice A71 0 c71, .slice A72 0 c72] 25)))
  go_ret
  exact ⟨by simp, D7⟩
theorem cutsL (m : ModD) (cut : Int) (v : Value) (l : List UInt8) (w : World) (ht : TabOk w) (wm : m.Wf) (hm : ModOk w w.heap.size m) (nm : m.Nils) (wc : (Lit.int .i64 cut).wf = true) (hr : ByteR w w.heap.size v l) (hl : l.length ≤ 140737488351232) : Calls Tryd.prog 6 #[m.val, .int .i64 cut, v] w fun e w' => e = .returned (.bool true) ∧ Below w.heap.size w w' := by
  by_cases h : (mayD m).e = 0
  · have hmay := may_zero h
    have hcut := in64_of_wf wc
    by_cases hbig : 1048576 < l.length
    · exact cuts_long m cut v l w ht wm hm hr hl hmay hbig
    · have hN := encM_pos m
      have hab : (cut.tmod ((encM m).length : Int)).natAbs < (encM m).length := by
        rw [Int.natAbs_tmod]
        exact Nat.mod_lt _ hN
      by_cases hneg : cut.tmod ((encM m).length : Int) < 0
      · have hk : cut.tmod ((encM m).length : Int) = -((cut.tmod ((encM m).length : Int)).natAbs : Int) := by omega
        by_cases hl0 : l = []
        · exact cuts_n1 m cut v l w ht wm hm hr hl hcut hmay (by omega) _ _ rfl hk hab (by omega) hl0
        · by_cases hb2 : 1048576 < (encM m).length + l.length
          · exact cuts_n2 m cut v l w ht wm hm hr hl hcut hmay (by omega) _ _ rfl hk hab (by omega) hl0 hb2
          · exact cuts_n3 m cut v l w ht wm hm hr hl hcut hmay (by omega) _ _ rfl hk hab (by omega) hl0 hb2
      · have hk : cut.tmod ((encM m).length : Int) = ((cut.tmod ((encM m).length : Int)).natAbs : Int) := by omega
        by_cases hl0 : l = []
        · exact cuts_p1 m cut v l w ht wm hm hr hl hcut hmay (by omega) _ _ rfl hk hab hl0
        · by_cases hb2 : 1048576 < (encM m).length + l.length
          · exact cuts_p2 m cut v l w ht wm hm hr hl hcut hmay (by omega) _ _ rfl hk hab hl0 hb2
          · exact cuts_p3 m cut v l w ht wm hm hr hl hcut hmay (by omega) _ _ rfl hk hab hl0 hb2
  · exact cuts_no m cut v l w ht wm hm hr hl h
end Go.Proofs.YtjacfeohpofhpaaDoor
