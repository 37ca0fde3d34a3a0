/-
  Layer 11 (pack): the walk of the law PackBack.
-/
import Derived.Test.YtjacfeohpofhpaaDoorLawF
namespace Go.Proofs.YtjacfeohpofhpaaDoor
open Go.RowKit
set_option linter.unusedSimpArgs false
set_option linter.unusedVariables false
variable {w W : World} {v : Value} {l : List UInt8} {m : ModD}
theorem encOk (wm : m.Wf) (hm : ModOk w w.heap.size m) (ht : TabOk w) (h : mayD m = ⟨0, 0, 0⟩) : Calls Tryd.prog 8 #[m.val] w fun e w' =>
    ∃ v, e = .returned (.tuple #[v, .agg #[.int .i64 0, .int .i64 0, .int .i64 0]]) ∧ OwnB w' w.heap.size v (encM m) ∧ Below w.heap.size w w' :=
  (encodeP m w wm hm ht h).mono fun _ _ ⟨⟨v, e, h1⟩, h2⟩ => ⟨v, e, h1, h2⟩
theorem encNo (wm : m.Wf) (hm : ModOk w w.heap.size m) (ht : TabOk w) (h : (mayD m).e ≠ 0) : Calls Tryd.prog 8 #[m.val] w fun e w' =>
    e = .returned (.tuple #[.slice none 0 0, .agg #[.int .i64 (mayD m).e, .int .i64 (mayD m).f, .int .i64 (mayD m).a]]) ∧ Below w.heap.size w w' := encFailP m w wm hm ht h
theorem byteR_nil (w : World) : ByteR w w.heap.size (.slice none 0 0) [] := ⟨none, 0, rfl, Nat.le_refl _, fun _ => rfl, fun h => absurd rfl h⟩
theorem decBack (wm : m.Wf) (h : mayD m = ⟨0, 0, 0⟩) (hr : ByteR w w.heap.size v (encM m)) : Calls Tryd.prog 13 #[v] w fun e w' =>
    ∃ c : ModD, e = .returned (.tuple #[c.val, .int .i64 0, .int .i64 0]) ∧ (sameD m c = true ∧ c.Wf ∧ ModOk w' w'.heap.size c) ∧ Below w.heap.size w w' :=
  (decP hr).mono fun _ _ ⟨c, e, h1, h2, h3⟩ => by
    obtain ⟨e1, e2⟩ := dec_enc wm h
    rw [e1] at e
    exact ⟨c, e, ⟨by rw [sameD_right h1, sameD_right e2, sameD_self], wf_same h1 decM_wf, h2.ok⟩, h3⟩
theorem decAny (hr : ByteR w w.heap.size v l) : Calls Tryd.prog 13 #[v] w fun e w' =>
    ∃ c : ModD, e = .returned (.tuple #[c.val, .int .i64 (stE (decS l)), .int .i64 (stP (decS l))]) ∧ (SameM (decM l) c ∧ c.Wf ∧ ModOk w' w'.heap.size c) ∧ Below w.heap.size w w' :=
  (decP hr).mono fun _ _ ⟨c, e, h1, h2, h3⟩ => ⟨c, e, ⟨h1, wf_same h1 decM_wf, h2.ok⟩, h3⟩
theorem decYes (hr : ByteR w w.heap.size v l) {a : Nat} (h : decS l = .ok a) : Calls Tryd.prog 13 #[v] w fun e w' =>
    ∃ c : ModD, e = .returned (.tuple #[c.val, .int .i64 0, .int .i64 0]) ∧ (SameM (decM l) c ∧ c.Wf ∧ ModOk w' w'.heap.size c) ∧ Below w.heap.size w w' :=
  (decAny hr).mono fun _ _ ⟨c, e, h1, h2⟩ => ⟨c, by rw [h] at e; exact e, h1, h2⟩
theorem decNo (hr : ByteR w w.heap.size v l) {x y : Int} (h : decS l = .bad x y) : Calls Tryd.prog 13 #[v] w fun e w' =>
    ∃ (A1 A2 : Option Addr) (c1 c2 : Nat), e = .returned (.tuple #[.agg #[.slice A1 0 c1, .slice A2 0 c2], .int .i64 x, .int .i64 y]) ∧ Below w.heap.size w w' :=
  (decAny hr).mono fun _ _ ⟨c, e, h1, h2⟩ => by
    have hd := decM_bad (L := l) (by rw [h]; rfl)
    have e1 : c.ths = [] := by rw [h1.1.ths, hd]
    have e2 : c.funcs.length = 0 := by rw [h1.1.len, hd]; rfl
    refine ⟨c.ta, c.fa, c.tc, c.fc, ?_, h2⟩
    rw [h] at e
    unfold ModD.val at e
    rw [e1, e2] at e
    exact e
abbrev fBox (d : FaultD) : Obj := .cells #[.int .i64 d.e, .int .i64 d.f, .int .i64 d.a] 30
abbrev fBox0 : Obj := .cells #[.int .i64 0, .int .i64 0, .int .i64 0] 30
set_option maxHeartbeats 2000000 in
set_option maxRecDepth 100000 in
theorem back_ok (m : ModD) (v : Value) (l : List UInt8) (w : World) (ht : TabOk w) (wm : m.Wf) (hm : ModOk w w.heap.size m) (hr : ByteR w w.heap.size v l) (hl : l.length ≤ 140737488351232) (hmay : mayD m = ⟨0, 0, 0⟩) : Calls Tryd.prog 5 #[m.val, v] w fun e w' => e = .returned (.bool true) ∧ Below w.heap.size w w' := by
  obtain ⟨A, cv, rfl, _⟩ := hr.row
  have B0 := below_alloc (Below.refl w.heap.size w) (.cells (mCells m) 25)
  have X0 := Whl.new w 25 (mCells m)
  have HM := Lib.hid (hm.step B0)
  have HT := Lib.hid ht
  have R0 := hr.step B0
  clear hm ht hr
  cases hs : decS l with
  | bad x y =>
    have hin := dec_in (L := l)
    rw [hs] at hin
    obtain ⟨i1, i2, i3⟩ := hin
    have q1 : (x != 0) = true := by simpa using i1
    have HS := Lib.hid hs
    clear hs
    go_enter Tryd.func5, Tryd.ntmps5
    go_wp2_with (first
        | (fail_if_success (have _t := b1)
           go_at_call 8
           refine (encOk wm HM.out (HT.out.below B0 HT.out.size) hmay).mono ?_
           rintro e w1 ⟨v1, rfl, o1, b1⟩
           have D1 := below_alloc (below_step B0 b1) (fBox0)
           have X1 := (X0.below' b1).alloc (fBox0)
           have F1 := Whl.new w1 30 #[.int .i64 0, .int .i64 0, .int .i64 0]
           have M1 := (HM.out.step b1).step (below_alloc (Below.refl _ _) (fBox0))
           have R1 := (R0.step b1).step (below_alloc (Below.refl _ _) (fBox0))
           have K1 := ByteR.of_own (o1.alloc (fBox0)))
        | (fail_if_success (have _t := b2)
           go_at_call 13
           refine (decBack wm hmay K1).mono ?_
           rintro e w2 ⟨c1, rfl, ⟨hs1, wc1, mc1⟩, b2⟩
           have D2 := below_alloc (below_step D1 b2) (.cells (mCells c1) 25)
           have X2 := (X1.below' b2).alloc (.cells (mCells c1) 25)
           have F2 := (F1.below' b2).alloc (.cells (mCells c1) 25)
           have M2 := (M1.step b2).step (below_alloc (Below.refl _ _) (.cells (mCells c1) 25))
           have N2 := mc1.step (below_alloc (Below.refl _ _) (.cells (mCells c1) 25))
           have R2 := (R1.step b2).step (below_alloc (Below.refl _ _) (.cells (mCells c1) 25))
           have HS1 := Lib.hid hs1
           clear hs1
           obtain ⟨x0, x1, _, _⟩ := Whl.two X2
           have lx := X2.lt)
        | (go_at_call 10
           refine (sameMR m c1 _ wm wc1 M2 N2).mono ?_
           rintro e w3 ⟨rfl, b3⟩
           rw [HS1.out]
           have D3 := below_step D2 b3
           have F3 := F2.below' b3
           have R3 := R2.step b3)
        | (go_at_call 11
           refine (fixedL _ (HT.out.below D3 HT.out.size)).mono ?_
           rintro e w4 ⟨rfl, b4⟩
           have D4 := below_step D3 b4
           have F4 := F3.below' b4
           have R4 := R3.step b4
           obtain ⟨f0, f1, f2⟩ := fault_cells F4
           have lf := F4.lt)
        | (fail_if_success (have _t := b5)
           go_at_call 13
           refine (decNo R4 HS.out).mono ?_
           rintro e w5 ⟨A1, A2, c1x, c2x, rfl, b5⟩
           have D5 := below_alloc (below_step D4 b5) (.cells #[.slice A1 0 c1x, .slice A2 0 c2x] 25)))
    go_ret
    exact ⟨rfl, D5⟩
  | ok a =>
    have HS := Lib.hid hs
    have hback := m_inv hs
    have HB := Lib.hid hback
    clear hs hback
    by_cases hv : (mayD (decM l)).e = 0
    · have hv' := Lib.hid (may_zero hv)
      clear hv
      go_enter Tryd.func5, Tryd.ntmps5
      go_wp2_with (first
          | (fail_if_success (have _t := b1)
             go_at_call 8
             refine (encOk wm HM.out (HT.out.below B0 HT.out.size) hmay).mono ?_
             rintro e w1 ⟨v1, rfl, o1, b1⟩
             have D1 := below_alloc (below_step B0 b1) (fBox0)
             have X1 := (X0.below' b1).alloc (fBox0)
             have F1 := Whl.new w1 30 #[.int .i64 0, .int .i64 0, .int .i64 0]
             have M1 := (HM.out.step b1).step (below_alloc (Below.refl _ _) (fBox0))
             have R1 := (R0.step b1).step (below_alloc (Below.refl _ _) (fBox0))
             have K1 := ByteR.of_own (o1.alloc (fBox0)))
          | (fail_if_success (have _t := b2)
             go_at_call 13
             refine (decBack wm hmay K1).mono ?_
             rintro e w2 ⟨c1, rfl, ⟨hs1, wc1, mc1⟩, b2⟩
             have D2 := below_alloc (below_step D1 b2) (.cells (mCells c1) 25)
             have X2 := (X1.below' b2).alloc (.cells (mCells c1) 25)
             have F2 := (F1.below' b2).alloc (.cells (mCells c1) 25)
             have M2 := (M1.step b2).step (below_alloc (Below.refl _ _) (.cells (mCells c1) 25))
             have N2 := mc1.step (below_alloc (Below.refl _ _) (.cells (mCells c1) 25))
             have R2 := (R1.step b2).step (below_alloc (Below.refl _ _) (.cells (mCells c1) 25))
             have HS1 := Lib.hid hs1
             clear hs1
             obtain ⟨x0, x1, _, _⟩ := Whl.two X2
             have lx := X2.lt)
          | (go_at_call 10
             refine (sameMR m c1 _ wm wc1 M2 N2).mono ?_
             rintro e w3 ⟨rfl, b3⟩
             rw [HS1.out]
             have D3 := below_step D2 b3
             have F3 := F2.below' b3
             have R3 := R2.step b3)
          | (go_at_call 11
             refine (fixedL _ (HT.out.below D3 HT.out.size)).mono ?_
             rintro e w4 ⟨rfl, b4⟩
             have D4 := below_step D3 b4
             have F4 := F3.below' b4
             have R4 := R3.step b4
             obtain ⟨f0, f1, f2⟩ := fault_cells F4
             have lf := F4.lt)
          | (fail_if_success (have _t := b5)
             go_at_call 13
             refine (decYes R4 HS.out).mono ?_
             rintro e w5 ⟨c5, rfl, ⟨hs5, wc5, mc5⟩, b5⟩
             have D5 := below_alloc (below_step D4 b5) (.cells (mCells c5) 25)
             have R5 := (R4.step b5).step (below_alloc (Below.refl _ _) (.cells (mCells c5) 25))
             have HS5 := Lib.hid hs5
             clear hs5)
          | (fail_if_success (have _t := b7)
             have _t5 := b5
             go_at_call 8
             refine (encOk wc5 (mc5.step (below_alloc (Below.refl _ _) (.cells (mCells c5) 25))) (HT.out.below D5 HT.out.size) (by rw [mayD_same HS5.out]; exact hv'.out)).mono ?_
             rintro e w7 ⟨v7, rfl, o7, b7⟩
             rw [encM_same HS5.out, HB.out] at o7
             have D7 := below_alloc (below_step D5 b7) fBox0
             have R7 := (R5.step b7).step (below_alloc (Below.refl _ _) fBox0)
             have K7 := ByteR.of_own (o7.alloc fBox0))
          | (go_at_call 12
             refine (equalT K7 R7).mono ?_
             rintro e w8 ⟨rfl, rfl⟩))
      go_ret
      exact ⟨rfl, D7⟩
    · have hv' := Lib.hid hv
      have q2 : ((mayD (decM l)).e != 0) = true := by simpa using hv
      have q3 : ((mayD (decM l)).e == 0) = false := by simpa using hv
      clear hv
      go_enter Tryd.func5, Tryd.ntmps5
      go_wp2_with (first
          | (fail_if_success (have _t := b1)
             go_at_call 8
             refine (encOk wm HM.out (HT.out.below B0 HT.out.size) hmay).mono ?_
             rintro e w1 ⟨v1, rfl, o1, b1⟩
             have D1 := below_alloc (below_step B0 b1) (fBox0)
             have X1 := (X0.below' b1).alloc (fBox0)
             have F1 := Whl.new w1 30 #[.int .i64 0, .int .i64 0, .int .i64 0]
             have M1 := (HM.out.step b1).step (below_alloc (Below.refl _ _) (fBox0))
             have R1 := (R0.step b1).step (below_alloc (Below.refl _ _) (fBox0))
             have K1 := ByteR.of_own (o1.alloc (fBox0)))
          | (fail_if_success (have _t := b2)
             go_at_call 13
             refine (decBack wm hmay K1).mono ?_
             rintro e w2 ⟨c1, rfl, ⟨hs1, wc1, mc1⟩, b2⟩
             have D2 := below_alloc (below_step D1 b2) (.cells (mCells c1) 25)
             have X2 := (X1.below' b2).alloc (.cells (mCells c1) 25)
             have F2 := (F1.below' b2).alloc (.cells (mCells c1) 25)
             have M2 := (M1.step b2).step (below_alloc (Below.refl _ _) (.cells (mCells c1) 25))
             have N2 := mc1.step (below_alloc (Below.refl _ _) (.cells (mCells c1) 25))
             have R2 := (R1.step b2).step (below_alloc (Below.refl _ _) (.cells (mCells c1) 25))
             have HS1 := Lib.hid hs1
             clear hs1
             obtain ⟨x0, x1, _, _⟩ := Whl.two X2
             have lx := X2.lt)
          | (go_at_call 10
             refine (sameMR m c1 _ wm wc1 M2 N2).mono ?_
             rintro e w3 ⟨rfl, b3⟩
             rw [HS1.out]
             have D3 := below_step D2 b3
             have F3 := F2.below' b3
             have R3 := R2.step b3)
          | (go_at_call 11
             refine (fixedL _ (HT.out.below D3 HT.out.size)).mono ?_
             rintro e w4 ⟨rfl, b4⟩
             have D4 := below_step D3 b4
             have F4 := F3.below' b4
             have R4 := R3.step b4
             obtain ⟨f0, f1, f2⟩ := fault_cells F4
             have lf := F4.lt)
          | (fail_if_success (have _t := b5)
             go_at_call 13
             refine (decYes R4 HS.out).mono ?_
             rintro e w5 ⟨c5, rfl, ⟨hs5, wc5, mc5⟩, b5⟩
             have D5 := below_alloc (below_step D4 b5) (.cells (mCells c5) 25)
             have R5 := (R4.step b5).step (below_alloc (Below.refl _ _) (.cells (mCells c5) 25))
             have HS5 := Lib.hid hs5
             clear hs5)
          | (fail_if_success (have _t := b7)
             have _t5 := b5
             go_at_call 8
             refine (encNo wc5 (mc5.step (below_alloc (Below.refl _ _) (.cells (mCells c5) 25))) (HT.out.below D5 HT.out.size) (by rw [mayD_same HS5.out]; exact hv'.out)).mono ?_
             rintro e w7 ⟨rfl, b7⟩
             rw [mayD_same HS5.out]
             have D7 := below_alloc (below_step D5 b7) (fBox (mayD (decM l)))))
      go_ret
      exact ⟨rfl, D7⟩
set_option maxHeartbeats 2000000 in
set_option maxRecDepth 100000 in
theorem back_no (m : ModD) (v : Value) (l : List UInt8) (w : World) (ht : TabOk w) (wm : m.Wf) (hm : ModOk w w.heap.size m) (hr : ByteR w w.heap.size v l) (hl : l.length ≤ 140737488351232) (hmay : (mayD m).e ≠ 0) : Calls Tryd.prog 5 #[m.val, v] w fun e w' => e = .returned (.bool true) ∧ Below w.heap.size w w' := by
  obtain ⟨A, cv, rfl, _⟩ := hr.row
  have B0 := below_alloc (Below.refl w.heap.size w) (.cells (mCells m) 25)
  have X0 := Whl.new w 25 (mCells m)
  have HM := Lib.hid (hm.step B0)
  have HT := Lib.hid ht
  have R0 := hr.step B0
  clear hm ht hr
  have p1 : ((mayD m).e == 0) = false := by simpa using hmay
  have p2 : ((mayD m).e != 0) = true := by simpa using hmay
  cases hs : decS l with
  | bad x y =>
    have hin := dec_in (L := l)
    rw [hs] at hin
    obtain ⟨i1, i2, i3⟩ := hin
    have q1 : (x != 0) = true := by simpa using i1
    have HS := Lib.hid hs
    clear hs
    go_enter Tryd.func5, Tryd.ntmps5
    go_wp2_with (first
        | (fail_if_success (have _t := b1)
           go_at_call 8
           refine (encNo wm HM.out (HT.out.below B0 HT.out.size) hmay).mono ?_
           rintro e w1 ⟨rfl, b1⟩
           have D1 := below_alloc (below_step B0 b1) (fBox (mayD m))
           have X1 := (X0.below' b1).alloc (fBox (mayD m))
           have F1 := Whl.new w1 30 #[.int .i64 (mayD m).e, .int .i64 (mayD m).f, .int .i64 (mayD m).a]
           have M1 := (HM.out.step b1).step (below_alloc (Below.refl _ _) (fBox (mayD m)))
           have R1 := (R0.step b1).step (below_alloc (Below.refl _ _) (fBox (mayD m)))
           have K1 := byteR_nil (w1.alloc (fBox (mayD m))))
        | (fail_if_success (have _t := b2)
           go_at_call 13
           refine (decAny K1).mono ?_
           rintro e w2 ⟨c1, rfl, ⟨hs1, wc1, mc1⟩, b2⟩
           generalize stE (decS []) = se
           generalize stP (decS []) = sp
           have D2 := below_alloc (below_step D1 b2) (.cells (mCells c1) 25)
           have X2 := (X1.below' b2).alloc (.cells (mCells c1) 25)
           have F2 := (F1.below' b2).alloc (.cells (mCells c1) 25)
           have M2 := (M1.step b2).step (below_alloc (Below.refl _ _) (.cells (mCells c1) 25))
           have N2 := mc1.step (below_alloc (Below.refl _ _) (.cells (mCells c1) 25))
           have R2 := (R1.step b2).step (below_alloc (Below.refl _ _) (.cells (mCells c1) 25))
           have HS1 := Lib.hid hs1
           clear hs1
           obtain ⟨x0, x1, _, _⟩ := Whl.two X2
           have lx := X2.lt)
        | (go_at_call 10
           refine (sameMR m c1 _ wm wc1 M2 N2).mono ?_
           rintro e w3 ⟨rfl, b3⟩
           generalize sameD m c1 = sm
           have D3 := below_step D2 b3
           have F3 := F2.below' b3
           have R3 := R2.step b3)
        | (go_at_call 11
           refine (fixedL _ (HT.out.below D3 HT.out.size)).mono ?_
           rintro e w4 ⟨rfl, b4⟩
           have D4 := below_step D3 b4
           have F4 := F3.below' b4
           have R4 := R3.step b4
           obtain ⟨f0, f1, f2⟩ := fault_cells F4
           have lf := F4.lt)
        | (fail_if_success (have _t := b5)
           go_at_call 13
           refine (decNo R4 HS.out).mono ?_
           rintro e w5 ⟨A1, A2, c1x, c2x, rfl, b5⟩
           have D5 := below_alloc (below_step D4 b5) (.cells #[.slice A1 0 c1x, .slice A2 0 c2x] 25)))
    go_ret
    exact ⟨rfl, D5⟩
  | ok a =>
    have HS := Lib.hid hs
    have hback := m_inv hs
    have HB := Lib.hid hback
    clear hs hback
    by_cases hv : (mayD (decM l)).e = 0
    · have hv' := Lib.hid (may_zero hv)
      clear hv
      go_enter Tryd.func5, Tryd.ntmps5
      go_wp2_with (first
          | (fail_if_success (have _t := b1)
             go_at_call 8
             refine (encNo wm HM.out (HT.out.below B0 HT.out.size) hmay).mono ?_
             rintro e w1 ⟨rfl, b1⟩
             have D1 := below_alloc (below_step B0 b1) (fBox (mayD m))
             have X1 := (X0.below' b1).alloc (fBox (mayD m))
             have F1 := Whl.new w1 30 #[.int .i64 (mayD m).e, .int .i64 (mayD m).f, .int .i64 (mayD m).a]
             have M1 := (HM.out.step b1).step (below_alloc (Below.refl _ _) (fBox (mayD m)))
             have R1 := (R0.step b1).step (below_alloc (Below.refl _ _) (fBox (mayD m)))
             have K1 := byteR_nil (w1.alloc (fBox (mayD m))))
          | (fail_if_success (have _t := b2)
             go_at_call 13
             refine (decAny K1).mono ?_
             rintro e w2 ⟨c1, rfl, ⟨hs1, wc1, mc1⟩, b2⟩
             generalize stE (decS []) = se
             generalize stP (decS []) = sp
             have D2 := below_alloc (below_step D1 b2) (.cells (mCells c1) 25)
             have X2 := (X1.below' b2).alloc (.cells (mCells c1) 25)
             have F2 := (F1.below' b2).alloc (.cells (mCells c1) 25)
             have M2 := (M1.step b2).step (below_alloc (Below.refl _ _) (.cells (mCells c1) 25))
             have N2 := mc1.step (below_alloc (Below.refl _ _) (.cells (mCells c1) 25))
             have R2 := (R1.step b2).step (below_alloc (Below.refl _ _) (.cells (mCells c1) 25))
             have HS1 := Lib.hid hs1
             clear hs1
             obtain ⟨x0, x1, _, _⟩ := Whl.two X2
             have lx := X2.lt)
          | (go_at_call 10
             refine (sameMR m c1 _ wm wc1 M2 N2).mono ?_
             rintro e w3 ⟨rfl, b3⟩
             generalize sameD m c1 = sm
             have D3 := below_step D2 b3
             have F3 := F2.below' b3
             have R3 := R2.step b3)
          | (go_at_call 11
             refine (fixedL _ (HT.out.below D3 HT.out.size)).mono ?_
             rintro e w4 ⟨rfl, b4⟩
             have D4 := below_step D3 b4
             have F4 := F3.below' b4
             have R4 := R3.step b4
             obtain ⟨f0, f1, f2⟩ := fault_cells F4
             have lf := F4.lt)
          | (fail_if_success (have _t := b5)
             go_at_call 13
             refine (decYes R4 HS.out).mono ?_
             rintro e w5 ⟨c5, rfl, ⟨hs5, wc5, mc5⟩, b5⟩
             have D5 := below_alloc (below_step D4 b5) (.cells (mCells c5) 25)
             have R5 := (R4.step b5).step (below_alloc (Below.refl _ _) (.cells (mCells c5) 25))
             have HS5 := Lib.hid hs5
             clear hs5)
          | (fail_if_success (have _t := b7)
             have _t5 := b5
             go_at_call 8
             refine (encOk wc5 (mc5.step (below_alloc (Below.refl _ _) (.cells (mCells c5) 25))) (HT.out.below D5 HT.out.size) (by rw [mayD_same HS5.out]; exact hv'.out)).mono ?_
             rintro e w7 ⟨v7, rfl, o7, b7⟩
             rw [encM_same HS5.out, HB.out] at o7
             have D7 := below_alloc (below_step D5 b7) fBox0
             have R7 := (R5.step b7).step (below_alloc (Below.refl _ _) fBox0)
             have K7 := ByteR.of_own (o7.alloc fBox0))
          | (go_at_call 12
             refine (equalT K7 R7).mono ?_
             rintro e w8 ⟨rfl, rfl⟩))
      go_ret
      exact ⟨rfl, D7⟩
    · have hv' := Lib.hid hv
      have q2 : ((mayD (decM l)).e != 0) = true := by simpa using hv
      have q3 : ((mayD (decM l)).e == 0) = false := by simpa using hv
      clear hv
      go_enter Tryd.func5, Tryd.ntmps5
      go_wp2_with (first
          | (fail_if_success (have _t := b1)
             go_at_call 8
             refine (encNo wm HM.out (HT.out.below B0 HT.out.size) hmay).mono ?_
             rintro e w1 ⟨rfl, b1⟩
             have D1 := below_alloc (below_step B0 b1) (fBox (mayD m))
             have X1 := (X0.below' b1).alloc (fBox (mayD m))
             have F1 := Whl.new w1 30 #[.int .i64 (mayD m).e, .int .i64 (mayD m).f, .int .i64 (mayD m).a]
             have M1 := (HM.out.step b1).step (below_alloc (Below.refl _ _) (fBox (mayD m)))
             have R1 := (R0.step b1).step (below_alloc (Below.refl _ _) (fBox (mayD m)))
             have K1 := byteR_nil (w1.alloc (fBox (mayD m))))
          | (fail_if_success (have _t := b2)
             go_at_call 13
             refine (decAny K1).mono ?_
             rintro e w2 ⟨c1, rfl, ⟨hs1, wc1, mc1⟩, b2⟩
             generalize stE (decS []) = se
             generalize stP (decS []) = sp
             have D2 := below_alloc (below_step D1 b2) (.cells (mCells c1) 25)
             have X2 := (X1.below' b2).alloc (.cells (mCells c1) 25)
             have F2 := (F1.below' b2).alloc (.cells (mCells c1) 25)
             have M2 := (M1.step b2).step (below_alloc (Below.refl _ _) (.cells (mCells c1) 25))
             have N2 := mc1.step (below_alloc (Below.refl _ _) (.cells (mCells c1) 25))
             have R2 := (R1.step b2).step (below_alloc (Below.refl _ _) (.cells (mCells c1) 25))
             have HS1 := Lib.hid hs1
             clear hs1
             obtain ⟨x0, x1, _, _⟩ := Whl.two X2
             have lx := X2.lt)
          | (go_at_call 10
             refine (sameMR m c1 _ wm wc1 M2 N2).mono ?_
             rintro e w3 ⟨rfl, b3⟩
             generalize sameD m c1 = sm
             have D3 := below_step D2 b3
             have F3 := F2.below' b3
             have R3 := R2.step b3)
          | (go_at_call 11
             refine (fixedL _ (HT.out.below D3 HT.out.size)).mono ?_
             rintro e w4 ⟨rfl, b4⟩
             have D4 := below_step D3 b4
             have F4 := F3.below' b4
             have R4 := R3.step b4
             obtain ⟨f0, f1, f2⟩ := fault_cells F4
             have lf := F4.lt)
          | (fail_if_success (have _t := b5)
             go_at_call 13
             refine (decYes R4 HS.out).mono ?_
             rintro e w5 ⟨c5, rfl, ⟨hs5, wc5, mc5⟩, b5⟩
             have D5 := below_alloc (below_step D4 b5) (.cells (mCells c5) 25)
             have R5 := (R4.step b5).step (below_alloc (Below.refl _ _) (.cells (mCells c5) 25))
             have HS5 := Lib.hid hs5
             clear hs5)
          | (fail_if_success (have _t := b7)
             have _t5 := b5
             go_at_call 8
             refine (encNo wc5 (mc5.step (below_alloc (Below.refl _ _) (.cells (mCells c5) 25))) (HT.out.below D5 HT.out.size) (by rw [mayD_same HS5.out]; exact hv'.out)).mono ?_
             rintro e w7 ⟨rfl, b7⟩
             rw [mayD_same HS5.out]
             have D7 := below_alloc (below_step D5 b7) (fBox (mayD (decM l)))))
      go_ret
      exact ⟨rfl, D7⟩
theorem backL (m : ModD) (v : Value) (l : List UInt8) (w : World) (ht : TabOk w) (wm : m.Wf) (hm : ModOk w w.heap.size m) (nm : m.Nils) (hr : ByteR w w.heap.size v l) (hl : l.length ≤ 140737488351232) : Calls Tryd.prog 5 #[m.val, v] w fun e w' => e = .returned (.bool true) ∧ Below w.heap.size w w' := by
  by_cases h : (mayD m).e = 0
  · exact back_ok m v l w ht wm hm hr hl (may_zero h)
  · exact back_no m v l w ht wm hm hr hl h
end Go.Proofs.YtjacfeohpofhpaaDoor
