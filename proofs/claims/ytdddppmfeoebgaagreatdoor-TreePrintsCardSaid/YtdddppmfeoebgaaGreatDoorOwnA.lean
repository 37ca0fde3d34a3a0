/-
  Layer 2 (tree): the walk of own, by kinds.
-/
import Derived.Test.YtdddppmfeoebgaaGreatDoorNodes
import Derived.Test.YtdddppmfeoebgaaGreatDoorKind
import Derived.Test.YtdddppmfeoebgaaGreatDoorScanE
namespace Go.Proofs.YtdddppmfeoebgaaGreatDoor
open Go.RowKit
set_option linter.unusedSimpArgs false
set_option linter.unusedVariables false
theorem nil_list {s : ByteArray} : (s.toList == []) = (s.size == 0) := by
  rw [ByteArray.toList_eq, Bool.eq_iff_iff, beq_iff_eq, beq_iff_eq]
  exact List.length_eq_zero_iff.symm.trans (by rw [Array.length_toList]; rfl)
theorem Whl.c7 {w : World} {g : Nat} {t : TypeId} {a b c d e f i : Value} (h : Whl w g t #[a, b, c, d, e, f, i]) : w.cell? ⟨g, 0, none⟩ = some a ∧ w.cell? ⟨g, 1, none⟩ = some b ∧ w.cell? ⟨g, 2, none⟩ = some c ∧ w.cell? ⟨g, 3, none⟩ = some d ∧ w.cell? ⟨g, 4, none⟩ = some e ∧ w.cell? ⟨g, 5, none⟩ = some f ∧ w.cell? ⟨g, 6, none⟩ = some i := ⟨h.cell 0, h.cell 1, h.cell 2, h.cell 3, h.cell 4, h.cell 5, h.cell 6⟩
set_option maxRecDepth 100000 in
set_option maxHeartbeats 20000000 in
theorem own_1 (x : StD) (hk : x.kind = 1) (h : HdS) (q : Nat → Hd) (B : Nat) (w : World) (hB : B ≤ w.heap.size) (hin : StIn w B x h q) :
    Calls Tryz.prog 42 #[.agg (stC x h), .agg #[.bool true, .bool false, .bool true, .bool false, .bool false, .bool false, .bool false], .bool true] w fun e w' => e = .returned (.int .i64 (ownS x)) ∧ Below w.heap.size w w' := by
  have HI := Lib.hid hin
  have HK := Lib.hid hk
  clear hin hk
  cases G1 : (x.n == 0)
  · have HO := Lib.hid (show ownS x = 5 by
      have e : formS x = false := by simp [formS, HK.out, cName, cNum, cA, cB, cBody, cEls, cCases, knownS, G1]
      rw [ownS, e]; rfl)
    have b1 : (x.n != 0) = true := by rw [bne, G1]; rfl
    have b1' : (x.n == 0) = false := G1
    clear G1
    have t0 : True := trivial
    go_enter Tryz.func42, Tryz.ntmps42
    simp only [List.append_eq, List.cons_append, List.nil_append]
    go_wp2
    refine ret_of ?_ rfl
    exact ⟨_, by simp [results, Tryz.results42, go_sem]; rfl, by rw [HO.out], (below_alloc (below_alloc (Below.refl _ _) _) _)⟩
  cases G3 : zeroE x.b
  · have HO := Lib.hid (show ownS x = 5 by
      have e : formS x = false := by simp [formS, HK.out, cName, cNum, cA, cB, cBody, cEls, cCases, knownS, G1, G3]
      rw [ownS, e]; rfl)
    have b1 : (x.n != 0) = false := by rw [bne, G1]; rfl
    have b1' : (x.n == 0) = true := G1
    have b3 := G3
    clear G1 G3
    have t0 : True := trivial
    go_enter Tryz.func42, Tryz.ntmps42
    simp only [List.append_eq, List.cons_append, List.nil_append]
    go_wp2_with (first | (go_at_call 45; have t1 := t0; clear t0; go_must (((with_reducible refine (zeroP x.b h.b _ HI.out.wf.b.name).mono ?_); rintro e w1 ⟨rfl, hb1⟩; have X1 := ((Whl.new w 42 (stC x h)).alloc _).below' hb1; have F1 := (Whl.newAt (b := w.heap.size + 1) (by simp) 91 _).below' hb1; obtain ⟨x0, x1, x2, x3, x4, x5, x6, x7, x8, x9, x10, x11, x12, x13⟩ := X1.cSt; obtain ⟨g0, g1, g2, g3, g4, g5, g6⟩ := F1.c7; clear t1; have t2 := trivial; have H1 := below_step (below_alloc (below_alloc (Below.refl _ _) _) _) hb1))))
    refine ret_of ?_ rfl
    exact ⟨_, by simp [results, Tryz.results42, go_sem]; rfl, by rw [HO.out], H1⟩
  cases G4 : (x.body.length == 0)
  · have HO := Lib.hid (show ownS x = 5 by
      have e : formS x = false := by simp [formS, HK.out, cName, cNum, cA, cB, cBody, cEls, cCases, knownS, G1, G3, G4]
      rw [ownS, e]; rfl)
    have b1 : (x.n != 0) = false := by rw [bne, G1]; rfl
    have b1' : (x.n == 0) = true := G1
    have b3 := G3
    have b4 : decide (0 < x.body.length) = true := by simp only [beq_eq_false_iff_ne] at G4; simp only [decide_eq_true_eq]; omega
    clear G1 G3 G4
    have t0 : True := trivial
    go_enter Tryz.func42, Tryz.ntmps42
    simp only [List.append_eq, List.cons_append, List.nil_append]
    go_wp2_with (first | (go_at_call 45; have t1 := t0; clear t0; go_must (((with_reducible refine (zeroP x.b h.b _ HI.out.wf.b.name).mono ?_); rintro e w1 ⟨rfl, hb1⟩; have X1 := ((Whl.new w 42 (stC x h)).alloc _).below' hb1; have F1 := (Whl.newAt (b := w.heap.size + 1) (by simp) 91 _).below' hb1; obtain ⟨x0, x1, x2, x3, x4, x5, x6, x7, x8, x9, x10, x11, x12, x13⟩ := X1.cSt; obtain ⟨g0, g1, g2, g3, g4, g5, g6⟩ := F1.c7; clear t1; have t2 := trivial; have H1 := below_step (below_alloc (below_alloc (Below.refl _ _) _) _) hb1))))
    refine ret_of ?_ rfl
    exact ⟨_, by simp [results, Tryz.results42, go_sem]; rfl, by rw [HO.out], H1⟩
  cases G5 : (x.els.length == 0)
  · have HO := Lib.hid (show ownS x = 5 by
      have e : formS x = false := by simp [formS, HK.out, cName, cNum, cA, cB, cBody, cEls, cCases, knownS, G1, G3, G4, G5]
      rw [ownS, e]; rfl)
    have b1 : (x.n != 0) = false := by rw [bne, G1]; rfl
    have b1' : (x.n == 0) = true := G1
    have b3 := G3
    have b4 : decide (0 < x.body.length) = false := by simpa using G4
    have b5 : decide (0 < x.els.length) = true := by simp only [beq_eq_false_iff_ne] at G5; simp only [decide_eq_true_eq]; omega
    clear G1 G3 G4 G5
    have t0 : True := trivial
    go_enter Tryz.func42, Tryz.ntmps42
    simp only [List.append_eq, List.cons_append, List.nil_append]
    go_wp2_with (first | (go_at_call 45; have t1 := t0; clear t0; go_must (((with_reducible refine (zeroP x.b h.b _ HI.out.wf.b.name).mono ?_); rintro e w1 ⟨rfl, hb1⟩; have X1 := ((Whl.new w 42 (stC x h)).alloc _).below' hb1; have F1 := (Whl.newAt (b := w.heap.size + 1) (by simp) 91 _).below' hb1; obtain ⟨x0, x1, x2, x3, x4, x5, x6, x7, x8, x9, x10, x11, x12, x13⟩ := X1.cSt; obtain ⟨g0, g1, g2, g3, g4, g5, g6⟩ := F1.c7; clear t1; have t2 := trivial; have H1 := below_step (below_alloc (below_alloc (Below.refl _ _) _) _) hb1))))
    refine ret_of ?_ rfl
    exact ⟨_, by simp [results, Tryz.results42, go_sem]; rfl, by rw [HO.out], H1⟩
  cases G6 : (x.cases.length == 0)
  · have HO := Lib.hid (show ownS x = 5 by
      have e : formS x = false := by simp [formS, HK.out, cName, cNum, cA, cB, cBody, cEls, cCases, knownS, G1, G3, G4, G5, G6]
      rw [ownS, e]; rfl)
    have b1 : (x.n != 0) = false := by rw [bne, G1]; rfl
    have b1' : (x.n == 0) = true := G1
    have b3 := G3
    have b4 : decide (0 < x.body.length) = false := by simpa using G4
    have b5 : decide (0 < x.els.length) = false := by simpa using G5
    have b6 : decide (0 < x.cases.length) = true := by simp only [beq_eq_false_iff_ne] at G6; simp only [decide_eq_true_eq]; omega
    clear G1 G3 G4 G5 G6
    have t0 : True := trivial
    go_enter Tryz.func42, Tryz.ntmps42
    simp only [List.append_eq, List.cons_append, List.nil_append]
    go_wp2_with (first | (go_at_call 45; have t1 := t0; clear t0; go_must (((with_reducible refine (zeroP x.b h.b _ HI.out.wf.b.name).mono ?_); rintro e w1 ⟨rfl, hb1⟩; have X1 := ((Whl.new w 42 (stC x h)).alloc _).below' hb1; have F1 := (Whl.newAt (b := w.heap.size + 1) (by simp) 91 _).below' hb1; obtain ⟨x0, x1, x2, x3, x4, x5, x6, x7, x8, x9, x10, x11, x12, x13⟩ := X1.cSt; obtain ⟨g0, g1, g2, g3, g4, g5, g6⟩ := F1.c7; clear t1; have t2 := trivial; have H1 := below_step (below_alloc (below_alloc (Below.refl _ _) _) _) hb1))))
    refine ret_of ?_ rfl
    exact ⟨_, by simp [results, Tryz.results42, go_sem]; rfl, by rw [HO.out], H1⟩
  have HE : Hid (formS x = true) := Lib.hid (by simp [formS, HK.out, cName, cNum, cA, cB, cBody, cEls, cCases, knownS, G1, G3, G4, G5, G6])
  have n0 : decide (x.n < 0) = false := by simp only [decide_eq_false_iff_not]; have := G1; simp only [beq_iff_eq] at this; omega
  have l0 : Hid (lowestD x.cases = false) := Lib.hid (by have := G6; simp only [beq_iff_eq] at this; rw [List.length_eq_zero_iff.1 this]; rfl)
  have b1 : (x.n != 0) = false := by rw [bne, G1]; rfl
  have b1' : (x.n == 0) = true := G1
  have b3 := G3
  have b4 : decide (0 < x.body.length) = false := by simpa using G4
  have b5 : decide (0 < x.els.length) = false := by simpa using G5
  have b6 : decide (0 < x.cases.length) = false := by simpa using G6
  clear G1 G3 G4 G5 G6
  have kt : (x.kind == 10) = false := by rw [HK.out]; rfl
  cases nm : nameE x.name
  · have HO := Lib.hid (show ownS x = 8 by rw [ownS, HE.out]; simp [HK.out, cName, cNum, cA, cB, cBody, cEls, cCases, knownS, nm])
    have nm' : nameB (bytesOf x.name) = false := nm
    have t0 : True := trivial
    go_enter Tryz.func42, Tryz.ntmps42
    simp only [List.append_eq, List.cons_append, List.nil_append]
    go_wp2_with (first | (go_at_call 45; have t1 := t0; clear t0; go_must (((with_reducible refine (zeroP x.b h.b _ HI.out.wf.b.name).mono ?_); rintro e w1 ⟨rfl, hb1⟩; have X1 := ((Whl.new w 42 (stC x h)).alloc _).below' hb1; have F1 := (Whl.newAt (b := w.heap.size + 1) (by simp) 91 _).below' hb1; obtain ⟨x0, x1, x2, x3, x4, x5, x6, x7, x8, x9, x10, x11, x12, x13⟩ := X1.cSt; obtain ⟨g0, g1, g2, g3, g4, g5, g6⟩ := F1.c7; clear t1; have t2 := trivial; have H1 := below_step (below_alloc (below_alloc (Below.refl _ _) _) _) hb1))) | (go_at_call 40; (with_reducible refine (nameP x.name HI.out.wf.name _).mono ?_); rintro e w9 ⟨rfl, rfl⟩))
    refine ret_of ?_ rfl
    exact ⟨_, by simp [results, Tryz.results42, go_sem]; rfl, by rw [HO.out], H1⟩
  have nm' : nameB (bytesOf x.name) = true := nm
  have n2 : Hid (¬ x.n < 0) := Lib.hid (of_decide_eq_false n0)
  have l1 : lowestD x.cases = false := l0.out
  have HO := Lib.hid (show ownS x = 0 by rw [ownS, HE.out]; simp [HK.out, cName, cNum, cA, cB, cBody, cEls, cCases, knownS, nm, n2.out, l0.out])
  have t0 : True := trivial
  go_enter Tryz.func42, Tryz.ntmps42
  simp only [List.append_eq, List.cons_append, List.nil_append]
  go_wp2_with (first | (go_at_call 45; have t1 := t0; clear t0; go_must (((with_reducible refine (zeroP x.b h.b _ HI.out.wf.b.name).mono ?_); rintro e w1 ⟨rfl, hb1⟩; have X1 := ((Whl.new w 42 (stC x h)).alloc _).below' hb1; have F1 := (Whl.newAt (b := w.heap.size + 1) (by simp) 91 _).below' hb1; obtain ⟨x0, x1, x2, x3, x4, x5, x6, x7, x8, x9, x10, x11, x12, x13⟩ := X1.cSt; obtain ⟨g0, g1, g2, g3, g4, g5, g6⟩ := F1.c7; clear t1; have t2 := trivial; have H1 := below_step (below_alloc (below_alloc (Below.refl _ _) _) _) hb1))) | (go_at_call 40; (with_reducible refine (nameP x.name HI.out.wf.name _).mono ?_); rintro e w9 ⟨rfl, rfl⟩) | (go_at_call 67; go_must (((with_reducible refine (containsP x.cases h.cases.a h.cases.c B q _ HI.out.clen (Nat.le_trans hB (by first | exact H1.size | (simp; done) | (simp; omega))) (HI.out.crow.below (H1.mono hB) (Nat.le_refl _))).mono ?_); rintro e w3 ⟨rfl, hb3⟩; have X3 := (X1).below' hb3; obtain ⟨z0, z1, z2, z3, z4, z5, z6, z7, z8, z9, z10, z11, z12, z13⟩ := X3.cSt; have H3 := below_step H1 hb3))))
  refine ret_of ?_ rfl
  exact ⟨_, by simp [results, Tryz.results42, go_sem]; rfl, by rw [HO.out], H3⟩
set_option maxRecDepth 100000 in
set_option maxHeartbeats 20000000 in
theorem own_3 (x : StD) (hk : x.kind = 3) (h : HdS) (q : Nat → Hd) (B : Nat) (w : World) (hB : B ≤ w.heap.size) (hin : StIn w B x h q) :
    Calls Tryz.prog 42 #[.agg (stC x h), .agg #[.bool true, .bool false, .bool true, .bool false, .bool false, .bool false, .bool false], .bool true] w fun e w' => e = .returned (.int .i64 (ownS x)) ∧ Below w.heap.size w w' := by
  have HI := Lib.hid hin
  have HK := Lib.hid hk
  clear hin hk
  cases G1 : (x.n == 0)
  · have HO := Lib.hid (show ownS x = 5 by
      have e : formS x = false := by simp [formS, HK.out, cName, cNum, cA, cB, cBody, cEls, cCases, knownS, G1]
      rw [ownS, e]; rfl)
    have b1 : (x.n != 0) = true := by rw [bne, G1]; rfl
    have b1' : (x.n == 0) = false := G1
    clear G1
    have t0 : True := trivial
    go_enter Tryz.func42, Tryz.ntmps42
    simp only [List.append_eq, List.cons_append, List.nil_append]
    go_wp2
    refine ret_of ?_ rfl
    exact ⟨_, by simp [results, Tryz.results42, go_sem]; rfl, by rw [HO.out], (below_alloc (below_alloc (Below.refl _ _) _) _)⟩
  cases G3 : zeroE x.b
  · have HO := Lib.hid (show ownS x = 5 by
      have e : formS x = false := by simp [formS, HK.out, cName, cNum, cA, cB, cBody, cEls, cCases, knownS, G1, G3]
      rw [ownS, e]; rfl)
    have b1 : (x.n != 0) = false := by rw [bne, G1]; rfl
    have b1' : (x.n == 0) = true := G1
    have b3 := G3
    clear G1 G3
    have t0 : True := trivial
    go_enter Tryz.func42, Tryz.ntmps42
    simp only [List.append_eq, List.cons_append, List.nil_append]
    go_wp2_with (first | (go_at_call 45; have t1 := t0; clear t0; go_must (((with_reducible refine (zeroP x.b h.b _ HI.out.wf.b.name).mono ?_); rintro e w1 ⟨rfl, hb1⟩; have X1 := ((Whl.new w 42 (stC x h)).alloc _).below' hb1; have F1 := (Whl.newAt (b := w.heap.size + 1) (by simp) 91 _).below' hb1; obtain ⟨x0, x1, x2, x3, x4, x5, x6, x7, x8, x9, x10, x11, x12, x13⟩ := X1.cSt; obtain ⟨g0, g1, g2, g3, g4, g5, g6⟩ := F1.c7; clear t1; have t2 := trivial; have H1 := below_step (below_alloc (below_alloc (Below.refl _ _) _) _) hb1))))
    refine ret_of ?_ rfl
    exact ⟨_, by simp [results, Tryz.results42, go_sem]; rfl, by rw [HO.out], H1⟩
  cases G4 : (x.body.length == 0)
  · have HO := Lib.hid (show ownS x = 5 by
      have e : formS x = false := by simp [formS, HK.out, cName, cNum, cA, cB, cBody, cEls, cCases, knownS, G1, G3, G4]
      rw [ownS, e]; rfl)
    have b1 : (x.n != 0) = false := by rw [bne, G1]; rfl
    have b1' : (x.n == 0) = true := G1
    have b3 := G3
    have b4 : decide (0 < x.body.length) = true := by simp only [beq_eq_false_iff_ne] at G4; simp only [decide_eq_true_eq]; omega
    clear G1 G3 G4
    have t0 : True := trivial
    go_enter Tryz.func42, Tryz.ntmps42
    simp only [List.append_eq, List.cons_append, List.nil_append]
    go_wp2_with (first | (go_at_call 45; have t1 := t0; clear t0; go_must (((with_reducible refine (zeroP x.b h.b _ HI.out.wf.b.name).mono ?_); rintro e w1 ⟨rfl, hb1⟩; have X1 := ((Whl.new w 42 (stC x h)).alloc _).below' hb1; have F1 := (Whl.newAt (b := w.heap.size + 1) (by simp) 91 _).below' hb1; obtain ⟨x0, x1, x2, x3, x4, x5, x6, x7, x8, x9, x10, x11, x12, x13⟩ := X1.cSt; obtain ⟨g0, g1, g2, g3, g4, g5, g6⟩ := F1.c7; clear t1; have t2 := trivial; have H1 := below_step (below_alloc (below_alloc (Below.refl _ _) _) _) hb1))))
    refine ret_of ?_ rfl
    exact ⟨_, by simp [results, Tryz.results42, go_sem]; rfl, by rw [HO.out], H1⟩
  cases G5 : (x.els.length == 0)
  · have HO := Lib.hid (show ownS x = 5 by
      have e : formS x = false := by simp [formS, HK.out, cName, cNum, cA, cB, cBody, cEls, cCases, knownS, G1, G3, G4, G5]
      rw [ownS, e]; rfl)
    have b1 : (x.n != 0) = false := by rw [bne, G1]; rfl
    have b1' : (x.n == 0) = true := G1
    have b3 := G3
    have b4 : decide (0 < x.body.length) = false := by simpa using G4
    have b5 : decide (0 < x.els.length) = true := by simp only [beq_eq_false_iff_ne] at G5; simp only [decide_eq_true_eq]; omega
    clear G1 G3 G4 G5
    have t0 : True := trivial
    go_enter Tryz.func42, Tryz.ntmps42
    simp only [List.append_eq, List.cons_append, List.nil_append]
    go_wp2_with (first | (go_at_call 45; have t1 := t0; clear t0; go_must (((with_reducible refine (zeroP x.b h.b _ HI.out.wf.b.name).mono ?_); rintro e w1 ⟨rfl, hb1⟩; have X1 := ((Whl.new w 42 (stC x h)).alloc _).below' hb1; have F1 := (Whl.newAt (b := w.heap.size + 1) (by simp) 91 _).below' hb1; obtain ⟨x0, x1, x2, x3, x4, x5, x6, x7, x8, x9, x10, x11, x12, x13⟩ := X1.cSt; obtain ⟨g0, g1, g2, g3, g4, g5, g6⟩ := F1.c7; clear t1; have t2 := trivial; have H1 := below_step (below_alloc (below_alloc (Below.refl _ _) _) _) hb1))))
    refine ret_of ?_ rfl
    exact ⟨_, by simp [results, Tryz.results42, go_sem]; rfl, by rw [HO.out], H1⟩
  cases G6 : (x.cases.length == 0)
  · have HO := Lib.hid (show ownS x = 5 by
      have e : formS x = false := by simp [formS, HK.out, cName, cNum, cA, cB, cBody, cEls, cCases, knownS, G1, G3, G4, G5, G6]
      rw [ownS, e]; rfl)
    have b1 : (x.n != 0) = false := by rw [bne, G1]; rfl
    have b1' : (x.n == 0) = true := G1
    have b3 := G3
    have b4 : decide (0 < x.body.length) = false := by simpa using G4
    have b5 : decide (0 < x.els.length) = false := by simpa using G5
    have b6 : decide (0 < x.cases.length) = true := by simp only [beq_eq_false_iff_ne] at G6; simp only [decide_eq_true_eq]; omega
    clear G1 G3 G4 G5 G6
    have t0 : True := trivial
    go_enter Tryz.func42, Tryz.ntmps42
    simp only [List.append_eq, List.cons_append, List.nil_append]
    go_wp2_with (first | (go_at_call 45; have t1 := t0; clear t0; go_must (((with_reducible refine (zeroP x.b h.b _ HI.out.wf.b.name).mono ?_); rintro e w1 ⟨rfl, hb1⟩; have X1 := ((Whl.new w 42 (stC x h)).alloc _).below' hb1; have F1 := (Whl.newAt (b := w.heap.size + 1) (by simp) 91 _).below' hb1; obtain ⟨x0, x1, x2, x3, x4, x5, x6, x7, x8, x9, x10, x11, x12, x13⟩ := X1.cSt; obtain ⟨g0, g1, g2, g3, g4, g5, g6⟩ := F1.c7; clear t1; have t2 := trivial; have H1 := below_step (below_alloc (below_alloc (Below.refl _ _) _) _) hb1))))
    refine ret_of ?_ rfl
    exact ⟨_, by simp [results, Tryz.results42, go_sem]; rfl, by rw [HO.out], H1⟩
  have HE : Hid (formS x = true) := Lib.hid (by simp [formS, HK.out, cName, cNum, cA, cB, cBody, cEls, cCases, knownS, G1, G3, G4, G5, G6])
  have n0 : decide (x.n < 0) = false := by simp only [decide_eq_false_iff_not]; have := G1; simp only [beq_iff_eq] at this; omega
  have l0 : Hid (lowestD x.cases = false) := Lib.hid (by have := G6; simp only [beq_iff_eq] at this; rw [List.length_eq_zero_iff.1 this]; rfl)
  have b1 : (x.n != 0) = false := by rw [bne, G1]; rfl
  have b1' : (x.n == 0) = true := G1
  have b3 := G3
  have b4 : decide (0 < x.body.length) = false := by simpa using G4
  have b5 : decide (0 < x.els.length) = false := by simpa using G5
  have b6 : decide (0 < x.cases.length) = false := by simpa using G6
  clear G1 G3 G4 G5 G6
  have kt : (x.kind == 10) = false := by rw [HK.out]; rfl
  cases nm : nameE x.name
  · have HO := Lib.hid (show ownS x = 8 by rw [ownS, HE.out]; simp [HK.out, cName, cNum, cA, cB, cBody, cEls, cCases, knownS, nm])
    have nm' : nameB (bytesOf x.name) = false := nm
    have t0 : True := trivial
    go_enter Tryz.func42, Tryz.ntmps42
    simp only [List.append_eq, List.cons_append, List.nil_append]
    go_wp2_with (first | (go_at_call 45; have t1 := t0; clear t0; go_must (((with_reducible refine (zeroP x.b h.b _ HI.out.wf.b.name).mono ?_); rintro e w1 ⟨rfl, hb1⟩; have X1 := ((Whl.new w 42 (stC x h)).alloc _).below' hb1; have F1 := (Whl.newAt (b := w.heap.size + 1) (by simp) 91 _).below' hb1; obtain ⟨x0, x1, x2, x3, x4, x5, x6, x7, x8, x9, x10, x11, x12, x13⟩ := X1.cSt; obtain ⟨g0, g1, g2, g3, g4, g5, g6⟩ := F1.c7; clear t1; have t2 := trivial; have H1 := below_step (below_alloc (below_alloc (Below.refl _ _) _) _) hb1))) | (go_at_call 40; (with_reducible refine (nameP x.name HI.out.wf.name _).mono ?_); rintro e w9 ⟨rfl, rfl⟩))
    refine ret_of ?_ rfl
    exact ⟨_, by simp [results, Tryz.results42, go_sem]; rfl, by rw [HO.out], H1⟩
  have nm' : nameB (bytesOf x.name) = true := nm
  have n2 : Hid (¬ x.n < 0) := Lib.hid (of_decide_eq_false n0)
  have l1 : lowestD x.cases = false := l0.out
  have HO := Lib.hid (show ownS x = 0 by rw [ownS, HE.out]; simp [HK.out, cName, cNum, cA, cB, cBody, cEls, cCases, knownS, nm, n2.out, l0.out])
  have t0 : True := trivial
  go_enter Tryz.func42, Tryz.ntmps42
  simp only [List.append_eq, List.cons_append, List.nil_append]
  go_wp2_with (first | (go_at_call 45; have t1 := t0; clear t0; go_must (((with_reducible refine (zeroP x.b h.b _ HI.out.wf.b.name).mono ?_); rintro e w1 ⟨rfl, hb1⟩; have X1 := ((Whl.new w 42 (stC x h)).alloc _).below' hb1; have F1 := (Whl.newAt (b := w.heap.size + 1) (by simp) 91 _).below' hb1; obtain ⟨x0, x1, x2, x3, x4, x5, x6, x7, x8, x9, x10, x11, x12, x13⟩ := X1.cSt; obtain ⟨g0, g1, g2, g3, g4, g5, g6⟩ := F1.c7; clear t1; have t2 := trivial; have H1 := below_step (below_alloc (below_alloc (Below.refl _ _) _) _) hb1))) | (go_at_call 40; (with_reducible refine (nameP x.name HI.out.wf.name _).mono ?_); rintro e w9 ⟨rfl, rfl⟩) | (go_at_call 67; go_must (((with_reducible refine (containsP x.cases h.cases.a h.cases.c B q _ HI.out.clen (Nat.le_trans hB (by first | exact H1.size | (simp; done) | (simp; omega))) (HI.out.crow.below (H1.mono hB) (Nat.le_refl _))).mono ?_); rintro e w3 ⟨rfl, hb3⟩; have X3 := (X1).below' hb3; obtain ⟨z0, z1, z2, z3, z4, z5, z6, z7, z8, z9, z10, z11, z12, z13⟩ := X3.cSt; have H3 := below_step H1 hb3))))
  refine ret_of ?_ rfl
  exact ⟨_, by simp [results, Tryz.results42, go_sem]; rfl, by rw [HO.out], H3⟩
set_option maxRecDepth 100000 in
set_option maxHeartbeats 20000000 in
theorem own_2 (x : StD) (hk : x.kind = 2) (h : HdS) (q : Nat → Hd) (B : Nat) (w : World) (hB : B ≤ w.heap.size) (hin : StIn w B x h q) :
    Calls Tryz.prog 42 #[.agg (stC x h), .agg #[.bool true, .bool true, .bool false, .bool false, .bool false, .bool false, .bool false], .bool true] w fun e w' => e = .returned (.int .i64 (ownS x)) ∧ Below w.heap.size w w' := by
  have HI := Lib.hid hin
  have HK := Lib.hid hk
  clear hin hk
  cases G2 : zeroE x.a
  · have HO := Lib.hid (show ownS x = 5 by
      have e : formS x = false := by simp [formS, HK.out, cName, cNum, cA, cB, cBody, cEls, cCases, knownS, G2]
      rw [ownS, e]; rfl)
    have b2 := G2
    clear G2
    have t0 : True := trivial
    go_enter Tryz.func42, Tryz.ntmps42
    simp only [List.append_eq, List.cons_append, List.nil_append]
    go_wp2_with (first | (go_at_call 45; have t1 := t0; clear t0; go_must (((with_reducible refine (zeroP x.a h.a _ HI.out.wf.a.name).mono ?_); rintro e w1 ⟨rfl, hb1⟩; have X1 := ((Whl.new w 42 (stC x h)).alloc _).below' hb1; have F1 := (Whl.newAt (b := w.heap.size + 1) (by simp) 91 _).below' hb1; obtain ⟨x0, x1, x2, x3, x4, x5, x6, x7, x8, x9, x10, x11, x12, x13⟩ := X1.cSt; obtain ⟨g0, g1, g2, g3, g4, g5, g6⟩ := F1.c7; clear t1; have t2 := trivial; have H1 := below_step (below_alloc (below_alloc (Below.refl _ _) _) _) hb1))))
    refine ret_of ?_ rfl
    exact ⟨_, by simp [results, Tryz.results42, go_sem]; rfl, by rw [HO.out], H1⟩
  cases G3 : zeroE x.b
  · have HO := Lib.hid (show ownS x = 5 by
      have e : formS x = false := by simp [formS, HK.out, cName, cNum, cA, cB, cBody, cEls, cCases, knownS, G2, G3]
      rw [ownS, e]; rfl)
    have b2 := G2
    have b3 := G3
    clear G2 G3
    have t0 : True := trivial
    go_enter Tryz.func42, Tryz.ntmps42
    simp only [List.append_eq, List.cons_append, List.nil_append]
    go_wp2_with (first | (go_at_call 45; have t1 := t0; clear t0; go_must (((with_reducible refine (zeroP x.a h.a _ HI.out.wf.a.name).mono ?_); rintro e w1 ⟨rfl, hb1⟩; have X1 := ((Whl.new w 42 (stC x h)).alloc _).below' hb1; have F1 := (Whl.newAt (b := w.heap.size + 1) (by simp) 91 _).below' hb1; obtain ⟨x0, x1, x2, x3, x4, x5, x6, x7, x8, x9, x10, x11, x12, x13⟩ := X1.cSt; obtain ⟨g0, g1, g2, g3, g4, g5, g6⟩ := F1.c7; clear t1; have t2 := trivial; have H1 := below_step (below_alloc (below_alloc (Below.refl _ _) _) _) hb1))) | (go_at_call 45; have t3 := t2; clear t2; go_must (((with_reducible refine (zeroP x.b h.b _ HI.out.wf.b.name).mono ?_); rintro e w2 ⟨rfl, hb2⟩; have X2 := X1.below' hb2; have F2 := F1.below' hb2; clear x0 x1 x2 x3 x4 x5 x6 x7 x8 x9 x10 x11 x12 x13 g0 g1 g2 g3 g4 g5 g6; obtain ⟨y0, y1, y2, y3, y4, y5, y6, y7, y8, y9, y10, y11, y12, y13⟩ := X2.cSt; obtain ⟨k0, k1, k2, k3, k4, k5, k6⟩ := F2.c7; clear t3; have t4 := trivial; have H2 := below_step H1 hb2))))
    refine ret_of ?_ rfl
    exact ⟨_, by simp [results, Tryz.results42, go_sem]; rfl, by rw [HO.out], H2⟩
  cases G4 : (x.body.length == 0)
  · have HO := Lib.hid (show ownS x = 5 by
      have e : formS x = false := by simp [formS, HK.out, cName, cNum, cA, cB, cBody, cEls, cCases, knownS, G2, G3, G4]
      rw [ownS, e]; rfl)
    have b2 := G2
    have b3 := G3
    have b4 : decide (0 < x.body.length) = true := by simp only [beq_eq_false_iff_ne] at G4; simp only [decide_eq_true_eq]; omega
    clear G2 G3 G4
    have t0 : True := trivial
    go_enter Tryz.func42, Tryz.ntmps42
    simp only [List.append_eq, List.cons_append, List.nil_append]
    go_wp2_with (first | (go_at_call 45; have t1 := t0; clear t0; go_must (((with_reducible refine (zeroP x.a h.a _ HI.out.wf.a.name).mono ?_); rintro e w1 ⟨rfl, hb1⟩; have X1 := ((Whl.new w 42 (stC x h)).alloc _).below' hb1; have F1 := (Whl.newAt (b := w.heap.size + 1) (by simp) 91 _).below' hb1; obtain ⟨x0, x1, x2, x3, x4, x5, x6, x7, x8, x9, x10, x11, x12, x13⟩ := X1.cSt; obtain ⟨g0, g1, g2, g3, g4, g5, g6⟩ := F1.c7; clear t1; have t2 := trivial; have H1 := below_step (below_alloc (below_alloc (Below.refl _ _) _) _) hb1))) | (go_at_call 45; have t3 := t2; clear t2; go_must (((with_reducible refine (zeroP x.b h.b _ HI.out.wf.b.name).mono ?_); rintro e w2 ⟨rfl, hb2⟩; have X2 := X1.below' hb2; have F2 := F1.below' hb2; clear x0 x1 x2 x3 x4 x5 x6 x7 x8 x9 x10 x11 x12 x13 g0 g1 g2 g3 g4 g5 g6; obtain ⟨y0, y1, y2, y3, y4, y5, y6, y7, y8, y9, y10, y11, y12, y13⟩ := X2.cSt; obtain ⟨k0, k1, k2, k3, k4, k5, k6⟩ := F2.c7; clear t3; have t4 := trivial; have H2 := below_step H1 hb2))))
    refine ret_of ?_ rfl
    exact ⟨_, by simp [results, Tryz.results42, go_sem]; rfl, by rw [HO.out], H2⟩
  cases G5 : (x.els.length == 0)
  · have HO := Lib.hid (show ownS x = 5 by
      have e : formS x = false := by simp [formS, HK.out, cName, cNum, cA, cB, cBody, cEls, cCases, knownS, G2, G3, G4, G5]
      rw [ownS, e]; rfl)
    have b2 := G2
    have b3 := G3
    have b4 : decide (0 < x.body.length) = false := by simpa using G4
    have b5 : decide (0 < x.els.length) = true := by simp only [beq_eq_false_iff_ne] at G5; simp only [decide_eq_true_eq]; omega
    clear G2 G3 G4 G5
    have t0 : True := trivial
    go_enter Tryz.func42, Tryz.ntmps42
    simp only [List.append_eq, List.cons_append, List.nil_append]
    go_wp2_with (first | (go_at_call 45; have t1 := t0; clear t0; go_must (((with_reducible refine (zeroP x.a h.a _ HI.out.wf.a.name).mono ?_); rintro e w1 ⟨rfl, hb1⟩; have X1 := ((Whl.new w 42 (stC x h)).alloc _).below' hb1; have F1 := (Whl.newAt (b := w.heap.size + 1) (by simp) 91 _).below' hb1; obtain ⟨x0, x1, x2, x3, x4, x5, x6, x7, x8, x9, x10, x11, x12, x13⟩ := X1.cSt; obtain ⟨g0, g1, g2, g3, g4, g5, g6⟩ := F1.c7; clear t1; have t2 := trivial; have H1 := below_step (below_alloc (below_alloc (Below.refl _ _) _) _) hb1))) | (go_at_call 45; have t3 := t2; clear t2; go_must (((with_reducible refine (zeroP x.b h.b _ HI.out.wf.b.name).mono ?_); rintro e w2 ⟨rfl, hb2⟩; have X2 := X1.below' hb2; have F2 := F1.below' hb2; clear x0 x1 x2 x3 x4 x5 x6 x7 x8 x9 x10 x11 x12 x13 g0 g1 g2 g3 g4 g5 g6; obtain ⟨y0, y1, y2, y3, y4, y5, y6, y7, y8, y9, y10, y11, y12, y13⟩ := X2.cSt; obtain ⟨k0, k1, k2, k3, k4, k5, k6⟩ := F2.c7; clear t3; have t4 := trivial; have H2 := below_step H1 hb2))))
    refine ret_of ?_ rfl
    exact ⟨_, by simp [results, Tryz.results42, go_sem]; rfl, by rw [HO.out], H2⟩
  cases G6 : (x.cases.length == 0)
  · have HO := Lib.hid (show ownS x = 5 by
      have e : formS x = false := by simp [formS, HK.out, cName, cNum, cA, cB, cBody, cEls, cCases, knownS, G2, G3, G4, G5, G6]
      rw [ownS, e]; rfl)
    have b2 := G2
    have b3 := G3
    have b4 : decide (0 < x.body.length) = false := by simpa using G4
    have b5 : decide (0 < x.els.length) = false := by simpa using G5
    have b6 : decide (0 < x.cases.length) = true := by simp only [beq_eq_false_iff_ne] at G6; simp only [decide_eq_true_eq]; omega
    clear G2 G3 G4 G5 G6
    have t0 : True := trivial
    go_enter Tryz.func42, Tryz.ntmps42
    simp only [List.append_eq, List.cons_append, List.nil_append]
    go_wp2_with (first | (go_at_call 45; have t1 := t0; clear t0; go_must (((with_reducible refine (zeroP x.a h.a _ HI.out.wf.a.name).mono ?_); rintro e w1 ⟨rfl, hb1⟩; have X1 := ((Whl.new w 42 (stC x h)).alloc _).below' hb1; have F1 := (Whl.newAt (b := w.heap.size + 1) (by simp) 91 _).below' hb1; obtain ⟨x0, x1, x2, x3, x4, x5, x6, x7, x8, x9, x10, x11, x12, x13⟩ := X1.cSt; obtain ⟨g0, g1, g2, g3, g4, g5, g6⟩ := F1.c7; clear t1; have t2 := trivial; have H1 := below_step (below_alloc (below_alloc (Below.refl _ _) _) _) hb1))) | (go_at_call 45; have t3 := t2; clear t2; go_must (((with_reducible refine (zeroP x.b h.b _ HI.out.wf.b.name).mono ?_); rintro e w2 ⟨rfl, hb2⟩; have X2 := X1.below' hb2; have F2 := F1.below' hb2; clear x0 x1 x2 x3 x4 x5 x6 x7 x8 x9 x10 x11 x12 x13 g0 g1 g2 g3 g4 g5 g6; obtain ⟨y0, y1, y2, y3, y4, y5, y6, y7, y8, y9, y10, y11, y12, y13⟩ := X2.cSt; obtain ⟨k0, k1, k2, k3, k4, k5, k6⟩ := F2.c7; clear t3; have t4 := trivial; have H2 := below_step H1 hb2))))
    refine ret_of ?_ rfl
    exact ⟨_, by simp [results, Tryz.results42, go_sem]; rfl, by rw [HO.out], H2⟩
  have HE : Hid (formS x = true) := Lib.hid (by simp [formS, HK.out, cName, cNum, cA, cB, cBody, cEls, cCases, knownS, G2, G3, G4, G5, G6])
  have l0 : Hid (lowestD x.cases = false) := Lib.hid (by have := G6; simp only [beq_iff_eq] at this; rw [List.length_eq_zero_iff.1 this]; rfl)
  have b2 := G2
  have b3 := G3
  have b4 : decide (0 < x.body.length) = false := by simpa using G4
  have b5 : decide (0 < x.els.length) = false := by simpa using G5
  have b6 : decide (0 < x.cases.length) = false := by simpa using G6
  clear G2 G3 G4 G5 G6
  have kt : (x.kind == 10) = false := by rw [HK.out]; rfl
  cases nm : nameE x.name
  · have HO := Lib.hid (show ownS x = 8 by rw [ownS, HE.out]; simp [HK.out, cName, cNum, cA, cB, cBody, cEls, cCases, knownS, nm])
    have nm' : nameB (bytesOf x.name) = false := nm
    have t0 : True := trivial
    go_enter Tryz.func42, Tryz.ntmps42
    simp only [List.append_eq, List.cons_append, List.nil_append]
    go_wp2_with (first | (go_at_call 45; have t1 := t0; clear t0; go_must (((with_reducible refine (zeroP x.a h.a _ HI.out.wf.a.name).mono ?_); rintro e w1 ⟨rfl, hb1⟩; have X1 := ((Whl.new w 42 (stC x h)).alloc _).below' hb1; have F1 := (Whl.newAt (b := w.heap.size + 1) (by simp) 91 _).below' hb1; obtain ⟨x0, x1, x2, x3, x4, x5, x6, x7, x8, x9, x10, x11, x12, x13⟩ := X1.cSt; obtain ⟨g0, g1, g2, g3, g4, g5, g6⟩ := F1.c7; clear t1; have t2 := trivial; have H1 := below_step (below_alloc (below_alloc (Below.refl _ _) _) _) hb1))) | (go_at_call 45; have t3 := t2; clear t2; go_must (((with_reducible refine (zeroP x.b h.b _ HI.out.wf.b.name).mono ?_); rintro e w2 ⟨rfl, hb2⟩; have X2 := X1.below' hb2; have F2 := F1.below' hb2; clear x0 x1 x2 x3 x4 x5 x6 x7 x8 x9 x10 x11 x12 x13 g0 g1 g2 g3 g4 g5 g6; obtain ⟨y0, y1, y2, y3, y4, y5, y6, y7, y8, y9, y10, y11, y12, y13⟩ := X2.cSt; obtain ⟨k0, k1, k2, k3, k4, k5, k6⟩ := F2.c7; clear t3; have t4 := trivial; have H2 := below_step H1 hb2))) | (go_at_call 40; (with_reducible refine (nameP x.name HI.out.wf.name _).mono ?_); rintro e w9 ⟨rfl, rfl⟩))
    refine ret_of ?_ rfl
    exact ⟨_, by simp [results, Tryz.results42, go_sem]; rfl, by rw [HO.out], H2⟩
  have nm' : nameB (bytesOf x.name) = true := nm
  cases n0 : decide (x.n < 0)
  rotate_left
  · have n1 := of_decide_eq_true n0
    have HO := Lib.hid (show ownS x = 1 by rw [ownS, HE.out]; simp [HK.out, cName, cNum, cA, cB, cBody, cEls, cCases, knownS, nm, n1])
    have t0 : True := trivial
    go_enter Tryz.func42, Tryz.ntmps42
    simp only [List.append_eq, List.cons_append, List.nil_append]
    go_wp2_with (first | (go_at_call 45; have t1 := t0; clear t0; go_must (((with_reducible refine (zeroP x.a h.a _ HI.out.wf.a.name).mono ?_); rintro e w1 ⟨rfl, hb1⟩; have X1 := ((Whl.new w 42 (stC x h)).alloc _).below' hb1; have F1 := (Whl.newAt (b := w.heap.size + 1) (by simp) 91 _).below' hb1; obtain ⟨x0, x1, x2, x3, x4, x5, x6, x7, x8, x9, x10, x11, x12, x13⟩ := X1.cSt; obtain ⟨g0, g1, g2, g3, g4, g5, g6⟩ := F1.c7; clear t1; have t2 := trivial; have H1 := below_step (below_alloc (below_alloc (Below.refl _ _) _) _) hb1))) | (go_at_call 45; have t3 := t2; clear t2; go_must (((with_reducible refine (zeroP x.b h.b _ HI.out.wf.b.name).mono ?_); rintro e w2 ⟨rfl, hb2⟩; have X2 := X1.below' hb2; have F2 := F1.below' hb2; clear x0 x1 x2 x3 x4 x5 x6 x7 x8 x9 x10 x11 x12 x13 g0 g1 g2 g3 g4 g5 g6; obtain ⟨y0, y1, y2, y3, y4, y5, y6, y7, y8, y9, y10, y11, y12, y13⟩ := X2.cSt; obtain ⟨k0, k1, k2, k3, k4, k5, k6⟩ := F2.c7; clear t3; have t4 := trivial; have H2 := below_step H1 hb2))) | (go_at_call 40; (with_reducible refine (nameP x.name HI.out.wf.name _).mono ?_); rintro e w9 ⟨rfl, rfl⟩))
    refine ret_of ?_ rfl
    exact ⟨_, by simp [results, Tryz.results42, go_sem]; rfl, by rw [HO.out], H2⟩
  have n2 : Hid (¬ x.n < 0) := Lib.hid (of_decide_eq_false n0)
  have l1 : lowestD x.cases = false := l0.out
  have HO := Lib.hid (show ownS x = 0 by rw [ownS, HE.out]; simp [HK.out, cName, cNum, cA, cB, cBody, cEls, cCases, knownS, nm, n2.out, l0.out])
  have t0 : True := trivial
  go_enter Tryz.func42, Tryz.ntmps42
  simp only [List.append_eq, List.cons_append, List.nil_append]
  go_wp2_with (first | (go_at_call 45; have t1 := t0; clear t0; go_must (((with_reducible refine (zeroP x.a h.a _ HI.out.wf.a.name).mono ?_); rintro e w1 ⟨rfl, hb1⟩; have X1 := ((Whl.new w 42 (stC x h)).alloc _).below' hb1; have F1 := (Whl.newAt (b := w.heap.size + 1) (by simp) 91 _).below' hb1; obtain ⟨x0, x1, x2, x3, x4, x5, x6, x7, x8, x9, x10, x11, x12, x13⟩ := X1.cSt; obtain ⟨g0, g1, g2, g3, g4, g5, g6⟩ := F1.c7; clear t1; have t2 := trivial; have H1 := below_step (below_alloc (below_alloc (Below.refl _ _) _) _) hb1))) | (go_at_call 45; have t3 := t2; clear t2; go_must (((with_reducible refine (zeroP x.b h.b _ HI.out.wf.b.name).mono ?_); rintro e w2 ⟨rfl, hb2⟩; have X2 := X1.below' hb2; have F2 := F1.below' hb2; clear x0 x1 x2 x3 x4 x5 x6 x7 x8 x9 x10 x11 x12 x13 g0 g1 g2 g3 g4 g5 g6; obtain ⟨y0, y1, y2, y3, y4, y5, y6, y7, y8, y9, y10, y11, y12, y13⟩ := X2.cSt; obtain ⟨k0, k1, k2, k3, k4, k5, k6⟩ := F2.c7; clear t3; have t4 := trivial; have H2 := below_step H1 hb2))) | (go_at_call 40; (with_reducible refine (nameP x.name HI.out.wf.name _).mono ?_); rintro e w9 ⟨rfl, rfl⟩) | (go_at_call 67; go_must (((with_reducible refine (containsP x.cases h.cases.a h.cases.c B q _ HI.out.clen (Nat.le_trans hB (by first | exact H2.size | (simp; done) | (simp; omega))) (HI.out.crow.below (H2.mono hB) (Nat.le_refl _))).mono ?_); rintro e w3 ⟨rfl, hb3⟩; have X3 := (X2).below' hb3; obtain ⟨z0, z1, z2, z3, z4, z5, z6, z7, z8, z9, z10, z11, z12, z13⟩ := X3.cSt; have H3 := below_step H2 hb3))))
  refine ret_of ?_ rfl
  exact ⟨_, by simp [results, Tryz.results42, go_sem]; rfl, by rw [HO.out], H3⟩
end Go.Proofs.YtdddppmfeoebgaaGreatDoor

