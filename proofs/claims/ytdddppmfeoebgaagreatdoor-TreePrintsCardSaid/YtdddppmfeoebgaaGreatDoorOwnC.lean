/-
  Layer 2 (tree): the walk of own, by kinds.
-/
import Derived.Test.YtdddppmfeoebgaaGreatDoorOwnA
namespace Go.Proofs.YtdddppmfeoebgaaGreatDoor
open Go.RowKit
set_option linter.unusedSimpArgs false
set_option linter.unusedVariables false
set_option maxRecDepth 100000 in
set_option maxHeartbeats 20000000 in
theorem own_4 (x : StD) (hk : x.kind = 4) (h : HdS) (q : Nat → Hd) (B : Nat) (w : World) (hB : B ≤ w.heap.size) (hin : StIn w B x h q) :
    Calls Tryz.prog 42 #[.agg (stC x h), .agg #[.bool true, .bool false, .bool true, .bool true, .bool false, .bool false, .bool false], .bool true] w fun e w' => e = .returned (.int .i64 (ownS x)) ∧ Below w.heap.size w w' := by
  have HI := Lib.hid hin
  have HK := Lib.hid hk
  clear hin hk
  cases G1 : (x.n == 0)
  · have HO := Lib.hid (show ownS x = 5 by
      have e : formS x = false := by simp [formS, HK.out, cName, cNum, cA, cB, cBody, cEls, cCases, knownS, G1]
      rw [ownS, e]; rfl)
    have b1 : (x.n != 0) = true := by rw [bne, G1]; rfl
    have b1' : (x.n == 0) = false := G1
    clear G1
    have t0 : True := trivial
    go_enter Tryz.func42, Tryz.ntmps42
    simp only [List.append_eq, List.cons_append, List.nil_append]
    go_wp2
    refine ret_of ?_ rfl
    exact ⟨_, by simp [results, Tryz.results42, go_sem]; rfl, by rw [HO.out], (below_alloc (below_alloc (Below.refl _ _) _) _)⟩
  cases G4 : (x.body.length == 0)
  · have HO := Lib.hid (show ownS x = 5 by
      have e : formS x = false := by simp [formS, HK.out, cName, cNum, cA, cB, cBody, cEls, cCases, knownS, G1, G4]
      rw [ownS, e]; rfl)
    have b1 : (x.n != 0) = false := by rw [bne, G1]; rfl
    have b1' : (x.n == 0) = true := G1
    have b4 : decide (0 < x.body.length) = true := by simp only [beq_eq_false_iff_ne] at G4; simp only [decide_eq_true_eq]; omega
    clear G1 G4
    have t0 : True := trivial
    go_enter Tryz.func42, Tryz.ntmps42
    simp only [List.append_eq, List.cons_append, List.nil_append]
    go_wp2
    refine ret_of ?_ rfl
    exact ⟨_, by simp [results, Tryz.results42, go_sem]; rfl, by rw [HO.out], (below_alloc (below_alloc (Below.refl _ _) _) _)⟩
  cases G5 : (x.els.length == 0)
  · have HO := Lib.hid (show ownS x = 5 by
      have e : formS x = false := by simp [formS, HK.out, cName, cNum, cA, cB, cBody, cEls, cCases, knownS, G1, G4, G5]
      rw [ownS, e]; rfl)
    have b1 : (x.n != 0) = false := by rw [bne, G1]; rfl
    have b1' : (x.n == 0) = true := G1
    have b4 : decide (0 < x.body.length) = false := by simpa using G4
    have b5 : decide (0 < x.els.length) = true := by simp only [beq_eq_false_iff_ne] at G5; simp only [decide_eq_true_eq]; omega
    clear G1 G4 G5
    have t0 : True := trivial
    go_enter Tryz.func42, Tryz.ntmps42
    simp only [List.append_eq, List.cons_append, List.nil_append]
    go_wp2
    refine ret_of ?_ rfl
    exact ⟨_, by simp [results, Tryz.results42, go_sem]; rfl, by rw [HO.out], (below_alloc (below_alloc (Below.refl _ _) _) _)⟩
  cases G6 : (x.cases.length == 0)
  · have HO := Lib.hid (show ownS x = 5 by
      have e : formS x = false := by simp [formS, HK.out, cName, cNum, cA, cB, cBody, cEls, cCases, knownS, G1, G4, G5, G6]
      rw [ownS, e]; rfl)
    have b1 : (x.n != 0) = false := by rw [bne, G1]; rfl
    have b1' : (x.n == 0) = true := G1
    have b4 : decide (0 < x.body.length) = false := by simpa using G4
    have b5 : decide (0 < x.els.length) = false := by simpa using G5
    have b6 : decide (0 < x.cases.length) = true := by simp only [beq_eq_false_iff_ne] at G6; simp only [decide_eq_true_eq]; omega
    clear G1 G4 G5 G6
    have t0 : True := trivial
    go_enter Tryz.func42, Tryz.ntmps42
    simp only [List.append_eq, List.cons_append, List.nil_append]
    go_wp2
    refine ret_of ?_ rfl
    exact ⟨_, by simp [results, Tryz.results42, go_sem]; rfl, by rw [HO.out], (below_alloc (below_alloc (Below.refl _ _) _) _)⟩
  have HE : Hid (formS x = true) := Lib.hid (by simp [formS, HK.out, cName, cNum, cA, cB, cBody, cEls, cCases, knownS, G1, G4, G5, G6])
  have n0 : decide (x.n < 0) = false := by simp only [decide_eq_false_iff_not]; have := G1; simp only [beq_iff_eq] at this; omega
  have l0 : Hid (lowestD x.cases = false) := Lib.hid (by have := G6; simp only [beq_iff_eq] at this; rw [List.length_eq_zero_iff.1 this]; rfl)
  have b1 : (x.n != 0) = false := by rw [bne, G1]; rfl
  have b1' : (x.n == 0) = true := G1
  have b4 : decide (0 < x.body.length) = false := by simpa using G4
  have b5 : decide (0 < x.els.length) = false := by simpa using G5
  have b6 : decide (0 < x.cases.length) = false := by simpa using G6
  clear G1 G4 G5 G6
  have kt : (x.kind == 10) = false := by rw [HK.out]; rfl
  cases nm : nameE x.name
  · have HO := Lib.hid (show ownS x = 8 by rw [ownS, HE.out]; simp [HK.out, cName, cNum, cA, cB, cBody, cEls, cCases, knownS, nm])
    have nm' : nameB (bytesOf x.name) = false := nm
    have t0 : True := trivial
    go_enter Tryz.func42, Tryz.ntmps42
    simp only [List.append_eq, List.cons_append, List.nil_append]
    go_wp2_with (first | (go_at_call 40; (with_reducible refine (nameP x.name HI.out.wf.name _).mono ?_); rintro e w9 ⟨rfl, rfl⟩))
    refine ret_of ?_ rfl
    exact ⟨_, by simp [results, Tryz.results42, go_sem]; rfl, by rw [HO.out], (below_alloc (below_alloc (Below.refl _ _) _) _)⟩
  have nm' : nameB (bytesOf x.name) = true := nm
  have n2 : Hid (¬ x.n < 0) := Lib.hid (of_decide_eq_false n0)
  have l1 : lowestD x.cases = false := l0.out
  have HO := Lib.hid (show ownS x = 0 by rw [ownS, HE.out]; simp [HK.out, cName, cNum, cA, cB, cBody, cEls, cCases, knownS, nm, n2.out, l0.out])
  have t0 : True := trivial
  go_enter Tryz.func42, Tryz.ntmps42
  simp only [List.append_eq, List.cons_append, List.nil_append]
  go_wp2_with (first | (go_at_call 40; (with_reducible refine (nameP x.name HI.out.wf.name _).mono ?_); rintro e w9 ⟨rfl, rfl⟩) | (go_at_call 67; go_must (((with_reducible refine (containsP x.cases h.cases.a h.cases.c B q _ HI.out.clen (Nat.le_trans hB (by first | exact (below_alloc (below_alloc (Below.refl _ _) _) _).size | (simp; done) | (simp; omega))) (HI.out.crow.below ((below_alloc (below_alloc (Below.refl _ _) _) _).mono hB) (Nat.le_refl _))).mono ?_); rintro e w3 ⟨rfl, hb3⟩; have X3 := (((Whl.new w 42 (stC x h)).alloc _)).below' hb3; obtain ⟨z0, z1, z2, z3, z4, z5, z6, z7, z8, z9, z10, z11, z12, z13⟩ := X3.cSt; have H3 := below_step (below_alloc (below_alloc (Below.refl _ _) _) _) hb3))))
  refine ret_of ?_ rfl
  exact ⟨_, by simp [results, Tryz.results42, go_sem]; rfl, by rw [HO.out], H3⟩
set_option maxRecDepth 100000 in
set_option maxHeartbeats 20000000 in
theorem own_5 (x : StD) (hk : x.kind = 5) (h : HdS) (q : Nat → Hd) (B : Nat) (w : World) (hB : B ≤ w.heap.size) (hin : StIn w B x h q) :
    Calls Tryz.prog 42 #[.agg (stC x h), .agg #[.bool false, .bool false, .bool true, .bool false, .bool true, .bool true, .bool false], .bool true] w fun e w' => e = .returned (.int .i64 (ownS x)) ∧ Below w.heap.size w w' := by
  have HI := Lib.hid hin
  have HK := Lib.hid hk
  clear hin hk
  cases G0 : (x.name.size == 0)
  · have HO := Lib.hid (show ownS x = 5 by
      have e : formS x = false := by simp [formS, HK.out, cName, cNum, cA, cB, cBody, cEls, cCases, knownS, G0]
      rw [ownS, e]; rfl)
    have b0 : (x.name.toList == []) = false := nil_list.trans G0
    clear G0
    have t0 : True := trivial
    go_enter Tryz.func42, Tryz.ntmps42
    simp only [List.append_eq, List.cons_append, List.nil_append]
    go_wp2
    refine ret_of ?_ rfl
    exact ⟨_, by simp [results, Tryz.results42, go_sem]; rfl, by rw [HO.out], (below_alloc (below_alloc (Below.refl _ _) _) _)⟩
  cases G1 : (x.n == 0)
  · have HO := Lib.hid (show ownS x = 5 by
      have e : formS x = false := by simp [formS, HK.out, cName, cNum, cA, cB, cBody, cEls, cCases, knownS, G0, G1]
      rw [ownS, e]; rfl)
    have b0 : (x.name.toList == []) = true := nil_list.trans G0
    have b1 : (x.n != 0) = true := by rw [bne, G1]; rfl
    have b1' : (x.n == 0) = false := G1
    clear G0 G1
    have t0 : True := trivial
    go_enter Tryz.func42, Tryz.ntmps42
    simp only [List.append_eq, List.cons_append, List.nil_append]
    go_wp2
    refine ret_of ?_ rfl
    exact ⟨_, by simp [results, Tryz.results42, go_sem]; rfl, by rw [HO.out], (below_alloc (below_alloc (Below.refl _ _) _) _)⟩
  cases G3 : zeroE x.b
  · have HO := Lib.hid (show ownS x = 5 by
      have e : formS x = false := by simp [formS, HK.out, cName, cNum, cA, cB, cBody, cEls, cCases, knownS, G0, G1, G3]
      rw [ownS, e]; rfl)
    have b0 : (x.name.toList == []) = true := nil_list.trans G0
    have b1 : (x.n != 0) = false := by rw [bne, G1]; rfl
    have b1' : (x.n == 0) = true := G1
    have b3 := G3
    clear G0 G1 G3
    have t0 : True := trivial
    go_enter Tryz.func42, Tryz.ntmps42
    simp only [List.append_eq, List.cons_append, List.nil_append]
    go_wp2_with (first | (go_at_call 45; have t1 := t0; clear t0; go_must (((with_reducible refine (zeroP x.b h.b _ HI.out.wf.b.name).mono ?_); rintro e w1 ⟨rfl, hb1⟩; have X1 := ((Whl.new w 42 (stC x h)).alloc _).below' hb1; have F1 := (Whl.newAt (b := w.heap.size + 1) (by simp) 91 _).below' hb1; obtain ⟨x0, x1, x2, x3, x4, x5, x6, x7, x8, x9, x10, x11, x12, x13⟩ := X1.cSt; obtain ⟨g0, g1, g2, g3, g4, g5, g6⟩ := F1.c7; clear t1; have t2 := trivial; have H1 := below_step (below_alloc (below_alloc (Below.refl _ _) _) _) hb1))))
    refine ret_of ?_ rfl
    exact ⟨_, by simp [results, Tryz.results42, go_sem]; rfl, by rw [HO.out], H1⟩
  cases G6 : (x.cases.length == 0)
  · have HO := Lib.hid (show ownS x = 5 by
      have e : formS x = false := by simp [formS, HK.out, cName, cNum, cA, cB, cBody, cEls, cCases, knownS, G0, G1, G3, G6]
      rw [ownS, e]; rfl)
    have b0 : (x.name.toList == []) = true := nil_list.trans G0
    have b1 : (x.n != 0) = false := by rw [bne, G1]; rfl
    have b1' : (x.n == 0) = true := G1
    have b3 := G3
    have b6 : decide (0 < x.cases.length) = true := by simp only [beq_eq_false_iff_ne] at G6; simp only [decide_eq_true_eq]; omega
    clear G0 G1 G3 G6
    have t0 : True := trivial
    go_enter Tryz.func42, Tryz.ntmps42
    simp only [List.append_eq, List.cons_append, List.nil_append]
    go_wp2_with (first | (go_at_call 45; have t1 := t0; clear t0; go_must (((with_reducible refine (zeroP x.b h.b _ HI.out.wf.b.name).mono ?_); rintro e w1 ⟨rfl, hb1⟩; have X1 := ((Whl.new w 42 (stC x h)).alloc _).below' hb1; have F1 := (Whl.newAt (b := w.heap.size + 1) (by simp) 91 _).below' hb1; obtain ⟨x0, x1, x2, x3, x4, x5, x6, x7, x8, x9, x10, x11, x12, x13⟩ := X1.cSt; obtain ⟨g0, g1, g2, g3, g4, g5, g6⟩ := F1.c7; clear t1; have t2 := trivial; have H1 := below_step (below_alloc (below_alloc (Below.refl _ _) _) _) hb1))))
    refine ret_of ?_ rfl
    exact ⟨_, by simp [results, Tryz.results42, go_sem]; rfl, by rw [HO.out], H1⟩
  have HE : Hid (formS x = true) := Lib.hid (by simp [formS, HK.out, cName, cNum, cA, cB, cBody, cEls, cCases, knownS, G0, G1, G3, G6])
  have n0 : decide (x.n < 0) = false := by simp only [decide_eq_false_iff_not]; have := G1; simp only [beq_iff_eq] at this; omega
  have l0 : Hid (lowestD x.cases = false) := Lib.hid (by have := G6; simp only [beq_iff_eq] at this; rw [List.length_eq_zero_iff.1 this]; rfl)
  have b0 : (x.name.toList == []) = true := nil_list.trans G0
  have b1 : (x.n != 0) = false := by rw [bne, G1]; rfl
  have b1' : (x.n == 0) = true := G1
  have b3 := G3
  have b6 : decide (0 < x.cases.length) = false := by simpa using G6
  clear G0 G1 G3 G6
  have kt : (x.kind == 10) = false := by rw [HK.out]; rfl
  have n2 : Hid (¬ x.n < 0) := Lib.hid (of_decide_eq_false n0)
  have l1 : lowestD x.cases = false := l0.out
  have HO := Lib.hid (show ownS x = 0 by rw [ownS, HE.out]; simp [HK.out, cName, cNum, cA, cB, cBody, cEls, cCases, knownS, n2.out, l0.out])
  have t0 : True := trivial
  go_enter Tryz.func42, Tryz.ntmps42
  simp only [List.append_eq, List.cons_append, List.nil_append]
  go_wp2_with (first | (go_at_call 45; have t1 := t0; clear t0; go_must (((with_reducible refine (zeroP x.b h.b _ HI.out.wf.b.name).mono ?_); rintro e w1 ⟨rfl, hb1⟩; have X1 := ((Whl.new w 42 (stC x h)).alloc _).below' hb1; have F1 := (Whl.newAt (b := w.heap.size + 1) (by simp) 91 _).below' hb1; obtain ⟨x0, x1, x2, x3, x4, x5, x6, x7, x8, x9, x10, x11, x12, x13⟩ := X1.cSt; obtain ⟨g0, g1, g2, g3, g4, g5, g6⟩ := F1.c7; clear t1; have t2 := trivial; have H1 := below_step (below_alloc (below_alloc (Below.refl _ _) _) _) hb1))) | (go_at_call 67; go_must (((with_reducible refine (containsP x.cases h.cases.a h.cases.c B q _ HI.out.clen (Nat.le_trans hB (by first | exact H1.size | (simp; done) | (simp; omega))) (HI.out.crow.below (H1.mono hB) (Nat.le_refl _))).mono ?_); rintro e w3 ⟨rfl, hb3⟩; have X3 := (X1).below' hb3; obtain ⟨z0, z1, z2, z3, z4, z5, z6, z7, z8, z9, z10, z11, z12, z13⟩ := X3.cSt; have H3 := below_step H1 hb3))))
  refine ret_of ?_ rfl
  exact ⟨_, by simp [results, Tryz.results42, go_sem]; rfl, by rw [HO.out], H3⟩
set_option maxRecDepth 100000 in
set_option maxHeartbeats 20000000 in
theorem own_6 (x : StD) (hk : x.kind = 6) (h : HdS) (q : Nat → Hd) (B : Nat) (w : World) (hB : B ≤ w.heap.size) (hin : StIn w B x h q) :
    Calls Tryz.prog 42 #[.agg (stC x h), .agg #[.bool false, .bool false, .bool true, .bool false, .bool false, .bool true, .bool true], .bool true] w fun e w' => e = .returned (.int .i64 (ownS x)) ∧ Below w.heap.size w w' := by
  have HI := Lib.hid hin
  have HK := Lib.hid hk
  clear hin hk
  cases G0 : (x.name.size == 0)
  · have HO := Lib.hid (show ownS x = 5 by
      have e : formS x = false := by simp [formS, HK.out, cName, cNum, cA, cB, cBody, cEls, cCases, knownS, G0]
      rw [ownS, e]; rfl)
    have b0 : (x.name.toList == []) = false := nil_list.trans G0
    clear G0
    have t0 : True := trivial
    go_enter Tryz.func42, Tryz.ntmps42
    simp only [List.append_eq, List.cons_append, List.nil_append]
    go_wp2
    refine ret_of ?_ rfl
    exact ⟨_, by simp [results, Tryz.results42, go_sem]; rfl, by rw [HO.out], (below_alloc (below_alloc (Below.refl _ _) _) _)⟩
  cases G1 : (x.n == 0)
  · have HO := Lib.hid (show ownS x = 5 by
      have e : formS x = false := by simp [formS, HK.out, cName, cNum, cA, cB, cBody, cEls, cCases, knownS, G0, G1]
      rw [ownS, e]; rfl)
    have b0 : (x.name.toList == []) = true := nil_list.trans G0
    have b1 : (x.n != 0) = true := by rw [bne, G1]; rfl
    have b1' : (x.n == 0) = false := G1
    clear G0 G1
    have t0 : True := trivial
    go_enter Tryz.func42, Tryz.ntmps42
    simp only [List.append_eq, List.cons_append, List.nil_append]
    go_wp2
    refine ret_of ?_ rfl
    exact ⟨_, by simp [results, Tryz.results42, go_sem]; rfl, by rw [HO.out], (below_alloc (below_alloc (Below.refl _ _) _) _)⟩
  cases G3 : zeroE x.b
  · have HO := Lib.hid (show ownS x = 5 by
      have e : formS x = false := by simp [formS, HK.out, cName, cNum, cA, cB, cBody, cEls, cCases, knownS, G0, G1, G3]
      rw [ownS, e]; rfl)
    have b0 : (x.name.toList == []) = true := nil_list.trans G0
    have b1 : (x.n != 0) = false := by rw [bne, G1]; rfl
    have b1' : (x.n == 0) = true := G1
    have b3 := G3
    clear G0 G1 G3
    have t0 : True := trivial
    go_enter Tryz.func42, Tryz.ntmps42
    simp only [List.append_eq, List.cons_append, List.nil_append]
    go_wp2_with (first | (go_at_call 45; have t1 := t0; clear t0; go_must (((with_reducible refine (zeroP x.b h.b _ HI.out.wf.b.name).mono ?_); rintro e w1 ⟨rfl, hb1⟩; have X1 := ((Whl.new w 42 (stC x h)).alloc _).below' hb1; have F1 := (Whl.newAt (b := w.heap.size + 1) (by simp) 91 _).below' hb1; obtain ⟨x0, x1, x2, x3, x4, x5, x6, x7, x8, x9, x10, x11, x12, x13⟩ := X1.cSt; obtain ⟨g0, g1, g2, g3, g4, g5, g6⟩ := F1.c7; clear t1; have t2 := trivial; have H1 := below_step (below_alloc (below_alloc (Below.refl _ _) _) _) hb1))))
    refine ret_of ?_ rfl
    exact ⟨_, by simp [results, Tryz.results42, go_sem]; rfl, by rw [HO.out], H1⟩
  cases G4 : (x.body.length == 0)
  · have HO := Lib.hid (show ownS x = 5 by
      have e : formS x = false := by simp [formS, HK.out, cName, cNum, cA, cB, cBody, cEls, cCases, knownS, G0, G1, G3, G4]
      rw [ownS, e]; rfl)
    have b0 : (x.name.toList == []) = true := nil_list.trans G0
    have b1 : (x.n != 0) = false := by rw [bne, G1]; rfl
    have b1' : (x.n == 0) = true := G1
    have b3 := G3
    have b4 : decide (0 < x.body.length) = true := by simp only [beq_eq_false_iff_ne] at G4; simp only [decide_eq_true_eq]; omega
    clear G0 G1 G3 G4
    have t0 : True := trivial
    go_enter Tryz.func42, Tryz.ntmps42
    simp only [List.append_eq, List.cons_append, List.nil_append]
    go_wp2_with (first | (go_at_call 45; have t1 := t0; clear t0; go_must (((with_reducible refine (zeroP x.b h.b _ HI.out.wf.b.name).mono ?_); rintro e w1 ⟨rfl, hb1⟩; have X1 := ((Whl.new w 42 (stC x h)).alloc _).below' hb1; have F1 := (Whl.newAt (b := w.heap.size + 1) (by simp) 91 _).below' hb1; obtain ⟨x0, x1, x2, x3, x4, x5, x6, x7, x8, x9, x10, x11, x12, x13⟩ := X1.cSt; obtain ⟨g0, g1, g2, g3, g4, g5, g6⟩ := F1.c7; clear t1; have t2 := trivial; have H1 := below_step (below_alloc (below_alloc (Below.refl _ _) _) _) hb1))))
    refine ret_of ?_ rfl
    exact ⟨_, by simp [results, Tryz.results42, go_sem]; rfl, by rw [HO.out], H1⟩
  have HE : Hid (formS x = true) := Lib.hid (by simp [formS, HK.out, cName, cNum, cA, cB, cBody, cEls, cCases, knownS, G0, G1, G3, G4])
  have n0 : decide (x.n < 0) = false := by simp only [decide_eq_false_iff_not]; have := G1; simp only [beq_iff_eq] at this; omega
  have b0 : (x.name.toList == []) = true := nil_list.trans G0
  have b1 : (x.n != 0) = false := by rw [bne, G1]; rfl
  have b1' : (x.n == 0) = true := G1
  have b3 := G3
  have b4 : decide (0 < x.body.length) = false := by simpa using G4
  clear G0 G1 G3 G4
  have kt : (x.kind == 10) = false := by rw [HK.out]; rfl
  have n2 : Hid (¬ x.n < 0) := Lib.hid (of_decide_eq_false n0)
  cases l0 : lowestD x.cases
  rotate_left
  · have HO := Lib.hid (show ownS x = 1 by rw [ownS, HE.out]; simp [HK.out, cName, cNum, cA, cB, cBody, cEls, cCases, knownS, n2.out, l0])
    have t0 : True := trivial
    go_enter Tryz.func42, Tryz.ntmps42
    simp only [List.append_eq, List.cons_append, List.nil_append]
    go_wp2_with (first | (go_at_call 45; have t1 := t0; clear t0; go_must (((with_reducible refine (zeroP x.b h.b _ HI.out.wf.b.name).mono ?_); rintro e w1 ⟨rfl, hb1⟩; have X1 := ((Whl.new w 42 (stC x h)).alloc _).below' hb1; have F1 := (Whl.newAt (b := w.heap.size + 1) (by simp) 91 _).below' hb1; obtain ⟨x0, x1, x2, x3, x4, x5, x6, x7, x8, x9, x10, x11, x12, x13⟩ := X1.cSt; obtain ⟨g0, g1, g2, g3, g4, g5, g6⟩ := F1.c7; clear t1; have t2 := trivial; have H1 := below_step (below_alloc (below_alloc (Below.refl _ _) _) _) hb1))) | (go_at_call 67; go_must (((with_reducible refine (containsP x.cases h.cases.a h.cases.c B q _ HI.out.clen (Nat.le_trans hB (by first | exact H1.size | (simp; done) | (simp; omega))) (HI.out.crow.below (H1.mono hB) (Nat.le_refl _))).mono ?_); rintro e w3 ⟨rfl, hb3⟩; have X3 := (X1).below' hb3; obtain ⟨z0, z1, z2, z3, z4, z5, z6, z7, z8, z9, z10, z11, z12, z13⟩ := X3.cSt; have H3 := below_step H1 hb3))))
    refine ret_of ?_ rfl
    exact ⟨_, by simp [results, Tryz.results42, go_sem]; rfl, by rw [HO.out], H3⟩
  have L0 := Lib.hid l0
  have HO := Lib.hid (show ownS x = 0 by rw [ownS, HE.out]; simp [HK.out, cName, cNum, cA, cB, cBody, cEls, cCases, knownS, n2.out, L0.out])
  have t0 : True := trivial
  go_enter Tryz.func42, Tryz.ntmps42
  simp only [List.append_eq, List.cons_append, List.nil_append]
  go_wp2_with (first | (go_at_call 45; have t1 := t0; clear t0; go_must (((with_reducible refine (zeroP x.b h.b _ HI.out.wf.b.name).mono ?_); rintro e w1 ⟨rfl, hb1⟩; have X1 := ((Whl.new w 42 (stC x h)).alloc _).below' hb1; have F1 := (Whl.newAt (b := w.heap.size + 1) (by simp) 91 _).below' hb1; obtain ⟨x0, x1, x2, x3, x4, x5, x6, x7, x8, x9, x10, x11, x12, x13⟩ := X1.cSt; obtain ⟨g0, g1, g2, g3, g4, g5, g6⟩ := F1.c7; clear t1; have t2 := trivial; have H1 := below_step (below_alloc (below_alloc (Below.refl _ _) _) _) hb1))) | (go_at_call 67; go_must (((with_reducible refine (containsP x.cases h.cases.a h.cases.c B q _ HI.out.clen (Nat.le_trans hB (by first | exact H1.size | (simp; done) | (simp; omega))) (HI.out.crow.below (H1.mono hB) (Nat.le_refl _))).mono ?_); rintro e w3 ⟨rfl, hb3⟩; have X3 := (X1).below' hb3; obtain ⟨z0, z1, z2, z3, z4, z5, z6, z7, z8, z9, z10, z11, z12, z13⟩ := X3.cSt; have H3 := below_step H1 hb3))))
  refine ret_of ?_ rfl
  exact ⟨_, by simp [results, Tryz.results42, go_sem]; rfl, by rw [HO.out], H3⟩
set_option maxRecDepth 100000 in
set_option maxHeartbeats 20000000 in
theorem own_7 (x : StD) (hk : x.kind = 7) (h : HdS) (q : Nat → Hd) (B : Nat) (w : World) (hB : B ≤ w.heap.size) (hin : StIn w B x h q) :
    Calls Tryz.prog 42 #[.agg (stC x h), .agg #[.bool true, .bool false, .bool true, .bool true, .bool true, .bool false, .bool false], .bool true] w fun e w' => e = .returned (.int .i64 (ownS x)) ∧ Below w.heap.size w w' := by
  have HI := Lib.hid hin
  have HK := Lib.hid hk
  clear hin hk
  cases G1 : (x.n == 0)
  · have HO := Lib.hid (show ownS x = 5 by
      have e : formS x = false := by simp [formS, HK.out, cName, cNum, cA, cB, cBody, cEls, cCases, knownS, G1]
      rw [ownS, e]; rfl)
    have b1 : (x.n != 0) = true := by rw [bne, G1]; rfl
    have b1' : (x.n == 0) = false := G1
    clear G1
    have t0 : True := trivial
    go_enter Tryz.func42, Tryz.ntmps42
    simp only [List.append_eq, List.cons_append, List.nil_append]
    go_wp2
    refine ret_of ?_ rfl
    exact ⟨_, by simp [results, Tryz.results42, go_sem]; rfl, by rw [HO.out], (below_alloc (below_alloc (Below.refl _ _) _) _)⟩
  cases G5 : (x.els.length == 0)
  · have HO := Lib.hid (show ownS x = 5 by
      have e : formS x = false := by simp [formS, HK.out, cName, cNum, cA, cB, cBody, cEls, cCases, knownS, G1, G5]
      rw [ownS, e]; rfl)
    have b1 : (x.n != 0) = false := by rw [bne, G1]; rfl
    have b1' : (x.n == 0) = true := G1
    have b5 : decide (0 < x.els.length) = true := by simp only [beq_eq_false_iff_ne] at G5; simp only [decide_eq_true_eq]; omega
    clear G1 G5
    have t0 : True := trivial
    go_enter Tryz.func42, Tryz.ntmps42
    simp only [List.append_eq, List.cons_append, List.nil_append]
    go_wp2
    refine ret_of ?_ rfl
    exact ⟨_, by simp [results, Tryz.results42, go_sem]; rfl, by rw [HO.out], (below_alloc (below_alloc (Below.refl _ _) _) _)⟩
  cases G6 : (x.cases.length == 0)
  · have HO := Lib.hid (show ownS x = 5 by
      have e : formS x = false := by simp [formS, HK.out, cName, cNum, cA, cB, cBody, cEls, cCases, knownS, G1, G5, G6]
      rw [ownS, e]; rfl)
    have b1 : (x.n != 0) = false := by rw [bne, G1]; rfl
    have b1' : (x.n == 0) = true := G1
    have b5 : decide (0 < x.els.length) = false := by simpa using G5
    have b6 : decide (0 < x.cases.length) = true := by simp only [beq_eq_false_iff_ne] at G6; simp only [decide_eq_true_eq]; omega
    clear G1 G5 G6
    have t0 : True := trivial
    go_enter Tryz.func42, Tryz.ntmps42
    simp only [List.append_eq, List.cons_append, List.nil_append]
    go_wp2
    refine ret_of ?_ rfl
    exact ⟨_, by simp [results, Tryz.results42, go_sem]; rfl, by rw [HO.out], (below_alloc (below_alloc (Below.refl _ _) _) _)⟩
  have HE : Hid (formS x = true) := Lib.hid (by simp [formS, HK.out, cName, cNum, cA, cB, cBody, cEls, cCases, knownS, G1, G5, G6])
  have n0 : decide (x.n < 0) = false := by simp only [decide_eq_false_iff_not]; have := G1; simp only [beq_iff_eq] at this; omega
  have l0 : Hid (lowestD x.cases = false) := Lib.hid (by have := G6; simp only [beq_iff_eq] at this; rw [List.length_eq_zero_iff.1 this]; rfl)
  have b1 : (x.n != 0) = false := by rw [bne, G1]; rfl
  have b1' : (x.n == 0) = true := G1
  have b5 : decide (0 < x.els.length) = false := by simpa using G5
  have b6 : decide (0 < x.cases.length) = false := by simpa using G6
  clear G1 G5 G6
  have kt : (x.kind == 10) = false := by rw [HK.out]; rfl
  cases nm : nameE x.name
  · have HO := Lib.hid (show ownS x = 8 by rw [ownS, HE.out]; simp [HK.out, cName, cNum, cA, cB, cBody, cEls, cCases, knownS, nm])
    have nm' : nameB (bytesOf x.name) = false := nm
    have t0 : True := trivial
    go_enter Tryz.func42, Tryz.ntmps42
    simp only [List.append_eq, List.cons_append, List.nil_append]
    go_wp2_with (first | (go_at_call 40; (with_reducible refine (nameP x.name HI.out.wf.name _).mono ?_); rintro e w9 ⟨rfl, rfl⟩))
    refine ret_of ?_ rfl
    exact ⟨_, by simp [results, Tryz.results42, go_sem]; rfl, by rw [HO.out], (below_alloc (below_alloc (Below.refl _ _) _) _)⟩
  have nm' : nameB (bytesOf x.name) = true := nm
  have n2 : Hid (¬ x.n < 0) := Lib.hid (of_decide_eq_false n0)
  have l1 : lowestD x.cases = false := l0.out
  have HO := Lib.hid (show ownS x = 0 by rw [ownS, HE.out]; simp [HK.out, cName, cNum, cA, cB, cBody, cEls, cCases, knownS, nm, n2.out, l0.out])
  have t0 : True := trivial
  go_enter Tryz.func42, Tryz.ntmps42
  simp only [List.append_eq, List.cons_append, List.nil_append]
  go_wp2_with (first | (go_at_call 40; (with_reducible refine (nameP x.name HI.out.wf.name _).mono ?_); rintro e w9 ⟨rfl, rfl⟩) | (go_at_call 67; go_must (((with_reducible refine (containsP x.cases h.cases.a h.cases.c B q _ HI.out.clen (Nat.le_trans hB (by first | exact (below_alloc (below_alloc (Below.refl _ _) _) _).size | (simp; done) | (simp; omega))) (HI.out.crow.below ((below_alloc (below_alloc (Below.refl _ _) _) _).mono hB) (Nat.le_refl _))).mono ?_); rintro e w3 ⟨rfl, hb3⟩; have X3 := (((Whl.new w 42 (stC x h)).alloc _)).below' hb3; obtain ⟨z0, z1, z2, z3, z4, z5, z6, z7, z8, z9, z10, z11, z12, z13⟩ := X3.cSt; have H3 := below_step (below_alloc (below_alloc (Below.refl _ _) _) _) hb3))))
  refine ret_of ?_ rfl
  exact ⟨_, by simp [results, Tryz.results42, go_sem]; rfl, by rw [HO.out], H3⟩
end Go.Proofs.YtdddppmfeoebgaaGreatDoor

