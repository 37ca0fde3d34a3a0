/-
  Layer 2 (tree): the walks of the reference's args, named, counts, lowest, formed: what a kind has, whether a statement's form is right.
-/
import Derived.Test.YtdddppmfeoebgaaGreatDoorKind
import Derived.Test.YtdddppmfeoebgaaGreatDoorOwnA
import Derived.Test.YtdddppmfeoebgaaGreatDoorCntR
namespace Go.Proofs.YtdddppmfeoebgaaGreatDoor
open Go.RowKit
set_option linter.unusedSimpArgs false
set_option linter.unusedVariables false
def arR (k : Int) : Int := if knownE k then arD k else -2
set_option maxHeartbeats 2000000 in
theorem argsR (k : Int) (w : World) : Calls Tryz.prog 107 #[.int .i64 k] w fun e w' => e = .returned (.int .i64 (arR k)) ∧ w = w' := by
  rcases (by omega : k = 1 ∨ k = 2 ∨ k = 3 ∨ k = 4 ∨ k = 5 ∨ k = 6 ∨ k = 20 ∨ (k ≠ 1 ∧ k ≠ 2 ∧ k ≠ 3 ∧ k ≠ 4 ∧ k ≠ 5 ∧ k ≠ 6 ∧ k ≠ 20)) with rfl | rfl | rfl | rfl | rfl | rfl | rfl | ⟨n1, n2, n3, n4, n5, n6, n20⟩
  case inr.inr.inr.inr.inr.inr.inr =>
    obtain ⟨e0, e1, e2⟩ := ar_no (k := k) ⟨by omega, by omega⟩
    unfold arR
    rw [e0, e2]
    clear e0 e1 e2
    have b1 : (k == 1) = false := by simpa using n1
    have b2 : (k == 2) = false := by simpa using n2
    have b3 : (k == 3) = false := by simpa using n3
    have b4 : (k == 4) = false := by simpa using n4
    have b5 : (k == 5) = false := by simpa using n5
    have b6 : (k == 6) = false := by simpa using n6
    have b20 : (k == 20) = false := by simpa using n20
    cases h1 : decide (7 ≤ k) <;> cases h2 : decide (k ≤ 19)
    all_goals
      go_enter Tryz.func107, Tryz.ntmps107
      go_wp2
      go_ret
      exact ⟨rfl, rfl⟩
  all_goals
    go_enter Tryz.func107, Tryz.ntmps107
    go_wp2
    go_ret
    exact ⟨rfl, rfl⟩
theorem namedR (k : Int) (w : World) : Calls Tryz.prog 108 #[.int .i64 k] w fun e w' => e = .returned (.bool (namedD k)) ∧ w = w' := by
  unfold namedD
  cases h2 : (k == 2) <;> cases h3 : (k == 3) <;> cases h4 : (k == 4)
  all_goals
    go_enter Tryz.func108, Tryz.ntmps108
    go_wp2
    go_ret
    exact ⟨rfl, rfl⟩
set_option maxHeartbeats 2000000 in
theorem countsR (k : Int) (w : World) : Calls Tryz.prog 84 #[.int .i64 k] w fun e w' => e = .returned (fieldsV k) ∧ Below w.heap.size w w' := by
  rcases (by omega : k = 1 ∨ k = 2 ∨ k = 3 ∨ k = 4 ∨ k = 5 ∨ k = 6 ∨ k = 7 ∨ k = 8 ∨ k = 9 ∨ k = 10 ∨ (k ≠ 1 ∧ k ≠ 2 ∧ k ≠ 3 ∧ k ≠ 4 ∧ k ≠ 5 ∧ k ≠ 6 ∧ k ≠ 7 ∧ k ≠ 8 ∧ k ≠ 9 ∧ k ≠ 10)) with rfl | rfl | rfl | rfl | rfl | rfl | rfl | rfl | rfl | rfl | ⟨n1, n2, n3, n4, n5, n6, n7, n8, n9, n10⟩
  case inr.inr.inr.inr.inr.inr.inr.inr.inr.inr =>
    have hk : knownS k = false := by simp only [knownS, Bool.and_eq_false_iff, decide_eq_false_iff_not]; omega
    obtain ⟨e0, e1, e2, e3, e4, e5, e6⟩ := fields_no hk
    unfold fieldsV
    rw [e0, e1, e2, e3, e4, e5, e6]
    clear hk e0 e1 e2 e3 e4 e5 e6
    have b1 : (k == 1) = false := by simpa using n1
    have b2 : (k == 2) = false := by simpa using n2
    have b3 : (k == 3) = false := by simpa using n3
    have b4 : (k == 4) = false := by simpa using n4
    have b5 : (k == 5) = false := by simpa using n5
    have b6 : (k == 6) = false := by simpa using n6
    have b7 : (k == 7) = false := by simpa using n7
    have b8 : (k == 8) = false := by simpa using n8
    have b9 : (k == 9) = false := by simpa using n9
    have b10 : (k == 10) = false := by simpa using n10
    clear n1 n2 n3 n4 n5 n6 n7 n8 n9 n10
    go_enter Tryz.func84, Tryz.ntmps84
    go_wp2
    refine ret_of ?_ rfl
    refine ⟨_, by simp [results, Tryz.results84, go_sem] <;> decide, rfl, ?_⟩
    exact ((Below.refl _ _).alloc (Nat.le_refl _) _)
  all_goals
    go_enter Tryz.func84, Tryz.ntmps84
    go_wp2
    refine ret_of ?_ rfl
    refine ⟨_, by simp [results, Tryz.results84, go_sem] <;> decide, rfl, ?_⟩
    exact ((Below.refl _ _).alloc (Nat.le_refl _) _)
set_option maxHeartbeats 2000000 in
theorem lowestR (l : List CaD) (A : Option Addr) (c B : Nat) (hd : Nat → Hd) (w : World) (len : l.length * 32 ≤ 140737488351232) (rows : RowsAt w B A l.length 2 fun k => caV (nthC l k) (hd k)) :
    Calls Tryz.prog 86 #[.slice A l.length c] w fun e w' => e = .returned (.bool (lowestD l)) ∧ w = w' := by
  have HR := Lib.hid rows
  clear rows
  go_enter Tryz.func86, Tryz.ntmps86
  go_wp2
  go_loop [3] (fun i => ∃ k : Nat, k ≤ l.length ∧ i = .int .i64 k ∧ Hid (lowestD (l.take k) = false)) (fun i => l.length - (intOf i).toNat)
  case atStart => exact ⟨0, Nat.zero_le _, rfl, Lib.hid (by simp [lowestD])⟩
  case round =>
    obtain ⟨k, hk, rfl, HQ⟩ := hrel
    by_cases hlt : k < l.length
    · have hsn := Lib.hid (low_take hlt)
      obtain ⟨b, off, rfl, c0, c1⟩ := HR.out.ca hlt
      cases hx : ((nthC l k).n == least)
      · have HX := Lib.hid hx
        have hx' : ((nthC l k).n == -9223372036854775808) = false := hx
        clear hx
        go_wp2
        go_round
        case rel => exact ⟨k + 1, by omega, by go_num, Lib.hid (by rw [hsn.out, HQ.out, HX.out]; rfl)⟩
        case measure => simp [intOf]; omega
      · have HX := Lib.hid hx
        have hx' : ((nthC l k).n == -9223372036854775808) = true := hx
        clear hx
        go_wp2
        go_ret
        exact ⟨by rw [low_cut l (k + 1), hsn.out, HX.out]; simp, rfl⟩
    · obtain rfl : k = l.length := by omega
      go_wp2
      go_ret
      exact ⟨by have := HQ.out; rw [List.take_length] at this; rw [this]; rfl, rfl⟩
theorem len0 (n : Nat) : ((n : Int) == 0) = (n == 0) := by rw [Bool.eq_iff_iff, beq_iff_eq, beq_iff_eq]; omega
set_option maxRecDepth 100000 in
set_option maxHeartbeats 8000000 in
theorem form_0 (x : StD) (h : HdS) (q : Nat → Hd) (B : Nat) (w : World) (hin : StIn w B x h q) (hc : ∀ w, Calls Tryz.prog 84 #[.int .i64 x.kind] w fun e w' => e = .returned (.agg #[.bool true, .bool false, .bool true, .bool false, .bool false, .bool false, .bool false]) ∧ Below w.heap.size w w') (k1 : decide (1 ≤ x.kind) = true) (k2 : decide (x.kind ≤ 10) = true) :
    Calls Tryz.prog 85 #[.agg (stC x h)] w fun e w' => e = .returned (.bool ((x.n == 0) && zeroE x.b && (x.body.length == 0) && (x.els.length == 0) && (x.cases.length == 0))) ∧ Below w.heap.size w w' := by
  have HC := Lib.hid hc
  have hin := Lib.hid hin
  clear hc
  cases g1 : (x.n == 0)
  · skip
    go_enter Tryz.func85, Tryz.ntmps85
    simp only [List.append_eq, List.cons_append, List.nil_append]
    go_wp2_with (first | (go_at_call 84; ((with_reducible refine (HC.out _).mono ?_); rintro e w1 ⟨rfl, hb1⟩; have X1 := (Whl.new w 42 (stC x h)).below' hb1; have B1 := below_alloc (below_step (below_alloc (Below.refl _ _) _) hb1) (.cells #[.bool true, .bool false, .bool true, .bool false, .bool false, .bool false, .bool false] 140); have X2 := X1.alloc (.cells #[.bool true, .bool false, .bool true, .bool false, .bool false, .bool false, .bool false] 140); obtain ⟨x0, x1, x2, x3, x4, x5, x6, x7, x8, x9, x10, x11, x12, x13⟩ := X2.cSt; have lx := X2.lt; have lx1 := X1.lt; have F2 := Whl.new w1 140 #[.bool true, .bool false, .bool true, .bool false, .bool false, .bool false, .bool false]; obtain ⟨y0, y1, y2, y3, y4, y5, y6⟩ := F2.c7; have ly := F2.lt)))
    go_ret
    exact ⟨by simp only [g1]; rfl, B1⟩
  · skip
    cases g3 : zeroE x.b
    · skip
      go_enter Tryz.func85, Tryz.ntmps85
      simp only [List.append_eq, List.cons_append, List.nil_append]
      go_wp2_with (first | (go_at_call 84; ((with_reducible refine (HC.out _).mono ?_); rintro e w1 ⟨rfl, hb1⟩; have X1 := (Whl.new w 42 (stC x h)).below' hb1; have B1 := below_alloc (below_step (below_alloc (Below.refl _ _) _) hb1) (.cells #[.bool true, .bool false, .bool true, .bool false, .bool false, .bool false, .bool false] 140); have X2 := X1.alloc (.cells #[.bool true, .bool false, .bool true, .bool false, .bool false, .bool false, .bool false] 140); obtain ⟨x0, x1, x2, x3, x4, x5, x6, x7, x8, x9, x10, x11, x12, x13⟩ := X2.cSt; have lx := X2.lt; have lx1 := X1.lt; have F2 := Whl.new w1 140 #[.bool true, .bool false, .bool true, .bool false, .bool false, .bool false, .bool false]; obtain ⟨y0, y1, y2, y3, y4, y5, y6⟩ := F2.c7; have ly := F2.lt)) | (go_at_call 101; ((with_reducible refine (zeroR x.b h.b _ hin.out.wf.b.name).mono ?_); rintro e w2 ⟨rfl, hb2⟩; have X3 := X2.below' hb2; have F3 := F2.below' hb2; have B2 := below_step B1 hb2; clear x0 x1 x2 x3 x4 x5 x6 x7 x8 x9 x10 x11 x12 x13 y0 y1 y2 y3 y4 y5 y6 lx ly; obtain ⟨x0, x1, x2, x3, x4, x5, x6, x7, x8, x9, x10, x11, x12, x13⟩ := X3.cSt; have lx := X3.lt; obtain ⟨y0, y1, y2, y3, y4, y5, y6⟩ := F3.c7; have ly := F3.lt)))
      go_ret
      exact ⟨by simp only [g1, g3]; rfl, B2⟩
    · skip
      cases g4 : (x.body.length == 0)
      · have f4 : ((x.body.length : Int) == 0) = false := (len0 x.body.length).trans g4
        go_enter Tryz.func85, Tryz.ntmps85
        simp only [List.append_eq, List.cons_append, List.nil_append]
        go_wp2_with (first | (go_at_call 84; ((with_reducible refine (HC.out _).mono ?_); rintro e w1 ⟨rfl, hb1⟩; have X1 := (Whl.new w 42 (stC x h)).below' hb1; have B1 := below_alloc (below_step (below_alloc (Below.refl _ _) _) hb1) (.cells #[.bool true, .bool false, .bool true, .bool false, .bool false, .bool false, .bool false] 140); have X2 := X1.alloc (.cells #[.bool true, .bool false, .bool true, .bool false, .bool false, .bool false, .bool false] 140); obtain ⟨x0, x1, x2, x3, x4, x5, x6, x7, x8, x9, x10, x11, x12, x13⟩ := X2.cSt; have lx := X2.lt; have lx1 := X1.lt; have F2 := Whl.new w1 140 #[.bool true, .bool false, .bool true, .bool false, .bool false, .bool false, .bool false]; obtain ⟨y0, y1, y2, y3, y4, y5, y6⟩ := F2.c7; have ly := F2.lt)) | (go_at_call 101; ((with_reducible refine (zeroR x.b h.b _ hin.out.wf.b.name).mono ?_); rintro e w2 ⟨rfl, hb2⟩; have X3 := X2.below' hb2; have F3 := F2.below' hb2; have B2 := below_step B1 hb2; clear x0 x1 x2 x3 x4 x5 x6 x7 x8 x9 x10 x11 x12 x13 y0 y1 y2 y3 y4 y5 y6 lx ly; obtain ⟨x0, x1, x2, x3, x4, x5, x6, x7, x8, x9, x10, x11, x12, x13⟩ := X3.cSt; have lx := X3.lt; obtain ⟨y0, y1, y2, y3, y4, y5, y6⟩ := F3.c7; have ly := F3.lt)))
        go_ret
        exact ⟨by simp only [g1, g3, g4]; rfl, B2⟩
      · have f4 : ((x.body.length : Int) == 0) = true := (len0 x.body.length).trans g4
        cases g5 : (x.els.length == 0)
        · have f5 : ((x.els.length : Int) == 0) = false := (len0 x.els.length).trans g5
          go_enter Tryz.func85, Tryz.ntmps85
          simp only [List.append_eq, List.cons_append, List.nil_append]
          go_wp2_with (first | (go_at_call 84; ((with_reducible refine (HC.out _).mono ?_); rintro e w1 ⟨rfl, hb1⟩; have X1 := (Whl.new w 42 (stC x h)).below' hb1; have B1 := below_alloc (below_step (below_alloc (Below.refl _ _) _) hb1) (.cells #[.bool true, .bool false, .bool true, .bool false, .bool false, .bool false, .bool false] 140); have X2 := X1.alloc (.cells #[.bool true, .bool false, .bool true, .bool false, .bool false, .bool false, .bool false] 140); obtain ⟨x0, x1, x2, x3, x4, x5, x6, x7, x8, x9, x10, x11, x12, x13⟩ := X2.cSt; have lx := X2.lt; have lx1 := X1.lt; have F2 := Whl.new w1 140 #[.bool true, .bool false, .bool true, .bool false, .bool false, .bool false, .bool false]; obtain ⟨y0, y1, y2, y3, y4, y5, y6⟩ := F2.c7; have ly := F2.lt)) | (go_at_call 101; ((with_reducible refine (zeroR x.b h.b _ hin.out.wf.b.name).mono ?_); rintro e w2 ⟨rfl, hb2⟩; have X3 := X2.below' hb2; have F3 := F2.below' hb2; have B2 := below_step B1 hb2; clear x0 x1 x2 x3 x4 x5 x6 x7 x8 x9 x10 x11 x12 x13 y0 y1 y2 y3 y4 y5 y6 lx ly; obtain ⟨x0, x1, x2, x3, x4, x5, x6, x7, x8, x9, x10, x11, x12, x13⟩ := X3.cSt; have lx := X3.lt; obtain ⟨y0, y1, y2, y3, y4, y5, y6⟩ := F3.c7; have ly := F3.lt)))
          go_ret
          exact ⟨by simp only [g1, g3, g4, g5]; rfl, B2⟩
        · have f5 : ((x.els.length : Int) == 0) = true := (len0 x.els.length).trans g5
          cases g6 : (x.cases.length == 0)
          · have f6 : ((x.cases.length : Int) == 0) = false := (len0 x.cases.length).trans g6
            go_enter Tryz.func85, Tryz.ntmps85
            simp only [List.append_eq, List.cons_append, List.nil_append]
            go_wp2_with (first | (go_at_call 84; ((with_reducible refine (HC.out _).mono ?_); rintro e w1 ⟨rfl, hb1⟩; have X1 := (Whl.new w 42 (stC x h)).below' hb1; have B1 := below_alloc (below_step (below_alloc (Below.refl _ _) _) hb1) (.cells #[.bool true, .bool false, .bool true, .bool false, .bool false, .bool false, .bool false] 140); have X2 := X1.alloc (.cells #[.bool true, .bool false, .bool true, .bool false, .bool false, .bool false, .bool false] 140); obtain ⟨x0, x1, x2, x3, x4, x5, x6, x7, x8, x9, x10, x11, x12, x13⟩ := X2.cSt; have lx := X2.lt; have lx1 := X1.lt; have F2 := Whl.new w1 140 #[.bool true, .bool false, .bool true, .bool false, .bool false, .bool false, .bool false]; obtain ⟨y0, y1, y2, y3, y4, y5, y6⟩ := F2.c7; have ly := F2.lt)) | (go_at_call 101; ((with_reducible refine (zeroR x.b h.b _ hin.out.wf.b.name).mono ?_); rintro e w2 ⟨rfl, hb2⟩; have X3 := X2.below' hb2; have F3 := F2.below' hb2; have B2 := below_step B1 hb2; clear x0 x1 x2 x3 x4 x5 x6 x7 x8 x9 x10 x11 x12 x13 y0 y1 y2 y3 y4 y5 y6 lx ly; obtain ⟨x0, x1, x2, x3, x4, x5, x6, x7, x8, x9, x10, x11, x12, x13⟩ := X3.cSt; have lx := X3.lt; obtain ⟨y0, y1, y2, y3, y4, y5, y6⟩ := F3.c7; have ly := F3.lt)))
            go_ret
            exact ⟨by simp only [g1, g3, g4, g5, g6]; rfl, B2⟩
          · have f6 : ((x.cases.length : Int) == 0) = true := (len0 x.cases.length).trans g6
            go_enter Tryz.func85, Tryz.ntmps85
            simp only [List.append_eq, List.cons_append, List.nil_append]
            go_wp2_with (first | (go_at_call 84; ((with_reducible refine (HC.out _).mono ?_); rintro e w1 ⟨rfl, hb1⟩; have X1 := (Whl.new w 42 (stC x h)).below' hb1; have B1 := below_alloc (below_step (below_alloc (Below.refl _ _) _) hb1) (.cells #[.bool true, .bool false, .bool true, .bool false, .bool false, .bool false, .bool false] 140); have X2 := X1.alloc (.cells #[.bool true, .bool false, .bool true, .bool false, .bool false, .bool false, .bool false] 140); obtain ⟨x0, x1, x2, x3, x4, x5, x6, x7, x8, x9, x10, x11, x12, x13⟩ := X2.cSt; have lx := X2.lt; have lx1 := X1.lt; have F2 := Whl.new w1 140 #[.bool true, .bool false, .bool true, .bool false, .bool false, .bool false, .bool false]; obtain ⟨y0, y1, y2, y3, y4, y5, y6⟩ := F2.c7; have ly := F2.lt)) | (go_at_call 101; ((with_reducible refine (zeroR x.b h.b _ hin.out.wf.b.name).mono ?_); rintro e w2 ⟨rfl, hb2⟩; have X3 := X2.below' hb2; have F3 := F2.below' hb2; have B2 := below_step B1 hb2; clear x0 x1 x2 x3 x4 x5 x6 x7 x8 x9 x10 x11 x12 x13 y0 y1 y2 y3 y4 y5 y6 lx ly; obtain ⟨x0, x1, x2, x3, x4, x5, x6, x7, x8, x9, x10, x11, x12, x13⟩ := X3.cSt; have lx := X3.lt; obtain ⟨y0, y1, y2, y3, y4, y5, y6⟩ := F3.c7; have ly := F3.lt)))
            go_ret
            exact ⟨by simp only [g1, g3, g4, g5, g6]; rfl, B2⟩
set_option maxRecDepth 100000 in
set_option maxHeartbeats 8000000 in
theorem form_1 (x : StD) (h : HdS) (q : Nat → Hd) (B : Nat) (w : World) (hin : StIn w B x h q) (hc : ∀ w, Calls Tryz.prog 84 #[.int .i64 x.kind] w fun e w' => e = .returned (.agg #[.bool true, .bool true, .bool false, .bool false, .bool false, .bool false, .bool false]) ∧ Below w.heap.size w w') (k1 : decide (1 ≤ x.kind) = true) (k2 : decide (x.kind ≤ 10) = true) :
    Calls Tryz.prog 85 #[.agg (stC x h)] w fun e w' => e = .returned (.bool (zeroE x.a && zeroE x.b && (x.body.length == 0) && (x.els.length == 0) && (x.cases.length == 0))) ∧ Below w.heap.size w w' := by
  have HC := Lib.hid hc
  have hin := Lib.hid hin
  clear hc
  cases g2 : zeroE x.a
  · skip
    go_enter Tryz.func85, Tryz.ntmps85
    simp only [List.append_eq, List.cons_append, List.nil_append]
    go_wp2_with (first | (go_at_call 84; ((with_reducible refine (HC.out _).mono ?_); rintro e w1 ⟨rfl, hb1⟩; have X1 := (Whl.new w 42 (stC x h)).below' hb1; have B1 := below_alloc (below_step (below_alloc (Below.refl _ _) _) hb1) (.cells #[.bool true, .bool true, .bool false, .bool false, .bool false, .bool false, .bool false] 140); have X2 := X1.alloc (.cells #[.bool true, .bool true, .bool false, .bool false, .bool false, .bool false, .bool false] 140); obtain ⟨x0, x1, x2, x3, x4, x5, x6, x7, x8, x9, x10, x11, x12, x13⟩ := X2.cSt; have lx := X2.lt; have lx1 := X1.lt; have F2 := Whl.new w1 140 #[.bool true, .bool true, .bool false, .bool false, .bool false, .bool false, .bool false]; obtain ⟨y0, y1, y2, y3, y4, y5, y6⟩ := F2.c7; have ly := F2.lt)) | (go_at_call 101; ((with_reducible refine (zeroR x.a h.a _ hin.out.wf.a.name).mono ?_); rintro e w2 ⟨rfl, hb2⟩; have X3 := X2.below' hb2; have F3 := F2.below' hb2; have B2 := below_step B1 hb2; clear x0 x1 x2 x3 x4 x5 x6 x7 x8 x9 x10 x11 x12 x13 y0 y1 y2 y3 y4 y5 y6 lx ly; obtain ⟨x0, x1, x2, x3, x4, x5, x6, x7, x8, x9, x10, x11, x12, x13⟩ := X3.cSt; have lx := X3.lt; obtain ⟨y0, y1, y2, y3, y4, y5, y6⟩ := F3.c7; have ly := F3.lt)))
    go_ret
    exact ⟨by simp only [g2]; rfl, B2⟩
  · skip
    cases g3 : zeroE x.b
    · skip
      go_enter Tryz.func85, Tryz.ntmps85
      simp only [List.append_eq, List.cons_append, List.nil_append]
      go_wp2_with (first | (go_at_call 84; ((with_reducible refine (HC.out _).mono ?_); rintro e w1 ⟨rfl, hb1⟩; have X1 := (Whl.new w 42 (stC x h)).below' hb1; have B1 := below_alloc (below_step (below_alloc (Below.refl _ _) _) hb1) (.cells #[.bool true, .bool true, .bool false, .bool false, .bool false, .bool false, .bool false] 140); have X2 := X1.alloc (.cells #[.bool true, .bool true, .bool false, .bool false, .bool false, .bool false, .bool false] 140); obtain ⟨x0, x1, x2, x3, x4, x5, x6, x7, x8, x9, x10, x11, x12, x13⟩ := X2.cSt; have lx := X2.lt; have lx1 := X1.lt; have F2 := Whl.new w1 140 #[.bool true, .bool true, .bool false, .bool false, .bool false, .bool false, .bool false]; obtain ⟨y0, y1, y2, y3, y4, y5, y6⟩ := F2.c7; have ly := F2.lt)) | (go_at_call 101; ((with_reducible refine (zeroR x.a h.a _ hin.out.wf.a.name).mono ?_); rintro e w2 ⟨rfl, hb2⟩; have X3 := X2.below' hb2; have F3 := F2.below' hb2; have B2 := below_step B1 hb2; clear x0 x1 x2 x3 x4 x5 x6 x7 x8 x9 x10 x11 x12 x13 y0 y1 y2 y3 y4 y5 y6 lx ly; obtain ⟨x0, x1, x2, x3, x4, x5, x6, x7, x8, x9, x10, x11, x12, x13⟩ := X3.cSt; have lx := X3.lt; obtain ⟨y0, y1, y2, y3, y4, y5, y6⟩ := F3.c7; have ly := F3.lt)) | (go_at_call 101; ((with_reducible refine (zeroR x.b h.b _ hin.out.wf.b.name).mono ?_); rintro e w3 ⟨rfl, hb3⟩; have X4 := X3.below' hb3; have F4 := F3.below' hb3; have B3 := below_step B2 hb3; clear x0 x1 x2 x3 x4 x5 x6 x7 x8 x9 x10 x11 x12 x13 y0 y1 y2 y3 y4 y5 y6 lx ly; obtain ⟨x0, x1, x2, x3, x4, x5, x6, x7, x8, x9, x10, x11, x12, x13⟩ := X4.cSt; have lx := X4.lt; obtain ⟨y0, y1, y2, y3, y4, y5, y6⟩ := F4.c7; have ly := F4.lt)))
      go_ret
      exact ⟨by simp only [g2, g3]; rfl, B3⟩
    · skip
      cases g4 : (x.body.length == 0)
      · have f4 : ((x.body.length : Int) == 0) = false := (len0 x.body.length).trans g4
        go_enter Tryz.func85, Tryz.ntmps85
        simp only [List.append_eq, List.cons_append, List.nil_append]
        go_wp2_with (first | (go_at_call 84; ((with_reducible refine (HC.out _).mono ?_); rintro e w1 ⟨rfl, hb1⟩; have X1 := (Whl.new w 42 (stC x h)).below' hb1; have B1 := below_alloc (below_step (below_alloc (Below.refl _ _) _) hb1) (.cells #[.bool true, .bool true, .bool false, .bool false, .bool false, .bool false, .bool false] 140); have X2 := X1.alloc (.cells #[.bool true, .bool true, .bool false, .bool false, .bool false, .bool false, .bool false] 140); obtain ⟨x0, x1, x2, x3, x4, x5, x6, x7, x8, x9, x10, x11, x12, x13⟩ := X2.cSt; have lx := X2.lt; have lx1 := X1.lt; have F2 := Whl.new w1 140 #[.bool true, .bool true, .bool false, .bool false, .bool false, .bool false, .bool false]; obtain ⟨y0, y1, y2, y3, y4, y5, y6⟩ := F2.c7; have ly := F2.lt)) | (go_at_call 101; ((with_reducible refine (zeroR x.a h.a _ hin.out.wf.a.name).mono ?_); rintro e w2 ⟨rfl, hb2⟩; have X3 := X2.below' hb2; have F3 := F2.below' hb2; have B2 := below_step B1 hb2; clear x0 x1 x2 x3 x4 x5 x6 x7 x8 x9 x10 x11 x12 x13 y0 y1 y2 y3 y4 y5 y6 lx ly; obtain ⟨x0, x1, x2, x3, x4, x5, x6, x7, x8, x9, x10, x11, x12, x13⟩ := X3.cSt; have lx := X3.lt; obtain ⟨y0, y1, y2, y3, y4, y5, y6⟩ := F3.c7; have ly := F3.lt)) | (go_at_call 101; ((with_reducible refine (zeroR x.b h.b _ hin.out.wf.b.name).mono ?_); rintro e w3 ⟨rfl, hb3⟩; have X4 := X3.below' hb3; have F4 := F3.below' hb3; have B3 := below_step B2 hb3; clear x0 x1 x2 x3 x4 x5 x6 x7 x8 x9 x10 x11 x12 x13 y0 y1 y2 y3 y4 y5 y6 lx ly; obtain ⟨x0, x1, x2, x3, x4, x5, x6, x7, x8, x9, x10, x11, x12, x13⟩ := X4.cSt; have lx := X4.lt; obtain ⟨y0, y1, y2, y3, y4, y5, y6⟩ := F4.c7; have ly := F4.lt)))
        go_ret
        exact ⟨by simp only [g2, g3, g4]; rfl, B3⟩
      · have f4 : ((x.body.length : Int) == 0) = true := (len0 x.body.length).trans g4
        cases g5 : (x.els.length == 0)
        · have f5 : ((x.els.length : Int) == 0) = false := (len0 x.els.length).trans g5
          go_enter Tryz.func85, Tryz.ntmps85
          simp only [List.append_eq, List.cons_append, List.nil_append]
          go_wp2_with (first | (go_at_call 84; ((with_reducible refine (HC.out _).mono ?_); rintro e w1 ⟨rfl, hb1⟩; have X1 := (Whl.new w 42 (stC x h)).below' hb1; have B1 := below_alloc (below_step (below_alloc (Below.refl _ _) _) hb1) (.cells #[.bool true, .bool true, .bool false, .bool false, .bool false, .bool false, .bool false] 140); have X2 := X1.alloc (.cells #[.bool true, .bool true, .bool false, .bool false, .bool false, .bool false, .bool false] 140); obtain ⟨x0, x1, x2, x3, x4, x5, x6, x7, x8, x9, x10, x11, x12, x13⟩ := X2.cSt; have lx := X2.lt; have lx1 := X1.lt; have F2 := Whl.new w1 140 #[.bool true, .bool true, .bool false, .bool false, .bool false, .bool false, .bool false]; obtain ⟨y0, y1, y2, y3, y4, y5, y6⟩ := F2.c7; have ly := F2.lt)) | (go_at_call 101; ((with_reducible refine (zeroR x.a h.a _ hin.out.wf.a.name).mono ?_); rintro e w2 ⟨rfl, hb2⟩; have X3 := X2.below' hb2; have F3 := F2.below' hb2; have B2 := below_step B1 hb2; clear x0 x1 x2 x3 x4 x5 x6 x7 x8 x9 x10 x11 x12 x13 y0 y1 y2 y3 y4 y5 y6 lx ly; obtain ⟨x0, x1, x2, x3, x4, x5, x6, x7, x8, x9, x10, x11, x12, x13⟩ := X3.cSt; have lx := X3.lt; obtain ⟨y0, y1, y2, y3, y4, y5, y6⟩ := F3.c7; have ly := F3.lt)) | (go_at_call 101; ((with_reducible refine (zeroR x.b h.b _ hin.out.wf.b.name).mono ?_); rintro e w3 ⟨rfl, hb3⟩; have X4 := X3.below' hb3; have F4 := F3.below' hb3; have B3 := below_step B2 hb3; clear x0 x1 x2 x3 x4 x5 x6 x7 x8 x9 x10 x11 x12 x13 y0 y1 y2 y3 y4 y5 y6 lx ly; obtain ⟨x0, x1, x2, x3, x4, x5, x6, x7, x8, x9, x10, x11, x12, x13⟩ := X4.cSt; have lx := X4.lt; obtain ⟨y0, y1, y2, y3, y4, y5, y6⟩ := F4.c7; have ly := F4.lt)))
          go_ret
          exact ⟨by simp only [g2, g3, g4, g5]; rfl, B3⟩
        · have f5 : ((x.els.length : Int) == 0) = true := (len0 x.els.length).trans g5
          cases g6 : (x.cases.length == 0)
          · have f6 : ((x.cases.length : Int) == 0) = false := (len0 x.cases.length).trans g6
            go_enter Tryz.func85, Tryz.ntmps85
            simp only [List.append_eq, List.cons_append, List.nil_append]
            go_wp2_with (first | (go_at_call 84; ((with_reducible refine (HC.out _).mono ?_); rintro e w1 ⟨rfl, hb1⟩; have X1 := (Whl.new w 42 (stC x h)).below' hb1; have B1 := below_alloc (below_step (below_alloc (Below.refl _ _) _) hb1) (.cells #[.bool true, .bool true, .bool false, .bool false, .bool false, .bool false, .bool false] 140); have X2 := X1.alloc (.cells #[.bool true, .bool true, .bool false, .bool false, .bool false, .bool false, .bool false] 140); obtain ⟨x0, x1, x2, x3, x4, x5, x6, x7, x8, x9, x10, x11, x12, x13⟩ := X2.cSt; have lx := X2.lt; have lx1 := X1.lt; have F2 := Whl.new w1 140 #[.bool true, .bool true, .bool false, .bool false, .bool false, .bool false, .bool false]; obtain ⟨y0, y1, y2, y3, y4, y5, y6⟩ := F2.c7; have ly := F2.lt)) | (go_at_call 101; ((with_reducible refine (zeroR x.a h.a _ hin.out.wf.a.name).mono ?_); rintro e w2 ⟨rfl, hb2⟩; have X3 := X2.below' hb2; have F3 := F2.below' hb2; have B2 := below_step B1 hb2; clear x0 x1 x2 x3 x4 x5 x6 x7 x8 x9 x10 x11 x12 x13 y0 y1 y2 y3 y4 y5 y6 lx ly; obtain ⟨x0, x1, x2, x3, x4, x5, x6, x7, x8, x9, x10, x11, x12, x13⟩ := X3.cSt; have lx := X3.lt; obtain ⟨y0, y1, y2, y3, y4, y5, y6⟩ := F3.c7; have ly := F3.lt)) | (go_at_call 101; ((with_reducible refine (zeroR x.b h.b _ hin.out.wf.b.name).mono ?_); rintro e w3 ⟨rfl, hb3⟩; have X4 := X3.below' hb3; have F4 := F3.below' hb3; have B3 := below_step B2 hb3; clear x0 x1 x2 x3 x4 x5 x6 x7 x8 x9 x10 x11 x12 x13 y0 y1 y2 y3 y4 y5 y6 lx ly; obtain ⟨x0, x1, x2, x3, x4, x5, x6, x7, x8, x9, x10, x11, x12, x13⟩ := X4.cSt; have lx := X4.lt; obtain ⟨y0, y1, y2, y3, y4, y5, y6⟩ := F4.c7; have ly := F4.lt)))
            go_ret
            exact ⟨by simp only [g2, g3, g4, g5, g6]; rfl, B3⟩
          · have f6 : ((x.cases.length : Int) == 0) = true := (len0 x.cases.length).trans g6
            go_enter Tryz.func85, Tryz.ntmps85
            simp only [List.append_eq, List.cons_append, List.nil_append]
            go_wp2_with (first | (go_at_call 84; ((with_reducible refine (HC.out _).mono ?_); rintro e w1 ⟨rfl, hb1⟩; have X1 := (Whl.new w 42 (stC x h)).below' hb1; have B1 := below_alloc (below_step (below_alloc (Below.refl _ _) _) hb1) (.cells #[.bool true, .bool true, .bool false, .bool false, .bool false, .bool false, .bool false] 140); have X2 := X1.alloc (.cells #[.bool true, .bool true, .bool false, .bool false, .bool false, .bool false, .bool false] 140); obtain ⟨x0, x1, x2, x3, x4, x5, x6, x7, x8, x9, x10, x11, x12, x13⟩ := X2.cSt; have lx := X2.lt; have lx1 := X1.lt; have F2 := Whl.new w1 140 #[.bool true, .bool true, .bool false, .bool false, .bool false, .bool false, .bool false]; obtain ⟨y0, y1, y2, y3, y4, y5, y6⟩ := F2.c7; have ly := F2.lt)) | (go_at_call 101; ((with_reducible refine (zeroR x.a h.a _ hin.out.wf.a.name).mono ?_); rintro e w2 ⟨rfl, hb2⟩; have X3 := X2.below' hb2; have F3 := F2.below' hb2; have B2 := below_step B1 hb2; clear x0 x1 x2 x3 x4 x5 x6 x7 x8 x9 x10 x11 x12 x13 y0 y1 y2 y3 y4 y5 y6 lx ly; obtain ⟨x0, x1, x2, x3, x4, x5, x6, x7, x8, x9, x10, x11, x12, x13⟩ := X3.cSt; have lx := X3.lt; obtain ⟨y0, y1, y2, y3, y4, y5, y6⟩ := F3.c7; have ly := F3.lt)) | (go_at_call 101; ((with_reducible refine (zeroR x.b h.b _ hin.out.wf.b.name).mono ?_); rintro e w3 ⟨rfl, hb3⟩; have X4 := X3.below' hb3; have F4 := F3.below' hb3; have B3 := below_step B2 hb3; clear x0 x1 x2 x3 x4 x5 x6 x7 x8 x9 x10 x11 x12 x13 y0 y1 y2 y3 y4 y5 y6 lx ly; obtain ⟨x0, x1, x2, x3, x4, x5, x6, x7, x8, x9, x10, x11, x12, x13⟩ := X4.cSt; have lx := X4.lt; obtain ⟨y0, y1, y2, y3, y4, y5, y6⟩ := F4.c7; have ly := F4.lt)))
            go_ret
            exact ⟨by simp only [g2, g3, g4, g5, g6]; rfl, B3⟩
set_option maxRecDepth 100000 in
set_option maxHeartbeats 8000000 in
theorem form_2 (x : StD) (h : HdS) (q : Nat → Hd) (B : Nat) (w : World) (hin : StIn w B x h q) (hc : ∀ w, Calls Tryz.prog 84 #[.int .i64 x.kind] w fun e w' => e = .returned (.agg #[.bool true, .bool false, .bool true, .bool true, .bool false, .bool false, .bool false]) ∧ Below w.heap.size w w') (k1 : decide (1 ≤ x.kind) = true) (k2 : decide (x.kind ≤ 10) = true) :
    Calls Tryz.prog 85 #[.agg (stC x h)] w fun e w' => e = .returned (.bool ((x.n == 0) && (x.body.length == 0) && (x.els.length == 0) && (x.cases.length == 0))) ∧ Below w.heap.size w w' := by
  have HC := Lib.hid hc
  have hin := Lib.hid hin
  clear hc
  cases g1 : (x.n == 0)
  · skip
    go_enter Tryz.func85, Tryz.ntmps85
    simp only [List.append_eq, List.cons_append, List.nil_append]
    go_wp2_with (first | (go_at_call 84; ((with_reducible refine (HC.out _).mono ?_); rintro e w1 ⟨rfl, hb1⟩; have X1 := (Whl.new w 42 (stC x h)).below' hb1; have B1 := below_alloc (below_step (below_alloc (Below.refl _ _) _) hb1) (.cells #[.bool true, .bool false, .bool true, .bool true, .bool false, .bool false, .bool false] 140); have X2 := X1.alloc (.cells #[.bool true, .bool false, .bool true, .bool true, .bool false, .bool false, .bool false] 140); obtain ⟨x0, x1, x2, x3, x4, x5, x6, x7, x8, x9, x10, x11, x12, x13⟩ := X2.cSt; have lx := X2.lt; have lx1 := X1.lt; have F2 := Whl.new w1 140 #[.bool true, .bool false, .bool true, .bool true, .bool false, .bool false, .bool false]; obtain ⟨y0, y1, y2, y3, y4, y5, y6⟩ := F2.c7; have ly := F2.lt)))
    go_ret
    exact ⟨by simp only [g1]; rfl, B1⟩
  · skip
    cases g4 : (x.body.length == 0)
    · have f4 : ((x.body.length : Int) == 0) = false := (len0 x.body.length).trans g4
      go_enter Tryz.func85, Tryz.ntmps85
      simp only [List.append_eq, List.cons_append, List.nil_append]
      go_wp2_with (first | (go_at_call 84; ((with_reducible refine (HC.out _).mono ?_); rintro e w1 ⟨rfl, hb1⟩; have X1 := (Whl.new w 42 (stC x h)).below' hb1; have B1 := below_alloc (below_step (below_alloc (Below.refl _ _) _) hb1) (.cells #[.bool true, .bool false, .bool true, .bool true, .bool false, .bool false, .bool false] 140); have X2 := X1.alloc (.cells #[.bool true, .bool false, .bool true, .bool true, .bool false, .bool false, .bool false] 140); obtain ⟨x0, x1, x2, x3, x4, x5, x6, x7, x8, x9, x10, x11, x12, x13⟩ := X2.cSt; have lx := X2.lt; have lx1 := X1.lt; have F2 := Whl.new w1 140 #[.bool true, .bool false, .bool true, .bool true, .bool false, .bool false, .bool false]; obtain ⟨y0, y1, y2, y3, y4, y5, y6⟩ := F2.c7; have ly := F2.lt)))
      go_ret
      exact ⟨by simp only [g1, g4]; rfl, B1⟩
    · have f4 : ((x.body.length : Int) == 0) = true := (len0 x.body.length).trans g4
      cases g5 : (x.els.length == 0)
      · have f5 : ((x.els.length : Int) == 0) = false := (len0 x.els.length).trans g5
        go_enter Tryz.func85, Tryz.ntmps85
        simp only [List.append_eq, List.cons_append, List.nil_append]
        go_wp2_with (first | (go_at_call 84; ((with_reducible refine (HC.out _).mono ?_); rintro e w1 ⟨rfl, hb1⟩; have X1 := (Whl.new w 42 (stC x h)).below' hb1; have B1 := below_alloc (below_step (below_alloc (Below.refl _ _) _) hb1) (.cells #[.bool true, .bool false, .bool true, .bool true, .bool false, .bool false, .bool false] 140); have X2 := X1.alloc (.cells #[.bool true, .bool false, .bool true, .bool true, .bool false, .bool false, .bool false] 140); obtain ⟨x0, x1, x2, x3, x4, x5, x6, x7, x8, x9, x10, x11, x12, x13⟩ := X2.cSt; have lx := X2.lt; have lx1 := X1.lt; have F2 := Whl.new w1 140 #[.bool true, .bool false, .bool true, .bool true, .bool false, .bool false, .bool false]; obtain ⟨y0, y1, y2, y3, y4, y5, y6⟩ := F2.c7; have ly := F2.lt)))
        go_ret
        exact ⟨by simp only [g1, g4, g5]; rfl, B1⟩
      · have f5 : ((x.els.length : Int) == 0) = true := (len0 x.els.length).trans g5
        cases g6 : (x.cases.length == 0)
        · have f6 : ((x.cases.length : Int) == 0) = false := (len0 x.cases.length).trans g6
          go_enter Tryz.func85, Tryz.ntmps85
          simp only [List.append_eq, List.cons_append, List.nil_append]
          go_wp2_with (first | (go_at_call 84; ((with_reducible refine (HC.out _).mono ?_); rintro e w1 ⟨rfl, hb1⟩; have X1 := (Whl.new w 42 (stC x h)).below' hb1; have B1 := below_alloc (below_step (below_alloc (Below.refl _ _) _) hb1) (.cells #[.bool true, .bool false, .bool true, .bool true, .bool false, .bool false, .bool false] 140); have X2 := X1.alloc (.cells #[.bool true, .bool false, .bool true, .bool true, .bool false, .bool false, .bool false] 140); obtain ⟨x0, x1, x2, x3, x4, x5, x6, x7, x8, x9, x10, x11, x12, x13⟩ := X2.cSt; have lx := X2.lt; have lx1 := X1.lt; have F2 := Whl.new w1 140 #[.bool true, .bool false, .bool true, .bool true, .bool false, .bool false, .bool false]; obtain ⟨y0, y1, y2, y3, y4, y5, y6⟩ := F2.c7; have ly := F2.lt)))
          go_ret
          exact ⟨by simp only [g1, g4, g5, g6]; rfl, B1⟩
        · have f6 : ((x.cases.length : Int) == 0) = true := (len0 x.cases.length).trans g6
          go_enter Tryz.func85, Tryz.ntmps85
          simp only [List.append_eq, List.cons_append, List.nil_append]
          go_wp2_with (first | (go_at_call 84; ((with_reducible refine (HC.out _).mono ?_); rintro e w1 ⟨rfl, hb1⟩; have X1 := (Whl.new w 42 (stC x h)).below' hb1; have B1 := below_alloc (below_step (below_alloc (Below.refl _ _) _) hb1) (.cells #[.bool true, .bool false, .bool true, .bool true, .bool false, .bool false, .bool false] 140); have X2 := X1.alloc (.cells #[.bool true, .bool false, .bool true, .bool true, .bool false, .bool false, .bool false] 140); obtain ⟨x0, x1, x2, x3, x4, x5, x6, x7, x8, x9, x10, x11, x12, x13⟩ := X2.cSt; have lx := X2.lt; have lx1 := X1.lt; have F2 := Whl.new w1 140 #[.bool true, .bool false, .bool true, .bool true, .bool false, .bool false, .bool false]; obtain ⟨y0, y1, y2, y3, y4, y5, y6⟩ := F2.c7; have ly := F2.lt)))
          go_ret
          exact ⟨by simp only [g1, g4, g5, g6]; rfl, B1⟩
set_option maxRecDepth 100000 in
set_option maxHeartbeats 8000000 in
theorem form_3 (x : StD) (h : HdS) (q : Nat → Hd) (B : Nat) (w : World) (hin : StIn w B x h q) (hc : ∀ w, Calls Tryz.prog 84 #[.int .i64 x.kind] w fun e w' => e = .returned (.agg #[.bool false, .bool false, .bool true, .bool false, .bool true, .bool true, .bool false]) ∧ Below w.heap.size w w') (k1 : decide (1 ≤ x.kind) = true) (k2 : decide (x.kind ≤ 10) = true) :
    Calls Tryz.prog 85 #[.agg (stC x h)] w fun e w' => e = .returned (.bool ((x.name.size == 0) && (x.n == 0) && zeroE x.b && (x.cases.length == 0))) ∧ Below w.heap.size w w' := by
  have HC := Lib.hid hc
  have hin := Lib.hid hin
  clear hc
  cases g0 : (x.name.size == 0)
  · have f0 : (x.name.toList == []) = false := nil_list.trans g0
    go_enter Tryz.func85, Tryz.ntmps85
    simp only [List.append_eq, List.cons_append, List.nil_append]
    go_wp2_with (first | (go_at_call 84; ((with_reducible refine (HC.out _).mono ?_); rintro e w1 ⟨rfl, hb1⟩; have X1 := (Whl.new w 42 (stC x h)).below' hb1; have B1 := below_alloc (below_step (below_alloc (Below.refl _ _) _) hb1) (.cells #[.bool false, .bool false, .bool true, .bool false, .bool true, .bool true, .bool false] 140); have X2 := X1.alloc (.cells #[.bool false, .bool false, .bool true, .bool false, .bool true, .bool true, .bool false] 140); obtain ⟨x0, x1, x2, x3, x4, x5, x6, x7, x8, x9, x10, x11, x12, x13⟩ := X2.cSt; have lx := X2.lt; have lx1 := X1.lt; have F2 := Whl.new w1 140 #[.bool false, .bool false, .bool true, .bool false, .bool true, .bool true, .bool false]; obtain ⟨y0, y1, y2, y3, y4, y5, y6⟩ := F2.c7; have ly := F2.lt)))
    go_ret
    exact ⟨by simp only [g0]; rfl, B1⟩
  · have f0 : (x.name.toList == []) = true := nil_list.trans g0
    cases g1 : (x.n == 0)
    · skip
      go_enter Tryz.func85, Tryz.ntmps85
      simp only [List.append_eq, List.cons_append, List.nil_append]
      go_wp2_with (first | (go_at_call 84; ((with_reducible refine (HC.out _).mono ?_); rintro e w1 ⟨rfl, hb1⟩; have X1 := (Whl.new w 42 (stC x h)).below' hb1; have B1 := below_alloc (below_step (below_alloc (Below.refl _ _) _) hb1) (.cells #[.bool false, .bool false, .bool true, .bool false, .bool true, .bool true, .bool false] 140); have X2 := X1.alloc (.cells #[.bool false, .bool false, .bool true, .bool false, .bool true, .bool true, .bool false] 140); obtain ⟨x0, x1, x2, x3, x4, x5, x6, x7, x8, x9, x10, x11, x12, x13⟩ := X2.cSt; have lx := X2.lt; have lx1 := X1.lt; have F2 := Whl.new w1 140 #[.bool false, .bool false, .bool true, .bool false, .bool true, .bool true, .bool false]; obtain ⟨y0, y1, y2, y3, y4, y5, y6⟩ := F2.c7; have ly := F2.lt)))
      go_ret
      exact ⟨by simp only [g0, g1]; rfl, B1⟩
    · skip
      cases g3 : zeroE x.b
      · skip
        go_enter Tryz.func85, Tryz.ntmps85
        simp only [List.append_eq, List.cons_append, List.nil_append]
        go_wp2_with (first | (go_at_call 84; ((with_reducible refine (HC.out _).mono ?_); rintro e w1 ⟨rfl, hb1⟩; have X1 := (Whl.new w 42 (stC x h)).below' hb1; have B1 := below_alloc (below_step (below_alloc (Below.refl _ _) _) hb1) (.cells #[.bool false, .bool false, .bool true, .bool false, .bool true, .bool true, .bool false] 140); have X2 := X1.alloc (.cells #[.bool false, .bool false, .bool true, .bool false, .bool true, .bool true, .bool false] 140); obtain ⟨x0, x1, x2, x3, x4, x5, x6, x7, x8, x9, x10, x11, x12, x13⟩ := X2.cSt; have lx := X2.lt; have lx1 := X1.lt; have F2 := Whl.new w1 140 #[.bool false, .bool false, .bool true, .bool false, .bool true, .bool true, .bool false]; obtain ⟨y0, y1, y2, y3, y4, y5, y6⟩ := F2.c7; have ly := F2.lt)) | (go_at_call 101; ((with_reducible refine (zeroR x.b h.b _ hin.out.wf.b.name).mono ?_); rintro e w2 ⟨rfl, hb2⟩; have X3 := X2.below' hb2; have F3 := F2.below' hb2; have B2 := below_step B1 hb2; clear x0 x1 x2 x3 x4 x5 x6 x7 x8 x9 x10 x11 x12 x13 y0 y1 y2 y3 y4 y5 y6 lx ly; obtain ⟨x0, x1, x2, x3, x4, x5, x6, x7, x8, x9, x10, x11, x12, x13⟩ := X3.cSt; have lx := X3.lt; obtain ⟨y0, y1, y2, y3, y4, y5, y6⟩ := F3.c7; have ly := F3.lt)))
        go_ret
        exact ⟨by simp only [g0, g1, g3]; rfl, B2⟩
      · skip
        cases g6 : (x.cases.length == 0)
        · have f6 : ((x.cases.length : Int) == 0) = false := (len0 x.cases.length).trans g6
          go_enter Tryz.func85, Tryz.ntmps85
          simp only [List.append_eq, List.cons_append, List.nil_append]
          go_wp2_with (first | (go_at_call 84; ((with_reducible refine (HC.out _).mono ?_); rintro e w1 ⟨rfl, hb1⟩; have X1 := (Whl.new w 42 (stC x h)).below' hb1; have B1 := below_alloc (below_step (below_alloc (Below.refl _ _) _) hb1) (.cells #[.bool false, .bool false, .bool true, .bool false, .bool true, .bool true, .bool false] 140); have X2 := X1.alloc (.cells #[.bool false, .bool false, .bool true, .bool false, .bool true, .bool true, .bool false] 140); obtain ⟨x0, x1, x2, x3, x4, x5, x6, x7, x8, x9, x10, x11, x12, x13⟩ := X2.cSt; have lx := X2.lt; have lx1 := X1.lt; have F2 := Whl.new w1 140 #[.bool false, .bool false, .bool true, .bool false, .bool true, .bool true, .bool false]; obtain ⟨y0, y1, y2, y3, y4, y5, y6⟩ := F2.c7; have ly := F2.lt)) | (go_at_call 101; ((with_reducible refine (zeroR x.b h.b _ hin.out.wf.b.name).mono ?_); rintro e w2 ⟨rfl, hb2⟩; have X3 := X2.below' hb2; have F3 := F2.below' hb2; have B2 := below_step B1 hb2; clear x0 x1 x2 x3 x4 x5 x6 x7 x8 x9 x10 x11 x12 x13 y0 y1 y2 y3 y4 y5 y6 lx ly; obtain ⟨x0, x1, x2, x3, x4, x5, x6, x7, x8, x9, x10, x11, x12, x13⟩ := X3.cSt; have lx := X3.lt; obtain ⟨y0, y1, y2, y3, y4, y5, y6⟩ := F3.c7; have ly := F3.lt)))
          go_ret
          exact ⟨by simp only [g0, g1, g3, g6]; rfl, B2⟩
        · have f6 : ((x.cases.length : Int) == 0) = true := (len0 x.cases.length).trans g6
          go_enter Tryz.func85, Tryz.ntmps85
          simp only [List.append_eq, List.cons_append, List.nil_append]
          go_wp2_with (first | (go_at_call 84; ((with_reducible refine (HC.out _).mono ?_); rintro e w1 ⟨rfl, hb1⟩; have X1 := (Whl.new w 42 (stC x h)).below' hb1; have B1 := below_alloc (below_step (below_alloc (Below.refl _ _) _) hb1) (.cells #[.bool false, .bool false, .bool true, .bool false, .bool true, .bool true, .bool false] 140); have X2 := X1.alloc (.cells #[.bool false, .bool false, .bool true, .bool false, .bool true, .bool true, .bool false] 140); obtain ⟨x0, x1, x2, x3, x4, x5, x6, x7, x8, x9, x10, x11, x12, x13⟩ := X2.cSt; have lx := X2.lt; have lx1 := X1.lt; have F2 := Whl.new w1 140 #[.bool false, .bool false, .bool true, .bool false, .bool true, .bool true, .bool false]; obtain ⟨y0, y1, y2, y3, y4, y5, y6⟩ := F2.c7; have ly := F2.lt)) | (go_at_call 101; ((with_reducible refine (zeroR x.b h.b _ hin.out.wf.b.name).mono ?_); rintro e w2 ⟨rfl, hb2⟩; have X3 := X2.below' hb2; have F3 := F2.below' hb2; have B2 := below_step B1 hb2; clear x0 x1 x2 x3 x4 x5 x6 x7 x8 x9 x10 x11 x12 x13 y0 y1 y2 y3 y4 y5 y6 lx ly; obtain ⟨x0, x1, x2, x3, x4, x5, x6, x7, x8, x9, x10, x11, x12, x13⟩ := X3.cSt; have lx := X3.lt; obtain ⟨y0, y1, y2, y3, y4, y5, y6⟩ := F3.c7; have ly := F3.lt)))
          go_ret
          exact ⟨by simp only [g0, g1, g3, g6]; rfl, B2⟩
set_option maxRecDepth 100000 in
set_option maxHeartbeats 8000000 in
theorem form_4 (x : StD) (h : HdS) (q : Nat → Hd) (B : Nat) (w : World) (hin : StIn w B x h q) (hc : ∀ w, Calls Tryz.prog 84 #[.int .i64 x.kind] w fun e w' => e = .returned (.agg #[.bool false, .bool false, .bool true, .bool false, .bool false, .bool true, .bool true]) ∧ Below w.heap.size w w') (k1 : decide (1 ≤ x.kind) = true) (k2 : decide (x.kind ≤ 10) = true) :
    Calls Tryz.prog 85 #[.agg (stC x h)] w fun e w' => e = .returned (.bool ((x.name.size == 0) && (x.n == 0) && zeroE x.b && (x.body.length == 0))) ∧ Below w.heap.size w w' := by
  have HC := Lib.hid hc
  have hin := Lib.hid hin
  clear hc
  cases g0 : (x.name.size == 0)
  · have f0 : (x.name.toList == []) = false := nil_list.trans g0
    go_enter Tryz.func85, Tryz.ntmps85
    simp only [List.append_eq, List.cons_append, List.nil_append]
    go_wp2_with (first | (go_at_call 84; ((with_reducible refine (HC.out _).mono ?_); rintro e w1 ⟨rfl, hb1⟩; have X1 := (Whl.new w 42 (stC x h)).below' hb1; have B1 := below_alloc (below_step (below_alloc (Below.refl _ _) _) hb1) (.cells #[.bool false, .bool false, .bool true, .bool false, .bool false, .bool true, .bool true] 140); have X2 := X1.alloc (.cells #[.bool false, .bool false, .bool true, .bool false, .bool false, .bool true, .bool true] 140); obtain ⟨x0, x1, x2, x3, x4, x5, x6, x7, x8, x9, x10, x11, x12, x13⟩ := X2.cSt; have lx := X2.lt; have lx1 := X1.lt; have F2 := Whl.new w1 140 #[.bool false, .bool false, .bool true, .bool false, .bool false, .bool true, .bool true]; obtain ⟨y0, y1, y2, y3, y4, y5, y6⟩ := F2.c7; have ly := F2.lt)))
    go_ret
    exact ⟨by simp only [g0]; rfl, B1⟩
  · have f0 : (x.name.toList == []) = true := nil_list.trans g0
    cases g1 : (x.n == 0)
    · skip
      go_enter Tryz.func85, Tryz.ntmps85
      simp only [List.append_eq, List.cons_append, List.nil_append]
      go_wp2_with (first | (go_at_call 84; ((with_reducible refine (HC.out _).mono ?_); rintro e w1 ⟨rfl, hb1⟩; have X1 := (Whl.new w 42 (stC x h)).below' hb1; have B1 := below_alloc (below_step (below_alloc (Below.refl _ _) _) hb1) (.cells #[.bool false, .bool false, .bool true, .bool false, .bool false, .bool true, .bool true] 140); have X2 := X1.alloc (.cells #[.bool false, .bool false, .bool true, .bool false, .bool false, .bool true, .bool true] 140); obtain ⟨x0, x1, x2, x3, x4, x5, x6, x7, x8, x9, x10, x11, x12, x13⟩ := X2.cSt; have lx := X2.lt; have lx1 := X1.lt; have F2 := Whl.new w1 140 #[.bool false, .bool false, .bool true, .bool false, .bool false, .bool true, .bool true]; obtain ⟨y0, y1, y2, y3, y4, y5, y6⟩ := F2.c7; have ly := F2.lt)))
      go_ret
      exact ⟨by simp only [g0, g1]; rfl, B1⟩
    · skip
      cases g3 : zeroE x.b
      · skip
        go_enter Tryz.func85, Tryz.ntmps85
        simp only [List.append_eq, List.cons_append, List.nil_append]
        go_wp2_with (first | (go_at_call 84; ((with_reducible refine (HC.out _).mono ?_); rintro e w1 ⟨rfl, hb1⟩; have X1 := (Whl.new w 42 (stC x h)).below' hb1; have B1 := below_alloc (below_step (below_alloc (Below.refl _ _) _) hb1) (.cells #[.bool false, .bool false, .bool true, .bool false, .bool false, .bool true, .bool true] 140); have X2 := X1.alloc (.cells #[.bool false, .bool false, .bool true, .bool false, .bool false, .bool true, .bool true] 140); obtain ⟨x0, x1, x2, x3, x4, x5, x6, x7, x8, x9, x10, x11, x12, x13⟩ := X2.cSt; have lx := X2.lt; have lx1 := X1.lt; have F2 := Whl.new w1 140 #[.bool false, .bool false, .bool true, .bool false, .bool false, .bool true, .bool true]; obtain ⟨y0, y1, y2, y3, y4, y5, y6⟩ := F2.c7; have ly := F2.lt)) | (go_at_call 101; ((with_reducible refine (zeroR x.b h.b _ hin.out.wf.b.name).mono ?_); rintro e w2 ⟨rfl, hb2⟩; have X3 := X2.below' hb2; have F3 := F2.below' hb2; have B2 := below_step B1 hb2; clear x0 x1 x2 x3 x4 x5 x6 x7 x8 x9 x10 x11 x12 x13 y0 y1 y2 y3 y4 y5 y6 lx ly; obtain ⟨x0, x1, x2, x3, x4, x5, x6, x7, x8, x9, x10, x11, x12, x13⟩ := X3.cSt; have lx := X3.lt; obtain ⟨y0, y1, y2, y3, y4, y5, y6⟩ := F3.c7; have ly := F3.lt)))
        go_ret
        exact ⟨by simp only [g0, g1, g3]; rfl, B2⟩
      · skip
        cases g4 : (x.body.length == 0)
        · have f4 : ((x.body.length : Int) == 0) = false := (len0 x.body.length).trans g4
          go_enter Tryz.func85, Tryz.ntmps85
          simp only [List.append_eq, List.cons_append, List.nil_append]
          go_wp2_with (first | (go_at_call 84; ((with_reducible refine (HC.out _).mono ?_); rintro e w1 ⟨rfl, hb1⟩; have X1 := (Whl.new w 42 (stC x h)).below' hb1; have B1 := below_alloc (below_step (below_alloc (Below.refl _ _) _) hb1) (.cells #[.bool false, .bool false, .bool true, .bool false, .bool false, .bool true, .bool true] 140); have X2 := X1.alloc (.cells #[.bool false, .bool false, .bool true, .bool false, .bool false, .bool true, .bool true] 140); obtain ⟨x0, x1, x2, x3, x4, x5, x6, x7, x8, x9, x10, x11, x12, x13⟩ := X2.cSt; have lx := X2.lt; have lx1 := X1.lt; have F2 := Whl.new w1 140 #[.bool false, .bool false, .bool true, .bool false, .bool false, .bool true, .bool true]; obtain ⟨y0, y1, y2, y3, y4, y5, y6⟩ := F2.c7; have ly := F2.lt)) | (go_at_call 101; ((with_reducible refine (zeroR x.b h.b _ hin.out.wf.b.name).mono ?_); rintro e w2 ⟨rfl, hb2⟩; have X3 := X2.below' hb2; have F3 := F2.below' hb2; have B2 := below_step B1 hb2; clear x0 x1 x2 x3 x4 x5 x6 x7 x8 x9 x10 x11 x12 x13 y0 y1 y2 y3 y4 y5 y6 lx ly; obtain ⟨x0, x1, x2, x3, x4, x5, x6, x7, x8, x9, x10, x11, x12, x13⟩ := X3.cSt; have lx := X3.lt; obtain ⟨y0, y1, y2, y3, y4, y5, y6⟩ := F3.c7; have ly := F3.lt)))
          go_ret
          exact ⟨by simp only [g0, g1, g3, g4]; rfl, B2⟩
        · have f4 : ((x.body.length : Int) == 0) = true := (len0 x.body.length).trans g4
          go_enter Tryz.func85, Tryz.ntmps85
          simp only [List.append_eq, List.cons_append, List.nil_append]
          go_wp2_with (first | (go_at_call 84; ((with_reducible refine (HC.out _).mono ?_); rintro e w1 ⟨rfl, hb1⟩; have X1 := (Whl.new w 42 (stC x h)).below' hb1; have B1 := below_alloc (below_step (below_alloc (Below.refl _ _) _) hb1) (.cells #[.bool false, .bool false, .bool true, .bool false, .bool false, .bool true, .bool true] 140); have X2 := X1.alloc (.cells #[.bool false, .bool false, .bool true, .bool false, .bool false, .bool true, .bool true] 140); obtain ⟨x0, x1, x2, x3, x4, x5, x6, x7, x8, x9, x10, x11, x12, x13⟩ := X2.cSt; have lx := X2.lt; have lx1 := X1.lt; have F2 := Whl.new w1 140 #[.bool false, .bool false, .bool true, .bool false, .bool false, .bool true, .bool true]; obtain ⟨y0, y1, y2, y3, y4, y5, y6⟩ := F2.c7; have ly := F2.lt)) | (go_at_call 101; ((with_reducible refine (zeroR x.b h.b _ hin.out.wf.b.name).mono ?_); rintro e w2 ⟨rfl, hb2⟩; have X3 := X2.below' hb2; have F3 := F2.below' hb2; have B2 := below_step B1 hb2; clear x0 x1 x2 x3 x4 x5 x6 x7 x8 x9 x10 x11 x12 x13 y0 y1 y2 y3 y4 y5 y6 lx ly; obtain ⟨x0, x1, x2, x3, x4, x5, x6, x7, x8, x9, x10, x11, x12, x13⟩ := X3.cSt; have lx := X3.lt; obtain ⟨y0, y1, y2, y3, y4, y5, y6⟩ := F3.c7; have ly := F3.lt)))
          go_ret
          exact ⟨by simp only [g0, g1, g3, g4]; rfl, B2⟩
set_option maxRecDepth 100000 in
set_option maxHeartbeats 8000000 in
theorem form_5 (x : StD) (h : HdS) (q : Nat → Hd) (B : Nat) (w : World) (hin : StIn w B x h q) (hc : ∀ w, Calls Tryz.prog 84 #[.int .i64 x.kind] w fun e w' => e = .returned (.agg #[.bool true, .bool false, .bool true, .bool true, .bool true, .bool false, .bool false]) ∧ Below w.heap.size w w') (k1 : decide (1 ≤ x.kind) = true) (k2 : decide (x.kind ≤ 10) = true) :
    Calls Tryz.prog 85 #[.agg (stC x h)] w fun e w' => e = .returned (.bool ((x.n == 0) && (x.els.length == 0) && (x.cases.length == 0))) ∧ Below w.heap.size w w' := by
  have HC := Lib.hid hc
  have hin := Lib.hid hin
  clear hc
  cases g1 : (x.n == 0)
  · skip
    go_enter Tryz.func85, Tryz.ntmps85
    simp only [List.append_eq, List.cons_append, List.nil_append]
    go_wp2_with (first | (go_at_call 84; ((with_reducible refine (HC.out _).mono ?_); rintro e w1 ⟨rfl, hb1⟩; have X1 := (Whl.new w 42 (stC x h)).below' hb1; have B1 := below_alloc (below_step (below_alloc (Below.refl _ _) _) hb1) (.cells #[.bool true, .bool false, .bool true, .bool true, .bool true, .bool false, .bool false] 140); have X2 := X1.alloc (.cells #[.bool true, .bool false, .bool true, .bool true, .bool true, .bool false, .bool false] 140); obtain ⟨x0, x1, x2, x3, x4, x5, x6, x7, x8, x9, x10, x11, x12, x13⟩ := X2.cSt; have lx := X2.lt; have lx1 := X1.lt; have F2 := Whl.new w1 140 #[.bool true, .bool false, .bool true, .bool true, .bool true, .bool false, .bool false]; obtain ⟨y0, y1, y2, y3, y4, y5, y6⟩ := F2.c7; have ly := F2.lt)))
    go_ret
    exact ⟨by simp only [g1]; rfl, B1⟩
  · skip
    cases g5 : (x.els.length == 0)
    · have f5 : ((x.els.length : Int) == 0) = false := (len0 x.els.length).trans g5
      go_enter Tryz.func85, Tryz.ntmps85
      simp only [List.append_eq, List.cons_append, List.nil_append]
      go_wp2_with (first | (go_at_call 84; ((with_reducible refine (HC.out _).mono ?_); rintro e w1 ⟨rfl, hb1⟩; have X1 := (Whl.new w 42 (stC x h)).below' hb1; have B1 := below_alloc (below_step (below_alloc (Below.refl _ _) _) hb1) (.cells #[.bool true, .bool false, .bool true, .bool true, .bool true, .bool false, .bool false] 140); have X2 := X1.alloc (.cells #[.bool true, .bool false, .bool true, .bool true, .bool true, .bool false, .bool false] 140); obtain ⟨x0, x1, x2, x3, x4, x5, x6, x7, x8, x9, x10, x11, x12, x13⟩ := X2.cSt; have lx := X2.lt; have lx1 := X1.lt; have F2 := Whl.new w1 140 #[.bool true, .bool false, .bool true, .bool true, .bool true, .bool false, .bool false]; obtain ⟨y0, y1, y2, y3, y4, y5, y6⟩ := F2.c7; have ly := F2.lt)))
      go_ret
      exact ⟨by simp only [g1, g5]; rfl, B1⟩
    · have f5 : ((x.els.length : Int) == 0) = true := (len0 x.els.length).trans g5
      cases g6 : (x.cases.length == 0)
      · have f6 : ((x.cases.length : Int) == 0) = false := (len0 x.cases.length).trans g6
        go_enter Tryz.func85, Tryz.ntmps85
        simp only [List.append_eq, List.cons_append, List.nil_append]
        go_wp2_with (first | (go_at_call 84; ((with_reducible refine (HC.out _).mono ?_); rintro e w1 ⟨rfl, hb1⟩; have X1 := (Whl.new w 42 (stC x h)).below' hb1; have B1 := below_alloc (below_step (below_alloc (Below.refl _ _) _) hb1) (.cells #[.bool true, .bool false, .bool true, .bool true, .bool true, .bool false, .bool false] 140); have X2 := X1.alloc (.cells #[.bool true, .bool false, .bool true, .bool true, .bool true, .bool false, .bool false] 140); obtain ⟨x0, x1, x2, x3, x4, x5, x6, x7, x8, x9, x10, x11, x12, x13⟩ := X2.cSt; have lx := X2.lt; have lx1 := X1.lt; have F2 := Whl.new w1 140 #[.bool true, .bool false, .bool true, .bool true, .bool true, .bool false, .bool false]; obtain ⟨y0, y1, y2, y3, y4, y5, y6⟩ := F2.c7; have ly := F2.lt)))
        go_ret
        exact ⟨by simp only [g1, g5, g6]; rfl, B1⟩
      · have f6 : ((x.cases.length : Int) == 0) = true := (len0 x.cases.length).trans g6
        go_enter Tryz.func85, Tryz.ntmps85
        simp only [List.append_eq, List.cons_append, List.nil_append]
        go_wp2_with (first | (go_at_call 84; ((with_reducible refine (HC.out _).mono ?_); rintro e w1 ⟨rfl, hb1⟩; have X1 := (Whl.new w 42 (stC x h)).below' hb1; have B1 := below_alloc (below_step (below_alloc (Below.refl _ _) _) hb1) (.cells #[.bool true, .bool false, .bool true, .bool true, .bool true, .bool false, .bool false] 140); have X2 := X1.alloc (.cells #[.bool true, .bool false, .bool true, .bool true, .bool true, .bool false, .bool false] 140); obtain ⟨x0, x1, x2, x3, x4, x5, x6, x7, x8, x9, x10, x11, x12, x13⟩ := X2.cSt; have lx := X2.lt; have lx1 := X1.lt; have F2 := Whl.new w1 140 #[.bool true, .bool false, .bool true, .bool true, .bool true, .bool false, .bool false]; obtain ⟨y0, y1, y2, y3, y4, y5, y6⟩ := F2.c7; have ly := F2.lt)))
        go_ret
        exact ⟨by simp only [g1, g5, g6]; rfl, B1⟩
set_option maxRecDepth 100000 in
set_option maxHeartbeats 8000000 in
theorem form_6 (x : StD) (h : HdS) (q : Nat → Hd) (B : Nat) (w : World) (hin : StIn w B x h q) (hc : ∀ w, Calls Tryz.prog 84 #[.int .i64 x.kind] w fun e w' => e = .returned (.agg #[.bool false, .bool false, .bool false, .bool false, .bool false, .bool false, .bool false]) ∧ Below w.heap.size w w') (k1 : decide (1 ≤ x.kind) = true) (k2 : decide (x.kind ≤ 10) = true) :
    Calls Tryz.prog 85 #[.agg (stC x h)] w fun e w' => e = .returned (.bool ((x.name.size == 0) && (x.n == 0) && zeroE x.a && zeroE x.b && (x.body.length == 0) && (x.els.length == 0) && (x.cases.length == 0))) ∧ Below w.heap.size w w' := by
  have HC := Lib.hid hc
  have hin := Lib.hid hin
  clear hc
  cases g0 : (x.name.size == 0)
  · have f0 : (x.name.toList == []) = false := nil_list.trans g0
    go_enter Tryz.func85, Tryz.ntmps85
    simp only [List.append_eq, List.cons_append, List.nil_append]
    go_wp2_with (first | (go_at_call 84; ((with_reducible refine (HC.out _).mono ?_); rintro e w1 ⟨rfl, hb1⟩; have X1 := (Whl.new w 42 (stC x h)).below' hb1; have B1 := below_alloc (below_step (below_alloc (Below.refl _ _) _) hb1) (.cells #[.bool false, .bool false, .bool false, .bool false, .bool false, .bool false, .bool false] 140); have X2 := X1.alloc (.cells #[.bool false, .bool false, .bool false, .bool false, .bool false, .bool false, .bool false] 140); obtain ⟨x0, x1, x2, x3, x4, x5, x6, x7, x8, x9, x10, x11, x12, x13⟩ := X2.cSt; have lx := X2.lt; have lx1 := X1.lt; have F2 := Whl.new w1 140 #[.bool false, .bool false, .bool false, .bool false, .bool false, .bool false, .bool false]; obtain ⟨y0, y1, y2, y3, y4, y5, y6⟩ := F2.c7; have ly := F2.lt)))
    go_ret
    exact ⟨by simp only [g0]; rfl, B1⟩
  · have f0 : (x.name.toList == []) = true := nil_list.trans g0
    cases g1 : (x.n == 0)
    · skip
      go_enter Tryz.func85, Tryz.ntmps85
      simp only [List.append_eq, List.cons_append, List.nil_append]
      go_wp2_with (first | (go_at_call 84; ((with_reducible refine (HC.out _).mono ?_); rintro e w1 ⟨rfl, hb1⟩; have X1 := (Whl.new w 42 (stC x h)).below' hb1; have B1 := below_alloc (below_step (below_alloc (Below.refl _ _) _) hb1) (.cells #[.bool false, .bool false, .bool false, .bool false, .bool false, .bool false, .bool false] 140); have X2 := X1.alloc (.cells #[.bool false, .bool false, .bool false, .bool false, .bool false, .bool false, .bool false] 140); obtain ⟨x0, x1, x2, x3, x4, x5, x6, x7, x8, x9, x10, x11, x12, x13⟩ := X2.cSt; have lx := X2.lt; have lx1 := X1.lt; have F2 := Whl.new w1 140 #[.bool false, .bool false, .bool false, .bool false, .bool false, .bool false, .bool false]; obtain ⟨y0, y1, y2, y3, y4, y5, y6⟩ := F2.c7; have ly := F2.lt)))
      go_ret
      exact ⟨by simp only [g0, g1]; rfl, B1⟩
    · skip
      cases g2 : zeroE x.a
      · skip
        go_enter Tryz.func85, Tryz.ntmps85
        simp only [List.append_eq, List.cons_append, List.nil_append]
        go_wp2_with (first | (go_at_call 84; ((with_reducible refine (HC.out _).mono ?_); rintro e w1 ⟨rfl, hb1⟩; have X1 := (Whl.new w 42 (stC x h)).below' hb1; have B1 := below_alloc (below_step (below_alloc (Below.refl _ _) _) hb1) (.cells #[.bool false, .bool false, .bool false, .bool false, .bool false, .bool false, .bool false] 140); have X2 := X1.alloc (.cells #[.bool false, .bool false, .bool false, .bool false, .bool false, .bool false, .bool false] 140); obtain ⟨x0, x1, x2, x3, x4, x5, x6, x7, x8, x9, x10, x11, x12, x13⟩ := X2.cSt; have lx := X2.lt; have lx1 := X1.lt; have F2 := Whl.new w1 140 #[.bool false, .bool false, .bool false, .bool false, .bool false, .bool false, .bool false]; obtain ⟨y0, y1, y2, y3, y4, y5, y6⟩ := F2.c7; have ly := F2.lt)) | (go_at_call 101; ((with_reducible refine (zeroR x.a h.a _ hin.out.wf.a.name).mono ?_); rintro e w2 ⟨rfl, hb2⟩; have X3 := X2.below' hb2; have F3 := F2.below' hb2; have B2 := below_step B1 hb2; clear x0 x1 x2 x3 x4 x5 x6 x7 x8 x9 x10 x11 x12 x13 y0 y1 y2 y3 y4 y5 y6 lx ly; obtain ⟨x0, x1, x2, x3, x4, x5, x6, x7, x8, x9, x10, x11, x12, x13⟩ := X3.cSt; have lx := X3.lt; obtain ⟨y0, y1, y2, y3, y4, y5, y6⟩ := F3.c7; have ly := F3.lt)))
        go_ret
        exact ⟨by simp only [g0, g1, g2]; rfl, B2⟩
      · skip
        cases g3 : zeroE x.b
        · skip
          go_enter Tryz.func85, Tryz.ntmps85
          simp only [List.append_eq, List.cons_append, List.nil_append]
          go_wp2_with (first | (go_at_call 84; ((with_reducible refine (HC.out _).mono ?_); rintro e w1 ⟨rfl, hb1⟩; have X1 := (Whl.new w 42 (stC x h)).below' hb1; have B1 := below_alloc (below_step (below_alloc (Below.refl _ _) _) hb1) (.cells #[.bool false, .bool false, .bool false, .bool false, .bool false, .bool false, .bool false] 140); have X2 := X1.alloc (.cells #[.bool false, .bool false, .bool false, .bool false, .bool false, .bool false, .bool false] 140); obtain ⟨x0, x1, x2, x3, x4, x5, x6, x7, x8, x9, x10, x11, x12, x13⟩ := X2.cSt; have lx := X2.lt; have lx1 := X1.lt; have F2 := Whl.new w1 140 #[.bool false, .bool false, .bool false, .bool false, .bool false, .bool false, .bool false]; obtain ⟨y0, y1, y2, y3, y4, y5, y6⟩ := F2.c7; have ly := F2.lt)) | (go_at_call 101; ((with_reducible refine (zeroR x.a h.a _ hin.out.wf.a.name).mono ?_); rintro e w2 ⟨rfl, hb2⟩; have X3 := X2.below' hb2; have F3 := F2.below' hb2; have B2 := below_step B1 hb2; clear x0 x1 x2 x3 x4 x5 x6 x7 x8 x9 x10 x11 x12 x13 y0 y1 y2 y3 y4 y5 y6 lx ly; obtain ⟨x0, x1, x2, x3, x4, x5, x6, x7, x8, x9, x10, x11, x12, x13⟩ := X3.cSt; have lx := X3.lt; obtain ⟨y0, y1, y2, y3, y4, y5, y6⟩ := F3.c7; have ly := F3.lt)) | (go_at_call 101; ((with_reducible refine (zeroR x.b h.b _ hin.out.wf.b.name).mono ?_); rintro e w3 ⟨rfl, hb3⟩; have X4 := X3.below' hb3; have F4 := F3.below' hb3; have B3 := below_step B2 hb3; clear x0 x1 x2 x3 x4 x5 x6 x7 x8 x9 x10 x11 x12 x13 y0 y1 y2 y3 y4 y5 y6 lx ly; obtain ⟨x0, x1, x2, x3, x4, x5, x6, x7, x8, x9, x10, x11, x12, x13⟩ := X4.cSt; have lx := X4.lt; obtain ⟨y0, y1, y2, y3, y4, y5, y6⟩ := F4.c7; have ly := F4.lt)))
          go_ret
          exact ⟨by simp only [g0, g1, g2, g3]; rfl, B3⟩
        · skip
          cases g4 : (x.body.length == 0)
          · have f4 : ((x.body.length : Int) == 0) = false := (len0 x.body.length).trans g4
            go_enter Tryz.func85, Tryz.ntmps85
            simp only [List.append_eq, List.cons_append, List.nil_append]
            go_wp2_with (first | (go_at_call 84; ((with_reducible refine (HC.out _).mono ?_); rintro e w1 ⟨rfl, hb1⟩; have X1 := (Whl.new w 42 (stC x h)).below' hb1; have B1 := below_alloc (below_step (below_alloc (Below.refl _ _) _) hb1) (.cells #[.bool false, .bool false, .bool false, .bool false, .bool false, .bool false, .bool false] 140); have X2 := X1.alloc (.cells #[.bool false, .bool false, .bool false, .bool false, .bool false, .bool false, .bool false] 140); obtain ⟨x0, x1, x2, x3, x4, x5, x6, x7, x8, x9, x10, x11, x12, x13⟩ := X2.cSt; have lx := X2.lt; have lx1 := X1.lt; have F2 := Whl.new w1 140 #[.bool false, .bool false, .bool false, .bool false, .bool false, .bool false, .bool false]; obtain ⟨y0, y1, y2, y3, y4, y5, y6⟩ := F2.c7; have ly := F2.lt)) | (go_at_call 101; ((with_reducible refine (zeroR x.a h.a _ hin.out.wf.a.name).mono ?_); rintro e w2 ⟨rfl, hb2⟩; have X3 := X2.below' hb2; have F3 := F2.below' hb2; have B2 := below_step B1 hb2; clear x0 x1 x2 x3 x4 x5 x6 x7 x8 x9 x10 x11 x12 x13 y0 y1 y2 y3 y4 y5 y6 lx ly; obtain ⟨x0, x1, x2, x3, x4, x5, x6, x7, x8, x9, x10, x11, x12, x13⟩ := X3.cSt; have lx := X3.lt; obtain ⟨y0, y1, y2, y3, y4, y5, y6⟩ := F3.c7; have ly := F3.lt)) | (go_at_call 101; ((with_reducible refine (zeroR x.b h.b _ hin.out.wf.b.name).mono ?_); rintro e w3 ⟨rfl, hb3⟩; have X4 := X3.below' hb3; have F4 := F3.below' hb3; have B3 := below_step B2 hb3; clear x0 x1 x2 x3 x4 x5 x6 x7 x8 x9 x10 x11 x12 x13 y0 y1 y2 y3 y4 y5 y6 lx ly; obtain ⟨x0, x1, x2, x3, x4, x5, x6, x7, x8, x9, x10, x11, x12, x13⟩ := X4.cSt; have lx := X4.lt; obtain ⟨y0, y1, y2, y3, y4, y5, y6⟩ := F4.c7; have ly := F4.lt)))
            go_ret
            exact ⟨by simp only [g0, g1, g2, g3, g4]; rfl, B3⟩
          · have f4 : ((x.body.length : Int) == 0) = true := (len0 x.body.length).trans g4
            cases g5 : (x.els.length == 0)
            · have f5 : ((x.els.length : Int) == 0) = false := (len0 x.els.length).trans g5
              go_enter Tryz.func85, Tryz.ntmps85
              simp only [List.append_eq, List.cons_append, List.nil_append]
              go_wp2_with (first | (go_at_call 84; ((with_reducible refine (HC.out _).mono ?_); rintro e w1 ⟨rfl, hb1⟩; have X1 := (Whl.new w 42 (stC x h)).below' hb1; have B1 := below_alloc (below_step (below_alloc (Below.refl _ _) _) hb1) (.cells #[.bool false, .bool false, .bool false, .bool false, .bool false, .bool false, .bool false] 140); have X2 := X1.alloc (.cells #[.bool false, .bool false, .bool false, .bool false, .bool false, .bool false, .bool false] 140); obtain ⟨x0, x1, x2, x3, x4, x5, x6, x7, x8, x9, x10, x11, x12, x13⟩ := X2.cSt; have lx := X2.lt; have lx1 := X1.lt; have F2 := Whl.new w1 140 #[.bool false, .bool false, .bool false, .bool false, .bool false, .bool false, .bool false]; obtain ⟨y0, y1, y2, y3, y4, y5, y6⟩ := F2.c7; have ly := F2.lt)) | (go_at_call 101; ((with_reducible refine (zeroR x.a h.a _ hin.out.wf.a.name).mono ?_); rintro e w2 ⟨rfl, hb2⟩; have X3 := X2.below' hb2; have F3 := F2.below' hb2; have B2 := below_step B1 hb2; clear x0 x1 x2 x3 x4 x5 x6 x7 x8 x9 x10 x11 x12 x13 y0 y1 y2 y3 y4 y5 y6 lx ly; obtain ⟨x0, x1, x2, x3, x4, x5, x6, x7, x8, x9, x10, x11, x12, x13⟩ := X3.cSt; have lx := X3.lt; obtain ⟨y0, y1, y2, y3, y4, y5, y6⟩ := F3.c7; have ly := F3.lt)) | (go_at_call 101; ((with_reducible refine (zeroR x.b h.b _ hin.out.wf.b.name).mono ?_); rintro e w3 ⟨rfl, hb3⟩; have X4 := X3.below' hb3; have F4 := F3.below' hb3; have B3 := below_step B2 hb3; clear x0 x1 x2 x3 x4 x5 x6 x7 x8 x9 x10 x11 x12 x13 y0 y1 y2 y3 y4 y5 y6 lx ly; obtain ⟨x0, x1, x2, x3, x4, x5, x6, x7, x8, x9, x10, x11, x12, x13⟩ := X4.cSt; have lx := X4.lt; obtain ⟨y0, y1, y2, y3, y4, y5, y6⟩ := F4.c7; have ly := F4.lt)))
              go_ret
              exact ⟨by simp only [g0, g1, g2, g3, g4, g5]; rfl, B3⟩
            · have f5 : ((x.els.length : Int) == 0) = true := (len0 x.els.length).trans g5
              cases g6 : (x.cases.length == 0)
              · have f6 : ((x.cases.length : Int) == 0) = false := (len0 x.cases.length).trans g6
                go_enter Tryz.func85, Tryz.ntmps85
                simp only [List.append_eq, List.cons_append, List.nil_append]
                go_wp2_with (first | (go_at_call 84; ((with_reducible refine (HC.out _).mono ?_); rintro e w1 ⟨rfl, hb1⟩; have X1 := (Whl.new w 42 (stC x h)).below' hb1; have B1 := below_alloc (below_step (below_alloc (Below.refl _ _) _) hb1) (.cells #[.bool false, .bool false, .bool false, .bool false, .bool false, .bool false, .bool false] 140); have X2 := X1.alloc (.cells #[.bool false, .bool false, .bool false, .bool false, .bool false, .bool false, .bool false] 140); obtain ⟨x0, x1, x2, x3, x4, x5, x6, x7, x8, x9, x10, x11, x12, x13⟩ := X2.cSt; have lx := X2.lt; have lx1 := X1.lt; have F2 := Whl.new w1 140 #[.bool false, .bool false, .bool false, .bool false, .bool false, .bool false, .bool false]; obtain ⟨y0, y1, y2, y3, y4, y5, y6⟩ := F2.c7; have ly := F2.lt)) | (go_at_call 101; ((with_reducible refine (zeroR x.a h.a _ hin.out.wf.a.name).mono ?_); rintro e w2 ⟨rfl, hb2⟩; have X3 := X2.below' hb2; have F3 := F2.below' hb2; have B2 := below_step B1 hb2; clear x0 x1 x2 x3 x4 x5 x6 x7 x8 x9 x10 x11 x12 x13 y0 y1 y2 y3 y4 y5 y6 lx ly; obtain ⟨x0, x1, x2, x3, x4, x5, x6, x7, x8, x9, x10, x11, x12, x13⟩ := X3.cSt; have lx := X3.lt; obtain ⟨y0, y1, y2, y3, y4, y5, y6⟩ := F3.c7; have ly := F3.lt)) | (go_at_call 101; ((with_reducible refine (zeroR x.b h.b _ hin.out.wf.b.name).mono ?_); rintro e w3 ⟨rfl, hb3⟩; have X4 := X3.below' hb3; have F4 := F3.below' hb3; have B3 := below_step B2 hb3; clear x0 x1 x2 x3 x4 x5 x6 x7 x8 x9 x10 x11 x12 x13 y0 y1 y2 y3 y4 y5 y6 lx ly; obtain ⟨x0, x1, x2, x3, x4, x5, x6, x7, x8, x9, x10, x11, x12, x13⟩ := X4.cSt; have lx := X4.lt; obtain ⟨y0, y1, y2, y3, y4, y5, y6⟩ := F4.c7; have ly := F4.lt)))
                go_ret
                exact ⟨by simp only [g0, g1, g2, g3, g4, g5, g6]; rfl, B3⟩
              · have f6 : ((x.cases.length : Int) == 0) = true := (len0 x.cases.length).trans g6
                go_enter Tryz.func85, Tryz.ntmps85
                simp only [List.append_eq, List.cons_append, List.nil_append]
                go_wp2_with (first | (go_at_call 84; ((with_reducible refine (HC.out _).mono ?_); rintro e w1 ⟨rfl, hb1⟩; have X1 := (Whl.new w 42 (stC x h)).below' hb1; have B1 := below_alloc (below_step (below_alloc (Below.refl _ _) _) hb1) (.cells #[.bool false, .bool false, .bool false, .bool false, .bool false, .bool false, .bool false] 140); have X2 := X1.alloc (.cells #[.bool false, .bool false, .bool false, .bool false, .bool false, .bool false, .bool false] 140); obtain ⟨x0, x1, x2, x3, x4, x5, x6, x7, x8, x9, x10, x11, x12, x13⟩ := X2.cSt; have lx := X2.lt; have lx1 := X1.lt; have F2 := Whl.new w1 140 #[.bool false, .bool false, .bool false, .bool false, .bool false, .bool false, .bool false]; obtain ⟨y0, y1, y2, y3, y4, y5, y6⟩ := F2.c7; have ly := F2.lt)) | (go_at_call 101; ((with_reducible refine (zeroR x.a h.a _ hin.out.wf.a.name).mono ?_); rintro e w2 ⟨rfl, hb2⟩; have X3 := X2.below' hb2; have F3 := F2.below' hb2; have B2 := below_step B1 hb2; clear x0 x1 x2 x3 x4 x5 x6 x7 x8 x9 x10 x11 x12 x13 y0 y1 y2 y3 y4 y5 y6 lx ly; obtain ⟨x0, x1, x2, x3, x4, x5, x6, x7, x8, x9, x10, x11, x12, x13⟩ := X3.cSt; have lx := X3.lt; obtain ⟨y0, y1, y2, y3, y4, y5, y6⟩ := F3.c7; have ly := F3.lt)) | (go_at_call 101; ((with_reducible refine (zeroR x.b h.b _ hin.out.wf.b.name).mono ?_); rintro e w3 ⟨rfl, hb3⟩; have X4 := X3.below' hb3; have F4 := F3.below' hb3; have B3 := below_step B2 hb3; clear x0 x1 x2 x3 x4 x5 x6 x7 x8 x9 x10 x11 x12 x13 y0 y1 y2 y3 y4 y5 y6 lx ly; obtain ⟨x0, x1, x2, x3, x4, x5, x6, x7, x8, x9, x10, x11, x12, x13⟩ := X4.cSt; have lx := X4.lt; obtain ⟨y0, y1, y2, y3, y4, y5, y6⟩ := F4.c7; have ly := F4.lt)))
                go_ret
                exact ⟨by simp only [g0, g1, g2, g3, g4, g5, g6]; rfl, B3⟩
set_option maxRecDepth 100000 in
set_option maxHeartbeats 8000000 in
theorem form_7 (x : StD) (h : HdS) (q : Nat → Hd) (B : Nat) (w : World) (hin : StIn w B x h q) (hc : ∀ w, Calls Tryz.prog 84 #[.int .i64 x.kind] w fun e w' => e = .returned (.agg #[.bool false, .bool false, .bool true, .bool false, .bool false, .bool false, .bool false]) ∧ Below w.heap.size w w') (k1 : decide (1 ≤ x.kind) = true) (k2 : decide (x.kind ≤ 10) = true) :
    Calls Tryz.prog 85 #[.agg (stC x h)] w fun e w' => e = .returned (.bool ((x.name.size == 0) && (x.n == 0) && zeroE x.b && (x.body.length == 0) && (x.els.length == 0) && (x.cases.length == 0))) ∧ Below w.heap.size w w' := by
  have HC := Lib.hid hc
  have hin := Lib.hid hin
  clear hc
  cases g0 : (x.name.size == 0)
  · have f0 : (x.name.toList == []) = false := nil_list.trans g0
    go_enter Tryz.func85, Tryz.ntmps85
    simp only [List.append_eq, List.cons_append, List.nil_append]
    go_wp2_with (first | (go_at_call 84; ((with_reducible refine (HC.out _).mono ?_); rintro e w1 ⟨rfl, hb1⟩; have X1 := (Whl.new w 42 (stC x h)).below' hb1; have B1 := below_alloc (below_step (below_alloc (Below.refl _ _) _) hb1) (.cells #[.bool false, .bool false, .bool true, .bool false, .bool false, .bool false, .bool false] 140); have X2 := X1.alloc (.cells #[.bool false, .bool false, .bool true, .bool false, .bool false, .bool false, .bool false] 140); obtain ⟨x0, x1, x2, x3, x4, x5, x6, x7, x8, x9, x10, x11, x12, x13⟩ := X2.cSt; have lx := X2.lt; have lx1 := X1.lt; have F2 := Whl.new w1 140 #[.bool false, .bool false, .bool true, .bool false, .bool false, .bool false, .bool false]; obtain ⟨y0, y1, y2, y3, y4, y5, y6⟩ := F2.c7; have ly := F2.lt)))
    go_ret
    exact ⟨by simp only [g0]; rfl, B1⟩
  · have f0 : (x.name.toList == []) = true := nil_list.trans g0
    cases g1 : (x.n == 0)
    · skip
      go_enter Tryz.func85, Tryz.ntmps85
      simp only [List.append_eq, List.cons_append, List.nil_append]
      go_wp2_with (first | (go_at_call 84; ((with_reducible refine (HC.out _).mono ?_); rintro e w1 ⟨rfl, hb1⟩; have X1 := (Whl.new w 42 (stC x h)).below' hb1; have B1 := below_alloc (below_step (below_alloc (Below.refl _ _) _) hb1) (.cells #[.bool false, .bool false, .bool true, .bool false, .bool false, .bool false, .bool false] 140); have X2 := X1.alloc (.cells #[.bool false, .bool false, .bool true, .bool false, .bool false, .bool false, .bool false] 140); obtain ⟨x0, x1, x2, x3, x4, x5, x6, x7, x8, x9, x10, x11, x12, x13⟩ := X2.cSt; have lx := X2.lt; have lx1 := X1.lt; have F2 := Whl.new w1 140 #[.bool false, .bool false, .bool true, .bool false, .bool false, .bool false, .bool false]; obtain ⟨y0, y1, y2, y3, y4, y5, y6⟩ := F2.c7; have ly := F2.lt)))
      go_ret
      exact ⟨by simp only [g0, g1]; rfl, B1⟩
    · skip
      cases g3 : zeroE x.b
      · skip
        go_enter Tryz.func85, Tryz.ntmps85
        simp only [List.append_eq, List.cons_append, List.nil_append]
        go_wp2_with (first | (go_at_call 84; ((with_reducible refine (HC.out _).mono ?_); rintro e w1 ⟨rfl, hb1⟩; have X1 := (Whl.new w 42 (stC x h)).below' hb1; have B1 := below_alloc (below_step (below_alloc (Below.refl _ _) _) hb1) (.cells #[.bool false, .bool false, .bool true, .bool false, .bool false, .bool false, .bool false] 140); have X2 := X1.alloc (.cells #[.bool false, .bool false, .bool true, .bool false, .bool false, .bool false, .bool false] 140); obtain ⟨x0, x1, x2, x3, x4, x5, x6, x7, x8, x9, x10, x11, x12, x13⟩ := X2.cSt; have lx := X2.lt; have lx1 := X1.lt; have F2 := Whl.new w1 140 #[.bool false, .bool false, .bool true, .bool false, .bool false, .bool false, .bool false]; obtain ⟨y0, y1, y2, y3, y4, y5, y6⟩ := F2.c7; have ly := F2.lt)) | (go_at_call 101; ((with_reducible refine (zeroR x.b h.b _ hin.out.wf.b.name).mono ?_); rintro e w2 ⟨rfl, hb2⟩; have X3 := X2.below' hb2; have F3 := F2.below' hb2; have B2 := below_step B1 hb2; clear x0 x1 x2 x3 x4 x5 x6 x7 x8 x9 x10 x11 x12 x13 y0 y1 y2 y3 y4 y5 y6 lx ly; obtain ⟨x0, x1, x2, x3, x4, x5, x6, x7, x8, x9, x10, x11, x12, x13⟩ := X3.cSt; have lx := X3.lt; obtain ⟨y0, y1, y2, y3, y4, y5, y6⟩ := F3.c7; have ly := F3.lt)))
        go_ret
        exact ⟨by simp only [g0, g1, g3]; rfl, B2⟩
      · skip
        cases g4 : (x.body.length == 0)
        · have f4 : ((x.body.length : Int) == 0) = false := (len0 x.body.length).trans g4
          go_enter Tryz.func85, Tryz.ntmps85
          simp only [List.append_eq, List.cons_append, List.nil_append]
          go_wp2_with (first | (go_at_call 84; ((with_reducible refine (HC.out _).mono ?_); rintro e w1 ⟨rfl, hb1⟩; have X1 := (Whl.new w 42 (stC x h)).below' hb1; have B1 := below_alloc (below_step (below_alloc (Below.refl _ _) _) hb1) (.cells #[.bool false, .bool false, .bool true, .bool false, .bool false, .bool false, .bool false] 140); have X2 := X1.alloc (.cells #[.bool false, .bool false, .bool true, .bool false, .bool false, .bool false, .bool false] 140); obtain ⟨x0, x1, x2, x3, x4, x5, x6, x7, x8, x9, x10, x11, x12, x13⟩ := X2.cSt; have lx := X2.lt; have lx1 := X1.lt; have F2 := Whl.new w1 140 #[.bool false, .bool false, .bool true, .bool false, .bool false, .bool false, .bool false]; obtain ⟨y0, y1, y2, y3, y4, y5, y6⟩ := F2.c7; have ly := F2.lt)) | (go_at_call 101; ((with_reducible refine (zeroR x.b h.b _ hin.out.wf.b.name).mono ?_); rintro e w2 ⟨rfl, hb2⟩; have X3 := X2.below' hb2; have F3 := F2.below' hb2; have B2 := below_step B1 hb2; clear x0 x1 x2 x3 x4 x5 x6 x7 x8 x9 x10 x11 x12 x13 y0 y1 y2 y3 y4 y5 y6 lx ly; obtain ⟨x0, x1, x2, x3, x4, x5, x6, x7, x8, x9, x10, x11, x12, x13⟩ := X3.cSt; have lx := X3.lt; obtain ⟨y0, y1, y2, y3, y4, y5, y6⟩ := F3.c7; have ly := F3.lt)))
          go_ret
          exact ⟨by simp only [g0, g1, g3, g4]; rfl, B2⟩
        · have f4 : ((x.body.length : Int) == 0) = true := (len0 x.body.length).trans g4
          cases g5 : (x.els.length == 0)
          · have f5 : ((x.els.length : Int) == 0) = false := (len0 x.els.length).trans g5
            go_enter Tryz.func85, Tryz.ntmps85
            simp only [List.append_eq, List.cons_append, List.nil_append]
            go_wp2_with (first | (go_at_call 84; ((with_reducible refine (HC.out _).mono ?_); rintro e w1 ⟨rfl, hb1⟩; have X1 := (Whl.new w 42 (stC x h)).below' hb1; have B1 := below_alloc (below_step (below_alloc (Below.refl _ _) _) hb1) (.cells #[.bool false, .bool false, .bool true, .bool false, .bool false, .bool false, .bool false] 140); have X2 := X1.alloc (.cells #[.bool false, .bool false, .bool true, .bool false, .bool false, .bool false, .bool false] 140); obtain ⟨x0, x1, x2, x3, x4, x5, x6, x7, x8, x9, x10, x11, x12, x13⟩ := X2.cSt; have lx := X2.lt; have lx1 := X1.lt; have F2 := Whl.new w1 140 #[.bool false, .bool false, .bool true, .bool false, .bool false, .bool false, .bool false]; obtain ⟨y0, y1, y2, y3, y4, y5, y6⟩ := F2.c7; have ly := F2.lt)) | (go_at_call 101; ((with_reducible refine (zeroR x.b h.b _ hin.out.wf.b.name).mono ?_); rintro e w2 ⟨rfl, hb2⟩; have X3 := X2.below' hb2; have F3 := F2.below' hb2; have B2 := below_step B1 hb2; clear x0 x1 x2 x3 x4 x5 x6 x7 x8 x9 x10 x11 x12 x13 y0 y1 y2 y3 y4 y5 y6 lx ly; obtain ⟨x0, x1, x2, x3, x4, x5, x6, x7, x8, x9, x10, x11, x12, x13⟩ := X3.cSt; have lx := X3.lt; obtain ⟨y0, y1, y2, y3, y4, y5, y6⟩ := F3.c7; have ly := F3.lt)))
            go_ret
            exact ⟨by simp only [g0, g1, g3, g4, g5]; rfl, B2⟩
          · have f5 : ((x.els.length : Int) == 0) = true := (len0 x.els.length).trans g5
            cases g6 : (x.cases.length == 0)
            · have f6 : ((x.cases.length : Int) == 0) = false := (len0 x.cases.length).trans g6
              go_enter Tryz.func85, Tryz.ntmps85
              simp only [List.append_eq, List.cons_append, List.nil_append]
              go_wp2_with (first | (go_at_call 84; ((with_reducible refine (HC.out _).mono ?_); rintro e w1 ⟨rfl, hb1⟩; have X1 := (Whl.new w 42 (stC x h)).below' hb1; have B1 := below_alloc (below_step (below_alloc (Below.refl _ _) _) hb1) (.cells #[.bool false, .bool false, .bool true, .bool false, .bool false, .bool false, .bool false] 140); have X2 := X1.alloc (.cells #[.bool false, .bool false, .bool true, .bool false, .bool false, .bool false, .bool false] 140); obtain ⟨x0, x1, x2, x3, x4, x5, x6, x7, x8, x9, x10, x11, x12, x13⟩ := X2.cSt; have lx := X2.lt; have lx1 := X1.lt; have F2 := Whl.new w1 140 #[.bool false, .bool false, .bool true, .bool false, .bool false, .bool false, .bool false]; obtain ⟨y0, y1, y2, y3, y4, y5, y6⟩ := F2.c7; have ly := F2.lt)) | (go_at_call 101; ((with_reducible refine (zeroR x.b h.b _ hin.out.wf.b.name).mono ?_); rintro e w2 ⟨rfl, hb2⟩; have X3 := X2.below' hb2; have F3 := F2.below' hb2; have B2 := below_step B1 hb2; clear x0 x1 x2 x3 x4 x5 x6 x7 x8 x9 x10 x11 x12 x13 y0 y1 y2 y3 y4 y5 y6 lx ly; obtain ⟨x0, x1, x2, x3, x4, x5, x6, x7, x8, x9, x10, x11, x12, x13⟩ := X3.cSt; have lx := X3.lt; obtain ⟨y0, y1, y2, y3, y4, y5, y6⟩ := F3.c7; have ly := F3.lt)))
              go_ret
              exact ⟨by simp only [g0, g1, g3, g4, g5, g6]; rfl, B2⟩
            · have f6 : ((x.cases.length : Int) == 0) = true := (len0 x.cases.length).trans g6
              go_enter Tryz.func85, Tryz.ntmps85
              simp only [List.append_eq, List.cons_append, List.nil_append]
              go_wp2_with (first | (go_at_call 84; ((with_reducible refine (HC.out _).mono ?_); rintro e w1 ⟨rfl, hb1⟩; have X1 := (Whl.new w 42 (stC x h)).below' hb1; have B1 := below_alloc (below_step (below_alloc (Below.refl _ _) _) hb1) (.cells #[.bool false, .bool false, .bool true, .bool false, .bool false, .bool false, .bool false] 140); have X2 := X1.alloc (.cells #[.bool false, .bool false, .bool true, .bool false, .bool false, .bool false, .bool false] 140); obtain ⟨x0, x1, x2, x3, x4, x5, x6, x7, x8, x9, x10, x11, x12, x13⟩ := X2.cSt; have lx := X2.lt; have lx1 := X1.lt; have F2 := Whl.new w1 140 #[.bool false, .bool false, .bool true, .bool false, .bool false, .bool false, .bool false]; obtain ⟨y0, y1, y2, y3, y4, y5, y6⟩ := F2.c7; have ly := F2.lt)) | (go_at_call 101; ((with_reducible refine (zeroR x.b h.b _ hin.out.wf.b.name).mono ?_); rintro e w2 ⟨rfl, hb2⟩; have X3 := X2.below' hb2; have F3 := F2.below' hb2; have B2 := below_step B1 hb2; clear x0 x1 x2 x3 x4 x5 x6 x7 x8 x9 x10 x11 x12 x13 y0 y1 y2 y3 y4 y5 y6 lx ly; obtain ⟨x0, x1, x2, x3, x4, x5, x6, x7, x8, x9, x10, x11, x12, x13⟩ := X3.cSt; have lx := X3.lt; obtain ⟨y0, y1, y2, y3, y4, y5, y6⟩ := F3.c7; have ly := F3.lt)))
              go_ret
              exact ⟨by simp only [g0, g1, g3, g4, g5, g6]; rfl, B2⟩
set_option maxRecDepth 100000 in
set_option maxHeartbeats 8000000 in
theorem form_no (x : StD) (h : HdS) (w : World) (hk : knownS x.kind = false) : Calls Tryz.prog 85 #[.agg (stC x h)] w fun e w' => e = .returned (.bool false) ∧ Below w.heap.size w w' := by
  unfold knownS at hk
  cases k1 : decide (1 ≤ x.kind)
  · clear hk
    go_enter Tryz.func85, Tryz.ntmps85
    simp only [List.append_eq, List.cons_append, List.nil_append]
    go_wp2_with (go_at_call 84; ((with_reducible refine (countsR x.kind _).mono ?_); rintro e w1 ⟨rfl, hb1⟩; have X1 := (Whl.new w 42 (stC x h)).below' hb1; have X2 := X1.alloc (.cells (fieldsC x.kind) 140); obtain ⟨x0, x1, x2, x3, x4, x5, x6, x7, x8, x9, x10, x11, x12, x13⟩ := X2.cSt; have lx := X2.lt; have lx1 := X1.lt))
    go_ret
    exact ⟨rfl, below_alloc (below_step (below_alloc (Below.refl _ _) _) hb1) _⟩
  · have k2 : decide (x.kind ≤ 10) = false := by rw [k1] at hk; simpa using hk
    clear hk
    go_enter Tryz.func85, Tryz.ntmps85
    simp only [List.append_eq, List.cons_append, List.nil_append]
    go_wp2_with (go_at_call 84; ((with_reducible refine (countsR x.kind _).mono ?_); rintro e w1 ⟨rfl, hb1⟩; have X1 := (Whl.new w 42 (stC x h)).below' hb1; have X2 := X1.alloc (.cells (fieldsC x.kind) 140); obtain ⟨x0, x1, x2, x3, x4, x5, x6, x7, x8, x9, x10, x11, x12, x13⟩ := X2.cSt; have lx := X2.lt; have lx1 := X1.lt))
    go_ret
    exact ⟨rfl, below_alloc (below_step (below_alloc (Below.refl _ _) _) hb1) _⟩
theorem formedR (x : StD) (h : HdS) (q : Nat → Hd) (B : Nat) (w : World) (hin : StIn w B x h q) : Calls Tryz.prog 85 #[.agg (stC x h)] w fun e w' => e = .returned (.bool (formS x)) ∧ Below w.heap.size w w' := by
  cases hk : knownS x.kind
  · have e : formS x = false := by simp [formS, hk]
    rw [e]; exact form_no x h w hk
  · have hk0 := hk
    simp only [knownS, Bool.and_eq_true] at hk0
    obtain ⟨k1, k2⟩ := hk0
    have hc := fun w => countsR x.kind w
    have hr : 1 ≤ x.kind ∧ x.kind ≤ 10 := ⟨of_decide_eq_true k1, of_decide_eq_true k2⟩
    rcases (by omega : x.kind = 1 ∨ x.kind = 2 ∨ x.kind = 3 ∨ x.kind = 4 ∨ x.kind = 5 ∨ x.kind = 6 ∨ x.kind = 7 ∨ x.kind = 8 ∨ x.kind = 9 ∨ x.kind = 10) with e | e | e | e | e | e | e | e | e | e
    · have hf : formS x = ((x.n == 0) && zeroE x.b && (x.body.length == 0) && (x.els.length == 0) && (x.cases.length == 0)) := by simp only [formS, knownS, e, cName, cNum, cA, cB, cBody, cEls, cCases]; simp
      rw [hf]
      exact form_0 x h q B w hin (fun w => by have := hc w; unfold fieldsV at this; rw [e] at this ⊢; exact this) k1 k2
    · have hf : formS x = (zeroE x.a && zeroE x.b && (x.body.length == 0) && (x.els.length == 0) && (x.cases.length == 0)) := by simp only [formS, knownS, e, cName, cNum, cA, cB, cBody, cEls, cCases]; simp
      rw [hf]
      exact form_1 x h q B w hin (fun w => by have := hc w; unfold fieldsV at this; rw [e] at this ⊢; exact this) k1 k2
    · have hf : formS x = ((x.n == 0) && zeroE x.b && (x.body.length == 0) && (x.els.length == 0) && (x.cases.length == 0)) := by simp only [formS, knownS, e, cName, cNum, cA, cB, cBody, cEls, cCases]; simp
      rw [hf]
      exact form_0 x h q B w hin (fun w => by have := hc w; unfold fieldsV at this; rw [e] at this ⊢; exact this) k1 k2
    · have hf : formS x = ((x.n == 0) && (x.body.length == 0) && (x.els.length == 0) && (x.cases.length == 0)) := by simp only [formS, knownS, e, cName, cNum, cA, cB, cBody, cEls, cCases]; simp
      rw [hf]
      exact form_2 x h q B w hin (fun w => by have := hc w; unfold fieldsV at this; rw [e] at this ⊢; exact this) k1 k2
    · have hf : formS x = ((x.name.size == 0) && (x.n == 0) && zeroE x.b && (x.cases.length == 0)) := by simp only [formS, knownS, e, cName, cNum, cA, cB, cBody, cEls, cCases]; simp
      rw [hf]
      exact form_3 x h q B w hin (fun w => by have := hc w; unfold fieldsV at this; rw [e] at this ⊢; exact this) k1 k2
    · have hf : formS x = ((x.name.size == 0) && (x.n == 0) && zeroE x.b && (x.body.length == 0)) := by simp only [formS, knownS, e, cName, cNum, cA, cB, cBody, cEls, cCases]; simp
      rw [hf]
      exact form_4 x h q B w hin (fun w => by have := hc w; unfold fieldsV at this; rw [e] at this ⊢; exact this) k1 k2
    · have hf : formS x = ((x.n == 0) && (x.els.length == 0) && (x.cases.length == 0)) := by simp only [formS, knownS, e, cName, cNum, cA, cB, cBody, cEls, cCases]; simp
      rw [hf]
      exact form_5 x h q B w hin (fun w => by have := hc w; unfold fieldsV at this; rw [e] at this ⊢; exact this) k1 k2
    · have hf : formS x = ((x.name.size == 0) && (x.n == 0) && zeroE x.a && zeroE x.b && (x.body.length == 0) && (x.els.length == 0) && (x.cases.length == 0)) := by simp only [formS, knownS, e, cName, cNum, cA, cB, cBody, cEls, cCases]; simp
      rw [hf]
      exact form_6 x h q B w hin (fun w => by have := hc w; unfold fieldsV at this; rw [e] at this ⊢; exact this) k1 k2
    · have hf : formS x = ((x.name.size == 0) && (x.n == 0) && zeroE x.b && (x.body.length == 0) && (x.els.length == 0) && (x.cases.length == 0)) := by simp only [formS, knownS, e, cName, cNum, cA, cB, cBody, cEls, cCases]; simp
      rw [hf]
      exact form_7 x h q B w hin (fun w => by have := hc w; unfold fieldsV at this; rw [e] at this ⊢; exact this) k1 k2
    · have hf : formS x = ((x.name.size == 0) && (x.n == 0) && zeroE x.b && (x.body.length == 0) && (x.els.length == 0) && (x.cases.length == 0)) := by simp only [formS, knownS, e, cName, cNum, cA, cB, cBody, cEls, cCases]; simp
      rw [hf]
      exact form_7 x h q B w hin (fun w => by have := hc w; unfold fieldsV at this; rw [e] at this ⊢; exact this) k1 k2
end Go.Proofs.YtdddppmfeoebgaaGreatDoor
