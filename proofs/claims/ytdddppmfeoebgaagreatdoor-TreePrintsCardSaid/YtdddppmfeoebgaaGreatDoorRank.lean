/-
  Layer 2 (tree): the walks of rank, number and list.
-/
import Derived.Test.YtdddppmfeoebgaaGreatDoorGood
import Derived.Test.YtdddppmfeoebgaaGreatDoorShelf
import Derived.Test.YtdddppmfeoebgaaGreatDoorTurn
import Derived.Sort.Grow
import Derived.Lib.QuietBelow
namespace Go.Proofs.YtdddppmfeoebgaaGreatDoor
open Go.RowKit
set_option linter.unusedSimpArgs false
set_option linter.unusedVariables false
/-- A text as a value. -/
abbrev strV (l : List UInt8) : Value := .string ⟨l.toArray⟩
def Pow10 (w : World) : Prop := Lib.TabIs Tryz.prog w "internal/strconv.uint64pow10" .u64 Lib.pow10Tab
theorem Pow10.below {w w' : World} {B : Nat} (h : Pow10 w) (hb : Below B w w') (hB : ∀ g, Tryz.prog.globalNamed "internal/strconv.uint64pow10" = some g → g < B) : Pow10 w' := by
  unfold Pow10 Lib.TabIs World.var? at *
  cases hg : Tryz.prog.globalNamed "internal/strconv.uint64pow10" with
  | none => simp [hg] at h
  | some g =>
    simp only [hg, Option.bind_some] at h ⊢
    rw [hb.block g (hB g hg)]
    exact h
theorem Pow10.lt {w : World} (h : Pow10 w) : ∀ g, Tryz.prog.globalNamed "internal/strconv.uint64pow10" = some g → g < w.heap.size := fun g hg => by
  unfold Pow10 Lib.TabIs World.var? at h
  simp only [hg, Option.bind_some] at h
  rcases Nat.lt_or_ge g w.heap.size with h' | h'
  · exact h'
  · rw [Array.getElem?_eq_none h'] at h; simp at h
theorem Pow10.step {w w' : World} (h : Pow10 w) (hb : Below w.heap.size w w') : Pow10 w' := h.below hb h.lt
theorem below_regrow (w : World) (k : Nat) (os : Array Obj) : Below w.heap.size w (Sort.grow (w.drewN k) os) := ⟨rfl, rfl, rfl, by simp [Sort.grow, World.drewN], fun j hj => by simp [Sort.grow, World.drewN, Array.getElem?_append, hj]⟩
theorem numberP (n : Int) (w : World) (hn : In64 n) (ht : Pow10 w) : Calls Tryz.prog 10 #[.int .i64 n] w fun e w' => e = .returned (strV (numD n)) ∧ Below w.heap.size w w' := by
  go_enter Tryz.func10, Tryz.ntmps10
  go_wp2_with (go_at_call 30; refine (Tryz.strconv_FormatInt_10 n hn.1 hn.2 _ ht).mono ?_; rintro e w1 ⟨rfl, k, os, rfl⟩)
  go_ret
  exact ⟨rfl, below_regrow w k os⟩
/-- Strings that lie in a row. -/
def StrsAt' (w : World) (A : Option Addr) (l : List (List UInt8)) : Prop := 0 < l.length → ∃ b off, A = some ⟨b, off, none⟩ ∧ b < w.heap.size ∧ ∀ k, k < l.length → w.cell? ⟨b, off + k, none⟩ = some (strV (l.getD k []))
theorem join_eq : ∀ l : List (List UInt8), Lib.join l [44, 32] = joinT l
  | [] => rfl
  | [a] => by simp [Lib.join, List.intercalate, joinT]
  | a :: b :: r => by
    have := join_eq (b :: r)
    rw [joinT, ← this]
    simp [Lib.join, List.intercalate, List.intersperse]
theorem listP (A : Option Addr) (c : Nat) (l : List (List UInt8)) (w : World) (h : StrsAt' w A l) (hc : l.length ≤ c) (hl : l.length ≤ 100000) (hlen : sumT l ≤ 100000000) :
    Calls Tryz.prog 12 #[.slice A l.length c] w fun e w' => e = .returned (strV (joinT l)) ∧ Below w.heap.size w w' := by
  rcases Nat.eq_zero_or_pos l.length with h0 | hp
  · have e0 : l = [] := List.length_eq_zero_iff.1 h0
    subst e0
    go_enter Tryz.func12, Tryz.ntmps12
    go_wp2_with (go_at_call 33; refine (Tryz.strings_Join_none A c _ _).mono ?_; rintro e w1 ⟨rfl, rfl⟩)
    go_ret
    exact ⟨rfl, Below.refl _ _⟩
  · obtain ⟨b, off, rfl, hb, hcell⟩ := h hp
    have e1 : (l.map fun t => (⟨t.toArray⟩ : ByteArray)).map (·.data.toList) = l := by simp [Function.comp_def]
    have hj := joinT_len l
    have HJ := Lib.hid (Tryz.strings_Join b off c (l.map fun t => (⟨t.toArray⟩ : ByteArray)) ⟨#[44, 32]⟩ w (fun j x hx => by
      rw [List.getElem?_map, Option.map_eq_some_iff] at hx
      obtain ⟨t, ht, rfl⟩ := hx
      have hj : j < l.length := (List.getElem?_eq_some_iff.1 ht).1
      rw [hcell j hj, List.getD_eq_getElem?_getD, ht]; rfl) hb (by simp; omega) (by simpa using hc) (by rw [e1]; show (Lib.join l [44, 32]).length ≤ _; rw [join_eq]; omega))
    clear hcell
    go_enter Tryz.func12, Tryz.ntmps12
    have hh := HJ.out
    rw [List.length_map, e1] at hh
    have HH := Lib.hid hh
    clear hh e1
    go_wp2_with (go_at_call 33; go_must (refine HH.out.mono ?_; rintro e w1 ⟨rfl, hb1⟩))
    go_ret
    exact ⟨by show Ending.returned (.string ⟨(Lib.join l [44, 32]).toArray⟩) = _; rw [join_eq], hb1⟩
theorem rank_no {k : Int} (h : k ≠ 20 ∧ k ≠ 19 ∧ k ≠ 18 ∧ k ≠ 12 ∧ k ≠ 13 ∧ k ≠ 14 ∧ k ≠ 15 ∧ k ≠ 16 ∧ k ≠ 17 ∧ k ≠ 7 ∧ k ≠ 8 ∧ k ≠ 9 ∧ k ≠ 10 ∧ k ≠ 11 ∧ k ≠ 5 ∧ k ≠ 6) : rankD k = 9 ∧ signT k = [] := by
  constructor
  · simp only [rankD, Bool.or_eq_true, beq_iff_eq]
    repeat (first | rw [if_neg (by omega)])
  · unfold signT; rw [if_neg (by omega)]
set_option maxHeartbeats 2000000 in
theorem rankP (k : Int) (w : World) : Calls Tryz.prog 80 #[.int .i64 k] w fun e w' => e = .returned (.tuple #[.int .i64 (rankD k), strV (signT k)]) ∧ w = w' := by
  rcases (by omega : k = 20 ∨ k = 19 ∨ k = 18 ∨ k = 12 ∨ k = 13 ∨ k = 14 ∨ k = 15 ∨ k = 16 ∨ k = 17 ∨ k = 7 ∨ k = 8 ∨ k = 9 ∨ k = 10 ∨ k = 11 ∨ k = 5 ∨ k = 6 ∨ (k ≠ 20 ∧ k ≠ 19 ∧ k ≠ 18 ∧ k ≠ 12 ∧ k ≠ 13 ∧ k ≠ 14 ∧ k ≠ 15 ∧ k ≠ 16 ∧ k ≠ 17 ∧ k ≠ 7 ∧ k ≠ 8 ∧ k ≠ 9 ∧ k ≠ 10 ∧ k ≠ 11 ∧ k ≠ 5 ∧ k ≠ 6)) with rfl | rfl | rfl | rfl | rfl | rfl | rfl | rfl | rfl | rfl | rfl | rfl | rfl | rfl | rfl | rfl | hk
  case inr.inr.inr.inr.inr.inr.inr.inr.inr.inr.inr.inr.inr.inr.inr.inr =>
    obtain ⟨e0, e1⟩ := rank_no hk
    obtain ⟨n20, n19, n18, n12, n13, n14, n15, n16, n17, n7, n8, n9, n10, n11, n5, n6⟩ := hk
    unfold strV
    rw [e0, e1]
    clear e0 e1
    have b20 : (k == 20) = false := by simpa using n20
    have b19 : (k == 19) = false := by simpa using n19
    have b18 : (k == 18) = false := by simpa using n18
    have b12 : (k == 12) = false := by simpa using n12
    have b13 : (k == 13) = false := by simpa using n13
    have b14 : (k == 14) = false := by simpa using n14
    have b15 : (k == 15) = false := by simpa using n15
    have b16 : (k == 16) = false := by simpa using n16
    have b17 : (k == 17) = false := by simpa using n17
    have b7 : (k == 7) = false := by simpa using n7
    have b8 : (k == 8) = false := by simpa using n8
    have b9 : (k == 9) = false := by simpa using n9
    have b10 : (k == 10) = false := by simpa using n10
    have b11 : (k == 11) = false := by simpa using n11
    have b5 : (k == 5) = false := by simpa using n5
    have b6 : (k == 6) = false := by simpa using n6
    clear n20 n19 n18 n12 n13 n14 n15 n16 n17 n7 n8 n9 n10 n11 n5 n6
    go_enter Tryz.func80, Tryz.ntmps80
    go_wp2
    refine ret_of ?_ rfl
    exact ⟨_, by simp [results, Tryz.results80, go_sem] <;> decide, rfl, rfl⟩
  all_goals
    go_enter Tryz.func80, Tryz.ntmps80
    go_wp2
    refine ret_of ?_ rfl
    exact ⟨_, by simp [results, Tryz.results80, go_sem] <;> decide, rfl, rfl⟩
end Go.Proofs.YtdddppmfeoebgaaGreatDoor
