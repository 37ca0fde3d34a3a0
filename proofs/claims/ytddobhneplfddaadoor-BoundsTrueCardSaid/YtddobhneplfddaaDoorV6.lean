/-
  Layer 16 (bounds): RefS, BndB, OpR.
-/
import Derived.Test.YtddobhneplfddaaDoorV4
import Derived.Test.YtddobhneplfddaaDoorV5
import Derived.Deep.RegionLaw
namespace Go.Proofs.YtddobhneplfddaaDoor
set_option maxRecDepth 100000
open Go.RowKit
set_option linter.unusedSimpArgs false
set_option linter.unusedVariables false
attribute [local go_sem ↓] Go.wp_at_zero Go.wp_at_succ

end Go.Proofs.YtddobhneplfddaaDoor


/-
  Layer 8 (span): the walk of the reference's Widen: two loops over the thresholds, whose tests draw their order.
-/
namespace Go.Proofs.YtddobhneplfddaaDoor
open Go.RowKit
set_option linter.unusedSimpArgs false
set_option linter.unusedVariables false

end Go.Proofs.YtddobhneplfddaaDoor


/-
  Layer 8 (span): the walks of the reference's arithmetic.
-/
namespace Go.Proofs.YtddobhneplfddaaDoor
open Go.RowKit
set_option linter.unusedSimpArgs false
set_option linter.unusedVariables false
attribute [local go_sem ↓] Go.wp_at_zero Go.wp_at_succ

set_option maxHeartbeats 4000000 in
theorem sumR1 (a b : Int) (ha : In64 a) (hb : In64 b) (h1 : 0 < b) (h2 : 9223372036854775807 - b < a) (w : World) : Calls Tryd.prog 69 #[.int .i64 a, .int .i64 b] w fun e w' => e = .returned (.tuple #[.int .i64 (0), .bool false]) ∧ w = w' := by
  obtain ⟨_, _⟩ := ha
  obtain ⟨_, _⟩ := hb
  go_enter Tryd.func69, Tryd.ntmps69
  go_wp2
  all_goals go_ret2
  all_goals refine ⟨?_, rfl⟩
  all_goals go_light
  all_goals first | rfl | simp

set_option maxHeartbeats 4000000 in
theorem sumR2 (a b : Int) (ha : In64 a) (hb : In64 b) (h1 : b < 0) (h2 : a < -9223372036854775808 - b) (w : World) : Calls Tryd.prog 69 #[.int .i64 a, .int .i64 b] w fun e w' => e = .returned (.tuple #[.int .i64 (0), .bool false]) ∧ w = w' := by
  obtain ⟨_, _⟩ := ha
  obtain ⟨_, _⟩ := hb
  go_enter Tryd.func69, Tryd.ntmps69
  go_wp2
  all_goals go_ret2
  all_goals refine ⟨?_, rfl⟩
  all_goals go_light
  all_goals first | rfl | simp

set_option maxHeartbeats 4000000 in
theorem sumR3 (a b : Int) (ha : In64 a) (hb : In64 b) (h1 : 0 < b) (h2 : ¬ 9223372036854775807 - b < a) (w : World) : Calls Tryd.prog 69 #[.int .i64 a, .int .i64 b] w fun e w' => e = .returned (.tuple #[.int .i64 (a + b), .bool true]) ∧ w = w' := by
  obtain ⟨_, _⟩ := ha
  obtain ⟨_, _⟩ := hb
  go_enter Tryd.func69, Tryd.ntmps69
  go_wp2
  all_goals go_ret2
  all_goals refine ⟨?_, rfl⟩
  all_goals go_light
  all_goals first | rfl | simp

set_option maxHeartbeats 4000000 in
theorem sumR4 (a b : Int) (ha : In64 a) (hb : In64 b) (h1 : b < 0) (h2 : ¬ a < -9223372036854775808 - b) (w : World) : Calls Tryd.prog 69 #[.int .i64 a, .int .i64 b] w fun e w' => e = .returned (.tuple #[.int .i64 (a + b), .bool true]) ∧ w = w' := by
  obtain ⟨_, _⟩ := ha
  obtain ⟨_, _⟩ := hb
  go_enter Tryd.func69, Tryd.ntmps69
  go_wp2
  all_goals go_ret2
  all_goals refine ⟨?_, rfl⟩
  all_goals go_light
  all_goals first | rfl | simp

set_option maxHeartbeats 4000000 in
theorem sumR5 (a b : Int) (ha : In64 a) (hb : In64 b) (h1 : b = 0) (w : World) : Calls Tryd.prog 69 #[.int .i64 a, .int .i64 b] w fun e w' => e = .returned (.tuple #[.int .i64 (a + 0), .bool true]) ∧ w = w' := by
  obtain ⟨_, _⟩ := ha
  obtain ⟨_, _⟩ := hb
  subst h1
  go_enter Tryd.func69, Tryd.ntmps69
  go_wp2
  all_goals go_ret2
  all_goals refine ⟨?_, rfl⟩
  all_goals go_light
  all_goals first | rfl | simp

theorem sumR (a b : Int) (ha : In64 a) (hb : In64 b) (w : World) : Calls Tryd.prog 69 #[.int .i64 a, .int .i64 b] w fun e w' => e = .returned (.tuple #[.int .i64 (if Sp.sumOk a b = true then a + b else 0), .bool (Sp.sumOk a b)]) ∧ w = w' := by
  have hb' := hb
  have ha' := ha
  obtain ⟨_, _⟩ := ha'
  obtain ⟨_, _⟩ := hb'
  rcases (by omega : (0 < b ∧ 9223372036854775807 - b < a) ∨ (b < 0 ∧ a < -9223372036854775808 - b) ∨ (0 < b ∧ ¬ 9223372036854775807 - b < a) ∨ (b < 0 ∧ ¬ a < -9223372036854775808 - b) ∨ b = 0) with ⟨h1, h2⟩ | ⟨h1, h2⟩ | ⟨h1, h2⟩ | ⟨h1, h2⟩ | h1
  · have e : Sp.sumOk a b = false := by rw [Bool.eq_false_iff, Ne, sumOk_iff]; omega
    rw [e]; exact sumR1 a b ha hb h1 h2 w
  · have e : Sp.sumOk a b = false := by rw [Bool.eq_false_iff, Ne, sumOk_iff]; omega
    rw [e]; exact sumR2 a b ha hb h1 h2 w
  · have e : Sp.sumOk a b = true := by rw [sumOk_iff]; omega
    rw [e]; exact sumR3 a b ha hb h1 h2 w
  · have e : Sp.sumOk a b = true := by rw [sumOk_iff]; omega
    rw [e]; exact sumR4 a b ha hb h1 h2 w
  · have e : Sp.sumOk a b = true := by rw [sumOk_iff]; omega
    rw [e]; have := sumR5 a b ha hb h1 w; subst h1; exact this

end Go.Proofs.YtddobhneplfddaaDoor


/-
  Layer 8 (span): the reference's ends: a loop over the numbers behind the first.
-/
namespace Go.Proofs.YtddobhneplfddaaDoor
open Go.RowKit
set_option linter.unusedSimpArgs false
set_option linter.unusedVariables false
attribute [local go_sem ↓] Go.wp_at_zero Go.wp_at_succ

theorem hullTo_wf (zs : List Int) : ∀ k, (hullTo zs k).lo ≤ (hullTo zs k).hi
  | 0 => Int.le_refl _
  | k + 1 => by
    have := hullTo_wf zs k
    simp only [hullTo, Sp.join, Sp.none, Sp.mn, Sp.mx]
    (repeat' split) <;> simp_all <;> (repeat' split) <;> omega
theorem hullTo_next (zs : List Int) (k : Nat) : hullTo zs (k + 1) = ⟨Sp.mn (hullTo zs k).lo (nthI zs k), Sp.mx (hullTo zs k).hi (nthI zs k)⟩ := by
  have := hullTo_wf zs k
  have h1 : (hullTo zs k).none = false := by simp [Sp.none]; omega
  have h2 : (Sp.mk (nthI zs k) (nthI zs k)).none = false := by simp [Sp.none]
  rw [hullTo, Sp.join, h1, h2]
  simp
end Go.Proofs.YtddobhneplfddaaDoor


/-
  Layer 8 (span): the walk of the reference's rests.
-/
namespace Go.Proofs.YtddobhneplfddaaDoor
open Go.RowKit
set_option linter.unusedSimpArgs false
set_option linter.unusedVariables false
attribute [local go_sem ↓] Go.wp_at_zero Go.wp_at_succ

end Go.Proofs.YtddobhneplfddaaDoor

namespace Go.Proofs.YtddobhneplfddaaDoor
set_option maxRecDepth 100000
open Go.RowKit
set_option linter.unusedSimpArgs false
set_option linter.unusedVariables false
def rowSp (r : List Sp) : List Value := r.flatMap fun a => [.int .i64 a.lo, .int .i64 a.hi]
theorem rowSp_len (r : List Sp) : (rowSp r).length = r.length * 2 := by
  induction r with
  | nil => rfl
  | cons a r ih =>
    have : rowSp (a :: r) = [.int .i64 a.lo, .int .i64 a.hi] ++ rowSp r := rfl
    rw [this, List.length_append, ih, List.length_cons]; simp; omega
theorem rowSp_get : ∀ (r : List Sp) (k : Nat) (h : k < r.length), (rowSp r)[k * 2]? = some (.int .i64 (r[k]).lo) ∧ (rowSp r)[k * 2 + 1]? = some (.int .i64 (r[k]).hi)
  | [], k, h => by simp at h
  | a :: r, 0, h => ⟨rfl, rfl⟩
  | a :: r, k + 1, h => by
    have ih := rowSp_get r k (by simpa using h)
    have e : rowSp (a :: r) = [.int .i64 a.lo, .int .i64 a.hi] ++ rowSp r := rfl
    rw [e, List.getElem?_append_right (by simp; omega), List.getElem?_append_right (by simp; omega)]
    rw [show (k + 1) * 2 - [Value.int .i64 a.lo, .int .i64 a.hi].length = k * 2 by simp; omega, show (k + 1) * 2 + 1 - [Value.int .i64 a.lo, .int .i64 a.hi].length = k * 2 + 1 by simp; omega]
    simpa using ih
theorem rowSp_set : ∀ (r : List Sp) (k : Nat) (a : Sp), k < r.length → rowSp (r.set k a) = ((rowSp r).set (k * 2) (.int .i64 a.lo)).set (k * 2 + 1) (.int .i64 a.hi)
  | [], k, a, h => by simp at h
  | b :: r, 0, a, h => rfl
  | b :: r, k + 1, a, h => by
    have ih := rowSp_set r k a (by simpa using h)
    have e : ∀ x r', rowSp (x :: r') = .int .i64 x.lo :: .int .i64 x.hi :: rowSp r' := fun _ _ => rfl
    rw [List.set_cons_succ, e, e, ih, show (k + 1) * 2 = k * 2 + 1 + 1 by omega, List.set_cons_succ, List.set_cons_succ, List.set_cons_succ, List.set_cons_succ]
theorem set_same {α : Type} {l : List α} {i : Nat} {v : α} (h : l[i]? = some v) : l.set i v = l := by
  apply List.ext_getElem?
  intro j
  rw [List.getElem?_set]
  split
  · rename_i e; subst e
    split
    · exact h.symm
    · rename_i hn; rw [List.getElem?_eq_none (by omega)] at h; cases h
  · rfl
/-- Block g begins with these spans, and may be written. -/
def RowS (w : World) (g cp : Nat) (r : List Sp) : Prop := ∃ cur, Whl w g 34 cur ∧ (r.length * 2 ≤ cur.size ∧ cur.size = cp * 2) ∧ cur.toList.take (r.length * 2) = rowSp r
namespace RowS
variable {w w' : World} {g cp : Nat} {r : List Sp}
theorem lt (h : RowS w g cp r) : g < w.heap.size := by obtain ⟨cur, hw, _⟩ := h; exact hw.lt
theorem cells (h : RowS w g cp r) {k : Nat} (hk : k < r.length) : w.cell? ⟨g, k * 2, none⟩ = some (.int .i64 (r[k]).lo) ∧ w.cell? ⟨g, k * 2 + 1, none⟩ = some (.int .i64 (r[k]).hi) ∧ w.frozen? ⟨g, k * 2, none⟩ = false ∧ w.frozen? ⟨g, k * 2 + 1, none⟩ = false := by
  obtain ⟨cur, hw, hn, ht⟩ := h
  obtain ⟨h1, h2⟩ := rowSp_get r k hk
  rw [← ht, List.getElem?_take, if_pos (by omega)] at h1 h2
  refine ⟨?_, ?_, hw.frozen _, hw.frozen _⟩
  · rw [hw.cell]; simpa using h1
  · rw [hw.cell]; simpa using h2
theorem below {B : Nat} (h : RowS w g cp r) (hb : Below B w w') (hg : g < B) : RowS w' g cp r := by obtain ⟨cur, hw, hh⟩ := h; exact ⟨cur, hw.below hb hg, hh⟩
theorem below' (h : RowS w g cp r) (hb : Below w.heap.size w w') : RowS w' g cp r := h.below hb h.lt
theorem alloc (h : RowS w g cp r) (o : Obj) : RowS (w.alloc o) g cp r := by obtain ⟨cur, hw, hh⟩ := h; exact ⟨cur, hw.alloc o, hh⟩
theorem drew (h : RowS w g cp r) : RowS w.drew g cp r := h
theorem drewN (h : RowS w g cp r) (n : Nat) : RowS (w.drewN n) g cp r := h
theorem far (h : RowS w g cp r) {p : Addr} (hp : g ≠ p.block) (u : Value) : RowS (w.setCell p u) g cp r := by obtain ⟨cur, hw, hh⟩ := h; exact ⟨cur, hw.far hp u, hh⟩
theorem grown {row : Option Nat} (h : RowS w g cp r) (hb : w.grownBy w' row) (hg : some g ≠ row) : RowS w' g cp r := by obtain ⟨cur, hw, hh⟩ := h; exact ⟨cur, hw.grown hb hg, hh⟩
theorem set (h : RowS w g cp r) {k : Nat} (hk : k < r.length) (a : Sp) : RowS ((w.setCell ⟨g, k * 2, none⟩ (.int .i64 a.lo)).setCell ⟨g, k * 2 + 1, none⟩ (.int .i64 a.hi)) g cp (r.set k a) := by
  obtain ⟨cur, hw, hn, ht⟩ := h
  refine ⟨_, (hw.put _ _).put _ _, by simpa using hn, ?_⟩
  rw [List.length_set, rowSp_set r k a hk, ← ht]
  simp only [Array.toList_setIfInBounds, List.take_set]
theorem setLo (h : RowS w g cp r) {k : Nat} (hk : k < r.length) (x : Int) : RowS (w.setCell ⟨g, k * 2, none⟩ (.int .i64 x)) g cp (r.set k ⟨x, (r[k]).hi⟩) := by
  obtain ⟨cur, hw, hn, ht⟩ := h
  refine ⟨_, hw.put _ _, by simpa using hn, ?_⟩
  have h2 := (rowSp_get r k hk).2
  rw [List.length_set, rowSp_set r k _ hk]
  rw [← ht] at h2 ⊢
  simp only [Array.toList_setIfInBounds, List.take_set]
  refine (set_same ?_).symm
  rw [List.getElem?_set, if_neg (by omega)]
  exact h2
end RowS
theorem gwRefl (A : World) (o : Option Nat) : A.grownBy A o := ⟨rfl, rfl, rfl, Nat.le_refl _, fun _ _ _ => rfl⟩
theorem gwTrans {A B C : World} {o : Option Nat} (h : A.grownBy B o) (k : B.grownBy C o) : A.grownBy C o :=
  ⟨k.os.trans h.os, k.tape.trans h.tape, k.output.trans h.output, Nat.le_trans h.size k.size, fun i hi hr => (k.block i (Nat.lt_of_lt_of_le hi h.size) hr).trans (h.block i hi hr)⟩
theorem gwBelow {A B : World} (h : Below A.heap.size A B) (o : Option Nat) : A.grownBy B o := ⟨h.os, h.tape, h.output, h.size, fun i hi _ => h.block i hi⟩
theorem gwSet (W : World) (b i : Nat) (v : Value) : W.grownBy (W.setCell ⟨b, i, none⟩ v) (some b) :=
  ⟨rfl, rfl, rfl, by simp, fun k _ hk => Below.heap_setCell _ _ _ k (fun e => hk (by rw [e]))⟩
theorem gwAlloc (W : World) (o : Option Nat) (b : Obj) : W.grownBy (W.alloc b) o := gwBelow ((Below.refl _ _).alloc (Nat.le_refl _) _) _
theorem gwDrewN (W : World) (o : Option Nat) (n : Nat) : W.grownBy (W.drewN n) o := ⟨rfl, rfl, rfl, Nat.le_refl _, fun _ _ _ => rfl⟩
theorem gwDrew (W : World) (o : Option Nat) : W.grownBy W.drew o := ⟨rfl, rfl, rfl, Nat.le_refl _, fun _ _ _ => rfl⟩
theorem belowOfGw {A B : World} {r n : Nat} (h : A.grownBy B (some r)) (hr : n ≤ r) (hn : n ≤ A.heap.size) : Below n A B :=
  ⟨h.os, h.tape, h.output, h.size, fun i hi => h.block i (Nat.lt_of_lt_of_le hi hn) (fun e => by cases e; omega)⟩
theorem wo0_eq {a : Sp} {b1 b2 : Bool} (h1 : (a.lo == 0) = b1) (h2 : (a.hi == 0) = b2) : wo0 a = ⟨if b1 then 1 else a.lo, if b2 then -1 else a.hi⟩ := by
  subst h1 h2; simp [wo0]
set_option maxHeartbeats 1000000 in
theorem without0P (a : Sp) (w : World) : Calls Tryd.prog 56 #[.agg #[.int .i64 a.lo, .int .i64 a.hi]] w fun e w' => e = .returned (.tuple #[.agg #[.int .i64 (wo0 a).lo, .int .i64 (wo0 a).hi], .bool (wo0Ok a)]) ∧ Below w.heap.size w w' := by
  cases h1 : (a.lo == 0) <;> cases h2 : (a.hi == 0)
  all_goals
    have HE := Lib.hid (wo0_eq h1 h2)
    go_enter Tryd.func56, Tryd.ntmps56
    go_wp2
    go_region
    go_wp2
    refine ret_of ?_ rfl
    refine ⟨_, by simp [results, Tryd.results56, go_sem]; rfl, ?_, by repeat (first | exact Below.refl _ _ | with_reducible apply Below.drew | with_reducible apply below_alloc | with_reducible refine Below.setCell ?_ (by simp) _)⟩
    rw [wo0Ok, HE.out]; try simp
theorem words_at {n many H : Int} (h0 : n ≠ -9223372036854775808) (h : wordsHi n many = H) : wordsS n many = ⟨-n, H⟩ ∧ wordsOk n many = decide (-n ≤ H) := by
  subst h
  refine ⟨rfl, ?_⟩
  rw [wordsOk, show (n == -9223372036854775808) = false by simpa using h0]; rfl
theorem words_wrap {n many : Int} (h1 : n < 0) (h2 : -9223372036854775808 < n) (m1 : 0 ≤ many) (m2 : many ≤ 4096) (h : 9223372036854775807 < many - 1 - n) : ∃ q, wrap64 (many - 1 - n) = q ∧ q < 0 ∧ 0 < many := by
  refine ⟨_, rfl, ?_, by omega⟩
  unfold wrap64
  omega
set_option maxHeartbeats 4000000 in
theorem wordsP (n many : Int) (hn : In64 n) (hm : 0 ≤ many ∧ many ≤ 4096) (w : World) : Calls Tryd.prog 57 #[.int .i64 n, .int .i64 many] w fun e w' => (∃ a : Sp, e = .returned (.tuple #[.agg #[.int .i64 a.lo, .int .i64 a.hi], .bool (wordsOk n many)]) ∧ (wordsOk n many = true → a = wordsS n many)) ∧ Below w.heap.size w w' := by
  obtain ⟨n1, n2⟩ := hn
  obtain ⟨m1, m2⟩ := hm
  cases h0 : (n == -9223372036854775808)
  · have h0' : n ≠ -9223372036854775808 := by simpa using h0
    have n3 : -9223372036854775808 < n := by omega
    by_cases hp : 0 ≤ n
    · have e1 : wordsHi n many = many - 1 - n := by
        rw [wordsHi, if_neg (by omega)]; exact IntWalk.wrap64_in _ ⟨by omega, by omega⟩
      obtain ⟨e2, e3⟩ := words_at h0' e1
      rw [e2, e3]
      clear e1 e2 e3 h0'
      go_enter Tryd.func57, Tryd.ntmps57
      have u1 : decide (n < 0) = false := by simp; omega
      go_wp2
      go_region
      all_goals
        go_wp2
        refine ret_of ?_ rfl
        refine ⟨_, by simp [results, Tryd.results57, go_sem] <;> first | rfl | omega, ⟨⟨-n, many - 1 - n⟩, rfl, fun _ => rfl⟩, by repeat (first | exact Below.refl _ _ | with_reducible apply Below.drew | with_reducible apply below_alloc | with_reducible refine Below.setCell ?_ (by simp) _)⟩
    · have hneg : n < 0 := by omega
      by_cases hov : many - 1 - n ≤ 9223372036854775807
      · have ew : wrap64 (many - 1 - n) = many - 1 - n := IntWalk.wrap64_in _ ⟨by omega, by omega⟩
        by_cases hlt : many - 1 - n < -n
        · have hm0 : many = 0 := by omega
          have e1 : wordsHi n many = many - 1 - n := by
            rw [wordsHi, ew, if_neg (by omega)]
          obtain ⟨e2, e3⟩ := words_at h0' e1
          rw [e2, e3]
          subst hm0
          clear e1 e2 e3 h0' ew hp
          go_enter Tryd.func57, Tryd.ntmps57
          go_wp2
          go_region
          all_goals
            go_wp2
            refine ret_of ?_ rfl
            refine ⟨_, by simp [results, Tryd.results57, go_sem] <;> first | rfl | omega, ⟨⟨-n, 0 - 1 - n⟩, rfl, fun _ => rfl⟩, by repeat (first | exact Below.refl _ _ | with_reducible apply Below.drew | with_reducible apply below_alloc | with_reducible refine Below.setCell ?_ (by simp) _)⟩
        · have e1 : wordsHi n many = many - 1 - n := by
            rw [wordsHi, ew, if_neg (by omega)]
          obtain ⟨e2, e3⟩ := words_at h0' e1
          rw [e2, e3]
          clear e1 e2 e3 h0' ew hp
          go_enter Tryd.func57, Tryd.ntmps57
          go_wp2
          go_region
          all_goals
            go_wp2
            refine ret_of ?_ rfl
            refine ⟨_, by simp [results, Tryd.results57, go_sem] <;> first | rfl | omega, ⟨⟨-n, many - 1 - n⟩, rfl, fun _ => rfl⟩, by repeat (first | exact Below.refl _ _ | with_reducible apply Below.drew | with_reducible apply below_alloc | with_reducible refine Below.setCell ?_ (by simp) _)⟩
      · obtain ⟨q, hq, q0, hm0⟩ := words_wrap hneg n3 m1 m2 (by omega)
        have e1 : wordsHi n many = 9223372036854775807 := by
          rw [wordsHi, hq, if_pos (by omega)]
        obtain ⟨e2, e3⟩ := words_at h0' e1
        rw [e2, e3]
        have u1 : decide (q < -n) = true := by simp; omega
        clear e1 e2 e3 h0' hp
        go_enter Tryd.func57, Tryd.ntmps57
        go_wp2
        go_region
        all_goals
          go_wp2
          refine ret_of ?_ rfl
          refine ⟨_, by simp [results, Tryd.results57, go_sem] <;> first | rfl | omega, ⟨⟨-n, 9223372036854775807⟩, rfl, fun _ => rfl⟩, by repeat (first | exact Below.refl _ _ | with_reducible apply Below.drew | with_reducible apply below_alloc | with_reducible refine Below.setCell ?_ (by simp) _)⟩
  · have hw : wordsOk n many = false := by rw [wordsOk, h0]; rfl
    rw [hw]
    go_enter Tryd.func57, Tryd.ntmps57
    go_wp2
    refine ret_of ?_ rfl
    refine ⟨_, by simp [results, Tryd.results57, go_sem] <;> rfl, ⟨⟨0, 0⟩, rfl, fun h => by cases h⟩, by repeat (first | exact Below.refl _ _ | with_reducible apply Below.drew | with_reducible apply below_alloc | with_reducible refine Below.setCell ?_ (by simp) _)⟩
/-- Below's like, where the row that is written is kept in sight. -/
theorem RowS.cells4 {w : World} {g cp : Nat} {r : List Sp} (h : RowS w g cp r) {k : Nat} {s : Sp} (hs : r[k]? = some s) : k < r.length ∧ w.cell? ⟨g, k * 2, none⟩ = some (.int .i64 s.lo) ∧ w.cell? ⟨g, k * 2 + 1, none⟩ = some (.int .i64 s.hi) ∧ w.frozen? ⟨g, k * 2, none⟩ = false ∧ w.frozen? ⟨g, k * 2 + 1, none⟩ = false := by
  obtain ⟨hk, rfl⟩ := List.getElem?_eq_some_iff.1 hs
  exact ⟨hk, h.cells hk⟩
end Go.Proofs.YtddobhneplfddaaDoor

namespace Go.Proofs.YtddobhneplfddaaDoor
set_option maxRecDepth 100000
open Go.RowKit
set_option linter.unusedSimpArgs false
set_option linter.unusedVariables false
attribute [local go_sem ↓] Go.wp_at_zero Go.wp_at_succ

/-- The machine's value of an operation; 0, if there is none. -/
def opV (op x y : Int) : Int :=
  if op = 3 then wrap64 (x + y) else if op = 4 then wrap64 (x - y) else if op = 5 then wrap64 (x * y) else
  if op = 6 then (if y = 0 then 0 else wrap64 (x.tdiv y)) else if op = 7 then (if y = 0 then 0 else x.tmod y) else
  if op = 8 then (if x < y then 1 else 0) else if op = 9 then (if x = y then 1 else 0) else if op = 10 then (if x = 0 then 1 else 0) else 0
def opOk (op y : Int) : Bool :=
  decide (op = 3) || decide (op = 4) || decide (op = 5) || decide (op = 8) || decide (op = 9) || decide (op = 10) || ((decide (op = 6) || decide (op = 7)) && !decide (y = 0))

set_option maxHeartbeats 4000000 in
theorem opR_3 (x y : Int) (w : World) : Calls Tryd.prog 47 #[.int .i64 3, .int .i64 x, .int .i64 y] w fun e w' => e = .returned (.tuple #[.int .i64 (wrap64 (x + y)), .bool true]) ∧ w = w' := by
  go_enter Tryd.func47, Tryd.ntmps47
  go_wp2
  all_goals (try simp only [Exit.inBlock, Exit.then])
  all_goals refine ret_of ?_ rfl
  all_goals simp [results, Tryd.results47, go_sem, *]
  all_goals (try simp_all)

set_option maxHeartbeats 4000000 in
theorem opR_4 (x y : Int) (w : World) : Calls Tryd.prog 47 #[.int .i64 4, .int .i64 x, .int .i64 y] w fun e w' => e = .returned (.tuple #[.int .i64 (wrap64 (x - y)), .bool true]) ∧ w = w' := by
  go_enter Tryd.func47, Tryd.ntmps47
  go_wp2
  all_goals (try simp only [Exit.inBlock, Exit.then])
  all_goals refine ret_of ?_ rfl
  all_goals simp [results, Tryd.results47, go_sem, *]
  all_goals (try simp_all)

set_option maxHeartbeats 4000000 in
theorem opR_5 (x y : Int) (w : World) : Calls Tryd.prog 47 #[.int .i64 5, .int .i64 x, .int .i64 y] w fun e w' => e = .returned (.tuple #[.int .i64 (wrap64 (x * y)), .bool true]) ∧ w = w' := by
  go_enter Tryd.func47, Tryd.ntmps47
  go_wp2
  all_goals (try simp only [Exit.inBlock, Exit.then])
  all_goals refine ret_of ?_ rfl
  all_goals simp [results, Tryd.results47, go_sem, *]
  all_goals (try simp_all)

set_option maxHeartbeats 4000000 in
theorem opR_6z (x y : Int) (h : (y == 0) = true) (w : World) : Calls Tryd.prog 47 #[.int .i64 6, .int .i64 x, .int .i64 y] w fun e w' => e = .returned (.tuple #[.int .i64 0, .bool false]) ∧ w = w' := by
  go_enter Tryd.func47, Tryd.ntmps47
  go_wp2
  all_goals (try simp only [Exit.inBlock, Exit.then])
  all_goals refine ret_of ?_ rfl
  all_goals simp [results, Tryd.results47, go_sem, *]
  all_goals (try simp_all)

set_option maxHeartbeats 4000000 in
theorem opR_6n (x y : Int) (h : (y == 0) = false) (w : World) : Calls Tryd.prog 47 #[.int .i64 6, .int .i64 x, .int .i64 y] w fun e w' => e = .returned (.tuple #[.int .i64 (wrap64 (x.tdiv y)), .bool true]) ∧ w = w' := by
  have h2 : ¬ y = 0 := by simpa using h
  go_enter Tryd.func47, Tryd.ntmps47
  go_wp2
  all_goals (try simp only [Exit.inBlock, Exit.then])
  all_goals refine ret_of ?_ rfl
  all_goals simp [results, Tryd.results47, go_sem, *]
  all_goals (try simp_all)

set_option maxHeartbeats 4000000 in
theorem opR_7z (x y : Int) (h : (y == 0) = true) (w : World) : Calls Tryd.prog 47 #[.int .i64 7, .int .i64 x, .int .i64 y] w fun e w' => e = .returned (.tuple #[.int .i64 0, .bool false]) ∧ w = w' := by
  go_enter Tryd.func47, Tryd.ntmps47
  go_wp2
  all_goals (try simp only [Exit.inBlock, Exit.then])
  all_goals refine ret_of ?_ rfl
  all_goals simp [results, Tryd.results47, go_sem, *]
  all_goals (try simp_all)

set_option maxHeartbeats 4000000 in
theorem opR_7n (x y : Int) (h : (y == 0) = false) (w : World) : Calls Tryd.prog 47 #[.int .i64 7, .int .i64 x, .int .i64 y] w fun e w' => e = .returned (.tuple #[.int .i64 (x.tmod y), .bool true]) ∧ w = w' := by
  have h2 : ¬ y = 0 := by simpa using h
  go_enter Tryd.func47, Tryd.ntmps47
  go_wp2
  all_goals (try simp only [Exit.inBlock, Exit.then])
  all_goals refine ret_of ?_ rfl
  all_goals simp [results, Tryd.results47, go_sem, *]
  all_goals (try simp_all)

set_option maxHeartbeats 4000000 in
theorem opR_8y (x y : Int) (h : decide (x < y) = true) (w : World) : Calls Tryd.prog 47 #[.int .i64 8, .int .i64 x, .int .i64 y] w fun e w' => e = .returned (.tuple #[.int .i64 1, .bool true]) ∧ w = w' := by
  go_enter Tryd.func47, Tryd.ntmps47
  go_wp2
  all_goals (try simp only [Exit.inBlock, Exit.then])
  all_goals refine ret_of ?_ rfl
  all_goals simp [results, Tryd.results47, go_sem, *]
  all_goals (try simp_all)

set_option maxHeartbeats 4000000 in
theorem opR_8n (x y : Int) (h : decide (x < y) = false) (w : World) : Calls Tryd.prog 47 #[.int .i64 8, .int .i64 x, .int .i64 y] w fun e w' => e = .returned (.tuple #[.int .i64 0, .bool true]) ∧ w = w' := by
  go_enter Tryd.func47, Tryd.ntmps47
  go_wp2
  all_goals (try simp only [Exit.inBlock, Exit.then])
  all_goals refine ret_of ?_ rfl
  all_goals simp [results, Tryd.results47, go_sem, *]
  all_goals (try simp_all)

set_option maxHeartbeats 4000000 in
theorem opR_9y (x y : Int) (h : (x == y) = true) (w : World) : Calls Tryd.prog 47 #[.int .i64 9, .int .i64 x, .int .i64 y] w fun e w' => e = .returned (.tuple #[.int .i64 1, .bool true]) ∧ w = w' := by
  go_enter Tryd.func47, Tryd.ntmps47
  go_wp2
  all_goals (try simp only [Exit.inBlock, Exit.then])
  all_goals refine ret_of ?_ rfl
  all_goals simp [results, Tryd.results47, go_sem, *]
  all_goals (try simp_all)

set_option maxHeartbeats 4000000 in
theorem opR_9n (x y : Int) (h : (x == y) = false) (w : World) : Calls Tryd.prog 47 #[.int .i64 9, .int .i64 x, .int .i64 y] w fun e w' => e = .returned (.tuple #[.int .i64 0, .bool true]) ∧ w = w' := by
  go_enter Tryd.func47, Tryd.ntmps47
  go_wp2
  all_goals (try simp only [Exit.inBlock, Exit.then])
  all_goals refine ret_of ?_ rfl
  all_goals simp [results, Tryd.results47, go_sem, *]
  all_goals (try simp_all)

set_option maxHeartbeats 4000000 in
theorem opR_10y (x y : Int) (h : (x == 0) = true) (w : World) : Calls Tryd.prog 47 #[.int .i64 10, .int .i64 x, .int .i64 y] w fun e w' => e = .returned (.tuple #[.int .i64 1, .bool true]) ∧ w = w' := by
  go_enter Tryd.func47, Tryd.ntmps47
  go_wp2
  all_goals (try simp only [Exit.inBlock, Exit.then])
  all_goals refine ret_of ?_ rfl
  all_goals simp [results, Tryd.results47, go_sem, *]
  all_goals (try simp_all)

set_option maxHeartbeats 4000000 in
theorem opR_10n (x y : Int) (h : (x == 0) = false) (w : World) : Calls Tryd.prog 47 #[.int .i64 10, .int .i64 x, .int .i64 y] w fun e w' => e = .returned (.tuple #[.int .i64 0, .bool true]) ∧ w = w' := by
  go_enter Tryd.func47, Tryd.ntmps47
  go_wp2
  all_goals (try simp only [Exit.inBlock, Exit.then])
  all_goals refine ret_of ?_ rfl
  all_goals simp [results, Tryd.results47, go_sem, *]
  all_goals (try simp_all)

set_option maxHeartbeats 4000000 in
theorem opR_o (x y : Int) (op : Int) (o3 : (op == 3) = false) (o4 : (op == 4) = false) (o5 : (op == 5) = false) (o6 : (op == 6) = false) (o7 : (op == 7) = false) (o8 : (op == 8) = false) (o9 : (op == 9) = false) (o10 : (op == 10) = false) (w : World) : Calls Tryd.prog 47 #[.int .i64 op, .int .i64 x, .int .i64 y] w fun e w' => e = .returned (.tuple #[.int .i64 0, .bool false]) ∧ w = w' := by
  go_enter Tryd.func47, Tryd.ntmps47
  go_wp2
  all_goals (try simp only [Exit.inBlock, Exit.then])
  all_goals refine ret_of ?_ rfl
  all_goals simp [results, Tryd.results47, go_sem, *]
  all_goals (try simp_all)

theorem opR (op x y : Int) (w : World) : Calls Tryd.prog 47 #[.int .i64 op, .int .i64 x, .int .i64 y] w fun e w' => e = .returned (.tuple #[.int .i64 (opV op x y), .bool (opOk op y)]) ∧ w = w' := by
  by_cases o3 : op = 3
  · subst o3; exact opR_3 x y w
  by_cases o4 : op = 4
  · subst o4; exact opR_4 x y w
  by_cases o5 : op = 5
  · subst o5; exact opR_5 x y w
  by_cases o6 : op = 6
  · subst o6
    cases h : (y == 0)
    · have h2 : ¬ y = 0 := by simpa using h
      rw [show opV 6 x y = wrap64 (x.tdiv y) from by simp [opV, h2], show opOk 6 y = true from by simp [opOk, h2]]; exact opR_6n x y h w
    · have h2 : y = 0 := by simpa using h
      rw [show opV 6 x y = 0 from by simp [opV, h2], show opOk 6 y = false from by simp [opOk, h2]]; exact opR_6z x y h w
  by_cases o7 : op = 7
  · subst o7
    cases h : (y == 0)
    · have h2 : ¬ y = 0 := by simpa using h
      rw [show opV 7 x y = x.tmod y from by simp [opV, h2], show opOk 7 y = true from by simp [opOk, h2]]; exact opR_7n x y h w
    · have h2 : y = 0 := by simpa using h
      rw [show opV 7 x y = 0 from by simp [opV, h2], show opOk 7 y = false from by simp [opOk, h2]]; exact opR_7z x y h w
  by_cases o8 : op = 8
  · subst o8
    cases h : decide (x < y)
    · have h2 : ¬ x < y := by simpa using h
      rw [show opV 8 x y = 0 from by simp [opV, h2]]; exact opR_8n x y h w
    · have h2 : x < y := by simpa using h
      rw [show opV 8 x y = 1 from by simp [opV, h2]]; exact opR_8y x y h w
  by_cases o9 : op = 9
  · subst o9
    cases h : (x == y)
    · have h2 : ¬ x = y := by simpa using h
      rw [show opV 9 x y = 0 from by simp [opV, h2]]; exact opR_9n x y h w
    · have h2 : x = y := by simpa using h
      rw [show opV 9 x y = 1 from by simp [opV, h2]]; exact opR_9y x y h w
  by_cases o10 : op = 10
  · subst o10
    cases h : (x == 0)
    · have h2 : ¬ x = 0 := by simpa using h
      rw [show opV 10 x y = 0 from by simp [opV, h2]]; exact opR_10n x y h w
    · have h2 : x = 0 := by simpa using h
      rw [show opV 10 x y = 1 from by simp [opV, h2]]; exact opR_10y x y h w
  rw [show opV op x y = 0 from by simp [opV, o3, o4, o5, o6, o7, o8, o9, o10], show opOk op y = false from by simp [opOk, o3, o4, o5, o6, o7, o8, o9, o10]]
  exact opR_o x y op (by simpa using o3) (by simpa using o4) (by simpa using o5) (by simpa using o6) (by simpa using o7) (by simpa using o8) (by simpa using o9) (by simpa using o10) w

end Go.Proofs.YtddobhneplfddaaDoor
