/-
  Layer 1 (scan): what the digits of a number spell, and what strconv.ParseInt answers; a token in Go's form.
-/
import Derived.Test.YtihfllkgoolkhaaDoorScanE
import Derived.WalkSmall
namespace Go.Proofs.YtihfllkgoolkhaaDoor
open Go.RowKit
set_option linter.unusedSimpArgs false
set_option linter.unusedVariables false
theorem valF_cons (a : Nat) (c : UInt8) (l : List UInt8) : valF a (c :: l) = valF (10 * a + (c.toNat - 48)) l := by rw [valF, List.foldl_cons]; rfl
theorem valF_nil (a : Nat) : valF a [] = a := rfl
theorem valF_ge (l : List UInt8) : ∀ a : Nat, a ≤ valF a l := by
  induction l with
  | nil => intro a; rw [valF_nil]; exact Nat.le_refl _
  | cons c l ih =>
    intro a
    have := ih (10 * a + (c.toNat - 48))
    rw [valF_cons]; omega
theorem uint_ok : ∀ (l : List UInt8) (a : Nat), (∀ c ∈ l, digitB c = true) → valF a l ≤ 18446744073709551615 → Lib.parseUintM 18446744073709551615 a l = .ok (valF a l)
  | [], a, _, _ => rfl
  | c :: l, a, hd, hv => by
    have h1 := hd c (List.mem_cons_self ..)
    simp only [digitB, Bool.and_eq_true, decide_eq_true_eq] at h1
    rw [valF_cons] at hv ⊢
    have h2 := valF_ge l (10 * a + (c.toNat - 48))
    rw [Lib.parseUintM, if_pos h1, if_neg (by omega), if_neg (by omega), show a * 10 + (c.toNat - 48) = 10 * a + (c.toNat - 48) by omega]
    exact uint_ok l _ (fun x hx => hd x (List.mem_cons_of_mem _ hx)) hv
theorem uint_range : ∀ (l : List UInt8) (a : Nat), (∀ c ∈ l, digitB c = true) → a ≤ 18446744073709551615 → 18446744073709551615 < valF a l → Lib.parseUintM 18446744073709551615 a l = .range
  | [], a, _, h1, h2 => by rw [valF_nil] at h2; omega
  | c :: l, a, hd, ha, hv => by
    have h1 := hd c (List.mem_cons_self ..)
    simp only [digitB, Bool.and_eq_true, decide_eq_true_eq] at h1
    rw [valF_cons] at hv
    rw [Lib.parseUintM, if_pos h1]
    split
    · rfl
    · split
      · rfl
      · rw [show a * 10 + (c.toNat - 48) = 10 * a + (c.toNat - 48) by omega]
        exact uint_range l _ (fun x hx => hd x (List.mem_cons_of_mem _ hx)) (by omega) hv
theorem parse_ok {l : List UInt8} (h0 : l ≠ []) (hd : ∀ c ∈ l, digitB c = true) (hv : ¬ 9223372036854775807 < valN l) : Lib.parseIntB 64 l = .ok (valN l : Nat) := by
  cases l with
  | nil => exact absurd rfl h0
  | cons c r =>
    have h1 := hd c (List.mem_cons_self ..)
    simp only [digitB, Bool.and_eq_true, decide_eq_true_eq] at h1
    have h2 := uint_ok (c :: r) 0 hd (by show valN (c :: r) ≤ _; omega)
    rw [Lib.parseIntB, if_neg (by omega), Lib.parseUintB, if_neg h0]
    rw [show (2 ^ 64 - 1 : Nat) = 18446744073709551615 by rfl, h2]
    change (if ¬ c.toNat = 45 ∧ 2 ^ (64 - 1) ≤ valN (c :: r) then Lib.NumEnd.range else if c.toNat = 45 ∧ 2 ^ (64 - 1) < valN (c :: r) then .range else .ok (if c.toNat = 45 then -(valN (c :: r) : Int) else valN (c :: r))) = _
    rw [if_neg (by omega), if_neg (by omega), if_neg (by omega)]
theorem parse_range {l : List UInt8} (h0 : l ≠ []) (hd : ∀ c ∈ l, digitB c = true) (hv : 9223372036854775807 < valN l) : Lib.parseIntB 64 l = .range := by
  cases l with
  | nil => exact absurd rfl h0
  | cons c r =>
    have h1 := hd c (List.mem_cons_self ..)
    simp only [digitB, Bool.and_eq_true, decide_eq_true_eq] at h1
    rw [Lib.parseIntB, if_neg (by omega), Lib.parseUintB, if_neg h0]
    rw [show (2 ^ 64 - 1 : Nat) = 18446744073709551615 by rfl]
    by_cases h : 18446744073709551615 < valN (c :: r)
    · rw [uint_range (c :: r) 0 hd (by decide) h]
    · rw [uint_ok (c :: r) 0 hd (by show valN (c :: r) ≤ _; omega)]
      change (if ¬ c.toNat = 45 ∧ 2 ^ (64 - 1) ≤ valN (c :: r) then Lib.NumEnd.range else if c.toNat = 45 ∧ 2 ^ (64 - 1) < valN (c :: r) then .range else .ok (if c.toNat = 45 then -(valN (c :: r) : Int) else valN (c :: r))) = _
      rw [if_pos (by omega)]
theorem cutL_row (p : UInt8 → Bool) (L : List UInt8) (k : Nat) : cutL L k (rowD p L k) = (L.drop k).takeWhile p := by
  rw [cutL, rowD, show k + ((L.drop k).takeWhile p).length - k = ((L.drop k).takeWhile p).length by omega]
  exact (List.prefix_iff_eq_take.1 (List.takeWhile_prefix p)).symm
theorem cutL_all {p : UInt8 → Bool} {L : List UInt8} {k : Nat} : ∀ c ∈ cutL L k (rowD p L k), p c = true := by
  rw [cutL_row]; exact fun c hc => List.all_eq_true.1 List.all_takeWhile c hc
theorem cutL_some {L : List UInt8} {k m : Nat} (h : k < m) (hm : m ≤ L.length) : cutL L k m ≠ [] := by
  intro e
  have := congrArg List.length e
  rw [cutL, List.length_take, List.length_drop] at this
  simp at this; omega
/-- A token in Go's form. -/
def tokV (s : ByteArray) (t : TokD) : Value := .agg #[.int .i64 t.kind, .int .i64 (t.at_ : Int), .string (s.extract t.at_ (t.at_ + t.len)), .int .i64 t.n]
/-- What next tells. -/
def NextE (s : ByteArray) : OneR → Ending → Prop
  | .tok t, e => e = .returned (.tuple #[tokV s t, .int .i64 0])
  | .err x, e => x ≠ 0 ∧ ∃ (a b : Int) (c : ByteArray) (d : Int), e = .returned (.tuple #[.agg #[.int .i64 a, .int .i64 b, .string c, .int .i64 d], .int .i64 x])
/-- The error that ParseInt wraps is laid. -/
def RangeVar (w : World) : Prop := ∃ tp p, 1 < w.heap.size ∧ w.var? Tryd.prog "strconv.ErrRange" = some #[.iface tp p]
theorem range_named : Tryd.prog.globalNamed "strconv.ErrRange" = some 1 := by kernel_rfl
theorem RangeVar.below {w w' : World} (h : RangeVar w) (hb : Below w.heap.size w w') : RangeVar w' := by
  obtain ⟨tp, p, hg, hv⟩ := h
  exact ⟨tp, p, Nat.lt_of_lt_of_le hg hb.size, var?_below hb range_named hg hv⟩
theorem ext_size {s : ByteArray} {k m : Nat} (hm : m ≤ s.size) : (s.extract k m).size = m - k := by
  rw [ByteArray.size_extract]; omega
end Go.Proofs.YtihfllkgoolkhaaDoor
