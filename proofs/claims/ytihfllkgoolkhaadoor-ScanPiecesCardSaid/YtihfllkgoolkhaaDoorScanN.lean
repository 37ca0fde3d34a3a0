/-
  Layer 1 (scan), in plain Lean: tokens of what stands behind other bytes.
-/
import Derived.Test.YtihfllkgoolkhaaDoorScanA
namespace Go.Proofs.YtihfllkgoolkhaaDoor
set_option linter.unusedSimpArgs false
set_option linter.unusedVariables false
theorem drop_sh (A R : List UInt8) (k : Nat) : (A ++ R).drop (A.length + k) = R.drop k := by
  rw [← List.drop_drop, List.drop_left]
theorem getD_sh (A R : List UInt8) (k : Nat) : (A ++ R).getD (A.length + k) 0 = R.getD k 0 := by
  rw [List.getD_eq_getElem?_getD, List.getD_eq_getElem?_getD, List.getElem?_append_right (by omega), show A.length + k - A.length = k by omega]
theorem rowD_sh (p : UInt8 → Bool) (A R : List UInt8) (k : Nat) : rowD p (A ++ R) (A.length + k) = A.length + rowD p R k := by
  rw [rowD, rowD, drop_sh]; omega
theorem skipD_sh (A R : List UInt8) (k : Nat) : skipD (A ++ R) (A.length + k) = A.length + skipD R k := by
  rw [skipD, skipD, drop_sh]; omega
theorem signD_sh (A R : List UInt8) (k : Nat) : signD (A ++ R) (A.length + k) = signD R k := by
  rw [signD, signD, drop_sh, getD_sh]
theorem cutL_sh (A R : List UInt8) (k e : Nat) : cutL (A ++ R) (A.length + k) (A.length + e) = cutL R k e := by
  rw [cutL, cutL, drop_sh, Nat.add_sub_add_left]
def shT (n : Nat) (t : TokD) : TokD := { t with at_ := n + t.at_ }
def shR (n : Nat) : OneR → OneR
  | .tok t => .tok (shT n t)
  | .err e => .err e
theorem oneD_sh (A R : List UInt8) (k : Nat) : oneD (A ++ R) (A.length + k) = shR A.length (oneD R k) := by
  unfold oneD
  rw [getD_sh, rowD_sh, rowD_sh, cutL_sh, cutL_sh, signD_sh, Nat.add_sub_add_left, Nat.add_sub_add_left]
  split
  · split <;> rfl
  · split
    · split <;> rfl
    · split <;> rfl
theorem aheadF_sh (A R : List UInt8) : ∀ (n k : Nat), aheadF (A ++ R) n (A.length + k) = ⟨(aheadF R n k).toks.map (shT A.length), (aheadF R n k).e, if (aheadF R n k).e = 0 then (aheadF R n k).p else A.length + (aheadF R n k).p⟩
  | 0, k => rfl
  | n + 1, k => by
    rw [aheadF, aheadF, oneD_sh, List.length_append]
    by_cases h : k < R.length
    · rw [if_pos (by omega), if_pos h]
      cases ho : oneD R k with
      | err e =>
        have he : e ≠ 0 := by
          rw [oneD] at ho
          split at ho
          · split at ho <;> first | (cases ho; decide) | cases ho
          · split at ho
            · split at ho <;> first | (cases ho; decide) | cases ho
            · split at ho <;> first | (cases ho; decide) | cases ho
        simp [shR, he]
      | tok t =>
        have hat : t.at_ = k := (oneD_pos h ho).2.2
        have ih := aheadF_sh A R n (skipD R (k + t.len))
        simp only [shR]
        rw [show A.length + k + (shT A.length t).len = A.length + (k + t.len) by simp only [shT]; omega, skipD_sh, ih]
        rfl
    · rw [if_neg (by omega), if_neg h]; rfl
theorem takeWhile_stop {p : UInt8 → Bool} {c : UInt8} (hc : p c = false) (m : List UInt8) : ∀ l : List UInt8, (l ++ c :: m).takeWhile p = l.takeWhile p
  | [] => by rw [List.nil_append, List.takeWhile_cons_of_neg (by rw [hc]; decide)]; rfl
  | x :: l => by
    rw [List.cons_append, List.takeWhile_cons, List.takeWhile_cons, takeWhile_stop hc m l]
theorem rowD_app {p : UInt8 → Bool} {c : UInt8} (hc : p c = false) (A B : List UInt8) {k : Nat} (hk : k ≤ A.length) : rowD p (A ++ c :: B) k = rowD p A k := by
  rw [rowD, rowD, List.drop_append_of_le_length hk, takeWhile_stop hc]
theorem skipL_app (m : List UInt8) : ∀ (l : List UInt8) (r : Bool), skipL r (l ++ 10 :: m) = if skipL r l = l.length then l.length + 1 + skipL false m else skipL r l
  | [], false => by simp [skipL, blankB]
  | [], true => by simp [skipL]
  | c :: l, false => by
    have h1 := skipL_app m l false
    have h2 := skipL_app m l true
    rw [List.cons_append, skipL, skipL, h1, h2, List.length_cons]
    by_cases hb : blankB c = true
    · rw [if_pos hb, if_pos hb]; split <;> split <;> omega
    · rw [if_neg hb, if_neg hb]
      by_cases h35 : (c == 35) = true
      · rw [if_pos h35, if_pos h35]; split <;> split <;> omega
      · rw [if_neg h35, if_neg h35, if_neg (by omega)]
  | c :: l, true => by
    have h1 := skipL_app m l false
    have h2 := skipL_app m l true
    rw [List.cons_append, skipL, skipL, h1, h2, List.length_cons]
    by_cases h10 : (c == 10) = true
    · rw [if_pos h10, if_pos h10]; split <;> split <;> omega
    · rw [if_neg h10, if_neg h10]; split <;> split <;> omega
theorem skipD_app (A B : List UInt8) {k : Nat} (hk : k ≤ A.length) : skipD (A ++ 10 :: B) k = if skipD A k = A.length then A.length + 1 + skipD B 0 else skipD A k := by
  have h := skipL_app B (A.drop k) false
  rw [List.length_drop] at h
  have hl := skipL_le (A.drop k) false
  rw [List.length_drop] at hl
  rw [skipD, skipD, skipD, List.drop_append_of_le_length hk, h, List.drop_zero]
  split <;> split <;> omega
theorem getD_app (A B : List UInt8) {k : Nat} (hk : k < A.length) : (A ++ B).getD k 0 = A.getD k 0 := by
  rw [List.getD_eq_getElem?_getD, List.getD_eq_getElem?_getD, List.getElem?_append_left hk]
theorem cutL_app (A B : List UInt8) {k e : Nat} (hk : k ≤ A.length) (he : e ≤ A.length) : cutL (A ++ B) k e = cutL A k e := by
  rw [cutL, cutL, List.drop_append_of_le_length hk, List.take_append_of_le_length (by rw [List.length_drop]; omega)]
theorem twoB_app (A B : List UInt8) {k : Nat} (hk : k < A.length) : twoB ((A ++ 10 :: B).drop k) = twoB (A.drop k) := by
  rw [List.drop_append_of_le_length (Nat.le_of_lt hk)]
  rcases Nat.lt_or_ge (k + 1) A.length with h | h
  · rw [twoB, twoB, List.take_append_of_le_length (by rw [List.length_drop]; omega)]
  · have e : A.drop k = [A.getD k 0] := by
      rw [drop_get hk, List.drop_eq_nil_of_le h]
    rw [e]
    simp [twoB, twoL]
theorem oneD_app (A B : List UInt8) {k : Nat} (hk : k < A.length) : oneD (A ++ 10 :: B) k = oneD A k := by
  have h1 := rowD_app (p := alnumB) (c := 10) (by decide) A B (Nat.le_of_lt hk)
  have h2 := rowD_app (p := digitB) (c := 10) (by decide) A B (Nat.le_of_lt hk)
  have l1 := rowD_le (p := alnumB) (L := A) (k := k) (Nat.le_of_lt hk)
  have l2 := rowD_le (p := digitB) (L := A) (k := k) (Nat.le_of_lt hk)
  rw [oneD, oneD, getD_app A _ hk, h1, h2, cutL_app A _ (Nat.le_of_lt hk) l1, cutL_app A _ (Nat.le_of_lt hk) l2, signD, signD, twoB_app A B hk, getD_app A _ hk]
theorem oneD_err_ne {L : List UInt8} {k : Nat} {e : Int} (ho : oneD L k = .err e) : e ≠ 0 := by
  rw [oneD] at ho
  split at ho
  · split at ho <;> first | (cases ho; decide) | cases ho
  · split at ho
    · split at ho <;> first | (cases ho; decide) | cases ho
    · split at ho <;> first | (cases ho; decide) | cases ho
theorem aheadD_sh (A R : List UInt8) (k : Nat) : aheadD (A ++ R) (A.length + k) = ⟨(aheadD R k).toks.map (shT A.length), (aheadD R k).e, if (aheadD R k).e = 0 then (aheadD R k).p else A.length + (aheadD R k).p⟩ := by
  rw [aheadD, aheadF_sh, aheadD, aheadF_fuel R ((A ++ R).length + 1) (R.length + 1) k (by rw [List.length_append]; omega) (by omega)]
/-- The tokens of a source and behind them those of another one, n bytes on. -/
def joinR (n : Nat) (R S : AheadR) : AheadR := if R.e = 0 then ⟨R.toks ++ S.toks.map (shT n), S.e, if S.e = 0 then S.p else n + S.p⟩ else R
theorem aheadD_app (A B : List UInt8) : ∀ (d k : Nat), A.length - k ≤ d → k ≤ A.length →
    aheadD (A ++ 10 :: B) (skipD (A ++ 10 :: B) k) = joinR (A.length + 1) (aheadD A (skipD A k)) (aheadD B (skipD B 0)) := by
  intro d
  induction d with
  | zero =>
    intro k hd hk
    have hs : skipD A k = A.length := by have := skipD_ge A k; have := skipD_le (L := A) hk; omega
    have h := aheadD_sh (A ++ [10]) B (skipD B 0)
    rw [List.append_assoc, List.length_append] at h
    rw [skipD_app A B hk, if_pos hs, hs, aheadD_end (Nat.le_refl _)]
    exact h
  | succ d ih =>
    intro k hd hk
    rw [skipD_app A B hk]
    by_cases hs : skipD A k = A.length
    · have h := aheadD_sh (A ++ [10]) B (skipD B 0)
      rw [List.append_assoc, List.length_append] at h
      rw [if_pos hs, hs, aheadD_end (Nat.le_refl _)]
      exact h
    · rw [if_neg hs]
      have hlt : skipD A k < A.length := by have := skipD_le (L := A) hk; omega
      have hge := skipD_ge A k
      have hltL : skipD A k < (A ++ 10 :: B).length := by rw [List.length_append]; omega
      generalize skipD A k = j at *
      have hO := oneD_app A B hlt
      cases ho : oneD A j with
      | err e =>
        rw [aheadD_err hltL (hO.trans ho), aheadD_err hlt ho, joinR, if_neg (oneD_err_ne ho)]
      | tok t =>
        have hp := oneD_pos hlt ho
        rw [aheadD_tok hltL (hO.trans ho), aheadD_tok hlt ho, ih (j + t.len) (by omega) hp.2.1]
        generalize aheadD A (skipD A (j + t.len)) = R
        generalize aheadD B (skipD B 0) = S
        rw [joinR, joinR]
        by_cases he : R.e = 0
        · simp [he]
        · simp [he]
end Go.Proofs.YtihfllkgoolkhaaDoor
