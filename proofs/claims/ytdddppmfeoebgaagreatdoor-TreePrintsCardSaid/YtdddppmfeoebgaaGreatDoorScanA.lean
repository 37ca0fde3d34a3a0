/-
  Layer 1 (scan), in plain Lean: where rows of bytes and blanks end, words, signs, the token at a place, the tokens of a source.
-/
import Derived.Test.YtdddppmfeoebgaaGreatDoorKeep
import Derived.IntWalk
namespace Go.Proofs.YtdddppmfeoebgaaGreatDoor
open Go.RowKit
set_option linter.unusedSimpArgs false
set_option linter.unusedVariables false
def letterB (c : UInt8) : Bool := decide (97 ≤ c.toNat) && decide (c.toNat ≤ 122)
def digitB (c : UInt8) : Bool := decide (48 ≤ c.toNat) && decide (c.toNat ≤ 57)
def alnumB (c : UInt8) : Bool := letterB c || digitB c
def noNl (c : UInt8) : Bool := !(c == 10)
def blankB (c : UInt8) : Bool := c == 32 || c == 9 || c == 10 || c == 13
/-- Where the longest row of bytes of a kind ends that begins at k. -/
def rowD (p : UInt8 → Bool) (L : List UInt8) (k : Nat) : Nat := k + ((L.drop k).takeWhile p).length
theorem rowD_yes {p : UInt8 → Bool} {L : List UInt8} {k : Nat} (h : k < L.length) (hp : p (L.getD k 0) = true) : rowD p L k = rowD p L (k + 1) := by
  have e : L.getD k 0 = L[k] := by simp [List.getD_eq_getElem?_getD, h]
  rw [e] at hp
  rw [rowD, rowD, List.drop_eq_getElem_cons h, List.takeWhile_cons_of_pos hp, List.length_cons]; omega
theorem rowD_no {p : UInt8 → Bool} {L : List UInt8} {k : Nat} (h : k < L.length) (hp : p (L.getD k 0) = false) : rowD p L k = k := by
  have e : L.getD k 0 = L[k] := by simp [List.getD_eq_getElem?_getD, h]
  rw [e] at hp
  rw [rowD, List.drop_eq_getElem_cons h, List.takeWhile_cons_of_neg (by rw [hp]; decide)]; simp
theorem rowD_end {p : UInt8 → Bool} {L : List UInt8} {k : Nat} (h : L.length ≤ k) : rowD p L k = k := by
  rw [rowD, List.drop_eq_nil_of_le h]; simp
theorem rowD_ge (p : UInt8 → Bool) (L : List UInt8) (k : Nat) : k ≤ rowD p L k := Nat.le_add_right _ _
theorem rowD_le {p : UInt8 → Bool} {L : List UInt8} {k : Nat} (h : k ≤ L.length) : rowD p L k ≤ L.length := by
  have h1 := List.takeWhile_prefix (l := L.drop k) p
  have h2 := h1.length_le
  rw [List.length_drop] at h2
  unfold rowD; omega
/-- Blanks and remarks. -/
def skipL : Bool → List UInt8 → Nat
  | _, [] => 0
  | false, c :: l => if blankB c then 1 + skipL false l else if c == 35 then 1 + skipL true l else 0
  | true, c :: l => if c == 10 then 1 + skipL false l else 1 + skipL true l
def skipD (L : List UInt8) (k : Nat) : Nat := k + skipL false (L.drop k)
def remD (L : List UInt8) (k : Nat) : Nat := k + skipL true (L.drop k)
theorem drop_get {L : List UInt8} {k : Nat} (h : k < L.length) : L.drop k = L.getD k 0 :: L.drop (k + 1) := by
  rw [List.drop_eq_getElem_cons h]; simp [List.getD_eq_getElem?_getD, h]
theorem skipD_end {L : List UInt8} {k : Nat} (h : L.length ≤ k) : skipD L k = k := by rw [skipD, List.drop_eq_nil_of_le h]; rfl
theorem skipD_blank {L : List UInt8} {k : Nat} (h : k < L.length) (hb : blankB (L.getD k 0) = true) : skipD L k = skipD L (k + 1) := by
  rw [skipD, skipD, drop_get h, skipL, if_pos hb]; omega
theorem skipD_rem {L : List UInt8} {k : Nat} (h : k < L.length) (hb : blankB (L.getD k 0) = false) (hr : (L.getD k 0 == 35) = true) : skipD L k = remD L (k + 1) := by
  rw [skipD, remD, drop_get h, skipL, if_neg (by rw [hb]; decide), if_pos hr]; omega
theorem skipD_stop {L : List UInt8} {k : Nat} (h : k < L.length) (hb : blankB (L.getD k 0) = false) (hr : (L.getD k 0 == 35) = false) : skipD L k = k := by
  rw [skipD, drop_get h, skipL, if_neg (by rw [hb]; decide), if_neg (by rw [hr]; decide)]; rfl
theorem remD_end {L : List UInt8} {k : Nat} (h : L.length ≤ k) : remD L k = k := by rw [remD, List.drop_eq_nil_of_le h]; rfl
theorem remD_nl {L : List UInt8} {k : Nat} (h : k < L.length) (hr : (L.getD k 0 == 10) = true) : remD L k = skipD L (k + 1) := by
  rw [skipD, remD, drop_get h, skipL, if_pos hr]; omega
theorem remD_go {L : List UInt8} {k : Nat} (h : k < L.length) (hr : (L.getD k 0 == 10) = false) : remD L k = remD L (k + 1) := by
  rw [remD, remD, drop_get h, skipL, if_neg (by rw [hr]; decide)]; omega
theorem skipL_le : ∀ (l : List UInt8) (r : Bool), skipL r l ≤ l.length
  | [], r => by cases r <;> simp [skipL]
  | c :: l, false => by
    have h1 := skipL_le l false
    have h2 := skipL_le l true
    rw [skipL]; simp only [List.length_cons]
    split
    · omega
    · split <;> omega
  | c :: l, true => by
    have h1 := skipL_le l false
    have h2 := skipL_le l true
    rw [skipL]; simp only [List.length_cons]
    split <;> omega
theorem skipD_ge (L : List UInt8) (k : Nat) : k ≤ skipD L k := Nat.le_add_right _ _
theorem skipD_le {L : List UInt8} {k : Nat} (h : k ≤ L.length) : skipD L k ≤ L.length := by
  have := skipL_le (L.drop k) false
  rw [List.length_drop] at this
  unfold skipD; omega
/-- Behind a remark's bytes: the line's end, or the source's. -/
theorem remD_row {L : List UInt8} : ∀ (n k : Nat), n = L.length - k → k ≤ L.length → remD L k = skipD L (rowD noNl L k)
  | 0, k, hn, hk => by
    rw [remD_end (by omega), rowD_end (by omega), skipD_end (by omega)]
  | n + 1, k, hn, hk => by
    have h : k < L.length := by omega
    cases hr : (L.getD k 0 == 10)
    · rw [remD_go h hr, rowD_yes h (by rw [noNl, hr]; rfl), remD_row n (k + 1) (by omega) (by omega)]
    · rw [remD_nl h hr, rowD_no h (by rw [noNl, hr]; rfl), skipD_blank h (by simp only [beq_iff_eq] at hr; rw [hr]; decide)]
/-! ### Words and signs -/
def wordsL : List (List UInt8) := [[119, 105, 100, 101, 110], [102, 110], [108, 101, 116], [102, 111, 114], [105, 110], [105, 102], [101, 108, 115, 101], [115, 119, 105, 116, 99, 104], [99, 97, 115, 101], [98, 114, 101, 97, 107], [114, 101, 116, 117, 114, 110]]
def wordB (t : List UInt8) : Bool := wordsL.any (· == t)
def twoL : List (List UInt8) := [[61, 61], [33, 61], [60, 61], [62, 61], [38, 38], [124, 124], [46, 46]]
def oneL : List UInt8 := [40, 41, 123, 125, 91, 93, 44, 59, 58, 63, 61, 60, 62, 43, 45, 42, 47, 37, 33]
def twoB (l : List UInt8) : Bool := twoL.any (· == l.take 2)
def oneB (c : UInt8) : Bool := oneL.any (· == c)
/-- How long the sign is that stands ahead; 0: none. -/
def signD (L : List UInt8) (k : Nat) : Nat := if twoB (L.drop k) then 2 else if oneB (L.getD k 0) then 1 else 0
/-! ### Numbers -/
def valF (a : Nat) (l : List UInt8) : Nat := l.foldl (fun x c => 10 * x + (c.toNat - 48)) a
def valN (l : List UInt8) : Nat := valF 0 l
/-! ### The token at a place -/
structure TokD where
  kind : Int
  at_ : Nat
  len : Nat
  n : Int
inductive OneR where
  | tok (t : TokD)
  | err (e : Int)
def cutL (L : List UInt8) (k e : Nat) : List UInt8 := (L.drop k).take (e - k)
def oneD (L : List UInt8) (k : Nat) : OneR :=
  if letterB (L.getD k 0) then
    if 16 < rowD alnumB L k - k then .err 4 else .tok ⟨if wordB (cutL L k (rowD alnumB L k)) then 3 else 1, k, rowD alnumB L k - k, 0⟩
  else if digitB (L.getD k 0) then
    if (1 < rowD digitB L k - k ∧ L.getD k 0 = 48) ∨ 9223372036854775807 < valN (cutL L k (rowD digitB L k)) then .err 11 else .tok ⟨2, k, rowD digitB L k - k, valN (cutL L k (rowD digitB L k))⟩
  else if signD L k = 0 then .err 10 else .tok ⟨4, k, signD L k, 0⟩
theorem signD_fits {L : List UInt8} {k : Nat} (h : k < L.length) : k + signD L k ≤ L.length := by
  unfold signD
  split
  · rename_i h2
    simp only [twoB, List.any_eq_true, beq_iff_eq] at h2
    obtain ⟨x, hx, e⟩ := h2
    have hx2 : x.length = 2 := by
      simp only [twoL, List.mem_cons, List.not_mem_nil, or_false] at hx
      rcases hx with rfl | rfl | rfl | rfl | rfl | rfl | rfl <;> rfl
    rw [e, List.length_take, List.length_drop] at hx2
    omega
  · split <;> omega
theorem oneD_pos {L : List UInt8} {k : Nat} (h : k < L.length) {t : TokD} (ht : oneD L k = .tok t) : 0 < t.len ∧ k + t.len ≤ L.length ∧ t.at_ = k := by
  have hrow : ∀ p : UInt8 → Bool, p (L.getD k 0) = true → k < rowD p L k ∧ rowD p L k ≤ L.length := fun p hp => by
    have h1 := rowD_ge p L (k + 1)
    exact ⟨by rw [rowD_yes h hp]; omega, rowD_le (by omega)⟩
  unfold oneD at ht
  split at ht
  · rename_i hl
    have := hrow alnumB (by rw [alnumB, hl]; rfl)
    split at ht
    · cases ht
    · cases ht; exact ⟨by show 0 < rowD alnumB L k - k; omega, by show k + (rowD alnumB L k - k) ≤ _; omega, rfl⟩
  · split at ht
    · rename_i hd
      have := hrow digitB hd
      split at ht
      · cases ht
      · cases ht; exact ⟨by show 0 < rowD digitB L k - k; omega, by show k + (rowD digitB L k - k) ≤ _; omega, rfl⟩
    · split at ht
      · cases ht
      · rename_i hs
        cases ht
        exact ⟨by show 0 < signD L k; omega, signD_fits h, rfl⟩
/-! ### The tokens of a source -/
structure AheadR where
  toks : List TokD
  e : Int
  p : Nat
def aheadF (L : List UInt8) : Nat → Nat → AheadR
  | 0, _ => ⟨[], 0, 0⟩
  | n + 1, k => if k < L.length then
      match oneD L k with
      | .err e => ⟨[], e, k⟩
      | .tok t => ⟨t :: (aheadF L n (skipD L (k + t.len))).toks, (aheadF L n (skipD L (k + t.len))).e, (aheadF L n (skipD L (k + t.len))).p⟩
    else ⟨[], 0, 0⟩
theorem aheadF_fuel (L : List UInt8) : ∀ (n m k : Nat), L.length < n + k → L.length < m + k → aheadF L n k = aheadF L m k
  | 0, 0, k, _, _ => rfl
  | 0, m + 1, k, h, _ => by rw [aheadF, aheadF, if_neg (by omega)]
  | n + 1, 0, k, _, h => by rw [aheadF, aheadF, if_neg (by omega)]
  | n + 1, m + 1, k, h1, h2 => by
    rw [aheadF, aheadF]
    by_cases hk : k < L.length
    · rw [if_pos hk, if_pos hk]
      cases ho : oneD L k with
      | err e => rfl
      | tok t =>
        have hp := (oneD_pos hk ho).1
        have hs := skipD_ge L (k + t.len)
        simp only
        rw [aheadF_fuel L n m (skipD L (k + t.len)) (by omega) (by omega)]
    · rw [if_neg hk, if_neg hk]
/-- The tokens from place k on, up to the first thing that is wrong. -/
def aheadD (L : List UInt8) (k : Nat) : AheadR := aheadF L (L.length + 1) k
theorem aheadD_end {L : List UInt8} {k : Nat} (h : L.length ≤ k) : aheadD L k = ⟨[], 0, 0⟩ := by rw [aheadD, aheadF, if_neg (by omega)]
theorem aheadD_err {L : List UInt8} {k : Nat} {e : Int} (h : k < L.length) (ho : oneD L k = .err e) : aheadD L k = ⟨[], e, k⟩ := by rw [aheadD, aheadF, if_pos h, ho]
theorem aheadD_tok {L : List UInt8} {k : Nat} {t : TokD} (h : k < L.length) (ho : oneD L k = .tok t) :
    aheadD L k = ⟨t :: (aheadD L (skipD L (k + t.len))).toks, (aheadD L (skipD L (k + t.len))).e, (aheadD L (skipD L (k + t.len))).p⟩ := by
  have hp := (oneD_pos h ho).1
  have hs := skipD_ge L (k + t.len)
  rw [aheadD, aheadF, if_pos h, ho]
  simp only
  rw [aheadF_fuel L L.length (L.length + 1) (skipD L (k + t.len)) (by omega) (by omega)]; rfl
/-- Of a source: the tokens ahead of the first error, it and its place. -/
def scanD (L : List UInt8) : AheadR := if 65536 < L.length then ⟨[], 4, 65536⟩ else aheadD L (skipD L 0)
end Go.Proofs.YtdddppmfeoebgaaGreatDoor
