/-
  Layer 7 (wide): the text of a number, in plain Lean: its decimal digits.
-/
import Derived.Test.YtofibaomjidieaaDoorDiv64
namespace Go.Proofs.YtofibaomjidieaaDoor
open Go.RowKit Go.Shelf Go.Lib
set_option linter.unusedSimpArgs false
set_option linter.unusedVariables false
abbrev BA (l : List UInt8) : ByteArray := ⟨l.toArray⟩
theorem BA_app (l m : List UInt8) : BA l ++ BA m = BA (l ++ m) := by
  apply ByteArray.ext
  simp [BA, ByteArray.data_append]
theorem BA_size (l : List UInt8) : (BA l).size = l.length := by simp [BA, ByteArray.size]
/-- The last k digits of a number. -/
def padD : Nat → Nat → List UInt8
  | 0, _ => []
  | k + 1, n => padD k (n / 10) ++ [UInt8.ofNat (48 + n % 10)]
theorem padD_zero (k : Nat) : padD k 0 = List.replicate k 48 := by
  induction k with
  | zero => rfl
  | succ k ih =>
    rw [padD, Nat.zero_div, ih, List.replicate_succ']
    rfl
theorem decD_big {n : Nat} (h : ¬ n < 10) : decDigits n = decDigits (n / 10) ++ [UInt8.ofNat (48 + n % 10)] := by rw [decDigits, dif_neg h]
theorem decD_split {m : Nat} (hm : 1 ≤ m) : ∀ (k r : Nat), r < 10 ^ k → decDigits (m * 10 ^ k + r) = decDigits m ++ padD k r := by
  intro k
  induction k with
  | zero => intro r hr; obtain rfl : r = 0 := by simpa using hr
            simp [padD]
  | succ k ih =>
    intro r hr
    have e : m * 10 ^ (k + 1) + r = (m * 10 ^ k) * 10 + r := by rw [Nat.pow_succ, Nat.mul_assoc]
    have hp : 1 ≤ 10 ^ k := Nat.one_le_pow _ _ (by decide)
    have h1 : 1 ≤ m * 10 ^ k := Nat.le_trans hm (Nat.le_mul_of_pos_right m hp)
    rw [e, decD_big (by omega), show (m * 10 ^ k * 10 + r) / 10 = m * 10 ^ k + r / 10 by omega, show (m * 10 ^ k * 10 + r) % 10 = r % 10 by omega, ih (r / 10) (by rw [Nat.pow_succ] at hr; omega), padD, List.append_assoc]
theorem padD_dec : ∀ (k r : Nat), nDigits r ≤ k → List.replicate (k - nDigits r) 48 ++ decDigits r = padD k r := by
  intro k
  induction k with
  | zero => intro r h; have := nDigits_pos r; omega
  | succ k ih =>
    intro r h
    by_cases hr : r < 10
    · rw [nDigits_small hr, decDigits_one hr, padD, show r / 10 = 0 by omega, padD_zero, show r % 10 = r by omega]
      rfl
    · rw [nDigits_big hr] at h ⊢
      rw [decD_big hr, padD, ← ih (r / 10) (by omega), show k + 1 - (nDigits (r / 10) + 1) = k - nDigits (r / 10) by omega, List.append_assoc]
theorem nDigits_le {r k : Nat} (hk : 1 ≤ k) (h : r < 10 ^ k) : nDigits r ≤ k := by
  induction k generalizing r with
  | zero => omega
  | succ k ih =>
    by_cases hr : r < 10
    · rw [nDigits_small hr]; omega
    · rw [nDigits_big hr]
      have hk1 : 1 ≤ k := by
        rcases Nat.eq_zero_or_pos k with q | q
        · subst q; simp at h; omega
        · exact q
      have := ih hk1 (r := r / 10) (by rw [Nat.pow_succ] at h; omega)
      omega
/-- One round of Text: the last nineteen digits. -/
theorem dec_part {m p r : Nat} (e : m = p * 10000000000000000000 + r) (hp : 1 ≤ p) (hr : r < 10000000000000000000) : decDigits m = decDigits p ++ (List.replicate (19 - nDigits r) 48 ++ decDigits r) := by
  have h1 := decD_split hp 19 r (by simpa using hr)
  have e19 : (10 : Nat) ^ 19 = 10000000000000000000 := by decide
  rw [e19, ← e] at h1
  rw [h1, padD_dec 19 r (nDigits_le (by omega) (by rw [e19]; exact hr))]
end Go.Proofs.YtofibaomjidieaaDoor
