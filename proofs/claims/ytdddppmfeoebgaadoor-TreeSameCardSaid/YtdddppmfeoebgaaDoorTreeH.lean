/-
  Layer 2 (tree), in plain Lean: a number's digits, as the reference tells them.
-/
import Derived.Test.YtdddppmfeoebgaaDoorTreeC
import Derived.Lib.ItoaMem
namespace Go.Proofs.YtdddppmfeoebgaaDoor
open Go.RowKit
set_option linter.unusedSimpArgs false
set_option linter.unusedVariables false
theorem numD_one {n : Nat} (h : n < 10) : numD (n : Int) = [UInt8.ofNat (48 + n)] := by
  rw [numD, Lib.itoa_nonneg, Lib.decDigits, dif_pos h]
theorem numD_more {n : Nat} (h : 10 ≤ n) : numD (n : Int) = numD ((n / 10 : Nat) : Int) ++ [UInt8.ofNat (48 + n % 10)] := by
  rw [numD, numD, Lib.itoa_nonneg, Lib.itoa_nonneg, Lib.decDigits, dif_neg (by omega)]
theorem numD_neg {n : Nat} (h : 1 ≤ n) : numD (-(n : Int)) = 45 :: numD (n : Int) := by
  rw [numD, numD, Lib.itoa_neg n h, Lib.itoa_nonneg]
theorem numD_least : numD (-9223372036854775808) = [45, 57, 50, 50, 51, 51, 55, 50, 48, 51, 54, 56, 53, 52, 55, 55, 53, 56, 48, 56] := by
  rw [show (-9223372036854775808 : Int) = -((9223372036854775808 : Nat) : Int) by rfl, numD_neg (by decide)]
  repeat rw [numD_more (by decide)]
  rw [numD_one (by decide)]
  rfl
end Go.Proofs.YtdddppmfeoebgaaDoor
