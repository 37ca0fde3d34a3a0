/-
  Layer 9 (code): what May says, as plain functions.
-/
import Derived.Test.YtpmffclepnkedaaDoorEqual
import Derived.Test.YtpmffclepnkedaaDoorFind
import Derived.Test.YtpmffclepnkedaaDoorName
namespace Go.Proofs.YtpmffclepnkedaaDoor
open Go.RowKit
set_option linter.unusedSimpArgs false
set_option linter.unusedVariables false

/-- What is wrong with a field: it is not there and is not 0; it is there and is no register. -/
def fldErr (has : Bool) (r regs : Int) : Int := if has = true then (if r < 0 ∨ regs ≤ r then 61 else 0) else (if r = 0 then 0 else 62)
def hasK (p : Row) : Nat → Bool
  | 0 => p.a
  | 1 => p.b
  | _ => p.c
def regK (x : InsD) : Nat → Int
  | 0 => x.a
  | 1 => x.b
  | _ => x.c
/-- The first of the first k fields that is wrong. -/
def fldsErr (p : Row) (x : InsD) (regs : Int) : Nat → Int
  | 0 => 0
  | k + 1 => if fldsErr p x regs k = 0 then fldErr (hasK p k) (regK x k) regs else fldsErr p x regs k
def nErr (p : Row) (m : ModD) (f : FuncD) (x : InsD) : Int :=
  if p.n = 0 then (if x.n = 0 then 0 else 62) else if p.n = 2 then (if x.n < 0 ∨ f.code.length ≤ x.n then 63 else 0) else if p.n = 3 then (if x.n < 1 ∨ 4096 < x.n then 2 else 0) else
  if p.n = 4 then (if x.n < 0 ∨ m.funcs.length ≤ x.n ∨ f.regs < wrap64 (x.b + (nthF m.funcs x.n.toNat).params.length) then 65 else 0) else 0
def insErr (m : ModD) (f : FuncD) (x : InsD) : Int :=
  if known x.op = true then (if fldsErr (row x.op.toNat) x f.regs 3 = 0 then nErr (row x.op.toNat) m f x else fldsErr (row x.op.toNat) x f.regs 3) else 60
theorem fldErr_cases (has : Bool) (r regs : Int) : (has = false ∧ r = 0 ∧ fldErr has r regs = 0) ∨ (has = false ∧ r ≠ 0 ∧ fldErr has r regs = 62) ∨ (has = true ∧ r < 0 ∧ fldErr has r regs = 61) ∨
    (has = true ∧ 0 ≤ r ∧ regs ≤ r ∧ fldErr has r regs = 61) ∨ (has = true ∧ 0 ≤ r ∧ r < regs ∧ fldErr has r regs = 0) := by
  cases has
  · by_cases h : r = 0 <;> simp [fldErr, h]
  · by_cases h : r < 0
    · simp [fldErr, h]
    · by_cases h2 : regs ≤ r
      · simp [fldErr, h2]; omega
      · simp [fldErr, h, h2]; omega
theorem fldsErr_stop {p : Row} {x : InsD} {regs : Int} {k n : Nat} (hk : k ≤ n) (h : fldsErr p x regs k ≠ 0) : fldsErr p x regs n = fldsErr p x regs k := by
  induction n with
  | zero => obtain rfl : k = 0 := by omega
            rfl
  | succ n ih =>
    rcases Nat.lt_or_ge n k with h1 | h1
    · obtain rfl : k = n + 1 := by omega
      rfl
    · rw [fldsErr, if_neg (by rw [ih h1]; exact h), ih h1]
theorem fldsErr_next {p : Row} {x : InsD} {regs : Int} {k : Nat} (h : fldsErr p x regs k = 0) : fldsErr p x regs (k + 1) = fldErr (hasK p k) (regK x k) regs := by rw [fldsErr, if_pos h]
theorem insErr_fld {m : ModD} {f : FuncD} {x : InsD} {k : Nat} {e : Int} (hn : known x.op = true) (hk : k < 3) (h : fldsErr (row x.op.toNat) x f.regs k = 0) (he : fldErr (hasK (row x.op.toNat) k) (regK x k) f.regs = e) (h0 : e ≠ 0) : insErr m f x = e := by
  have h1 : fldsErr (row x.op.toNat) x f.regs (k + 1) = e := by rw [fldsErr_next h, he]
  have h2 : fldsErr (row x.op.toNat) x f.regs 3 = e := by rw [fldsErr_stop (k := k + 1) (by omega) (by rw [h1]; exact h0), h1]
  rw [insErr, if_pos hn, if_neg (by rw [h2]; exact h0), h2]
theorem insErr_n {m : ModD} {f : FuncD} {x : InsD} (hn : known x.op = true) (h : fldsErr (row x.op.toNat) x f.regs 3 = 0) : insErr m f x = nErr (row x.op.toNat) m f x := by
  rw [insErr, if_pos hn, if_pos h]
end Go.Proofs.YtpmffclepnkedaaDoor
