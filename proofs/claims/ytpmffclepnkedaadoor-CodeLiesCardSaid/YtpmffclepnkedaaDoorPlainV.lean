/-
  Layer 9 (code): what is wrong with a function as a whole, as plain functions.
-/
import Derived.Test.YtpmffclepnkedaaDoorPlainM
namespace Go.Proofs.YtpmffclepnkedaaDoor
open Go.RowKit
set_option linter.unusedSimpArgs false
set_option linter.unusedVariables false

/-- The first of the next n from number k on that does not meet p; -1, if all do. -/
def badFrom (p : Nat → Bool) : Nat → Nat → Int
  | _, 0 => -1
  | k, n + 1 => if p k = false then (k : Int) else badFrom p (k + 1) n
theorem badFrom_yes {p : Nat → Bool} {k n : Nat} (hk : k < n) (h : p k = false) : badFrom p k (n - k) = k := by
  obtain ⟨j, hj⟩ : ∃ j, n - k = j + 1 := ⟨n - k - 1, by omega⟩
  rw [hj, badFrom, if_pos h]
theorem badFrom_no {p : Nat → Bool} {k n : Nat} (hk : k < n) (h : p k = true) : badFrom p k (n - k) = badFrom p (k + 1) (n - (k + 1)) := by
  obtain ⟨j, hj⟩ : ∃ j, n - k = j + 1 := ⟨n - k - 1, by omega⟩
  rw [hj, badFrom, if_neg (by rw [h]; decide), show n - (k + 1) = j by omega]
def okSp (ps : List Sp) (k : Nat) : Bool := decide ((nthS ps k).lo ≤ (nthS ps k).hi)
def emptyD (ps : List Sp) : Int := badFrom (okSp ps) 0 ps.length
def restErr (f : FuncD) : Int :=
  if f.regs < 1 ∨ 64 < f.regs ∨ f.regs < f.params.length then 95 else if f.words < 0 ∨ 4096 < f.words then 96 else if f.code.length = 0 ∨ 1024 < f.code.length then 97 else 0
def wholeE (m : ModD) (k : Nat) : Int :=
  if isNameB (nthF m.funcs k).name = false then 8 else if findD m.funcs (nthF m.funcs k).name < k then 9 else if 8 < (nthF m.funcs k).params.length then 3 else
  if emptyD (nthF m.funcs k).params ≠ -1 then 40 else restErr (nthF m.funcs k)
def wholeA (m : ModD) (k : Nat) : Int :=
  if isNameB (nthF m.funcs k).name = false then 0 else if findD m.funcs (nthF m.funcs k).name < k then 0 else if 8 < (nthF m.funcs k).params.length then 8 else
  if emptyD (nthF m.funcs k).params ≠ -1 then emptyD (nthF m.funcs k).params else 0
/-- Has none of the first k functions the name? -/
def freshN (fs : List FuncD) (s : ByteArray) (k : Nat) : Bool := !eqN (nthF fs k).name s
theorem find_of_fresh {fs : List FuncD} {s : ByteArray} : ∀ k, k ≤ fs.length → allTo (freshN fs s) k = true → findD fs s = findFrom fs s k (fs.length - k)
  | 0, _, _ => rfl
  | k + 1, hk, h => by
    simp only [allTo, Bool.and_eq_true] at h
    have h2 : eqN (nthF fs k).name s = false := by simpa [freshN] using h.2
    rw [find_of_fresh k (by omega) h.1, findFrom_no (by omega) h2]
theorem findFrom_ge {fs : List FuncD} {s : ByteArray} : ∀ (n k : Nat), (k : Int) ≤ findFrom fs s k n ∨ findFrom fs s k n = -1
  | 0, k => .inr rfl
  | n + 1, k => by
    rw [findFrom]
    split
    · exact .inl (Int.le_refl _)
    · rcases findFrom_ge (fs := fs) (s := s) n (k + 1) with h | h
      · left; omega
      · exact .inr h
theorem findD_self {fs : List FuncD} {k : Nat} (hk : k < fs.length) (h : allTo (freshN fs (nthF fs k).name) k = true) : findD fs (nthF fs k).name = k := by
  rw [find_of_fresh k (by omega) h, findFrom_yes hk (by simp [eqN])]
theorem findD_hit {fs : List FuncD} {s : ByteArray} {k : Nat} (hk : k < fs.length) (h : allTo (freshN fs s) k = true) (h2 : eqN (nthF fs k).name s = true) : findD fs s = k := by
  rw [find_of_fresh k (by omega) h, findFrom_yes hk h2]
end Go.Proofs.YtpmffclepnkedaaDoor
