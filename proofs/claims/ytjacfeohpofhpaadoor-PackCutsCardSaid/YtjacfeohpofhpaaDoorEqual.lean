/-
  Layer 9 (code): slices.Equal at the three types that Same uses.
-/
import Derived.Test.YtjacfeohpofhpaaDoorMod
import Derived.BigQuiet
namespace Go.Proofs.YtjacfeohpofhpaaDoor
open Go.RowKit
set_option linter.unusedSimpArgs false
set_option linter.unusedVariables false

/-- Do the first k meet p? -/
def allTo (p : Nat → Bool) : Nat → Bool
  | 0 => true
  | k + 1 => allTo p k && p k
theorem allTo_no {p : Nat → Bool} {k n : Nat} (hk : k < n) (h : p k = false) : allTo p n = false := by
  induction n with
  | zero => omega
  | succ n ih =>
    rcases Nat.lt_or_ge k n with h1 | h1
    · simp [allTo, ih h1]
    · obtain rfl : k = n := by omega
      simp [allTo, h]
theorem allTo_yes {p : Nat → Bool} {k : Nat} (h : allTo p k = true) (h2 : p k = true) : allTo p (k + 1) = true := by simp [allTo, h, h2]
/-- Rows of two lengths, alike at every place. -/
def eqTo (n m : Nat) (p : Nat → Bool) : Bool := decide (n = m) && allTo p n
theorem eqTo_len {n m : Nat} {p : Nat → Bool} (h : n ≠ m) : eqTo n m p = false := by simp [eqTo, h]
theorem eqTo_no {n m k : Nat} {p : Nat → Bool} (hk : k < n) (h : p k = false) : eqTo n m p = false := by simp [eqTo, allTo_no hk h]
theorem eqTo_yes {n : Nat} {p : Nat → Bool} (h : allTo p n = true) : eqTo n n p = true := by simp [eqTo, h]
theorem below_drewN {B : Nat} {w w' : World} (h : Below B w w') (n : Nat) : Below B w (w'.drewN n) := ⟨h.os, h.tape, h.output, h.size, h.block⟩
def sameI (xs ys : List Int) (k : Nat) : Bool := nthI xs k == nthI ys k
def sameS (xs ys : List Sp) (k : Nat) : Bool := (nthS xs k).lo == (nthS ys k).lo && (nthS xs k).hi == (nthS ys k).hi
def sameX (xs ys : List InsD) (k : Nat) : Bool := (nthX xs k).op == (nthX ys k).op && ((nthX xs k).a == (nthX ys k).a && ((nthX xs k).b == (nthX ys k).b && ((nthX xs k).c == (nthX ys k).c && (nthX xs k).n == (nthX ys k).n)))
end Go.Proofs.YtjacfeohpofhpaaDoor
