/-
  Layer 8 (span): what Do tells, as plain functions.
-/
import Derived.Test.YtdoikgjdjdgnbaaPlainD
namespace Go.Proofs.Ytdoikgjdjdgnbaa
open Go.RowKit
set_option linter.unusedVariables false

def Sp.point (a : Sp) : Bool := decide (a.lo = a.hi)
def bothPoint (a b : Sp) : Bool := a.point && b.point
def addS (a b : Sp) : Sp := if bothPoint a b = true then ⟨wrap64 (a.lo + b.lo), wrap64 (a.lo + b.lo)⟩ else
  if (Sp.sumOk a.lo b.lo && Sp.sumOk a.hi b.hi) = true then hullTo [a.lo + b.lo, a.hi + b.hi] 2 else Sp.all
def subS (a b : Sp) : Sp := if bothPoint a b = true then ⟨wrap64 (a.lo - b.lo), wrap64 (a.lo - b.lo)⟩ else
  if (Sp.lessOk a.lo b.hi && Sp.lessOk a.hi b.lo) = true then hullTo [a.lo - b.hi, a.hi - b.lo] 2 else Sp.all
def mulS (a b : Sp) : Sp := if bothPoint a b = true then ⟨wrap64 (a.lo * b.lo), wrap64 (a.lo * b.lo)⟩ else
  if (mulOk a.lo b.lo && mulOk a.lo b.hi && mulOk a.hi b.lo && mulOk a.hi b.hi) = true then hullTo [a.lo * b.lo, a.lo * b.hi, a.hi * b.lo, a.hi * b.hi] 4 else Sp.all
def Sp.zero (a : Sp) : Bool := decide (a.lo = 0) && decide (a.hi = 0)
def eqS (a b : Sp) : Sp := Sp.truth (bothPoint a b && decide (a.lo = b.lo)) (!a.meetOk b)
def ltS (a b : Sp) : Sp := Sp.truth (decide (a.hi < b.lo)) (decide (b.hi ≤ a.lo))
def notS (a : Sp) : Sp := Sp.truth a.zero (!a.has 0)
/-- Is something told? -/
def doOk (op : Int) (a b : Sp) : Bool :=
  !a.none && (decide (op = 10) || (!b.none && (decide (op = 3) || decide (op = 4) || decide (op = 5) || decide (op = 8) || decide (op = 9) || ((decide (op = 6) || decide (op = 7)) && !b.zero))))
def doSp (op : Int) (a b : Sp) : Sp :=
  if doOk op a b = false then ⟨0, 0⟩ else if op = 10 then notS a else if op = 3 then addS a b else if op = 4 then subS a b else if op = 5 then mulS a b else
  if op = 6 then divS a b else if op = 7 then leftS a b else if op = 8 then ltS a b else eqS a b
end Go.Proofs.Ytdoikgjdjdgnbaa
