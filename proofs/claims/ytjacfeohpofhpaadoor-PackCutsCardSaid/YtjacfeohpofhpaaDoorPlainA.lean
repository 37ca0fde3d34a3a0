/-
  Layer 8 (span): plain definitions that the walks of package span and of its reference end in. No program in sight.
-/
import Derived.Test.YtjacfeohpofhpaaDoorKeep
namespace Go.Proofs.YtjacfeohpofhpaaDoor
open Go.RowKit

/-- A span: its two ends. -/
structure Sp where
  lo : Int
  hi : Int

namespace Sp
theorem ext' {a b : Sp} (h : a.lo = b.lo) (k : a.hi = b.hi) : a = b := by cases a; cases b; simp at h k; simp [h, k]
def none (a : Sp) : Bool := decide (a.hi < a.lo)
def has (a : Sp) (n : Int) : Bool := decide (a.lo ≤ n) && decide (n ≤ a.hi)
def mn (a b : Int) : Int := if a < b then a else b
def mx (a b : Int) : Int := if b < a then a else b
def join (a b : Sp) : Sp := if a.none = true then b else if b.none = true then a else ⟨mn a.lo b.lo, mx a.hi b.hi⟩
def meetS (a b : Sp) : Sp := ⟨mx a.lo b.lo, mn a.hi b.hi⟩
def meet (a b : Sp) : Sp := if (meetS a b).none = true then ⟨0, 0⟩ else meetS a b
def meetOk (a b : Sp) : Bool := !(meetS a b).none
def least : Int := -9223372036854775808
def greatest : Int := 9223372036854775807
def all : Sp := ⟨least, greatest⟩
def inR (n : Int) : Bool := decide (least ≤ n) && decide (n ≤ greatest)
def len (a b : Sp) : Int := if b.hi ≤ a.lo then 0 else b.hi - a.lo
def sumOk (a b : Int) : Bool := inR (a + b)
def lessOk (a b : Int) : Bool := inR (a - b)
def truth (yes no : Bool) : Sp := if yes = true then ⟨1, 1⟩ else if no = true then ⟨0, 0⟩ else ⟨0, 1⟩
def belowA (a b : Sp) : Sp := if (a.none || b.none || decide (b.hi ≤ a.lo)) = true then ⟨0, 0⟩ else ⟨a.lo, mn a.hi (b.hi - 1)⟩
def belowB (a b : Sp) : Sp := if (a.none || b.none || decide (b.hi ≤ a.lo)) = true then ⟨0, 0⟩ else ⟨mx b.lo (a.lo + 1), b.hi⟩
def belowOk (a b : Sp) : Bool := !(a.none || b.none || decide (b.hi ≤ a.lo))
def within (a b : Sp) : Bool := a.none || decide (b.lo ≤ a.lo) && decide (a.hi ≤ b.hi)
def Wf (a : Sp) : Prop := (-9223372036854775808 ≤ a.lo ∧ a.lo ≤ 9223372036854775807) ∧ (-9223372036854775808 ≤ a.hi ∧ a.hi ≤ 9223372036854775807)
end Sp
def In64 (n : Int) : Prop := -9223372036854775808 ≤ n ∧ n ≤ 9223372036854775807
theorem join_lo {a b : Sp} (h1 : a.lo ≤ a.hi) (h2 : b.lo ≤ b.hi) : (a.join b).lo = Sp.mn a.lo b.lo := by simp [Sp.join, Sp.none, Int.not_lt.2 h1, Int.not_lt.2 h2]
theorem join_hi {a b : Sp} (h1 : a.lo ≤ a.hi) (h2 : b.lo ≤ b.hi) : (a.join b).hi = Sp.mx a.hi b.hi := by simp [Sp.join, Sp.none, Int.not_lt.2 h1, Int.not_lt.2 h2]
theorem u64_diff {x y : Int} (hx : -9223372036854775808 ≤ x ∧ x ≤ 9223372036854775807) (hy : -9223372036854775808 ≤ y ∧ y ≤ 9223372036854775807) (h : y ≤ x) :
    IntKind.u64.wrap (IntKind.u64.wrap x - IntKind.u64.wrap y) = x - y := by
  simp [IntKind.wrap, IntKind.bits, IntKind.signed]; omega
end Go.Proofs.YtjacfeohpofhpaaDoor
