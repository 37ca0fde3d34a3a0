/-
  Layer 8 (span): Widen as plain functions.
-/
import Derived.Test.YtdoikgjdjdgnbaaPlainA
import Derived.Test.YtdoikgjdjdgnbaaKitB
namespace Go.Proofs.Ytdoikgjdjdgnbaa
open Go.RowKit

/-- The greatest of the first k thresholds that are at most j; least, if there is none. -/
def wLo (ts : List Int) (j : Int) : Nat → Int
  | 0 => Sp.least
  | k + 1 => if nthI ts k ≤ j then Sp.mx (wLo ts j k) (nthI ts k) else wLo ts j k
/-- The least of the first k thresholds that are at least j; greatest, if there is none. -/
def wHi (ts : List Int) (j : Int) : Nat → Int
  | 0 => Sp.greatest
  | k + 1 => if j ≤ nthI ts k then Sp.mn (wHi ts j k) (nthI ts k) else wHi ts j k
def widen (a b : Sp) (ts : List Int) : Sp :=
  if a.none = true then b else if b.none = true then a else
    ⟨if b.lo < a.lo then wLo ts b.lo ts.length else a.lo, if a.hi < b.hi then wHi ts b.hi ts.length else a.hi⟩
theorem wLo_yes {ts : List Int} {j : Int} {k : Nat} (h : nthI ts k ≤ j) : wLo ts j (k + 1) = Sp.mx (wLo ts j k) (nthI ts k) := by simp [wLo, h]
theorem wLo_no {ts : List Int} {j : Int} {k : Nat} (h : j < nthI ts k) : wLo ts j (k + 1) = wLo ts j k := by simp [wLo]; omega
theorem wHi_yes {ts : List Int} {j : Int} {k : Nat} (h : j ≤ nthI ts k) : wHi ts j (k + 1) = Sp.mn (wHi ts j k) (nthI ts k) := by simp [wHi, h]
theorem wHi_no {ts : List Int} {j : Int} {k : Nat} (h : nthI ts k < j) : wHi ts j (k + 1) = wHi ts j k := by simp [wHi]; omega
/-- The hull of what has come so far: k numbers. -/
def hullTo (zs : List Int) : Nat → Sp
  | 0 => ⟨nthI zs 0, nthI zs 0⟩
  | k + 1 => (hullTo zs k).join ⟨nthI zs k, nthI zs k⟩

end Go.Proofs.Ytdoikgjdjdgnbaa
