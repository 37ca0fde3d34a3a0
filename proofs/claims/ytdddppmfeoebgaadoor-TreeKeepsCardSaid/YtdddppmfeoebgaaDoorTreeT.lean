/-
  Layer 2 (tree): the texts of programs, in plain Lean.
-/
import Derived.Test.YtdddppmfeoebgaaDoorTreeA
import Derived.Lib.ItoaNum
namespace Go.Proofs.YtdddppmfeoebgaaDoor
open Go.RowKit
set_option linter.unusedSimpArgs false
set_option linter.unusedVariables false
/-- A number's digits. -/
def numD (n : Int) : List UInt8 := Lib.itoa n
def rankD (k : Int) : Int := if k == 20 then 1 else if k == 19 then 2 else if k == 18 then 3 else if k == 12 || k == 13 then 4 else if k == 14 || k == 15 || k == 16 || k == 17 then 5 else if k == 7 || k == 8 then 6 else if k == 9 || k == 10 || k == 11 then 7 else if k == 5 || k == 6 then 8 else 9
def signL : List (List UInt8) := [[43], [45], [42], [47], [37], [61, 61], [33, 61], [60], [60, 61], [62], [62, 61], [38, 38], [124, 124]]
def signT (k : Int) : List UInt8 := if 7 ≤ k ∧ k ≤ 19 then signL.getD (k - 7).toNat [] else []
/-- An argument that must have a rank. -/
def parT (b : Bool) (t : List UInt8) : List UInt8 := if b then 40 :: (t ++ [41]) else t
def argT (l : List ExD) (t : List (List UInt8)) (k : Nat) (r : Int) : List UInt8 := parT (decide (rankD (nthE l k).kind < r)) (t.getD k [])
/-- Texts with commas between. -/
def joinT : List (List UInt8) → List UInt8
  | [] => []
  | [a] => a
  | a :: b :: r => a ++ 44 :: 32 :: joinT (b :: r)
def exT0 (k n : Int) (s : List UInt8) (l : List ExD) (t : List (List UInt8)) : List UInt8 :=
  if k == 1 then numD n else if k == 2 then s else if k == 3 then s ++ 91 :: (t.getD 0 [] ++ [93]) else if k == 4 then s ++ 40 :: (joinT t ++ [41])
  else if k == 5 then 45 :: argT l t 0 8 else if k == 6 then 33 :: argT l t 0 8
  else if k == 20 then argT l t 0 2 ++ 32 :: 63 :: 32 :: (t.getD 1 [] ++ 32 :: 58 :: 32 :: t.getD 2 [])
  else argT l t 0 (rankD k) ++ 32 :: (signT k ++ 32 :: argT l t 1 (rankD k + 1))
mutual
def exT : ExD → List UInt8
  | .mk k n s l => exT0 k n (bytesOf' s) l (exTs l)
def exTs : List ExD → List (List UInt8)
  | [] => []
  | x :: r => exT x :: exTs r
end
/-- A line that lies in so many bodies. -/
def lineT (n : Nat) (s : List UInt8) : List UInt8 := List.replicate (2 * n) 32 ++ (s ++ [10])
mutual
def stT : StD → Nat → List UInt8
  | .mk k s n a b body els cases, d =>
    if k == 1 then lineT d ([108, 101, 116, 32] ++ (bytesOf' s ++ ([32, 61, 32] ++ (exT a ++ [59]))))
    else if k == 2 then lineT d ([108, 101, 116, 32] ++ (bytesOf' s ++ (91 :: (numD n ++ [93, 59]))))
    else if k == 3 then lineT d (bytesOf' s ++ ([32, 61, 32] ++ (exT a ++ [59])))
    else if k == 4 then lineT d (bytesOf' s ++ (91 :: (exT a ++ ([93, 32, 61, 32] ++ (exT b ++ [59])))))
    else if k == 5 then lineT d ([105, 102, 32] ++ (exT a ++ [32, 123])) ++ (stTs body (d + 1) ++ ((if els.length = 0 then [] else lineT d [125, 32, 101, 108, 115, 101, 32, 123] ++ stTs els (d + 1)) ++ lineT d [125]))
    else if k == 6 then lineT d ([115, 119, 105, 116, 99, 104, 32] ++ (exT a ++ [32, 123])) ++ (caTs cases (d + 1) ++ ((if els.length = 0 then [] else lineT (d + 1) [101, 108, 115, 101, 32, 123] ++ (stTs els (d + 2) ++ lineT (d + 1) [125])) ++ lineT d [125]))
    else if k == 7 then lineT d ([102, 111, 114, 32] ++ (bytesOf' s ++ ([32, 105, 110, 32] ++ (exT a ++ (46 :: 46 :: (exT b ++ [32, 123])))))) ++ (stTs body (d + 1) ++ lineT d [125])
    else if k == 8 then lineT d [98, 114, 101, 97, 107, 59]
    else if k == 9 then lineT d ([114, 101, 116, 117, 114, 110, 32] ++ (exT a ++ [59]))
    else lineT d (exT a ++ [59])
def caT : CaD → Nat → List UInt8
  | .mk n body, d => lineT d ([99, 97, 115, 101, 32] ++ (numD n ++ [32, 123])) ++ (stTs body (d + 1) ++ lineT d [125])
def stTs : List StD → Nat → List UInt8
  | [], _ => []
  | x :: r, d => stT x d ++ stTs r d
def caTs : List CaD → Nat → List UInt8
  | [], _ => []
  | x :: r, d => caT x d ++ caTs r d
end
def paT (x : PaD) : List UInt8 := bytesOf' x.name ++ ([32, 105, 110, 32] ++ (numD x.lo ++ (46 :: 46 :: numD x.hi)))
def fnT (f : FnD) : List UInt8 := lineT 0 ([102, 110, 32] ++ (bytesOf' f.name ++ (40 :: (joinT (f.params.map paT) ++ [41, 32, 123])))) ++ (stTs f.body 1 ++ lineT 0 [125])
def fnTs : List FnD → List UInt8
  | [] => []
  | f :: r => fnT f ++ fnTs r
def widT (l : List Int) : List UInt8 := if l.length = 0 then [] else lineT 0 ([119, 105, 100, 101, 110, 32] ++ (joinT (l.map numD) ++ [59]))
def prT (p : PrD) : List UInt8 := widT p.widen ++ fnTs p.funcs
/-- A program's text, or why there is none. -/
def printD (p : PrD) : List UInt8 × FaultD := if (checkD p).e ≠ 0 then ([], checkD p) else if 65536 < (prT p).length then ([], ⟨4, 0, 0⟩) else (prT p, ⟨0, 0, 0⟩)
/-! ### Are they the same? -/
mutual
def sameE : ExD → ExD → Bool
  | .mk k n s l, .mk k' n' s' l' => k == k' && n == n' && decide (s = s') && sameEs l l'
def sameEs : List ExD → List ExD → Bool
  | [], [] => true
  | x :: r, y :: t => sameE x y && sameEs r t
  | _, _ => false
end
mutual
def sameS : StD → StD → Bool
  | .mk k s n a b body els cases, .mk k' s' n' a' b' body' els' cases' => k == k' && decide (s = s') && n == n' && sameE a a' && sameE b b' && sameSs body body' && sameSs els els' && sameCs cases cases'
def sameC : CaD → CaD → Bool
  | .mk n body, .mk n' body' => n == n' && sameSs body body'
def sameSs : List StD → List StD → Bool
  | [], [] => true
  | x :: r, y :: t => sameS x y && sameSs r t
  | _, _ => false
def sameCs : List CaD → List CaD → Bool
  | [], [] => true
  | x :: r, y :: t => sameC x y && sameCs r t
  | _, _ => false
end
end Go.Proofs.YtdddppmfeoebgaaDoor
