/-
  Layer 16 (bounds): Keep, Plain8, SpanP.
-/
import Derived.Test.YtddobhneplfddaaDoorRows
import Derived.BigRegion
import Derived.Carry
import Derived.Deep.DeepHandedRow
import Derived.Deep.DrawnRows
import Derived.Deep.Light
import Derived.Deep.RegionHeld3
import Derived.JoinedCond
import Derived.Lib.Hide
import Derived.OpenShut
import Derived.OpenVars
import Derived.Outline
import Derived.ProofKit
import Derived.WalkKit
import Derived.WalkLawsBesides
import Derived.WalkSpells
namespace Go.Proofs.YtddobhneplfddaaDoor
set_option maxRecDepth 100000
open Go.ChangeShapes Go.WideShapes Go.ChangeAt Go.RowKit Go.WideElems

/-- A return whose results the walk's set reckons. -/
theorem ret_of {P : Program} {fn : Func} {R : Ending → World → Prop} {a : Act} {w : World}
    (h : ∃ v, (results fn a.tmps).run P w = .ok v w ∧ R (.returned v) w) (hd : a.defers = []) : bodyPost P fn R .ret a w := by
  obtain ⟨v, h1, h2⟩ := h
  exact bodyPost_ret h1 hd h2

/-- Old cells and marks read as before. -/
theorem bcell {W w1 : World} (hb : Below W.heap.size W w1) : (∀ b o, b < W.heap.size → w1.cell? ⟨b, o, none⟩ = W.cell? ⟨b, o, none⟩) ∧ (∀ b o, b < W.heap.size → w1.frozen? ⟨b, o, none⟩ = W.frozen? ⟨b, o, none⟩) :=
  ⟨fun b o h => hb.cell (p := ⟨b, o, none⟩) h, fun b o h => hb.frozen (p := ⟨b, o, none⟩) h⟩

/-- Block g is known whole: it holds just these cells, of type t, none of them frozen. -/
def Whl (w : World) (g : Nat) (t : TypeId) (cs : Array Value) : Prop := w.heap[g]? = some (.cells cs t (0, 0))
namespace Whl
variable {w w' : World} {g : Nat} {t : TypeId} {cs : Array Value}
theorem lt (h : Whl w g t cs) : g < w.heap.size := by
  rcases Nat.lt_or_ge g w.heap.size with k | k
  · exact k
  · unfold Whl at h; rw [Array.getElem?_eq_none k] at h; cases h
theorem cell (h : Whl w g t cs) (i : Nat) : w.cell? ⟨g, i, none⟩ = cs[i]? := by
  unfold Whl at h
  simp [World.cell?, h]
theorem frozen (h : Whl w g t cs) (i : Nat) : w.frozen? ⟨g, i, none⟩ = false := by
  unfold Whl at h
  simp [World.frozen?, h]
theorem new (w : World) (t : TypeId) (cs : Array Value) : Whl (w.alloc (.cells cs t)) w.heap.size t cs := by
  show (w.heap.push _)[w.heap.size]? = _
  simp
theorem alloc (h : Whl w g t cs) (o : Obj) : Whl (w.alloc o) g t cs := (Below.heap_alloc w o g h.lt).trans h
theorem drew (h : Whl w g t cs) : Whl w.drew g t cs := h
theorem drewN (h : Whl w g t cs) (n : Nat) : Whl (w.drewN n) g t cs := h
theorem put (h : Whl w g t cs) (i : Nat) (u : Value) : Whl (w.setCell ⟨g, i, none⟩ u) g t (cs.setIfInBounds i u) := by
  unfold Whl at h ⊢
  simp [World.setCell, Array.getElem?_modify, h]
theorem far (h : Whl w g t cs) {p : Addr} (hp : g ≠ p.block) (u : Value) : Whl (w.setCell p u) g t cs := (Below.heap_setCell w p u g hp).trans h
theorem below {B : Nat} (h : Whl w g t cs) (hb : Below B w w') (hg : g < B) : Whl w' g t cs := (hb.block g hg).trans h
theorem below' (h : Whl w g t cs) (hb : Below w.heap.size w w') : Whl w' g t cs := (hb.block g h.lt).trans h
theorem grown {row : Option Nat} (h : Whl w g t cs) (hb : w.grownBy w' row) (hg : some g ≠ row) : Whl w' g t cs := (hb.block g h.lt hg).trans h
end Whl

theorem own : ownKnob Tryd.prog.godebug = none := by kernel_rfl

section
variable {H : Type} {enc : TypeId × Value → H} {P : Program}

end
end Go.Proofs.YtddobhneplfddaaDoor

/-
  Small facts on new blocks, and on slices of integers that are read.
-/
namespace Go.Proofs.YtddobhneplfddaaDoor
open Go.RowKit
theorem Whl.new1 (w : World) (o : Obj) (t : TypeId) (cs : Array Value) : Whl ((w.alloc o).alloc (.cells cs t)) (w.heap.size + 1) t cs := by
  have := Whl.new (w.alloc o) t cs
  rwa [World.size_alloc] at this
theorem Whl.new2 (w : World) (o p : Obj) (t : TypeId) (cs : Array Value) : Whl (((w.alloc o).alloc p).alloc (.cells cs t)) (w.heap.size + 1 + 1) t cs := by
  have := Whl.new1 (w.alloc o) p t cs
  rwa [World.size_alloc] at this
theorem Whl.new3 (w : World) (o p q : Obj) (t : TypeId) (cs : Array Value) : Whl ((((w.alloc o).alloc p).alloc q).alloc (.cells cs t)) (w.heap.size + 1 + 1 + 1) t cs := by
  have := Whl.new2 (w.alloc o) p q t cs
  rwa [World.size_alloc] at this
/-- A rule for the walk ('attribute [local go_sem] lt_add_of'): what lies below a size lies below every greater one. -/
theorem lt_add_of {a b k : Nat} (h : a < b) : (a < b + k) = True := by simp; omega
theorem le_add_of {a b k : Nat} (h : a < b) : (a ≤ b + k) = True := by simp; omega
theorem lt_add2 {a b : Nat} (h : a < b) : (a < b + 1 + 1) = True := by simp; omega
theorem le_add2 {a b : Nat} (h : a < b) : (a ≤ b + 1 + 1) = True := by simp; omega
theorem lt_add3 {a b : Nat} (h : a < b) : (a < b + 1 + 1 + 1) = True := by simp; omega
theorem le_add3 {a b : Nat} (h : a < b) : (a ≤ b + 1 + 1 + 1) = True := by simp; omega
theorem lt_add4 {a b : Nat} (h : a < b) : (a < b + 1 + 1 + 1 + 1) = True := by simp; omega
theorem le_add4 {a b : Nat} (h : a < b) : (a ≤ b + 1 + 1 + 1 + 1) = True := by simp; omega
theorem lt_add5 {a b : Nat} (h : a < b) : (a < b + 1 + 1 + 1 + 1 + 1) = True := by simp; omega
theorem le_add5 {a b : Nat} (h : a < b) : (a ≤ b + 1 + 1 + 1 + 1 + 1) = True := by simp; omega
theorem lt_add6 {a b : Nat} (h : a < b) : (a < b + 1 + 1 + 1 + 1 + 1 + 1) = True := by simp; omega
theorem le_add6 {a b : Nat} (h : a < b) : (a ≤ b + 1 + 1 + 1 + 1 + 1 + 1) = True := by simp; omega
theorem lt_add7 {a b : Nat} (h : a < b) : (a < b + 1 + 1 + 1 + 1 + 1 + 1 + 1) = True := by simp; omega
theorem le_add7 {a b : Nat} (h : a < b) : (a ≤ b + 1 + 1 + 1 + 1 + 1 + 1 + 1) = True := by simp; omega
theorem lt_add8 {a b : Nat} (h : a < b) : (a < b + 1 + 1 + 1 + 1 + 1 + 1 + 1 + 1) = True := by simp; omega
theorem le_add8 {a b : Nat} (h : a < b) : (a ≤ b + 1 + 1 + 1 + 1 + 1 + 1 + 1 + 1) = True := by simp; omega
theorem le_of_lt_ {a b : Nat} (h : a < b) : (a ≤ b) = True := by simp; omega

attribute [go_sem] lt_add_of le_add_of le_of_lt_ lt_add2 le_add2 lt_add3 le_add3 lt_add4 le_add4 lt_add5 le_add5 lt_add6 le_add6 lt_add7 le_add7 lt_add8 le_add8

def nthI (zs : List Int) (k : Nat) : Int := zs.getD k 0
/-- A slice of integers that is read: where it has elements, its cells lie below block B. -/
def IntsAt (w : World) (B : Nat) (A : Option Addr) (zs : List Int) : Prop :=
  0 < zs.length → ∃ b off, A = some ⟨b, off, none⟩ ∧ b < B ∧ ∀ k, k < zs.length → w.cell? ⟨b, off + k, none⟩ = some (.int .i64 (nthI zs k))
theorem IntsAt.below {w w' : World} {B B' : Nat} {A : Option Addr} {zs : List Int} (h : IntsAt w B A zs) (hb : Below B' w w') (hB : B ≤ B') : IntsAt w' B A zs := fun h0 => by
  obtain ⟨b, off, e, hlt, hc⟩ := h h0
  exact ⟨b, off, e, hlt, fun k hk => (hb.cell (p := ⟨b, off + k, none⟩) (Nat.lt_of_lt_of_le hlt hB)).trans (hc k hk)⟩
theorem IntsAt.more {w : World} {B B' : Nat} {A : Option Addr} {zs : List Int} (h : IntsAt w B A zs) (hB : B ≤ B') : IntsAt w B' A zs := fun h0 => by
  obtain ⟨b, off, e, hlt, hc⟩ := h h0
  exact ⟨b, off, e, Nat.lt_of_lt_of_le hlt hB, hc⟩
theorem IntsAt.lit (w : World) (t : TypeId) (zs : List Int) : IntsAt (w.alloc (.cells (zs.map (Value.int .i64)).toArray t)) (w.heap.size + 1) (some ⟨w.heap.size, 0, none⟩) zs := fun h0 =>
  ⟨w.heap.size, 0, rfl, Nat.lt_succ_self _, fun k hk => by
    rw [(Whl.new w t _).cell]
    simp [nthI, hk]⟩
end Go.Proofs.YtddobhneplfddaaDoor

/-
  Cells that are known stay known behind a call that turns nothing below the heap's size: for the regions that draw their order.
-/
namespace Go.Proofs.YtddobhneplfddaaDoor
open Go.RowKit
theorem cellK {w1 w2 : World} (hb : Below w1.heap.size w1 w2) {p : Addr} {v : Value} (c : w1.cell? p = some v) : w2.cell? p = some v :=
  (hb.cell (World.block_lt_of_cell? w1 _ c)).trans c
theorem below_step {w a b : World} (h : Below w.heap.size w a) (k : Below a.heap.size a b) : Below w.heap.size w b := h.trans (k.mono h.size)
theorem below_alloc {w a : World} (h : Below w.heap.size w a) (o : Obj) : Below w.heap.size w (a.alloc o) := h.alloc h.size o
theorem keep2 {w1 w2 : World} (hb : Below w1.heap.size w1 w2) {p0 p1 : Addr} {v0 v1 : Value} : (w1.cell? p0 = some v0 ∧ w1.cell? p1 = some v1) → (w2.cell? p0 = some v0 ∧ w2.cell? p1 = some v1) := fun ⟨c0, c1⟩ => ⟨cellK hb c0, cellK hb c1⟩
theorem below_drewN {B : Nat} {w w' : World} (h : Below B w w') (n : Nat) : Below B w (w'.drewN n) := ⟨h.os, h.tape, h.output, h.size, h.block⟩
end Go.Proofs.YtddobhneplfddaaDoor

namespace Go.Proofs.YtddobhneplfddaaDoor
set_option maxRecDepth 100000
open Go.RowKit

/-- A span: its two ends. -/
structure Sp where
  lo : Int
  hi : Int

namespace Sp
theorem ext' {a b : Sp} (h : a.lo = b.lo) (k : a.hi = b.hi) : a = b := by cases a; cases b; simp at h k; simp [h, k]
def none (a : Sp) : Bool := decide (a.hi < a.lo)
def has (a : Sp) (n : Int) : Bool := decide (a.lo ≤ n) && decide (n ≤ a.hi)
def mn (a b : Int) : Int := if a < b then a else b
def mx (a b : Int) : Int := if b < a then a else b
def join (a b : Sp) : Sp := if a.none = true then b else if b.none = true then a else ⟨mn a.lo b.lo, mx a.hi b.hi⟩
def meetS (a b : Sp) : Sp := ⟨mx a.lo b.lo, mn a.hi b.hi⟩
def meet (a b : Sp) : Sp := if (meetS a b).none = true then ⟨0, 0⟩ else meetS a b
def meetOk (a b : Sp) : Bool := !(meetS a b).none
def least : Int := -9223372036854775808
def greatest : Int := 9223372036854775807
def all : Sp := ⟨least, greatest⟩
def inR (n : Int) : Bool := decide (least ≤ n) && decide (n ≤ greatest)
def len (a b : Sp) : Int := if b.hi ≤ a.lo then 0 else b.hi - a.lo
def sumOk (a b : Int) : Bool := inR (a + b)
def lessOk (a b : Int) : Bool := inR (a - b)
def truth (yes no : Bool) : Sp := if yes = true then ⟨1, 1⟩ else if no = true then ⟨0, 0⟩ else ⟨0, 1⟩
def belowA (a b : Sp) : Sp := if (a.none || b.none || decide (b.hi ≤ a.lo)) = true then ⟨0, 0⟩ else ⟨a.lo, mn a.hi (b.hi - 1)⟩
def belowB (a b : Sp) : Sp := if (a.none || b.none || decide (b.hi ≤ a.lo)) = true then ⟨0, 0⟩ else ⟨mx b.lo (a.lo + 1), b.hi⟩
def belowOk (a b : Sp) : Bool := !(a.none || b.none || decide (b.hi ≤ a.lo))
def within (a b : Sp) : Bool := a.none || decide (b.lo ≤ a.lo) && decide (a.hi ≤ b.hi)
def Wf (a : Sp) : Prop := (-9223372036854775808 ≤ a.lo ∧ a.lo ≤ 9223372036854775807) ∧ (-9223372036854775808 ≤ a.hi ∧ a.hi ≤ 9223372036854775807)
end Sp
def In64 (n : Int) : Prop := -9223372036854775808 ≤ n ∧ n ≤ 9223372036854775807
theorem join_lo {a b : Sp} (h1 : a.lo ≤ a.hi) (h2 : b.lo ≤ b.hi) : (a.join b).lo = Sp.mn a.lo b.lo := by simp [Sp.join, Sp.none, Int.not_lt.2 h1, Int.not_lt.2 h2]
theorem join_hi {a b : Sp} (h1 : a.lo ≤ a.hi) (h2 : b.lo ≤ b.hi) : (a.join b).hi = Sp.mx a.hi b.hi := by simp [Sp.join, Sp.none, Int.not_lt.2 h1, Int.not_lt.2 h2]
end Go.Proofs.YtddobhneplfddaaDoor

/-
  Layer 8 (span): Widen as plain functions.
-/
namespace Go.Proofs.YtddobhneplfddaaDoor
open Go.RowKit

/-- The greatest of the first k thresholds that are at most j; least, if there is none. -/
def wLo (ts : List Int) (j : Int) : Nat → Int
  | 0 => Sp.least
  | k + 1 => if nthI ts k ≤ j then Sp.mx (wLo ts j k) (nthI ts k) else wLo ts j k
/-- The least of the first k thresholds that are at least j; greatest, if there is none. -/
def wHi (ts : List Int) (j : Int) : Nat → Int
  | 0 => Sp.greatest
  | k + 1 => if j ≤ nthI ts k then Sp.mn (wHi ts j k) (nthI ts k) else wHi ts j k
def widen (a b : Sp) (ts : List Int) : Sp :=
  if a.none = true then b else if b.none = true then a else
    ⟨if b.lo < a.lo then wLo ts b.lo ts.length else a.lo, if a.hi < b.hi then wHi ts b.hi ts.length else a.hi⟩
theorem wLo_yes {ts : List Int} {j : Int} {k : Nat} (h : nthI ts k ≤ j) : wLo ts j (k + 1) = Sp.mx (wLo ts j k) (nthI ts k) := by simp [wLo, h]
theorem wLo_no {ts : List Int} {j : Int} {k : Nat} (h : j < nthI ts k) : wLo ts j (k + 1) = wLo ts j k := by simp [wLo]; omega
theorem wHi_yes {ts : List Int} {j : Int} {k : Nat} (h : j ≤ nthI ts k) : wHi ts j (k + 1) = Sp.mn (wHi ts j k) (nthI ts k) := by simp [wHi, h]
theorem wHi_no {ts : List Int} {j : Int} {k : Nat} (h : nthI ts k < j) : wHi ts j (k + 1) = wHi ts j k := by simp [wHi]; omega
/-- The hull of what has come so far: k numbers. -/
def hullTo (zs : List Int) : Nat → Sp
  | 0 => ⟨nthI zs 0, nthI zs 0⟩
  | k + 1 => (hullTo zs k).join ⟨nthI zs k, nthI zs k⟩

end Go.Proofs.YtddobhneplfddaaDoor

/-
  Layer 8 (span): Do as plain functions; the arithmetic of 64 bits that its walks end in.
-/
namespace Go.Proofs.YtddobhneplfddaaDoor
open Go.RowKit
set_option linter.unusedVariables false

theorem exact_ok {a b : Int} (ha : In64 a) (hb : In64 b) : (decide (a < wrap64 (a + b)) == decide (0 < b)) = Sp.sumOk a b := by
  obtain ⟨_, _⟩ := ha
  obtain ⟨_, _⟩ := hb
  unfold wrap64 Sp.sumOk Sp.inR Sp.least Sp.greatest
  rw [Bool.eq_iff_iff]
  simp
  omega
theorem less_ok {a b : Int} (ha : In64 a) (hb : In64 b) : (decide (wrap64 (a - b) < a) == decide (0 < b)) = Sp.lessOk a b := by
  obtain ⟨_, _⟩ := ha
  obtain ⟨_, _⟩ := hb
  unfold wrap64 Sp.lessOk Sp.inR Sp.least Sp.greatest
  rw [Bool.eq_iff_iff]
  simp
  omega
theorem dist_neg {a : Int} (ha : In64 a) (h : a < 0) : IntKind.u64.wrap (-(IntKind.u64.wrap a)) = (a.natAbs : Int) := by
  obtain ⟨_, _⟩ := ha
  simp [IntKind.wrap, IntKind.bits, IntKind.signed]; omega
theorem dist_pos {a : Int} (ha : In64 a) (h : 0 ≤ a) : IntKind.u64.wrap a = (a.natAbs : Int) := by
  obtain ⟨_, _⟩ := ha
  simp [IntKind.wrap, IntKind.bits, IntKind.signed]; omega
/-- Is a product a number of 64 bits? -/
def mulOk (a b : Int) : Bool := Sp.inR (a * b)
theorem mul_neg_eq {a b : Int} (h : (a < 0 ∧ 0 ≤ b) ∨ (0 ≤ a ∧ b < 0)) : a * b = -((a.natAbs * b.natAbs : Nat) : Int) := by
  rw [Int.natCast_mul]
  rcases h with ⟨h1, h2⟩ | ⟨h1, h2⟩
  · rw [Int.ofNat_natAbs_of_nonpos (by omega), Int.natAbs_of_nonneg h2, Int.neg_mul, Int.neg_neg]
  · rw [Int.natAbs_of_nonneg h1, Int.ofNat_natAbs_of_nonpos (by omega), Int.mul_neg, Int.neg_neg]
theorem mul_pos_eq {a b : Int} (h : (a < 0 ∧ b < 0) ∨ (0 ≤ a ∧ 0 ≤ b)) : a * b = ((a.natAbs * b.natAbs : Nat) : Int) := by
  rw [Int.natCast_mul]
  rcases h with ⟨h1, h2⟩ | ⟨h1, h2⟩
  · rw [Int.ofNat_natAbs_of_nonpos (by omega), Int.ofNat_natAbs_of_nonpos (by omega), Int.neg_mul_neg]
  · rw [Int.natAbs_of_nonneg h1, Int.natAbs_of_nonneg h2]
def mulHi (a b : Int) : Int := ((a.natAbs * b.natAbs / 18446744073709551616 : Nat) : Int)
def mulLo (a b : Int) : Int := ((a.natAbs * b.natAbs % 18446744073709551616 : Nat) : Int)
theorem times_neg {a b : Int} (h : (a < 0 ∧ 0 ≤ b) ∨ (0 ≤ a ∧ b < 0)) :
    wrap64 (-(wrap64 (mulLo a b))) = wrap64 (a * b) ∧ (decide (mulHi a b = 0) && decide (mulLo a b ≤ 9223372036854775808)) = mulOk a b := by
  rw [mulOk, mul_neg_eq h]
  unfold mulLo mulHi
  generalize a.natAbs * b.natAbs = n
  constructor
  · unfold wrap64; omega
  · unfold Sp.inR Sp.least Sp.greatest
    rw [Bool.eq_iff_iff]
    simp only [Bool.and_eq_true, decide_eq_true_eq]
    omega
theorem times_pos {a b : Int} (h : (a < 0 ∧ b < 0) ∨ (0 ≤ a ∧ 0 ≤ b)) :
    wrap64 (mulLo a b) = wrap64 (a * b) ∧ (decide (mulHi a b = 0) && decide (mulLo a b ≤ 9223372036854775807)) = mulOk a b := by
  rw [mulOk, mul_pos_eq h]
  unfold mulLo mulHi
  generalize a.natAbs * b.natAbs = n
  constructor
  · unfold wrap64; omega
  · unfold Sp.inR Sp.least Sp.greatest
    rw [Bool.eq_iff_iff]
    simp only [Bool.and_eq_true, decide_eq_true_eq]
    omega
/-- The greatest rest: one less than the greater distance of the divisor's ends. -/
def leftM (b : Sp) : Int := if b.lo.natAbs < b.hi.natAbs then (b.hi.natAbs : Int) - 1 else (b.lo.natAbs : Int) - 1
def leftS (a b : Sp) : Sp := ⟨if a.lo < 0 then Sp.mx a.lo (-(leftM b)) else 0, if 0 < a.hi then Sp.mn a.hi (leftM b) else 0⟩
theorem leftM_in {b : Sp} (hb : b.Wf) (h : b.lo ≠ 0 ∨ b.hi ≠ 0) : 0 ≤ leftM b ∧ leftM b ≤ 9223372036854775807 := by
  obtain ⟨⟨_, _⟩, _, _⟩ := hb
  unfold leftM; split <;> omega
/-- The divisors that are tried. -/
def cand (b : Sp) : Nat → Int
  | 0 => b.lo
  | 1 => b.hi
  | 2 => -1
  | _ => 1
def candOk (b : Sp) (k : Nat) : Bool := !decide (cand b k = 0) && b.has (cand b k)
/-- The quotients of the first k divisors. -/
def quots (a b : Sp) : Nat → List Int
  | 0 => []
  | k + 1 => if candOk b k = true then quots a b k ++ [wrap64 (a.lo.tdiv (cand b k)), wrap64 (a.hi.tdiv (cand b k))] else quots a b k
theorem candOk_zero {b : Sp} {k : Nat} (h : (cand b k == 0) = true) : candOk b k = false := by
  have : cand b k = 0 := by simpa using h
  simp [candOk, this]
theorem candOk_out {b : Sp} {k : Nat} (h : b.has (cand b k) = false) : candOk b k = false := by simp [candOk, h]
theorem candOk_in {b : Sp} {k : Nat} (h0 : (cand b k == 0) = false) (h : b.has (cand b k) = true) : candOk b k = true := by
  have : ¬ cand b k = 0 := by simpa using h0
  simp [candOk, h, this]
theorem quots_yes {a b : Sp} {k : Nat} (h : candOk b k = true) : quots a b (k + 1) = quots a b k ++ [wrap64 (a.lo.tdiv (cand b k)), wrap64 (a.hi.tdiv (cand b k))] := by simp [quots, h]
theorem quots_no {a b : Sp} {k : Nat} (h : candOk b k = false) : quots a b (k + 1) = quots a b k := by simp [quots, h]
theorem quots_len (a b : Sp) (k : Nat) : (quots a b k).length ≤ 2 * k := by
  induction k with
  | zero => simp [quots]
  | succ k ih => simp only [quots]; split <;> (try simp) <;> omega
theorem quots_grow {a b : Sp} {k : Nat} (h : candOk b k = true) : ∀ n, k < n → 0 < (quots a b n).length
  | 0, hn => absurd hn (by omega)
  | n + 1, hn => by
    rcases Nat.lt_or_ge k n with h1 | h1
    · have := quots_grow (a := a) h n h1
      simp only [quots]; split <;> (try simp) <;> omega
    · obtain rfl : k = n := by omega
      rw [quots_yes h]; simp
theorem quots_some {a b : Sp} (h : b.lo ≤ b.hi) (h0 : b.lo ≠ 0 ∨ b.hi ≠ 0) : 0 < (quots a b 4).length := by
  rcases h0 with h0 | h0
  · exact quots_grow (k := 0) (by simp [candOk, cand, Sp.has, h0, h]) 4 (by omega)
  · exact quots_grow (k := 1) (by simp [candOk, cand, Sp.has, h0, h]) 4 (by omega)
def divS (a b : Sp) : Sp := if a.lo = Sp.least ∧ b.has (-1) = true then Sp.all else hullTo (quots a b 4) (quots a b 4).length
theorem mulOk_iff (a b : Int) : mulOk a b = true ↔ (-9223372036854775808 ≤ a * b ∧ a * b ≤ 9223372036854775807) := by
  unfold mulOk Sp.inR Sp.least Sp.greatest
  rw [Bool.and_eq_true, decide_eq_true_eq, decide_eq_true_eq]
theorem sumOk_iff (a b : Int) : Sp.sumOk a b = true ↔ (-9223372036854775808 ≤ a + b ∧ a + b ≤ 9223372036854775807) := by
  unfold Sp.sumOk Sp.inR Sp.least Sp.greatest
  rw [Bool.and_eq_true, decide_eq_true_eq, decide_eq_true_eq]
theorem lessOk_iff (a b : Int) : Sp.lessOk a b = true ↔ (-9223372036854775808 ≤ a - b ∧ a - b ≤ 9223372036854775807) := by
  unfold Sp.lessOk Sp.inR Sp.least Sp.greatest
  rw [Bool.and_eq_true, decide_eq_true_eq, decide_eq_true_eq]
theorem tdiv_in {p b : Int} (hp : In64 p) (b0 : b ≠ 0) (b1 : b ≠ -1) : In64 (p.tdiv b) := by
  obtain ⟨h1, h2⟩ := hp
  by_cases hb : b = 1
  · subst hb; rw [Int.tdiv_one]; exact ⟨h1, h2⟩
  · have e : (p.tdiv b).natAbs = p.natAbs / b.natAbs := Int.natAbs_tdiv p b
    have h3 : p.natAbs / b.natAbs ≤ p.natAbs / 2 := Nat.div_le_div_left (by omega) (by omega)
    unfold In64
    omega
theorem wrap64_In (n : Int) : In64 (wrap64 n) := by unfold wrap64 In64; omega
end Go.Proofs.YtddobhneplfddaaDoor

/-
  Layer 8 (span): what Do tells, as plain functions.
-/
namespace Go.Proofs.YtddobhneplfddaaDoor
open Go.RowKit
set_option linter.unusedVariables false

def Sp.point (a : Sp) : Bool := decide (a.lo = a.hi)
def bothPoint (a b : Sp) : Bool := a.point && b.point
def addS (a b : Sp) : Sp := if bothPoint a b = true then ⟨wrap64 (a.lo + b.lo), wrap64 (a.lo + b.lo)⟩ else
  if (Sp.sumOk a.lo b.lo && Sp.sumOk a.hi b.hi) = true then hullTo [a.lo + b.lo, a.hi + b.hi] 2 else Sp.all
def subS (a b : Sp) : Sp := if bothPoint a b = true then ⟨wrap64 (a.lo - b.lo), wrap64 (a.lo - b.lo)⟩ else
  if (Sp.lessOk a.lo b.hi && Sp.lessOk a.hi b.lo) = true then hullTo [a.lo - b.hi, a.hi - b.lo] 2 else Sp.all
def mulS (a b : Sp) : Sp := if bothPoint a b = true then ⟨wrap64 (a.lo * b.lo), wrap64 (a.lo * b.lo)⟩ else
  if (mulOk a.lo b.lo && mulOk a.lo b.hi && mulOk a.hi b.lo && mulOk a.hi b.hi) = true then hullTo [a.lo * b.lo, a.lo * b.hi, a.hi * b.lo, a.hi * b.hi] 4 else Sp.all
def Sp.zero (a : Sp) : Bool := decide (a.lo = 0) && decide (a.hi = 0)
def eqS (a b : Sp) : Sp := Sp.truth (bothPoint a b && decide (a.lo = b.lo)) (!a.meetOk b)
def ltS (a b : Sp) : Sp := Sp.truth (decide (a.hi < b.lo)) (decide (b.hi ≤ a.lo))
def notS (a : Sp) : Sp := Sp.truth a.zero (!a.has 0)
/-- Is something told? -/
def doOk (op : Int) (a b : Sp) : Bool :=
  !a.none && (decide (op = 10) || (!b.none && (decide (op = 3) || decide (op = 4) || decide (op = 5) || decide (op = 8) || decide (op = 9) || ((decide (op = 6) || decide (op = 7)) && !b.zero))))
def doSp (op : Int) (a b : Sp) : Sp :=
  if doOk op a b = false then ⟨0, 0⟩ else if op = 10 then notS a else if op = 3 then addS a b else if op = 4 then subS a b else if op = 5 then mulS a b else
  if op = 6 then divS a b else if op = 7 then leftS a b else if op = 8 then ltS a b else eqS a b
end Go.Proofs.YtddobhneplfddaaDoor

/-
  Layer 8 (span): plain facts by which the walks of span.Do and of its reference are joined.
-/
namespace Go.Proofs.YtddobhneplfddaaDoor
open Go.RowKit
set_option linter.unusedSimpArgs false
set_option linter.unusedVariables false

theorem point_eq (a : Sp) : a.point = (a.lo == a.hi) := rfl
theorem decide_eq' (x y : Int) : decide (x = y) = (x == y) := rfl
theorem zero_eq (a : Sp) : a.zero = ((a.lo == 0) && (a.hi == 0)) := rfl
theorem sumOk_wrap {x y : Int} (h : Sp.sumOk x y = true) : wrap64 (x + y) = x + y := IntWalk.wrap64_in _ ((sumOk_iff x y).1 h)
theorem lessOk_wrap {x y : Int} (h : Sp.lessOk x y = true) : wrap64 (x - y) = x - y := IntWalk.wrap64_in _ ((lessOk_iff x y).1 h)
theorem mulOk_wrap {x y : Int} (h : mulOk x y = true) : wrap64 (x * y) = x * y := IntWalk.wrap64_in _ ((mulOk_iff x y).1 h)
end Go.Proofs.YtddobhneplfddaaDoor

namespace Go.Proofs.YtddobhneplfddaaDoor
set_option maxRecDepth 100000
open Go.RowKit
set_option linter.unusedSimpArgs false
set_option linter.unusedVariables false
attribute [local go_sem ↓] Go.wp_at_zero Go.wp_at_succ

set_option maxHeartbeats 4000000 in
theorem allP (w : World) : Calls Tryd.prog 58 #[] w fun e w' => e = .returned (.agg #[.int .i64 Sp.all.lo, .int .i64 Sp.all.hi]) ∧ Below w.heap.size w w' := by
  go_enter Tryd.func58, Tryd.ntmps58
  go_wp2
  all_goals (try simp only [Exit.inBlock, Exit.then])
  all_goals refine ret_of ?_ rfl
  all_goals simp [results, Tryd.results58, go_sem]
  all_goals refine ⟨?_, (by repeat (first | exact Below.refl _ _ | with_reducible apply Below.drew | refine Below.alloc ?_ (by simp <;> omega) _ | refine Below.setCell ?_ (by simp <;> omega) _))⟩
  all_goals go_light
  all_goals (first | (simp [Sp.all, Sp.least, Sp.greatest, *]; done) | (simp [Sp.all, Sp.least, Sp.greatest]; omega) | ((simp [Sp.all, Sp.least, Sp.greatest]; repeat' split) <;> (first | omega | (simp_all; done) | (simp_all; omega))))

set_option maxHeartbeats 4000000 in
theorem hasP (a : Sp) (n : Int) (w : World) : Calls Tryd.prog 90 #[.agg #[.int .i64 a.lo, .int .i64 a.hi], .int .i64 n] w fun e w' => e = .returned (.bool (a.has n)) ∧ Below w.heap.size w w' := by
  go_enter Tryd.func90, Tryd.ntmps90
  go_wp2
  all_goals go_ret
  all_goals refine ⟨?_, (by repeat (first | exact Below.refl _ _ | with_reducible apply Below.drew | refine Below.alloc ?_ (by simp <;> omega) _ | refine Below.setCell ?_ (by simp <;> omega) _))⟩
  all_goals go_light
  all_goals (first | (simp [Sp.has, *]; done) | (simp [Sp.has]; omega) | ((simp [Sp.has]; repeat' split) <;> (first | omega | (simp_all; done) | (simp_all; omega))))

set_option maxHeartbeats 4000000 in
theorem joinP (a b : Sp) (w : World) : Calls Tryd.prog 62 #[.agg #[.int .i64 a.lo, .int .i64 a.hi], .agg #[.int .i64 b.lo, .int .i64 b.hi]] w fun e w' => e = .returned (.agg #[.int .i64 (a.join b).lo, .int .i64 (a.join b).hi]) ∧ Below w.heap.size w w' := by
  go_enter Tryd.func62, Tryd.ntmps62
  go_wp2
  all_goals (try simp only [Exit.inBlock, Exit.then])
  all_goals refine ret_of ?_ rfl
  all_goals simp [results, Tryd.results62, go_sem]
  all_goals refine ⟨?_, (by repeat (first | exact Below.refl _ _ | with_reducible apply Below.drew | refine Below.alloc ?_ (by simp <;> omega) _ | refine Below.setCell ?_ (by simp <;> omega) _))⟩
  all_goals go_light
  all_goals (first | (simp [Sp.join, Sp.none, Sp.mn, Sp.mx, *]; done) | (simp [Sp.join, Sp.none, Sp.mn, Sp.mx]; omega) | ((simp [Sp.join, Sp.none, Sp.mn, Sp.mx]; repeat' split) <;> (first | omega | (simp_all; done) | (simp_all; omega))))

set_option maxHeartbeats 4000000 in
theorem meetP (a b : Sp) (w : World) : Calls Tryd.prog 54 #[.agg #[.int .i64 a.lo, .int .i64 a.hi], .agg #[.int .i64 b.lo, .int .i64 b.hi]] w fun e w' => e = .returned (.tuple #[.agg #[.int .i64 (a.meet b).lo, .int .i64 (a.meet b).hi], .bool (a.meetOk b)]) ∧ Below w.heap.size w w' := by
  go_enter Tryd.func54, Tryd.ntmps54
  go_wp2
  all_goals (try simp only [Exit.inBlock, Exit.then])
  all_goals refine ret_of ?_ rfl
  all_goals simp [results, Tryd.results54, go_sem]
  all_goals refine ⟨?_, (by repeat (first | exact Below.refl _ _ | with_reducible apply Below.drew | refine Below.alloc ?_ (by simp <;> omega) _ | refine Below.setCell ?_ (by simp <;> omega) _))⟩
  all_goals go_light
  all_goals (first | (simp [Sp.meet, Sp.meetOk, Sp.meetS, Sp.none, Sp.mn, Sp.mx, *]; done) | (simp [Sp.meet, Sp.meetOk, Sp.meetS, Sp.none, Sp.mn, Sp.mx]; omega) | ((simp [Sp.meet, Sp.meetOk, Sp.meetS, Sp.none, Sp.mn, Sp.mx]; repeat' split) <;> (first | omega | (simp_all; done) | (simp_all; omega))))

set_option maxHeartbeats 4000000 in
theorem truthP (y n : Bool) (w : World) : Calls Tryd.prog 89 #[.bool y, .bool n] w fun e w' => e = .returned (.agg #[.int .i64 (Sp.truth y n).lo, .int .i64 (Sp.truth y n).hi]) ∧ Below w.heap.size w w' := by
  go_enter Tryd.func89, Tryd.ntmps89
  go_wp2
  all_goals (try simp only [Exit.inBlock, Exit.then])
  all_goals refine ret_of ?_ rfl
  all_goals simp [results, Tryd.results89, go_sem]
  all_goals refine ⟨?_, (by repeat (first | exact Below.refl _ _ | with_reducible apply Below.drew | refine Below.alloc ?_ (by simp <;> omega) _ | refine Below.setCell ?_ (by simp <;> omega) _))⟩
  all_goals go_light
  all_goals (first | (simp [Sp.truth, *]; done) | (simp [Sp.truth]; omega) | ((simp [Sp.truth]; repeat' split) <;> (first | omega | (simp_all; done) | (simp_all; omega))))

set_option maxHeartbeats 4000000 in
theorem belowP1 (a b : Sp) (ha : a.Wf) (hb : b.Wf) (h1 : a.hi < a.lo) (w : World) : Calls Tryd.prog 59 #[.agg #[.int .i64 a.lo, .int .i64 a.hi], .agg #[.int .i64 b.lo, .int .i64 b.hi]] w fun e w' => e = .returned (.tuple #[.agg #[.int .i64 (a.belowA b).lo, .int .i64 (a.belowA b).hi], .agg #[.int .i64 (a.belowB b).lo, .int .i64 (a.belowB b).hi], .bool (a.belowOk b)]) ∧ Below w.heap.size w w' := by
  obtain ⟨⟨_, _⟩, _, _⟩ := ha
  obtain ⟨⟨_, _⟩, _, _⟩ := hb
  go_enter Tryd.func59, Tryd.ntmps59
  go_wp2
  all_goals (try simp only [Exit.inBlock, Exit.then])
  all_goals refine ret_of ?_ rfl
  all_goals simp [results, Tryd.results59, go_sem]
  all_goals refine ⟨?_, (by repeat (first | exact Below.refl _ _ | with_reducible apply Below.drew | refine Below.alloc ?_ (by simp <;> omega) _ | refine Below.setCell ?_ (by simp <;> omega) _))⟩
  all_goals go_light
  all_goals (first | (simp [Sp.belowA, Sp.belowB, Sp.belowOk, Sp.none, Sp.mn, Sp.mx, *]; done) | (simp [Sp.belowA, Sp.belowB, Sp.belowOk, Sp.none, Sp.mn, Sp.mx]; omega) | ((simp [Sp.belowA, Sp.belowB, Sp.belowOk, Sp.none, Sp.mn, Sp.mx]; repeat' split) <;> (first | omega | (simp_all; done) | (simp_all; omega))))

set_option maxHeartbeats 4000000 in
theorem belowP2 (a b : Sp) (ha : a.Wf) (hb : b.Wf) (h1 : a.lo ≤ a.hi) (h2 : b.hi < b.lo) (w : World) : Calls Tryd.prog 59 #[.agg #[.int .i64 a.lo, .int .i64 a.hi], .agg #[.int .i64 b.lo, .int .i64 b.hi]] w fun e w' => e = .returned (.tuple #[.agg #[.int .i64 (a.belowA b).lo, .int .i64 (a.belowA b).hi], .agg #[.int .i64 (a.belowB b).lo, .int .i64 (a.belowB b).hi], .bool (a.belowOk b)]) ∧ Below w.heap.size w w' := by
  obtain ⟨⟨_, _⟩, _, _⟩ := ha
  obtain ⟨⟨_, _⟩, _, _⟩ := hb
  go_enter Tryd.func59, Tryd.ntmps59
  go_wp2
  all_goals (try simp only [Exit.inBlock, Exit.then])
  all_goals refine ret_of ?_ rfl
  all_goals simp [results, Tryd.results59, go_sem]
  all_goals refine ⟨?_, (by repeat (first | exact Below.refl _ _ | with_reducible apply Below.drew | refine Below.alloc ?_ (by simp <;> omega) _ | refine Below.setCell ?_ (by simp <;> omega) _))⟩
  all_goals go_light
  all_goals (first | (simp [Sp.belowA, Sp.belowB, Sp.belowOk, Sp.none, Sp.mn, Sp.mx, *]; done) | (simp [Sp.belowA, Sp.belowB, Sp.belowOk, Sp.none, Sp.mn, Sp.mx]; omega) | ((simp [Sp.belowA, Sp.belowB, Sp.belowOk, Sp.none, Sp.mn, Sp.mx]; repeat' split) <;> (first | omega | (simp_all; done) | (simp_all; omega))))

set_option maxHeartbeats 4000000 in
theorem belowP3 (a b : Sp) (ha : a.Wf) (hb : b.Wf) (h1 : a.lo ≤ a.hi) (h2 : b.lo ≤ b.hi) (h3 : b.hi ≤ a.lo) (w : World) : Calls Tryd.prog 59 #[.agg #[.int .i64 a.lo, .int .i64 a.hi], .agg #[.int .i64 b.lo, .int .i64 b.hi]] w fun e w' => e = .returned (.tuple #[.agg #[.int .i64 (a.belowA b).lo, .int .i64 (a.belowA b).hi], .agg #[.int .i64 (a.belowB b).lo, .int .i64 (a.belowB b).hi], .bool (a.belowOk b)]) ∧ Below w.heap.size w w' := by
  obtain ⟨⟨_, _⟩, _, _⟩ := ha
  obtain ⟨⟨_, _⟩, _, _⟩ := hb
  go_enter Tryd.func59, Tryd.ntmps59
  go_wp2
  all_goals (try simp only [Exit.inBlock, Exit.then])
  all_goals refine ret_of ?_ rfl
  all_goals simp [results, Tryd.results59, go_sem]
  all_goals refine ⟨?_, (by repeat (first | exact Below.refl _ _ | with_reducible apply Below.drew | refine Below.alloc ?_ (by simp <;> omega) _ | refine Below.setCell ?_ (by simp <;> omega) _))⟩
  all_goals go_light
  all_goals (first | (simp [Sp.belowA, Sp.belowB, Sp.belowOk, Sp.none, Sp.mn, Sp.mx, *]; done) | (simp [Sp.belowA, Sp.belowB, Sp.belowOk, Sp.none, Sp.mn, Sp.mx]; omega) | ((simp [Sp.belowA, Sp.belowB, Sp.belowOk, Sp.none, Sp.mn, Sp.mx]; repeat' split) <;> (first | omega | (simp_all; done) | (simp_all; omega))))

set_option maxHeartbeats 4000000 in
theorem belowP4 (a b : Sp) (ha : a.Wf) (hb : b.Wf) (h1 : a.lo ≤ a.hi) (h2 : b.lo ≤ b.hi) (h3 : a.lo < b.hi) (w : World) : Calls Tryd.prog 59 #[.agg #[.int .i64 a.lo, .int .i64 a.hi], .agg #[.int .i64 b.lo, .int .i64 b.hi]] w fun e w' => e = .returned (.tuple #[.agg #[.int .i64 (a.belowA b).lo, .int .i64 (a.belowA b).hi], .agg #[.int .i64 (a.belowB b).lo, .int .i64 (a.belowB b).hi], .bool (a.belowOk b)]) ∧ Below w.heap.size w w' := by
  obtain ⟨⟨_, _⟩, _, _⟩ := ha
  obtain ⟨⟨_, _⟩, _, _⟩ := hb
  have e1 : IntKind.i64.wrap (b.hi - 1) = b.hi - 1 := IntWalk.i64_in _ (by omega)
  have e2 : IntKind.i64.wrap (a.lo + 1) = a.lo + 1 := IntWalk.i64_in _ (by omega)
  go_enter Tryd.func59, Tryd.ntmps59
  go_wp2
  go_region_held3 (fun w' => w'.cell? ⟨w.heap.size, 0, none⟩ = some (.int .i64 a.lo) ∧ w'.cell? ⟨w.heap.size, 1, none⟩ = some (.int .i64 a.hi) ∧ w'.cell? ⟨w.heap.size + 1, 0, none⟩ = some (.int .i64 b.lo) ∧ w'.cell? ⟨w.heap.size + 1, 1, none⟩ = some (.int .i64 b.hi)) (go_simp) (fail)
  go_wp2
  all_goals (try simp only [Exit.inBlock, Exit.then])
  all_goals refine ret_of ?_ rfl
  all_goals simp [results, Tryd.results59, go_sem]
  all_goals refine ⟨?_, (by repeat (first | exact Below.refl _ _ | with_reducible apply Below.drew | refine Below.alloc ?_ (by simp <;> omega) _ | refine Below.setCell ?_ (by simp <;> omega) _))⟩
  all_goals go_light
  all_goals (first | (simp [Sp.belowA, Sp.belowB, Sp.belowOk, Sp.none, Sp.mn, Sp.mx, *]; done) | (simp [Sp.belowA, Sp.belowB, Sp.belowOk, Sp.none, Sp.mn, Sp.mx]; omega) | ((simp [Sp.belowA, Sp.belowB, Sp.belowOk, Sp.none, Sp.mn, Sp.mx]; repeat' split) <;> (first | omega | (simp_all; done) | (simp_all; omega))))

theorem belowP (a b : Sp) (ha : a.Wf) (hb : b.Wf) (w : World) : Calls Tryd.prog 59 #[.agg #[.int .i64 a.lo, .int .i64 a.hi], .agg #[.int .i64 b.lo, .int .i64 b.hi]] w fun e w' => e = .returned (.tuple #[.agg #[.int .i64 (a.belowA b).lo, .int .i64 (a.belowA b).hi], .agg #[.int .i64 (a.belowB b).lo, .int .i64 (a.belowB b).hi], .bool (a.belowOk b)]) ∧ Below w.heap.size w w' := by
  by_cases h1 : a.hi < a.lo
  · exact belowP1 a b ha hb h1 w
  · by_cases h2 : b.hi < b.lo
    · exact belowP2 a b ha hb (by omega) h2 w
    · by_cases h3 : b.hi ≤ a.lo
      · exact belowP3 a b ha hb (by omega) (by omega) h3 w
      · exact belowP4 a b ha hb (by omega) (by omega) (by omega) w

end Go.Proofs.YtddobhneplfddaaDoor


/-
  Layer 8 (span): hull: a loop over the numbers; the hull of what has come so far stands in a box of the call's own.
-/
namespace Go.Proofs.YtddobhneplfddaaDoor
open Go.RowKit
set_option linter.unusedSimpArgs false
set_option linter.unusedVariables false
attribute [local go_sem ↓] Go.wp_at_zero Go.wp_at_succ


/-- What lies in memory while the hull is made. -/
structure HullMem (w : World) (zs : List Int) (k : Nat) (wr : World) : Prop where
  below : Below w.heap.size w wr
  out : Whl wr w.heap.size 34 #[.int .i64 0, .int .i64 0]
  acc : Whl wr (w.heap.size + 1) 34 #[.int .i64 (hullTo zs k).lo, .int .i64 (hullTo zs k).hi]

set_option maxHeartbeats 4000000 in
theorem hullP (b off c : Nat) (zs : List Int) (w : World) (hb : b < w.heap.size) (h0 : 0 < zs.length) (hm : zs.length ≤ 9223372036854775807)
    (hc : ∀ k, k < zs.length → w.cell? ⟨b, off + k, none⟩ = some (.int .i64 (nthI zs k))) :
    Calls Tryd.prog 84 #[.slice (some ⟨b, off, none⟩) zs.length c, .bool true] w fun e w' => e = .returned (.agg #[.int .i64 (hullTo zs zs.length).lo, .int .i64 (hullTo zs zs.length).hi]) ∧ Below w.heap.size w w' := by
  have hc0 : w.cell? ⟨b, off, none⟩ = some (.int .i64 (nthI zs 0)) := hc 0 h0
  have HC := Lib.hid hc; clear hc
  go_enter Tryd.func84, Tryd.ntmps84
  go_wp2
  go_region
  go_wp2
  go_loopw [20] (fun i wr => ∃ k : Nat, k ≤ zs.length ∧ i = .int .i64 k ∧ HullMem w zs k wr) (fun i wr => zs.length - (intOf i).toNat)
  case atStart =>
    refine ⟨0, Nat.zero_le _, rfl, ?_, ?_, ?_⟩
    · repeat (first | exact Below.refl _ _ | with_reducible apply Below.drew | refine Below.alloc ?_ (by simp <;> omega) _)
    · exact ((Whl.new _ _ _).alloc _).drew
    · have := Whl.new (w.alloc (.cells #[.int .i64 0, .int .i64 0] 34)) 34 #[.int .i64 (nthI zs 0), .int .i64 (nthI zs 0)]
      rw [World.size_alloc] at this
      exact this.drew
  case round =>
    obtain ⟨k, hk, rfl, hB, hO, hA⟩ := hrel
    have c1 : wr.cell? ⟨w.heap.size + 1, 0, none⟩ = some (.int .i64 (hullTo zs k).lo) := hA.cell 0
    have c2 : wr.cell? ⟨w.heap.size + 1, 1, none⟩ = some (.int .i64 (hullTo zs k).hi) := hA.cell 1
    have f1 := hA.frozen 0
    have f2 := hA.frozen 1
    have c3 : wr.cell? ⟨w.heap.size, 0, none⟩ = some (.int .i64 0) := hO.cell 0
    have c4 : wr.cell? ⟨w.heap.size, 1, none⟩ = some (.int .i64 0) := hO.cell 1
    have f3 := hO.frozen 0
    have f4 := hO.frozen 1
    have z1 := hA.lt
    by_cases hlt : k < zs.length
    · have hck : wr.cell? ⟨b, off + k, none⟩ = some (.int .i64 (nthI zs k)) := (hB.cell (p := ⟨b, off + k, none⟩) hb).trans (HC.out k hlt)
      go_wp2_with (go_at_call 62; refine (joinP (hullTo zs k) ⟨nthI zs k, nthI zs k⟩ _).mono ?_; rintro e w1 ⟨rfl, hb1⟩; obtain ⟨hcc, hff⟩ := bcell hb1; have hs1 := hb1.size)
      go_roundw
      case rel =>
        go_light
        refine ⟨k + 1, by omega, by go_num, ?_, ?_, ?_⟩
        · exact ((hB.trans (hb1.mono hB.size)).setCell (by simp) _).setCell (by simp) _
        · exact ((hO.below' hb1).far (by simp) _).far (by simp) _
        · exact ((hA.below' hb1).put 0 _).put 1 _
      case measure => simp [intOf]; omega
    · have : k = zs.length := by omega
      subst this
      go_wp2
      all_goals (try simp only [Exit.inBlock, Exit.then])
      all_goals refine ret_of ?_ rfl
      all_goals simp [results, Tryd.results84, go_sem, c1, c2, c3, c4]
      exact (hB.setCell (by simp) _).setCell (by simp) _

set_option maxHeartbeats 4000000 in
theorem hullP_no (A : Option Addr) (n c : Nat) (w : World) :
    Calls Tryd.prog 84 #[.slice A n c, .bool false] w fun e w' => e = .returned (.agg #[.int .i64 Sp.all.lo, .int .i64 Sp.all.hi]) ∧ Below w.heap.size w w' := by
  go_enter Tryd.func84, Tryd.ntmps84
  go_wp2_with (go_at_call 58; refine (allP _).mono ?_; rintro e w1 ⟨rfl, hb1⟩; have hW := (Whl.new w 34 #[.int .i64 0, .int .i64 0]).below' hb1; have c1 : w1.cell? ⟨w.heap.size, 0, none⟩ = some (.int .i64 0) := hW.cell 0; have c2 : w1.cell? ⟨w.heap.size, 1, none⟩ = some (.int .i64 0) := hW.cell 1; have f1 := hW.frozen 0; have f2 := hW.frozen 1)
  all_goals (try simp only [Exit.inBlock, Exit.then])
  all_goals refine ret_of ?_ rfl
  all_goals simp [results, Tryd.results84, go_sem, c1, c2]
  exact ((((Below.refl _ _).alloc (Nat.le_refl _) _).trans (hb1.mono (by simp))).setCell (by simp) _).setCell (by simp) _
end Go.Proofs.YtddobhneplfddaaDoor

/-
  Layer 8 (span): the walk of Widen: two loops over the thresholds.
-/
namespace Go.Proofs.YtddobhneplfddaaDoor
open Go.RowKit
set_option linter.unusedSimpArgs false
set_option linter.unusedVariables false

/-- What lies in memory while a span is widened: the two spans, the result's place, the join (block J) and what has been found so far (block O). -/
structure WidMem (w : World) (a b : Sp) (J O : Nat) (lo hi : Int) (wr : World) : Prop where
  below : Below w.heap.size w wr
  pa : Whl wr w.heap.size 34 #[.int .i64 a.lo, .int .i64 a.hi]
  pb : Whl wr (w.heap.size + 1) 34 #[.int .i64 b.lo, .int .i64 b.hi]
  po : Whl wr (w.heap.size + 1 + 1) 34 #[.int .i64 0, .int .i64 0]
  pj : Whl wr J 34 #[.int .i64 (Sp.mn a.lo b.lo), .int .i64 (Sp.mx a.hi b.hi)]
  pr : Whl wr O 34 #[.int .i64 lo, .int .i64 hi]
  far : w.heap.size + 1 + 1 < J ∧ J < O

theorem WidMem.put {w wr : World} {a b : Sp} {J O : Nat} {lo hi : Int} (h : WidMem w a b J O lo hi wr) (i : Nat) (u : Int) (lo' hi' : Int) (e : (#[.int .i64 lo, .int .i64 hi] : Array Value).setIfInBounds i (.int .i64 u) = #[.int .i64 lo', .int .i64 hi']) :
    WidMem w a b J O lo' hi' (wr.setCell ⟨O, i, none⟩ (.int .i64 u)) := by
  obtain ⟨h1, h2, h3, h4, h5, h6, h7, h8⟩ := h
  exact ⟨h1.setCell (by show _ ≤ O; omega) _, h2.far (by show _ ≠ O; omega) _, h3.far (by show _ ≠ O; omega) _, h4.far (by show _ ≠ O; omega) _, h5.far (by show _ ≠ O; omega) _, by have := h6.put i (.int .i64 u); rwa [e] at this, h7, h8⟩

set_option maxHeartbeats 4000000 in
theorem widenP_TT (a b : Sp) (A : Option Addr) (c : Nat) (ts : List Int) (w : World) (h1 : a.lo ≤ a.hi) (h2 : b.lo ≤ b.hi) (h3 : b.lo < a.lo) (h4 : a.hi < b.hi) (hm : ts.length ≤ 9223372036854775807) (ht : IntsAt w w.heap.size A ts) :
    Calls Tryd.prog 63 #[.agg #[.int .i64 a.lo, .int .i64 a.hi], .agg #[.int .i64 b.lo, .int .i64 b.hi], .slice A ts.length c] w fun e w' => e = .returned (.agg #[.int .i64 (wLo ts (Sp.mn a.lo b.lo) ts.length), .int .i64 (wHi ts (Sp.mx a.hi b.hi) ts.length)]) ∧ Below w.heap.size w w' := by
  have hj1 : (a.join b).lo = Sp.mn a.lo b.lo := join_lo h1 h2
  have hj2 : (a.join b).hi = Sp.mx a.hi b.hi := join_hi h1 h2
  have hj3 : Sp.mn a.lo b.lo < a.lo := by unfold Sp.mn; omega
  have hj4 : a.hi < Sp.mx a.hi b.hi := by unfold Sp.mx; omega
  have HT := Lib.hid ht; clear ht
  go_enter Tryd.func63, Tryd.ntmps63
  go_wp2_with (first | go_at_call 82; go_in | (
    go_at_call 62
    refine (joinP a b _).mono ?_
    rintro e w1 ⟨rfl, hb1⟩
    have hA := (((Whl.new w 34 #[.int .i64 a.lo, .int .i64 a.hi]).alloc (.cells #[.int .i64 b.lo, .int .i64 b.hi] 34)).alloc (.cells #[.int .i64 0, .int .i64 0] 34)).below' hb1
    have hB := ((Whl.new1 w (.cells #[.int .i64 a.lo, .int .i64 a.hi] 34) 34 #[.int .i64 b.lo, .int .i64 b.hi]).alloc (.cells #[.int .i64 0, .int .i64 0] 34)).below' hb1
    have hO := (Whl.new2 w (.cells #[.int .i64 a.lo, .int .i64 a.hi] 34) (.cells #[.int .i64 b.lo, .int .i64 b.hi] 34) 34 #[.int .i64 0, .int .i64 0]).below' hb1
    have c1 : w1.cell? ⟨w.heap.size, 0, none⟩ = some (.int .i64 a.lo) := hA.cell 0
    have c2 : w1.cell? ⟨w.heap.size, 1, none⟩ = some (.int .i64 a.hi) := hA.cell 1
    have c3 : w1.cell? ⟨w.heap.size + 1, 0, none⟩ = some (.int .i64 b.lo) := hB.cell 0
    have c4 : w1.cell? ⟨w.heap.size + 1, 1, none⟩ = some (.int .i64 b.hi) := hB.cell 1
    have c5 : w1.cell? ⟨w.heap.size + 1 + 1, 0, none⟩ = some (.int .i64 0) := hO.cell 0
    have c6 : w1.cell? ⟨w.heap.size + 1 + 1, 1, none⟩ = some (.int .i64 0) := hO.cell 1
    have f5 := hO.frozen 0
    have f6 := hO.frozen 1
    have z1 := hA.lt
    have z2 := hB.lt
    have z3 := hO.lt))
  go_loopw [32] (fun i wr => ∃ k : Nat, k ≤ ts.length ∧ i = .int .i64 k ∧ WidMem w a b w1.heap.size (w1.heap.size + 1 + 1 + 1) (wLo ts (Sp.mn a.lo b.lo) k) a.hi wr) (fun i _ => ts.length - (intOf i).toNat)
  case atStart =>
    refine ⟨0, Nat.zero_le _, rfl, ?_, ?_, ?_, ?_, ?_, ?_, ?_⟩
    · exact (((((((Below.refl _ _).alloc (Nat.le_refl _) _).alloc (by simp) _).alloc (by simp <;> omega) _).trans (hb1.mono (by simp <;> omega))).alloc (by omega) _).alloc (by simp; omega) _ |>.alloc (by simp; omega) _).alloc (by simp; omega) _
    · exact (((hA.alloc _).alloc _).alloc _).alloc _
    · exact (((hB.alloc _).alloc _).alloc _).alloc _
    · exact (((hO.alloc _).alloc _).alloc _).alloc _
    · exact (((Whl.new w1 34 _).alloc _).alloc _).alloc _
    · exact Whl.new3 w1 _ _ _ 34 _
    · exact ⟨by omega, by omega⟩
  case round =>
    obtain ⟨k, hk, rfl, hM⟩ := hrel
    have d1 : wr.cell? ⟨w1.heap.size, 0, none⟩ = some (.int .i64 (Sp.mn a.lo b.lo)) := hM.pj.cell 0
    have d2 : wr.cell? ⟨w1.heap.size, 1, none⟩ = some (.int .i64 (Sp.mx a.hi b.hi)) := hM.pj.cell 1
    have d3 : wr.cell? ⟨w1.heap.size + 1 + 1 + 1, 0, none⟩ = some (.int .i64 (wLo ts (Sp.mn a.lo b.lo) k)) := hM.pr.cell 0
    have d4 : wr.cell? ⟨w1.heap.size + 1 + 1 + 1, 1, none⟩ = some (.int .i64 a.hi) := hM.pr.cell 1
    have g3 := hM.pr.frozen 0
    have g4 := hM.pr.frozen 1
    have e1 : wr.cell? ⟨w.heap.size, 0, none⟩ = some (.int .i64 a.lo) := hM.pa.cell 0
    have e2 : wr.cell? ⟨w.heap.size, 1, none⟩ = some (.int .i64 a.hi) := hM.pa.cell 1
    have e3 : wr.cell? ⟨w.heap.size + 1 + 1, 0, none⟩ = some (.int .i64 0) := hM.po.cell 0
    have e4 : wr.cell? ⟨w.heap.size + 1 + 1, 1, none⟩ = some (.int .i64 0) := hM.po.cell 1
    have g5 := hM.po.frozen 0
    have g6 := hM.po.frozen 1
    by_cases hlt : k < ts.length
    · obtain ⟨bt, off, rfl, hbt, hct⟩ := HT.out (by omega)
      have hck : wr.cell? ⟨bt, off + k, none⟩ = some (.int .i64 (nthI ts k)) := (hM.below.cell (p := ⟨bt, off + k, none⟩) hbt).trans (hct k hlt)
      clear hct
      by_cases hle : nthI ts k ≤ Sp.mn a.lo b.lo
      · by_cases hx : nthI ts k ≤ wLo ts (Sp.mn a.lo b.lo) k
        all_goals
          go_wp2
          go_roundw
          case rel =>
            go_light
            refine ⟨k + 1, by omega, by go_num, hM.put 0 _ _ _ ?_⟩
            rw [wLo_yes hle]; simp [Sp.mx]; try (first | omega | (split <;> omega))
          case measure => simp [intOf]; omega
      · have hle' : Sp.mn a.lo b.lo < nthI ts k := by omega
        go_wp2
        go_roundw
        case rel =>
          go_light
          exact ⟨k + 1, by omega, by go_num, by rw [wLo_no hle']; exact hM⟩
        case measure => simp [intOf]; omega
    · have hkk : k = ts.length := by omega
      have HK := Lib.hid hkk; clear hkk
      go_wp2
      obtain ⟨wo, rfl⟩ : ∃ wo : World, wo = wr := ⟨_, rfl⟩
      go_loopw [54] (fun i wr => ∃ k2 : Nat, k2 ≤ ts.length ∧ i = .int .i64 k2 ∧ WidMem w a b w1.heap.size (w1.heap.size + 1 + 1 + 1) (wLo ts (Sp.mn a.lo b.lo) ts.length) (wHi ts (Sp.mx a.hi b.hi) k2) wr) (fun i _ => ts.length - (intOf i).toNat)
      case atStart =>
        obtain rfl := HK.out; exact ⟨0, Nat.zero_le _, rfl, hM.put 1 _ _ _ (by simp [wHi, Sp.greatest])⟩
      case round =>
        obtain ⟨k2, hk2, rfl, hM2⟩ := hrel
        have d1 : wr.cell? ⟨w1.heap.size, 0, none⟩ = some (.int .i64 (Sp.mn a.lo b.lo)) := hM2.pj.cell 0
        have d2 : wr.cell? ⟨w1.heap.size, 1, none⟩ = some (.int .i64 (Sp.mx a.hi b.hi)) := hM2.pj.cell 1
        have d3 : wr.cell? ⟨w1.heap.size + 1 + 1 + 1, 0, none⟩ = some (.int .i64 (wLo ts (Sp.mn a.lo b.lo) ts.length)) := hM2.pr.cell 0
        have d4 : wr.cell? ⟨w1.heap.size + 1 + 1 + 1, 1, none⟩ = some (.int .i64 (wHi ts (Sp.mx a.hi b.hi) k2)) := hM2.pr.cell 1
        have g3 := hM2.pr.frozen 0
        have g4 := hM2.pr.frozen 1
        have e1 : wr.cell? ⟨w.heap.size, 0, none⟩ = some (.int .i64 a.lo) := hM2.pa.cell 0
        have e2 : wr.cell? ⟨w.heap.size, 1, none⟩ = some (.int .i64 a.hi) := hM2.pa.cell 1
        have e3 : wr.cell? ⟨w.heap.size + 1 + 1, 0, none⟩ = some (.int .i64 0) := hM2.po.cell 0
        have e4 : wr.cell? ⟨w.heap.size + 1 + 1, 1, none⟩ = some (.int .i64 0) := hM2.po.cell 1
        have g5 := hM2.po.frozen 0
        have g6 := hM2.po.frozen 1
        by_cases hlt2 : k2 < ts.length
        · obtain ⟨bt2, off2, rfl, hbt2, hct2⟩ := HT.out (by omega)
          have hck2 : wr.cell? ⟨bt2, off2 + k2, none⟩ = some (.int .i64 (nthI ts k2)) := (hM2.below.cell (p := ⟨bt2, off2 + k2, none⟩) hbt2).trans (hct2 k2 hlt2)
          clear hct2
          by_cases hle2 : Sp.mx a.hi b.hi ≤ nthI ts k2
          · by_cases hx2 : wHi ts (Sp.mx a.hi b.hi) k2 ≤ nthI ts k2
            all_goals
              go_wp2
              go_roundw
              case rel =>
                go_light
                refine ⟨k2 + 1, by omega, by go_num, hM2.put 1 _ _ _ ?_⟩
                rw [wHi_yes hle2]; simp [Sp.mn]; try (first | omega | (split <;> omega))
              case measure => simp [intOf]; omega
          · have hle2' : nthI ts k2 < Sp.mx a.hi b.hi := by omega
            go_wp2
            go_roundw
            case rel =>
              go_light
              exact ⟨k2 + 1, by omega, by go_num, by rw [wHi_no hle2']; exact hM2⟩
            case measure => simp [intOf]; omega
        · have hkk2 : k2 = ts.length := by omega
          have HK2 := Lib.hid hkk2; clear hkk2
          go_wp2
          all_goals (try simp only [Exit.inBlock, Exit.then])
          all_goals refine ret_of ?_ rfl
          all_goals simp [results, Tryd.results63, go_sem, e3, e4, c5, c6]
          all_goals go_light
          exact ⟨by rw [HK2.out], (hM2.below.setCell (by dsimp only; omega) _).setCell (by dsimp only; omega) _⟩

set_option maxHeartbeats 4000000 in
theorem widenP_TF (a b : Sp) (A : Option Addr) (c : Nat) (ts : List Int) (w : World) (h1 : a.lo ≤ a.hi) (h2 : b.lo ≤ b.hi) (h3 : b.lo < a.lo) (h4 : b.hi ≤ a.hi) (hm : ts.length ≤ 9223372036854775807) (ht : IntsAt w w.heap.size A ts) :
    Calls Tryd.prog 63 #[.agg #[.int .i64 a.lo, .int .i64 a.hi], .agg #[.int .i64 b.lo, .int .i64 b.hi], .slice A ts.length c] w fun e w' => e = .returned (.agg #[.int .i64 (wLo ts (Sp.mn a.lo b.lo) ts.length), .int .i64 a.hi]) ∧ Below w.heap.size w w' := by
  have hj1 : (a.join b).lo = Sp.mn a.lo b.lo := join_lo h1 h2
  have hj2 : (a.join b).hi = Sp.mx a.hi b.hi := join_hi h1 h2
  have hj3 : Sp.mn a.lo b.lo < a.lo := by unfold Sp.mn; omega
  have hj4 : Sp.mx a.hi b.hi ≤ a.hi := by unfold Sp.mx; omega
  have HT := Lib.hid ht; clear ht
  go_enter Tryd.func63, Tryd.ntmps63
  go_wp2_with (first | go_at_call 82; go_in | (
    go_at_call 62
    refine (joinP a b _).mono ?_
    rintro e w1 ⟨rfl, hb1⟩
    have hA := (((Whl.new w 34 #[.int .i64 a.lo, .int .i64 a.hi]).alloc (.cells #[.int .i64 b.lo, .int .i64 b.hi] 34)).alloc (.cells #[.int .i64 0, .int .i64 0] 34)).below' hb1
    have hB := ((Whl.new1 w (.cells #[.int .i64 a.lo, .int .i64 a.hi] 34) 34 #[.int .i64 b.lo, .int .i64 b.hi]).alloc (.cells #[.int .i64 0, .int .i64 0] 34)).below' hb1
    have hO := (Whl.new2 w (.cells #[.int .i64 a.lo, .int .i64 a.hi] 34) (.cells #[.int .i64 b.lo, .int .i64 b.hi] 34) 34 #[.int .i64 0, .int .i64 0]).below' hb1
    have c1 : w1.cell? ⟨w.heap.size, 0, none⟩ = some (.int .i64 a.lo) := hA.cell 0
    have c2 : w1.cell? ⟨w.heap.size, 1, none⟩ = some (.int .i64 a.hi) := hA.cell 1
    have c3 : w1.cell? ⟨w.heap.size + 1, 0, none⟩ = some (.int .i64 b.lo) := hB.cell 0
    have c4 : w1.cell? ⟨w.heap.size + 1, 1, none⟩ = some (.int .i64 b.hi) := hB.cell 1
    have c5 : w1.cell? ⟨w.heap.size + 1 + 1, 0, none⟩ = some (.int .i64 0) := hO.cell 0
    have c6 : w1.cell? ⟨w.heap.size + 1 + 1, 1, none⟩ = some (.int .i64 0) := hO.cell 1
    have f5 := hO.frozen 0
    have f6 := hO.frozen 1
    have z1 := hA.lt
    have z2 := hB.lt
    have z3 := hO.lt))
  go_loopw [32] (fun i wr => ∃ k : Nat, k ≤ ts.length ∧ i = .int .i64 k ∧ WidMem w a b w1.heap.size (w1.heap.size + 1 + 1 + 1) (wLo ts (Sp.mn a.lo b.lo) k) a.hi wr) (fun i _ => ts.length - (intOf i).toNat)
  case atStart =>
    refine ⟨0, Nat.zero_le _, rfl, ?_, ?_, ?_, ?_, ?_, ?_, ?_⟩
    · exact (((((((Below.refl _ _).alloc (Nat.le_refl _) _).alloc (by simp) _).alloc (by simp <;> omega) _).trans (hb1.mono (by simp <;> omega))).alloc (by omega) _).alloc (by simp; omega) _ |>.alloc (by simp; omega) _).alloc (by simp; omega) _
    · exact (((hA.alloc _).alloc _).alloc _).alloc _
    · exact (((hB.alloc _).alloc _).alloc _).alloc _
    · exact (((hO.alloc _).alloc _).alloc _).alloc _
    · exact (((Whl.new w1 34 _).alloc _).alloc _).alloc _
    · exact Whl.new3 w1 _ _ _ 34 _
    · exact ⟨by omega, by omega⟩
  case round =>
    obtain ⟨k, hk, rfl, hM⟩ := hrel
    have d1 : wr.cell? ⟨w1.heap.size, 0, none⟩ = some (.int .i64 (Sp.mn a.lo b.lo)) := hM.pj.cell 0
    have d2 : wr.cell? ⟨w1.heap.size, 1, none⟩ = some (.int .i64 (Sp.mx a.hi b.hi)) := hM.pj.cell 1
    have d3 : wr.cell? ⟨w1.heap.size + 1 + 1 + 1, 0, none⟩ = some (.int .i64 (wLo ts (Sp.mn a.lo b.lo) k)) := hM.pr.cell 0
    have d4 : wr.cell? ⟨w1.heap.size + 1 + 1 + 1, 1, none⟩ = some (.int .i64 a.hi) := hM.pr.cell 1
    have g3 := hM.pr.frozen 0
    have g4 := hM.pr.frozen 1
    have e1 : wr.cell? ⟨w.heap.size, 0, none⟩ = some (.int .i64 a.lo) := hM.pa.cell 0
    have e2 : wr.cell? ⟨w.heap.size, 1, none⟩ = some (.int .i64 a.hi) := hM.pa.cell 1
    have e3 : wr.cell? ⟨w.heap.size + 1 + 1, 0, none⟩ = some (.int .i64 0) := hM.po.cell 0
    have e4 : wr.cell? ⟨w.heap.size + 1 + 1, 1, none⟩ = some (.int .i64 0) := hM.po.cell 1
    have g5 := hM.po.frozen 0
    have g6 := hM.po.frozen 1
    by_cases hlt : k < ts.length
    · obtain ⟨bt, off, rfl, hbt, hct⟩ := HT.out (by omega)
      have hck : wr.cell? ⟨bt, off + k, none⟩ = some (.int .i64 (nthI ts k)) := (hM.below.cell (p := ⟨bt, off + k, none⟩) hbt).trans (hct k hlt)
      clear hct
      by_cases hle : nthI ts k ≤ Sp.mn a.lo b.lo
      · by_cases hx : nthI ts k ≤ wLo ts (Sp.mn a.lo b.lo) k
        all_goals
          go_wp2
          go_roundw
          case rel =>
            go_light
            refine ⟨k + 1, by omega, by go_num, hM.put 0 _ _ _ ?_⟩
            rw [wLo_yes hle]; simp [Sp.mx]; try (first | omega | (split <;> omega))
          case measure => simp [intOf]; omega
      · have hle' : Sp.mn a.lo b.lo < nthI ts k := by omega
        go_wp2
        go_roundw
        case rel =>
          go_light
          exact ⟨k + 1, by omega, by go_num, by rw [wLo_no hle']; exact hM⟩
        case measure => simp [intOf]; omega
    · have hkk : k = ts.length := by omega
      have HK := Lib.hid hkk; clear hkk
      go_wp2
      all_goals (try simp only [Exit.inBlock, Exit.then])
      all_goals refine ret_of ?_ rfl
      all_goals simp [results, Tryd.results63, go_sem, e3, e4, c5, c6]
      all_goals go_light
      exact ⟨by rw [HK.out], (hM.below.setCell (by dsimp only; omega) _).setCell (by dsimp only; omega) _⟩

set_option maxHeartbeats 4000000 in
theorem widenP_FT (a b : Sp) (A : Option Addr) (c : Nat) (ts : List Int) (w : World) (h1 : a.lo ≤ a.hi) (h2 : b.lo ≤ b.hi) (h3 : a.lo ≤ b.lo) (h4 : a.hi < b.hi) (hm : ts.length ≤ 9223372036854775807) (ht : IntsAt w w.heap.size A ts) :
    Calls Tryd.prog 63 #[.agg #[.int .i64 a.lo, .int .i64 a.hi], .agg #[.int .i64 b.lo, .int .i64 b.hi], .slice A ts.length c] w fun e w' => e = .returned (.agg #[.int .i64 a.lo, .int .i64 (wHi ts (Sp.mx a.hi b.hi) ts.length)]) ∧ Below w.heap.size w w' := by
  have hj1 : (a.join b).lo = Sp.mn a.lo b.lo := join_lo h1 h2
  have hj2 : (a.join b).hi = Sp.mx a.hi b.hi := join_hi h1 h2
  have hj3 : a.lo ≤ Sp.mn a.lo b.lo := by unfold Sp.mn; omega
  have hj4 : a.hi < Sp.mx a.hi b.hi := by unfold Sp.mx; omega
  have HT := Lib.hid ht; clear ht
  go_enter Tryd.func63, Tryd.ntmps63
  go_wp2_with (first | go_at_call 82; go_in | (
    go_at_call 62
    refine (joinP a b _).mono ?_
    rintro e w1 ⟨rfl, hb1⟩
    have hA := (((Whl.new w 34 #[.int .i64 a.lo, .int .i64 a.hi]).alloc (.cells #[.int .i64 b.lo, .int .i64 b.hi] 34)).alloc (.cells #[.int .i64 0, .int .i64 0] 34)).below' hb1
    have hB := ((Whl.new1 w (.cells #[.int .i64 a.lo, .int .i64 a.hi] 34) 34 #[.int .i64 b.lo, .int .i64 b.hi]).alloc (.cells #[.int .i64 0, .int .i64 0] 34)).below' hb1
    have hO := (Whl.new2 w (.cells #[.int .i64 a.lo, .int .i64 a.hi] 34) (.cells #[.int .i64 b.lo, .int .i64 b.hi] 34) 34 #[.int .i64 0, .int .i64 0]).below' hb1
    have c1 : w1.cell? ⟨w.heap.size, 0, none⟩ = some (.int .i64 a.lo) := hA.cell 0
    have c2 : w1.cell? ⟨w.heap.size, 1, none⟩ = some (.int .i64 a.hi) := hA.cell 1
    have c3 : w1.cell? ⟨w.heap.size + 1, 0, none⟩ = some (.int .i64 b.lo) := hB.cell 0
    have c4 : w1.cell? ⟨w.heap.size + 1, 1, none⟩ = some (.int .i64 b.hi) := hB.cell 1
    have c5 : w1.cell? ⟨w.heap.size + 1 + 1, 0, none⟩ = some (.int .i64 0) := hO.cell 0
    have c6 : w1.cell? ⟨w.heap.size + 1 + 1, 1, none⟩ = some (.int .i64 0) := hO.cell 1
    have f5 := hO.frozen 0
    have f6 := hO.frozen 1
    have z1 := hA.lt
    have z2 := hB.lt
    have z3 := hO.lt))
  go_loopw [54] (fun i wr => ∃ k : Nat, k ≤ ts.length ∧ i = .int .i64 k ∧ WidMem w a b w1.heap.size (w1.heap.size + 1 + 1 + 1) a.lo (wHi ts (Sp.mx a.hi b.hi) k) wr) (fun i _ => ts.length - (intOf i).toNat)
  case atStart =>
    refine ⟨0, Nat.zero_le _, rfl, ?_, ?_, ?_, ?_, ?_, ?_, ?_⟩
    · exact (((((((Below.refl _ _).alloc (Nat.le_refl _) _).alloc (by simp) _).alloc (by simp <;> omega) _).trans (hb1.mono (by simp <;> omega))).alloc (by omega) _).alloc (by simp; omega) _ |>.alloc (by simp; omega) _).alloc (by simp; omega) _
    · exact (((hA.alloc _).alloc _).alloc _).alloc _
    · exact (((hB.alloc _).alloc _).alloc _).alloc _
    · exact (((hO.alloc _).alloc _).alloc _).alloc _
    · exact (((Whl.new w1 34 _).alloc _).alloc _).alloc _
    · exact Whl.new3 w1 _ _ _ 34 _
    · exact ⟨by omega, by omega⟩
  case round =>
    obtain ⟨k, hk, rfl, hM⟩ := hrel
    have d1 : wr.cell? ⟨w1.heap.size, 0, none⟩ = some (.int .i64 (Sp.mn a.lo b.lo)) := hM.pj.cell 0
    have d2 : wr.cell? ⟨w1.heap.size, 1, none⟩ = some (.int .i64 (Sp.mx a.hi b.hi)) := hM.pj.cell 1
    have d3 : wr.cell? ⟨w1.heap.size + 1 + 1 + 1, 0, none⟩ = some (.int .i64 a.lo) := hM.pr.cell 0
    have d4 : wr.cell? ⟨w1.heap.size + 1 + 1 + 1, 1, none⟩ = some (.int .i64 (wHi ts (Sp.mx a.hi b.hi) k)) := hM.pr.cell 1
    have g3 := hM.pr.frozen 0
    have g4 := hM.pr.frozen 1
    have e1 : wr.cell? ⟨w.heap.size, 0, none⟩ = some (.int .i64 a.lo) := hM.pa.cell 0
    have e2 : wr.cell? ⟨w.heap.size, 1, none⟩ = some (.int .i64 a.hi) := hM.pa.cell 1
    have e3 : wr.cell? ⟨w.heap.size + 1 + 1, 0, none⟩ = some (.int .i64 0) := hM.po.cell 0
    have e4 : wr.cell? ⟨w.heap.size + 1 + 1, 1, none⟩ = some (.int .i64 0) := hM.po.cell 1
    have g5 := hM.po.frozen 0
    have g6 := hM.po.frozen 1
    by_cases hlt : k < ts.length
    · obtain ⟨bt, off, rfl, hbt, hct⟩ := HT.out (by omega)
      have hck : wr.cell? ⟨bt, off + k, none⟩ = some (.int .i64 (nthI ts k)) := (hM.below.cell (p := ⟨bt, off + k, none⟩) hbt).trans (hct k hlt)
      clear hct
      by_cases hle : Sp.mx a.hi b.hi ≤ nthI ts k
      · by_cases hx : wHi ts (Sp.mx a.hi b.hi) k ≤ nthI ts k
        all_goals
          go_wp2
          go_roundw
          case rel =>
            go_light
            refine ⟨k + 1, by omega, by go_num, hM.put 1 _ _ _ ?_⟩
            rw [wHi_yes hle]; simp [Sp.mn]; try (first | omega | (split <;> omega))
          case measure => simp [intOf]; omega
      · have hle' : nthI ts k < Sp.mx a.hi b.hi := by omega
        go_wp2
        go_roundw
        case rel =>
          go_light
          exact ⟨k + 1, by omega, by go_num, by rw [wHi_no hle']; exact hM⟩
        case measure => simp [intOf]; omega
    · have hkk : k = ts.length := by omega
      have HK := Lib.hid hkk; clear hkk
      go_wp2
      all_goals (try simp only [Exit.inBlock, Exit.then])
      all_goals refine ret_of ?_ rfl
      all_goals simp [results, Tryd.results63, go_sem, e3, e4, c5, c6]
      all_goals go_light
      exact ⟨by rw [HK.out], (hM.below.setCell (by dsimp only; omega) _).setCell (by dsimp only; omega) _⟩

set_option maxHeartbeats 4000000 in
theorem widenP_FF (a b : Sp) (A : Option Addr) (c : Nat) (ts : List Int) (w : World) (h1 : a.lo ≤ a.hi) (h2 : b.lo ≤ b.hi) (h3 : a.lo ≤ b.lo) (h4 : b.hi ≤ a.hi) (hm : ts.length ≤ 9223372036854775807) (ht : IntsAt w w.heap.size A ts) :
    Calls Tryd.prog 63 #[.agg #[.int .i64 a.lo, .int .i64 a.hi], .agg #[.int .i64 b.lo, .int .i64 b.hi], .slice A ts.length c] w fun e w' => e = .returned (.agg #[.int .i64 a.lo, .int .i64 a.hi]) ∧ Below w.heap.size w w' := by
  have hj1 : (a.join b).lo = Sp.mn a.lo b.lo := join_lo h1 h2
  have hj2 : (a.join b).hi = Sp.mx a.hi b.hi := join_hi h1 h2
  have hj3 : a.lo ≤ Sp.mn a.lo b.lo := by unfold Sp.mn; omega
  have hj4 : Sp.mx a.hi b.hi ≤ a.hi := by unfold Sp.mx; omega
  have HT := Lib.hid ht; clear ht
  go_enter Tryd.func63, Tryd.ntmps63
  go_wp2_with (first | go_at_call 82; go_in | (
    go_at_call 62
    refine (joinP a b _).mono ?_
    rintro e w1 ⟨rfl, hb1⟩
    have hA := (((Whl.new w 34 #[.int .i64 a.lo, .int .i64 a.hi]).alloc (.cells #[.int .i64 b.lo, .int .i64 b.hi] 34)).alloc (.cells #[.int .i64 0, .int .i64 0] 34)).below' hb1
    have hB := ((Whl.new1 w (.cells #[.int .i64 a.lo, .int .i64 a.hi] 34) 34 #[.int .i64 b.lo, .int .i64 b.hi]).alloc (.cells #[.int .i64 0, .int .i64 0] 34)).below' hb1
    have hO := (Whl.new2 w (.cells #[.int .i64 a.lo, .int .i64 a.hi] 34) (.cells #[.int .i64 b.lo, .int .i64 b.hi] 34) 34 #[.int .i64 0, .int .i64 0]).below' hb1
    have c1 : w1.cell? ⟨w.heap.size, 0, none⟩ = some (.int .i64 a.lo) := hA.cell 0
    have c2 : w1.cell? ⟨w.heap.size, 1, none⟩ = some (.int .i64 a.hi) := hA.cell 1
    have c3 : w1.cell? ⟨w.heap.size + 1, 0, none⟩ = some (.int .i64 b.lo) := hB.cell 0
    have c4 : w1.cell? ⟨w.heap.size + 1, 1, none⟩ = some (.int .i64 b.hi) := hB.cell 1
    have c5 : w1.cell? ⟨w.heap.size + 1 + 1, 0, none⟩ = some (.int .i64 0) := hO.cell 0
    have c6 : w1.cell? ⟨w.heap.size + 1 + 1, 1, none⟩ = some (.int .i64 0) := hO.cell 1
    have f5 := hO.frozen 0
    have f6 := hO.frozen 1
    have z1 := hA.lt
    have z2 := hB.lt
    have z3 := hO.lt))
  all_goals (try simp only [Exit.inBlock, Exit.then])
  all_goals refine ret_of ?_ rfl
  all_goals simp [results, Tryd.results63, go_sem, c5, c6, *]
  all_goals go_light
  have hch := (((Below.refl w.heap.size w).alloc (Nat.le_refl _) (.cells #[.int .i64 a.lo, .int .i64 a.hi] 34)).alloc (by simp) (.cells #[.int .i64 b.lo, .int .i64 b.hi] 34)).alloc (by simp; omega) (.cells #[.int .i64 0, .int .i64 0] 34)
  have hch2 := hch.trans (hb1.mono (by simp; omega))
  repeat (first | exact hch2 | refine Below.setCell ?_ (by dsimp only; omega) _ | refine Below.alloc ?_ (by simp <;> omega) _)

set_option maxHeartbeats 4000000 in
theorem widenP_N1 (a b : Sp) (A : Option Addr) (c : Nat) (ts : List Int) (w : World) (h1 : a.hi < a.lo) (hm : ts.length ≤ 9223372036854775807) (ht : IntsAt w w.heap.size A ts) :
    Calls Tryd.prog 63 #[.agg #[.int .i64 a.lo, .int .i64 a.hi], .agg #[.int .i64 b.lo, .int .i64 b.hi], .slice A ts.length c] w fun e w' => e = .returned (.agg #[.int .i64 b.lo, .int .i64 b.hi]) ∧ Below w.heap.size w w' := by
  have hj1 : (a.join b).lo = b.lo := by simp [Sp.join, Sp.none, h1]
  have hj2 : (a.join b).hi = b.hi := by simp [Sp.join, Sp.none, h1]
  have HT := Lib.hid ht; clear ht
  go_enter Tryd.func63, Tryd.ntmps63
  go_wp2_with (first | go_at_call 82; go_in | (
    go_at_call 62
    refine (joinP a b _).mono ?_
    rintro e w1 ⟨rfl, hb1⟩
    have hA := (((Whl.new w 34 #[.int .i64 a.lo, .int .i64 a.hi]).alloc (.cells #[.int .i64 b.lo, .int .i64 b.hi] 34)).alloc (.cells #[.int .i64 0, .int .i64 0] 34)).below' hb1
    have hB := ((Whl.new1 w (.cells #[.int .i64 a.lo, .int .i64 a.hi] 34) 34 #[.int .i64 b.lo, .int .i64 b.hi]).alloc (.cells #[.int .i64 0, .int .i64 0] 34)).below' hb1
    have hO := (Whl.new2 w (.cells #[.int .i64 a.lo, .int .i64 a.hi] 34) (.cells #[.int .i64 b.lo, .int .i64 b.hi] 34) 34 #[.int .i64 0, .int .i64 0]).below' hb1
    have c1 : w1.cell? ⟨w.heap.size, 0, none⟩ = some (.int .i64 a.lo) := hA.cell 0
    have c2 : w1.cell? ⟨w.heap.size, 1, none⟩ = some (.int .i64 a.hi) := hA.cell 1
    have c3 : w1.cell? ⟨w.heap.size + 1, 0, none⟩ = some (.int .i64 b.lo) := hB.cell 0
    have c4 : w1.cell? ⟨w.heap.size + 1, 1, none⟩ = some (.int .i64 b.hi) := hB.cell 1
    have c5 : w1.cell? ⟨w.heap.size + 1 + 1, 0, none⟩ = some (.int .i64 0) := hO.cell 0
    have c6 : w1.cell? ⟨w.heap.size + 1 + 1, 1, none⟩ = some (.int .i64 0) := hO.cell 1
    have f5 := hO.frozen 0
    have f6 := hO.frozen 1
    have z1 := hA.lt
    have z2 := hB.lt
    have z3 := hO.lt))
  all_goals (try simp only [Exit.inBlock, Exit.then])
  all_goals refine ret_of ?_ rfl
  all_goals simp [results, Tryd.results63, go_sem, c5, c6, *]
  all_goals go_light
  have hch := (((Below.refl w.heap.size w).alloc (Nat.le_refl _) (.cells #[.int .i64 a.lo, .int .i64 a.hi] 34)).alloc (by simp) (.cells #[.int .i64 b.lo, .int .i64 b.hi] 34)).alloc (by simp; omega) (.cells #[.int .i64 0, .int .i64 0] 34)
  have hch2 := hch.trans (hb1.mono (by simp; omega))
  repeat (first | exact hch2 | refine Below.setCell ?_ (by dsimp only; omega) _ | refine Below.alloc ?_ (by simp <;> omega) _)

set_option maxHeartbeats 4000000 in
theorem widenP_N2 (a b : Sp) (A : Option Addr) (c : Nat) (ts : List Int) (w : World) (h1 : a.lo ≤ a.hi) (h2 : b.hi < b.lo) (hm : ts.length ≤ 9223372036854775807) (ht : IntsAt w w.heap.size A ts) :
    Calls Tryd.prog 63 #[.agg #[.int .i64 a.lo, .int .i64 a.hi], .agg #[.int .i64 b.lo, .int .i64 b.hi], .slice A ts.length c] w fun e w' => e = .returned (.agg #[.int .i64 a.lo, .int .i64 a.hi]) ∧ Below w.heap.size w w' := by
  have hj1 : (a.join b).lo = a.lo := by simp [Sp.join, Sp.none, Int.not_lt.2 h1, h2]
  have hj2 : (a.join b).hi = a.hi := by simp [Sp.join, Sp.none, Int.not_lt.2 h1, h2]
  have HT := Lib.hid ht; clear ht
  go_enter Tryd.func63, Tryd.ntmps63
  go_wp2_with (first | go_at_call 82; go_in | (
    go_at_call 62
    refine (joinP a b _).mono ?_
    rintro e w1 ⟨rfl, hb1⟩
    have hA := (((Whl.new w 34 #[.int .i64 a.lo, .int .i64 a.hi]).alloc (.cells #[.int .i64 b.lo, .int .i64 b.hi] 34)).alloc (.cells #[.int .i64 0, .int .i64 0] 34)).below' hb1
    have hB := ((Whl.new1 w (.cells #[.int .i64 a.lo, .int .i64 a.hi] 34) 34 #[.int .i64 b.lo, .int .i64 b.hi]).alloc (.cells #[.int .i64 0, .int .i64 0] 34)).below' hb1
    have hO := (Whl.new2 w (.cells #[.int .i64 a.lo, .int .i64 a.hi] 34) (.cells #[.int .i64 b.lo, .int .i64 b.hi] 34) 34 #[.int .i64 0, .int .i64 0]).below' hb1
    have c1 : w1.cell? ⟨w.heap.size, 0, none⟩ = some (.int .i64 a.lo) := hA.cell 0
    have c2 : w1.cell? ⟨w.heap.size, 1, none⟩ = some (.int .i64 a.hi) := hA.cell 1
    have c3 : w1.cell? ⟨w.heap.size + 1, 0, none⟩ = some (.int .i64 b.lo) := hB.cell 0
    have c4 : w1.cell? ⟨w.heap.size + 1, 1, none⟩ = some (.int .i64 b.hi) := hB.cell 1
    have c5 : w1.cell? ⟨w.heap.size + 1 + 1, 0, none⟩ = some (.int .i64 0) := hO.cell 0
    have c6 : w1.cell? ⟨w.heap.size + 1 + 1, 1, none⟩ = some (.int .i64 0) := hO.cell 1
    have f5 := hO.frozen 0
    have f6 := hO.frozen 1
    have z1 := hA.lt
    have z2 := hB.lt
    have z3 := hO.lt))
  all_goals (try simp only [Exit.inBlock, Exit.then])
  all_goals refine ret_of ?_ rfl
  all_goals simp [results, Tryd.results63, go_sem, c5, c6, *]
  all_goals go_light
  have hch := (((Below.refl w.heap.size w).alloc (Nat.le_refl _) (.cells #[.int .i64 a.lo, .int .i64 a.hi] 34)).alloc (by simp) (.cells #[.int .i64 b.lo, .int .i64 b.hi] 34)).alloc (by simp; omega) (.cells #[.int .i64 0, .int .i64 0] 34)
  have hch2 := hch.trans (hb1.mono (by simp; omega))
  repeat (first | exact hch2 | refine Below.setCell ?_ (by dsimp only; omega) _ | refine Below.alloc ?_ (by simp <;> omega) _)

/-- Widen, of all spans. -/
theorem widenP (a b : Sp) (A : Option Addr) (c : Nat) (ts : List Int) (w : World) (hm : ts.length ≤ 9223372036854775807) (ht : IntsAt w w.heap.size A ts) :
    Calls Tryd.prog 63 #[.agg #[.int .i64 a.lo, .int .i64 a.hi], .agg #[.int .i64 b.lo, .int .i64 b.hi], .slice A ts.length c] w fun e w' => e = .returned (.agg #[.int .i64 (widen a b ts).lo, .int .i64 (widen a b ts).hi]) ∧ Below w.heap.size w w' := by
  by_cases h1 : a.hi < a.lo
  · have e : widen a b ts = b := by simp [widen, Sp.none, h1]
    rw [e]; exact widenP_N1 a b A c ts w h1 hm ht
  · by_cases h2 : b.hi < b.lo
    · have e : widen a b ts = a := by simp [widen, Sp.none, h1, h2]
      rw [e]; exact widenP_N2 a b A c ts w (by omega) h2 hm ht
    · have e : widen a b ts = ⟨if b.lo < a.lo then wLo ts b.lo ts.length else a.lo, if a.hi < b.hi then wHi ts b.hi ts.length else a.hi⟩ := by simp [widen, Sp.none, h1, h2]
      rw [e]
      by_cases h3 : b.lo < a.lo
      · have e1 : Sp.mn a.lo b.lo = b.lo := by unfold Sp.mn; omega
        by_cases h4 : a.hi < b.hi
        · have e2 : Sp.mx a.hi b.hi = b.hi := by unfold Sp.mx; omega
          have := widenP_TT a b A c ts w (by omega) (by omega) h3 h4 hm ht
          rw [e1, e2] at this; simpa [h3, h4] using this
        · have := widenP_TF a b A c ts w (by omega) (by omega) h3 (by omega) hm ht
          rw [e1] at this; simpa [h3, h4] using this
      · by_cases h4 : a.hi < b.hi
        · have e2 : Sp.mx a.hi b.hi = b.hi := by unfold Sp.mx; omega
          have := widenP_FT a b A c ts w (by omega) (by omega) (by omega) h4 hm ht
          rw [e2] at this; simpa [h3, h4] using this
        · have := widenP_FF a b A c ts w (by omega) (by omega) (by omega) (by omega) hm ht
          simpa [h3, h4] using this

end Go.Proofs.YtddobhneplfddaaDoor
