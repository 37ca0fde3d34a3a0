/-
  Layer 16 (bounds): Keep, Plain8.
-/
import Derived.Test.YtddobhneplfddaaDoorRows
import Derived.Carry
import Derived.Deep.DeepHandedRow
import Derived.Deep.DrawnRows
import Derived.Deep.Light
import Derived.Deep.RegionHeld3
import Derived.JoinedCond
import Derived.Lib.Hide
import Derived.OpenShut
import Derived.OpenVars
import Derived.Outline
import Derived.ProofKit
import Derived.WalkKit
import Derived.WalkLawsBesides
import Derived.WalkSpells
namespace Go.Proofs.YtddobhneplfddaaDoor
set_option maxRecDepth 100000
open Go.ChangeShapes Go.WideShapes Go.ChangeAt Go.RowKit Go.WideElems

/-- A return whose results the walk's set reckons. -/
theorem ret_of {P : Program} {fn : Func} {R : Ending → World → Prop} {a : Act} {w : World}
    (h : ∃ v, (results fn a.tmps).run P w = .ok v w ∧ R (.returned v) w) (hd : a.defers = []) : bodyPost P fn R .ret a w := by
  obtain ⟨v, h1, h2⟩ := h
  exact bodyPost_ret h1 hd h2

/-- Old cells and marks read as before. -/
theorem bcell {W w1 : World} (hb : Below W.heap.size W w1) : (∀ b o, b < W.heap.size → w1.cell? ⟨b, o, none⟩ = W.cell? ⟨b, o, none⟩) ∧ (∀ b o, b < W.heap.size → w1.frozen? ⟨b, o, none⟩ = W.frozen? ⟨b, o, none⟩) :=
  ⟨fun b o h => hb.cell (p := ⟨b, o, none⟩) h, fun b o h => hb.frozen (p := ⟨b, o, none⟩) h⟩

/-- Block g is known whole: it holds just these cells, of type t, none of them frozen. -/
def Whl (w : World) (g : Nat) (t : TypeId) (cs : Array Value) : Prop := w.heap[g]? = some (.cells cs t (0, 0))
namespace Whl
variable {w w' : World} {g : Nat} {t : TypeId} {cs : Array Value}
theorem lt (h : Whl w g t cs) : g < w.heap.size := by
  rcases Nat.lt_or_ge g w.heap.size with k | k
  · exact k
  · unfold Whl at h; rw [Array.getElem?_eq_none k] at h; cases h
theorem cell (h : Whl w g t cs) (i : Nat) : w.cell? ⟨g, i, none⟩ = cs[i]? := by
  unfold Whl at h
  simp [World.cell?, h]
theorem frozen (h : Whl w g t cs) (i : Nat) : w.frozen? ⟨g, i, none⟩ = false := by
  unfold Whl at h
  simp [World.frozen?, h]
theorem new (w : World) (t : TypeId) (cs : Array Value) : Whl (w.alloc (.cells cs t)) w.heap.size t cs := by
  show (w.heap.push _)[w.heap.size]? = _
  simp
theorem alloc (h : Whl w g t cs) (o : Obj) : Whl (w.alloc o) g t cs := (Below.heap_alloc w o g h.lt).trans h
theorem drew (h : Whl w g t cs) : Whl w.drew g t cs := h
theorem drewN (h : Whl w g t cs) (n : Nat) : Whl (w.drewN n) g t cs := h
theorem put (h : Whl w g t cs) (i : Nat) (u : Value) : Whl (w.setCell ⟨g, i, none⟩ u) g t (cs.setIfInBounds i u) := by
  unfold Whl at h ⊢
  simp [World.setCell, Array.getElem?_modify, h]
theorem far (h : Whl w g t cs) {p : Addr} (hp : g ≠ p.block) (u : Value) : Whl (w.setCell p u) g t cs := (Below.heap_setCell w p u g hp).trans h
theorem below {B : Nat} (h : Whl w g t cs) (hb : Below B w w') (hg : g < B) : Whl w' g t cs := (hb.block g hg).trans h
theorem below' (h : Whl w g t cs) (hb : Below w.heap.size w w') : Whl w' g t cs := (hb.block g h.lt).trans h
theorem grown {row : Option Nat} (h : Whl w g t cs) (hb : w.grownBy w' row) (hg : some g ≠ row) : Whl w' g t cs := (hb.block g h.lt hg).trans h
end Whl

theorem laidOut : laidOutB Tryd.prog = true := by kernel_rfl
theorem own : ownKnob Tryd.prog.godebug = none := by kernel_rfl

/-- Each type of the list can be read and is a row of the table. -/
def typesRowed (P : Program) (ts : List TypeId) : Bool := ts.all fun t => P.readableRec t && decide (t < P.types.size)

section
variable {H : Type} {enc : TypeId × Value → H} {P : Program}

/-- The arguments read behind the call as they did before, where below the heap's old size nothing has turned. -/
theorem below_trodAll (hl : laidOutB P = true) {W W' : World} (hb : Below W.heap.size W W') :
    ∀ {ts : List TypeId} {vs : List Value} {ds : List (DataW H)} {ps : List MemPlace}, typesRowed P ts = true → (∀ x ∈ ps, x.block < W.heap.size) →
      DataW.TrodAll enc P W 0 (fun _ => true) true ts vs ds ps → DataW.TrodAll enc P W' 0 (fun b => decide (b < W.heap.size)) true ts vs ds ps
  | [], _, _, _, _, _, h => by
    obtain ⟨rfl, rfl, rfl⟩ := trodAll_nil h
    exact rfl
  | t :: ts, _, _, ps, hr, hlt, h => by
    obtain ⟨v, vs, d, ds, p, q, rfl, rfl, rfl, h0, r0⟩ := trodAll_cons h
    simp only [typesRowed, List.all_cons, Bool.and_eq_true, decide_eq_true_eq] at hr
    exact ⟨p, q, Below.trod hl hr.1.1 hr.1.2 h0 hb (fun x hx => hlt x (by simp [hx])), below_trodAll hl hb (by simpa [typesRowed] using hr.2) (fun x hx => hlt x (by simp [hx])) r0, rfl⟩

/-- THE ROW's LAST STEP of a law: the call has answered true, and below the heap's old size nothing has turned. -/
theorem law_post {f : Func} {s : ChangeSpec} {W W' : World} {args : Array Value} {ds gs : List (DataW H)} {before : List MemPlace} {tb : TypeId}
    (hl : laidOutB P = true) (ht : typesRowed P f.params.toList = true) (hv : varsRowed P s.vars = true) (hrt : f.resultTypes = #[tb]) (hbool : P.underlying tb = some .bool)
    (hW : DataW.Whole enc P f.params.toList s.vars false W args.toList ds gs before)
    (hr : (s.fn H (ds ++ gs)).results = [.lit (.bool true)]) (ha : (s.fn H (ds ++ gs)).args = ds) (hva : (s.fn H (ds ++ gs)).vars = gs)
    (hb : Below W.heap.size W W') : s.post enc P f false true false false W args (.bool true) W' := by
  have hW' := hW
  obtain ⟨p, q, hA, hV, rfl, hz, hn⟩ := hW
  have hlt : ∀ x ∈ p ++ q, x.block < W.heap.size := fun x hx => hW'.lt x hx
  refine ⟨ds, gs, p ++ q, [], p, q, hW', ?_, ?_, ?_, World.keptBut_mono (fun x hx => ⟨hx, by simpa using hx⟩) (hb.frame (· ∈ p ++ q)), fun h => by cases h⟩
  · rw [hr, hrt]
    exact trodAll_mk1 (shut_bool hbool true)
  · rw [ha]
    exact below_trodAll hl hb ht (fun x hx => hlt x (by simp [hx])) hA
  · rw [hva]
    exact Below.trodVars hl hb hv hV
end
end Go.Proofs.YtddobhneplfddaaDoor

/-
  Small facts on new blocks, and on slices of integers that are read.
-/
namespace Go.Proofs.YtddobhneplfddaaDoor
open Go.RowKit
theorem Whl.new1 (w : World) (o : Obj) (t : TypeId) (cs : Array Value) : Whl ((w.alloc o).alloc (.cells cs t)) (w.heap.size + 1) t cs := by
  have := Whl.new (w.alloc o) t cs
  rwa [World.size_alloc] at this
theorem Whl.new2 (w : World) (o p : Obj) (t : TypeId) (cs : Array Value) : Whl (((w.alloc o).alloc p).alloc (.cells cs t)) (w.heap.size + 1 + 1) t cs := by
  have := Whl.new1 (w.alloc o) p t cs
  rwa [World.size_alloc] at this
theorem Whl.new3 (w : World) (o p q : Obj) (t : TypeId) (cs : Array Value) : Whl ((((w.alloc o).alloc p).alloc q).alloc (.cells cs t)) (w.heap.size + 1 + 1 + 1) t cs := by
  have := Whl.new2 (w.alloc o) p q t cs
  rwa [World.size_alloc] at this
/-- A rule for the walk ('attribute [local go_sem] lt_add_of'): what lies below a size lies below every greater one. -/
theorem lt_add_of {a b k : Nat} (h : a < b) : (a < b + k) = True := by simp; omega
theorem le_add_of {a b k : Nat} (h : a < b) : (a ≤ b + k) = True := by simp; omega
theorem lt_add2 {a b : Nat} (h : a < b) : (a < b + 1 + 1) = True := by simp; omega
theorem le_add2 {a b : Nat} (h : a < b) : (a ≤ b + 1 + 1) = True := by simp; omega
theorem lt_add3 {a b : Nat} (h : a < b) : (a < b + 1 + 1 + 1) = True := by simp; omega
theorem le_add3 {a b : Nat} (h : a < b) : (a ≤ b + 1 + 1 + 1) = True := by simp; omega
theorem lt_add4 {a b : Nat} (h : a < b) : (a < b + 1 + 1 + 1 + 1) = True := by simp; omega
theorem le_add4 {a b : Nat} (h : a < b) : (a ≤ b + 1 + 1 + 1 + 1) = True := by simp; omega
theorem lt_add5 {a b : Nat} (h : a < b) : (a < b + 1 + 1 + 1 + 1 + 1) = True := by simp; omega
theorem le_add5 {a b : Nat} (h : a < b) : (a ≤ b + 1 + 1 + 1 + 1 + 1) = True := by simp; omega
theorem lt_add6 {a b : Nat} (h : a < b) : (a < b + 1 + 1 + 1 + 1 + 1 + 1) = True := by simp; omega
theorem le_add6 {a b : Nat} (h : a < b) : (a ≤ b + 1 + 1 + 1 + 1 + 1 + 1) = True := by simp; omega
theorem lt_add7 {a b : Nat} (h : a < b) : (a < b + 1 + 1 + 1 + 1 + 1 + 1 + 1) = True := by simp; omega
theorem le_add7 {a b : Nat} (h : a < b) : (a ≤ b + 1 + 1 + 1 + 1 + 1 + 1 + 1) = True := by simp; omega
theorem lt_add8 {a b : Nat} (h : a < b) : (a < b + 1 + 1 + 1 + 1 + 1 + 1 + 1 + 1) = True := by simp; omega
theorem le_add8 {a b : Nat} (h : a < b) : (a ≤ b + 1 + 1 + 1 + 1 + 1 + 1 + 1 + 1) = True := by simp; omega
theorem le_of_lt_ {a b : Nat} (h : a < b) : (a ≤ b) = True := by simp; omega

attribute [go_sem] lt_add_of le_add_of le_of_lt_ lt_add2 le_add2 lt_add3 le_add3 lt_add4 le_add4 lt_add5 le_add5 lt_add6 le_add6 lt_add7 le_add7 lt_add8 le_add8

def nthI (zs : List Int) (k : Nat) : Int := zs.getD k 0
/-- A slice of integers that is read: where it has elements, its cells lie below block B. -/
def IntsAt (w : World) (B : Nat) (A : Option Addr) (zs : List Int) : Prop :=
  0 < zs.length → ∃ b off, A = some ⟨b, off, none⟩ ∧ b < B ∧ ∀ k, k < zs.length → w.cell? ⟨b, off + k, none⟩ = some (.int .i64 (nthI zs k))
theorem IntsAt.below {w w' : World} {B B' : Nat} {A : Option Addr} {zs : List Int} (h : IntsAt w B A zs) (hb : Below B' w w') (hB : B ≤ B') : IntsAt w' B A zs := fun h0 => by
  obtain ⟨b, off, e, hlt, hc⟩ := h h0
  exact ⟨b, off, e, hlt, fun k hk => (hb.cell (p := ⟨b, off + k, none⟩) (Nat.lt_of_lt_of_le hlt hB)).trans (hc k hk)⟩
theorem IntsAt.more {w : World} {B B' : Nat} {A : Option Addr} {zs : List Int} (h : IntsAt w B A zs) (hB : B ≤ B') : IntsAt w B' A zs := fun h0 => by
  obtain ⟨b, off, e, hlt, hc⟩ := h h0
  exact ⟨b, off, e, Nat.lt_of_lt_of_le hlt hB, hc⟩
theorem IntsAt.lit (w : World) (t : TypeId) (zs : List Int) : IntsAt (w.alloc (.cells (zs.map (Value.int .i64)).toArray t)) (w.heap.size + 1) (some ⟨w.heap.size, 0, none⟩) zs := fun h0 =>
  ⟨w.heap.size, 0, rfl, Nat.lt_succ_self _, fun k hk => by
    rw [(Whl.new w t _).cell]
    simp [nthI, hk]⟩
end Go.Proofs.YtddobhneplfddaaDoor

/-
  Cells that are known stay known behind a call that turns nothing below the heap's size: for the regions that draw their order.
-/
namespace Go.Proofs.YtddobhneplfddaaDoor
open Go.RowKit
theorem cellK {w1 w2 : World} (hb : Below w1.heap.size w1 w2) {p : Addr} {v : Value} (c : w1.cell? p = some v) : w2.cell? p = some v :=
  (hb.cell (World.block_lt_of_cell? w1 _ c)).trans c
theorem below_step {w a b : World} (h : Below w.heap.size w a) (k : Below a.heap.size a b) : Below w.heap.size w b := h.trans (k.mono h.size)
theorem below_alloc {w a : World} (h : Below w.heap.size w a) (o : Obj) : Below w.heap.size w (a.alloc o) := h.alloc h.size o
theorem keep2 {w1 w2 : World} (hb : Below w1.heap.size w1 w2) {p0 p1 : Addr} {v0 v1 : Value} : (w1.cell? p0 = some v0 ∧ w1.cell? p1 = some v1) → (w2.cell? p0 = some v0 ∧ w2.cell? p1 = some v1) := fun ⟨c0, c1⟩ => ⟨cellK hb c0, cellK hb c1⟩
theorem keep7 {w1 w2 : World} (hb : Below w1.heap.size w1 w2) {p0 p1 p2 p3 p4 p5 p6 : Addr} {v0 v1 v2 v3 v4 v5 v6 : Value} : (w1.cell? p0 = some v0 ∧ w1.cell? p1 = some v1 ∧ w1.cell? p2 = some v2 ∧ w1.cell? p3 = some v3 ∧ w1.cell? p4 = some v4 ∧ w1.cell? p5 = some v5 ∧ w1.cell? p6 = some v6) → (w2.cell? p0 = some v0 ∧ w2.cell? p1 = some v1 ∧ w2.cell? p2 = some v2 ∧ w2.cell? p3 = some v3 ∧ w2.cell? p4 = some v4 ∧ w2.cell? p5 = some v5 ∧ w2.cell? p6 = some v6) := fun ⟨c0, c1, c2, c3, c4, c5, c6⟩ => ⟨cellK hb c0, cellK hb c1, cellK hb c2, cellK hb c3, cellK hb c4, cellK hb c5, cellK hb c6⟩
theorem keep12 {w1 w2 : World} (hb : Below w1.heap.size w1 w2) {p0 p1 p2 p3 p4 p5 p6 p7 p8 p9 p10 p11 : Addr} {v0 v1 v2 v3 v4 v5 v6 v7 v8 v9 v10 v11 : Value} : (w1.cell? p0 = some v0 ∧ w1.cell? p1 = some v1 ∧ w1.cell? p2 = some v2 ∧ w1.cell? p3 = some v3 ∧ w1.cell? p4 = some v4 ∧ w1.cell? p5 = some v5 ∧ w1.cell? p6 = some v6 ∧ w1.cell? p7 = some v7 ∧ w1.cell? p8 = some v8 ∧ w1.cell? p9 = some v9 ∧ w1.cell? p10 = some v10 ∧ w1.cell? p11 = some v11) → (w2.cell? p0 = some v0 ∧ w2.cell? p1 = some v1 ∧ w2.cell? p2 = some v2 ∧ w2.cell? p3 = some v3 ∧ w2.cell? p4 = some v4 ∧ w2.cell? p5 = some v5 ∧ w2.cell? p6 = some v6 ∧ w2.cell? p7 = some v7 ∧ w2.cell? p8 = some v8 ∧ w2.cell? p9 = some v9 ∧ w2.cell? p10 = some v10 ∧ w2.cell? p11 = some v11) := fun ⟨c0, c1, c2, c3, c4, c5, c6, c7, c8, c9, c10, c11⟩ => ⟨cellK hb c0, cellK hb c1, cellK hb c2, cellK hb c3, cellK hb c4, cellK hb c5, cellK hb c6, cellK hb c7, cellK hb c8, cellK hb c9, cellK hb c10, cellK hb c11⟩
theorem below_drewN {B : Nat} {w w' : World} (h : Below B w w') (n : Nat) : Below B w (w'.drewN n) := ⟨h.os, h.tape, h.output, h.size, h.block⟩
def nx : List Bool → List Nat → Option Nat
  | true :: ds, _ :: ns => nx ds ns
  | false :: _, n :: _ => some n
  | _, _ => none
def nats : List Nat := [0, 1, 2, 3, 4, 5, 6, 7, 8, 9, 10, 11, 12, 13, 14, 15, 16, 17, 18, 19, 20, 21, 22, 23, 24, 25, 26, 27, 28, 29, 30, 31, 32, 33, 34, 35, 36, 37, 38, 39, 40, 41, 42, 43, 44, 45, 46, 47, 48, 49, 50, 51, 52, 53, 54, 55, 56, 57, 58, 59, 60, 61, 62, 63]
/-- The first of a region's operations that has not been yet. -/
theorem wpAnyH_nx {P : Program} {md : Region.Mode} {ops : Array Oper} {Q : Exit → Act → World → Prop} {S : World → Prop} {i : Nat} {oi : Oper} {v : Value} {fuel : Nat} {listed : Array Bool} {a : Act} {w : World} (_hn : nx listed.toList nats = some i) (hi : ops[i]? = some oi)
    (hs : Region.noSelect ops = true) (hf : Region.free md ops listed i = true) (hr : (Region.ready md ops listed).contains i = true)
    (hQ : ∀ c a w, Q (.panic c) (a.put oi.dst v) w → Q (.panic c) a w) (hy : YieldsIf P ops S oi v a) (hS : S w)
    (h : wpAnyH P md ops Q S fuel (listed.setIfInBounds i true) (a.put oi.dst v) w) : wpAnyH P md ops Q S (fuel + 1) listed a w := wpAnyH_take hi hs hf hr hQ hy hS h
end Go.Proofs.YtddobhneplfddaaDoor

namespace Go.Proofs.YtddobhneplfddaaDoor
set_option maxRecDepth 100000
open Go.RowKit

/-- A span: its two ends. -/
structure Sp where
  lo : Int
  hi : Int

namespace Sp
theorem ext' {a b : Sp} (h : a.lo = b.lo) (k : a.hi = b.hi) : a = b := by cases a; cases b; simp at h k; simp [h, k]
def none (a : Sp) : Bool := decide (a.hi < a.lo)
def has (a : Sp) (n : Int) : Bool := decide (a.lo ≤ n) && decide (n ≤ a.hi)
def mn (a b : Int) : Int := if a < b then a else b
def mx (a b : Int) : Int := if b < a then a else b
def join (a b : Sp) : Sp := if a.none = true then b else if b.none = true then a else ⟨mn a.lo b.lo, mx a.hi b.hi⟩
def meetS (a b : Sp) : Sp := ⟨mx a.lo b.lo, mn a.hi b.hi⟩
def meet (a b : Sp) : Sp := if (meetS a b).none = true then ⟨0, 0⟩ else meetS a b
def meetOk (a b : Sp) : Bool := !(meetS a b).none
def least : Int := -9223372036854775808
def greatest : Int := 9223372036854775807
def all : Sp := ⟨least, greatest⟩
def inR (n : Int) : Bool := decide (least ≤ n) && decide (n ≤ greatest)
def len (a b : Sp) : Int := if b.hi ≤ a.lo then 0 else b.hi - a.lo
def sumOk (a b : Int) : Bool := inR (a + b)
def lessOk (a b : Int) : Bool := inR (a - b)
def truth (yes no : Bool) : Sp := if yes = true then ⟨1, 1⟩ else if no = true then ⟨0, 0⟩ else ⟨0, 1⟩
def belowA (a b : Sp) : Sp := if (a.none || b.none || decide (b.hi ≤ a.lo)) = true then ⟨0, 0⟩ else ⟨a.lo, mn a.hi (b.hi - 1)⟩
def belowB (a b : Sp) : Sp := if (a.none || b.none || decide (b.hi ≤ a.lo)) = true then ⟨0, 0⟩ else ⟨mx b.lo (a.lo + 1), b.hi⟩
def belowOk (a b : Sp) : Bool := !(a.none || b.none || decide (b.hi ≤ a.lo))
def within (a b : Sp) : Bool := a.none || decide (b.lo ≤ a.lo) && decide (a.hi ≤ b.hi)
def Wf (a : Sp) : Prop := (-9223372036854775808 ≤ a.lo ∧ a.lo ≤ 9223372036854775807) ∧ (-9223372036854775808 ≤ a.hi ∧ a.hi ≤ 9223372036854775807)
end Sp
def In64 (n : Int) : Prop := -9223372036854775808 ≤ n ∧ n ≤ 9223372036854775807
theorem join_lo {a b : Sp} (h1 : a.lo ≤ a.hi) (h2 : b.lo ≤ b.hi) : (a.join b).lo = Sp.mn a.lo b.lo := by simp [Sp.join, Sp.none, Int.not_lt.2 h1, Int.not_lt.2 h2]
theorem join_hi {a b : Sp} (h1 : a.lo ≤ a.hi) (h2 : b.lo ≤ b.hi) : (a.join b).hi = Sp.mx a.hi b.hi := by simp [Sp.join, Sp.none, Int.not_lt.2 h1, Int.not_lt.2 h2]
end Go.Proofs.YtddobhneplfddaaDoor

/-
  Layer 8 (span): Widen as plain functions.
-/
namespace Go.Proofs.YtddobhneplfddaaDoor
open Go.RowKit

/-- The greatest of the first k thresholds that are at most j; least, if there is none. -/
def wLo (ts : List Int) (j : Int) : Nat → Int
  | 0 => Sp.least
  | k + 1 => if nthI ts k ≤ j then Sp.mx (wLo ts j k) (nthI ts k) else wLo ts j k
/-- The least of the first k thresholds that are at least j; greatest, if there is none. -/
def wHi (ts : List Int) (j : Int) : Nat → Int
  | 0 => Sp.greatest
  | k + 1 => if j ≤ nthI ts k then Sp.mn (wHi ts j k) (nthI ts k) else wHi ts j k
def widen (a b : Sp) (ts : List Int) : Sp :=
  if a.none = true then b else if b.none = true then a else
    ⟨if b.lo < a.lo then wLo ts b.lo ts.length else a.lo, if a.hi < b.hi then wHi ts b.hi ts.length else a.hi⟩
theorem wLo_yes {ts : List Int} {j : Int} {k : Nat} (h : nthI ts k ≤ j) : wLo ts j (k + 1) = Sp.mx (wLo ts j k) (nthI ts k) := by simp [wLo, h]
theorem wLo_no {ts : List Int} {j : Int} {k : Nat} (h : j < nthI ts k) : wLo ts j (k + 1) = wLo ts j k := by simp [wLo]; omega
theorem wHi_yes {ts : List Int} {j : Int} {k : Nat} (h : j ≤ nthI ts k) : wHi ts j (k + 1) = Sp.mn (wHi ts j k) (nthI ts k) := by simp [wHi, h]
theorem wHi_no {ts : List Int} {j : Int} {k : Nat} (h : nthI ts k < j) : wHi ts j (k + 1) = wHi ts j k := by simp [wHi]; omega
/-- The hull of what has come so far: k numbers. -/
def hullTo (zs : List Int) : Nat → Sp
  | 0 => ⟨nthI zs 0, nthI zs 0⟩
  | k + 1 => (hullTo zs k).join ⟨nthI zs k, nthI zs k⟩

end Go.Proofs.YtddobhneplfddaaDoor

/-
  Layer 8 (span): Do as plain functions; the arithmetic of 64 bits that its walks end in.
-/
namespace Go.Proofs.YtddobhneplfddaaDoor
open Go.RowKit
set_option linter.unusedVariables false

theorem exact_ok {a b : Int} (ha : In64 a) (hb : In64 b) : (decide (a < wrap64 (a + b)) == decide (0 < b)) = Sp.sumOk a b := by
  obtain ⟨_, _⟩ := ha
  obtain ⟨_, _⟩ := hb
  unfold wrap64 Sp.sumOk Sp.inR Sp.least Sp.greatest
  rw [Bool.eq_iff_iff]
  simp
  omega
theorem less_ok {a b : Int} (ha : In64 a) (hb : In64 b) : (decide (wrap64 (a - b) < a) == decide (0 < b)) = Sp.lessOk a b := by
  obtain ⟨_, _⟩ := ha
  obtain ⟨_, _⟩ := hb
  unfold wrap64 Sp.lessOk Sp.inR Sp.least Sp.greatest
  rw [Bool.eq_iff_iff]
  simp
  omega
theorem dist_neg {a : Int} (ha : In64 a) (h : a < 0) : IntKind.u64.wrap (-(IntKind.u64.wrap a)) = (a.natAbs : Int) := by
  obtain ⟨_, _⟩ := ha
  simp [IntKind.wrap, IntKind.bits, IntKind.signed]; omega
theorem dist_pos {a : Int} (ha : In64 a) (h : 0 ≤ a) : IntKind.u64.wrap a = (a.natAbs : Int) := by
  obtain ⟨_, _⟩ := ha
  simp [IntKind.wrap, IntKind.bits, IntKind.signed]; omega
/-- Is a product a number of 64 bits? -/
def mulOk (a b : Int) : Bool := Sp.inR (a * b)
theorem mul_neg_eq {a b : Int} (h : (a < 0 ∧ 0 ≤ b) ∨ (0 ≤ a ∧ b < 0)) : a * b = -((a.natAbs * b.natAbs : Nat) : Int) := by
  rw [Int.natCast_mul]
  rcases h with ⟨h1, h2⟩ | ⟨h1, h2⟩
  · rw [Int.ofNat_natAbs_of_nonpos (by omega), Int.natAbs_of_nonneg h2, Int.neg_mul, Int.neg_neg]
  · rw [Int.natAbs_of_nonneg h1, Int.ofNat_natAbs_of_nonpos (by omega), Int.mul_neg, Int.neg_neg]
theorem mul_pos_eq {a b : Int} (h : (a < 0 ∧ b < 0) ∨ (0 ≤ a ∧ 0 ≤ b)) : a * b = ((a.natAbs * b.natAbs : Nat) : Int) := by
  rw [Int.natCast_mul]
  rcases h with ⟨h1, h2⟩ | ⟨h1, h2⟩
  · rw [Int.ofNat_natAbs_of_nonpos (by omega), Int.ofNat_natAbs_of_nonpos (by omega), Int.neg_mul_neg]
  · rw [Int.natAbs_of_nonneg h1, Int.natAbs_of_nonneg h2]
def mulHi (a b : Int) : Int := ((a.natAbs * b.natAbs / 18446744073709551616 : Nat) : Int)
def mulLo (a b : Int) : Int := ((a.natAbs * b.natAbs % 18446744073709551616 : Nat) : Int)
theorem times_neg {a b : Int} (h : (a < 0 ∧ 0 ≤ b) ∨ (0 ≤ a ∧ b < 0)) :
    wrap64 (-(wrap64 (mulLo a b))) = wrap64 (a * b) ∧ (decide (mulHi a b = 0) && decide (mulLo a b ≤ 9223372036854775808)) = mulOk a b := by
  rw [mulOk, mul_neg_eq h]
  unfold mulLo mulHi
  generalize a.natAbs * b.natAbs = n
  constructor
  · unfold wrap64; omega
  · unfold Sp.inR Sp.least Sp.greatest
    rw [Bool.eq_iff_iff]
    simp only [Bool.and_eq_true, decide_eq_true_eq]
    omega
theorem times_pos {a b : Int} (h : (a < 0 ∧ b < 0) ∨ (0 ≤ a ∧ 0 ≤ b)) :
    wrap64 (mulLo a b) = wrap64 (a * b) ∧ (decide (mulHi a b = 0) && decide (mulLo a b ≤ 9223372036854775807)) = mulOk a b := by
  rw [mulOk, mul_pos_eq h]
  unfold mulLo mulHi
  generalize a.natAbs * b.natAbs = n
  constructor
  · unfold wrap64; omega
  · unfold Sp.inR Sp.least Sp.greatest
    rw [Bool.eq_iff_iff]
    simp only [Bool.and_eq_true, decide_eq_true_eq]
    omega
/-- The greatest rest: one less than the greater distance of the divisor's ends. -/
def leftM (b : Sp) : Int := if b.lo.natAbs < b.hi.natAbs then (b.hi.natAbs : Int) - 1 else (b.lo.natAbs : Int) - 1
def leftS (a b : Sp) : Sp := ⟨if a.lo < 0 then Sp.mx a.lo (-(leftM b)) else 0, if 0 < a.hi then Sp.mn a.hi (leftM b) else 0⟩
theorem leftM_in {b : Sp} (hb : b.Wf) (h : b.lo ≠ 0 ∨ b.hi ≠ 0) : 0 ≤ leftM b ∧ leftM b ≤ 9223372036854775807 := by
  obtain ⟨⟨_, _⟩, _, _⟩ := hb
  unfold leftM; split <;> omega
/-- The divisors that are tried. -/
def cand (b : Sp) : Nat → Int
  | 0 => b.lo
  | 1 => b.hi
  | 2 => -1
  | _ => 1
def candOk (b : Sp) (k : Nat) : Bool := !decide (cand b k = 0) && b.has (cand b k)
/-- The quotients of the first k divisors. -/
def quots (a b : Sp) : Nat → List Int
  | 0 => []
  | k + 1 => if candOk b k = true then quots a b k ++ [wrap64 (a.lo.tdiv (cand b k)), wrap64 (a.hi.tdiv (cand b k))] else quots a b k
theorem candOk_zero {b : Sp} {k : Nat} (h : (cand b k == 0) = true) : candOk b k = false := by
  have : cand b k = 0 := by simpa using h
  simp [candOk, this]
theorem candOk_out {b : Sp} {k : Nat} (h : b.has (cand b k) = false) : candOk b k = false := by simp [candOk, h]
theorem candOk_in {b : Sp} {k : Nat} (h0 : (cand b k == 0) = false) (h : b.has (cand b k) = true) : candOk b k = true := by
  have : ¬ cand b k = 0 := by simpa using h0
  simp [candOk, h, this]
theorem quots_yes {a b : Sp} {k : Nat} (h : candOk b k = true) : quots a b (k + 1) = quots a b k ++ [wrap64 (a.lo.tdiv (cand b k)), wrap64 (a.hi.tdiv (cand b k))] := by simp [quots, h]
theorem quots_no {a b : Sp} {k : Nat} (h : candOk b k = false) : quots a b (k + 1) = quots a b k := by simp [quots, h]
theorem quots_len (a b : Sp) (k : Nat) : (quots a b k).length ≤ 2 * k := by
  induction k with
  | zero => simp [quots]
  | succ k ih => simp only [quots]; split <;> (try simp) <;> omega
theorem quots_grow {a b : Sp} {k : Nat} (h : candOk b k = true) : ∀ n, k < n → 0 < (quots a b n).length
  | 0, hn => absurd hn (by omega)
  | n + 1, hn => by
    rcases Nat.lt_or_ge k n with h1 | h1
    · have := quots_grow (a := a) h n h1
      simp only [quots]; split <;> (try simp) <;> omega
    · obtain rfl : k = n := by omega
      rw [quots_yes h]; simp
theorem quots_some {a b : Sp} (h : b.lo ≤ b.hi) (h0 : b.lo ≠ 0 ∨ b.hi ≠ 0) : 0 < (quots a b 4).length := by
  rcases h0 with h0 | h0
  · exact quots_grow (k := 0) (by simp [candOk, cand, Sp.has, h0, h]) 4 (by omega)
  · exact quots_grow (k := 1) (by simp [candOk, cand, Sp.has, h0, h]) 4 (by omega)
def divS (a b : Sp) : Sp := if a.lo = Sp.least ∧ b.has (-1) = true then Sp.all else hullTo (quots a b 4) (quots a b 4).length
theorem mulOk_iff (a b : Int) : mulOk a b = true ↔ (-9223372036854775808 ≤ a * b ∧ a * b ≤ 9223372036854775807) := by
  unfold mulOk Sp.inR Sp.least Sp.greatest
  rw [Bool.and_eq_true, decide_eq_true_eq, decide_eq_true_eq]
theorem sumOk_iff (a b : Int) : Sp.sumOk a b = true ↔ (-9223372036854775808 ≤ a + b ∧ a + b ≤ 9223372036854775807) := by
  unfold Sp.sumOk Sp.inR Sp.least Sp.greatest
  rw [Bool.and_eq_true, decide_eq_true_eq, decide_eq_true_eq]
theorem lessOk_iff (a b : Int) : Sp.lessOk a b = true ↔ (-9223372036854775808 ≤ a - b ∧ a - b ≤ 9223372036854775807) := by
  unfold Sp.lessOk Sp.inR Sp.least Sp.greatest
  rw [Bool.and_eq_true, decide_eq_true_eq, decide_eq_true_eq]
theorem tdiv_in {p b : Int} (hp : In64 p) (b0 : b ≠ 0) (b1 : b ≠ -1) : In64 (p.tdiv b) := by
  obtain ⟨h1, h2⟩ := hp
  by_cases hb : b = 1
  · subst hb; rw [Int.tdiv_one]; exact ⟨h1, h2⟩
  · have e : (p.tdiv b).natAbs = p.natAbs / b.natAbs := Int.natAbs_tdiv p b
    have h3 : p.natAbs / b.natAbs ≤ p.natAbs / 2 := Nat.div_le_div_left (by omega) (by omega)
    unfold In64
    omega
theorem wrap64_In (n : Int) : In64 (wrap64 n) := by unfold wrap64 In64; omega
end Go.Proofs.YtddobhneplfddaaDoor

/-
  Layer 8 (span): what Do tells, as plain functions.
-/
namespace Go.Proofs.YtddobhneplfddaaDoor
open Go.RowKit
set_option linter.unusedVariables false

def Sp.point (a : Sp) : Bool := decide (a.lo = a.hi)
def bothPoint (a b : Sp) : Bool := a.point && b.point
def addS (a b : Sp) : Sp := if bothPoint a b = true then ⟨wrap64 (a.lo + b.lo), wrap64 (a.lo + b.lo)⟩ else
  if (Sp.sumOk a.lo b.lo && Sp.sumOk a.hi b.hi) = true then hullTo [a.lo + b.lo, a.hi + b.hi] 2 else Sp.all
def subS (a b : Sp) : Sp := if bothPoint a b = true then ⟨wrap64 (a.lo - b.lo), wrap64 (a.lo - b.lo)⟩ else
  if (Sp.lessOk a.lo b.hi && Sp.lessOk a.hi b.lo) = true then hullTo [a.lo - b.hi, a.hi - b.lo] 2 else Sp.all
def mulS (a b : Sp) : Sp := if bothPoint a b = true then ⟨wrap64 (a.lo * b.lo), wrap64 (a.lo * b.lo)⟩ else
  if (mulOk a.lo b.lo && mulOk a.lo b.hi && mulOk a.hi b.lo && mulOk a.hi b.hi) = true then hullTo [a.lo * b.lo, a.lo * b.hi, a.hi * b.lo, a.hi * b.hi] 4 else Sp.all
def Sp.zero (a : Sp) : Bool := decide (a.lo = 0) && decide (a.hi = 0)
def eqS (a b : Sp) : Sp := Sp.truth (bothPoint a b && decide (a.lo = b.lo)) (!a.meetOk b)
def ltS (a b : Sp) : Sp := Sp.truth (decide (a.hi < b.lo)) (decide (b.hi ≤ a.lo))
def notS (a : Sp) : Sp := Sp.truth a.zero (!a.has 0)
/-- Is something told? -/
def doOk (op : Int) (a b : Sp) : Bool :=
  !a.none && (decide (op = 10) || (!b.none && (decide (op = 3) || decide (op = 4) || decide (op = 5) || decide (op = 8) || decide (op = 9) || ((decide (op = 6) || decide (op = 7)) && !b.zero))))
def doSp (op : Int) (a b : Sp) : Sp :=
  if doOk op a b = false then ⟨0, 0⟩ else if op = 10 then notS a else if op = 3 then addS a b else if op = 4 then subS a b else if op = 5 then mulS a b else
  if op = 6 then divS a b else if op = 7 then leftS a b else if op = 8 then ltS a b else eqS a b
end Go.Proofs.YtddobhneplfddaaDoor

/-
  Layer 8 (span): plain facts by which the walks of span.Do and of its reference are joined.
-/
namespace Go.Proofs.YtddobhneplfddaaDoor
open Go.RowKit
set_option linter.unusedSimpArgs false
set_option linter.unusedVariables false

theorem point_eq (a : Sp) : a.point = (a.lo == a.hi) := rfl
theorem decide_eq' (x y : Int) : decide (x = y) = (x == y) := rfl
theorem zero_eq (a : Sp) : a.zero = ((a.lo == 0) && (a.hi == 0)) := rfl
theorem sumOk_wrap {x y : Int} (h : Sp.sumOk x y = true) : wrap64 (x + y) = x + y := IntWalk.wrap64_in _ ((sumOk_iff x y).1 h)
theorem lessOk_wrap {x y : Int} (h : Sp.lessOk x y = true) : wrap64 (x - y) = x - y := IntWalk.wrap64_in _ ((lessOk_iff x y).1 h)
theorem mulOk_wrap {x y : Int} (h : mulOk x y = true) : wrap64 (x * y) = x * y := IntWalk.wrap64_in _ ((mulOk_iff x y).1 h)
end Go.Proofs.YtddobhneplfddaaDoor
