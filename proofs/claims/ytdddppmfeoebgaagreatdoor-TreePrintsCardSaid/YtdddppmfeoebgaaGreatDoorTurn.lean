/-
  Layer 2 (tree): one block turns, and rows of bytes; all else stays. No idea of the program stands in it.
-/
import Derived.Test.YtdddppmfeoebgaaGreatDoorCntA
import Derived.OwnWalk
namespace Go.Proofs.YtdddppmfeoebgaaGreatDoor
open Go.RowKit
set_option linter.unusedSimpArgs false
set_option linter.unusedVariables false
/-- A function that comes to its end without a return. -/
theorem end_of {P : Program} {fn : Func} {R : Ending → World → Prop} {a : Act} {w : World}
    (h : ∃ v, (results fn a.tmps).run P w = .ok v w ∧ R (.returned v) w) (hd : a.defers = []) : bodyPost P fn R .normal a w := by
  obtain ⟨v, h1, h2⟩ := h
  exact bodyPost_end h1 hd h2
/-- Nothing below B has turned, and of the blocks that are known whole only g and rows of bytes may have. -/
structure Turn (B g : Nat) (w W : World) : Prop where
  below : Below B w W
  keep : ∀ b t cs, b ≠ g → t ≠ 5 → Whl w b t cs → Whl W b t cs
namespace Turn
variable {B g : Nat} {w W W2 : World}
theorem refl (B g : Nat) (w : World) : Turn B g w w := ⟨Below.refl _ _, fun _ _ _ _ _ h => h⟩
theorem trans (h : Turn B g w W) (k : Turn B g W W2) : Turn B g w W2 := ⟨h.below.trans k.below, fun b t cs hb ht hw => k.keep b t cs hb ht (h.keep b t cs hb ht hw)⟩
theorem size (h : Turn B g w W) : w.heap.size ≤ W.heap.size := h.below.size
theorem alloc (h : Turn B g w W) (hB : B ≤ w.heap.size) (o : Obj) : Turn B g w (W.alloc o) := ⟨h.below.alloc (Nat.le_trans hB h.size) o, fun b t cs hb ht hw => (h.keep b t cs hb ht hw).alloc o⟩
theorem drew (h : Turn B g w W) : Turn B g w W.drew := ⟨h.below.drew, fun b t cs hb ht hw => (h.keep b t cs hb ht hw).drew⟩
theorem drewN (h : Turn B g w W) (n : Nat) : Turn B g w (W.drewN n) := ⟨⟨h.below.os, h.below.tape, h.below.output, h.below.size, h.below.block⟩, fun b t cs hb ht hw => (h.keep b t cs hb ht hw).drewN n⟩
theorem put (h : Turn B g w W) (hB : B ≤ g) (i : Nat) (u : Value) : Turn B g w (W.setCell ⟨g, i, none⟩ u) := ⟨h.below.setCell hB u, fun b t cs hb ht hw => (h.keep b t cs hb ht hw).far hb u⟩
/-- A store into a block that the call has made itself. -/
theorem own (h : Turn B g w W) (hB : B ≤ w.heap.size) {p : Addr} (hp : w.heap.size ≤ p.block) (u : Value) : Turn B g w (W.setCell p u) :=
  ⟨h.below.setCell (Nat.le_trans hB hp) u, fun b t cs hb ht hw => (h.keep b t cs hb ht hw).far (fun e => by have := hw.lt; omega) u⟩
theorem go (h : Turn B g w W) (hB : B ≤ w.heap.size) (k : Below W.heap.size W W2) : Turn B g w W2 := ⟨h.below.trans (k.mono (Nat.le_trans hB h.size)), fun b t cs hb ht hw => (h.keep b t cs hb ht hw).below' k⟩
/-- What a call has turned that was handed another block, one that the caller has made itself. -/
theorem other {B' g' : Nat} (h : Turn B g w W) (k : Turn B' g' W W2) (hB : B ≤ B') (hg : w.heap.size ≤ g') : Turn B g w W2 :=
  ⟨h.below.trans (k.below.mono hB), fun b t cs hb ht hw => k.keep b t cs (fun e => by have := hw.lt; omega) ht (h.keep b t cs hb ht hw)⟩
/-- Blocks of the call's own alone. -/
theorem toBelow (h : Turn w.heap.size g w W) : Below w.heap.size w W := h.below
end Turn
theorem RowsAt.turn {w w' : World} {B g : Nat} {A : Option Addr} {n sz : Nat} {val : Nat → Nat → Value} (h : RowsAt w B A n sz val) (hg : Turn B g w w') : RowsAt w' B A n sz val := h.below hg.below (Nat.le_refl _)
theorem ExsAt.turn {w w' : World} {B g : Nat} {A : Option Addr} {l : List ExD} (h : ExsAt w B A l) (hg : Turn B g w w') : ExsAt w' B A l := h.keep hg.below (Nat.le_refl _)
theorem StsAt.turn {w w' : World} {B g : Nat} {A : Option Addr} {l : List StD} (h : StsAt w B A l) (hg : Turn B g w w') : StsAt w' B A l := h.keep hg.below (Nat.le_refl _)
/-- The cells of an expression in a row. -/
def RowE (w : World) (A : Option Addr) (l : List ExD) (hd : Nat → Hd) (k : Nat) : Prop :=
  ∃ b off, A = some ⟨b, off, none⟩ ∧ w.cell? ⟨b, off + k * 4, none⟩ = some (.int .i64 (nthE l k).kind) ∧ w.cell? ⟨b, off + k * 4 + 1, none⟩ = some (.int .i64 (nthE l k).n) ∧
      w.cell? ⟨b, off + k * 4 + 2, none⟩ = some (.string (nthE l k).name) ∧ w.cell? ⟨b, off + k * 4 + 3, none⟩ = some (.slice (hd k).a (nthE l k).args.length (hd k).c)
theorem RowsAt.ex {w : World} {B : Nat} {A : Option Addr} {l : List ExD} {hd : Nat → Hd} (rows : RowsAt w B A l.length 4 fun k => exV (nthE l k) (hd k)) {k : Nat} (hk : k < l.length) : RowE w A l hd k := by
  obtain ⟨b, off, e, hb, hc⟩ := rows (by omega)
  exact ⟨b, off, e, hc k hk 0 (by omega), hc k hk 1 (by omega), hc k hk 2 (by omega), hc k hk 3 (by omega)⟩
theorem ExsAt.open_ {w : World} {B : Nat} {A : Option Addr} {l : List ExD} (h : ExsAt w B A l) (g : Nat) :
    ∃ hd, (∀ W, Turn B g w W → ∀ k, k < l.length → RowE W A l hd k) ∧ (∀ k, k < l.length → ExsAt w B (hd k).a (nthE l k).args) ∧ l.length * 56 ≤ 140737488351232 ∧ ∀ k, k < l.length → ExWf (nthE l k) := by
  obtain @⟨_, _, hd, len, rows, wf, kids⟩ := h
  exact ⟨hd, fun W hW k hk => (rows.turn hW).ex hk, kids, len, wf⟩
/-- The cells of an expression that lies alone. -/
theorem row_one {w : World} {b : Nat} {x : ExD} {h : Hd} {t : TypeId} (hw : Whl w b t #[.int .i64 x.kind, .int .i64 x.n, .string x.name, .slice h.a x.args.length h.c]) {k : Nat} (hk : k < [x].length) : RowE w (some ⟨b, 0, none⟩) [x] (fun _ => h) k := by
  obtain rfl : k = 0 := by simpa using hk
  exact ⟨b, 0, rfl, hw.cell 0, hw.cell 1, hw.cell 2, hw.cell 3⟩

/-- The cells of a statement. -/
abbrev stC (x : StD) (h : HdS) : Array Value := #[.int .i64 x.kind, .string x.name, .int .i64 x.n, .int .i64 x.a.kind, .int .i64 x.a.n, .string x.a.name, .slice h.a.a x.a.args.length h.a.c, .int .i64 x.b.kind, .int .i64 x.b.n, .string x.b.name, .slice h.b.a x.b.args.length h.b.c, .slice h.body.a x.body.length h.body.c, .slice h.els.a x.els.length h.els.c, .slice h.cases.a x.cases.length h.cases.c]
abbrev exC (x : ExD) (h : Hd) : Array Value := #[.int .i64 x.kind, .int .i64 x.n, .string x.name, .slice h.a x.args.length h.c]
abbrev caC (x : CaD) (h : Hd) : Array Value := #[.int .i64 x.n, .slice h.a x.body.length h.c]
abbrev exG (x : ExD) (h : Hd) : Value := .agg (exC x h)
def RowS (w : World) (A : Option Addr) (l : List StD) (hd : Nat → HdS) (k : Nat) : Prop :=
  ∃ b off, A = some ⟨b, off, none⟩ ∧ w.cell? ⟨b, off + k * 14, none⟩ = some (.int .i64 (nthS l k).kind) ∧ w.cell? ⟨b, off + k * 14 + 1, none⟩ = some (.string (nthS l k).name) ∧ w.cell? ⟨b, off + k * 14 + 2, none⟩ = some (.int .i64 (nthS l k).n) ∧ w.cell? ⟨b, off + k * 14 + 3, none⟩ = some (.int .i64 (nthS l k).a.kind) ∧ w.cell? ⟨b, off + k * 14 + 4, none⟩ = some (.int .i64 (nthS l k).a.n) ∧ w.cell? ⟨b, off + k * 14 + 5, none⟩ = some (.string (nthS l k).a.name) ∧ w.cell? ⟨b, off + k * 14 + 6, none⟩ = some (.slice (hd k).a.a (nthS l k).a.args.length (hd k).a.c) ∧ w.cell? ⟨b, off + k * 14 + 7, none⟩ = some (.int .i64 (nthS l k).b.kind) ∧ w.cell? ⟨b, off + k * 14 + 8, none⟩ = some (.int .i64 (nthS l k).b.n) ∧ w.cell? ⟨b, off + k * 14 + 9, none⟩ = some (.string (nthS l k).b.name) ∧ w.cell? ⟨b, off + k * 14 + 10, none⟩ = some (.slice (hd k).b.a (nthS l k).b.args.length (hd k).b.c) ∧ w.cell? ⟨b, off + k * 14 + 11, none⟩ = some (.slice (hd k).body.a (nthS l k).body.length (hd k).body.c) ∧ w.cell? ⟨b, off + k * 14 + 12, none⟩ = some (.slice (hd k).els.a (nthS l k).els.length (hd k).els.c) ∧ w.cell? ⟨b, off + k * 14 + 13, none⟩ = some (.slice (hd k).cases.a (nthS l k).cases.length (hd k).cases.c)
theorem RowsAt.st {w : World} {B : Nat} {A : Option Addr} {l : List StD} {hd : Nat → HdS} (rows : RowsAt w B A l.length 14 fun k => stV (nthS l k) (hd k)) {k : Nat} (hk : k < l.length) : RowS w A l hd k := by
  obtain ⟨b, off, e, hb, hc⟩ := rows (by omega)
  exact ⟨b, off, e, hc k hk 0 (by omega), hc k hk 1 (by omega), hc k hk 2 (by omega), hc k hk 3 (by omega), hc k hk 4 (by omega), hc k hk 5 (by omega), hc k hk 6 (by omega), hc k hk 7 (by omega), hc k hk 8 (by omega), hc k hk 9 (by omega), hc k hk 10 (by omega), hc k hk 11 (by omega), hc k hk 12 (by omega), hc k hk 13 (by omega)⟩
def RowC (w : World) (A : Option Addr) (l : List CaD) (hd : Nat → Hd) (k : Nat) : Prop :=
  ∃ b off, A = some ⟨b, off, none⟩ ∧ w.cell? ⟨b, off + k * 2, none⟩ = some (.int .i64 (nthC l k).n) ∧ w.cell? ⟨b, off + k * 2 + 1, none⟩ = some (.slice (hd k).a (nthC l k).body.length (hd k).c)
theorem RowsAt.ca {w : World} {B : Nat} {A : Option Addr} {l : List CaD} {hd : Nat → Hd} (rows : RowsAt w B A l.length 2 fun k => caV (nthC l k) (hd k)) {k : Nat} (hk : k < l.length) : RowC w A l hd k := by
  obtain ⟨b, off, e, hb, hc⟩ := rows (by omega)
  exact ⟨b, off, e, hc k hk 0 (by omega), hc k hk 1 (by omega)⟩
/-- What a statement has, in memory. -/
structure StIn (w : World) (B : Nat) (x : StD) (h : HdS) (hc : Nat → Hd) : Prop where
  wf : StWf x
  ea : ExsAt w B h.a.a x.a.args
  eb : ExsAt w B h.b.a x.b.args
  body : StsAt w B h.body.a x.body
  els : StsAt w B h.els.a x.els
  clen : x.cases.length * 32 ≤ 140737488351232
  crow : RowsAt w B h.cases.a x.cases.length 2 fun j => caV (nthC x.cases j) (hc j)
  cwf : ∀ j, j < x.cases.length → In64 (nthC x.cases j).n
  cbody : ∀ j, j < x.cases.length → StsAt w B (hc j).a (nthC x.cases j).body
theorem StIn.below {w w' : World} {B B' : Nat} {x : StD} {h : HdS} {hc : Nat → Hd} (o : StIn w B x h hc) (hb : Below B' w w') (hB : B ≤ B') : StIn w' B x h hc :=
  ⟨o.wf, o.ea.keep hb hB, o.eb.keep hb hB, o.body.keep hb hB, o.els.keep hb hB, o.clen, o.crow.below hb hB, o.cwf, fun j hj => (o.cbody j hj).keep hb hB⟩
theorem StIn.turn {w w' : World} {B g : Nat} {x : StD} {h : HdS} {hc : Nat → Hd} (o : StIn w B x h hc) (hg : Turn B g w w') : StIn w' B x h hc := o.below hg.below (Nat.le_refl _)
theorem StIn.more {w : World} {B B' : Nat} {x : StD} {h : HdS} {hc : Nat → Hd} (o : StIn w B x h hc) (hB : B ≤ B') : StIn w B' x h hc :=
  ⟨o.wf, o.ea.more hB, o.eb.more hB, o.body.more hB, o.els.more hB, o.clen, o.crow.more hB, o.cwf, fun j hj => (o.cbody j hj).more hB⟩
theorem StsAt.open_ {w : World} {B : Nat} {A : Option Addr} {l : List StD} (h : StsAt w B A l) :
    ∃ (hd : Nat → HdS) (hc : Nat → Nat → Hd), (∀ g W, Turn B g w W → ∀ k, k < l.length → RowS W A l hd k) ∧ (∀ k, k < l.length → StIn w B (nthS l k) (hd k) (hc k)) ∧ l.length * 216 ≤ 140737488351232 := by
  obtain @⟨_, _, hd, hc, len, rows, wf, ea, eb, body, els, clen, crow, cwf, cbody⟩ := h
  exact ⟨hd, hc, fun g W hW k hk => (rows.turn hW).st hk, fun k hk => ⟨wf k hk, ea k hk, eb k hk, body k hk, els k hk, clen k hk, crow k hk, cwf k hk, cbody k hk⟩, len⟩
theorem Whl.newAt {w : World} {b : Nat} (h : w.heap.size = b) (t : TypeId) (cs : Array Value) : Whl (w.alloc (.cells cs t)) b t cs := by subst h; exact Whl.new w t cs
theorem Whl.c2 {w : World} {g : Nat} {t : TypeId} {u v : Value} (h : Whl w g t #[u, v]) : w.cell? ⟨g, 0, none⟩ = some u ∧ w.cell? ⟨g, 1, none⟩ = some v := ⟨h.cell 0, h.cell 1⟩
theorem Whl.c3 {w : World} {g : Nat} {t : TypeId} {u v x : Value} (h : Whl w g t #[u, v, x]) : w.cell? ⟨g, 0, none⟩ = some u ∧ w.cell? ⟨g, 1, none⟩ = some v ∧ w.cell? ⟨g, 2, none⟩ = some x := ⟨h.cell 0, h.cell 1, h.cell 2⟩
theorem Whl.c4 {w : World} {g : Nat} {t : TypeId} {u v x y : Value} (h : Whl w g t #[u, v, x, y]) : w.cell? ⟨g, 0, none⟩ = some u ∧ w.cell? ⟨g, 1, none⟩ = some v ∧ w.cell? ⟨g, 2, none⟩ = some x ∧ w.cell? ⟨g, 3, none⟩ = some y := ⟨h.cell 0, h.cell 1, h.cell 2, h.cell 3⟩
theorem Whl.c8 {w : World} {g : Nat} {t : TypeId} {a b c d e f i j : Value} (h : Whl w g t #[a, b, c, d, e, f, i, j]) : w.cell? ⟨g, 0, none⟩ = some a ∧ w.cell? ⟨g, 1, none⟩ = some b ∧ w.cell? ⟨g, 2, none⟩ = some c ∧ w.cell? ⟨g, 3, none⟩ = some d ∧ w.cell? ⟨g, 4, none⟩ = some e ∧ w.cell? ⟨g, 5, none⟩ = some f ∧ w.cell? ⟨g, 6, none⟩ = some i ∧ w.cell? ⟨g, 7, none⟩ = some j := ⟨h.cell 0, h.cell 1, h.cell 2, h.cell 3, h.cell 4, h.cell 5, h.cell 6, h.cell 7⟩
theorem Whl.cSt {w : World} {g : Nat} {t : TypeId} {x : StD} {h : HdS} (hw : Whl w g t (stC x h)) : w.cell? ⟨g, 0, none⟩ = some (.int .i64 x.kind) ∧ w.cell? ⟨g, 1, none⟩ = some (.string x.name) ∧ w.cell? ⟨g, 2, none⟩ = some (.int .i64 x.n) ∧ w.cell? ⟨g, 3, none⟩ = some (.int .i64 x.a.kind) ∧ w.cell? ⟨g, 4, none⟩ = some (.int .i64 x.a.n) ∧ w.cell? ⟨g, 5, none⟩ = some (.string x.a.name) ∧ w.cell? ⟨g, 6, none⟩ = some (.slice h.a.a x.a.args.length h.a.c) ∧ w.cell? ⟨g, 7, none⟩ = some (.int .i64 x.b.kind) ∧ w.cell? ⟨g, 8, none⟩ = some (.int .i64 x.b.n) ∧ w.cell? ⟨g, 9, none⟩ = some (.string x.b.name) ∧ w.cell? ⟨g, 10, none⟩ = some (.slice h.b.a x.b.args.length h.b.c) ∧ w.cell? ⟨g, 11, none⟩ = some (.slice h.body.a x.body.length h.body.c) ∧ w.cell? ⟨g, 12, none⟩ = some (.slice h.els.a x.els.length h.els.c) ∧ w.cell? ⟨g, 13, none⟩ = some (.slice h.cases.a x.cases.length h.cases.c) := ⟨hw.cell 0, hw.cell 1, hw.cell 2, hw.cell 3, hw.cell 4, hw.cell 5, hw.cell 6, hw.cell 7, hw.cell 8, hw.cell 9, hw.cell 10, hw.cell 11, hw.cell 12, hw.cell 13⟩
end Go.Proofs.YtdddppmfeoebgaaGreatDoor
