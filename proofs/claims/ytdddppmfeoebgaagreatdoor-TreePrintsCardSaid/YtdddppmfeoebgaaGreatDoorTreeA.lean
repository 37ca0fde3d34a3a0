/-
  Layer 2 (tree): programs as plain data, and what it means that memory holds them; what is counted, what is wrong first.
-/
import Derived.Test.YtdddppmfeoebgaaGreatDoorScanA
namespace Go.Proofs.YtdddppmfeoebgaaGreatDoor
open Go.RowKit
set_option linter.unusedSimpArgs false
set_option linter.unusedVariables false
def In64 (n : Int) : Prop := -9223372036854775808 ≤ n ∧ n ≤ 9223372036854775807
/-- So many elements of so many cells each lie there: all below B. -/
def RowsAt (w : World) (B : Nat) (A : Option Addr) (n sz : Nat) (val : Nat → Nat → Value) : Prop :=
  0 < n → ∃ b off, A = some ⟨b, off, none⟩ ∧ b < B ∧ ∀ k, k < n → ∀ j, j < sz → w.cell? ⟨b, off + k * sz + j, none⟩ = some (val k j)
theorem RowsAt.below {w w' : World} {B B' : Nat} {A : Option Addr} {n sz : Nat} {val : Nat → Nat → Value} (h : RowsAt w B A n sz val) (hb : Below B' w w') (hB : B ≤ B') : RowsAt w' B A n sz val := fun h0 => by
  obtain ⟨b, off, e, hlt, hc⟩ := h h0
  exact ⟨b, off, e, hlt, fun k hk j hj => (hb.cell (p := ⟨b, off + k * sz + j, none⟩) (Nat.lt_of_lt_of_le hlt hB)).trans (hc k hk j hj)⟩
theorem RowsAt.more {w : World} {B B' : Nat} {A : Option Addr} {n sz : Nat} {val : Nat → Nat → Value} (h : RowsAt w B A n sz val) (hB : B ≤ B') : RowsAt w B' A n sz val := fun h0 => by
  obtain ⟨b, off, e, hlt, hc⟩ := h h0
  exact ⟨b, off, e, Nat.lt_of_lt_of_le hlt hB, hc⟩
/-! ### Programs -/
/-- An expression. -/
inductive ExD where
  | mk (kind n : Int) (name : ByteArray) (args : List ExD)
namespace ExD
def kind : ExD → Int | mk k _ _ _ => k
def n : ExD → Int | mk _ n _ _ => n
def name : ExD → ByteArray | mk _ _ s _ => s
def args : ExD → List ExD | mk _ _ _ l => l
def zero : ExD := .mk 0 0 .empty []
end ExD
mutual
/-- A statement. -/
inductive StD where
  | mk (kind : Int) (name : ByteArray) (n : Int) (a b : ExD) (body els : List StD) (cases : List CaD)
/-- A case. -/
inductive CaD where
  | mk (n : Int) (body : List StD)
end
namespace StD
def kind : StD → Int | mk k _ _ _ _ _ _ _ => k
def name : StD → ByteArray | mk _ s _ _ _ _ _ _ => s
def n : StD → Int | mk _ _ n _ _ _ _ _ => n
def a : StD → ExD | mk _ _ _ x _ _ _ _ => x
def b : StD → ExD | mk _ _ _ _ x _ _ _ => x
def body : StD → List StD | mk _ _ _ _ _ l _ _ => l
def els : StD → List StD | mk _ _ _ _ _ _ l _ => l
def cases : StD → List CaD | mk _ _ _ _ _ _ _ l => l
def zero : StD := .mk 0 .empty 0 .zero .zero [] [] []
end StD
namespace CaD
def n : CaD → Int | mk n _ => n
def body : CaD → List StD | mk _ l => l
def zero : CaD := .mk 0 []
end CaD
structure PaD where
  name : ByteArray
  lo : Int
  hi : Int
structure FnD where
  name : ByteArray
  params : List PaD
  body : List StD
structure PrD where
  widen : List Int
  funcs : List FnD
def nthE (l : List ExD) (k : Nat) : ExD := l.getD k .zero
def nthS (l : List StD) (k : Nat) : StD := l.getD k .zero
def nthC (l : List CaD) (k : Nat) : CaD := l.getD k .zero
def nthP (l : List PaD) (k : Nat) : PaD := l.getD k ⟨.empty, 0, 0⟩
def nthF (l : List FnD) (k : Nat) : FnD := l.getD k ⟨.empty, [], []⟩
theorem getD_size {α : Type} [SizeOf α] (z : α) : ∀ {l : List α} {k : Nat}, k < l.length → SizeOf.sizeOf (l.getD k z) < SizeOf.sizeOf l
  | [], k, h => by simp at h
  | x :: r, 0, h => by simp only [List.getD_cons_zero, List.cons.sizeOf_spec]; omega
  | x :: r, k + 1, h => by
    have := getD_size z (l := r) (k := k) (by simpa using h)
    simp only [List.getD_cons_succ, List.cons.sizeOf_spec]; omega
theorem args_size (x : ExD) : SizeOf.sizeOf x.args < SizeOf.sizeOf x := by cases x; simp only [ExD.args, ExD.mk.sizeOf_spec]; omega
theorem body_size (x : StD) : SizeOf.sizeOf x.body < SizeOf.sizeOf x := by cases x; simp only [StD.body, StD.mk.sizeOf_spec]; omega
theorem els_size (x : StD) : SizeOf.sizeOf x.els < SizeOf.sizeOf x := by cases x; simp only [StD.els, StD.mk.sizeOf_spec]; omega
theorem cases_size (x : StD) : SizeOf.sizeOf x.cases < SizeOf.sizeOf x := by cases x; simp only [StD.cases, StD.mk.sizeOf_spec]; omega
theorem cbody_size (x : CaD) : SizeOf.sizeOf x.body < SizeOf.sizeOf x := by cases x; simp only [CaD.body, CaD.mk.sizeOf_spec]; omega
/-! ### Memory that holds them -/
/-- Where a slice lies, and its room. -/
structure Hd where
  a : Option Addr
  c : Nat
structure HdS where
  a : Hd
  b : Hd
  body : Hd
  els : Hd
  cases : Hd
structure HdF where
  params : Hd
  body : Hd
def exV (x : ExD) (h : Hd) : Nat → Value
  | 0 => .int .i64 x.kind
  | 1 => .int .i64 x.n
  | 2 => .string x.name
  | _ => .slice h.a x.args.length h.c
def stV (x : StD) (h : HdS) : Nat → Value
  | 0 => .int .i64 x.kind
  | 1 => .string x.name
  | 2 => .int .i64 x.n
  | 3 => .int .i64 x.a.kind
  | 4 => .int .i64 x.a.n
  | 5 => .string x.a.name
  | 6 => .slice h.a.a x.a.args.length h.a.c
  | 7 => .int .i64 x.b.kind
  | 8 => .int .i64 x.b.n
  | 9 => .string x.b.name
  | 10 => .slice h.b.a x.b.args.length h.b.c
  | 11 => .slice h.body.a x.body.length h.body.c
  | 12 => .slice h.els.a x.els.length h.els.c
  | _ => .slice h.cases.a x.cases.length h.cases.c
def caV (x : CaD) (h : Hd) : Nat → Value
  | 0 => .int .i64 x.n
  | _ => .slice h.a x.body.length h.c
def paV (x : PaD) : Nat → Value
  | 0 => .string x.name
  | 1 => .int .i64 x.lo
  | _ => .int .i64 x.hi
def fnV (x : FnD) (h : HdF) : Nat → Value
  | 0 => .string x.name
  | 1 => .slice h.params.a x.params.length h.params.c
  | _ => .slice h.body.a x.body.length h.body.c
structure ExWf (x : ExD) : Prop where
  kind : In64 x.kind
  n : In64 x.n
  name : x.name.size ≤ maxLen
inductive ExsAt (w : World) (B : Nat) : Option Addr → List ExD → Prop where
  | mk {A : Option Addr} {l : List ExD} (hd : Nat → Hd) (len : l.length * 56 ≤ 140737488351232) (rows : RowsAt w B A l.length 4 fun k => exV (nthE l k) (hd k))
      (wf : ∀ k, k < l.length → ExWf (nthE l k)) (kids : ∀ k, k < l.length → ExsAt w B (hd k).a (nthE l k).args) : ExsAt w B A l
structure StWf (x : StD) : Prop where
  kind : In64 x.kind
  n : In64 x.n
  name : x.name.size ≤ maxLen
  a : ExWf x.a
  b : ExWf x.b
inductive StsAt (w : World) (B : Nat) : Option Addr → List StD → Prop where
  | mk {A : Option Addr} {l : List StD} (hd : Nat → HdS) (hc : Nat → Nat → Hd) (len : l.length * 216 ≤ 140737488351232) (rows : RowsAt w B A l.length 14 fun k => stV (nthS l k) (hd k))
      (wf : ∀ k, k < l.length → StWf (nthS l k))
      (ea : ∀ k, k < l.length → ExsAt w B (hd k).a.a (nthS l k).a.args) (eb : ∀ k, k < l.length → ExsAt w B (hd k).b.a (nthS l k).b.args)
      (body : ∀ k, k < l.length → StsAt w B (hd k).body.a (nthS l k).body) (els : ∀ k, k < l.length → StsAt w B (hd k).els.a (nthS l k).els)
      (clen : ∀ k, k < l.length → (nthS l k).cases.length * 32 ≤ 140737488351232)
      (crow : ∀ k, k < l.length → RowsAt w B (hd k).cases.a (nthS l k).cases.length 2 fun j => caV (nthC (nthS l k).cases j) (hc k j))
      (cwf : ∀ k, k < l.length → ∀ j, j < (nthS l k).cases.length → In64 (nthC (nthS l k).cases j).n)
      (cbody : ∀ k, k < l.length → ∀ j, j < (nthS l k).cases.length → StsAt w B (hc k j).a (nthC (nthS l k).cases j).body) : StsAt w B A l
structure FnOk (w : World) (B : Nat) (f : FnD) (h : HdF) : Prop where
  name : f.name.size ≤ maxLen
  plen : f.params.length * 32 ≤ 140737488351232
  params : RowsAt w B h.params.a f.params.length 3 fun k => paV (nthP f.params k)
  pwf : ∀ k, k < f.params.length → (nthP f.params k).name.size ≤ maxLen ∧ In64 (nthP f.params k).lo ∧ In64 (nthP f.params k).hi
  body : StsAt w B h.body.a f.body
inductive FnsAt (w : World) (B : Nat) (A : Option Addr) (l : List FnD) : Prop where
  | mk (hd : Nat → HdF) (len : l.length * 64 ≤ 140737488351232) (rows : RowsAt w B A l.length 3 fun k => fnV (nthF l k) (hd k))
      (each : ∀ k, k < l.length → FnOk w B (nthF l k) (hd k)) : FnsAt w B A l
structure PrOk (w : World) (B : Nat) (p : PrD) (wa fa : Option Addr) : Prop where
  wlen : p.widen.length * 8 ≤ 140737488351232
  widen : RowsAt w B wa p.widen.length 1 fun k _ => .int .i64 (p.widen.getD k 0)
  wwf : ∀ k, k < p.widen.length → In64 (p.widen.getD k 0)
  funcs : FnsAt w B fa p.funcs
theorem ExsAt.keep {w w' : World} {B B' : Nat} (hb : Below B' w w') (hB : B ≤ B') {A : Option Addr} {l : List ExD} (h : ExsAt w B A l) : ExsAt w' B A l := by
  induction h with
  | mk hd len rows wf kids ih => exact .mk hd len (rows.below hb hB) wf ih
theorem StsAt.keep {w w' : World} {B B' : Nat} (hb : Below B' w w') (hB : B ≤ B') {A : Option Addr} {l : List StD} (h : StsAt w B A l) : StsAt w' B A l := by
  induction h with
  | mk hd hc len rows wf ea eb body els clen crow cwf cbody ih1 ih2 ih3 =>
    exact .mk hd hc len (rows.below hb hB) wf (fun k hk => (ea k hk).keep hb hB) (fun k hk => (eb k hk).keep hb hB) ih1 ih2 clen (fun k hk => (crow k hk).below hb hB) cwf ih3
theorem ExsAt.more {w : World} {B B' : Nat} (hB : B ≤ B') {A : Option Addr} {l : List ExD} (h : ExsAt w B A l) : ExsAt w B' A l := by
  induction h with
  | mk hd len rows wf kids ih => exact .mk hd len (rows.more hB) wf ih
theorem StsAt.more {w : World} {B B' : Nat} (hB : B ≤ B') {A : Option Addr} {l : List StD} (h : StsAt w B A l) : StsAt w B' A l := by
  induction h with
  | mk hd hc len rows wf ea eb body els clen crow cwf cbody ih1 ih2 ih3 =>
    exact .mk hd hc len (rows.more hB) wf (fun k hk => (ea k hk).more hB) (fun k hk => (eb k hk).more hB) ih1 ih2 clen (fun k hk => (crow k hk).more hB) cwf ih3
theorem FnOk.keep {w w' : World} {B B' : Nat} (hb : Below B' w w') (hB : B ≤ B') {f : FnD} {h : HdF} (o : FnOk w B f h) : FnOk w' B f h := ⟨o.name, o.plen, o.params.below hb hB, o.pwf, o.body.keep hb hB⟩
theorem FnOk.more {w : World} {B B' : Nat} (hB : B ≤ B') {f : FnD} {h : HdF} (o : FnOk w B f h) : FnOk w B' f h := ⟨o.name, o.plen, o.params.more hB, o.pwf, o.body.more hB⟩
theorem FnsAt.keep {w w' : World} {B B' : Nat} (hb : Below B' w w') (hB : B ≤ B') {A : Option Addr} {l : List FnD} : FnsAt w B A l → FnsAt w' B A l
  | .mk hd len rows each => .mk hd len (rows.below hb hB) fun k hk => (each k hk).keep hb hB
theorem FnsAt.more {w : World} {B B' : Nat} (hB : B ≤ B') {A : Option Addr} {l : List FnD} : FnsAt w B A l → FnsAt w B' A l
  | .mk hd len rows each => .mk hd len (rows.more hB) fun k hk => (each k hk).more hB
theorem PrOk.keep {w w' : World} {B B' : Nat} (hb : Below B' w w') (hB : B ≤ B') {p : PrD} {wa fa : Option Addr} (o : PrOk w B p wa fa) : PrOk w' B p wa fa := ⟨o.wlen, o.widen.below hb hB, o.wwf, o.funcs.keep hb hB⟩
theorem PrOk.step {w w' : World} {p : PrD} {wa fa : Option Addr} (o : PrOk w w.heap.size p wa fa) (hb : Below w.heap.size w w') : PrOk w' w'.heap.size p wa fa :=
  ⟨o.wlen, (o.widen.below hb (Nat.le_refl _)).more hb.size, o.wwf, (o.funcs.keep hb (Nat.le_refl _)).more hb.size⟩
/-! ### How many parts -/
mutual
def cntE : ExD → Nat
  | .mk _ _ _ l => 1 + cntEs l
def cntEs : List ExD → Nat
  | [] => 0
  | x :: r => cntE x + cntEs r
end
/-- Is an expression one of zeros? -/
def zeroE (x : ExD) : Bool := x.kind == 0 && x.n == 0 && x.name.size == 0 && x.args.length == 0
def cntZ (x : ExD) : Nat := if zeroE x then 0 else cntE x
mutual
def cntS : StD → Nat
  | .mk _ _ _ a b body els cases => 1 + cntZ a + cntZ b + cntSs body + cntCs cases + cntSs els
def cntC : CaD → Nat
  | .mk _ body => 1 + cntSs body
def cntSs : List StD → Nat
  | [] => 0
  | x :: r => cntS x + cntSs r
def cntCs : List CaD → Nat
  | [] => 0
  | x :: r => cntC x + cntCs r
end
def cntFs : List FnD → Nat
  | [] => 0
  | f :: r => cntSs f.body + cntFs r
def nodesD (p : PrD) : Nat := min (cntFs p.funcs) 4097
/-! ### What is wrong -/
def namedD (k : Int) : Bool := k == 2 || k == 3 || k == 4
def knownE (k : Int) : Bool := decide (1 ≤ k) && decide (k ≤ 20)
/-- How many arguments a kind has; -1: any number. -/
def arD (k : Int) : Int := if k == 1 || k == 2 then 0 else if k == 3 || k == 5 || k == 6 then 1 else if k == 4 then -1 else if k == 20 then 3 else 2
def formE (x : ExD) : Bool := knownE x.kind && (arD x.kind == -1 || (x.args.length : Int) == arD x.kind) && (x.n == 0 || x.kind == 1) && (x.name.size == 0 || namedD x.kind)
/-- What may be a name. -/
def nameB (L : List UInt8) : Bool := (!(L.length == 0)) && letterB (L.getD 0 0) && decide (L.length ≤ 16) && (rowD alnumB L 0 == L.length) && !wordB L
def bytesOf' (s : ByteArray) : List UInt8 := s.data.toList
def nameE (s : ByteArray) : Bool := nameB (bytesOf' s)
def ownE (x : ExD) (lv : Nat) : Int := if 32 < lv then 20 else if !formE x then 5 else if namedD x.kind && !nameE x.name then 8 else if x.n < 0 then 1 else 0
mutual
def chkE : ExD → Nat → Int
  | .mk k n s l, lv => if ownE (.mk k n s l) lv ≠ 0 then ownE (.mk k n s l) lv else chkEs l (lv + 1)
def chkEs : List ExD → Nat → Int
  | [], _ => 0
  | x :: r, lv => if chkE x lv ≠ 0 then chkE x lv else chkEs r lv
end
def cName (k : Int) : Bool := k == 1 || k == 2 || k == 3 || k == 4 || k == 7
def cNum (k : Int) : Bool := k == 2
def cA (k : Int) : Bool := k == 1 || k == 3 || k == 4 || k == 5 || k == 6 || k == 7 || k == 9 || k == 10
def cB (k : Int) : Bool := k == 4 || k == 7
def cBody (k : Int) : Bool := k == 5 || k == 7
def cEls (k : Int) : Bool := k == 5 || k == 6
def cCases (k : Int) : Bool := k == 6
def knownS (k : Int) : Bool := decide (1 ≤ k) && decide (k ≤ 10)
def formS (x : StD) : Bool := knownS x.kind && (cName x.kind || x.name.size == 0) && (cNum x.kind || x.n == 0) && (cA x.kind || zeroE x.a) && (cB x.kind || zeroE x.b) && (cBody x.kind || x.body.length == 0) && (cEls x.kind || x.els.length == 0) && (cCases x.kind || x.cases.length == 0)
def least : Int := -9223372036854775808
def lowestD (l : List CaD) : Bool := l.any fun x => x.n == least
def ownS (x : StD) : Int := if !formS x then 5 else if cName x.kind && !nameE x.name then 8 else if decide (x.n < 0) || lowestD x.cases then 1 else if x.kind == 10 && !(x.a.kind == 4) then 5 else 0
/-- How many statements were met, and what is wrong. -/
structure Met where
  n : Nat
  e : Int
/-- .. and on. -/
def Met.on (p q : Met) : Met := if p.e ≠ 0 then p else ⟨p.n + q.n, q.e⟩
mutual
def chkS : StD → Nat → Met
  | .mk k s n a b body els cases, lv =>
    Met.on ⟨1, if 32 < lv then 20 else ownS (.mk k s n a b body els cases)⟩
      (Met.on ⟨0, if cA k then chkE a (lv + 1) else 0⟩ (Met.on ⟨0, if cB k then chkE b (lv + 1) else 0⟩ (Met.on (chkSs body (lv + 1)) (Met.on (chkCs cases (lv + 1)) (chkSs els (lv + 1))))))
def chkC : CaD → Nat → Met
  | .mk _ body, lv => chkSs body lv
def chkSs : List StD → Nat → Met
  | [], _ => ⟨0, 0⟩
  | x :: r, lv => (chkS x lv).on (chkSs r lv)
def chkCs : List CaD → Nat → Met
  | [], _ => ⟨0, 0⟩
  | x :: r, lv => (chkC x lv).on (chkCs r lv)
end
def pars : List PaD → Int
  | [] => 0
  | x :: r => if !nameE x.name then 8 else if x.lo == least || x.hi == least then 1 else pars r
def faceD (f : FnD) : Int := if !nameE f.name then 8 else if 8 < f.params.length then 3 else pars f.params
def risesD : List Int → Bool
  | a :: b :: r => decide (a < b) && risesD (b :: r)
  | _ => true
def headD (p : PrD) : Int := if 16 < p.widen.length then 3 else if p.widen.any (· == least) then 1 else if !risesD p.widen then 66 else if 32 < p.funcs.length ∨ 4096 < cntFs p.funcs then 3 else 0
structure FaultD where
  e : Int
  fn : Nat
  at_ : Nat
deriving DecidableEq
def fnsD : List FnD → Nat → FaultD
  | [], _ => ⟨0, 0, 0⟩
  | f :: r, i => if faceD f ≠ 0 then ⟨faceD f, i, 0⟩ else if (chkSs f.body 1).e ≠ 0 then ⟨(chkSs f.body 1).e, i, (chkSs f.body 1).n⟩ else fnsD r (i + 1)
def checkD (p : PrD) : FaultD := if headD p ≠ 0 then ⟨headD p, 0, 0⟩ else fnsD p.funcs 0
end Go.Proofs.YtdddppmfeoebgaaGreatDoor
