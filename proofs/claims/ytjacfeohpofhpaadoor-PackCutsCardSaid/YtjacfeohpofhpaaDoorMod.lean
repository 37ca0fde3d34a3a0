/-
  Modules as plain data, and what it means that memory holds them. No program in sight but its types.
-/
import Derived.Test.YtjacfeohpofhpaaDoorPlainA
import Derived.Test.YtjacfeohpofhpaaDoorKeep
namespace Go.Proofs.YtjacfeohpofhpaaDoor
open Go.RowKit
set_option linter.unusedSimpArgs false
set_option linter.unusedVariables false

/-- An instruction. -/
structure InsD where
  op : Int
  a : Int
  b : Int
  c : Int
  n : Int
deriving DecidableEq
/-- A function of a module, and where its slices lie. -/
structure FuncD where
  name : ByteArray
  pa : Option Addr
  pc : Nat
  params : List Sp
  regs : Int
  words : Int
  ca : Option Addr
  cc : Nat
  code : List InsD
/-- A module, and where its slices lie. -/
structure ModD where
  ta : Option Addr
  tc : Nat
  ths : List Int
  fa : Option Addr
  fc : Nat
  funcs : List FuncD
def insV (x : InsD) : Nat → Value
  | 0 => .int .i64 x.op
  | 1 => .int .i64 x.a
  | 2 => .int .i64 x.b
  | 3 => .int .i64 x.c
  | _ => .int .i64 x.n
def spV (s : Sp) : Nat → Value
  | 0 => .int .i64 s.lo
  | _ => .int .i64 s.hi
def funcV (f : FuncD) : Nat → Value
  | 0 => .string f.name
  | 1 => .slice f.pa f.params.length f.pc
  | 2 => .int .i64 f.regs
  | 3 => .int .i64 f.words
  | _ => .slice f.ca f.code.length f.cc
abbrev InsD.val (x : InsD) : Value := .agg #[.int .i64 x.op, .int .i64 x.a, .int .i64 x.b, .int .i64 x.c, .int .i64 x.n]
abbrev FuncD.val (f : FuncD) : Value := .agg #[.string f.name, .slice f.pa f.params.length f.pc, .int .i64 f.regs, .int .i64 f.words, .slice f.ca f.code.length f.cc]
abbrev ModD.val (m : ModD) : Value := .agg #[.slice m.ta m.ths.length m.tc, .slice m.fa m.funcs.length m.fc]
def nthS (l : List Sp) (k : Nat) : Sp := l.getD k ⟨1, 0⟩
def nthX (l : List InsD) (k : Nat) : InsD := l.getD k ⟨0, 0, 0, 0, 0⟩
def nthF (l : List FuncD) (k : Nat) : FuncD := l.getD k ⟨.empty, none, 0, [], 0, 0, none, 0, []⟩
/-- So many elements of so many cells each lie there: all below B. -/
def RowsAt (w : World) (B : Nat) (A : Option Addr) (n sz : Nat) (val : Nat → Nat → Value) : Prop :=
  0 < n → ∃ b off, A = some ⟨b, off, none⟩ ∧ b < B ∧ ∀ k, k < n → ∀ j, j < sz → w.cell? ⟨b, off + k * sz + j, none⟩ = some (val k j)
theorem RowsAt.below {w w' : World} {B B' : Nat} {A : Option Addr} {n sz : Nat} {val : Nat → Nat → Value} (h : RowsAt w B A n sz val) (hb : Below B' w w') (hB : B ≤ B') : RowsAt w' B A n sz val := fun h0 => by
  obtain ⟨b, off, e, hlt, hc⟩ := h h0
  exact ⟨b, off, e, hlt, fun k hk j hj => (hb.cell (p := ⟨b, off + k * sz + j, none⟩) (Nat.lt_of_lt_of_le hlt hB)).trans (hc k hk j hj)⟩
theorem RowsAt.more {w : World} {B B' : Nat} {A : Option Addr} {n sz : Nat} {val : Nat → Nat → Value} (h : RowsAt w B A n sz val) (hB : B ≤ B') : RowsAt w B' A n sz val := fun h0 => by
  obtain ⟨b, off, e, hlt, hc⟩ := h h0
  exact ⟨b, off, e, Nat.lt_of_lt_of_le hlt hB, hc⟩
abbrev SpansAt (w : World) (B : Nat) (A : Option Addr) (l : List Sp) : Prop := RowsAt w B A l.length 2 fun k => spV (nthS l k)
abbrev InsAt (w : World) (B : Nat) (A : Option Addr) (l : List InsD) : Prop := RowsAt w B A l.length 5 fun k => insV (nthX l k)
abbrev FuncsAt (w : World) (B : Nat) (A : Option Addr) (l : List FuncD) : Prop := RowsAt w B A l.length 5 fun k => funcV (nthF l k)
structure FuncOk (w : World) (B : Nat) (f : FuncD) : Prop where
  params : SpansAt w B f.pa f.params
  code : InsAt w B f.ca f.code
structure ModOk (w : World) (B : Nat) (m : ModD) : Prop where
  ths : IntsAt w B m.ta m.ths
  funcs : FuncsAt w B m.fa m.funcs
  each : ∀ k, k < m.funcs.length → FuncOk w B (nthF m.funcs k)
theorem FuncOk.below {w w' : World} {B B' : Nat} {f : FuncD} (h : FuncOk w B f) (hb : Below B' w w') (hB : B ≤ B') : FuncOk w' B f := ⟨h.params.below hb hB, h.code.below hb hB⟩
theorem FuncOk.more {w : World} {B B' : Nat} {f : FuncD} (h : FuncOk w B f) (hB : B ≤ B') : FuncOk w B' f := ⟨h.params.more hB, h.code.more hB⟩
theorem ModOk.below {w w' : World} {B B' : Nat} {m : ModD} (h : ModOk w B m) (hb : Below B' w w') (hB : B ≤ B') : ModOk w' B m := ⟨h.ths.below hb hB, h.funcs.below hb hB, fun k hk => (h.each k hk).below hb hB⟩
theorem ModOk.more {w : World} {B B' : Nat} {m : ModD} (h : ModOk w B m) (hB : B ≤ B') : ModOk w B' m := ⟨h.ths.more hB, h.funcs.more hB, fun k hk => (h.each k hk).more hB⟩
/-- Whatever is said of a world and is kept by a call that turns nothing below its heap. -/
theorem ModOk.step {w w' : World} {m : ModD} (h : ModOk w w.heap.size m) (hb : Below w.heap.size w w') : ModOk w' w'.heap.size m := (h.below hb (Nat.le_refl _)).more hb.size
/-! ### Numbers that fit -/
def InsD.Wf (x : InsD) : Prop := In64 x.op ∧ In64 x.a ∧ In64 x.b ∧ In64 x.c ∧ In64 x.n
structure FuncD.Wf (f : FuncD) : Prop where
  name : f.name.size ≤ maxLen
  params : ∀ s, s ∈ f.params → s.Wf
  plen : f.params.length * 16 ≤ 140737488351232
  regs : In64 f.regs
  words : In64 f.words
  code : ∀ x, x ∈ f.code → x.Wf
  clen : f.code.length * 40 ≤ 140737488351232
structure ModD.Wf (m : ModD) : Prop where
  ths : ∀ t, t ∈ m.ths → In64 t
  tlen : m.ths.length * 8 ≤ 140737488351232
  funcs : ∀ f, f ∈ m.funcs → f.Wf
  flen : m.funcs.length * 80 ≤ 140737488351232
end Go.Proofs.YtjacfeohpofhpaaDoor
