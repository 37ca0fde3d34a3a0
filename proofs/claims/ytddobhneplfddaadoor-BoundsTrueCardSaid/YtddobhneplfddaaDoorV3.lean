/-
  Layer 16 (bounds): Mod9, WholeP.
-/
import Derived.Test.YtddobhneplfddaaDoorV1
import Derived.BigQuiet
namespace Go.Proofs.YtddobhneplfddaaDoor
set_option maxRecDepth 100000
open Go.RowKit

/-- A row of the table: word, weight, has A, has B, has C, the kind of N, writes. -/
structure Row where
  word : List UInt8
  weight : Int
  a : Bool
  b : Bool
  c : Bool
  n : Int
  wr : Bool

/-- The table, as package code lays it. -/
def tab : List Row := [
  ⟨[114, 101, 116], 1, true, false, false, 0, false⟩,
  ⟨[115, 101, 116], 1, true, false, false, 1, true⟩,
  ⟨[109, 111, 118, 101], 1, true, true, false, 0, true⟩,
  ⟨[97, 100, 100], 1, true, true, true, 0, true⟩,
  ⟨[115, 117, 98], 1, true, true, true, 0, true⟩,
  ⟨[109, 117, 108], 3, true, true, true, 0, true⟩,
  ⟨[100, 105, 118], 8, true, true, true, 0, true⟩,
  ⟨[114, 101, 109], 8, true, true, true, 0, true⟩,
  ⟨[108, 101, 115, 115], 1, true, true, true, 0, true⟩,
  ⟨[101, 113, 117, 97, 108], 1, true, true, true, 0, true⟩,
  ⟨[110, 111, 116], 1, true, true, false, 0, true⟩,
  ⟨[108, 111, 97, 100], 2, true, true, false, 1, true⟩,
  ⟨[115, 116, 111, 114, 101], 2, true, true, false, 1, false⟩,
  ⟨[99, 104, 101, 99, 107], 1, true, false, false, 3, false⟩,
  ⟨[106, 117, 109, 112], 1, false, false, false, 2, false⟩,
  ⟨[105, 102], 1, true, false, false, 2, false⟩,
  ⟨[117, 110, 108, 101, 115, 115], 1, true, false, false, 2, false⟩,
  ⟨[99, 111, 117, 110, 116], 1, true, true, false, 2, false⟩,
  ⟨[115, 116, 101, 112], 1, true, false, false, 2, true⟩,
  ⟨[99, 97, 108, 108], 4, true, true, false, 4, true⟩]

def row (k : Nat) : Row := tab.getD k ⟨[], 0, false, false, false, 0, false⟩
def strOf (l : List UInt8) : ByteArray := ⟨l.toArray⟩

/-- The table lies in its block, and that block lies there. -/
structure TabOk (w : World) : Prop where
  size : 0 < w.heap.size
  word : ∀ k, k < 20 → w.cell? ⟨0, k * 7, none⟩ = some (.string (strOf (row k).word))
  weight : ∀ k, k < 20 → w.cell? ⟨0, k * 7 + 1, none⟩ = some (.int .i64 (row k).weight)
  a : ∀ k, k < 20 → w.cell? ⟨0, k * 7 + 2, none⟩ = some (.bool (row k).a)
  b : ∀ k, k < 20 → w.cell? ⟨0, k * 7 + 3, none⟩ = some (.bool (row k).b)
  c : ∀ k, k < 20 → w.cell? ⟨0, k * 7 + 4, none⟩ = some (.bool (row k).c)
  n : ∀ k, k < 20 → w.cell? ⟨0, k * 7 + 5, none⟩ = some (.int .i64 (row k).n)
  wr : ∀ k, k < 20 → w.cell? ⟨0, k * 7 + 6, none⟩ = some (.bool (row k).wr)

theorem TabOk.keep {w w' : World} (h : TabOk w) (hs : w.heap.size ≤ w'.heap.size) (hc : ∀ o, w'.cell? ⟨0, o, none⟩ = w.cell? ⟨0, o, none⟩) : TabOk w' :=
  ⟨Nat.lt_of_lt_of_le h.size hs, fun k hk => (hc _).trans (h.word k hk), fun k hk => (hc _).trans (h.weight k hk), fun k hk => (hc _).trans (h.a k hk), fun k hk => (hc _).trans (h.b k hk), fun k hk => (hc _).trans (h.c k hk), fun k hk => (hc _).trans (h.n k hk), fun k hk => (hc _).trans (h.wr k hk)⟩
theorem TabOk.below {w w' : World} {B : Nat} (h : TabOk w) (hb : Below B w w') (hB : 0 < B) : TabOk w' := h.keep hb.size fun _ => hb.cell hB
theorem TabOk.alloc {w : World} (h : TabOk w) (o : Obj) : TabOk (w.alloc o) := h.below (B := w.heap.size) ((Below.refl _ _).alloc (Nat.le_refl _) _) h.size
theorem TabOk.drew {w : World} (h : TabOk w) : TabOk w.drew := h.keep (Nat.le_refl _) fun _ => rfl

def known (op : Int) : Bool := decide (0 ≤ op) && decide (op < 20)
def weight (op : Int) : Int := if known op = true then (row op.toNat).weight else 0
def word (op : Int) : List UInt8 := if known op = true then (row op.toNat).word else []
def writes (op a : Int) : Int := if known op && (row op.toNat).wr then a else -1
end Go.Proofs.YtddobhneplfddaaDoor

/-
  Modules as plain data, and what it means that memory holds them. No program in sight but its types.
-/
namespace Go.Proofs.YtddobhneplfddaaDoor
open Go.RowKit
set_option linter.unusedSimpArgs false
set_option linter.unusedVariables false

/-- An instruction. -/
structure InsD where
  op : Int
  a : Int
  b : Int
  c : Int
  n : Int
deriving DecidableEq
/-- A function of a module, and where its slices lie. -/
structure FuncD where
  name : ByteArray
  pa : Option Addr
  pc : Nat
  params : List Sp
  regs : Int
  words : Int
  ca : Option Addr
  cc : Nat
  code : List InsD
/-- A module, and where its slices lie. -/
structure ModD where
  ta : Option Addr
  tc : Nat
  ths : List Int
  fa : Option Addr
  fc : Nat
  funcs : List FuncD
def insV (x : InsD) : Nat → Value
  | 0 => .int .i64 x.op
  | 1 => .int .i64 x.a
  | 2 => .int .i64 x.b
  | 3 => .int .i64 x.c
  | _ => .int .i64 x.n
def spV (s : Sp) : Nat → Value
  | 0 => .int .i64 s.lo
  | _ => .int .i64 s.hi
def funcV (f : FuncD) : Nat → Value
  | 0 => .string f.name
  | 1 => .slice f.pa f.params.length f.pc
  | 2 => .int .i64 f.regs
  | 3 => .int .i64 f.words
  | _ => .slice f.ca f.code.length f.cc
abbrev InsD.val (x : InsD) : Value := .agg #[.int .i64 x.op, .int .i64 x.a, .int .i64 x.b, .int .i64 x.c, .int .i64 x.n]
abbrev FuncD.val (f : FuncD) : Value := .agg #[.string f.name, .slice f.pa f.params.length f.pc, .int .i64 f.regs, .int .i64 f.words, .slice f.ca f.code.length f.cc]
abbrev ModD.val (m : ModD) : Value := .agg #[.slice m.ta m.ths.length m.tc, .slice m.fa m.funcs.length m.fc]
def nthS (l : List Sp) (k : Nat) : Sp := l.getD k ⟨1, 0⟩
def nthX (l : List InsD) (k : Nat) : InsD := l.getD k ⟨0, 0, 0, 0, 0⟩
def nthF (l : List FuncD) (k : Nat) : FuncD := l.getD k ⟨.empty, none, 0, [], 0, 0, none, 0, []⟩
/-- So many elements of so many cells each lie there: all below B. -/
def RowsAt (w : World) (B : Nat) (A : Option Addr) (n sz : Nat) (val : Nat → Nat → Value) : Prop :=
  0 < n → ∃ b off, A = some ⟨b, off, none⟩ ∧ b < B ∧ ∀ k, k < n → ∀ j, j < sz → w.cell? ⟨b, off + k * sz + j, none⟩ = some (val k j)
theorem RowsAt.below {w w' : World} {B B' : Nat} {A : Option Addr} {n sz : Nat} {val : Nat → Nat → Value} (h : RowsAt w B A n sz val) (hb : Below B' w w') (hB : B ≤ B') : RowsAt w' B A n sz val := fun h0 => by
  obtain ⟨b, off, e, hlt, hc⟩ := h h0
  exact ⟨b, off, e, hlt, fun k hk j hj => (hb.cell (p := ⟨b, off + k * sz + j, none⟩) (Nat.lt_of_lt_of_le hlt hB)).trans (hc k hk j hj)⟩
theorem RowsAt.more {w : World} {B B' : Nat} {A : Option Addr} {n sz : Nat} {val : Nat → Nat → Value} (h : RowsAt w B A n sz val) (hB : B ≤ B') : RowsAt w B' A n sz val := fun h0 => by
  obtain ⟨b, off, e, hlt, hc⟩ := h h0
  exact ⟨b, off, e, Nat.lt_of_lt_of_le hlt hB, hc⟩
abbrev SpansAt (w : World) (B : Nat) (A : Option Addr) (l : List Sp) : Prop := RowsAt w B A l.length 2 fun k => spV (nthS l k)
abbrev InsAt (w : World) (B : Nat) (A : Option Addr) (l : List InsD) : Prop := RowsAt w B A l.length 5 fun k => insV (nthX l k)
abbrev FuncsAt (w : World) (B : Nat) (A : Option Addr) (l : List FuncD) : Prop := RowsAt w B A l.length 5 fun k => funcV (nthF l k)
structure FuncOk (w : World) (B : Nat) (f : FuncD) : Prop where
  params : SpansAt w B f.pa f.params
  code : InsAt w B f.ca f.code
structure ModOk (w : World) (B : Nat) (m : ModD) : Prop where
  ths : IntsAt w B m.ta m.ths
  funcs : FuncsAt w B m.fa m.funcs
  each : ∀ k, k < m.funcs.length → FuncOk w B (nthF m.funcs k)
theorem FuncOk.below {w w' : World} {B B' : Nat} {f : FuncD} (h : FuncOk w B f) (hb : Below B' w w') (hB : B ≤ B') : FuncOk w' B f := ⟨h.params.below hb hB, h.code.below hb hB⟩
theorem FuncOk.more {w : World} {B B' : Nat} {f : FuncD} (h : FuncOk w B f) (hB : B ≤ B') : FuncOk w B' f := ⟨h.params.more hB, h.code.more hB⟩
theorem ModOk.below {w w' : World} {B B' : Nat} {m : ModD} (h : ModOk w B m) (hb : Below B' w w') (hB : B ≤ B') : ModOk w' B m := ⟨h.ths.below hb hB, h.funcs.below hb hB, fun k hk => (h.each k hk).below hb hB⟩
theorem ModOk.more {w : World} {B B' : Nat} {m : ModD} (h : ModOk w B m) (hB : B ≤ B') : ModOk w B' m := ⟨h.ths.more hB, h.funcs.more hB, fun k hk => (h.each k hk).more hB⟩
/-- Whatever is said of a world and is kept by a call that turns nothing below its heap. -/
theorem ModOk.step {w w' : World} {m : ModD} (h : ModOk w w.heap.size m) (hb : Below w.heap.size w w') : ModOk w' w'.heap.size m := (h.below hb (Nat.le_refl _)).more hb.size
/-! ### Numbers that fit -/
def InsD.Wf (x : InsD) : Prop := In64 x.op ∧ In64 x.a ∧ In64 x.b ∧ In64 x.c ∧ In64 x.n
structure FuncD.Wf (f : FuncD) : Prop where
  name : f.name.size ≤ maxLen
  params : ∀ s, s ∈ f.params → s.Wf
  plen : f.params.length * 16 ≤ 140737488351232
  regs : In64 f.regs
  words : In64 f.words
  code : ∀ x, x ∈ f.code → x.Wf
  clen : f.code.length * 40 ≤ 140737488351232
structure ModD.Wf (m : ModD) : Prop where
  ths : ∀ t, t ∈ m.ths → In64 t
  tlen : m.ths.length * 8 ≤ 140737488351232
  funcs : ∀ f, f ∈ m.funcs → f.Wf
  flen : m.funcs.length * 80 ≤ 140737488351232
end Go.Proofs.YtddobhneplfddaaDoor

/-
  Layer 9 (code): slices.Equal at the three types that Same uses.
-/
namespace Go.Proofs.YtddobhneplfddaaDoor
open Go.RowKit
set_option linter.unusedSimpArgs false
set_option linter.unusedVariables false

/-- Do the first k meet p? -/
def allTo (p : Nat → Bool) : Nat → Bool
  | 0 => true
  | k + 1 => allTo p k && p k
theorem allTo_yes {p : Nat → Bool} {k : Nat} (h : allTo p k = true) (h2 : p k = true) : allTo p (k + 1) = true := by simp [allTo, h, h2]
end Go.Proofs.YtddobhneplfddaaDoor

/-
  Layer 9 (code): Find, of the program and of the reference: the number of the first function of a name.
-/
namespace Go.Proofs.YtddobhneplfddaaDoor
open Go.RowKit
set_option linter.unusedSimpArgs false
set_option linter.unusedVariables false

/-- Are two names the same? -/
abbrev eqN (s t : ByteArray) : Bool := s.toList == t.toList
/-- The first of the next n functions from number k on that has the name; -1, if none has. -/
def findFrom (fs : List FuncD) (s : ByteArray) : Nat → Nat → Int
  | _, 0 => -1
  | k, n + 1 => if eqN (nthF fs k).name s = true then (k : Int) else findFrom fs s (k + 1) n
def findD (fs : List FuncD) (s : ByteArray) : Int := findFrom fs s 0 fs.length
theorem findFrom_yes {fs : List FuncD} {s : ByteArray} {k : Nat} (hk : k < fs.length) (h : eqN (nthF fs k).name s = true) : findFrom fs s k (fs.length - k) = k := by
  obtain ⟨n, hn⟩ : ∃ n, fs.length - k = n + 1 := ⟨fs.length - k - 1, by omega⟩
  rw [hn, findFrom, if_pos h]
theorem findFrom_no {fs : List FuncD} {s : ByteArray} {k : Nat} (hk : k < fs.length) (h : eqN (nthF fs k).name s = false) : findFrom fs s k (fs.length - k) = findFrom fs s (k + 1) (fs.length - (k + 1)) := by
  obtain ⟨n, hn⟩ : ∃ n, fs.length - k = n + 1 := ⟨fs.length - k - 1, by omega⟩
  rw [hn, findFrom, if_neg (by rw [h]; decide), show fs.length - (k + 1) = n by omega]

set_option maxHeartbeats 4000000 in
theorem find1P (f : FuncD) (s : ByteArray) (g : Nat) (w : World) (hg : w.cell? ⟨g, 0, none⟩ = some (.string s)) (hlt : g < w.heap.size) :
    Calls Tryd.prog 94 #[f.val, .pointer (some ⟨g, 0, none⟩)] w fun e w' => e = .returned (.bool (eqN f.name s)) ∧ Below w.heap.size w w' := by
  go_enter Tryd.func94, Tryd.ntmps94
  go_wp2
  go_ret
  exact ⟨rfl, (Below.refl _ _).alloc (Nat.le_refl _) _⟩

/-- The cells of a function of a row of functions. -/
theorem funcs_cells {w : World} {B : Nat} {A : Option Addr} {fs : List FuncD} (h : FuncsAt w B A fs) {k : Nat} (hk : k < fs.length) :
    ∃ b off, A = some ⟨b, off, none⟩ ∧ b < B ∧ w.cell? ⟨b, off + k * 5, none⟩ = some (.string (nthF fs k).name) ∧ w.cell? ⟨b, off + k * 5 + 1, none⟩ = some (.slice (nthF fs k).pa (nthF fs k).params.length (nthF fs k).pc) ∧
      w.cell? ⟨b, off + k * 5 + 2, none⟩ = some (.int .i64 (nthF fs k).regs) ∧ w.cell? ⟨b, off + k * 5 + 3, none⟩ = some (.int .i64 (nthF fs k).words) ∧ w.cell? ⟨b, off + k * 5 + 4, none⟩ = some (.slice (nthF fs k).ca (nthF fs k).code.length (nthF fs k).cc) := by
  obtain ⟨b, off, e, hb, hc⟩ := h (by omega)
  exact ⟨b, off, e, hb, hc k hk 0 (by omega), hc k hk 1 (by omega), hc k hk 2 (by omega), hc k hk 3 (by omega), hc k hk 4 (by omega)⟩

set_option maxHeartbeats 4000000 in
theorem indexFuncP (A : Option Addr) (c : Nat) (fs : List FuncD) (s : ByteArray) (g : Nat) (w : World) (hm : fs.length ≤ 9223372036854775806) (hf : FuncsAt w w.heap.size A fs) (hg : w.cell? ⟨g, 0, none⟩ = some (.string s)) (hlt : g < w.heap.size) :
    Calls Tryd.prog 93 #[.slice A fs.length c, .func (.func 94) #[] #[.pointer (some ⟨g, 0, none⟩)]] w fun e w' => e = .returned (.int .i64 (findD fs s)) ∧ Below w.heap.size w w' := by
  have HF := Lib.hid hf; clear hf
  go_enter Tryd.func93, Tryd.ntmps93
  go_wp2
  go_loopw [8] (fun i wr => ∃ k : Nat, k ≤ fs.length ∧ i = .int .i64 k ∧ Below w.heap.size w wr ∧ findD fs s = findFrom fs s k (fs.length - k)) (fun i _ => fs.length - (intOf i).toNat)
  case atStart => exact ⟨0, Nat.zero_le _, rfl, Below.refl _ _, rfl⟩
  case round =>
    obtain ⟨k, hk, rfl, hB, hfd⟩ := hrel
    have hD := Lib.hid hfd; clear hfd
    by_cases hlt2 : k < fs.length
    · obtain ⟨b, off, rfl, hb, e0, e1, e2, e3, e4⟩ := funcs_cells (HF.out.below hB (Nat.le_refl _)) hlt2
      have hg2 : wr.cell? ⟨g, 0, none⟩ = some (.string s) := (hB.cell (p := ⟨g, 0, none⟩) hlt).trans hg
      have hs := hB.size
      cases hn : eqN (nthF fs k).name s
      all_goals go_wp2_with (go_at_call 94; refine (find1P (nthF fs k) s g _ hg2 (by omega)).mono ?_; rintro e w1 ⟨rfl, hb1⟩)
      · go_roundw
        case rel => exact ⟨k + 1, by omega, by go_num, below_step hB hb1, by rw [hD.out, findFrom_no hlt2 hn]⟩
        case measure => simp [intOf]; omega
      · go_ret
        exact ⟨by rw [hD.out, findFrom_yes hlt2 hn]; rfl, below_step hB hb1⟩
    · obtain rfl : k = fs.length := by omega
      go_wp2
      go_ret
      exact ⟨by rw [hD.out]; simp [findFrom], hB⟩

set_option maxHeartbeats 4000000 in
theorem findP (m : ModD) (s : ByteArray) (w : World) (hm : m.funcs.length ≤ 9223372036854775806) (hf : ModOk w w.heap.size m) :
    Calls Tryd.prog 81 #[m.val, .string s] w fun e w' => e = .returned (.int .i64 (findD m.funcs s)) ∧ Below w.heap.size w w' := by
  go_enter Tryd.func81, Tryd.ntmps81
  go_wp2_with (go_at_call 93; refine (indexFuncP _ _ m.funcs s (w.heap.size + 1) _ hm ?_ ?_ ?_).mono ?_; (· exact ((hf.funcs.below (below_alloc (below_alloc (Below.refl _ _) _) _) (Nat.le_refl _)).more (by simp; omega))); (· go_simp); (· simp); rintro e w1 ⟨rfl, hb1⟩)
  go_ret
  exact ⟨rfl, below_step (below_alloc (below_alloc (Below.refl _ _) _) _) hb1⟩
end Go.Proofs.YtddobhneplfddaaDoor

namespace Go.Proofs.YtddobhneplfddaaDoor
open Go.RowKit
set_option linter.unusedSimpArgs false
set_option linter.unusedVariables false

def byteAt (s : ByteArray) (k : Nat) : Nat := (s.data.toList.getD k 0).toNat
/-- May byte c stand at place k of a name? -/
def nameByte (k c : Nat) : Bool := (decide (97 ≤ c) && decide (c ≤ 122)) || (!decide (k = 0) && (decide (48 ≤ c) && decide (c ≤ 57)))
def nameTo (s : ByteArray) : Nat → Bool
  | 0 => true
  | k + 1 => nameTo s k && nameByte k (byteAt s k)
def isNameB (s : ByteArray) : Bool := nameTo s s.size && decide (0 < s.size) && decide (s.size ≤ 16)
theorem nameTo_mono {s : ByteArray} {k n : Nat} (h : nameTo s k = false) (hk : k ≤ n) : nameTo s n = false := by
  induction n with
  | zero => obtain rfl : k = 0 := by omega
            exact h
  | succ n ih =>
    rcases Nat.lt_or_ge n k with h1 | h1
    · obtain rfl : k = n + 1 := by omega
      exact h
    · simp [nameTo, ih h1]
theorem isNameB_no {s : ByteArray} {k : Nat} (h : nameTo s k = true) (hk : k < s.size) (hb : nameByte k (byteAt s k) = false) : isNameB s = false := by
  have : nameTo s (k + 1) = false := by simp [nameTo, hb]
  simp [isNameB, nameTo_mono this hk]

set_option maxHeartbeats 4000000 in
theorem isNameP (s : ByteArray) (w : World) (hs : s.size ≤ maxLen) : Calls Tryd.prog 80 #[.string s] w fun e w' => e = .returned (.bool (isNameB s)) ∧ w = w' := by
  unfold maxLen at hs
  go_enter Tryd.func80, Tryd.ntmps80
  go_wp2
  go_loop [7] (fun i => ∃ k : Nat, k ≤ s.size ∧ i = .int .i64 k ∧ nameTo s k = true) (fun i => s.size - (intOf i).toNat)
  case atStart => exact ⟨0, Nat.zero_le _, rfl, rfl⟩
  case round =>
    obtain ⟨k, hk, rfl, hn⟩ := hrel
    have HN := Lib.hid hn; clear hn
    by_cases hlt : k < s.size
    · have hbyte : byteAt s k = s[k].toNat := by simp [byteAt, hlt]; rfl
      have HB := Lib.hid hbyte; clear hbyte
      have hok : nameByte k (byteAt s k) = true → nameTo s (k + 1) = true := fun h => by simp [nameTo, HN.out, h]
      have hno : nameByte k (byteAt s k) = false → isNameB s = false := isNameB_no HN.out hlt
      have HO := Lib.hid hok; clear hok
      have HX := Lib.hid hno; clear hno
      have hcase : (97 ≤ s[k].toNat ∧ s[k].toNat ≤ 122) ∨ (s[k].toNat < 97 ∧ k = 0) ∨ (122 < s[k].toNat ∧ k = 0) ∨ (0 < k ∧ 48 ≤ s[k].toNat ∧ s[k].toNat ≤ 57) ∨ (0 < k ∧ s[k].toNat < 48) ∨ (0 < k ∧ 57 < s[k].toNat ∧ s[k].toNat < 97) ∨ (0 < k ∧ 122 < s[k].toNat) := by omega
      rcases hcase with ⟨h1, h2⟩ | ⟨h1, h2⟩ | ⟨h1, h2⟩ | ⟨h1, h2, h3⟩ | ⟨h1, h2⟩ | ⟨h1, h2, h3⟩ | ⟨h1, h2⟩
      · have e1 : decide ((97 : Int) ≤ (s[k].toNat : Int)) = true := by simp; omega
        have e2 : decide ((s[k].toNat : Int) ≤ 122) = true := by simp; omega
        go_wp2
        go_round
        case rel => exact ⟨k + 1, by omega, by go_num, HO.out (by rw [HB.out]; simp [nameByte]; omega)⟩
        case measure => simp [intOf]; omega
      · subst h2
        have e1 : decide ((97 : Int) ≤ (s[0].toNat : Int)) = false := by simp; omega
        go_wp2
        go_ret
        exact ⟨by rw [HX.out (by rw [HB.out]; simp [nameByte]; omega)]; rfl, rfl⟩
      · subst h2
        have e1 : decide ((97 : Int) ≤ (s[0].toNat : Int)) = true := by simp; omega
        have e2 : decide ((s[0].toNat : Int) ≤ 122) = false := by simp; omega
        go_wp2
        go_ret
        exact ⟨by rw [HX.out (by rw [HB.out]; simp [nameByte]; omega)]; rfl, rfl⟩
      · have e1 : decide ((97 : Int) ≤ (s[k].toNat : Int)) = false := by simp; omega
        have e3 : (((k : Nat) : Int) == 0) = false := by simp; omega
        have e4 : decide ((s[k].toNat : Int) < 48) = false := by simp; omega
        have e5 : decide ((57 : Int) < (s[k].toNat : Int)) = false := by simp; omega
        go_wp2
        go_round
        case rel => exact ⟨k + 1, by omega, by go_num, HO.out (by rw [HB.out]; simp [nameByte]; omega)⟩
        case measure => simp [intOf]; omega
      · have e1 : decide ((97 : Int) ≤ (s[k].toNat : Int)) = false := by simp; omega
        have e3 : (((k : Nat) : Int) == 0) = false := by simp; omega
        have e4 : decide ((s[k].toNat : Int) < 48) = true := by simp; omega
        go_wp2
        go_ret
        exact ⟨by rw [HX.out (by rw [HB.out]; simp [nameByte]; omega)]; rfl, rfl⟩
      · have e1 : decide ((97 : Int) ≤ (s[k].toNat : Int)) = false := by simp; omega
        have e3 : (((k : Nat) : Int) == 0) = false := by simp; omega
        have e4 : decide ((s[k].toNat : Int) < 48) = false := by simp; omega
        have e5 : decide ((57 : Int) < (s[k].toNat : Int)) = true := by simp; omega
        go_wp2
        go_ret
        exact ⟨by rw [HX.out (by rw [HB.out]; simp [nameByte]; omega)]; rfl, rfl⟩
      · have e1 : decide ((97 : Int) ≤ (s[k].toNat : Int)) = true := by simp; omega
        have e2 : decide ((s[k].toNat : Int) ≤ 122) = false := by simp; omega
        have e3 : (((k : Nat) : Int) == 0) = false := by simp; omega
        have e4 : decide ((s[k].toNat : Int) < 48) = false := by simp; omega
        have e5 : decide ((57 : Int) < (s[k].toNat : Int)) = true := by simp; omega
        go_wp2
        go_ret
        exact ⟨by rw [HX.out (by rw [HB.out]; simp [nameByte]; omega)]; rfl, rfl⟩
    · have hkk : k = s.size := by omega
      subst hkk
      have hfin : isNameB s = (decide (0 < s.size) && decide (s.size ≤ 16)) := by simp [isNameB, HN.out]
      have HF := Lib.hid hfin; clear hfin
      have hz : s.toList = [] ↔ s.size = 0 := by rw [ByteArray.toList_eq, ← List.length_eq_zero_iff, Array.length_toList]; rfl
      by_cases h0 : s.size = 0
      · have e1 : s.toList = [] := hz.2 h0
        have e2 : (!s.toList.isEmpty) = false := by simp [e1]
        clear hz
        have H0 := Lib.hid h0; clear h0
        go_wp2
        go_ret
        exact ⟨by rw [HF.out, H0.out]; rfl, rfl⟩
      · have e1 : ¬ s.toList = [] := fun h => h0 (hz.1 h)
        have e2 : (!s.toList.isEmpty) = true := by simp [e1]
        clear hz
        go_wp2
        go_ret
        have h1 : 0 < s.size := by omega
        have e3 : decide ((s.size : Int) ≤ 16) = decide (s.size ≤ 16) := by rw [Bool.eq_iff_iff]; simp; omega
        refine ⟨?_, rfl⟩
        rw [HF.out]
        show Ending.returned (.bool (decide ((s.size : Int) ≤ 16))) = _
        rw [e3]; simp [h1]
end Go.Proofs.YtddobhneplfddaaDoor

/-
  Layer 9 (code): what May says, as plain functions.
-/
namespace Go.Proofs.YtddobhneplfddaaDoor
open Go.RowKit
set_option linter.unusedSimpArgs false
set_option linter.unusedVariables false

/-- What is wrong with a field: it is not there and is not 0; it is there and is no register. -/
def fldErr (has : Bool) (r regs : Int) : Int := if has = true then (if r < 0 ∨ regs ≤ r then 61 else 0) else (if r = 0 then 0 else 62)
def hasK (p : Row) : Nat → Bool
  | 0 => p.a
  | 1 => p.b
  | _ => p.c
def regK (x : InsD) : Nat → Int
  | 0 => x.a
  | 1 => x.b
  | _ => x.c
/-- The first of the first k fields that is wrong. -/
def fldsErr (p : Row) (x : InsD) (regs : Int) : Nat → Int
  | 0 => 0
  | k + 1 => if fldsErr p x regs k = 0 then fldErr (hasK p k) (regK x k) regs else fldsErr p x regs k
def nErr (p : Row) (m : ModD) (f : FuncD) (x : InsD) : Int :=
  if p.n = 0 then (if x.n = 0 then 0 else 62) else if p.n = 2 then (if x.n < 0 ∨ f.code.length ≤ x.n then 63 else 0) else if p.n = 3 then (if x.n < 1 ∨ 4096 < x.n then 2 else 0) else
  if p.n = 4 then (if x.n < 0 ∨ m.funcs.length ≤ x.n ∨ f.regs < wrap64 (x.b + (nthF m.funcs x.n.toNat).params.length) then 65 else 0) else 0
def insErr (m : ModD) (f : FuncD) (x : InsD) : Int :=
  if known x.op = true then (if fldsErr (row x.op.toNat) x f.regs 3 = 0 then nErr (row x.op.toNat) m f x else fldsErr (row x.op.toNat) x f.regs 3) else 60
theorem fldErr_cases (has : Bool) (r regs : Int) : (has = false ∧ r = 0 ∧ fldErr has r regs = 0) ∨ (has = false ∧ r ≠ 0 ∧ fldErr has r regs = 62) ∨ (has = true ∧ r < 0 ∧ fldErr has r regs = 61) ∨
    (has = true ∧ 0 ≤ r ∧ regs ≤ r ∧ fldErr has r regs = 61) ∨ (has = true ∧ 0 ≤ r ∧ r < regs ∧ fldErr has r regs = 0) := by
  cases has
  · by_cases h : r = 0 <;> simp [fldErr, h]
  · by_cases h : r < 0
    · simp [fldErr, h]
    · by_cases h2 : regs ≤ r
      · simp [fldErr, h2]; omega
      · simp [fldErr, h, h2]; omega
theorem fldsErr_stop {p : Row} {x : InsD} {regs : Int} {k n : Nat} (hk : k ≤ n) (h : fldsErr p x regs k ≠ 0) : fldsErr p x regs n = fldsErr p x regs k := by
  induction n with
  | zero => obtain rfl : k = 0 := by omega
            rfl
  | succ n ih =>
    rcases Nat.lt_or_ge n k with h1 | h1
    · obtain rfl : k = n + 1 := by omega
      rfl
    · rw [fldsErr, if_neg (by rw [ih h1]; exact h), ih h1]
theorem fldsErr_next {p : Row} {x : InsD} {regs : Int} {k : Nat} (h : fldsErr p x regs k = 0) : fldsErr p x regs (k + 1) = fldErr (hasK p k) (regK x k) regs := by rw [fldsErr, if_pos h]
theorem insErr_fld {m : ModD} {f : FuncD} {x : InsD} {k : Nat} {e : Int} (hn : known x.op = true) (hk : k < 3) (h : fldsErr (row x.op.toNat) x f.regs k = 0) (he : fldErr (hasK (row x.op.toNat) k) (regK x k) f.regs = e) (h0 : e ≠ 0) : insErr m f x = e := by
  have h1 : fldsErr (row x.op.toNat) x f.regs (k + 1) = e := by rw [fldsErr_next h, he]
  have h2 : fldsErr (row x.op.toNat) x f.regs 3 = e := by rw [fldsErr_stop (k := k + 1) (by omega) (by rw [h1]; exact h0), h1]
  rw [insErr, if_pos hn, if_neg (by rw [h2]; exact h0), h2]
theorem insErr_n {m : ModD} {f : FuncD} {x : InsD} (hn : known x.op = true) (h : fldsErr (row x.op.toNat) x f.regs 3 = 0) : insErr m f x = nErr (row x.op.toNat) m f x := by
  rw [insErr, if_pos hn, if_pos h]
end Go.Proofs.YtddobhneplfddaaDoor

/-
  Layer 9 (code): what is wrong with a function as a whole, as plain functions.
-/
namespace Go.Proofs.YtddobhneplfddaaDoor
open Go.RowKit
set_option linter.unusedSimpArgs false
set_option linter.unusedVariables false

/-- The first of the next n from number k on that does not meet p; -1, if all do. -/
def badFrom (p : Nat → Bool) : Nat → Nat → Int
  | _, 0 => -1
  | k, n + 1 => if p k = false then (k : Int) else badFrom p (k + 1) n
theorem badFrom_yes {p : Nat → Bool} {k n : Nat} (hk : k < n) (h : p k = false) : badFrom p k (n - k) = k := by
  obtain ⟨j, hj⟩ : ∃ j, n - k = j + 1 := ⟨n - k - 1, by omega⟩
  rw [hj, badFrom, if_pos h]
theorem badFrom_no {p : Nat → Bool} {k n : Nat} (hk : k < n) (h : p k = true) : badFrom p k (n - k) = badFrom p (k + 1) (n - (k + 1)) := by
  obtain ⟨j, hj⟩ : ∃ j, n - k = j + 1 := ⟨n - k - 1, by omega⟩
  rw [hj, badFrom, if_neg (by rw [h]; decide), show n - (k + 1) = j by omega]
def okSp (ps : List Sp) (k : Nat) : Bool := decide ((nthS ps k).lo ≤ (nthS ps k).hi)
def emptyD (ps : List Sp) : Int := badFrom (okSp ps) 0 ps.length
def restErr (f : FuncD) : Int :=
  if f.regs < 1 ∨ 64 < f.regs ∨ f.regs < f.params.length then 95 else if f.words < 0 ∨ 4096 < f.words then 96 else if f.code.length = 0 ∨ 1024 < f.code.length then 97 else 0
def wholeE (m : ModD) (k : Nat) : Int :=
  if isNameB (nthF m.funcs k).name = false then 8 else if findD m.funcs (nthF m.funcs k).name < k then 9 else if 8 < (nthF m.funcs k).params.length then 3 else
  if emptyD (nthF m.funcs k).params ≠ -1 then 40 else restErr (nthF m.funcs k)
def wholeA (m : ModD) (k : Nat) : Int :=
  if isNameB (nthF m.funcs k).name = false then 0 else if findD m.funcs (nthF m.funcs k).name < k then 0 else if 8 < (nthF m.funcs k).params.length then 8 else
  if emptyD (nthF m.funcs k).params ≠ -1 then emptyD (nthF m.funcs k).params else 0
/-- Has none of the first k functions the name? -/
def freshN (fs : List FuncD) (s : ByteArray) (k : Nat) : Bool := !eqN (nthF fs k).name s
theorem find_of_fresh {fs : List FuncD} {s : ByteArray} : ∀ k, k ≤ fs.length → allTo (freshN fs s) k = true → findD fs s = findFrom fs s k (fs.length - k)
  | 0, _, _ => rfl
  | k + 1, hk, h => by
    simp only [allTo, Bool.and_eq_true] at h
    have h2 : eqN (nthF fs k).name s = false := by simpa [freshN] using h.2
    rw [find_of_fresh k (by omega) h.1, findFrom_no (by omega) h2]
theorem findD_self {fs : List FuncD} {k : Nat} (hk : k < fs.length) (h : allTo (freshN fs (nthF fs k).name) k = true) : findD fs (nthF fs k).name = k := by
  rw [find_of_fresh k (by omega) h, findFrom_yes hk (by simp [eqN])]
theorem findD_hit {fs : List FuncD} {s : ByteArray} {k : Nat} (hk : k < fs.length) (h : allTo (freshN fs s) k = true) (h2 : eqN (nthF fs k).name s = true) : findD fs s = k := by
  rw [find_of_fresh k (by omega) h, findFrom_yes hk h2]
end Go.Proofs.YtddobhneplfddaaDoor

/-
  Layer 9 (code): what May says, as plain functions.
-/
namespace Go.Proofs.YtddobhneplfddaaDoor
open Go.RowKit
set_option linter.unusedSimpArgs false
set_option linter.unusedVariables false

/-- A fault: its number, the function, the place. -/
structure FaultD where
  e : Int
  f : Int
  a : Int
def okRise (ts : List Int) (i : Nat) : Bool := decide (nthI ts (i - 1) < nthI ts i)
def okIns (m : ModD) (k i : Nat) : Bool := insErr m (nthF m.funcs k) (nthX (nthF m.funcs k).code i) == 0
def firstIns (m : ModD) (k : Nat) : Int := badFrom (okIns m k) 0 (nthF m.funcs k).code.length
def lastOp (m : ModD) (k : Nat) : Int := (nthX (nthF m.funcs k).code ((nthF m.funcs k).code.length - 1)).op
def endsOk (op : Int) : Bool := op == 0 || op == 14 || op == 18
def codeE (m : ModD) (k : Nat) : Int := if firstIns m k ≠ -1 then insErr m (nthF m.funcs k) (nthX (nthF m.funcs k).code (firstIns m k).toNat) else if endsOk (lastOp m k) = true then 0 else 64
def codeA (m : ModD) (k : Nat) : Int := if firstIns m k ≠ -1 then firstIns m k else (nthF m.funcs k).code.length - 1
def riseD (m : ModD) : Int := badFrom (okRise m.ths) 1 (m.ths.length - 1)
def okWhole (m : ModD) (k : Nat) : Bool := wholeE m k == 0
def okCode (m : ModD) (k : Nat) : Bool := codeE m k == 0
def wholeD (m : ModD) : Int := badFrom (okWhole m) 0 m.funcs.length
def codeD (m : ModD) : Int := badFrom (okCode m) 0 m.funcs.length
/-- What is wrong first. -/
def mayD (m : ModD) : FaultD :=
  if 16 < m.ths.length then ⟨3, 0, 16⟩ else if riseD m ≠ -1 then ⟨66, 0, riseD m⟩ else if 32 < m.funcs.length then ⟨3, 32, 0⟩ else
  if wholeD m ≠ -1 then ⟨wholeE m (wholeD m).toNat, wholeD m, wholeA m (wholeD m).toNat⟩ else
  if codeD m ≠ -1 then ⟨codeE m (codeD m).toNat, codeD m, codeA m (codeD m).toNat⟩ else ⟨0, 0, 0⟩
theorem mayD_1 {m : ModD} (h : 16 < m.ths.length) : mayD m = ⟨3, 0, 16⟩ := by rw [mayD, if_pos h]
theorem mayD_2 {m : ModD} (h : ¬ 16 < m.ths.length) {i : Nat} (h2 : riseD m = i) : mayD m = ⟨66, 0, i⟩ := by rw [mayD, if_neg h, h2, if_pos (by omega)]
theorem mayD_3 {m : ModD} (h : ¬ 16 < m.ths.length) (h2 : riseD m = -1) (h3 : 32 < m.funcs.length) : mayD m = ⟨3, 32, 0⟩ := by rw [mayD, if_neg h, h2, if_neg (by simp), if_pos h3]
theorem mayD_4 {m : ModD} (h : ¬ 16 < m.ths.length) (h2 : riseD m = -1) (h3 : ¬ 32 < m.funcs.length) {k : Nat} (h4 : wholeD m = k) : mayD m = ⟨wholeE m k, k, wholeA m k⟩ := by
  rw [mayD, if_neg h, h2, if_neg (by simp), if_neg h3, h4, if_pos (by omega)]; rfl
theorem mayD_5 {m : ModD} (h : ¬ 16 < m.ths.length) (h2 : riseD m = -1) (h3 : ¬ 32 < m.funcs.length) (h4 : wholeD m = -1) {k : Nat} (h5 : codeD m = k) : mayD m = ⟨codeE m k, k, codeA m k⟩ := by
  rw [mayD, if_neg h, h2, if_neg (by simp), if_neg h3, h4, if_neg (by simp), h5, if_pos (by omega)]; rfl
theorem mayD_6 {m : ModD} (h : ¬ 16 < m.ths.length) (h2 : riseD m = -1) (h3 : ¬ 32 < m.funcs.length) (h4 : wholeD m = -1) (h5 : codeD m = -1) : mayD m = ⟨0, 0, 0⟩ := by
  rw [mayD, if_neg h, h2, if_neg (by simp), if_neg h3, h4, if_neg (by simp), h5, if_neg (by simp)]
theorem code_ins {m : ModD} {k i : Nat} (h : firstIns m k = i) (h0 : insErr m (nthF m.funcs k) (nthX (nthF m.funcs k).code i) ≠ 0) : codeE m k = insErr m (nthF m.funcs k) (nthX (nthF m.funcs k).code i) ∧ codeA m k = i ∧ okCode m k = false := by
  have e : codeE m k = insErr m (nthF m.funcs k) (nthX (nthF m.funcs k).code i) := by rw [codeE, h, if_pos (by omega)]; rfl
  exact ⟨e, by rw [codeA, h, if_pos (by omega)], by rw [okCode, e]; simpa using h0⟩
theorem code_end {m : ModD} {k : Nat} (h : firstIns m k = -1) (h0 : endsOk (lastOp m k) = false) : codeE m k = 64 ∧ codeA m k = (nthF m.funcs k).code.length - 1 ∧ okCode m k = false := by
  have e : codeE m k = 64 := by rw [codeE, h, if_neg (by simp), if_neg (by rw [h0]; decide)]
  exact ⟨e, by rw [codeA, h, if_neg (by simp)], by rw [okCode, e]; rfl⟩
theorem code_ok {m : ModD} {k : Nat} (h : firstIns m k = -1) (h0 : endsOk (lastOp m k) = true) : okCode m k = true := by
  rw [okCode, codeE, h, if_neg (by simp), if_pos h0]; rfl
theorem badFrom_all {p : Nat → Bool} : ∀ n k, badFrom p k n = -1 → ∀ j, k ≤ j → j < k + n → p j = true
  | 0, k, _, j, h1, h2 => absurd h2 (by omega)
  | n + 1, k, h, j, h1, h2 => by
    rw [badFrom] at h
    split at h
    · omega
    · rename_i hp
      have hp' : p k = true := by simpa using hp
      rcases Nat.eq_or_lt_of_le h1 with rfl | h1
      · exact hp'
      · exact badFrom_all n (k + 1) h j h1 (by omega)
/-- A function of which whole says nothing has an instruction. -/
theorem whole_code {m : ModD} (h : wholeD m = -1) {k : Nat} (hk : k < m.funcs.length) : (nthF m.funcs k).code.length ≠ 0 := fun h0 => by
  have h1 : wholeE m k = 0 := by simpa [okWhole] using badFrom_all _ 0 h k (by omega) (by omega)
  have h2 : restErr (nthF m.funcs k) ≠ 0 := by
    unfold restErr; rw [h0]; split
    · omega
    · split
      · omega
      · simp
  unfold wholeE at h1
  split at h1
  · omega
  · split at h1
    · omega
    · split at h1
      · omega
      · split at h1
        · omega
        · exact h2 h1
end Go.Proofs.YtddobhneplfddaaDoor

namespace Go.Proofs.YtddobhneplfddaaDoor
set_option maxRecDepth 100000
open Go.RowKit
set_option linter.unusedSimpArgs false
set_option linter.unusedVariables false
attribute [local go_sem ↓] Go.wp_at_zero Go.wp_at_succ

structure WMem (w : World) (m : ModD) (f : FuncD) (wr : World) : Prop where
  below : Below w.heap.size w wr
  bm : Whl wr w.heap.size 25 #[.slice m.ta m.ths.length m.tc, .slice m.fa m.funcs.length m.fc]
  bf : Whl wr (w.heap.size + 1) 48 #[.string f.name, .slice f.pa f.params.length f.pc, .int .i64 f.regs, .int .i64 f.words, .slice f.ca f.code.length f.cc]
theorem WMem.alloc {w wr : World} {m : ModD} {f : FuncD} (h : WMem w m f wr) (o : Obj) : WMem w m f (wr.alloc o) := ⟨below_alloc h.below _, h.bm.alloc _, h.bf.alloc _⟩
theorem WMem.drewN {w wr : World} {m : ModD} {f : FuncD} (h : WMem w m f wr) (n : Nat) : WMem w m f (wr.drewN n) := ⟨below_drewN h.below n, h.bm, h.bf⟩
theorem WMem.go {w wr w1 : World} {m : ModD} {f : FuncD} (h : WMem w m f wr) (hb : Below wr.heap.size wr w1) : WMem w m f w1 := ⟨below_step h.below hb, h.bm.below' hb, h.bf.below' hb⟩
theorem WMem.start (w : World) (m : ModD) (f : FuncD) : WMem w m f ((w.alloc (.cells #[.slice m.ta m.ths.length m.tc, .slice m.fa m.funcs.length m.fc] 25)).alloc (.cells #[.string f.name, .slice f.pa f.params.length f.pc, .int .i64 f.regs, .int .i64 f.words, .slice f.ca f.code.length f.cc] 48)) :=
  ⟨below_alloc (below_alloc (Below.refl _ _) _) _, (Whl.new _ _ _).alloc _, by have := Whl.new (w.alloc (.cells #[.slice m.ta m.ths.length m.tc, .slice m.fa m.funcs.length m.fc] 25)) 48 #[.string f.name, .slice f.pa f.params.length f.pc, .int .i64 f.regs, .int .i64 f.words, .slice f.ca f.code.length f.cc]; rwa [World.size_alloc] at this⟩

theorem nthF_wfM {m : ModD} (h : m.Wf) {k : Nat} (hk : k < m.funcs.length) : (nthF m.funcs k).Wf := by
  unfold nthF
  rw [List.getD_eq_getElem?_getD, List.getElem?_eq_getElem hk]
  exact h.funcs _ (List.getElem_mem hk)
set_option maxHeartbeats 4000000 in
theorem whole1 (m : ModD) (k : Nat) (w : World) (wm : m.Wf) (hm : ModOk w w.heap.size m) (hk : k < m.funcs.length) (n1 : isNameB (nthF m.funcs k).name = false) : Calls Tryd.prog 49 #[m.val, .int .i64 k] w fun e w' => e = .returned (.tuple #[.int .i64 8, .int .i64 0]) ∧ Below w.heap.size w w' := by
  have hflen := wm.flen
  have wfk := nthF_wfM wm hk
  have hnm := wfk.name
  have hpl := wfk.plen
  have hcl := wfk.clen
  obtain ⟨fb, fo, hfa, hfb, z0, z1, z2, z3, z4⟩ := funcs_cells hm.funcs hk
  have HM := Lib.hid hm; clear hm
  have HFA := Lib.hid hfa
  obtain ⟨ta, tc, ths, fa, fc, funcs⟩ := m
  dsimp only at *
  subst hfa
  have OK : ModOk ((w.alloc (.cells #[.slice ta ths.length tc, .slice (some ⟨fb, fo, none⟩) funcs.length fc] 25)).alloc (.cells #[.string (nthF funcs k).name, .slice (nthF funcs k).pa (nthF funcs k).params.length (nthF funcs k).pc, .int .i64 (nthF funcs k).regs, .int .i64 (nthF funcs k).words, .slice (nthF funcs k).ca (nthF funcs k).code.length (nthF funcs k).cc] 48)) _ ⟨ta, tc, ths, some ⟨fb, fo, none⟩, fc, funcs⟩ := (HM.out.below (below_alloc (below_alloc (Below.refl _ _) _) _) (Nat.le_refl _)).more (B' := ((w.alloc (.cells #[.slice ta ths.length tc, .slice (some ⟨fb, fo, none⟩) funcs.length fc] 25)).alloc (.cells #[.string (nthF funcs k).name, .slice (nthF funcs k).pa (nthF funcs k).params.length (nthF funcs k).pc, .int .i64 (nthF funcs k).regs, .int .i64 (nthF funcs k).words, .slice (nthF funcs k).ca (nthF funcs k).code.length (nthF funcs k).cc] 48)).heap.size) (by simp; omega)
  go_enter Tryd.func49, Tryd.ntmps49
  go_wp2_with (first
    | (go_at_call 80; with_reducible refine (isNameP _ _ hnm).mono ?_; rintro e w0 ⟨rfl, rfl⟩)
    | (go_at_call 81; with_reducible refine (findP ⟨ta, tc, ths, some ⟨fb, fo, none⟩, fc, funcs⟩ (nthF funcs k).name _ (by dsimp only; omega) OK).mono ?_; rintro e w1 ⟨rfl, hb1⟩; obtain ⟨hcc1, hff1⟩ := bcell hb1; have hs1 := hb1.size; (try simp at hs1); have l1 : w.heap.size + 1 < w1.heap.size := (by omega); have r1 : w.heap.size < w1.heap.size := (by omega)))
  all_goals (try simp only [Exit.inBlock, Exit.then])
  all_goals refine ret_of ?_ rfl
  all_goals simp [results, Tryd.results49, go_sem]
  all_goals go_light
  all_goals exact (by repeat (first | exact Below.refl _ _ | with_reducible apply below_alloc | with_reducible apply below_drewN | with_reducible refine below_step ?_ hb1))

set_option maxHeartbeats 4000000 in
theorem whole2 (m : ModD) (k : Nat) (w : World) (wm : m.Wf) (hm : ModOk w w.heap.size m) (hk : k < m.funcs.length) (n1 : isNameB (nthF m.funcs k).name = true) (n2 : decide (findD m.funcs (nthF m.funcs k).name < (k : Int)) = true) : Calls Tryd.prog 49 #[m.val, .int .i64 k] w fun e w' => e = .returned (.tuple #[.int .i64 9, .int .i64 0]) ∧ Below w.heap.size w w' := by
  have hflen := wm.flen
  have wfk := nthF_wfM wm hk
  have hnm := wfk.name
  have hpl := wfk.plen
  have hcl := wfk.clen
  obtain ⟨fb, fo, hfa, hfb, z0, z1, z2, z3, z4⟩ := funcs_cells hm.funcs hk
  have HM := Lib.hid hm; clear hm
  have HFA := Lib.hid hfa
  obtain ⟨ta, tc, ths, fa, fc, funcs⟩ := m
  dsimp only at *
  subst hfa
  have OK : ModOk ((w.alloc (.cells #[.slice ta ths.length tc, .slice (some ⟨fb, fo, none⟩) funcs.length fc] 25)).alloc (.cells #[.string (nthF funcs k).name, .slice (nthF funcs k).pa (nthF funcs k).params.length (nthF funcs k).pc, .int .i64 (nthF funcs k).regs, .int .i64 (nthF funcs k).words, .slice (nthF funcs k).ca (nthF funcs k).code.length (nthF funcs k).cc] 48)) _ ⟨ta, tc, ths, some ⟨fb, fo, none⟩, fc, funcs⟩ := (HM.out.below (below_alloc (below_alloc (Below.refl _ _) _) _) (Nat.le_refl _)).more (B' := ((w.alloc (.cells #[.slice ta ths.length tc, .slice (some ⟨fb, fo, none⟩) funcs.length fc] 25)).alloc (.cells #[.string (nthF funcs k).name, .slice (nthF funcs k).pa (nthF funcs k).params.length (nthF funcs k).pc, .int .i64 (nthF funcs k).regs, .int .i64 (nthF funcs k).words, .slice (nthF funcs k).ca (nthF funcs k).code.length (nthF funcs k).cc] 48)).heap.size) (by simp; omega)
  go_enter Tryd.func49, Tryd.ntmps49
  go_wp2_with (first
    | (go_at_call 80; with_reducible refine (isNameP _ _ hnm).mono ?_; rintro e w0 ⟨rfl, rfl⟩)
    | (go_at_call 81; with_reducible refine (findP ⟨ta, tc, ths, some ⟨fb, fo, none⟩, fc, funcs⟩ (nthF funcs k).name _ (by dsimp only; omega) OK).mono ?_; rintro e w1 ⟨rfl, hb1⟩; obtain ⟨hcc1, hff1⟩ := bcell hb1; have hs1 := hb1.size; (try simp at hs1); have l1 : w.heap.size + 1 < w1.heap.size := (by omega); have r1 : w.heap.size < w1.heap.size := (by omega)))
  all_goals (try simp only [Exit.inBlock, Exit.then])
  all_goals refine ret_of ?_ rfl
  all_goals simp [results, Tryd.results49, go_sem]
  all_goals go_light
  all_goals exact (by repeat (first | exact Below.refl _ _ | with_reducible apply below_alloc | with_reducible apply below_drewN | with_reducible refine below_step ?_ hb1))

set_option maxHeartbeats 4000000 in
theorem whole3 (m : ModD) (k : Nat) (w : World) (wm : m.Wf) (hm : ModOk w w.heap.size m) (hk : k < m.funcs.length) (n1 : isNameB (nthF m.funcs k).name = true) (n2 : decide (findD m.funcs (nthF m.funcs k).name < (k : Int)) = false) (n3 : decide ((8 : Int) < ((nthF m.funcs k).params.length : Int)) = true) : Calls Tryd.prog 49 #[m.val, .int .i64 k] w fun e w' => e = .returned (.tuple #[.int .i64 3, .int .i64 8]) ∧ Below w.heap.size w w' := by
  have hflen := wm.flen
  have wfk := nthF_wfM wm hk
  have hnm := wfk.name
  have hpl := wfk.plen
  have hcl := wfk.clen
  obtain ⟨fb, fo, hfa, hfb, z0, z1, z2, z3, z4⟩ := funcs_cells hm.funcs hk
  have HM := Lib.hid hm; clear hm
  have HFA := Lib.hid hfa
  obtain ⟨ta, tc, ths, fa, fc, funcs⟩ := m
  dsimp only at *
  subst hfa
  have OK : ModOk ((w.alloc (.cells #[.slice ta ths.length tc, .slice (some ⟨fb, fo, none⟩) funcs.length fc] 25)).alloc (.cells #[.string (nthF funcs k).name, .slice (nthF funcs k).pa (nthF funcs k).params.length (nthF funcs k).pc, .int .i64 (nthF funcs k).regs, .int .i64 (nthF funcs k).words, .slice (nthF funcs k).ca (nthF funcs k).code.length (nthF funcs k).cc] 48)) _ ⟨ta, tc, ths, some ⟨fb, fo, none⟩, fc, funcs⟩ := (HM.out.below (below_alloc (below_alloc (Below.refl _ _) _) _) (Nat.le_refl _)).more (B' := ((w.alloc (.cells #[.slice ta ths.length tc, .slice (some ⟨fb, fo, none⟩) funcs.length fc] 25)).alloc (.cells #[.string (nthF funcs k).name, .slice (nthF funcs k).pa (nthF funcs k).params.length (nthF funcs k).pc, .int .i64 (nthF funcs k).regs, .int .i64 (nthF funcs k).words, .slice (nthF funcs k).ca (nthF funcs k).code.length (nthF funcs k).cc] 48)).heap.size) (by simp; omega)
  go_enter Tryd.func49, Tryd.ntmps49
  go_wp2_with (first
    | (go_at_call 80; with_reducible refine (isNameP _ _ hnm).mono ?_; rintro e w0 ⟨rfl, rfl⟩)
    | (go_at_call 81; with_reducible refine (findP ⟨ta, tc, ths, some ⟨fb, fo, none⟩, fc, funcs⟩ (nthF funcs k).name _ (by dsimp only; omega) OK).mono ?_; rintro e w1 ⟨rfl, hb1⟩; obtain ⟨hcc1, hff1⟩ := bcell hb1; have hs1 := hb1.size; (try simp at hs1); have l1 : w.heap.size + 1 < w1.heap.size := (by omega); have r1 : w.heap.size < w1.heap.size := (by omega)))
  all_goals (try simp only [Exit.inBlock, Exit.then])
  all_goals refine ret_of ?_ rfl
  all_goals simp [results, Tryd.results49, go_sem]
  all_goals go_light
  all_goals exact (by repeat (first | exact Below.refl _ _ | with_reducible apply below_alloc | with_reducible apply below_drewN | with_reducible refine below_step ?_ hb1))

set_option maxHeartbeats 4000000 in
theorem whole4 (m : ModD) (k : Nat) (w : World) (wm : m.Wf) (hm : ModOk w w.heap.size m) (hk : k < m.funcs.length) (q1 : isNameB (nthF m.funcs k).name = true) (q2 : ¬ findD m.funcs (nthF m.funcs k).name < (k : Int)) (q3 : ¬ 8 < (nthF m.funcs k).params.length) : Calls Tryd.prog 49 #[m.val, .int .i64 k] w fun e w' => e = .returned (.tuple #[.int .i64 (wholeE m k), .int .i64 (wholeA m k)]) ∧ Below w.heap.size w w' := by
  have n1 : isNameB (nthF m.funcs k).name = true := q1
  have n2 : decide (findD m.funcs (nthF m.funcs k).name < (k : Int)) = false := by simpa using q2
  have n3 : decide ((8 : Int) < ((nthF m.funcs k).params.length : Int)) = false := by simp; omega
  have K1 : Hid (∀ e, emptyD (nthF m.funcs k).params = e → e ≠ -1 → wholeE m k = 40 ∧ wholeA m k = e) := Lib.hid (fun e he h => by
    refine ⟨?_, ?_⟩
    · simp only [wholeE]; rw [if_neg (by rw [q1]; decide), if_neg q2, if_neg q3, he, if_pos h]
    · simp only [wholeA]; rw [if_neg (by rw [q1]; decide), if_neg q2, if_neg q3, he, if_pos h])
  have K2 : Hid (emptyD (nthF m.funcs k).params = -1 → wholeE m k = restErr (nthF m.funcs k) ∧ wholeA m k = 0) := Lib.hid (fun he => by
    refine ⟨?_, ?_⟩
    · simp only [wholeE]; rw [if_neg (by rw [q1]; decide), if_neg q2, if_neg q3, he, if_neg (by simp)]
    · simp only [wholeA]; rw [if_neg (by rw [q1]; decide), if_neg q2, if_neg q3, he, if_neg (by simp)])
  clear q1 q2 q3
  have hflen := wm.flen
  have wfk := nthF_wfM wm hk
  have hnm := wfk.name
  have hpl := wfk.plen
  have hcl := wfk.clen
  obtain ⟨fb, fo, hfa, hfb, z0, z1, z2, z3, z4⟩ := funcs_cells hm.funcs hk
  have HM := Lib.hid hm; clear hm
  have HFA := Lib.hid hfa
  obtain ⟨ta, tc, ths, fa, fc, funcs⟩ := m
  dsimp only at *
  subst hfa
  have OK : ModOk ((w.alloc (.cells #[.slice ta ths.length tc, .slice (some ⟨fb, fo, none⟩) funcs.length fc] 25)).alloc (.cells #[.string (nthF funcs k).name, .slice (nthF funcs k).pa (nthF funcs k).params.length (nthF funcs k).pc, .int .i64 (nthF funcs k).regs, .int .i64 (nthF funcs k).words, .slice (nthF funcs k).ca (nthF funcs k).code.length (nthF funcs k).cc] 48)) _ ⟨ta, tc, ths, some ⟨fb, fo, none⟩, fc, funcs⟩ := (HM.out.below (below_alloc (below_alloc (Below.refl _ _) _) _) (Nat.le_refl _)).more (B' := ((w.alloc (.cells #[.slice ta ths.length tc, .slice (some ⟨fb, fo, none⟩) funcs.length fc] 25)).alloc (.cells #[.string (nthF funcs k).name, .slice (nthF funcs k).pa (nthF funcs k).params.length (nthF funcs k).pc, .int .i64 (nthF funcs k).regs, .int .i64 (nthF funcs k).words, .slice (nthF funcs k).ca (nthF funcs k).code.length (nthF funcs k).cc] 48)).heap.size) (by simp; omega)
  go_enter Tryd.func49, Tryd.ntmps49
  go_wp2_with (first
    | (go_at_call 80; with_reducible refine (isNameP _ _ hnm).mono ?_; rintro e w0 ⟨rfl, rfl⟩)
    | (go_at_call 81; with_reducible refine (findP ⟨ta, tc, ths, some ⟨fb, fo, none⟩, fc, funcs⟩ (nthF funcs k).name _ (by dsimp only; omega) OK).mono ?_; rintro e w1 ⟨rfl, hb1⟩; obtain ⟨hcc1, hff1⟩ := bcell hb1; have hs1 := hb1.size; (try simp at hs1); have l1 : w.heap.size + 1 < w1.heap.size := (by omega); have r1 : w.heap.size < w1.heap.size := (by omega)))
  have hM1 : WMem w ⟨ta, tc, ths, some ⟨fb, fo, none⟩, fc, funcs⟩ (nthF funcs k) w1 := (WMem.start w ⟨ta, tc, ths, some ⟨fb, fo, none⟩, fc, funcs⟩ (nthF funcs k)).go hb1
  clear z0 z1 z2 z3 z4 OK n1 n2 n3 hcc1 hff1 hb1 hs1 l1 r1
  go_loopw [31] (fun i wr => ∃ j : Nat, j ≤ (nthF funcs k).params.length ∧ i = .int .i64 j ∧ emptyD (nthF funcs k).params = badFrom (okSp (nthF funcs k).params) j ((nthF funcs k).params.length - j) ∧ WMem w ⟨ta, tc, ths, some ⟨fb, fo, none⟩, fc, funcs⟩ (nthF funcs k) wr) (fun i _ => (nthF funcs k).params.length - (intOf i).toNat)
  case atStart => exact ⟨0, Nat.zero_le _, rfl, rfl, hM1⟩
  case round =>
    obtain ⟨j, hj, rfl, hE, hM⟩ := hrel
    have HD := Lib.hid hE; clear hE
    have c0 : wr.cell? ⟨w.heap.size + 1, 0, none⟩ = some (.string (nthF funcs k).name) := hM.bf.cell 0
    have c1 : wr.cell? ⟨w.heap.size + 1, 1, none⟩ = some (.slice (nthF funcs k).pa (nthF funcs k).params.length (nthF funcs k).pc) := hM.bf.cell 1
    have c2 : wr.cell? ⟨w.heap.size + 1, 2, none⟩ = some (.int .i64 (nthF funcs k).regs) := hM.bf.cell 2
    have c3 : wr.cell? ⟨w.heap.size + 1, 3, none⟩ = some (.int .i64 (nthF funcs k).words) := hM.bf.cell 3
    have c4 : wr.cell? ⟨w.heap.size + 1, 4, none⟩ = some (.slice (nthF funcs k).ca (nthF funcs k).code.length (nthF funcs k).cc) := hM.bf.cell 4
    have lf := hM.bf.lt
    by_cases hlt : j < (nthF funcs k).params.length
    · obtain ⟨pb, po, hpa, hpb, hpc⟩ := ((HM.out.each k hk).params.below hM.below (Nat.le_refl _)) (by dsimp only; omega)
      have p0 : wr.cell? ⟨pb, po + j * 2, none⟩ = some (.int .i64 (nthS (nthF funcs k).params j).lo) := hpc j hlt 0 (by omega)
      have p1 : wr.cell? ⟨pb, po + j * 2 + 1, none⟩ = some (.int .i64 (nthS (nthF funcs k).params j).hi) := hpc j hlt 1 (by omega)
      have hpa' : (nthF funcs k).pa = some ⟨pb, po, none⟩ := hpa
      have lp : pb < wr.heap.size := Nat.lt_of_lt_of_le hpb hM.below.size
      clear hpc hpa
      rw [hpa'] at c1
      cases hok : okSp (nthF funcs k).params j
      · have u1 : decide ((nthS (nthF funcs k).params j).hi < (nthS (nthF funcs k).params j).lo) = true := by simp [okSp] at hok; simpa using hok
        obtain ⟨E1, E2⟩ := K1.out j (by rw [HD.out, badFrom_yes hlt hok]) (by omega)
        have HE := Lib.hid E1
        have HAt := Lib.hid E2
        clear E1 E2
        rw [hpa']
        go_wp2
        refine ret_of ?_ rfl
        simp [results, Tryd.results49, go_sem, HE.out, HAt.out]
        go_light
        exact below_alloc hM.below _
      · have u1 : decide ((nthS (nthF funcs k).params j).hi < (nthS (nthF funcs k).params j).lo) = false := by simp [okSp] at hok; simpa using hok
        rw [hpa']
        go_wp2
        go_roundw
        case rel => exact ⟨j + 1, by omega, by go_num, by rw [HD.out, badFrom_no hlt hok], hM.alloc _⟩
        case measure => simp only [intOf]; omega
    · obtain rfl : j = (nthF funcs k).params.length := by omega
      obtain ⟨E1, E2⟩ := K2.out (by rw [HD.out, Nat.sub_self]; rfl)
      have HE := Lib.hid E1
      have HAt := Lib.hid E2
      clear E1 E2 hj hlt
      by_cases h0 : (nthF funcs k).regs < 1
      · have u0 : decide ((nthF funcs k).regs < 1) = true := by simp; omega
        have hv : restErr (nthF funcs k) = 95 := by simp only [restErr]; rw [if_pos (by omega)]
        go_wp2
        refine ret_of ?_ rfl
        simp [results, Tryd.results49, go_sem, HE.out, HAt.out, hv]
        go_light
        exact hM.below
      by_cases h1 : 64 < (nthF funcs k).regs
      · have u0 : decide ((nthF funcs k).regs < 1) = false := by simp; omega
        have u1 : decide (64 < (nthF funcs k).regs) = true := by simp; omega
        have hv : restErr (nthF funcs k) = 95 := by simp only [restErr]; rw [if_pos (by omega)]
        go_wp2
        refine ret_of ?_ rfl
        simp [results, Tryd.results49, go_sem, HE.out, HAt.out, hv]
        go_light
        exact hM.below
      by_cases h2 : (nthF funcs k).regs < ((nthF funcs k).params.length : Int)
      · have u0 : decide ((nthF funcs k).regs < 1) = false := by simp; omega
        have u1 : decide (64 < (nthF funcs k).regs) = false := by simp; omega
        have u2 : decide ((nthF funcs k).regs < ((nthF funcs k).params.length : Int)) = true := by simp; omega
        have hv : restErr (nthF funcs k) = 95 := by simp only [restErr]; rw [if_pos (by omega)]
        go_wp2
        refine ret_of ?_ rfl
        simp [results, Tryd.results49, go_sem, HE.out, HAt.out, hv]
        go_light
        exact hM.below
      by_cases h3 : (nthF funcs k).words < 0
      · have u0 : decide ((nthF funcs k).regs < 1) = false := by simp; omega
        have u1 : decide (64 < (nthF funcs k).regs) = false := by simp; omega
        have u2 : decide ((nthF funcs k).regs < ((nthF funcs k).params.length : Int)) = false := by simp; omega
        have u3 : decide ((nthF funcs k).words < 0) = true := by simp; omega
        have hv : restErr (nthF funcs k) = 96 := by simp only [restErr]; rw [if_neg (by omega), if_pos (by omega)]
        go_wp2
        refine ret_of ?_ rfl
        simp [results, Tryd.results49, go_sem, HE.out, HAt.out, hv]
        go_light
        exact hM.below
      by_cases h4 : 4096 < (nthF funcs k).words
      · have u0 : decide ((nthF funcs k).regs < 1) = false := by simp; omega
        have u1 : decide (64 < (nthF funcs k).regs) = false := by simp; omega
        have u2 : decide ((nthF funcs k).regs < ((nthF funcs k).params.length : Int)) = false := by simp; omega
        have u3 : decide ((nthF funcs k).words < 0) = false := by simp; omega
        have u4 : decide (4096 < (nthF funcs k).words) = true := by simp; omega
        have hv : restErr (nthF funcs k) = 96 := by simp only [restErr]; rw [if_neg (by omega), if_pos (by omega)]
        go_wp2
        refine ret_of ?_ rfl
        simp [results, Tryd.results49, go_sem, HE.out, HAt.out, hv]
        go_light
        exact hM.below
      by_cases h5 : (nthF funcs k).code.length = 0
      · have u0 : decide ((nthF funcs k).regs < 1) = false := by simp; omega
        have u1 : decide (64 < (nthF funcs k).regs) = false := by simp; omega
        have u2 : decide ((nthF funcs k).regs < ((nthF funcs k).params.length : Int)) = false := by simp; omega
        have u3 : decide ((nthF funcs k).words < 0) = false := by simp; omega
        have u4 : decide (4096 < (nthF funcs k).words) = false := by simp; omega
        have u6 : (((nthF funcs k).code.length : Int) == 0) = true := by first | (rw [beq_iff_eq]; omega) | (rw [beq_eq_false_iff_ne]; omega)
        have hv : restErr (nthF funcs k) = 97 := by simp only [restErr]; rw [if_neg (by omega), if_neg (by omega), if_pos (by omega)]
        go_wp2
        refine ret_of ?_ rfl
        simp [results, Tryd.results49, go_sem, HE.out, HAt.out, hv]
        go_light
        exact hM.below
      by_cases h6 : (1024 : Int) < ((nthF funcs k).code.length : Int)
      · have u0 : decide ((nthF funcs k).regs < 1) = false := by simp; omega
        have u1 : decide (64 < (nthF funcs k).regs) = false := by simp; omega
        have u2 : decide ((nthF funcs k).regs < ((nthF funcs k).params.length : Int)) = false := by simp; omega
        have u3 : decide ((nthF funcs k).words < 0) = false := by simp; omega
        have u4 : decide (4096 < (nthF funcs k).words) = false := by simp; omega
        have u6 : (((nthF funcs k).code.length : Int) == 0) = false := by first | (rw [beq_iff_eq]; omega) | (rw [beq_eq_false_iff_ne]; omega)
        have u7 : decide ((1024 : Int) < ((nthF funcs k).code.length : Int)) = true := by simp; omega
        have hv : restErr (nthF funcs k) = 97 := by simp only [restErr]; rw [if_neg (by omega), if_neg (by omega), if_pos (by omega)]
        go_wp2
        refine ret_of ?_ rfl
        simp [results, Tryd.results49, go_sem, HE.out, HAt.out, hv]
        go_light
        exact hM.below
      · have u0 : decide ((nthF funcs k).regs < 1) = false := by simp; omega
        have u1 : decide (64 < (nthF funcs k).regs) = false := by simp; omega
        have u2 : decide ((nthF funcs k).regs < ((nthF funcs k).params.length : Int)) = false := by simp; omega
        have u3 : decide ((nthF funcs k).words < 0) = false := by simp; omega
        have u4 : decide (4096 < (nthF funcs k).words) = false := by simp; omega
        have u6 : (((nthF funcs k).code.length : Int) == 0) = false := by first | (rw [beq_iff_eq]; omega) | (rw [beq_eq_false_iff_ne]; omega)
        have u7 : decide ((1024 : Int) < ((nthF funcs k).code.length : Int)) = false := by simp; omega
        have hv : restErr (nthF funcs k) = 0 := by simp only [restErr]; rw [if_neg (by omega), if_neg (by omega), if_neg (by omega)]
        go_wp2
        refine ret_of ?_ rfl
        simp [results, Tryd.results49, go_sem, HE.out, HAt.out, hv]
        go_light
        exact hM.below

theorem wholeP (m : ModD) (k : Nat) (w : World) (wm : m.Wf) (hm : ModOk w w.heap.size m) (hk : k < m.funcs.length) : Calls Tryd.prog 49 #[m.val, .int .i64 k] w fun e w' => e = .returned (.tuple #[.int .i64 (wholeE m k), .int .i64 (wholeA m k)]) ∧ Below w.heap.size w w' := by
  cases n1 : isNameB (nthF m.funcs k).name
  · rw [show wholeE m k = 8 from by simp only [wholeE]; rw [if_pos n1], show wholeA m k = 0 from by simp only [wholeA]; rw [if_pos n1]]
    exact whole1 m k w wm hm hk n1
  by_cases n2 : findD m.funcs (nthF m.funcs k).name < (k : Int)
  · rw [show wholeE m k = 9 from by simp only [wholeE]; rw [if_neg (by rw [n1]; decide), if_pos n2], show wholeA m k = 0 from by simp only [wholeA]; rw [if_neg (by rw [n1]; decide), if_pos n2]]
    exact whole2 m k w wm hm hk n1 (by simpa using n2)
  by_cases n3 : 8 < (nthF m.funcs k).params.length
  · rw [show wholeE m k = 3 from by simp only [wholeE]; rw [if_neg (by rw [n1]; decide), if_neg n2, if_pos n3], show wholeA m k = 8 from by simp only [wholeA]; rw [if_neg (by rw [n1]; decide), if_neg n2, if_pos n3]]
    exact whole3 m k w wm hm hk n1 (by simpa using n2) (by simp; omega)
  · exact whole4 m k w wm hm hk n1 n2 n3
end Go.Proofs.YtddobhneplfddaaDoor
