/-
  Layer 16 (bounds): Laid, BndA, KeepB, MayP, PlainL, BndL.
-/
import Derived.Test.YtddobhneplfddaaDoorRows
import Derived.Test.YtddobhneplfddaaDoorZ1
import Derived.Test.YtddobhneplfddaaDoorZ3
import Derived.BigQuiet
import Derived.Carry
import Derived.Deep.DeepHandedRow
import Derived.Deep.DrawnRows
import Derived.Deep.Light
import Derived.Deep.RegionHeld3
import Derived.IntWalk
import Derived.JoinedCond
import Derived.LaidHandle
import Derived.LaidLaws
import Derived.LaidMore
import Derived.Lib.Hide
import Derived.MakeChecks
import Derived.Maps.AppendAt
import Derived.OpenShut
import Derived.OpenVars
import Derived.Outline
import Derived.OwnWalk
import Derived.ProofKit
import Derived.WalkKit
import Derived.WalkLawsBesides
import Derived.WalkSpells
namespace Go.Proofs.YtddobhneplfddaaDoor
set_option maxRecDepth 100000
open Go.ChangeShapes Go.WideShapes Go.ChangeAt Go.RowKit
set_option linter.unusedSimpArgs false
set_option linter.unusedVariables false

def rowData {H : Type} (r : Row) : DataW H := .agg [.lit (.string r.word), .lit (.int .i64 r.weight), .lit (.bool r.a), .lit (.bool r.b), .lit (.bool r.c), .lit (.int .i64 r.n), .lit (.bool r.wr)]
theorem laid_is : (Rows.laid_soffit_code_rows : DataW Unit) = .agg (tab.map rowData) := rfl
theorem gRows : Tryd.prog.globalNamed "soffit/code.rows" = some 0 := by kernel_rfl
theorem tRows : (Tryd.prog.globals[0]?).map (·.type) = some 114 := by kernel_rfl
theorem c20 : Tryd.prog.cellsOf 114 = 140 := by kernel_rfl
theorem c7 : Tryd.prog.cellsOf 113 = 7 := by kernel_rfl
theorem cInt : Tryd.prog.cellsOf 3 = 1 := by kernel_rfl
theorem cI64 : Tryd.prog.cellsOf 2 = 1 := by kernel_rfl
theorem cBool : Tryd.prog.cellsOf 4 = 1 := by kernel_rfl
theorem cStr : Tryd.prog.cellsOf 9 = 1 := by kernel_rfl
theorem take_at {α : Type} {l : List α} {a i : Nat} {v : α} (hi : i < 7) (h : (((l.drop a).take 7).drop i).take 1 = [v]) : l[a + i]? = some v := by
  have := congrArg (·[0]?) h
  simp only [List.getElem?_take, List.getElem?_drop] at this
  rw [if_pos (by omega), if_pos (by omega)] at this
  simpa using this
theorem cells_rowed {W : World} {fuel : Nat} {l : List Value} {a : Nat} {r : Row} {p : List MemPlace}
    (h : DataW.trod (fun _ => ()) Tryd.prog W 0 (fun _ => true) false fuel 113 ((l.drop a).take 7) = some (rowData r, p)) :
    l[a]? = some (.string (strOf r.word)) ∧ l[a + 1]? = some (.int .i64 r.weight) ∧ l[a + 2]? = some (.bool r.a) ∧ l[a + 3]? = some (.bool r.b) ∧ l[a + 4]? = some (.bool r.c) ∧ l[a + 5]? = some (.int .i64 r.n) ∧ l[a + 6]? = some (.bool r.wr) := by
  obtain ⟨xs, n, rfl, hx, _, _, hf⟩ := DataW.trod_struct Tryd.underlying113 h
  simp only [Prod.mk.injEq, rowData, DataW.agg.injEq] at hx
  match xs, hx.1, hf with
  | [x0, x1, x2, x3, x4, x5, x6], hx1, hf =>
    simp only [List.map_cons, List.map_nil, List.cons.injEq, and_true] at hx1
    obtain ⟨e0, e1, e2, e3, e4, e5, e6⟩ := hx1
    have f0 := hf 0 _ rfl
    have f1 := hf 1 _ rfl
    have f2 := hf 2 _ rfl
    have f3 := hf 3 _ rfl
    have f4 := hf 4 _ rfl
    have f5 := hf 5 _ rfl
    have f6 := hf 6 _ rfl
    simp only [List.getElem_toArray, List.getElem_cons_zero, List.getElem_cons_succ, List.getElem?_cons_zero, List.getElem?_cons_succ, cInt, cI64, cBool, cStr] at f0 f1 f2 f3 f4 f5 f6
    obtain ⟨s, c0, y0, _⟩ := DataW.trod_string Tryd.underlying9 f0
    obtain ⟨i1, c1, y1, _⟩ := DataW.trod_int Tryd.underlying2 f1
    obtain ⟨b2, c2, y2⟩ := DataW.trod_bool Tryd.underlying4 f2
    obtain ⟨b3, c3, y3⟩ := DataW.trod_bool Tryd.underlying4 f3
    obtain ⟨b4, c4, y4⟩ := DataW.trod_bool Tryd.underlying4 f4
    obtain ⟨i5, c5, y5, _⟩ := DataW.trod_int Tryd.underlying3 f5
    obtain ⟨b6, c6, y6⟩ := DataW.trod_bool Tryd.underlying4 f6
    subst y0; subst y1; subst y2; subst y3; subst y4; subst y5; subst y6
    simp only [DataW.lit.injEq, Lit.string.injEq, Lit.int.injEq, Lit.bool.injEq, true_and] at e0 e1 e2 e3 e4 e5 e6
    have k0 := take_at (by omega) c0
    have k1 := take_at (by omega) c1
    have k2 := take_at (by omega) c2
    have k3 := take_at (by omega) c3
    have k4 := take_at (by omega) c4
    have k5 := take_at (by omega) c5
    have k6 := take_at (by omega) c6
    have es : s = strOf r.word := by
      obtain ⟨⟨q⟩⟩ := s
      show _ = (⟨r.word.toArray⟩ : ByteArray)
      rw [e0]
    rw [es] at k0
    rw [← e1] at k1; rw [← e2] at k2; rw [← e3] at k3; rw [← e4] at k4; rw [← e5] at k5; rw [← e6] at k6
    exact ⟨k0, k1, k2, k3, k4, k5, k6⟩

abbrev laidRows : List (String × DataW Unit) := [("soffit/code.rows", Rows.laid_soffit_code_rows)]
theorem tab_of_laid {W : World} (h : laidMetH Tryd.prog laidRows W) : TabOk W := by
  rw [MakeChecks.laidMetH_plain _ _ _ (by kernel_rfl)] at h
  obtain ⟨ps, ⟨g, t, cs, f, p, q, hg, ht, hv, hd, _, _⟩, _, _⟩ := h
  obtain rfl := Option.some.inj (gRows.symm.trans hg)
  obtain rfl := Option.some.inj (tRows.symm.trans ht)
  have cell : ∀ o, W.cell? ⟨0, o, none⟩ = cs[o]? := fun o => World.var?_cell hg hv o
  rw [laid_is] at hd
  obtain ⟨xs, m, rfl, hx, hlen, hn, hel⟩ := DataW.trod_array Tryd.underlying114 hd
  simp only [Prod.mk.injEq, DataW.agg.injEq] at hx
  rw [c7] at hel
  rw [c20] at hlen
  have each : ∀ k, k < 20 → _ := fun k hk => by
    have hr : xs[k]?.map (·.1) = some (rowData (row k)) := by
      have := congrArg (·[k]?) hx.1
      simp only [List.getElem?_map] at this
      rw [← this]
      have : tab[k]? = some (row k) := by
        have hk' : k < tab.length := hk
        simp [row, List.getD, List.getElem?_eq_getElem hk']
      rw [this]; rfl
    have he := hel k hk
    cases hxk : xs[k]? with
    | none => rw [hxk] at hr; cases hr
    | some y =>
      rw [hxk] at hr he
      simp only [Option.map_some, Option.some.injEq] at hr
      obtain ⟨y1, y2⟩ := y
      simp only at hr
      subst hr
      exact cells_rowed he
  refine ⟨?_, fun k hk => ?_, fun k hk => ?_, fun k hk => ?_, fun k hk => ?_, fun k hk => ?_, fun k hk => ?_, fun k hk => ?_⟩
  · have h0 := (each 0 (by omega)).1
    exact World.block_lt_of_cell? W ⟨0, 0, none⟩ ((cell 0).trans (by simpa using h0))
  all_goals rw [cell]
  · simpa using (each k hk).1
  · simpa using (each k hk).2.1
  · simpa using (each k hk).2.2.1
  · simpa using (each k hk).2.2.2.1
  · simpa using (each k hk).2.2.2.2.1
  · simpa using (each k hk).2.2.2.2.2.1
  · simpa using (each k hk).2.2.2.2.2.2

/-- The door's own heap meets the condition. -/
theorem door_met (os : Os) (args : Array Value) : laidMetH Tryd.prog laidRows ((World.doorLaid Tryd.prog 400 os).forCall (fun _ _ => 0) ⟨#[], args, []⟩).memory :=
  laidMetH_of_parts (laidMet_of_run' 8 (by kernel_rfl) (by kernel_rfl)) (by kernel_rfl)
theorem door_shaped (os : Os) (args : Array Value) : ((World.doorLaid Tryd.prog 400 os).forCall (fun _ _ => 0) ⟨#[], args, []⟩).Shaped Tryd.prog :=
  World.shaped_of_RefB (by kernel_rfl) (by kernel_rfl)
end Go.Proofs.YtddobhneplfddaaDoor

namespace Go.Proofs.YtddobhneplfddaaDoor
set_option maxRecDepth 100000
open Go.RowKit
set_option linter.unusedSimpArgs false
set_option linter.unusedVariables false
def atS (r : List Sp) (i : Int) : Sp := r.getD i.toNat ⟨0, 0⟩
def setS (r : List Sp) (i : Int) (a : Sp) : List Sp := r.set i.toNat a
/-- A span without an end that is 0. -/
def wo0 (a : Sp) : Sp := ⟨if a.lo = 0 then 1 else a.lo, if a.hi = 0 then -1 else a.hi⟩
def wo0Ok (a : Sp) : Bool := decide ((wo0 a).lo ≤ (wo0 a).hi)
/-- The numbers that hit a word, n away. -/
def wordsHi (n many : Int) : Int := if n < 0 ∧ wrap64 (many - 1 - n) < -n ∧ 0 < many then 9223372036854775807 else wrap64 (many - 1 - n)
def wordsOk (n many : Int) : Bool := !(n == -9223372036854775808) && decide (-n ≤ wordsHi n many)
def wordsS (n many : Int) : Sp := ⟨-n, wordsHi n many⟩
/-- The arguments of a call: each meets its declared range. -/
def callD : List Sp → Int → List Sp → Option (List Sp)
  | r, _, [] => some r
  | r, b, p :: ps => if (atS r b).meetOk p then callD (setS r b ((atS r b).meet p)) (b + 1) ps else none
/-- What registers may hold behind an instruction, on the way to another one; none: that way isn't gone. -/
def awayD (m : ModD) (f : FuncD) (frm to : Int) (x : InsD) (r : List Sp) : Option (List Sp) :=
  if x.op = 1 then some (setS r x.a ⟨x.n, x.n⟩)
  else if x.op = 2 then some (setS r x.a (atS r x.b))
  else if x.op = 6 ∨ x.op = 7 then if doOk x.op (atS r x.b) (atS r x.c) then some (setS (setS r x.c (wo0 (atS r x.c))) x.a (doSp x.op (atS r x.b) (atS r x.c))) else none
  else if 3 ≤ x.op ∧ x.op ≤ 10 then if doOk x.op (atS r x.b) (atS r x.c) then some (setS r x.a (doSp x.op (atS r x.b) (atS r x.c))) else none
  else if x.op = 11 then if wordsOk x.n f.words && (atS r x.b).meetOk (wordsS x.n f.words) then some (setS (setS r x.b ((atS r x.b).meet (wordsS x.n f.words))) x.a Sp.all) else none
  else if x.op = 12 then if wordsOk x.n f.words && (atS r x.b).meetOk (wordsS x.n f.words) then some (setS r x.b ((atS r x.b).meet (wordsS x.n f.words))) else none
  else if x.op = 13 then if (atS r x.a).meetOk ⟨0, wrap64 (x.n - 1)⟩ then some (setS r x.a ((atS r x.a).meet ⟨0, wrap64 (x.n - 1)⟩)) else none
  else if x.op = 15 ∨ x.op = 16 then
    if x.n = frm + 1 then some r
    else if (decide (to = x.n)) = (decide (x.op = 16)) then if (atS r x.a).meetOk ⟨0, 0⟩ then some (setS r x.a ((atS r x.a).meet ⟨0, 0⟩)) else none
    else if wo0Ok (atS r x.a) then some (setS r x.a (wo0 (atS r x.a))) else none
  else if x.op = 17 then
    if x.n = frm + 1 then some r
    else if x.a = x.b then if to = x.n then some r else none
    else if to = x.n then if (atS r x.b).lo ≤ (atS r x.a).hi then some (setS r x.a ⟨Sp.mx (atS r x.a).lo (atS r x.b).lo, (atS r x.a).hi⟩) else none
    else if (atS r x.a).belowOk (atS r x.b) then some (setS r x.a ((atS r x.a).belowA (atS r x.b))) else none
  else if x.op = 18 then some (setS r x.a (doSp 3 (atS r x.a) ⟨1, 1⟩))
  else if x.op = 19 then (callD r x.b (nthF m.funcs x.n.toNat).params).map fun r' => setS r' x.a Sp.all
  else some r
/-! ### Where an instruction leads -/
def inCode (f : FuncD) (n : Int) : Bool := decide (0 ≤ n) && decide (n < f.code.length)
def nextL (at_ : Int) (x : InsD) : List Int :=
  if x.op = 0 then [] else if x.op = 14 ∨ x.op = 18 then [x.n] else if x.op = 15 ∨ x.op = 16 ∨ x.op = 17 then (if x.n = at_ + 1 then [x.n] else [at_ + 1, x.n])
  else if known x.op then [at_ + 1] else []
def nextD (f : FuncD) (at_ : Int) : List Int := if inCode f at_ then (nextL at_ (nthX f.code at_.toNat)).filter (inCode f) else []
/-! ### The analysis -/
structure StD where
  ins : List (Option (List Sp))
  marked : List Bool
  joined : List Nat
  changes : List (List Nat)
def sameSp (a b : Sp) : Bool := a.lo == b.lo && a.hi == b.hi
def growS (wide : Bool) (ths : List Int) (a b : Sp) : Sp := if wide then widen a b ths else a.join b
def mergeD (s : StD) (to : Nat) (next : List Sp) (ths : List Int) : StD :=
  match s.ins.getD to none with
  | none => { s with ins := s.ins.set to (some next), marked := s.marked.set to true }
  | some old =>
    if List.zipWith (fun a b => sameSp (a.join b) a) old next |>.all id then s
    else { ins := s.ins.set to (some (List.zipWith (growS (decide (4 < s.joined.getD to 0 + 1)) ths) old next)), marked := s.marked.set to true, joined := s.joined.set to (s.joined.getD to 0 + 1),
           changes := s.changes.set to (List.zipWith (fun (c : Nat) (ab : Sp × Sp) => if sameSp (ab.1.join ab.2) ab.1 then c else c + 1) (s.changes.getD to []) (old.zip next)) }
def stepD (m : ModD) (f : FuncD) (frm : Nat) (inn : List Sp) : List Int → StD → StD
  | [], s => s
  | to :: l, s => stepD m f frm inn l (match awayD m f frm to (nthX f.code frm) inn with | none => s | some out => mergeD s to.toNat out m.ths)
def visitD (m : ModD) (f : FuncD) (s : StD) (at_ : Nat) : StD :=
  if s.marked.getD at_ false then stepD m f at_ ((s.ins.getD at_ none).getD []) (nextD f at_) { s with marked := s.marked.set at_ false } else s
def beginD (f : FuncD) : List Sp := f.params ++ List.replicate (f.regs.toNat - f.params.length) ⟨0, 0⟩
def startD (f : FuncD) : StD :=
  { ins := (List.replicate f.code.length none).set 0 (some (beginD f)), marked := (List.replicate f.code.length false).set 0 true, joined := List.replicate f.code.length 0, changes := List.replicate f.code.length (List.replicate f.regs.toNat 0) }
end Go.Proofs.YtddobhneplfddaaDoor

namespace Go.Proofs.YtddobhneplfddaaDoor
set_option maxRecDepth 100000
open Go.RowKit
theorem cellA' {w : World} {o : Obj} {p : Addr} {v : Value} (c : w.cell? p = some v) : (w.alloc o).cell? p = some v := cellK ((Below.refl w.heap.size w).alloc (Nat.le_refl _) o) c
end Go.Proofs.YtddobhneplfddaaDoor

namespace Go.Proofs.YtddobhneplfddaaDoor
set_option maxRecDepth 100000
open Go.RowKit
set_option linter.unusedSimpArgs false
set_option linter.unusedVariables false
attribute [local go_sem ↓] Go.wp_at_zero Go.wp_at_succ

structure MMem (w : World) (m : ModD) (wr : World) : Prop where
  below : Below w.heap.size w wr
  bm : Whl wr w.heap.size 25 #[.slice m.ta m.ths.length m.tc, .slice m.fa m.funcs.length m.fc]
  br : Whl wr (w.heap.size + 1) 53 #[.int .i64 0, .int .i64 0, .int .i64 0]
theorem MMem.alloc {w wr : World} {m : ModD} (h : MMem w m wr) (o : Obj) : MMem w m (wr.alloc o) := ⟨below_alloc h.below _, h.bm.alloc _, h.br.alloc _⟩
theorem MMem.drewN {w wr : World} {m : ModD} (h : MMem w m wr) (n : Nat) : MMem w m (wr.drewN n) := ⟨below_drewN h.below n, h.bm, h.br⟩
theorem MMem.go {w wr w1 : World} {m : ModD} (h : MMem w m wr) (hb : Below wr.heap.size wr w1) : MMem w m w1 := ⟨below_step h.below hb, h.bm.below' hb, h.br.below' hb⟩
theorem MMem.start (w : World) (m : ModD) : MMem w m ((w.alloc (.cells #[.slice m.ta m.ths.length m.tc, .slice m.fa m.funcs.length m.fc] 25)).alloc (.cells #[.int .i64 0, .int .i64 0, .int .i64 0] 53)) :=
  ⟨below_alloc (below_alloc (Below.refl _ _) _) _, (Whl.new _ _ _).alloc _, by have := Whl.new (w.alloc (.cells #[.slice m.ta m.ths.length m.tc, .slice m.fa m.funcs.length m.fc] 25)) 53 #[.int .i64 0, .int .i64 0, .int .i64 0]; rwa [World.size_alloc] at this⟩
theorem MMem.ok {w wr : World} {m : ModD} (h : MMem w m wr) (hm : ModOk w w.heap.size m) : ModOk wr wr.heap.size m := (hm.below h.below (Nat.le_refl _)).more h.below.size
theorem MMem.tab {w wr : World} {m : ModD} (h : MMem w m wr) (ht : TabOk w) : TabOk wr := ht.below h.below ht.size
theorem MMem.r {w wr : World} {m : ModD} (h : MMem w m wr) : wr.cell? ⟨w.heap.size + 1, 0, none⟩ = some (.int .i64 0) ∧ wr.cell? ⟨w.heap.size + 1, 1, none⟩ = some (.int .i64 0) ∧ wr.cell? ⟨w.heap.size + 1, 2, none⟩ = some (.int .i64 0) := ⟨h.br.cell 0, h.br.cell 1, h.br.cell 2⟩
theorem nthX_wfL {l : List InsD} (h : ∀ s, s ∈ l → s.Wf) {k : Nat} (hk : k < l.length) : (nthX l k).Wf := by
  unfold nthX
  rw [List.getD_eq_getElem?_getD, List.getElem?_eq_getElem hk]
  exact h _ (List.getElem_mem hk)

set_option maxHeartbeats 8000000 in
theorem mayP (m : ModD) (w : World) (wm : m.Wf) (hm : ModOk w w.heap.size m) (ht : TabOk w) : Calls Tryd.prog 26 #[m.val] w fun e w' => e = .returned (.agg #[.int .i64 (mayD m).e, .int .i64 (mayD m).f, .int .i64 (mayD m).a]) ∧ Below w.heap.size w w' := by
  have hflen := wm.flen
  have htlen := wm.tlen
  have HM := Lib.hid hm; clear hm
  have HT := Lib.hid ht; clear ht
  by_cases q1 : 16 < m.ths.length
  · have n1 : decide ((16 : Int) < (m.ths.length : Int)) = true := by simp; omega
    have HE := Lib.hid (mayD_1 q1)
    clear q1
    go_enter Tryd.func26, Tryd.ntmps26
    go_wp2
    all_goals (try simp only [Exit.inBlock, Exit.then])
    refine ret_of ?_ rfl
    simp [results, Tryd.results26, go_sem, HE.out]
    go_light
    exact (by repeat (first | exact Below.refl _ _ | with_reducible apply below_alloc | with_reducible apply below_drewN | with_reducible refine Below.setCell ?_ (by dsimp only; omega) _))
  have n1 : decide ((16 : Int) < (m.ths.length : Int)) = false := by simp; omega
  have Q1 := Lib.hid q1; clear q1
  go_enter Tryd.func26, Tryd.ntmps26
  go_wp2
  clear n1
  go_loopw [3] (fun s wr => ∃ i : Nat, 1 ≤ i ∧ (i ≤ m.ths.length ∨ m.ths.length = 0 ∧ i = 1) ∧ s = .int .i64 i ∧ riseD m = badFrom (okRise m.ths) i (m.ths.length - i) ∧ MMem w m wr) (fun s _ => m.ths.length - (intOf s).toNat)
  case atStart => exact ⟨1, Nat.le_refl _, by omega, rfl, rfl, MMem.start w m⟩
  case round =>
    obtain ⟨i, hi1, hi, rfl, hE, hM⟩ := hrel
    have HD := Lib.hid hE; clear hE
    have d0 : wr.cell? ⟨w.heap.size, 0, none⟩ = some (.slice m.ta m.ths.length m.tc) := hM.bm.cell 0
    have d1 : wr.cell? ⟨w.heap.size, 1, none⟩ = some (.slice m.fa m.funcs.length m.fc) := hM.bm.cell 1
    have r0 : wr.cell? ⟨w.heap.size + 1, 0, none⟩ = some (.int .i64 0) := hM.br.cell 0
    have s0 := hM.br.frozen 0
    have r1 : wr.cell? ⟨w.heap.size + 1, 1, none⟩ = some (.int .i64 0) := hM.br.cell 1
    have s1 := hM.br.frozen 1
    have r2 : wr.cell? ⟨w.heap.size + 1, 2, none⟩ = some (.int .i64 0) := hM.br.cell 2
    have s2 := hM.br.frozen 2
    have lr := hM.br.lt
    by_cases hlt : i < m.ths.length
    · obtain ⟨tb, to, hta, htb, htc⟩ := (HM.out.ths.below hM.below (Nat.le_refl _)) (by omega)
      have p0 : wr.cell? ⟨tb, to + i, none⟩ = some (.int .i64 (nthI m.ths i)) := htc i hlt
      have p1 : wr.cell? ⟨tb, to + (i - 1), none⟩ = some (.int .i64 (nthI m.ths (i - 1))) := htc (i - 1) (by omega)
      have hsub : IntKind.i64.wrap ((i : Int) - 1) = ((i - 1 : Nat) : Int) := by simp [IntKind.wrap, IntKind.bits, IntKind.signed]; omega
      have hsub2 : wrap64 ((i : Int) - 1) = ((i - 1 : Nat) : Int) := by unfold wrap64; omega
      have h10 : (0 : Int) ≤ ((i - 1 : Nat) : Int) := by omega
      have h11 : ((i - 1 : Nat) : Int) < (m.ths.length : Int) := by omega
      clear htc
      rw [hta] at d0
      cases hok : okRise m.ths i
      · have u1 : decide (nthI m.ths i ≤ nthI m.ths (i - 1)) = true := by simp [okRise] at hok; simpa using hok
        have HE := Lib.hid (mayD_2 Q1.out (by rw [HD.out, badFrom_yes hlt hok]))
        go_wp2
        go_quiet (fail)
        go_wp2
        all_goals (try simp only [Exit.inBlock, Exit.then])
        refine ret_of ?_ rfl
        simp [results, Tryd.results26, go_sem, HE.out, r0, r1, r2, s0, s1, s2]
        go_light
        exact (by repeat (first | exact hM.below | with_reducible apply below_alloc | with_reducible apply below_drewN | with_reducible refine Below.setCell ?_ (by dsimp only; omega) _))
      · have u1 : decide (nthI m.ths i ≤ nthI m.ths (i - 1)) = false := by simp [okRise] at hok; simpa using hok
        go_wp2
        go_quiet (fail)
        go_wp2
        go_roundw
        case rel => exact ⟨i + 1, by omega, by omega, by go_num, by rw [HD.out, badFrom_no hlt hok], hM.drewN _⟩
        case measure => simp only [intOf]; omega
    · have hrise : riseD m = -1 := by rw [HD.out, show m.ths.length - i = 0 by omega]; rfl
      have HR := Lib.hid hrise; clear hrise
      by_cases q3 : 32 < m.funcs.length
      · have n3 : decide ((32 : Int) < (m.funcs.length : Int)) = true := by simp; omega
        have HE := Lib.hid (mayD_3 Q1.out HR.out q3)
        go_wp2
        all_goals (try simp only [Exit.inBlock, Exit.then])
        refine ret_of ?_ rfl
        simp [results, Tryd.results26, go_sem, HE.out, r0, r1, r2, s0, s1, s2]
        go_light
        exact (by repeat (first | exact hM.below | with_reducible apply below_alloc | with_reducible apply below_drewN | with_reducible refine Below.setCell ?_ (by dsimp only; omega) _))
      have n3 : decide ((32 : Int) < (m.funcs.length : Int)) = false := by simp; omega
      have Q3 := Lib.hid q3; clear q3
      have hM0 := hM
      go_wp2
      clear n3 hi1 hi hM hlt d0 d1 r0 r1 r2 s0 s1 s2 lr
      go_loopw [47] (fun s wr => ∃ k : Nat, k ≤ m.funcs.length ∧ s = .int .i64 k ∧ wholeD m = badFrom (okWhole m) k (m.funcs.length - k) ∧ MMem w m wr) (fun s _ => m.funcs.length - (intOf s).toNat)
      case atStart => exact ⟨0, Nat.zero_le _, rfl, rfl, hM0⟩
      case round =>
        obtain ⟨k, hk, rfl, hE, hM⟩ := hrel
        have HD := Lib.hid hE; clear hE
        have d0 : wr.cell? ⟨w.heap.size, 0, none⟩ = some (.slice m.ta m.ths.length m.tc) := hM.bm.cell 0
        have d1 : wr.cell? ⟨w.heap.size, 1, none⟩ = some (.slice m.fa m.funcs.length m.fc) := hM.bm.cell 1
        have r0 : wr.cell? ⟨w.heap.size + 1, 0, none⟩ = some (.int .i64 0) := hM.br.cell 0
        have s0 := hM.br.frozen 0
        have r1 : wr.cell? ⟨w.heap.size + 1, 1, none⟩ = some (.int .i64 0) := hM.br.cell 1
        have s1 := hM.br.frozen 1
        have r2 : wr.cell? ⟨w.heap.size + 1, 2, none⟩ = some (.int .i64 0) := hM.br.cell 2
        have s2 := hM.br.frozen 2
        have lr := hM.br.lt
        by_cases hlt : k < m.funcs.length
        · cases hok : okWhole m k
          · have u1 : (wholeE m k != 0) = true := by simpa [okWhole] using hok
            have HE := Lib.hid (mayD_4 Q1.out HR.out Q3.out (by rw [HD.out, badFrom_yes hlt hok]))
            go_wp2_with (go_at_call 49; with_reducible refine (wholeP m k _ wm (hM.ok HM.out) hlt).mono ?_; rintro e w1 ⟨rfl, hb1⟩; have hM1 := hM.go hb1; obtain ⟨r10, r11, r12⟩ := hM1.r; have s10 := hM1.br.frozen 0; have s11 := hM1.br.frozen 1; have s12 := hM1.br.frozen 2)
            all_goals (try simp only [Exit.inBlock, Exit.then])
            refine ret_of ?_ rfl
            simp [results, Tryd.results26, go_sem, HE.out, r10, r11, r12, s10, s11, s12]
            go_light
            exact (by repeat (first | exact hM1.below | with_reducible apply below_alloc | with_reducible apply below_drewN | with_reducible refine Below.setCell ?_ (by dsimp only; omega) _))
          · have u1 : (wholeE m k != 0) = false := by simpa [okWhole] using hok
            go_wp2_with (go_at_call 49; with_reducible refine (wholeP m k _ wm (hM.ok HM.out) hlt).mono ?_; rintro e w1 ⟨rfl, hb1⟩; have hM1 := hM.go hb1; obtain ⟨r10, r11, r12⟩ := hM1.r; have s10 := hM1.br.frozen 0; have s11 := hM1.br.frozen 1; have s12 := hM1.br.frozen 2)
            go_roundw
            case rel => exact ⟨k + 1, by omega, by go_num, by rw [HD.out, badFrom_no hlt hok], hM1⟩
            case measure => simp only [intOf]; omega
        · obtain rfl : k = m.funcs.length := by omega
          have hwh : wholeD m = -1 := by rw [HD.out, Nat.sub_self]; rfl
          have HW := Lib.hid hwh; clear hwh
          have hM0 := hM
          go_wp2
          clear hk hM hlt d0 d1 r0 r1 r2 s0 s1 s2 lr
          go_loopw [66] (fun s wr => ∃ k : Nat, k ≤ m.funcs.length ∧ s = .int .i64 k ∧ codeD m = badFrom (okCode m) k (m.funcs.length - k) ∧ MMem w m wr) (fun s _ => m.funcs.length - (intOf s).toNat)
          case atStart => exact ⟨0, Nat.zero_le _, rfl, rfl, hM0⟩
          case round =>
            obtain ⟨k, hk, rfl, hE, hM⟩ := hrel
            have HD := Lib.hid hE; clear hE
            have d0 : wr.cell? ⟨w.heap.size, 0, none⟩ = some (.slice m.ta m.ths.length m.tc) := hM.bm.cell 0
            have d1 : wr.cell? ⟨w.heap.size, 1, none⟩ = some (.slice m.fa m.funcs.length m.fc) := hM.bm.cell 1
            have r0 : wr.cell? ⟨w.heap.size + 1, 0, none⟩ = some (.int .i64 0) := hM.br.cell 0
            have s0 := hM.br.frozen 0
            have r1 : wr.cell? ⟨w.heap.size + 1, 1, none⟩ = some (.int .i64 0) := hM.br.cell 1
            have s1 := hM.br.frozen 1
            have r2 : wr.cell? ⟨w.heap.size + 1, 2, none⟩ = some (.int .i64 0) := hM.br.cell 2
            have s2 := hM.br.frozen 2
            have lr := hM.br.lt
            by_cases hlt : k < m.funcs.length
            · obtain ⟨fb, fo, hfa, hfb, z0, z1, z2, z3, z4⟩ := funcs_cells (HM.out.funcs.below hM.below (Nat.le_refl _)) hlt
              have wfk := nthF_wfM wm hlt
              have hclen := wfk.clen
              have hc0 := whole_code HW.out hlt
              rw [hfa] at d1
              have HFA := Lib.hid hfa
              have hM0 := hM.alloc (.cells #[.string (nthF m.funcs k).name, .slice (nthF m.funcs k).pa (nthF m.funcs k).params.length (nthF m.funcs k).pc, .int .i64 (nthF m.funcs k).regs, .int .i64 (nthF m.funcs k).words, .slice (nthF m.funcs k).ca (nthF m.funcs k).code.length (nthF m.funcs k).cc] 48)
              have hG0 := Whl.new wr 48 #[.string (nthF m.funcs k).name, .slice (nthF m.funcs k).pa (nthF m.funcs k).params.length (nthF m.funcs k).pc, .int .i64 (nthF m.funcs k).regs, .int .i64 (nthF m.funcs k).words, .slice (nthF m.funcs k).ca (nthF m.funcs k).code.length (nthF m.funcs k).cc]
              rw [hfa]
              clear hfa
              go_wp2
              obtain ⟨g8, hg8⟩ : ∃ g, wr.heap.size = g := ⟨_, rfl⟩
              rw [hg8] at hG0 lr ⊢
              have HLR := Lib.hid lr
              clear z0 z1 z2 z3 z4 d0 d1 r0 r1 r2 s0 s1 s2 lr hfb hM hg8
              go_loopw [74] (fun s wr => ∃ i : Nat, i ≤ (nthF m.funcs k).code.length ∧ s = .int .i64 i ∧ firstIns m k = badFrom (okIns m k) i ((nthF m.funcs k).code.length - i) ∧ MMem w m wr ∧ Whl wr g8 48 #[.string (nthF m.funcs k).name, .slice (nthF m.funcs k).pa (nthF m.funcs k).params.length (nthF m.funcs k).pc, .int .i64 (nthF m.funcs k).regs, .int .i64 (nthF m.funcs k).words, .slice (nthF m.funcs k).ca (nthF m.funcs k).code.length (nthF m.funcs k).cc]) (fun s _ => (nthF m.funcs k).code.length - (intOf s).toNat)
              case atStart => exact ⟨0, Nat.zero_le _, rfl, rfl, hM0, hG0⟩
              case round =>
                obtain ⟨i, hi, rfl, hE, hM, hG⟩ := hrel
                have HI := Lib.hid hE; clear hE
                have d0 : wr.cell? ⟨w.heap.size, 0, none⟩ = some (.slice m.ta m.ths.length m.tc) := hM.bm.cell 0
                have d1 : wr.cell? ⟨w.heap.size, 1, none⟩ = some (.slice m.fa m.funcs.length m.fc) := hM.bm.cell 1
                have r0 : wr.cell? ⟨w.heap.size + 1, 0, none⟩ = some (.int .i64 0) := hM.br.cell 0
                have s0 := hM.br.frozen 0
                have r1 : wr.cell? ⟨w.heap.size + 1, 1, none⟩ = some (.int .i64 0) := hM.br.cell 1
                have s1 := hM.br.frozen 1
                have r2 : wr.cell? ⟨w.heap.size + 1, 2, none⟩ = some (.int .i64 0) := hM.br.cell 2
                have s2 := hM.br.frozen 2
                have lr := hM.br.lt
                have c0 : wr.cell? ⟨g8, 0, none⟩ = some (.string (nthF m.funcs k).name) := hG.cell 0
                have c1 : wr.cell? ⟨g8, 1, none⟩ = some (.slice (nthF m.funcs k).pa (nthF m.funcs k).params.length (nthF m.funcs k).pc) := hG.cell 1
                have c2 : wr.cell? ⟨g8, 2, none⟩ = some (.int .i64 (nthF m.funcs k).regs) := hG.cell 2
                have c3 : wr.cell? ⟨g8, 3, none⟩ = some (.int .i64 (nthF m.funcs k).words) := hG.cell 3
                have c4 : wr.cell? ⟨g8, 4, none⟩ = some (.slice (nthF m.funcs k).ca (nthF m.funcs k).code.length (nthF m.funcs k).cc) := hG.cell 4
                have lg := hG.lt
                have lm := hM.bm.lt
                have hlr := HLR.out
                by_cases hlti : i < (nthF m.funcs k).code.length
                · obtain ⟨cb, co, hca, hcb, hcc⟩ := ((HM.out.each k hlt).code.below hM.below (Nat.le_refl _)) (by omega)
                  have i0 : wr.cell? ⟨cb, co + i * 5, none⟩ = some (.int .i64 (nthX (nthF m.funcs k).code i).op) := hcc i hlti 0 (by omega)
                  have i1 : wr.cell? ⟨cb, co + i * 5 + 1, none⟩ = some (.int .i64 (nthX (nthF m.funcs k).code i).a) := hcc i hlti 1 (by omega)
                  have i2 : wr.cell? ⟨cb, co + i * 5 + 2, none⟩ = some (.int .i64 (nthX (nthF m.funcs k).code i).b) := hcc i hlti 2 (by omega)
                  have i3 : wr.cell? ⟨cb, co + i * 5 + 3, none⟩ = some (.int .i64 (nthX (nthF m.funcs k).code i).c) := hcc i hlti 3 (by omega)
                  have i4 : wr.cell? ⟨cb, co + i * 5 + 4, none⟩ = some (.int .i64 (nthX (nthF m.funcs k).code i).n) := hcc i hlti 4 (by omega)
                  have lc : cb < wr.heap.size := Nat.lt_of_lt_of_le hcb hM.below.size
                  have wx := nthX_wfL wfk.code hlti
                  have hMi := hM.alloc (.cells #[.int .i64 (nthX (nthF m.funcs k).code i).op, .int .i64 (nthX (nthF m.funcs k).code i).a, .int .i64 (nthX (nthF m.funcs k).code i).b, .int .i64 (nthX (nthF m.funcs k).code i).c, .int .i64 (nthX (nthF m.funcs k).code i).n] 65)
                  have hGi := hG.alloc (.cells #[.int .i64 (nthX (nthF m.funcs k).code i).op, .int .i64 (nthX (nthF m.funcs k).code i).a, .int .i64 (nthX (nthF m.funcs k).code i).b, .int .i64 (nthX (nthF m.funcs k).code i).c, .int .i64 (nthX (nthF m.funcs k).code i).n] 65)
                  clear hcc
                  cases hok : okIns m k i
                  · have u1 : (insErr m (nthF m.funcs k) (nthX (nthF m.funcs k).code i) != 0) = true := by simpa [okIns] using hok
                    obtain ⟨E1, E2, E3⟩ := code_ins (m := m) (k := k) (i := i) (by rw [HI.out, badFrom_yes hlti hok]) (by simpa [okIns] using hok)
                    have HE := Lib.hid (mayD_5 Q1.out HR.out Q3.out HW.out (by rw [HD.out, badFrom_yes hlt E3]))
                    have H1 := Lib.hid E1
                    have H2 := Lib.hid E2
                    clear E1 E2 E3
                    rw [hca]
                    have HCA := Lib.hid hca
                    clear hca
                    go_wp2_with (go_at_call 50; with_reducible refine (insP m (nthF m.funcs k) (nthX (nthF m.funcs k).code i) _ wm wfk wx (hMi.ok HM.out) (hMi.tab HT.out)).mono ?_; rintro e w1 ⟨rfl, hb1⟩; have hM1 := hMi.go hb1; have hG1 := hGi.below' hb1; obtain ⟨r10, r11, r12⟩ := hM1.r; have s10 := hM1.br.frozen 0; have s11 := hM1.br.frozen 1; have s12 := hM1.br.frozen 2)
                    all_goals (try simp only [Exit.inBlock, Exit.then])
                    refine ret_of ?_ rfl
                    simp [results, Tryd.results26, go_sem, HE.out, H1.out, H2.out, r10, r11, r12, s10, s11, s12]
                    go_light
                    exact (by repeat (first | exact hM1.below | with_reducible apply below_alloc | with_reducible apply below_drewN | with_reducible refine Below.setCell ?_ (by dsimp only; omega) _))
                  · have u1 : (insErr m (nthF m.funcs k) (nthX (nthF m.funcs k).code i) != 0) = false := by simpa [okIns] using hok
                    rw [hca]
                    have HCA := Lib.hid hca
                    clear hca
                    go_wp2_with (go_at_call 50; with_reducible refine (insP m (nthF m.funcs k) (nthX (nthF m.funcs k).code i) _ wm wfk wx (hMi.ok HM.out) (hMi.tab HT.out)).mono ?_; rintro e w1 ⟨rfl, hb1⟩; have hM1 := hMi.go hb1; have hG1 := hGi.below' hb1; obtain ⟨r10, r11, r12⟩ := hM1.r; have s10 := hM1.br.frozen 0; have s11 := hM1.br.frozen 1; have s12 := hM1.br.frozen 2)
                    go_roundw
                    case rel => exact ⟨i + 1, by omega, by go_num, by rw [HI.out, badFrom_no hlti hok], hM1, by rw [← HCA.out]; exact hG1⟩
                    case measure => simp only [intOf]; omega
                · obtain rfl : i = (nthF m.funcs k).code.length := by omega
                  have hf1 : firstIns m k = -1 := by rw [HI.out, Nat.sub_self]; rfl
                  obtain ⟨cb, co, hca, hcb, hcc⟩ := ((HM.out.each k hlt).code.below hM.below (Nat.le_refl _)) (by omega)
                  have i0 : wr.cell? ⟨cb, co + ((nthF m.funcs k).code.length - 1) * 5, none⟩ = some (.int .i64 (lastOp m k)) := hcc ((nthF m.funcs k).code.length - 1) (by omega) 0 (by omega)
                  have hsub : IntKind.i64.wrap (((nthF m.funcs k).code.length : Int) - 1) = (((nthF m.funcs k).code.length - 1 : Nat) : Int) := by simp [IntKind.wrap, IntKind.bits, IntKind.signed]; omega
                  have hsub2 : wrap64 (((nthF m.funcs k).code.length : Int) - 1) = (((nthF m.funcs k).code.length - 1 : Nat) : Int) := by unfold wrap64; omega
                  have hsub3 : ((nthF m.funcs k).code.length : Int) - 1 = (((nthF m.funcs k).code.length - 1 : Nat) : Int) := by omega
                  have HS3 := Lib.hid hsub3
                  have h10 : (0 : Int) ≤ (((nthF m.funcs k).code.length - 1 : Nat) : Int) := by omega
                  have h11 : (((nthF m.funcs k).code.length - 1 : Nat) : Int) < ((nthF m.funcs k).code.length : Int) := by omega
                  clear hcc hi
                  rw [hca] at c4
                  cases v0 : (lastOp m k == 0)
                  · cases v1 : (lastOp m k == 14)
                    · cases v2 : (lastOp m k == 18)
                      · obtain ⟨E1, E2, E3⟩ := code_end hf1 (by simp only [endsOk, v0, v1, v2, Bool.or_false])
                        have HE := Lib.hid (mayD_5 Q1.out HR.out Q3.out HW.out (by rw [HD.out, badFrom_yes hlt E3]))
                        have H1 := Lib.hid E1
                        have H2 := Lib.hid E2
                        clear E1 E2 E3
                        go_wp2
                        all_goals (try simp only [Exit.inBlock, Exit.then])
                        refine ret_of ?_ rfl
                        simp [results, Tryd.results26, go_sem, HE.out, H1.out, H2.out, HS3.out, r0, r1, r2, s0, s1, s2]
                        go_light
                        exact (by repeat (first | exact hM.below | with_reducible apply below_alloc | with_reducible apply below_drewN | with_reducible refine Below.setCell ?_ (by dsimp only; omega) _))
                      · have hcok := code_ok hf1 (by simp only [endsOk, v0, v1, v2, Bool.or_true])
                        go_wp2
                        try rw [← HFA.out]
                        go_roundw
                        case rel => exact ⟨k + 1, by omega, by go_num, by rw [HD.out, badFrom_no hlt hcok], hM⟩
                        case measure => simp only [intOf]; omega
                    · have hcok := code_ok hf1 (by simp only [endsOk, v0, v1, Bool.or_true, Bool.true_or])
                      go_wp2
                      try rw [← HFA.out]
                      go_roundw
                      case rel => exact ⟨k + 1, by omega, by go_num, by rw [HD.out, badFrom_no hlt hcok], hM⟩
                      case measure => simp only [intOf]; omega
                  · have hcok := code_ok hf1 (by simp only [endsOk, v0, Bool.true_or])
                    go_wp2
                    try rw [← HFA.out]
                    go_roundw
                    case rel => exact ⟨k + 1, by omega, by go_num, by rw [HD.out, badFrom_no hlt hcok], hM⟩
                    case measure => simp only [intOf]; omega
            · obtain rfl : k = m.funcs.length := by omega
              have HE := Lib.hid (mayD_6 Q1.out HR.out Q3.out HW.out (by rw [HD.out, Nat.sub_self]; rfl))
              go_wp2
              all_goals (try simp only [Exit.inBlock, Exit.then])
              refine ret_of ?_ rfl
              simp [results, Tryd.results26, go_sem, HE.out, r0, r1, r2, s0, s1, s2]
              go_light
              exact (by repeat (first | exact hM.below | with_reducible apply below_alloc | with_reducible apply below_drewN | with_reducible refine Below.setCell ?_ (by dsimp only; omega) _))
end Go.Proofs.YtddobhneplfddaaDoor

namespace Go.Proofs.YtddobhneplfddaaDoor
set_option maxRecDepth 100000
open Go.RowKit
set_option linter.unusedSimpArgs false
set_option linter.unusedVariables false
theorem badFrom_cases (p : Nat → Bool) (n : Nat) : ∀ k, (badFrom p k n = -1 ∧ ∀ j, k ≤ j → j < k + n → p j = true) ∨ ∃ j : Nat, k ≤ j ∧ j < k + n ∧ badFrom p k n = j ∧ p j = false := by
  induction n with
  | zero => intro k; exact .inl ⟨rfl, fun j h1 h2 => by omega⟩
  | succ n ih =>
    intro k
    cases hk : p k
    · exact .inr ⟨k, Nat.le_refl _, by omega, by simp [badFrom, hk], hk⟩
    · rcases ih (k + 1) with ⟨h1, h2⟩ | ⟨j, h1, h2, h3, h4⟩
      · refine .inl ⟨by simp [badFrom, hk, h1], fun j h3 h4 => ?_⟩
        rcases Nat.eq_or_lt_of_le h3 with rfl | h5
        · exact hk
        · exact h2 j (by omega) (by omega)
      · exact .inr ⟨j, by omega, by omega, by simp [badFrom, hk, h3], h4⟩
theorem findFrom_cases (fs : List FuncD) (s : ByteArray) (n : Nat) : ∀ k, (findFrom fs s k n = -1 ∧ ∀ j, k ≤ j → j < k + n → eqN (nthF fs j).name s = false) ∨ ∃ j : Nat, k ≤ j ∧ j < k + n ∧ findFrom fs s k n = j ∧ eqN (nthF fs j).name s = true ∧ ∀ i, k ≤ i → i < j → eqN (nthF fs i).name s = false := by
  induction n with
  | zero => intro k; exact .inl ⟨rfl, fun j h1 h2 => by omega⟩
  | succ n ih =>
    intro k
    cases hk : eqN (nthF fs k).name s
    · rcases ih (k + 1) with ⟨h1, h2⟩ | ⟨j, h1, h2, h3, h4, h5⟩
      · refine .inl ⟨by simp only [findFrom, hk]; simpa using h1, fun j h3 h4 => ?_⟩
        rcases Nat.eq_or_lt_of_le h3 with rfl | h5
        · exact hk
        · exact h2 j (by omega) (by omega)
      · refine .inr ⟨j, by omega, by omega, by simp only [findFrom, hk]; simpa using h3, h4, fun i h6 h7 => ?_⟩
        rcases Nat.eq_or_lt_of_le h6 with rfl | h8
        · exact hk
        · exact h5 i (by omega) h7
    · exact .inr ⟨k, Nat.le_refl _, by omega, by simp only [findFrom, hk, if_true], hk, fun i h1 h2 => by omega⟩
theorem may_all {m : ModD} (h : mayD m = ⟨0, 0, 0⟩) : ∀ i, i < m.funcs.length → wholeE m i = 0 ∧ codeE m i = 0 := by
  unfold mayD at h
  split at h
  · simp at h
  split at h
  · simp at h
  split at h
  · simp at h
  rcases badFrom_cases (okWhole m) m.funcs.length 0 with ⟨a1, a2⟩ | ⟨j, b1, b2, b3, b4⟩
  · rw [if_neg (by show ¬ wholeD m ≠ -1; unfold wholeD; rw [a1]; simp)] at h
    rcases badFrom_cases (okCode m) m.funcs.length 0 with ⟨c1, c2⟩ | ⟨j, b1, b2, b3, b4⟩
    · intro i hi
      have h1 := a2 i (Nat.zero_le _) (by omega)
      have h2 := c2 i (Nat.zero_le _) (by omega)
      exact ⟨by simpa [okWhole] using h1, by simpa [okCode] using h2⟩
    · have hd : codeD m = j := b3
      rw [if_pos (by rw [hd]; omega), hd] at h
      simp only [FaultD.mk.injEq, Int.toNat_natCast] at h
      simp [okCode, h.1] at b4
  · have hd : wholeD m = j := b3
    rw [if_pos (by rw [hd]; omega), hd] at h
    simp only [FaultD.mk.injEq, Int.toNat_natCast] at h
    simp [okWhole, h.1] at b4
/-- What a function of a module that may be is like. -/
structure FOk (m : ModD) (i : Nat) : Prop where
  find : findD m.funcs (nthF m.funcs i).name = i
  few : (nthF m.funcs i).params.length ≤ 8
  regs : 1 ≤ (nthF m.funcs i).regs ∧ (nthF m.funcs i).regs ≤ 64 ∧ ((nthF m.funcs i).params.length : Int) ≤ (nthF m.funcs i).regs
  ins : ∀ k, k < (nthF m.funcs i).code.length → insErr m (nthF m.funcs i) (nthX (nthF m.funcs i).code k) = 0
  last : endsOk (lastOp m i) = true
theorem f_ok {m : ModD} (h : mayD m = ⟨0, 0, 0⟩) {i : Nat} (hi : i < m.funcs.length) : FOk m i := by
  obtain ⟨hw, hc⟩ := may_all h i hi
  unfold wholeE at hw
  split at hw
  · simp at hw
  split at hw
  · simp at hw
  rename_i hnf
  split at hw
  · simp at hw
  rename_i hfew
  split at hw
  · simp at hw
  unfold restErr at hw
  split at hw
  · simp at hw
  rename_i hreg
  unfold codeE at hc
  refine ⟨?_, by omega, by omega, ?_, ?_⟩
  · rcases findFrom_cases m.funcs (nthF m.funcs i).name m.funcs.length 0 with ⟨a1, a2⟩ | ⟨j, b1, b2, b3, b4, b5⟩
    · have := a2 i (Nat.zero_le _) (by omega)
      simp [eqN] at this
    · have hd : findD m.funcs (nthF m.funcs i).name = j := b3
      rw [hd] at hnf ⊢
      rcases Nat.lt_or_ge i j with q | q
      · have := b5 i (Nat.zero_le _) q
        simp [eqN] at this
      · omega
  · rcases badFrom_cases (okIns m i) (nthF m.funcs i).code.length 0 with ⟨a1, a2⟩ | ⟨j, b1, b2, b3, b4⟩
    · intro k hk
      have := a2 k (Nat.zero_le _) (by omega)
      simpa [okIns] using this
    · have hd : firstIns m i = j := b3
      rw [if_pos (by rw [hd]; omega), hd, Int.toNat_natCast] at hc
      simp [okIns, hc] at b4
  · rcases badFrom_cases (okIns m i) (nthF m.funcs i).code.length 0 with ⟨a1, a2⟩ | ⟨j, b1, b2, b3, b4⟩
    · have hd : firstIns m i = -1 := a1
      rw [if_neg (by rw [hd]; simp)] at hc
      split at hc
      · assumption
      · simp at hc
    · have hd : firstIns m i = j := b3
      rw [if_pos (by rw [hd]; omega), hd, Int.toNat_natCast] at hc
      simp [okIns, hc] at b4
/-- What an instruction of a module that may be is like. -/
structure IOk (m : ModD) (f : FuncD) (x : InsD) : Prop where
  known : known x.op = true
  a : (row x.op.toNat).a = true → 0 ≤ x.a ∧ x.a < f.regs
  b : (row x.op.toNat).b = true → 0 ≤ x.b ∧ x.b < f.regs
  c : (row x.op.toNat).c = true → 0 ≤ x.c ∧ x.c < f.regs
  n : nErr (row x.op.toNat) m f x = 0
theorem fld_ok {has : Bool} {r regs : Int} (h : fldErr has r regs = 0) : has = true → 0 ≤ r ∧ r < regs := fun hh => by
  unfold fldErr at h
  rw [if_pos hh] at h
  split at h
  · simp at h
  · omega
theorem i_ok {m : ModD} {f : FuncD} {x : InsD} (h : insErr m f x = 0) : IOk m f x := by
  unfold insErr at h
  split at h
  · rename_i hk
    split at h
    · rename_i h3
      have e3 : fldsErr (row x.op.toNat) x f.regs 2 = 0 := by
        by_cases q : fldsErr (row x.op.toNat) x f.regs 2 = 0
        · exact q
        · simp only [fldsErr] at h3 q; rw [if_neg q] at h3; exact absurd h3 q
      have e2 : fldsErr (row x.op.toNat) x f.regs 1 = 0 := by
        by_cases q : fldsErr (row x.op.toNat) x f.regs 1 = 0
        · exact q
        · simp only [fldsErr] at e3 q; rw [if_neg q] at e3; exact absurd e3 q
      have g2 : fldErr (row x.op.toNat).c x.c f.regs = 0 := by
        have : fldsErr (row x.op.toNat) x f.regs 3 = fldErr (row x.op.toNat).c x.c f.regs := by rw [fldsErr, if_pos e3]; rfl
        rw [← this]; exact h3
      have g1 : fldErr (row x.op.toNat).b x.b f.regs = 0 := by
        have : fldsErr (row x.op.toNat) x f.regs 2 = fldErr (row x.op.toNat).b x.b f.regs := by rw [fldsErr, if_pos e2]; rfl
        rw [← this]; exact e3
      have g0 : fldErr (row x.op.toNat).a x.a f.regs = 0 := e2
      exact ⟨hk, fld_ok g0, fld_ok g1, fld_ok g2, h⟩
    · rename_i h3; exact absurd h h3
  · simp at h
end Go.Proofs.YtddobhneplfddaaDoor

namespace Go.Proofs.YtddobhneplfddaaDoor
set_option maxRecDepth 100000
open Go.RowKit
set_option linter.unusedSimpArgs false
set_option linter.unusedVariables false
theorem nthF_mem {l : List FuncD} {k : Nat} (h : k < l.length) : nthF l k ∈ l := by simp [nthF, h]
theorem nthX_mem {l : List InsD} {k : Nat} (h : k < l.length) : nthX l k ∈ l := by simp [nthX, h]
theorem atS_of {r : List Sp} {k : Nat} {s : Sp} (h : r[k]? = some s) : atS r (k : Int) = s := by
  rw [atS, Int.toNat_natCast, List.getD_eq_getElem?_getD, h]; rfl
theorem nat_of {a n : Int} (h : 0 ≤ a ∧ a < n) : ∃ k : Nat, a = (k : Int) ∧ (k : Int) < n := ⟨a.toNat, by omega, by omega⟩
theorem get_of {r : List Sp} {k : Nat} {n : Int} (hr : (r.length : Int) = n) (hk : (k : Int) < n) : ∃ s, r[k]? = some s := ⟨_, List.getElem?_eq_getElem (by omega)⟩
theorem may_few {m : ModD} (h : mayD m = ⟨0, 0, 0⟩) : m.ths.length ≤ 16 ∧ m.funcs.length ≤ 32 := by
  unfold mayD at h
  split at h
  · simp at h
  split at h
  · simp at h
  split at h
  · simp at h
  constructor <;> omega
/-- What a function of a module that may be is like, besides. -/
theorem f_ok2 {m : ModD} (h : mayD m = ⟨0, 0, 0⟩) {i : Nat} (hi : i < m.funcs.length) :
    (0 ≤ (nthF m.funcs i).words ∧ (nthF m.funcs i).words ≤ 4096) ∧ (1 ≤ (nthF m.funcs i).code.length ∧ (nthF m.funcs i).code.length ≤ 1024) ∧ ∀ k, k < (nthF m.funcs i).params.length → (nthS (nthF m.funcs i).params k).lo ≤ (nthS (nthF m.funcs i).params k).hi := by
  obtain ⟨hw, _⟩ := may_all h i hi
  unfold wholeE at hw
  split at hw
  · simp at hw
  split at hw
  · simp at hw
  split at hw
  · simp at hw
  split at hw
  · simp at hw
  rename_i hne
  unfold restErr at hw
  split at hw
  · simp at hw
  split at hw
  · simp at hw
  split at hw
  · simp at hw
  refine ⟨by omega, by omega, fun k hk => ?_⟩
  have he : emptyD (nthF m.funcs i).params = -1 := Classical.byContradiction hne
  have := badFrom_all _ 0 he k (by omega) (by omega)
  simpa [okSp] using this
theorem n_checked {m : ModD} {f : FuncD} {a b c n : Int} (h : IOk m f ⟨13, a, b, c, n⟩) : 1 ≤ n ∧ n ≤ 4096 := by
  have := h.n
  unfold nErr at this
  simp only [show (row (13 : Int).toNat).n = 3 from rfl] at this
  simp at this
  omega
theorem n_called {m : ModD} (hm : mayD m = ⟨0, 0, 0⟩) {f : FuncD} {a b c n : Int} (h : IOk m f ⟨19, a, b, c, n⟩) (hr : f.regs ≤ 64) : (0 ≤ n ∧ n < m.funcs.length) ∧ b + (nthF m.funcs n.toNat).params.length ≤ f.regs := by
  have h1 := h.n
  have hb := h.b rfl
  unfold nErr at h1
  simp only [show (row (19 : Int).toNat).n = 4 from rfl] at h1
  simp at h1
  have h2 : 0 ≤ n ∧ n < m.funcs.length := by omega
  have h3 := (f_ok hm (i := n.toNat) (by omega)).few
  have e : wrap64 (b + (nthF m.funcs n.toNat).params.length) = b + (nthF m.funcs n.toNat).params.length := IntWalk.wrap64_in _ (by simp only at hb; omega)
  simp only at hb
  omega
theorem op_cases {op : Int} (h : known op = true) : op = 0 ∨ op = 1 ∨ op = 2 ∨ op = 3 ∨ op = 4 ∨ op = 5 ∨ op = 6 ∨ op = 7 ∨ op = 8 ∨ op = 9 ∨ op = 10 ∨ op = 11 ∨ op = 12 ∨ op = 13 ∨ op = 14 ∨ op = 15 ∨ op = 16 ∨ op = 17 ∨ op = 18 ∨ op = 19 := by
  simp only [known, Bool.and_eq_true, decide_eq_true_eq] at h
  omega
end Go.Proofs.YtddobhneplfddaaDoor
