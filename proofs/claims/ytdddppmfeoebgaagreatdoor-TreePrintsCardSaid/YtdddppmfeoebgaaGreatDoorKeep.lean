/-
  What every law's proof of this seat uses: from a walk that ends in 'true' and in 'Below' to the row's own post. No idea of the program stands in it.
-/
import Derived.Test.YtdddppmfeoebgaaGreatDoorRows
import Derived.WalkKit
import Derived.WalkSpells
import Derived.WalkLawsBesides
import Derived.ProofKit
import Derived.OpenShut
import Derived.OpenVars
import Derived.Carry
import Derived.JoinedCond
import Derived.Deep.DeepHandedRow
import Derived.Lib.Hide
import Derived.Deep.Light
import Derived.Outline
import Derived.Deep.RegionHeld3
import Derived.Deep.DrawnRows
namespace Go.Proofs.YtdddppmfeoebgaaGreatDoor
open Go.ChangeShapes Go.WideShapes Go.ChangeAt Go.RowKit Go.WideElems

/-- A return whose results the walk's set reckons. -/
theorem ret_of {P : Program} {fn : Func} {R : Ending → World → Prop} {a : Act} {w : World}
    (h : ∃ v, (results fn a.tmps).run P w = .ok v w ∧ R (.returned v) w) (hd : a.defers = []) : bodyPost P fn R .ret a w := by
  obtain ⟨v, h1, h2⟩ := h
  exact bodyPost_ret h1 hd h2

/-- Old cells and marks read as before. -/
theorem bcell {W w1 : World} (hb : Below W.heap.size W w1) : (∀ b o, b < W.heap.size → w1.cell? ⟨b, o, none⟩ = W.cell? ⟨b, o, none⟩) ∧ (∀ b o, b < W.heap.size → w1.frozen? ⟨b, o, none⟩ = W.frozen? ⟨b, o, none⟩) :=
  ⟨fun b o h => hb.cell (p := ⟨b, o, none⟩) h, fun b o h => hb.frozen (p := ⟨b, o, none⟩) h⟩

/-- Block g is known whole: it holds just these cells, of type t, none of them frozen. -/
def Whl (w : World) (g : Nat) (t : TypeId) (cs : Array Value) : Prop := w.heap[g]? = some (.cells cs t (0, 0))
namespace Whl
variable {w w' : World} {g : Nat} {t : TypeId} {cs : Array Value}
theorem lt (h : Whl w g t cs) : g < w.heap.size := by
  rcases Nat.lt_or_ge g w.heap.size with k | k
  · exact k
  · unfold Whl at h; rw [Array.getElem?_eq_none k] at h; cases h
theorem cell (h : Whl w g t cs) (i : Nat) : w.cell? ⟨g, i, none⟩ = cs[i]? := by
  unfold Whl at h
  simp [World.cell?, h]
theorem frozen (h : Whl w g t cs) (i : Nat) : w.frozen? ⟨g, i, none⟩ = false := by
  unfold Whl at h
  simp [World.frozen?, h]
theorem new (w : World) (t : TypeId) (cs : Array Value) : Whl (w.alloc (.cells cs t)) w.heap.size t cs := by
  show (w.heap.push _)[w.heap.size]? = _
  simp
theorem alloc (h : Whl w g t cs) (o : Obj) : Whl (w.alloc o) g t cs := (Below.heap_alloc w o g h.lt).trans h
theorem drew (h : Whl w g t cs) : Whl w.drew g t cs := h
theorem drewN (h : Whl w g t cs) (n : Nat) : Whl (w.drewN n) g t cs := h
theorem put (h : Whl w g t cs) (i : Nat) (u : Value) : Whl (w.setCell ⟨g, i, none⟩ u) g t (cs.setIfInBounds i u) := by
  unfold Whl at h ⊢
  simp [World.setCell, Array.getElem?_modify, h]
theorem far (h : Whl w g t cs) {p : Addr} (hp : g ≠ p.block) (u : Value) : Whl (w.setCell p u) g t cs := (Below.heap_setCell w p u g hp).trans h
theorem below {B : Nat} (h : Whl w g t cs) (hb : Below B w w') (hg : g < B) : Whl w' g t cs := (hb.block g hg).trans h
theorem below' (h : Whl w g t cs) (hb : Below w.heap.size w w') : Whl w' g t cs := (hb.block g h.lt).trans h
theorem grown {row : Option Nat} (h : Whl w g t cs) (hb : w.grownBy w' row) (hg : some g ≠ row) : Whl w' g t cs := (hb.block g h.lt hg).trans h
end Whl

theorem laidOut : laidOutB Tryz.prog = true := by kernel_rfl
theorem own : ownKnob Tryz.prog.godebug = none := by kernel_rfl

/-- Each type of the list can be read and is a row of the table. -/
def typesRowed (P : Program) (ts : List TypeId) : Bool := ts.all fun t => P.readableRec t && decide (t < P.types.size)

section
variable {H : Type} {enc : TypeId × Value → H} {P : Program}

/-- The arguments read behind the call as they did before, where below the heap's old size nothing has turned. -/
theorem below_trodAll (hl : laidOutB P = true) {W W' : World} (hb : Below W.heap.size W W') :
    ∀ {ts : List TypeId} {vs : List Value} {ds : List (DataW H)} {ps : List MemPlace}, typesRowed P ts = true → (∀ x ∈ ps, x.block < W.heap.size) →
      DataW.TrodAll enc P W 0 (fun _ => true) true ts vs ds ps → DataW.TrodAll enc P W' 0 (fun b => decide (b < W.heap.size)) true ts vs ds ps
  | [], _, _, _, _, _, h => by
    obtain ⟨rfl, rfl, rfl⟩ := trodAll_nil h
    exact rfl
  | t :: ts, _, _, ps, hr, hlt, h => by
    obtain ⟨v, vs, d, ds, p, q, rfl, rfl, rfl, h0, r0⟩ := trodAll_cons h
    simp only [typesRowed, List.all_cons, Bool.and_eq_true, decide_eq_true_eq] at hr
    exact ⟨p, q, Below.trod hl hr.1.1 hr.1.2 h0 hb (fun x hx => hlt x (by simp [hx])), below_trodAll hl hb (by simpa [typesRowed] using hr.2) (fun x hx => hlt x (by simp [hx])) r0, rfl⟩

/-- THE ROW's LAST STEP of a law: the call has answered true, and below the heap's old size nothing has turned. -/
theorem law_post {f : Func} {s : ChangeSpec} {W W' : World} {args : Array Value} {ds gs : List (DataW H)} {before : List MemPlace} {tb : TypeId}
    (hl : laidOutB P = true) (ht : typesRowed P f.params.toList = true) (hv : varsRowed P s.vars = true) (hrt : f.resultTypes = #[tb]) (hbool : P.underlying tb = some .bool)
    (hW : DataW.Whole enc P f.params.toList s.vars false W args.toList ds gs before)
    (hr : (s.fn H (ds ++ gs)).results = [.lit (.bool true)]) (ha : (s.fn H (ds ++ gs)).args = ds) (hva : (s.fn H (ds ++ gs)).vars = gs)
    (hb : Below W.heap.size W W') : s.post enc P f false true false false W args (.bool true) W' := by
  have hW' := hW
  obtain ⟨p, q, hA, hV, rfl, hz, hn⟩ := hW
  have hlt : ∀ x ∈ p ++ q, x.block < W.heap.size := fun x hx => hW'.lt x hx
  refine ⟨ds, gs, p ++ q, [], p, q, hW', ?_, ?_, ?_, World.keptBut_mono (fun x hx => ⟨hx, by simpa using hx⟩) (hb.frame (· ∈ p ++ q)), fun h => by cases h⟩
  · rw [hr, hrt]
    exact trodAll_mk1 (shut_bool hbool true)
  · rw [ha]
    exact below_trodAll hl hb ht (fun x hx => hlt x (by simp [hx])) hA
  · rw [hva]
    exact Below.trodVars hl hb hv hV
end
end Go.Proofs.YtdddppmfeoebgaaGreatDoor

/-
  Small facts on new blocks, and on slices of integers that are read.
-/
namespace Go.Proofs.YtdddppmfeoebgaaGreatDoor
open Go.RowKit
theorem Whl.new1 (w : World) (o : Obj) (t : TypeId) (cs : Array Value) : Whl ((w.alloc o).alloc (.cells cs t)) (w.heap.size + 1) t cs := by
  have := Whl.new (w.alloc o) t cs
  rwa [World.size_alloc] at this
theorem Whl.new2 (w : World) (o p : Obj) (t : TypeId) (cs : Array Value) : Whl (((w.alloc o).alloc p).alloc (.cells cs t)) (w.heap.size + 1 + 1) t cs := by
  have := Whl.new1 (w.alloc o) p t cs
  rwa [World.size_alloc] at this
theorem Whl.new3 (w : World) (o p q : Obj) (t : TypeId) (cs : Array Value) : Whl ((((w.alloc o).alloc p).alloc q).alloc (.cells cs t)) (w.heap.size + 1 + 1 + 1) t cs := by
  have := Whl.new2 (w.alloc o) p q t cs
  rwa [World.size_alloc] at this
theorem Whl.new4 (w : World) (o p q r : Obj) (t : TypeId) (cs : Array Value) : Whl (((((w.alloc o).alloc p).alloc q).alloc r).alloc (.cells cs t)) (w.heap.size + 1 + 1 + 1 + 1) t cs := by
  have := Whl.new3 (w.alloc o) p q r t cs
  rwa [World.size_alloc] at this

/-- A rule for the walk ('attribute [local go_sem] lt_add_of'): what lies below a size lies below every greater one. -/
theorem lt_add_of {a b k : Nat} (h : a < b) : (a < b + k) = True := by simp; omega
theorem le_add_of {a b k : Nat} (h : a < b) : (a ≤ b + k) = True := by simp; omega
theorem lt_add2 {a b : Nat} (h : a < b) : (a < b + 1 + 1) = True := by simp; omega
theorem le_add2 {a b : Nat} (h : a < b) : (a ≤ b + 1 + 1) = True := by simp; omega
theorem lt_add3 {a b : Nat} (h : a < b) : (a < b + 1 + 1 + 1) = True := by simp; omega
theorem le_add3 {a b : Nat} (h : a < b) : (a ≤ b + 1 + 1 + 1) = True := by simp; omega
theorem lt_add4 {a b : Nat} (h : a < b) : (a < b + 1 + 1 + 1 + 1) = True := by simp; omega
theorem le_add4 {a b : Nat} (h : a < b) : (a ≤ b + 1 + 1 + 1 + 1) = True := by simp; omega
theorem lt_add5 {a b : Nat} (h : a < b) : (a < b + 1 + 1 + 1 + 1 + 1) = True := by simp; omega
theorem le_add5 {a b : Nat} (h : a < b) : (a ≤ b + 1 + 1 + 1 + 1 + 1) = True := by simp; omega
theorem lt_add6 {a b : Nat} (h : a < b) : (a < b + 1 + 1 + 1 + 1 + 1 + 1) = True := by simp; omega
theorem le_add6 {a b : Nat} (h : a < b) : (a ≤ b + 1 + 1 + 1 + 1 + 1 + 1) = True := by simp; omega
theorem lt_add7 {a b : Nat} (h : a < b) : (a < b + 1 + 1 + 1 + 1 + 1 + 1 + 1) = True := by simp; omega
theorem le_add7 {a b : Nat} (h : a < b) : (a ≤ b + 1 + 1 + 1 + 1 + 1 + 1 + 1) = True := by simp; omega
theorem lt_add8 {a b : Nat} (h : a < b) : (a < b + 1 + 1 + 1 + 1 + 1 + 1 + 1 + 1) = True := by simp; omega
theorem le_add8 {a b : Nat} (h : a < b) : (a ≤ b + 1 + 1 + 1 + 1 + 1 + 1 + 1 + 1) = True := by simp; omega
theorem le_of_lt_ {a b : Nat} (h : a < b) : (a ≤ b) = True := by simp; omega

attribute [go_sem] lt_add_of le_add_of le_of_lt_ lt_add2 le_add2 lt_add3 le_add3 lt_add4 le_add4 lt_add5 le_add5 lt_add6 le_add6 lt_add7 le_add7 lt_add8 le_add8

def nthI (zs : List Int) (k : Nat) : Int := zs.getD k 0
/-- A slice of integers that is read: where it has elements, its cells lie below block B. -/
def IntsAt (w : World) (B : Nat) (A : Option Addr) (zs : List Int) : Prop :=
  0 < zs.length → ∃ b off, A = some ⟨b, off, none⟩ ∧ b < B ∧ ∀ k, k < zs.length → w.cell? ⟨b, off + k, none⟩ = some (.int .i64 (nthI zs k))
theorem IntsAt.below {w w' : World} {B B' : Nat} {A : Option Addr} {zs : List Int} (h : IntsAt w B A zs) (hb : Below B' w w') (hB : B ≤ B') : IntsAt w' B A zs := fun h0 => by
  obtain ⟨b, off, e, hlt, hc⟩ := h h0
  exact ⟨b, off, e, hlt, fun k hk => (hb.cell (p := ⟨b, off + k, none⟩) (Nat.lt_of_lt_of_le hlt hB)).trans (hc k hk)⟩
theorem IntsAt.more {w : World} {B B' : Nat} {A : Option Addr} {zs : List Int} (h : IntsAt w B A zs) (hB : B ≤ B') : IntsAt w B' A zs := fun h0 => by
  obtain ⟨b, off, e, hlt, hc⟩ := h h0
  exact ⟨b, off, e, Nat.lt_of_lt_of_le hlt hB, hc⟩
theorem IntsAt.lit (w : World) (t : TypeId) (zs : List Int) : IntsAt (w.alloc (.cells (zs.map (Value.int .i64)).toArray t)) (w.heap.size + 1) (some ⟨w.heap.size, 0, none⟩) zs := fun h0 =>
  ⟨w.heap.size, 0, rfl, Nat.lt_succ_self _, fun k hk => by
    rw [(Whl.new w t _).cell]
    simp [nthI, hk]⟩
end Go.Proofs.YtdddppmfeoebgaaGreatDoor

/-
  Cells that are known stay known behind a call that turns nothing below the heap's size: for the regions that draw their order.
-/
namespace Go.Proofs.YtdddppmfeoebgaaGreatDoor
open Go.RowKit
theorem cellK {w1 w2 : World} (hb : Below w1.heap.size w1 w2) {p : Addr} {v : Value} (c : w1.cell? p = some v) : w2.cell? p = some v :=
  (hb.cell (World.block_lt_of_cell? w1 _ c)).trans c
theorem below_step {w a b : World} (h : Below w.heap.size w a) (k : Below a.heap.size a b) : Below w.heap.size w b := h.trans (k.mono h.size)
theorem below_alloc {w a : World} (h : Below w.heap.size w a) (o : Obj) : Below w.heap.size w (a.alloc o) := h.alloc h.size o
theorem keep1 {w1 w2 : World} (hb : Below w1.heap.size w1 w2) {p0 : Addr} {v0 : Value} : (w1.cell? p0 = some v0) → (w2.cell? p0 = some v0) := fun c0 => cellK hb c0
theorem keep2 {w1 w2 : World} (hb : Below w1.heap.size w1 w2) {p0 p1 : Addr} {v0 v1 : Value} : (w1.cell? p0 = some v0 ∧ w1.cell? p1 = some v1) → (w2.cell? p0 = some v0 ∧ w2.cell? p1 = some v1) := fun ⟨c0, c1⟩ => ⟨cellK hb c0, cellK hb c1⟩
theorem keep3 {w1 w2 : World} (hb : Below w1.heap.size w1 w2) {p0 p1 p2 : Addr} {v0 v1 v2 : Value} : (w1.cell? p0 = some v0 ∧ w1.cell? p1 = some v1 ∧ w1.cell? p2 = some v2) → (w2.cell? p0 = some v0 ∧ w2.cell? p1 = some v1 ∧ w2.cell? p2 = some v2) := fun ⟨c0, c1, c2⟩ => ⟨cellK hb c0, cellK hb c1, cellK hb c2⟩
theorem keep4 {w1 w2 : World} (hb : Below w1.heap.size w1 w2) {p0 p1 p2 p3 : Addr} {v0 v1 v2 v3 : Value} : (w1.cell? p0 = some v0 ∧ w1.cell? p1 = some v1 ∧ w1.cell? p2 = some v2 ∧ w1.cell? p3 = some v3) → (w2.cell? p0 = some v0 ∧ w2.cell? p1 = some v1 ∧ w2.cell? p2 = some v2 ∧ w2.cell? p3 = some v3) := fun ⟨c0, c1, c2, c3⟩ => ⟨cellK hb c0, cellK hb c1, cellK hb c2, cellK hb c3⟩
theorem keep5 {w1 w2 : World} (hb : Below w1.heap.size w1 w2) {p0 p1 p2 p3 p4 : Addr} {v0 v1 v2 v3 v4 : Value} : (w1.cell? p0 = some v0 ∧ w1.cell? p1 = some v1 ∧ w1.cell? p2 = some v2 ∧ w1.cell? p3 = some v3 ∧ w1.cell? p4 = some v4) → (w2.cell? p0 = some v0 ∧ w2.cell? p1 = some v1 ∧ w2.cell? p2 = some v2 ∧ w2.cell? p3 = some v3 ∧ w2.cell? p4 = some v4) := fun ⟨c0, c1, c2, c3, c4⟩ => ⟨cellK hb c0, cellK hb c1, cellK hb c2, cellK hb c3, cellK hb c4⟩
theorem keep6 {w1 w2 : World} (hb : Below w1.heap.size w1 w2) {p0 p1 p2 p3 p4 p5 : Addr} {v0 v1 v2 v3 v4 v5 : Value} : (w1.cell? p0 = some v0 ∧ w1.cell? p1 = some v1 ∧ w1.cell? p2 = some v2 ∧ w1.cell? p3 = some v3 ∧ w1.cell? p4 = some v4 ∧ w1.cell? p5 = some v5) → (w2.cell? p0 = some v0 ∧ w2.cell? p1 = some v1 ∧ w2.cell? p2 = some v2 ∧ w2.cell? p3 = some v3 ∧ w2.cell? p4 = some v4 ∧ w2.cell? p5 = some v5) := fun ⟨c0, c1, c2, c3, c4, c5⟩ => ⟨cellK hb c0, cellK hb c1, cellK hb c2, cellK hb c3, cellK hb c4, cellK hb c5⟩
theorem keep7 {w1 w2 : World} (hb : Below w1.heap.size w1 w2) {p0 p1 p2 p3 p4 p5 p6 : Addr} {v0 v1 v2 v3 v4 v5 v6 : Value} : (w1.cell? p0 = some v0 ∧ w1.cell? p1 = some v1 ∧ w1.cell? p2 = some v2 ∧ w1.cell? p3 = some v3 ∧ w1.cell? p4 = some v4 ∧ w1.cell? p5 = some v5 ∧ w1.cell? p6 = some v6) → (w2.cell? p0 = some v0 ∧ w2.cell? p1 = some v1 ∧ w2.cell? p2 = some v2 ∧ w2.cell? p3 = some v3 ∧ w2.cell? p4 = some v4 ∧ w2.cell? p5 = some v5 ∧ w2.cell? p6 = some v6) := fun ⟨c0, c1, c2, c3, c4, c5, c6⟩ => ⟨cellK hb c0, cellK hb c1, cellK hb c2, cellK hb c3, cellK hb c4, cellK hb c5, cellK hb c6⟩
theorem keep8 {w1 w2 : World} (hb : Below w1.heap.size w1 w2) {p0 p1 p2 p3 p4 p5 p6 p7 : Addr} {v0 v1 v2 v3 v4 v5 v6 v7 : Value} : (w1.cell? p0 = some v0 ∧ w1.cell? p1 = some v1 ∧ w1.cell? p2 = some v2 ∧ w1.cell? p3 = some v3 ∧ w1.cell? p4 = some v4 ∧ w1.cell? p5 = some v5 ∧ w1.cell? p6 = some v6 ∧ w1.cell? p7 = some v7) → (w2.cell? p0 = some v0 ∧ w2.cell? p1 = some v1 ∧ w2.cell? p2 = some v2 ∧ w2.cell? p3 = some v3 ∧ w2.cell? p4 = some v4 ∧ w2.cell? p5 = some v5 ∧ w2.cell? p6 = some v6 ∧ w2.cell? p7 = some v7) := fun ⟨c0, c1, c2, c3, c4, c5, c6, c7⟩ => ⟨cellK hb c0, cellK hb c1, cellK hb c2, cellK hb c3, cellK hb c4, cellK hb c5, cellK hb c6, cellK hb c7⟩
theorem keep9 {w1 w2 : World} (hb : Below w1.heap.size w1 w2) {p0 p1 p2 p3 p4 p5 p6 p7 p8 : Addr} {v0 v1 v2 v3 v4 v5 v6 v7 v8 : Value} : (w1.cell? p0 = some v0 ∧ w1.cell? p1 = some v1 ∧ w1.cell? p2 = some v2 ∧ w1.cell? p3 = some v3 ∧ w1.cell? p4 = some v4 ∧ w1.cell? p5 = some v5 ∧ w1.cell? p6 = some v6 ∧ w1.cell? p7 = some v7 ∧ w1.cell? p8 = some v8) → (w2.cell? p0 = some v0 ∧ w2.cell? p1 = some v1 ∧ w2.cell? p2 = some v2 ∧ w2.cell? p3 = some v3 ∧ w2.cell? p4 = some v4 ∧ w2.cell? p5 = some v5 ∧ w2.cell? p6 = some v6 ∧ w2.cell? p7 = some v7 ∧ w2.cell? p8 = some v8) := fun ⟨c0, c1, c2, c3, c4, c5, c6, c7, c8⟩ => ⟨cellK hb c0, cellK hb c1, cellK hb c2, cellK hb c3, cellK hb c4, cellK hb c5, cellK hb c6, cellK hb c7, cellK hb c8⟩
theorem keep10 {w1 w2 : World} (hb : Below w1.heap.size w1 w2) {p0 p1 p2 p3 p4 p5 p6 p7 p8 p9 : Addr} {v0 v1 v2 v3 v4 v5 v6 v7 v8 v9 : Value} : (w1.cell? p0 = some v0 ∧ w1.cell? p1 = some v1 ∧ w1.cell? p2 = some v2 ∧ w1.cell? p3 = some v3 ∧ w1.cell? p4 = some v4 ∧ w1.cell? p5 = some v5 ∧ w1.cell? p6 = some v6 ∧ w1.cell? p7 = some v7 ∧ w1.cell? p8 = some v8 ∧ w1.cell? p9 = some v9) → (w2.cell? p0 = some v0 ∧ w2.cell? p1 = some v1 ∧ w2.cell? p2 = some v2 ∧ w2.cell? p3 = some v3 ∧ w2.cell? p4 = some v4 ∧ w2.cell? p5 = some v5 ∧ w2.cell? p6 = some v6 ∧ w2.cell? p7 = some v7 ∧ w2.cell? p8 = some v8 ∧ w2.cell? p9 = some v9) := fun ⟨c0, c1, c2, c3, c4, c5, c6, c7, c8, c9⟩ => ⟨cellK hb c0, cellK hb c1, cellK hb c2, cellK hb c3, cellK hb c4, cellK hb c5, cellK hb c6, cellK hb c7, cellK hb c8, cellK hb c9⟩
theorem keep11 {w1 w2 : World} (hb : Below w1.heap.size w1 w2) {p0 p1 p2 p3 p4 p5 p6 p7 p8 p9 p10 : Addr} {v0 v1 v2 v3 v4 v5 v6 v7 v8 v9 v10 : Value} : (w1.cell? p0 = some v0 ∧ w1.cell? p1 = some v1 ∧ w1.cell? p2 = some v2 ∧ w1.cell? p3 = some v3 ∧ w1.cell? p4 = some v4 ∧ w1.cell? p5 = some v5 ∧ w1.cell? p6 = some v6 ∧ w1.cell? p7 = some v7 ∧ w1.cell? p8 = some v8 ∧ w1.cell? p9 = some v9 ∧ w1.cell? p10 = some v10) → (w2.cell? p0 = some v0 ∧ w2.cell? p1 = some v1 ∧ w2.cell? p2 = some v2 ∧ w2.cell? p3 = some v3 ∧ w2.cell? p4 = some v4 ∧ w2.cell? p5 = some v5 ∧ w2.cell? p6 = some v6 ∧ w2.cell? p7 = some v7 ∧ w2.cell? p8 = some v8 ∧ w2.cell? p9 = some v9 ∧ w2.cell? p10 = some v10) := fun ⟨c0, c1, c2, c3, c4, c5, c6, c7, c8, c9, c10⟩ => ⟨cellK hb c0, cellK hb c1, cellK hb c2, cellK hb c3, cellK hb c4, cellK hb c5, cellK hb c6, cellK hb c7, cellK hb c8, cellK hb c9, cellK hb c10⟩
theorem keep12 {w1 w2 : World} (hb : Below w1.heap.size w1 w2) {p0 p1 p2 p3 p4 p5 p6 p7 p8 p9 p10 p11 : Addr} {v0 v1 v2 v3 v4 v5 v6 v7 v8 v9 v10 v11 : Value} : (w1.cell? p0 = some v0 ∧ w1.cell? p1 = some v1 ∧ w1.cell? p2 = some v2 ∧ w1.cell? p3 = some v3 ∧ w1.cell? p4 = some v4 ∧ w1.cell? p5 = some v5 ∧ w1.cell? p6 = some v6 ∧ w1.cell? p7 = some v7 ∧ w1.cell? p8 = some v8 ∧ w1.cell? p9 = some v9 ∧ w1.cell? p10 = some v10 ∧ w1.cell? p11 = some v11) → (w2.cell? p0 = some v0 ∧ w2.cell? p1 = some v1 ∧ w2.cell? p2 = some v2 ∧ w2.cell? p3 = some v3 ∧ w2.cell? p4 = some v4 ∧ w2.cell? p5 = some v5 ∧ w2.cell? p6 = some v6 ∧ w2.cell? p7 = some v7 ∧ w2.cell? p8 = some v8 ∧ w2.cell? p9 = some v9 ∧ w2.cell? p10 = some v10 ∧ w2.cell? p11 = some v11) := fun ⟨c0, c1, c2, c3, c4, c5, c6, c7, c8, c9, c10, c11⟩ => ⟨cellK hb c0, cellK hb c1, cellK hb c2, cellK hb c3, cellK hb c4, cellK hb c5, cellK hb c6, cellK hb c7, cellK hb c8, cellK hb c9, cellK hb c10, cellK hb c11⟩
theorem keep13 {w1 w2 : World} (hb : Below w1.heap.size w1 w2) {p0 p1 p2 p3 p4 p5 p6 p7 p8 p9 p10 p11 p12 : Addr} {v0 v1 v2 v3 v4 v5 v6 v7 v8 v9 v10 v11 v12 : Value} : (w1.cell? p0 = some v0 ∧ w1.cell? p1 = some v1 ∧ w1.cell? p2 = some v2 ∧ w1.cell? p3 = some v3 ∧ w1.cell? p4 = some v4 ∧ w1.cell? p5 = some v5 ∧ w1.cell? p6 = some v6 ∧ w1.cell? p7 = some v7 ∧ w1.cell? p8 = some v8 ∧ w1.cell? p9 = some v9 ∧ w1.cell? p10 = some v10 ∧ w1.cell? p11 = some v11 ∧ w1.cell? p12 = some v12) → (w2.cell? p0 = some v0 ∧ w2.cell? p1 = some v1 ∧ w2.cell? p2 = some v2 ∧ w2.cell? p3 = some v3 ∧ w2.cell? p4 = some v4 ∧ w2.cell? p5 = some v5 ∧ w2.cell? p6 = some v6 ∧ w2.cell? p7 = some v7 ∧ w2.cell? p8 = some v8 ∧ w2.cell? p9 = some v9 ∧ w2.cell? p10 = some v10 ∧ w2.cell? p11 = some v11 ∧ w2.cell? p12 = some v12) := fun ⟨c0, c1, c2, c3, c4, c5, c6, c7, c8, c9, c10, c11, c12⟩ => ⟨cellK hb c0, cellK hb c1, cellK hb c2, cellK hb c3, cellK hb c4, cellK hb c5, cellK hb c6, cellK hb c7, cellK hb c8, cellK hb c9, cellK hb c10, cellK hb c11, cellK hb c12⟩
theorem keep14 {w1 w2 : World} (hb : Below w1.heap.size w1 w2) {p0 p1 p2 p3 p4 p5 p6 p7 p8 p9 p10 p11 p12 p13 : Addr} {v0 v1 v2 v3 v4 v5 v6 v7 v8 v9 v10 v11 v12 v13 : Value} : (w1.cell? p0 = some v0 ∧ w1.cell? p1 = some v1 ∧ w1.cell? p2 = some v2 ∧ w1.cell? p3 = some v3 ∧ w1.cell? p4 = some v4 ∧ w1.cell? p5 = some v5 ∧ w1.cell? p6 = some v6 ∧ w1.cell? p7 = some v7 ∧ w1.cell? p8 = some v8 ∧ w1.cell? p9 = some v9 ∧ w1.cell? p10 = some v10 ∧ w1.cell? p11 = some v11 ∧ w1.cell? p12 = some v12 ∧ w1.cell? p13 = some v13) → (w2.cell? p0 = some v0 ∧ w2.cell? p1 = some v1 ∧ w2.cell? p2 = some v2 ∧ w2.cell? p3 = some v3 ∧ w2.cell? p4 = some v4 ∧ w2.cell? p5 = some v5 ∧ w2.cell? p6 = some v6 ∧ w2.cell? p7 = some v7 ∧ w2.cell? p8 = some v8 ∧ w2.cell? p9 = some v9 ∧ w2.cell? p10 = some v10 ∧ w2.cell? p11 = some v11 ∧ w2.cell? p12 = some v12 ∧ w2.cell? p13 = some v13) := fun ⟨c0, c1, c2, c3, c4, c5, c6, c7, c8, c9, c10, c11, c12, c13⟩ => ⟨cellK hb c0, cellK hb c1, cellK hb c2, cellK hb c3, cellK hb c4, cellK hb c5, cellK hb c6, cellK hb c7, cellK hb c8, cellK hb c9, cellK hb c10, cellK hb c11, cellK hb c12, cellK hb c13⟩
end Go.Proofs.YtdddppmfeoebgaaGreatDoor

