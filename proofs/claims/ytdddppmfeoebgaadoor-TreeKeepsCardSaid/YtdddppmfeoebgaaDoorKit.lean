/-
  What every law's proof of this seat uses: from a walk that ends in 'true' and in 'Below' to the row's own post. No idea of the program stands in it.
-/
import Derived.Test.YtdddppmfeoebgaaDoorRows
import Derived.WalkKit
import Derived.WalkSpells
import Derived.WalkLawsBesides
import Derived.ProofKit
import Derived.OpenShut
import Derived.OpenVars
import Derived.Carry
import Derived.JoinedCond
import Derived.Deep.DeepHandedRow
import Derived.Lib.Hide
import Derived.Deep.Light
import Derived.Outline
namespace Go.Proofs.YtdddppmfeoebgaaDoor
open Go.ChangeShapes Go.WideShapes Go.ChangeAt Go.RowKit Go.WideElems

/-- A return whose results the walk's set reckons. -/
theorem ret_of {P : Program} {fn : Func} {R : Ending → World → Prop} {a : Act} {w : World}
    (h : ∃ v, (results fn a.tmps).run P w = .ok v w ∧ R (.returned v) w) (hd : a.defers = []) : bodyPost P fn R .ret a w := by
  obtain ⟨v, h1, h2⟩ := h
  exact bodyPost_ret h1 hd h2

/-- Old cells and marks read as before. -/
theorem bcell {W w1 : World} (hb : Below W.heap.size W w1) : (∀ b o, b < W.heap.size → w1.cell? ⟨b, o, none⟩ = W.cell? ⟨b, o, none⟩) ∧ (∀ b o, b < W.heap.size → w1.frozen? ⟨b, o, none⟩ = W.frozen? ⟨b, o, none⟩) :=
  ⟨fun b o h => hb.cell (p := ⟨b, o, none⟩) h, fun b o h => hb.frozen (p := ⟨b, o, none⟩) h⟩

/-- Block g is known whole: it holds just these cells, of type t, none of them frozen. -/
def Whl (w : World) (g : Nat) (t : TypeId) (cs : Array Value) : Prop := w.heap[g]? = some (.cells cs t (0, 0))
namespace Whl
variable {w w' : World} {g : Nat} {t : TypeId} {cs : Array Value}
theorem lt (h : Whl w g t cs) : g < w.heap.size := by
  rcases Nat.lt_or_ge g w.heap.size with k | k
  · exact k
  · unfold Whl at h; rw [Array.getElem?_eq_none k] at h; cases h
theorem cell (h : Whl w g t cs) (i : Nat) : w.cell? ⟨g, i, none⟩ = cs[i]? := by
  unfold Whl at h
  simp [World.cell?, h]
theorem frozen (h : Whl w g t cs) (i : Nat) : w.frozen? ⟨g, i, none⟩ = false := by
  unfold Whl at h
  simp [World.frozen?, h]
theorem new (w : World) (t : TypeId) (cs : Array Value) : Whl (w.alloc (.cells cs t)) w.heap.size t cs := by
  show (w.heap.push _)[w.heap.size]? = _
  simp
theorem alloc (h : Whl w g t cs) (o : Obj) : Whl (w.alloc o) g t cs := (Below.heap_alloc w o g h.lt).trans h
theorem drew (h : Whl w g t cs) : Whl w.drew g t cs := h
theorem drewN (h : Whl w g t cs) (n : Nat) : Whl (w.drewN n) g t cs := h
theorem put (h : Whl w g t cs) (i : Nat) (u : Value) : Whl (w.setCell ⟨g, i, none⟩ u) g t (cs.setIfInBounds i u) := by
  unfold Whl at h ⊢
  simp [World.setCell, Array.getElem?_modify, h]
theorem far (h : Whl w g t cs) {p : Addr} (hp : g ≠ p.block) (u : Value) : Whl (w.setCell p u) g t cs := (Below.heap_setCell w p u g hp).trans h
theorem below {B : Nat} (h : Whl w g t cs) (hb : Below B w w') (hg : g < B) : Whl w' g t cs := (hb.block g hg).trans h
theorem below' (h : Whl w g t cs) (hb : Below w.heap.size w w') : Whl w' g t cs := (hb.block g h.lt).trans h
theorem grown {row : Option Nat} (h : Whl w g t cs) (hb : w.grownBy w' row) (hg : some g ≠ row) : Whl w' g t cs := (hb.block g h.lt hg).trans h
end Whl

theorem laidOut : laidOutB Tryd.prog = true := by kernel_rfl
theorem own : ownKnob Tryd.prog.godebug = none := by kernel_rfl

/-- Each type of the list can be read and is a row of the table. -/
def typesRowed (P : Program) (ts : List TypeId) : Bool := ts.all fun t => P.readableRec t && decide (t < P.types.size)

section
variable {H : Type} {enc : TypeId × Value → H} {P : Program}

/-- The arguments read behind the call as they did before, where below the heap's old size nothing has turned. -/
theorem below_trodAll (hl : laidOutB P = true) {W W' : World} (hb : Below W.heap.size W W') :
    ∀ {ts : List TypeId} {vs : List Value} {ds : List (DataW H)} {ps : List MemPlace}, typesRowed P ts = true → (∀ x ∈ ps, x.block < W.heap.size) →
      DataW.TrodAll enc P W 0 (fun _ => true) true ts vs ds ps → DataW.TrodAll enc P W' 0 (fun b => decide (b < W.heap.size)) true ts vs ds ps
  | [], _, _, _, _, _, h => by
    obtain ⟨rfl, rfl, rfl⟩ := trodAll_nil h
    exact rfl
  | t :: ts, _, _, ps, hr, hlt, h => by
    obtain ⟨v, vs, d, ds, p, q, rfl, rfl, rfl, h0, r0⟩ := trodAll_cons h
    simp only [typesRowed, List.all_cons, Bool.and_eq_true, decide_eq_true_eq] at hr
    exact ⟨p, q, Below.trod hl hr.1.1 hr.1.2 h0 hb (fun x hx => hlt x (by simp [hx])), below_trodAll hl hb (by simpa [typesRowed] using hr.2) (fun x hx => hlt x (by simp [hx])) r0, rfl⟩

/-- THE ROW's LAST STEP of a law: the call has answered true, and below the heap's old size nothing has turned. -/
theorem law_post {f : Func} {s : ChangeSpec} {W W' : World} {args : Array Value} {ds gs : List (DataW H)} {before : List MemPlace} {tb : TypeId}
    (hl : laidOutB P = true) (ht : typesRowed P f.params.toList = true) (hv : varsRowed P s.vars = true) (hrt : f.resultTypes = #[tb]) (hbool : P.underlying tb = some .bool)
    (hW : DataW.Whole enc P f.params.toList s.vars false W args.toList ds gs before)
    (hr : (s.fn H (ds ++ gs)).results = [.lit (.bool true)]) (ha : (s.fn H (ds ++ gs)).args = ds) (hva : (s.fn H (ds ++ gs)).vars = gs)
    (hb : Below W.heap.size W W') : s.post enc P f false true false false W args (.bool true) W' := by
  have hW' := hW
  obtain ⟨p, q, hA, hV, rfl, hz, hn⟩ := hW
  have hlt : ∀ x ∈ p ++ q, x.block < W.heap.size := fun x hx => hW'.lt x hx
  refine ⟨ds, gs, p ++ q, [], p, q, hW', ?_, ?_, ?_, World.keptBut_mono (fun x hx => ⟨hx, by simpa using hx⟩) (hb.frame (· ∈ p ++ q)), fun h => by cases h⟩
  · rw [hr, hrt]
    exact trodAll_mk1 (shut_bool hbool true)
  · rw [ha]
    exact below_trodAll hl hb ht (fun x hx => hlt x (by simp [hx])) hA
  · rw [hva]
    exact Below.trodVars hl hb hv hV
end
end Go.Proofs.YtdddppmfeoebgaaDoor
