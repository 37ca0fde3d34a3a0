/-
  Layer 16 (bounds): MakeApp, WayW, StepA, Sound, Holds.
-/
import Derived.Test.YtddobhneplfddaaDoorV7
import Derived.Test.YtddobhneplfddaaDoorV14
namespace Go.Proofs.YtddobhneplfddaaDoor
open Go.RowKit
set_option linter.unusedSimpArgs false
set_option linter.unusedVariables false
section
variable {P : Program} (w : World)
theorem run_append_make_nil (t u ty e : TypeId) (i : TypeInfo) (z : Value) (ht : P.underlying t = some (.slice e)) (hu : P.underlying u = some (.int .i64)) (hi : P.info? e = some i) (hz : i.zero = some z)
    (k : Nat) (h0 : 0 < k) (h63 : k ≤ 1024) (h48 : i.bytes ≤ 1024) (hs : 0 < i.size) :
    (Builtin.append_ #[t, u] ty #[.slice none 0 0, .int .i64 (k : Int)]).run P w =
      .ok (.slice (some ⟨w.heap.size, 0, none⟩) k (grownCap w k 0 e)) (w.drew.alloc (.cells (Builtin.zeroCells z.cells k ++ Builtin.zeroCells z.cells (grownCap w k 0 e - k)) e)) := by
  have hn : k ≠ 0 := by omega
  have hneg : ¬ ((k : Int) < 0) := by omega
  have hk : IntKind.i64.wrap (k : Int) = (k : Int) := IntWalk.i64_in _ (by omega)
  have hm : k * i.bytes ≤ 1048576 := Nat.mul_le_mul h63 h48
  have h63' : ¬ (9223372036854775807 < (k : Int)) := by omega
  have h48' : ¬ (281474976710656 < Builtin.nextslicecap k 0 * i.bytes) := by rw [nextslicecap_zero h0]; omega
  have h48i : ¬ ((281474976710656 : Int) < (k : Int) * (i.bytes : Int)) := by
    have h1 : ((k * i.bytes : Nat) : Int) ≤ 1048576 := by omega
    rw [Int.natCast_mul] at h1; omega
  have hsz : ¬ (k * i.size = 0) := by
    intro h; rcases Nat.mul_eq_zero.1 h with h | h <;> omega
  simp [Builtin.append_, run_underlying ht, run_underlying hu, sizeOf, typeInfo, zeroValue, hi, hz, asInt, asIntOf, hk, hneg, hn, h63', h48', h48i, hsz, Question.forced, run_firstCells_none, newRow, grownCap]
theorem run_append_make_grow (t u ty e : TypeId) (i : TypeInfo) (z : Value) (ht : P.underlying t = some (.slice e)) (hu : P.underlying u = some (.int .i64)) (hi : P.info? e = some i) (hz : i.zero = some z)
    (b : Addr) (n c : Nat) (olds : List Value) (hlo : olds.length = n * i.size) (holds : ∀ j v, olds[j]? = some v → w.cell? (b.add j) = some v)
    (k : Nat) (h0 : 0 < k) (hg : c < n + k) (h63 : n + k ≤ 1024) (h48 : i.bytes ≤ 1024) (hs : 0 < i.size) (hfit : Builtin.nextslicecap (n + k) c * i.bytes ≤ 281474976710656) :
    (Builtin.append_ #[t, u] ty #[.slice (some b) n c, .int .i64 (k : Int)]).run P w =
      .ok (.slice (some ⟨w.heap.size, 0, none⟩) (n + k) (grownCap w (n + k) c e)) (w.drew.alloc (.cells (olds.toArray ++ Builtin.zeroCells z.cells k ++ Builtin.zeroCells z.cells (grownCap w (n + k) c e - (n + k))) e)) := by
  have hn : ¬ (n + k ≤ c) := by omega
  have hneg : ¬ ((k : Int) < 0) := by omega
  have hk : IntKind.i64.wrap (k : Int) = (k : Int) := IntWalk.i64_in _ (by omega)
  have hm : k * i.bytes ≤ 1048576 := Nat.mul_le_mul (show k ≤ 1024 by omega) h48
  have h63' : ¬ (9223372036854775807 < ((n : Int) + (k : Int))) := by omega
  have h48' : ¬ (281474976710656 < Builtin.nextslicecap (n + k) c * i.bytes) := by omega
  have h48i : ¬ ((281474976710656 : Int) < (k : Int) * (i.bytes : Int)) := by
    have h1 : ((k * i.bytes : Nat) : Int) ≤ 1048576 := by omega
    rw [Int.natCast_mul] at h1; omega
  have hsz : ¬ (k * i.size = 0) := by
    intro h; rcases Nat.mul_eq_zero.1 h with h | h <;> omega
  have hfo := run_firstCells_some (P := P) w.drew i.size n b n c olds hlo (by simpa using holds)
  simp [Builtin.append_, run_underlying ht, run_underlying hu, sizeOf, typeInfo, zeroValue, hi, hz, asInt, asIntOf, hk, hneg, hn, h63', h48', h48i, hsz, Question.forced, hfo, newRow, grownCap]
theorem run_append_make_zero (t u ty e : TypeId) (i : TypeInfo) (ht : P.underlying t = some (.slice e)) (hu : P.underlying u = some (.int .i64)) (hi : P.info? e = some i)
    (A : Option Addr) (n c : Nat) (hc : n ≤ c) :
    (Builtin.append_ #[t, u] ty #[.slice A n c, .int .i64 0]).run P w = .ok (.slice A n c) w := by
  have hk : IntKind.i64.wrap 0 = 0 := rfl
  cases A <;> simp [Builtin.append_, run_underlying ht, run_underlying hu, sizeOf, typeInfo, hi, asInt, asIntOf, hk, hc, storeCells]
end
/-- append, whatever it does, as one step of a region that draws. -/
theorem step_append_run {P : Program} {ops : Array Oper} {o : Oper} {a : Act} {w w' : World} {v : Value} {K : Act → World → Prop} {Q : Exit → Act → World → Prop} {E : Prop}
    (hg : o.guard = none) (s x : Operand) (t u : TypeId) (hop : o.op = Op.call { callee := Callee.builtin Builtin.append, args := #[s, x], argTypes := #[t, u] })
    (hrun : (Builtin.append_ #[t, u] o.type #[a.eval s, a.eval x]).run P w = .ok v w') (hK : K (a.put o.dst v) w') :
    if Region.wanted o (yielded ops a.tmps) = true then Oper.wp P o a w K Q else E := by
  have hw : Region.wanted o (yielded ops a.tmps) = true := by simp [Region.wanted, hg]
  rw [if_pos hw]
  unfold Oper.wp
  simp [execOp, hop, resolve, invoke, builtin, hrun, Result.andThen]
  exact hK
end Go.Proofs.YtddobhneplfddaaDoor

namespace Go.Proofs.YtddobhneplfddaaDoor
set_option maxRecDepth 100000
open Go.RowKit
set_option linter.unusedSimpArgs false
set_option linter.unusedVariables false
/-- Spans that are read, from a place of a block on. -/
def InS (w : World) (ib io : Nat) (l : List Sp) : Prop := ∀ k s, l[k]? = some s → w.cell? ⟨ib, io + k * 2, none⟩ = some (.int .i64 s.lo) ∧ w.cell? ⟨ib, io + k * 2 + 1, none⟩ = some (.int .i64 s.hi)
/-- A slice of spans of the call's own. -/
def OutS (w : World) (base : Nat) (v : Value) (q : List Sp) : Prop := ∃ g cp, v = .slice (some ⟨g, 0, none⟩) q.length cp ∧ base ≤ g ∧ q.length ≤ cp ∧ cp ≤ maxLen ∧ RowS w g cp q
def WayV (w : World) (n : Nat) : Option (List Sp) → Value → World → Prop
  | none, v, _ => v = .slice none 0 0
  | some q, v, w' => OutS w' w.heap.size v q ∧ q.length = n
/-- What Way answers. -/
def WayOk (n : Nat) (o : Option (List Sp)) (w : World) (e : Ending) (w' : World) : Prop :=
  Below w.heap.size w w' ∧ ∃ v, e = .returned (.tuple #[v, .bool o.isSome]) ∧ WayV w n o v w'
structure WayW (w W : World) (g nr cp : Nat) (r : List Sp) (x : InsD) (wd : Int) (fv : Value) : Prop where
  below : Below w.heap.size w W
  size : w.heap.size + 1 + 1 + 1 ≤ W.heap.size
  x0 : W.cell? ⟨w.heap.size + 1 + 1, 0, none⟩ = some (.int .i64 x.op)
  x1 : W.cell? ⟨w.heap.size + 1 + 1, 1, none⟩ = some (.int .i64 x.a)
  x2 : W.cell? ⟨w.heap.size + 1 + 1, 2, none⟩ = some (.int .i64 x.b)
  x3 : W.cell? ⟨w.heap.size + 1 + 1, 3, none⟩ = some (.int .i64 x.c)
  x4 : W.cell? ⟨w.heap.size + 1 + 1, 4, none⟩ = some (.int .i64 x.n)
  wd : W.cell? ⟨w.heap.size + 1, 3, none⟩ = some (.int .i64 wd)
  fs : W.cell? ⟨w.heap.size, 1, none⟩ = some fv
  lg : w.heap.size + 1 + 1 + 1 ≤ g
  row : RowS W g cp r
  len : r.length = nr
  room : nr ≤ cp
  top : cp ≤ maxLen
namespace WayW
variable {w W W' : World} {g nr cp : Nat} {r : List Sp} {x : InsD} {wd : Int} {fv : Value}
theorem step (h : WayW w W g nr cp r x wd fv) (hb : Below W.heap.size W W') : WayW w W' g nr cp r x wd fv :=
  ⟨below_step h.below hb, Nat.le_trans h.size hb.size, cellK hb h.x0, cellK hb h.x1, cellK hb h.x2, cellK hb h.x3, cellK hb h.x4, cellK hb h.wd, cellK hb h.fs, h.lg, h.row.below' hb, h.len, h.room, h.top⟩
theorem alloc (h : WayW w W g nr cp r x wd fv) (b : Obj) : WayW w (W.alloc b) g nr cp r x wd fv := h.step (below_alloc (Below.refl _ _) _)
theorem drew (h : WayW w W g nr cp r x wd fv) : WayW w W.drew g nr cp r x wd fv := h.step (Below.refl _ _).drew
theorem drewN (h : WayW w W g nr cp r x wd fv) (n : Nat) : WayW w (W.drewN n) g nr cp r x wd fv := h.step (below_drewN (Below.refl _ _) n)
/-- A store into a block that is newer than all these. -/
theorem far (h : WayW w W g nr cp r x wd fv) {p : Addr} (hp : w.heap.size + 1 + 1 + 1 ≤ p.block) (hg : g ≠ p.block) (v : Value) : WayW w (W.setCell p v) g nr cp r x wd fv := by
  have c : ∀ (b o : Nat), b < w.heap.size + 1 + 1 + 1 → (W.setCell p v).cell? ⟨b, o, none⟩ = W.cell? ⟨b, o, none⟩ := fun b o hb => by
    rw [World.cell?, World.cell?, Below.heap_setCell _ _ _ b (by omega)]
  exact ⟨h.below.setCell (by omega) v, by have := h.size; simpa using this, by rw [c _ _ (by omega)]; exact h.x0, by rw [c _ _ (by omega)]; exact h.x1, by rw [c _ _ (by omega)]; exact h.x2, by rw [c _ _ (by omega)]; exact h.x3, by rw [c _ _ (by omega)]; exact h.x4, by rw [c _ _ (by omega)]; exact h.wd, by rw [c _ _ (by omega)]; exact h.fs, h.lg, h.row.far hg v, h.len, h.room, h.top⟩
/-- A store into the row. -/
theorem put (h : WayW w W g nr cp r x wd fv) {k : Nat} (hk : k < r.length) (a : Sp) : WayW w ((W.setCell ⟨g, k * 2, none⟩ (.int .i64 a.lo)).setCell ⟨g, k * 2 + 1, none⟩ (.int .i64 a.hi)) g nr cp (r.set k a) x wd fv := by
  have lg := h.lg
  have c : ∀ (b o : Nat), b ≠ g → ((W.setCell ⟨g, k * 2, none⟩ (.int .i64 a.lo)).setCell ⟨g, k * 2 + 1, none⟩ (.int .i64 a.hi)).cell? ⟨b, o, none⟩ = W.cell? ⟨b, o, none⟩ := fun b o hb => by
    rw [World.cell?, World.cell?, Below.heap_setCell _ _ _ b hb, Below.heap_setCell _ _ _ b hb]
  exact ⟨(h.below.setCell (p := ⟨g, k * 2, none⟩) (by simp; omega) _).setCell (p := ⟨g, k * 2 + 1, none⟩) (by simp; omega) _, by have := h.size; simpa using this, by rw [c _ _ (by omega)]; exact h.x0, by rw [c _ _ (by omega)]; exact h.x1, by rw [c _ _ (by omega)]; exact h.x2, by rw [c _ _ (by omega)]; exact h.x3, by rw [c _ _ (by omega)]; exact h.x4, by rw [c _ _ (by omega)]; exact h.wd, by rw [c _ _ (by omega)]; exact h.fs, lg, h.row.set hk a, by rw [List.length_set]; exact h.len, h.room, h.top⟩
theorem putLo (h : WayW w W g nr cp r x wd fv) {k : Nat} {s : Sp} (hs : r[k]? = some s) (y : Int) : WayW w (W.setCell ⟨g, k * 2, none⟩ (.int .i64 y)) g nr cp (r.set k ⟨y, s.hi⟩) x wd fv := by
  obtain ⟨hk, rfl⟩ := List.getElem?_eq_some_iff.1 hs
  have lg := h.lg
  have c : ∀ (b o : Nat), b ≠ g → (W.setCell ⟨g, k * 2, none⟩ (.int .i64 y)).cell? ⟨b, o, none⟩ = W.cell? ⟨b, o, none⟩ := fun b o hb => by
    rw [World.cell?, World.cell?, Below.heap_setCell _ _ _ b hb]
  exact ⟨h.below.setCell (p := ⟨g, k * 2, none⟩) (by simp; omega) _, by have := h.size; simpa using this, by rw [c _ _ (by omega)]; exact h.x0, by rw [c _ _ (by omega)]; exact h.x1, by rw [c _ _ (by omega)]; exact h.x2, by rw [c _ _ (by omega)]; exact h.x3, by rw [c _ _ (by omega)]; exact h.x4, by rw [c _ _ (by omega)]; exact h.wd, by rw [c _ _ (by omega)]; exact h.fs, lg, h.row.setLo hk y, by rw [List.length_set]; exact h.len, h.room, h.top⟩
/-- The spans that came in. -/
theorem ins (h : WayW w W g nr cp r x wd fv) {ib io : Nat} {l : List Sp} (hin : InS w ib io l) (hb : ib < w.heap.size) {k : Nat} {s : Sp} (hs : l[k]? = some s) : W.cell? ⟨ib, io + k * 2, none⟩ = some (.int .i64 s.lo) ∧ W.cell? ⟨ib, io + k * 2 + 1, none⟩ = some (.int .i64 s.hi) := by
  obtain ⟨h1, h2⟩ := hin k s hs
  exact ⟨(h.below.cell (p := ⟨ib, io + k * 2, none⟩) hb).trans h1, (h.below.cell (p := ⟨ib, io + k * 2 + 1, none⟩) hb).trans h2⟩
theorem yes (h : WayW w W g nr cp r x wd fv) : WayOk nr (some r) w (.returned (.tuple #[.slice (some ⟨g, 0, none⟩) nr cp, .bool true])) W :=
  ⟨h.below, _, rfl, ⟨g, cp, by rw [h.len], by have := h.lg; omega, by rw [h.len]; exact h.room, h.top, h.row⟩, h.len⟩
theorem no (h : WayW w W g nr cp r x wd fv) : WayOk nr none w (.returned (.tuple #[.slice none 0 0, .bool false])) W := ⟨h.below, _, rfl, rfl⟩
end WayW
theorem rowsL_rowSp (l : List Sp) : rowsL l.length 2 (fun k => spV (nthS l k)) = rowSp l := by
  apply List.ext_getElem?
  intro i
  by_cases hi : i < l.length * 2
  · have h1 : i = i / 2 * 2 + i % 2 := by omega
    have hk : i / 2 < l.length := by omega
    have e1 := rowsL_get (n := l.length) (sz := 2) (val := fun k => spV (nthS l k)) hk (show i % 2 < 2 by omega)
    obtain ⟨h2, h3⟩ := rowSp_get l (i / 2) hk
    have e : nthS l (i / 2) = l[i / 2] := by simp [nthS, hk]
    rw [h1, e1, e]
    rcases Nat.mod_two_eq_zero_or_one i with hm | hm
    · rw [hm, Nat.add_zero, h2]; rfl
    · rw [hm, h3]; rfl
  · rw [List.getElem?_eq_none (by rw [rowsL_len]; omega), List.getElem?_eq_none (by rw [rowSp_len]; omega)]
end Go.Proofs.YtddobhneplfddaaDoor

namespace Go.Proofs.YtddobhneplfddaaDoor
set_option maxRecDepth 100000
open Go.RowKit
set_option linter.unusedSimpArgs false
set_option linter.unusedVariables false
def atI (r : List Int) (i : Int) : Int := r.getD i.toNat 0
def setI (r : List Int) (i v : Int) : List Int := r.set i.toNat v
def hitsB (x n words : Int) : Bool := Sp.sumOk x n && decide (0 ≤ x + n) && decide (x + n < words)
def argsIn : List Int → Int → List Sp → Bool
  | _, _, [] => true
  | r, b, p :: ps => decide (p.lo ≤ atI r b) && decide (atI r b ≤ p.hi) && argsIn r (b + 1) ps
/-- What the machine does at an instruction of a right function. -/
def stepM (m : ModD) (f : FuncD) (at_ : Nat) (x : InsD) (r : List Int) (ans : Int) : Option (Int × List Int) :=
  if x.op = 0 then none
  else if x.op = 1 then some ((at_ : Int) + 1, setI r x.a x.n)
  else if x.op = 2 then some ((at_ : Int) + 1, setI r x.a (atI r x.b))
  else if 3 ≤ x.op ∧ x.op ≤ 10 then if opOk x.op (atI r x.c) then some ((at_ : Int) + 1, setI r x.a (opV x.op (atI r x.b) (atI r x.c))) else none
  else if x.op = 11 then if hitsB (atI r x.b) x.n f.words then some ((at_ : Int) + 1, setI r x.a ans) else none
  else if x.op = 12 then if hitsB (atI r x.b) x.n f.words then some ((at_ : Int) + 1, r) else none
  else if x.op = 13 then if atI r x.a < 0 ∨ x.n ≤ atI r x.a then none else some ((at_ : Int) + 1, r)
  else if x.op = 14 then some (x.n, r)
  else if x.op = 15 ∨ x.op = 16 then some (if decide (atI r x.a = 0) = decide (x.op = 16) then x.n else (at_ : Int) + 1, r)
  else if x.op = 17 then some (if atI r x.b ≤ atI r x.a then x.n else (at_ : Int) + 1, r)
  else if x.op = 18 then some (x.n, setI r x.a (wrap64 (atI r x.a + 1)))
  else if x.op = 19 then if argsIn r x.b (nthF m.funcs x.n.toNat).params then some ((at_ : Int) + 1, setI r x.a ans) else none
  else none
theorem args_at {r : List Int} : ∀ (ps : List Sp) (b : Nat), argsIn r (b : Int) ps = true ↔ ∀ j, j < ps.length → (nthS ps j).lo ≤ r.getD (b + j) 0 ∧ r.getD (b + j) 0 ≤ (nthS ps j).hi
  | [], b => ⟨fun _ j hj => absurd hj (by simp), fun _ => rfl⟩
  | p :: ps, b => by
    have ih := args_at (r := r) ps (b + 1)
    have e : ((b : Int) + 1) = ((b + 1 : Nat) : Int) := by omega
    rw [argsIn, e, Bool.and_eq_true, ih, Bool.and_eq_true, decide_eq_true_eq, decide_eq_true_eq, atI, Int.toNat_natCast]
    constructor
    · rintro ⟨⟨h1, h2⟩, h3⟩ j hj
      cases j with
      | zero => exact ⟨h1, h2⟩
      | succ j =>
        have := h3 j (by simpa using hj)
        rw [show b + (j + 1) = b + 1 + j by omega]
        exact this
    · intro h
      refine ⟨h 0 (by simp), fun j hj => ?_⟩
      have := h (j + 1) (by simpa using hj)
      rw [show b + (j + 1) = b + 1 + j by omega] at this
      exact this
theorem args_all {r : List Int} {ps : List Sp} (b : Nat) (h : ∀ j, j < ps.length → (nthS ps j).lo ≤ r.getD (b + j) 0 ∧ r.getD (b + j) 0 ≤ (nthS ps j).hi) : argsIn r (b : Int) ps = true := (args_at ps b).2 h
theorem args_no {r : List Int} {ps : List Sp} (b k : Nat) (hk : k < ps.length) (h : r.getD (b + k) 0 < (nthS ps k).lo ∨ (nthS ps k).hi < r.getD (b + k) 0) : argsIn r (b : Int) ps = false := by
  cases e : argsIn r (b : Int) ps
  · rfl
  · have := (args_at ps b).1 e k hk
    omega
/-- Block g begins with these numbers, and may be written. -/
def RowJ (w : World) (g cp : Nat) (r : List Int) : Prop := ∃ cur, Whl w g 2 cur ∧ (r.length ≤ cur.size ∧ cur.size = cp) ∧ cur.toList.take r.length = r.map (Value.int .i64)
namespace RowJ
variable {w w' : World} {g cp : Nat} {r : List Int}
theorem lt (h : RowJ w g cp r) : g < w.heap.size := by obtain ⟨cur, hw, _⟩ := h; exact hw.lt
theorem below' (h : RowJ w g cp r) (hb : Below w.heap.size w w') : RowJ w' g cp r := by obtain ⟨cur, hw, h2⟩ := h; exact ⟨cur, hw.below' hb, h2⟩
theorem cell (h : RowJ w g cp r) {k : Nat} (hk : k < r.length) : w.cell? ⟨g, k, none⟩ = some (.int .i64 (r.getD k 0)) ∧ w.frozen? ⟨g, k, none⟩ = false := by
  obtain ⟨cur, hw, ⟨h1, h2⟩, h3⟩ := h
  refine ⟨?_, hw.frozen _⟩
  have e : (r.map (Value.int .i64))[k]? = some (.int .i64 (r.getD k 0)) := by
    rw [List.getElem?_map, List.getD_eq_getElem?_getD, List.getElem?_eq_getElem hk]; rfl
  rw [← h3, List.getElem?_take, if_pos hk] at e
  rw [hw.cell]; simpa using e
theorem set (h : RowJ w g cp r) {k : Nat} (hk : k < r.length) (v : Int) : RowJ (w.setCell ⟨g, k, none⟩ (.int .i64 v)) g cp (r.set k v) := by
  obtain ⟨cur, hw, ⟨h1, h2⟩, h3⟩ := h
  refine ⟨_, hw.put k (.int .i64 v), ⟨by simpa using h1, by simpa using h2⟩, ?_⟩
  rw [List.length_set, Array.toList_setIfInBounds, List.take_set, h3, List.map_set]
theorem ints (h : RowJ w g cp r) : IntsAt w w.heap.size (some ⟨g, 0, none⟩) r := fun _ => ⟨g, 0, rfl, h.lt, fun k hk => by rw [Nat.zero_add]; exact (h.cell hk).1⟩
end RowJ
/-- What Step answers. -/
def StepOk (w : World) (o : Option (Int × List Int)) (e : Ending) (w' : World) : Prop :=
  Below w.heap.size w w' ∧ match o with
  | none => e = .returned (.tuple #[.int .i64 0, .slice none 0 0, .bool false])
  | some (tw, now) => ∃ g cp, e = .returned (.tuple #[.int .i64 tw, .slice (some ⟨g, 0, none⟩) now.length cp, .bool true]) ∧ RowJ w' g cp now ∧ w.heap.size ≤ g
/-- What lies in memory while Step runs. -/
structure StW (w W : World) (g cp : Nat) (r : List Int) (x : InsD) (wd : Int) (fv : Value) : Prop where
  below : Below w.heap.size w W
  size : w.heap.size + 1 + 1 + 1 ≤ W.heap.size
  x0 : W.cell? ⟨w.heap.size + 1 + 1, 0, none⟩ = some (.int .i64 x.op)
  x1 : W.cell? ⟨w.heap.size + 1 + 1, 1, none⟩ = some (.int .i64 x.a)
  x2 : W.cell? ⟨w.heap.size + 1 + 1, 2, none⟩ = some (.int .i64 x.b)
  x3 : W.cell? ⟨w.heap.size + 1 + 1, 3, none⟩ = some (.int .i64 x.c)
  x4 : W.cell? ⟨w.heap.size + 1 + 1, 4, none⟩ = some (.int .i64 x.n)
  wd : W.cell? ⟨w.heap.size + 1, 3, none⟩ = some (.int .i64 wd)
  fs : W.cell? ⟨w.heap.size, 1, none⟩ = some fv
  lg : w.heap.size + 1 + 1 + 1 ≤ g
  row : RowJ W g cp r
namespace StW
variable {w W W' : World} {g cp : Nat} {r : List Int} {x : InsD} {wd : Int} {fv : Value}
theorem step (h : StW w W g cp r x wd fv) (hb : Below W.heap.size W W') : StW w W' g cp r x wd fv :=
  ⟨below_step h.below hb, Nat.le_trans h.size hb.size, cellK hb h.x0, cellK hb h.x1, cellK hb h.x2, cellK hb h.x3, cellK hb h.x4, cellK hb h.wd, cellK hb h.fs, h.lg, h.row.below' hb⟩
theorem drewN (h : StW w W g cp r x wd fv) (n : Nat) : StW w (W.drewN n) g cp r x wd fv := h.step (below_drewN (Below.refl _ _) n)
theorem drew (h : StW w W g cp r x wd fv) : StW w W.drew g cp r x wd fv := h.step (Below.refl _ _).drew
theorem no (h : StW w W g cp r x wd fv) : StepOk w none (.returned (.tuple #[.int .i64 0, .slice none 0 0, .bool false])) W := ⟨h.below, rfl⟩
theorem yes (h : StW w W g cp r x wd fv) (tw : Int) : StepOk w (some (tw, r)) (.returned (.tuple #[.int .i64 tw, .slice (some ⟨g, 0, none⟩) r.length cp, .bool true])) W :=
  ⟨h.below, g, cp, rfl, h.row, by have := h.lg; omega⟩
theorem put (h : StW w W g cp r x wd fv) (tw : Int) {k : Nat} (hk : k < r.length) (v : Int) : StepOk w (some (tw, setI r (k : Int) v)) (.returned (.tuple #[.int .i64 tw, .slice (some ⟨g, 0, none⟩) r.length cp, .bool true])) (W.setCell ⟨g, k, none⟩ (.int .i64 v)) := by
  have e : setI r (k : Int) v = r.set k v := by rw [setI, Int.toNat_natCast]
  rw [e]
  have := h.lg
  exact ⟨h.below.setCell (p := ⟨g, k, none⟩) (by show _ ≤ g; omega) _, g, cp, by rw [List.length_set], h.row.set hk v, by omega⟩
end StW
/-- Behind the copy at Step's head. -/
theorem stepNew {w w1 : World} {v1 : Value} {l : List Int} (hl : 0 < l.length) {m0 m1 f0 f1 f2 f3 f4 o0 o1 o2 o3 o4 : Value} {x : InsD} (e0 : o0 = .int .i64 x.op) (e1 : o1 = .int .i64 x.a) (e2 : o2 = .int .i64 x.b) (e3 : o3 = .int .i64 x.c) (e4 : o4 = .int .i64 x.n) {wd : Int} (ew : f3 = .int .i64 wd)
    (own : w1.ownsRow w.heap.size 2 1 v1 (0 + l.length) ([] ++ rowsL l.length 1 fun k _ => .int .i64 (nthI l k)))
    (hg : ((((w.alloc (.cells #[m0, m1] 25)).alloc (.cells #[f0, f1, f2, f3, f4] 48)).alloc (.cells #[o0, o1, o2, o3, o4] 65)).alloc (.cells #[] 2)).grownBy w1 (some (w.heap.size + 1 + 1 + 1))) :
    ∃ g cp, v1 = .slice (some ⟨g, 0, none⟩) l.length cp ∧ StW w w1 g cp l x wd m1 := by
  subst e0 e1 e2 e3 e4 ew
  have er : (rowsL l.length 1 fun k _ => Value.int .i64 (nthI l k)) = l.map (Value.int .i64) := by
    apply List.ext_getElem?
    intro i
    by_cases hi : i < l.length
    · have := rowsL_get (n := l.length) (sz := 1) (val := fun k _ => Value.int .i64 (nthI l k)) hi (show 0 < 1 by omega)
      rw [show i * 1 + 0 = i by omega] at this
      rw [this, List.getElem?_map, List.getElem?_eq_getElem hi, nthI, List.getD_eq_getElem?_getD, List.getElem?_eq_getElem hi]; rfl
    · rw [List.getElem?_eq_none (by rw [rowsL_len]; omega), List.getElem?_eq_none (by simp; omega)]
  rw [Nat.zero_add, List.nil_append, er] at own
  have W1 := (((Whl.new w 25 #[m0, m1]).alloc (.cells #[f0, f1, f2, .int .i64 wd, f4] 48)).alloc (.cells #[.int .i64 x.op, .int .i64 x.a, .int .i64 x.b, .int .i64 x.c, .int .i64 x.n] 65)).alloc (.cells #[] 2) |>.grown hg (fun h => by have := Option.some.inj h; omega)
  have W2 := ((Whl.new1 w (.cells #[m0, m1] 25) 48 #[f0, f1, f2, .int .i64 wd, f4]).alloc (.cells #[.int .i64 x.op, .int .i64 x.a, .int .i64 x.b, .int .i64 x.c, .int .i64 x.n] 65)).alloc (.cells #[] 2) |>.grown hg (fun h => by have := Option.some.inj h; omega)
  have W3 := (Whl.new2 w (.cells #[m0, m1] 25) (.cells #[f0, f1, f2, .int .i64 wd, f4] 48) 65 #[.int .i64 x.op, .int .i64 x.a, .int .i64 x.b, .int .i64 x.c, .int .i64 x.n]).alloc (.cells #[] 2) |>.grown hg (fun h => by have := Option.some.inj h; omega)
  rcases own with ⟨hlen, ⟨_, h0⟩ | ⟨g, cp, cur, rfl, hb, hh, hnc, hm, hs, ht⟩⟩
  · omega
  have n1 : g ≠ w.heap.size := fun e => by subst e; unfold Whl at W1; rw [hh] at W1; cases W1
  have n2 : g ≠ w.heap.size + 1 := fun e => by subst e; unfold Whl at W2; rw [hh] at W2; cases W2
  have n3 : g ≠ w.heap.size + 1 + 1 := fun e => by subst e; unfold Whl at W3; rw [hh] at W3; cases W3
  have B0 : Below w.heap.size w w1 := (below_alloc (below_alloc (below_alloc (below_alloc (Below.refl _ _) _) _) _) _).trans ⟨hg.os, hg.tape, hg.output, hg.size, fun i hi => hg.block i (by simp only [World.size_alloc]; omega) (fun e => by have := Option.some.inj e; omega)⟩
  exact ⟨g, cp, rfl, B0, by have := hg.size; simp at this; omega, W3.cell 0, W3.cell 1, W3.cell 2, W3.cell 3, W3.cell 4, W2.cell 3, W1.cell 1, by omega, ⟨cur, hh, ⟨by omega, by omega⟩, by simpa using ht⟩⟩
set_option maxHeartbeats 1000000 in
theorem hitsR (x n words : Int) (hx : In64 x) (hn : In64 n) (w : World) : Calls Tryd.prog 48 #[.int .i64 x, .int .i64 n, .int .i64 words] w fun e w' => e = .returned (.bool (hitsB x n words)) ∧ w = w' := by
  have HS := Lib.hid (sumR x n hx hn)
  cases h0 : Sp.sumOk x n
  · have e : hitsB x n words = false := by rw [hitsB, h0]; rfl
    rw [e]
    go_enter Tryd.func48, Tryd.ntmps48
    go_wp2_with fail
    go_at_call 69
    refine (HS.out _).mono ?_
    rintro e w' ⟨rfl, rfl⟩
    rw [h0]
    go_wp2
    go_ret
    exact ⟨rfl, rfl⟩
  · have e : hitsB x n words = (decide (0 ≤ x + n) && decide (x + n < words)) := by rw [hitsB, h0]; rfl
    rw [e]
    generalize hy : x + n = y
    cases h1 : decide (0 ≤ y) <;> cases h2 : decide (y < words)
    all_goals
      go_enter Tryd.func48, Tryd.ntmps48
      go_wp2_with fail
      go_at_call 69
      refine (HS.out _).mono ?_
      rintro e w' ⟨rfl, rfl⟩
      rw [h0, if_pos rfl, hy]
      go_wp2
      go_ret
      exact ⟨by simp, rfl⟩
end Go.Proofs.YtddobhneplfddaaDoor

namespace Go.Proofs.YtddobhneplfddaaDoor
set_option maxRecDepth 100000
open Go.RowKit
set_option linter.unusedSimpArgs false
set_option linter.unusedVariables false
/-- Each number is in its span. -/
def HoldsL (r : List Int) (l : List Sp) : Prop := r.length = l.length ∧ ∀ k, k < l.length → (l.getD k z0).In (r.getD k 0)
theorem HoldsL.set {r : List Int} {l : List Sp} (h : HoldsL r l) (i : Int) {v : Int} {a : Sp} (ha : a.In v) : HoldsL (setI r i v) (setS l i a) := by
  refine ⟨by simp only [setI, setS, List.length_set]; exact h.1, fun k hk => ?_⟩
  simp only [setI, setS, List.length_set] at hk ⊢
  rw [getD_set, getD_set]
  have := h.1
  by_cases e : i.toNat = k
  · rw [if_pos ⟨e, by omega⟩, if_pos ⟨e, by omega⟩]; exact ha
  · rw [if_neg (fun q => e q.1), if_neg (fun q => e q.1)]; exact h.2 k hk
/-- A span that is made narrower, and still has the number. -/
theorem HoldsL.narrow {r : List Int} {l : List Sp} (h : HoldsL r l) (i : Int) {a : Sp} (ha : a.In (atI r i)) : HoldsL r (setS l i a) := by
  refine ⟨by simp only [setS, List.length_set]; exact h.1, fun k hk => ?_⟩
  simp only [setS, List.length_set] at hk ⊢
  rw [getD_set]
  by_cases e : i.toNat = k
  · rw [if_pos ⟨e, by omega⟩, ← e]; exact ha
  · rw [if_neg (fun q => e q.1)]; exact h.2 k hk
theorem HoldsL.get {r : List Int} {l : List Sp} (h : HoldsL r l) {i : Int} (h0 : 0 ≤ i) (h1 : i < l.length) : (atS l i).In (atI r i) := h.2 i.toNat (by omega)
theorem meet_has {a b : Sp} {x : Int} (ha : a.In x) (hb : b.In x) : a.meetOk b = true ∧ (a.meet b).In x := by
  obtain ⟨a1, a2⟩ := ha
  obtain ⟨b1, b2⟩ := hb
  have e : (Sp.meetS a b).none = false := by
    cases hq : (Sp.meetS a b).none
    · rfl
    · exfalso
      have h2 : (if a.hi < b.hi then a.hi else b.hi) < (if b.lo < a.lo then a.lo else b.lo) := of_decide_eq_true hq
      split at h2 <;> split at h2 <;> omega
  refine ⟨by rw [Sp.meetOk, e]; rfl, ?_⟩
  rw [Sp.meet, e, if_neg (by decide)]
  simp only [Sp.In, Sp.meetS, Sp.mx, Sp.mn]
  constructor <;> split <;> omega
theorem wo0_has {a : Sp} {x : Int} (ha : a.In x) (hx : x ≠ 0) : wo0Ok a = true ∧ (wo0 a).In x := by
  obtain ⟨a1, a2⟩ := ha
  unfold wo0Ok wo0 Sp.In
  simp only [decide_eq_true_eq]
  refine ⟨?_, ?_, ?_⟩ <;> split <;> (try split) <;> omega
theorem words_has {x n many : Int} (hn : In64 n) (hx : In64 x) (hm : 0 ≤ many ∧ many ≤ 4096) (h : hitsB x n many = true) : wordsOk n many = true ∧ (wordsS n many).In x := by
  unfold hitsB at h
  simp only [Bool.and_eq_true, decide_eq_true_eq] at h
  obtain ⟨⟨h1, h2⟩, h3⟩ := h
  have hs := (sumOk_iff x n).1 h1
  unfold In64 at hn hx
  have hlt : n ≠ -9223372036854775808 := by omega
  have hhi : x ≤ wordsHi n many := by
    unfold wordsHi wrap64
    split <;> omega
  refine ⟨?_, (show -n ≤ x by omega), hhi⟩
  unfold wordsOk
  simp only [Bool.and_eq_true, Bool.not_eq_true', beq_eq_false_iff_ne, decide_eq_true_eq]
  exact ⟨hlt, by omega⟩
theorem all_has {x : Int} (h : In64 x) : Sp.all.In x := by
  unfold In64 at h
  simpa [Sp.In, Sp.all, Sp.least, Sp.greatest] using h
theorem call_sound : ∀ (ps : List Sp) (r : List Int) (l : List Sp) (b : Int), HoldsL r l → 0 ≤ b → b + ps.length ≤ l.length → argsIn r b ps = true → ∃ q, callD l b ps = some q ∧ HoldsL r q
  | [], r, l, b, h, _, _, _ => ⟨l, rfl, h⟩
  | p :: ps, r, l, b, h, h0, h1, h2 => by
    simp only [argsIn, Bool.and_eq_true, decide_eq_true_eq] at h2
    simp only [List.length_cons] at h1
    obtain ⟨⟨h3, h4⟩, h5⟩ := h2
    obtain ⟨m1, m2⟩ := meet_has (h.get h0 (by omega)) (show p.In (atI r b) from ⟨h3, h4⟩)
    obtain ⟨q, e, hq⟩ := call_sound ps r _ (b + 1) (h.narrow b m2) (by omega) (by simp only [setS, List.length_set]; omega) h5
    exact ⟨q, by rw [callD, if_pos m1]; exact e, hq⟩
theorem below_has {a b : Sp} {x y : Int} (ha : a.In x) (hb : b.In y) (h : x < y) : a.belowOk b = true ∧ (a.belowA b).In x := by
  obtain ⟨a1, a2⟩ := ha
  obtain ⟨b1, b2⟩ := hb
  have e : (a.none || b.none || decide (b.hi ≤ a.lo)) = false := by
    simp only [Sp.none, Bool.or_eq_false_iff, decide_eq_false_iff_not]
    omega
  refine ⟨by rw [Sp.belowOk, e]; rfl, ?_⟩
  rw [Sp.belowA, e, if_neg (by decide)]
  simp only [Sp.In, Sp.mn]
  constructor
  · exact a1
  · split <;> omega
/-- Where the machine goes on is one of the instruction's ways. -/
theorem next_has {f : FuncD} {k : Nat} (hk : k < f.code.length) {tw : Int} (h0 : 0 ≤ tw) (h1 : tw < f.code.length) (h : tw ∈ nextL (k : Int) (nthX f.code k)) : tw ∈ nextD f (k : Int) := by
  unfold nextD
  rw [if_pos (by simp [inCode]; omega), List.mem_filter, Int.toNat_natCast]
  exact ⟨h, by simp [inCode]; omega⟩
theorem opV_64 (op x y : Int) (hx : In64 x) : In64 (opV op x y) := by
  have h0 : In64 0 := by unfold In64; omega
  have h1 : In64 1 := by unfold In64; omega
  unfold opV
  repeat' split
  all_goals first
    | exact wrap64_In _
    | exact h0
    | exact h1
    | skip
  rename_i hy
  obtain ⟨_, f2, f3, f4⟩ := tmod_facts x hy
  unfold In64 at *
  rcases Int.le_total 0 x with q | q
  · have := f3 q; omega
  · have := f4 q; omega
set_option maxHeartbeats 4000000 in
theorem step_sound {m : ModD} (wm : m.Wf) (hmay : mayD m = ⟨0, 0, 0⟩) {kf at_ : Nat} (hk : kf < m.funcs.length) (ha : at_ < (nthF m.funcs kf).code.length) {r : List Int} {l : List Sp} {ans : Int} (hr : (r.length : Int) = (nthF m.funcs kf).regs) (h : HoldsL r l) (hw : ∀ k, Sp.Wf (l.getD k z0)) (h64 : ∀ k, In64 (r.getD k 0)) (hans : In64 ans)
    {tw : Int} {now : List Int} (hs : stepM m (nthF m.funcs kf) at_ (nthX (nthF m.funcs kf).code at_) r ans = some (tw, now)) :
    tw ∈ nextD (nthF m.funcs kf) (at_ : Int) ∧ (∃ out, awayD m (nthF m.funcs kf) at_ tw (nthX (nthF m.funcs kf).code at_) l = some out ∧ HoldsL now out) ∧ now.length = r.length ∧ ∀ k, In64 (now.getD k 0) := by
  have hf := f_ok hmay hk
  have hL := l_ok hmay hk ha
  have hi := i_ok (hf.ins at_ ha)
  have hreg := hf.regs
  obtain ⟨hwords, hcode, _⟩ := f_ok2 hmay hk
  have xw : (nthX (nthF m.funcs kf).code at_).Wf := (wm.funcs _ (nthF_mem hk)).code _ (nthX_mem ha)
  have hnn := xw.2.2.2.2
  have hln : (l.length : Int) = (nthF m.funcs kf).regs := by rw [← hr, h.1]
  have hset : ∀ (i v : Int), In64 v → ∀ k, In64 ((setI r i v).getD k 0) := fun i v hv k => by
    rw [setI, getD_set]; split
    · exact hv
    · exact h64 k
  have hsl : ∀ (i v : Int), (setI r i v).length = r.length := fun i v => by rw [setI, List.length_set]
  have hnx : ∀ t : Int, 0 ≤ t → t < (nthF m.funcs kf).code.length → t ∈ nextL (at_ : Int) (nthX (nthF m.funcs kf).code at_) → t ∈ nextD (nthF m.funcs kf) (at_ : Int) := fun t h0 h1 h2 => next_has ha h0 h1 h2
  generalize hx : nthX (nthF m.funcs kf).code at_ = x at *
  generalize nthF m.funcs kf = F at *
  have hn1 : ¬ (x.op = 0 ∨ x.op = 14 ∨ x.op = 18) → (at_ : Int) + 1 < F.code.length := fun q => by
    rcases Nat.lt_or_ge (at_ + 1) F.code.length with q2 | q2
    · omega
    · exact absurd (hL.ends (by omega)) q
  have hj := hL.jumps
  obtain ⟨op, a, b, c, n⟩ := x
  simp only at hn1 hj hnn
  have plus : ∀ {now : List Int} {out : List Sp}, ¬ (op = 0 ∨ op = 14 ∨ op = 18) → (at_ : Int) + 1 ∈ nextL at_ ⟨op, a, b, c, n⟩ → awayD m F at_ ((at_ : Int) + 1) ⟨op, a, b, c, n⟩ l = some out → HoldsL now out → now.length = r.length → (∀ k, In64 (now.getD k 0)) →
      (at_ : Int) + 1 ∈ nextD F at_ ∧ (∃ out, awayD m F at_ ((at_ : Int) + 1) ⟨op, a, b, c, n⟩ l = some out ∧ HoldsL now out) ∧ now.length = r.length ∧ ∀ k, In64 (now.getD k 0) := fun q h1 h2 h3 h4 h5 =>
    ⟨hnx _ (by omega) (hn1 q) h1, ⟨_, h2, h3⟩, h4, h5⟩
  rcases op_cases hi.known with e | e | e | e | e | e | e | e | e | e | e | e | e | e | e | e | e | e | e | e
  all_goals (simp only at e; subst e)
  · simp [stepM] at hs
  · simp [stepM] at hs
    obtain ⟨rfl, rfl⟩ := hs
    exact plus (by omega) (by simp [nextL, known]) (by simp only [awayD, if_true]; rfl) (h.set a ⟨Int.le_refl _, Int.le_refl _⟩) (hsl _ _) (hset _ _ hnn)
  · simp [stepM] at hs
    obtain ⟨rfl, rfl⟩ := hs
    have hb := hi.b rfl
    simp only at hb
    exact plus (by omega) (by simp [nextL, known]) (by simp only [awayD]; rfl) (h.set a (h.get hb.1 (by omega))) (hsl _ _) (hset _ _ (h64 _))
  · simp [stepM] at hs
    obtain ⟨hok, rfl, rfl⟩ := hs
    have hb := hi.b rfl
    simp only at hb
    have hc := hi.c rfl
    simp only at hc
    have hcc := h.get hc.1 (by omega)
    obtain ⟨d1, d2⟩ := do_true (op := 3) (hw _) (hw _) (h.get hb.1 (by omega)) (fun _ => hcc) hok
    exact plus (by omega) (by simp [nextL, known]) (by simp only [awayD]; rw [if_neg (by decide), if_neg (by decide), if_neg (by decide), if_pos (by decide)]; exact if_pos d1) (h.set a d2) (hsl _ _) (hset _ _ (opV_64 _ _ _ (h64 _)))
  · simp [stepM] at hs
    obtain ⟨hok, rfl, rfl⟩ := hs
    have hb := hi.b rfl
    simp only at hb
    have hc := hi.c rfl
    simp only at hc
    have hcc := h.get hc.1 (by omega)
    obtain ⟨d1, d2⟩ := do_true (op := 4) (hw _) (hw _) (h.get hb.1 (by omega)) (fun _ => hcc) hok
    exact plus (by omega) (by simp [nextL, known]) (by simp only [awayD]; rw [if_neg (by decide), if_neg (by decide), if_neg (by decide), if_pos (by decide)]; exact if_pos d1) (h.set a d2) (hsl _ _) (hset _ _ (opV_64 _ _ _ (h64 _)))
  · simp [stepM] at hs
    obtain ⟨hok, rfl, rfl⟩ := hs
    have hb := hi.b rfl
    simp only at hb
    have hc := hi.c rfl
    simp only at hc
    have hcc := h.get hc.1 (by omega)
    obtain ⟨d1, d2⟩ := do_true (op := 5) (hw _) (hw _) (h.get hb.1 (by omega)) (fun _ => hcc) hok
    exact plus (by omega) (by simp [nextL, known]) (by simp only [awayD]; rw [if_neg (by decide), if_neg (by decide), if_neg (by decide), if_pos (by decide)]; exact if_pos d1) (h.set a d2) (hsl _ _) (hset _ _ (opV_64 _ _ _ (h64 _)))
  · simp [stepM] at hs
    obtain ⟨hok, rfl, rfl⟩ := hs
    have hb := hi.b rfl
    simp only at hb
    have hc := hi.c rfl
    simp only at hc
    have hcc := h.get hc.1 (by omega)
    obtain ⟨d1, d2⟩ := do_true (op := 6) (hw _) (hw _) (h.get hb.1 (by omega)) (fun _ => hcc) hok
    have hne : atI r c ≠ 0 := fun q => by rw [opOk, q] at hok; simp at hok
    exact plus (by omega) (by simp [nextL, known]) (by simp only [awayD]; rw [if_neg (by decide), if_neg (by decide), if_pos (by decide)]; exact if_pos d1) ((h.narrow c (wo0_has hcc hne).2).set a d2) (hsl _ _) (hset _ _ (opV_64 _ _ _ (h64 _)))
  · simp [stepM] at hs
    obtain ⟨hok, rfl, rfl⟩ := hs
    have hb := hi.b rfl
    simp only at hb
    have hc := hi.c rfl
    simp only at hc
    have hcc := h.get hc.1 (by omega)
    obtain ⟨d1, d2⟩ := do_true (op := 7) (hw _) (hw _) (h.get hb.1 (by omega)) (fun _ => hcc) hok
    have hne : atI r c ≠ 0 := fun q => by rw [opOk, q] at hok; simp at hok
    exact plus (by omega) (by simp [nextL, known]) (by simp only [awayD]; rw [if_neg (by decide), if_neg (by decide), if_pos (by decide)]; exact if_pos d1) ((h.narrow c (wo0_has hcc hne).2).set a d2) (hsl _ _) (hset _ _ (opV_64 _ _ _ (h64 _)))
  · simp [stepM] at hs
    obtain ⟨hok, rfl, rfl⟩ := hs
    have hb := hi.b rfl
    simp only at hb
    have hc := hi.c rfl
    simp only at hc
    have hcc := h.get hc.1 (by omega)
    obtain ⟨d1, d2⟩ := do_true (op := 8) (hw _) (hw _) (h.get hb.1 (by omega)) (fun _ => hcc) hok
    exact plus (by omega) (by simp [nextL, known]) (by simp only [awayD]; rw [if_neg (by decide), if_neg (by decide), if_neg (by decide), if_pos (by decide)]; exact if_pos d1) (h.set a d2) (hsl _ _) (hset _ _ (opV_64 _ _ _ (h64 _)))
  · simp [stepM] at hs
    obtain ⟨hok, rfl, rfl⟩ := hs
    have hb := hi.b rfl
    simp only at hb
    have hc := hi.c rfl
    simp only at hc
    have hcc := h.get hc.1 (by omega)
    obtain ⟨d1, d2⟩ := do_true (op := 9) (hw _) (hw _) (h.get hb.1 (by omega)) (fun _ => hcc) hok
    exact plus (by omega) (by simp [nextL, known]) (by simp only [awayD]; rw [if_neg (by decide), if_neg (by decide), if_neg (by decide), if_pos (by decide)]; exact if_pos d1) (h.set a d2) (hsl _ _) (hset _ _ (opV_64 _ _ _ (h64 _)))
  · simp [stepM] at hs
    obtain ⟨hok, rfl, rfl⟩ := hs
    have hb := hi.b rfl
    simp only at hb
    obtain ⟨d1, d2⟩ := do_true (op := 10) (hw _) (hw _) (h.get hb.1 (by omega)) (fun q => absurd rfl q) hok
    exact plus (by omega) (by simp [nextL, known]) (by simp only [awayD]; rw [if_neg (by decide), if_neg (by decide), if_neg (by decide), if_pos (by decide)]; exact if_pos d1) (h.set a d2) (hsl _ _) (hset _ _ (opV_64 _ _ _ (h64 _)))
  · simp [stepM] at hs
    obtain ⟨hok, rfl, rfl⟩ := hs
    have hb := hi.b rfl
    simp only at hb
    obtain ⟨w1, w2⟩ := words_has hnn (h64 _) hwords hok
    obtain ⟨m1, m2⟩ := meet_has (h.get hb.1 (by omega)) w2
    exact plus (by omega) (by simp [nextL, known]) (by simp [awayD, w1, m1]) ((h.narrow b m2).set a (all_has hans)) (hsl _ _) (hset _ _ hans)
  · simp [stepM] at hs
    obtain ⟨hok, rfl, rfl⟩ := hs
    have hb := hi.b rfl
    simp only at hb
    obtain ⟨w1, w2⟩ := words_has hnn (h64 _) hwords hok
    obtain ⟨m1, m2⟩ := meet_has (h.get hb.1 (by omega)) w2
    exact plus (by omega) (by simp [nextL, known]) (by simp [awayD, w1, m1]) (h.narrow b m2) rfl h64
  · have hn := n_checked hi
    simp [stepM] at hs
    obtain ⟨hok, rfl, rfl⟩ := hs
    have ha2 := hi.a rfl
    simp only at ha2
    have e1 : wrap64 (n - 1) = n - 1 := IntWalk.wrap64_in _ (by omega)
    obtain ⟨m1, m2⟩ := meet_has (h.get ha2.1 (by omega)) (show (⟨0, wrap64 (n - 1)⟩ : Sp).In (atI r a) from ⟨by show (0 : Int) ≤ _; omega, by show _ ≤ wrap64 (n - 1); omega⟩)
    exact plus (by omega) (by simp [nextL, known]) (by simp [awayD, m1]) (h.narrow a m2) rfl h64
  · simp [stepM] at hs
    obtain ⟨rfl, rfl⟩ := hs
    have := hj (by decide) (by decide)
    exact ⟨hnx _ this.1 this.2 (by simp [nextL]), ⟨l, by simp [awayD], h⟩, rfl, h64⟩
  · have hja := hj (by decide) (by decide)
    have ha2 := hi.a rfl
    simp only at ha2
    have hp := hn1 (by omega)
    have hin : ∀ t : Int, t = n ∨ t = (at_ : Int) + 1 → t ∈ nextL (at_ : Int) ⟨15, a, b, c, n⟩ := fun t ht => by
      simp only [nextL]
      rw [if_neg (by decide), if_neg (by decide), if_pos (by decide)]
      split
      · rename_i q; simp; omega
      · simp; omega
    by_cases h0 : atI r a = 0
    · simp [stepM, h0] at hs
      obtain ⟨rfl, rfl⟩ := hs
      by_cases hone : n = (at_ : Int) + 1
      · exact ⟨hnx _ (by omega) (by omega) (hin _ (by omega)), ⟨l, by simp [awayD, hone], h⟩, rfl, h64⟩
      · obtain ⟨m1, m2⟩ := meet_has (h.get ha2.1 (by omega)) (show (⟨0, 0⟩ : Sp).In (atI r a) from ⟨by show (0 : Int) ≤ _; omega, by show _ ≤ (0 : Int); omega⟩)
        exact ⟨hnx _ (by omega) (by omega) (hin _ (by omega)), ⟨_, by simp [awayD, hone, m1, show ¬ (at_ : Int) + 1 = n by omega], h.narrow a m2⟩, rfl, h64⟩
    · simp [stepM, h0] at hs
      obtain ⟨rfl, rfl⟩ := hs
      by_cases hone : n = (at_ : Int) + 1
      · exact ⟨hnx _ (by omega) (by omega) (hin _ (by omega)), ⟨l, by simp [awayD, hone], h⟩, rfl, h64⟩
      · obtain ⟨m1, m2⟩ := wo0_has (h.get ha2.1 (by omega)) h0
        exact ⟨hnx _ (by omega) (by omega) (hin _ (by omega)), ⟨_, by simp [awayD, hone, m1, show ¬ (at_ : Int) + 1 = n by omega], h.narrow a m2⟩, rfl, h64⟩
  · have hja := hj (by decide) (by decide)
    have ha2 := hi.a rfl
    simp only at ha2
    have hp := hn1 (by omega)
    have hin : ∀ t : Int, t = n ∨ t = (at_ : Int) + 1 → t ∈ nextL (at_ : Int) ⟨16, a, b, c, n⟩ := fun t ht => by
      simp only [nextL]
      rw [if_neg (by decide), if_neg (by decide), if_pos (by decide)]
      split
      · rename_i q; simp; omega
      · simp; omega
    by_cases h0 : atI r a = 0
    · simp [stepM, h0] at hs
      obtain ⟨rfl, rfl⟩ := hs
      by_cases hone : n = (at_ : Int) + 1
      · exact ⟨hnx _ (by omega) (by omega) (hin _ (by omega)), ⟨l, by simp [awayD, hone], h⟩, rfl, h64⟩
      · obtain ⟨m1, m2⟩ := meet_has (h.get ha2.1 (by omega)) (show (⟨0, 0⟩ : Sp).In (atI r a) from ⟨by show (0 : Int) ≤ _; omega, by show _ ≤ (0 : Int); omega⟩)
        exact ⟨hnx _ (by omega) (by omega) (hin _ (by omega)), ⟨_, by simp [awayD, hone, m1, show ¬ (at_ : Int) + 1 = n by omega], h.narrow a m2⟩, rfl, h64⟩
    · simp [stepM, h0] at hs
      obtain ⟨rfl, rfl⟩ := hs
      by_cases hone : n = (at_ : Int) + 1
      · exact ⟨hnx _ (by omega) (by omega) (hin _ (by omega)), ⟨l, by simp [awayD, hone], h⟩, rfl, h64⟩
      · obtain ⟨m1, m2⟩ := wo0_has (h.get ha2.1 (by omega)) h0
        exact ⟨hnx _ (by omega) (by omega) (hin _ (by omega)), ⟨_, by simp [awayD, hone, m1, show ¬ (at_ : Int) + 1 = n by omega], h.narrow a m2⟩, rfl, h64⟩
  · have hja := hj (by decide) (by decide)
    have ha2 := hi.a rfl
    have hb2 := hi.b rfl
    simp only at ha2 hb2
    have hp := hn1 (by omega)
    have hin : ∀ t : Int, t = n ∨ t = (at_ : Int) + 1 → t ∈ nextL (at_ : Int) ⟨17, a, b, c, n⟩ := fun t ht => by
      simp only [nextL]
      rw [if_neg (by decide), if_neg (by decide), if_pos (by decide)]
      split
      · rename_i q; simp; omega
      · simp; omega
    have hga := h.get ha2.1 (by omega)
    have hgb := h.get hb2.1 (by omega)
    by_cases h0 : atI r b ≤ atI r a
    · simp [stepM, h0] at hs
      obtain ⟨rfl, rfl⟩ := hs
      by_cases hone : n = (at_ : Int) + 1
      · exact ⟨hnx _ (by omega) (by omega) (hin _ (by omega)), ⟨l, by simp [awayD, hone], h⟩, rfl, h64⟩
      · by_cases hab : a = b
        · exact ⟨hnx _ (by omega) (by omega) (hin _ (by omega)), ⟨l, by simp [awayD, hone, hab], h⟩, rfl, h64⟩
        · have hle : (atS l b).lo ≤ (atS l a).hi := by have := hga.2; have := hgb.1; omega
          refine ⟨hnx _ (by omega) (by omega) (hin _ (by omega)), ⟨setS l a ⟨Sp.mx (atS l a).lo (atS l b).lo, (atS l a).hi⟩, by simp [awayD, hone, hab, hle], h.narrow a ⟨?_, hga.2⟩⟩, rfl, h64⟩
          show Sp.mx _ _ ≤ _
          unfold Sp.mx
          have := hga.1
          have := hgb.1
          split <;> omega
    · simp [stepM, h0] at hs
      obtain ⟨rfl, rfl⟩ := hs
      by_cases hone : n = (at_ : Int) + 1
      · exact ⟨hnx _ (by omega) (by omega) (hin _ (by omega)), ⟨l, by simp [awayD, hone], h⟩, rfl, h64⟩
      · have hab : a ≠ b := fun q => h0 (by rw [q]; exact Int.le_refl _)
        obtain ⟨m1, m2⟩ := below_has hga hgb (by omega)
        exact ⟨hnx _ (by omega) (by omega) (hin _ (by omega)), ⟨_, by simp [awayD, hone, hab, m1, show ¬ (at_ : Int) + 1 = n by omega], h.narrow a m2⟩, rfl, h64⟩
  · simp [stepM] at hs
    obtain ⟨rfl, rfl⟩ := hs
    have := hj (by decide) (by decide)
    have ha2 := hi.a rfl
    simp only at ha2
    obtain ⟨d1, d2⟩ := do_true (op := 3) (a := atS l a) (b := ⟨1, 1⟩) (x := atI r a) (y := 1) (hw _) ⟨by decide, by decide⟩ (h.get ha2.1 (by omega)) (fun _ => ⟨Int.le_refl _, Int.le_refl _⟩) rfl
    exact ⟨hnx _ this.1 this.2 (by simp [nextL]), ⟨_, by simp [awayD], h.set a d2⟩, hsl _ _, hset _ _ (wrap64_In _)⟩
  · simp [stepM] at hs
    obtain ⟨hok, rfl, rfl⟩ := hs
    obtain ⟨c1, c2⟩ := n_called hmay hi hreg.2.1
    have hb2 := hi.b rfl
    simp only at hb2
    obtain ⟨q, e1, e2⟩ := call_sound _ _ _ b h hb2.1 (by omega) hok
    exact plus (by omega) (by simp [nextL, known]) (by simp [awayD, e1]) (e2.set a (all_has hans)) (hsl _ _) (hset _ _ hans)
end Go.Proofs.YtddobhneplfddaaDoor

namespace Go.Proofs.YtddobhneplfddaaDoor
set_option maxRecDepth 100000
open Go.RowKit
set_option linter.unusedSimpArgs false
set_option linter.unusedVariables false
def StepRes (w : World) (o : Option (Int × List Int)) (tw : Int) (v : Value) (w' : World) : Bool → Prop
  | false => o = none
  | true => ∃ now g cp, o = some (tw, now) ∧ v = .slice (some ⟨g, 0, none⟩) now.length cp ∧ RowJ w' g cp now ∧ w.heap.size ≤ g
theorem StepOk.any {w w' : World} {o : Option (Int × List Int)} {e : Ending} (h : StepOk w o e w') : ∃ tw v b, e = .returned (.tuple #[.int .i64 tw, v, .bool b]) ∧ Below w.heap.size w w' ∧ StepRes w o tw v w' b := by
  obtain ⟨hb, h⟩ := h
  cases o with
  | none => exact ⟨0, _, false, h, hb, rfl⟩
  | some p =>
    obtain ⟨tw, now⟩ := p
    obtain ⟨g, cp, he, hr, hg⟩ := h
    exact ⟨tw, _, true, he, hb, now, g, cp, rfl, rfl, hr, hg⟩
noncomputable def holdsB (r : List Int) (l : List Sp) : Bool := @decide (HoldsL r l) (Classical.propDecidable _)
theorem holdsB_yes {r : List Int} {l : List Sp} (h : HoldsL r l) : holdsB r l = true := by unfold holdsB; exact @decide_eq_true _ (Classical.propDecidable _) h
theorem holdsB_no {r : List Int} {l : List Sp} (h : ¬ HoldsL r l) : holdsB r l = false := by unfold holdsB; exact @decide_eq_false _ (Classical.propDecidable _) h
theorem holdsB_of {r : List Int} {l : List Sp} (h : holdsB r l = true) : HoldsL r l := Classical.byContradiction fun q => by rw [holdsB_no q] at h; cases h
theorem nthS_getD {l : List Sp} {k : Nat} (hk : k < l.length) : l.getD k z0 = nthS l k := by
  simp [nthS, List.getD_eq_getElem?_getD, List.getElem?_eq_getElem hk]
set_option maxHeartbeats 4000000 in
theorem holdsW (r : List Int) (l : List Sp) (A A2 : Option Addr) (c c2 : Nat) (hrl : r.length ≤ maxLen) (hll : l.length ≤ maxLen) (w : World) (h1 : IntsAt w w.heap.size A r) (h2 : RowsAt w w.heap.size A2 l.length 2 fun k => spV (nthS l k)) :
    Calls Tryd.prog 23 #[.slice A r.length c, .slice A2 l.length c2] w fun e w' => e = .returned (.bool (holdsB r l)) ∧ Below w.heap.size w w' := by
  unfold maxLen at hrl hll
  have H1 := Lib.hid h1
  have H2 := Lib.hid h2
  clear h1 h2
  by_cases hlen : r.length = l.length
  · have k5 : ((r.length : Int) != (l.length : Int)) = false := by simp [hlen]
    have k4 : ((r.length : Int) == (l.length : Int)) = true := by simp [hlen]
    have HL := Lib.hid hlen
    clear hlen
    go_enter Tryd.func23, Tryd.ntmps23
    go_wp2
    go_loopw [5] (fun i wr => ∃ k : Nat, k ≤ r.length ∧ i = .int .i64 k ∧ (∀ j, j < k → (l.getD j z0).In (r.getD j 0)) ∧ Below w.heap.size w wr) (fun i _ => r.length - (intOf i).toNat)
    case atStart => exact ⟨0, Nat.zero_le _, rfl, (fun j hj => absurd hj (by omega)), Below.refl _ _⟩
    case round =>
      obtain ⟨k, hk, rfl, hall, hB⟩ := hrel
      have HA := Lib.hid hall
      clear hall
      by_cases hlt : k < r.length
      · have hlt2 : k < l.length := by have := HL.out; omega
        have hki : (k : Int) < (r.length : Int) := by omega
        have hki2 : (k : Int) < (l.length : Int) := by omega
        obtain ⟨b1, o1, hA1, hb1, hc1⟩ := (H1.out.below hB (Nat.le_refl _)) (by omega)
        obtain ⟨b2, o2, hA2, hb2, hc2⟩ := (H2.out.below hB (Nat.le_refl _)) (by omega)
        have p0 := hc1 k hlt
        have q0 : wr.cell? ⟨b2, o2 + k * 2, none⟩ = some (.int .i64 (nthS l k).lo) := hc2 k (by omega) 0 (by omega)
        have q1 : wr.cell? ⟨b2, o2 + k * 2 + 1, none⟩ = some (.int .i64 (nthS l k).hi) := hc2 k (by omega) 1 (by omega)
        have HK := Lib.hid (fun (x : Int) (hx : nthI r k = x) (u1 : (nthS l k).lo ≤ x) (u2 : x ≤ (nthS l k).hi) => (fun j (hj : j < k + 1) => by
          rcases Nat.lt_or_ge j k with q | q
          · exact HA.out j q
          · obtain rfl : j = k := by omega
            rw [nthS_getD hlt2, show r.getD j 0 = x from hx]; exact ⟨u1, u2⟩ : ∀ j, j < k + 1 → (l.getD j z0).In (r.getD j 0)))
        have HN := Lib.hid (fun (x : Int) (hx : nthI r k = x) (u : x < (nthS l k).lo ∨ (nthS l k).hi < x) => holdsB_no (r := r) (l := l) (fun h => by
          have := h.2 k hlt2
          rw [nthS_getD hlt2, show r.getD k 0 = x from hx] at this
          unfold Sp.In at this
          omega))
        generalize (nthS l k).lo = lo at *
        generalize (nthS l k).hi = hi at *
        generalize nthI r k = xv at *
        subst hA1 hA2
        clear hc1 hc2
        cases u1 : decide (xv < lo)
        · cases u2 : decide (hi < xv)
          · have HD := Lib.hid (HK.out xv rfl (by simpa using u1) (by simpa using u2))
            go_wp2
            go_quiet (fail)
            go_wp2
            go_roundw
            case rel => exact ⟨k + 1, by omega, by go_num, HD.out, below_drewN hB _⟩
            case measure => simp only [intOf]; omega
          · have HD := Lib.hid (HN.out xv rfl (.inr (by simpa using u2)))
            go_wp2
            go_quiet (fail)
            go_wp2
            go_ret
            exact ⟨by simp [HD.out], below_drewN hB _⟩
        · have HD := Lib.hid (HN.out xv rfl (.inl (by simpa using u1)))
          go_wp2
          go_quiet (fail)
          go_wp2
          go_ret
          exact ⟨by simp [HD.out], below_drewN hB _⟩
      · obtain rfl : k = r.length := by omega
        go_wp2
        go_ret
        exact ⟨by simp [holdsB_yes (r := r) (l := l) ⟨HL.out, fun j hj => HA.out j (by have := HL.out; omega)⟩], hB⟩
  · have k5 : ((r.length : Int) != (l.length : Int)) = true := by simp; omega
    have k4 : ((r.length : Int) == (l.length : Int)) = false := by simp; omega
    have HN := Lib.hid (holdsB_no (r := r) (l := l) (fun h => hlen h.1))
    clear hlen
    go_enter Tryd.func23, Tryd.ntmps23
    go_wp2
    go_ret
    exact ⟨by simp [HN.out], Below.refl _ _⟩
end Go.Proofs.YtddobhneplfddaaDoor
