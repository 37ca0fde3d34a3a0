/-
  Layer 16 (bounds): MakeApp, WayW.
-/
import Derived.Test.YtddobhneplfddaaDoorRows
import Derived.Test.YtddobhneplfddaaDoorZ1
import Derived.Test.YtddobhneplfddaaDoorZ3
import Derived.Test.YtddobhneplfddaaDoorZ4
import Derived.Test.YtddobhneplfddaaDoorZ5
import Derived.Test.YtddobhneplfddaaDoorZ6
import Derived.BigQuiet
import Derived.BigRegion
import Derived.Carry
import Derived.ChangeMaps5
import Derived.Deep.DeepHandedRow
import Derived.Deep.DrawnRows
import Derived.Deep.Fields
import Derived.Deep.Light
import Derived.Deep.QuietTactic
import Derived.Deep.RegionHeld3
import Derived.Deep.RegionLaw
import Derived.Deep.SlicePairs
import Derived.Deep.Slices
import Derived.JoinedCond
import Derived.Laws.AppendOwnNone
import Derived.Lib.Hide
import Derived.Lib.SmallJoins
import Derived.LoopTactic
import Derived.Maps.AppendAt
import Derived.OpenShut
import Derived.OpenVars
import Derived.Outline
import Derived.OwnWalk
import Derived.ProofKit
import Derived.SizedLaws
import Derived.WalkKit
import Derived.WalkLawsBesides
import Derived.WalkSpells
namespace Go.Proofs.YtddobhneplfddaaDoor
open Go.RowKit
set_option linter.unusedSimpArgs false
set_option linter.unusedVariables false
section
variable {P : Program} (w : World)
theorem run_append_make_nil (t u ty e : TypeId) (i : TypeInfo) (z : Value) (ht : P.underlying t = some (.slice e)) (hu : P.underlying u = some (.int .i64)) (hi : P.info? e = some i) (hz : i.zero = some z)
    (k : Nat) (h0 : 0 < k) (h63 : k ≤ 1024) (h48 : i.bytes ≤ 1024) (hs : 0 < i.size) :
    (Builtin.append_ #[t, u] ty #[.slice none 0 0, .int .i64 (k : Int)]).run P w =
      .ok (.slice (some ⟨w.heap.size, 0, none⟩) k (grownCap w k 0 e)) (w.drew.alloc (.cells (Builtin.zeroCells z.cells k ++ Builtin.zeroCells z.cells (grownCap w k 0 e - k)) e)) := by
  have hn : k ≠ 0 := by omega
  have hneg : ¬ ((k : Int) < 0) := by omega
  have hk : IntKind.i64.wrap (k : Int) = (k : Int) := IntWalk.i64_in _ (by omega)
  have hm : k * i.bytes ≤ 1048576 := Nat.mul_le_mul h63 h48
  have h63' : ¬ (9223372036854775807 < (k : Int)) := by omega
  have h48' : ¬ (281474976710656 < Builtin.nextslicecap k 0 * i.bytes) := by rw [nextslicecap_zero h0]; omega
  have h48i : ¬ ((281474976710656 : Int) < (k : Int) * (i.bytes : Int)) := by
    have h1 : ((k * i.bytes : Nat) : Int) ≤ 1048576 := by omega
    rw [Int.natCast_mul] at h1; omega
  have hsz : ¬ (k * i.size = 0) := by
    intro h; rcases Nat.mul_eq_zero.1 h with h | h <;> omega
  simp [Builtin.append_, run_underlying ht, run_underlying hu, sizeOf, typeInfo, zeroValue, hi, hz, asInt, asIntOf, hk, hneg, hn, h63', h48', h48i, hsz, Question.forced, run_firstCells_none, newRow, grownCap]
theorem run_append_make_grow (t u ty e : TypeId) (i : TypeInfo) (z : Value) (ht : P.underlying t = some (.slice e)) (hu : P.underlying u = some (.int .i64)) (hi : P.info? e = some i) (hz : i.zero = some z)
    (b : Addr) (n c : Nat) (olds : List Value) (hlo : olds.length = n * i.size) (holds : ∀ j v, olds[j]? = some v → w.cell? (b.add j) = some v)
    (k : Nat) (h0 : 0 < k) (hg : c < n + k) (h63 : n + k ≤ 1024) (h48 : i.bytes ≤ 1024) (hs : 0 < i.size) (hfit : Builtin.nextslicecap (n + k) c * i.bytes ≤ 281474976710656) :
    (Builtin.append_ #[t, u] ty #[.slice (some b) n c, .int .i64 (k : Int)]).run P w =
      .ok (.slice (some ⟨w.heap.size, 0, none⟩) (n + k) (grownCap w (n + k) c e)) (w.drew.alloc (.cells (olds.toArray ++ Builtin.zeroCells z.cells k ++ Builtin.zeroCells z.cells (grownCap w (n + k) c e - (n + k))) e)) := by
  have hn : ¬ (n + k ≤ c) := by omega
  have hneg : ¬ ((k : Int) < 0) := by omega
  have hk : IntKind.i64.wrap (k : Int) = (k : Int) := IntWalk.i64_in _ (by omega)
  have hm : k * i.bytes ≤ 1048576 := Nat.mul_le_mul (show k ≤ 1024 by omega) h48
  have h63' : ¬ (9223372036854775807 < ((n : Int) + (k : Int))) := by omega
  have h48' : ¬ (281474976710656 < Builtin.nextslicecap (n + k) c * i.bytes) := by omega
  have h48i : ¬ ((281474976710656 : Int) < (k : Int) * (i.bytes : Int)) := by
    have h1 : ((k * i.bytes : Nat) : Int) ≤ 1048576 := by omega
    rw [Int.natCast_mul] at h1; omega
  have hsz : ¬ (k * i.size = 0) := by
    intro h; rcases Nat.mul_eq_zero.1 h with h | h <;> omega
  have hfo := run_firstCells_some (P := P) w.drew i.size n b n c olds hlo (by simpa using holds)
  simp [Builtin.append_, run_underlying ht, run_underlying hu, sizeOf, typeInfo, zeroValue, hi, hz, asInt, asIntOf, hk, hneg, hn, h63', h48', h48i, hsz, Question.forced, hfo, newRow, grownCap]
theorem run_append_make_zero (t u ty e : TypeId) (i : TypeInfo) (ht : P.underlying t = some (.slice e)) (hu : P.underlying u = some (.int .i64)) (hi : P.info? e = some i)
    (A : Option Addr) (n c : Nat) (hc : n ≤ c) :
    (Builtin.append_ #[t, u] ty #[.slice A n c, .int .i64 0]).run P w = .ok (.slice A n c) w := by
  have hk : IntKind.i64.wrap 0 = 0 := rfl
  cases A <;> simp [Builtin.append_, run_underlying ht, run_underlying hu, sizeOf, typeInfo, hi, asInt, asIntOf, hk, hc, storeCells]
end
/-- append, whatever it does, as one step of a region that draws. -/
theorem step_append_run {P : Program} {ops : Array Oper} {o : Oper} {a : Act} {w w' : World} {v : Value} {K : Act → World → Prop} {Q : Exit → Act → World → Prop} {E : Prop}
    (hg : o.guard = none) (s x : Operand) (t u : TypeId) (hop : o.op = Op.call { callee := Callee.builtin Builtin.append, args := #[s, x], argTypes := #[t, u] })
    (hrun : (Builtin.append_ #[t, u] o.type #[a.eval s, a.eval x]).run P w = .ok v w') (hK : K (a.put o.dst v) w') :
    if Region.wanted o (yielded ops a.tmps) = true then Oper.wp P o a w K Q else E := by
  have hw : Region.wanted o (yielded ops a.tmps) = true := by simp [Region.wanted, hg]
  rw [if_pos hw]
  unfold Oper.wp
  simp [execOp, hop, resolve, invoke, builtin, hrun, Result.andThen]
  exact hK
end Go.Proofs.YtddobhneplfddaaDoor

namespace Go.Proofs.YtddobhneplfddaaDoor
set_option maxRecDepth 100000
open Go.RowKit
set_option linter.unusedSimpArgs false
set_option linter.unusedVariables false
/-- Spans that are read, from a place of a block on. -/
def InS (w : World) (ib io : Nat) (l : List Sp) : Prop := ∀ k s, l[k]? = some s → w.cell? ⟨ib, io + k * 2, none⟩ = some (.int .i64 s.lo) ∧ w.cell? ⟨ib, io + k * 2 + 1, none⟩ = some (.int .i64 s.hi)
/-- A slice of spans of the call's own. -/
def OutS (w : World) (base : Nat) (v : Value) (q : List Sp) : Prop := ∃ g cp, v = .slice (some ⟨g, 0, none⟩) q.length cp ∧ base ≤ g ∧ q.length ≤ cp ∧ cp ≤ maxLen ∧ RowS w g cp q
def WayV (w : World) (n : Nat) : Option (List Sp) → Value → World → Prop
  | none, v, _ => v = .slice none 0 0
  | some q, v, w' => OutS w' w.heap.size v q ∧ q.length = n
/-- What Way answers. -/
def WayOk (n : Nat) (o : Option (List Sp)) (w : World) (e : Ending) (w' : World) : Prop :=
  Below w.heap.size w w' ∧ ∃ v, e = .returned (.tuple #[v, .bool o.isSome]) ∧ WayV w n o v w'
structure WayW (w W : World) (g nr cp : Nat) (r : List Sp) (x : InsD) (wd : Int) (fv : Value) : Prop where
  below : Below w.heap.size w W
  size : w.heap.size + 1 + 1 + 1 ≤ W.heap.size
  x0 : W.cell? ⟨w.heap.size + 1 + 1, 0, none⟩ = some (.int .i64 x.op)
  x1 : W.cell? ⟨w.heap.size + 1 + 1, 1, none⟩ = some (.int .i64 x.a)
  x2 : W.cell? ⟨w.heap.size + 1 + 1, 2, none⟩ = some (.int .i64 x.b)
  x3 : W.cell? ⟨w.heap.size + 1 + 1, 3, none⟩ = some (.int .i64 x.c)
  x4 : W.cell? ⟨w.heap.size + 1 + 1, 4, none⟩ = some (.int .i64 x.n)
  wd : W.cell? ⟨w.heap.size + 1, 3, none⟩ = some (.int .i64 wd)
  fs : W.cell? ⟨w.heap.size, 1, none⟩ = some fv
  lg : w.heap.size + 1 + 1 + 1 ≤ g
  row : RowS W g cp r
  len : r.length = nr
  room : nr ≤ cp
  top : cp ≤ maxLen
namespace WayW
variable {w W W' : World} {g nr cp : Nat} {r : List Sp} {x : InsD} {wd : Int} {fv : Value}
theorem step (h : WayW w W g nr cp r x wd fv) (hb : Below W.heap.size W W') : WayW w W' g nr cp r x wd fv :=
  ⟨below_step h.below hb, Nat.le_trans h.size hb.size, cellK hb h.x0, cellK hb h.x1, cellK hb h.x2, cellK hb h.x3, cellK hb h.x4, cellK hb h.wd, cellK hb h.fs, h.lg, h.row.below' hb, h.len, h.room, h.top⟩
theorem alloc (h : WayW w W g nr cp r x wd fv) (b : Obj) : WayW w (W.alloc b) g nr cp r x wd fv := h.step (below_alloc (Below.refl _ _) _)
theorem drew (h : WayW w W g nr cp r x wd fv) : WayW w W.drew g nr cp r x wd fv := h.step (Below.refl _ _).drew
theorem drewN (h : WayW w W g nr cp r x wd fv) (n : Nat) : WayW w (W.drewN n) g nr cp r x wd fv := h.step (below_drewN (Below.refl _ _) n)
/-- A store into a block that is newer than all these. -/
theorem far (h : WayW w W g nr cp r x wd fv) {p : Addr} (hp : w.heap.size + 1 + 1 + 1 ≤ p.block) (hg : g ≠ p.block) (v : Value) : WayW w (W.setCell p v) g nr cp r x wd fv := by
  have c : ∀ (b o : Nat), b < w.heap.size + 1 + 1 + 1 → (W.setCell p v).cell? ⟨b, o, none⟩ = W.cell? ⟨b, o, none⟩ := fun b o hb => by
    rw [World.cell?, World.cell?, Below.heap_setCell _ _ _ b (by omega)]
  exact ⟨h.below.setCell (by omega) v, by have := h.size; simpa using this, by rw [c _ _ (by omega)]; exact h.x0, by rw [c _ _ (by omega)]; exact h.x1, by rw [c _ _ (by omega)]; exact h.x2, by rw [c _ _ (by omega)]; exact h.x3, by rw [c _ _ (by omega)]; exact h.x4, by rw [c _ _ (by omega)]; exact h.wd, by rw [c _ _ (by omega)]; exact h.fs, h.lg, h.row.far hg v, h.len, h.room, h.top⟩
/-- A store into the row. -/
theorem put (h : WayW w W g nr cp r x wd fv) {k : Nat} (hk : k < r.length) (a : Sp) : WayW w ((W.setCell ⟨g, k * 2, none⟩ (.int .i64 a.lo)).setCell ⟨g, k * 2 + 1, none⟩ (.int .i64 a.hi)) g nr cp (r.set k a) x wd fv := by
  have lg := h.lg
  have c : ∀ (b o : Nat), b ≠ g → ((W.setCell ⟨g, k * 2, none⟩ (.int .i64 a.lo)).setCell ⟨g, k * 2 + 1, none⟩ (.int .i64 a.hi)).cell? ⟨b, o, none⟩ = W.cell? ⟨b, o, none⟩ := fun b o hb => by
    rw [World.cell?, World.cell?, Below.heap_setCell _ _ _ b hb, Below.heap_setCell _ _ _ b hb]
  exact ⟨(h.below.setCell (p := ⟨g, k * 2, none⟩) (by simp; omega) _).setCell (p := ⟨g, k * 2 + 1, none⟩) (by simp; omega) _, by have := h.size; simpa using this, by rw [c _ _ (by omega)]; exact h.x0, by rw [c _ _ (by omega)]; exact h.x1, by rw [c _ _ (by omega)]; exact h.x2, by rw [c _ _ (by omega)]; exact h.x3, by rw [c _ _ (by omega)]; exact h.x4, by rw [c _ _ (by omega)]; exact h.wd, by rw [c _ _ (by omega)]; exact h.fs, lg, h.row.set hk a, by rw [List.length_set]; exact h.len, h.room, h.top⟩
theorem putLo (h : WayW w W g nr cp r x wd fv) {k : Nat} {s : Sp} (hs : r[k]? = some s) (y : Int) : WayW w (W.setCell ⟨g, k * 2, none⟩ (.int .i64 y)) g nr cp (r.set k ⟨y, s.hi⟩) x wd fv := by
  obtain ⟨hk, rfl⟩ := List.getElem?_eq_some_iff.1 hs
  have lg := h.lg
  have c : ∀ (b o : Nat), b ≠ g → (W.setCell ⟨g, k * 2, none⟩ (.int .i64 y)).cell? ⟨b, o, none⟩ = W.cell? ⟨b, o, none⟩ := fun b o hb => by
    rw [World.cell?, World.cell?, Below.heap_setCell _ _ _ b hb]
  exact ⟨h.below.setCell (p := ⟨g, k * 2, none⟩) (by simp; omega) _, by have := h.size; simpa using this, by rw [c _ _ (by omega)]; exact h.x0, by rw [c _ _ (by omega)]; exact h.x1, by rw [c _ _ (by omega)]; exact h.x2, by rw [c _ _ (by omega)]; exact h.x3, by rw [c _ _ (by omega)]; exact h.x4, by rw [c _ _ (by omega)]; exact h.wd, by rw [c _ _ (by omega)]; exact h.fs, lg, h.row.setLo hk y, by rw [List.length_set]; exact h.len, h.room, h.top⟩
/-- The spans that came in. -/
theorem ins (h : WayW w W g nr cp r x wd fv) {ib io : Nat} {l : List Sp} (hin : InS w ib io l) (hb : ib < w.heap.size) {k : Nat} {s : Sp} (hs : l[k]? = some s) : W.cell? ⟨ib, io + k * 2, none⟩ = some (.int .i64 s.lo) ∧ W.cell? ⟨ib, io + k * 2 + 1, none⟩ = some (.int .i64 s.hi) := by
  obtain ⟨h1, h2⟩ := hin k s hs
  exact ⟨(h.below.cell (p := ⟨ib, io + k * 2, none⟩) hb).trans h1, (h.below.cell (p := ⟨ib, io + k * 2 + 1, none⟩) hb).trans h2⟩
theorem yes (h : WayW w W g nr cp r x wd fv) : WayOk nr (some r) w (.returned (.tuple #[.slice (some ⟨g, 0, none⟩) nr cp, .bool true])) W :=
  ⟨h.below, _, rfl, ⟨g, cp, by rw [h.len], by have := h.lg; omega, by rw [h.len]; exact h.room, h.top, h.row⟩, h.len⟩
theorem no (h : WayW w W g nr cp r x wd fv) : WayOk nr none w (.returned (.tuple #[.slice none 0 0, .bool false])) W := ⟨h.below, _, rfl, rfl⟩
end WayW
theorem rowsL_rowSp (l : List Sp) : rowsL l.length 2 (fun k => spV (nthS l k)) = rowSp l := by
  apply List.ext_getElem?
  intro i
  by_cases hi : i < l.length * 2
  · have h1 : i = i / 2 * 2 + i % 2 := by omega
    have hk : i / 2 < l.length := by omega
    have e1 := rowsL_get (n := l.length) (sz := 2) (val := fun k => spV (nthS l k)) hk (show i % 2 < 2 by omega)
    obtain ⟨h2, h3⟩ := rowSp_get l (i / 2) hk
    have e : nthS l (i / 2) = l[i / 2] := by simp [nthS, hk]
    rw [h1, e1, e]
    rcases Nat.mod_two_eq_zero_or_one i with hm | hm
    · rw [hm, Nat.add_zero, h2]; rfl
    · rw [hm, h3]; rfl
  · rw [List.getElem?_eq_none (by rw [rowsL_len]; omega), List.getElem?_eq_none (by rw [rowSp_len]; omega)]
end Go.Proofs.YtddobhneplfddaaDoor
