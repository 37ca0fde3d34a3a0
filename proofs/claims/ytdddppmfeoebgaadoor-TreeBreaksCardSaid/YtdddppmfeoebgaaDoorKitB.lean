/-
  Small facts on new blocks, and on slices of integers that are read.
-/
import Derived.Test.YtdddppmfeoebgaaDoorKit
namespace Go.Proofs.YtdddppmfeoebgaaDoor
open Go.RowKit
theorem Whl.new1 (w : World) (o : Obj) (t : TypeId) (cs : Array Value) : Whl ((w.alloc o).alloc (.cells cs t)) (w.heap.size + 1) t cs := by
  have := Whl.new (w.alloc o) t cs
  rwa [World.size_alloc] at this
theorem Whl.new2 (w : World) (o p : Obj) (t : TypeId) (cs : Array Value) : Whl (((w.alloc o).alloc p).alloc (.cells cs t)) (w.heap.size + 1 + 1) t cs := by
  have := Whl.new1 (w.alloc o) p t cs
  rwa [World.size_alloc] at this
theorem Whl.new3 (w : World) (o p q : Obj) (t : TypeId) (cs : Array Value) : Whl ((((w.alloc o).alloc p).alloc q).alloc (.cells cs t)) (w.heap.size + 1 + 1 + 1) t cs := by
  have := Whl.new2 (w.alloc o) p q t cs
  rwa [World.size_alloc] at this
theorem Whl.new4 (w : World) (o p q r : Obj) (t : TypeId) (cs : Array Value) : Whl (((((w.alloc o).alloc p).alloc q).alloc r).alloc (.cells cs t)) (w.heap.size + 1 + 1 + 1 + 1) t cs := by
  have := Whl.new3 (w.alloc o) p q r t cs
  rwa [World.size_alloc] at this

/-- A rule for the walk ('attribute [local go_sem] lt_add_of'): what lies below a size lies below every greater one. -/
theorem lt_add_of {a b k : Nat} (h : a < b) : (a < b + k) = True := by simp; omega
theorem le_add_of {a b k : Nat} (h : a < b) : (a ≤ b + k) = True := by simp; omega
theorem lt_add2 {a b : Nat} (h : a < b) : (a < b + 1 + 1) = True := by simp; omega
theorem le_add2 {a b : Nat} (h : a < b) : (a ≤ b + 1 + 1) = True := by simp; omega
theorem lt_add3 {a b : Nat} (h : a < b) : (a < b + 1 + 1 + 1) = True := by simp; omega
theorem le_add3 {a b : Nat} (h : a < b) : (a ≤ b + 1 + 1 + 1) = True := by simp; omega
theorem lt_add4 {a b : Nat} (h : a < b) : (a < b + 1 + 1 + 1 + 1) = True := by simp; omega
theorem le_add4 {a b : Nat} (h : a < b) : (a ≤ b + 1 + 1 + 1 + 1) = True := by simp; omega
theorem lt_add5 {a b : Nat} (h : a < b) : (a < b + 1 + 1 + 1 + 1 + 1) = True := by simp; omega
theorem le_add5 {a b : Nat} (h : a < b) : (a ≤ b + 1 + 1 + 1 + 1 + 1) = True := by simp; omega
theorem lt_add6 {a b : Nat} (h : a < b) : (a < b + 1 + 1 + 1 + 1 + 1 + 1) = True := by simp; omega
theorem le_add6 {a b : Nat} (h : a < b) : (a ≤ b + 1 + 1 + 1 + 1 + 1 + 1) = True := by simp; omega
theorem lt_add7 {a b : Nat} (h : a < b) : (a < b + 1 + 1 + 1 + 1 + 1 + 1 + 1) = True := by simp; omega
theorem le_add7 {a b : Nat} (h : a < b) : (a ≤ b + 1 + 1 + 1 + 1 + 1 + 1 + 1) = True := by simp; omega
theorem lt_add8 {a b : Nat} (h : a < b) : (a < b + 1 + 1 + 1 + 1 + 1 + 1 + 1 + 1) = True := by simp; omega
theorem le_add8 {a b : Nat} (h : a < b) : (a ≤ b + 1 + 1 + 1 + 1 + 1 + 1 + 1 + 1) = True := by simp; omega
theorem le_of_lt_ {a b : Nat} (h : a < b) : (a ≤ b) = True := by simp; omega

attribute [go_sem] lt_add_of le_add_of le_of_lt_ lt_add2 le_add2 lt_add3 le_add3 lt_add4 le_add4 lt_add5 le_add5 lt_add6 le_add6 lt_add7 le_add7 lt_add8 le_add8

def nthI (zs : List Int) (k : Nat) : Int := zs.getD k 0
/-- A slice of integers that is read: where it has elements, its cells lie below block B. -/
def IntsAt (w : World) (B : Nat) (A : Option Addr) (zs : List Int) : Prop :=
  0 < zs.length → ∃ b off, A = some ⟨b, off, none⟩ ∧ b < B ∧ ∀ k, k < zs.length → w.cell? ⟨b, off + k, none⟩ = some (.int .i64 (nthI zs k))
theorem IntsAt.below {w w' : World} {B B' : Nat} {A : Option Addr} {zs : List Int} (h : IntsAt w B A zs) (hb : Below B' w w') (hB : B ≤ B') : IntsAt w' B A zs := fun h0 => by
  obtain ⟨b, off, e, hlt, hc⟩ := h h0
  exact ⟨b, off, e, hlt, fun k hk => (hb.cell (p := ⟨b, off + k, none⟩) (Nat.lt_of_lt_of_le hlt hB)).trans (hc k hk)⟩
theorem IntsAt.more {w : World} {B B' : Nat} {A : Option Addr} {zs : List Int} (h : IntsAt w B A zs) (hB : B ≤ B') : IntsAt w B' A zs := fun h0 => by
  obtain ⟨b, off, e, hlt, hc⟩ := h h0
  exact ⟨b, off, e, Nat.lt_of_lt_of_le hlt hB, hc⟩
theorem IntsAt.lit (w : World) (t : TypeId) (zs : List Int) : IntsAt (w.alloc (.cells (zs.map (Value.int .i64)).toArray t)) (w.heap.size + 1) (some ⟨w.heap.size, 0, none⟩) zs := fun h0 =>
  ⟨w.heap.size, 0, rfl, Nat.lt_succ_self _, fun k hk => by
    rw [(Whl.new w t _).cell]
    simp [nthI, hk]⟩
end Go.Proofs.YtdddppmfeoebgaaDoor
