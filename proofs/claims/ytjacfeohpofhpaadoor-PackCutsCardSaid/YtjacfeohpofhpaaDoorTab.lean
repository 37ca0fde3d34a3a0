/-
  Layer 9 (code): the table of the operations as plain data, and what it means that memory holds it.
-/
import Derived.Test.YtjacfeohpofhpaaDoorKeep
namespace Go.Proofs.YtjacfeohpofhpaaDoor
open Go.RowKit

/-- A row of the table: word, weight, has A, has B, has C, the kind of N, writes. -/
structure Row where
  word : List UInt8
  weight : Int
  a : Bool
  b : Bool
  c : Bool
  n : Int
  wr : Bool

/-- The table, as package code lays it. -/
def tab : List Row := [
  ⟨[114, 101, 116], 1, true, false, false, 0, false⟩,
  ⟨[115, 101, 116], 1, true, false, false, 1, true⟩,
  ⟨[109, 111, 118, 101], 1, true, true, false, 0, true⟩,
  ⟨[97, 100, 100], 1, true, true, true, 0, true⟩,
  ⟨[115, 117, 98], 1, true, true, true, 0, true⟩,
  ⟨[109, 117, 108], 3, true, true, true, 0, true⟩,
  ⟨[100, 105, 118], 8, true, true, true, 0, true⟩,
  ⟨[114, 101, 109], 8, true, true, true, 0, true⟩,
  ⟨[108, 101, 115, 115], 1, true, true, true, 0, true⟩,
  ⟨[101, 113, 117, 97, 108], 1, true, true, true, 0, true⟩,
  ⟨[110, 111, 116], 1, true, true, false, 0, true⟩,
  ⟨[108, 111, 97, 100], 2, true, true, false, 1, true⟩,
  ⟨[115, 116, 111, 114, 101], 2, true, true, false, 1, false⟩,
  ⟨[99, 104, 101, 99, 107], 1, true, false, false, 3, false⟩,
  ⟨[106, 117, 109, 112], 1, false, false, false, 2, false⟩,
  ⟨[105, 102], 1, true, false, false, 2, false⟩,
  ⟨[117, 110, 108, 101, 115, 115], 1, true, false, false, 2, false⟩,
  ⟨[99, 111, 117, 110, 116], 1, true, true, false, 2, false⟩,
  ⟨[115, 116, 101, 112], 1, true, false, false, 2, true⟩,
  ⟨[99, 97, 108, 108], 4, true, true, false, 4, true⟩]

def row (k : Nat) : Row := tab.getD k ⟨[], 0, false, false, false, 0, false⟩
def strOf (l : List UInt8) : ByteArray := ⟨l.toArray⟩

/-- The table lies in its block, and that block lies there. -/
structure TabOk (w : World) : Prop where
  size : 0 < w.heap.size
  word : ∀ k, k < 20 → w.cell? ⟨0, k * 7, none⟩ = some (.string (strOf (row k).word))
  weight : ∀ k, k < 20 → w.cell? ⟨0, k * 7 + 1, none⟩ = some (.int .i64 (row k).weight)
  a : ∀ k, k < 20 → w.cell? ⟨0, k * 7 + 2, none⟩ = some (.bool (row k).a)
  b : ∀ k, k < 20 → w.cell? ⟨0, k * 7 + 3, none⟩ = some (.bool (row k).b)
  c : ∀ k, k < 20 → w.cell? ⟨0, k * 7 + 4, none⟩ = some (.bool (row k).c)
  n : ∀ k, k < 20 → w.cell? ⟨0, k * 7 + 5, none⟩ = some (.int .i64 (row k).n)
  wr : ∀ k, k < 20 → w.cell? ⟨0, k * 7 + 6, none⟩ = some (.bool (row k).wr)

theorem TabOk.keep {w w' : World} (h : TabOk w) (hs : w.heap.size ≤ w'.heap.size) (hc : ∀ o, w'.cell? ⟨0, o, none⟩ = w.cell? ⟨0, o, none⟩) : TabOk w' :=
  ⟨Nat.lt_of_lt_of_le h.size hs, fun k hk => (hc _).trans (h.word k hk), fun k hk => (hc _).trans (h.weight k hk), fun k hk => (hc _).trans (h.a k hk), fun k hk => (hc _).trans (h.b k hk), fun k hk => (hc _).trans (h.c k hk), fun k hk => (hc _).trans (h.n k hk), fun k hk => (hc _).trans (h.wr k hk)⟩
theorem TabOk.below {w w' : World} {B : Nat} (h : TabOk w) (hb : Below B w w') (hB : 0 < B) : TabOk w' := h.keep hb.size fun _ => hb.cell hB
theorem TabOk.alloc {w : World} (h : TabOk w) (o : Obj) : TabOk (w.alloc o) := h.below (B := w.heap.size) ((Below.refl _ _).alloc (Nat.le_refl _) _) h.size
theorem TabOk.drew {w : World} (h : TabOk w) : TabOk w.drew := h.keep (Nat.le_refl _) fun _ => rfl

def known (op : Int) : Bool := decide (0 ≤ op) && decide (op < 20)
def weight (op : Int) : Int := if known op = true then (row op.toNat).weight else 0
def word (op : Int) : List UInt8 := if known op = true then (row op.toNat).word else []
def writes (op a : Int) : Int := if known op && (row op.toNat).wr then a else -1
end Go.Proofs.YtjacfeohpofhpaaDoor
