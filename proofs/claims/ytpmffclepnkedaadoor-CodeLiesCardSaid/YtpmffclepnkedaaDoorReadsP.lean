/-
  Layer 9 (code): Reads of the program: the maker of the iterator; the iterator joined.
-/
import Derived.Test.YtpmffclepnkedaaDoorIterA
import Derived.Test.YtpmffclepnkedaaDoorIterB
import Derived.Test.YtpmffclepnkedaaDoorIterC
namespace Go.Proofs.YtpmffclepnkedaaDoor
open Go.RowKit Go.Shelf
set_option linter.unusedSimpArgs false
set_option linter.unusedVariables false

theorem readsP (x : InsD) (p : Int) (w : World) : Calls Tryd.prog 26 #[x.val, .int .i64 p] w fun e w' =>
    e = .returned (.func (.func 43) #[] #[.pointer (some ⟨w.heap.size, 0, none⟩), .pointer (some ⟨w.heap.size + 1, 0, none⟩)]) ∧
    w' = (w.alloc (.cells #[.int .i64 x.op, .int .i64 x.a, .int .i64 x.b, .int .i64 x.c, .int .i64 x.n] 27)).alloc (.cells #[.int .i64 p] 3) := by
  go_enter Tryd.func26, Tryd.ntmps26
  go_wp2
  go_ret
  exact ⟨rfl, rfl⟩
theorem keepI_b {n0 n1 : Nat} {w : World} (hn0 : n0 ≤ w.heap.size) (W : World) (l : Nat) (o o' : Obj) (hl : w.heap.size ≤ l) (h : W.heap[l]? = some o) (hc : o.isCells = false) (hw : o.isWalk = false) : KeepI n0 n1 W (W.putObj l o') :=
  ⟨belowK_b hn0 W l o o' hl h hc hw, fun k q hk hq hqc => by
    have hne : k ≠ l := fun e => by subst e; rw [h] at hq; cases hq; rw [hc] at hqc; cases hqc
    exact (World.putObj_heap_other (fun e => hne (by rw [e]))).trans hq⟩
theorem readsD_lit {k : Nat} (hk : known (k : Int) = true) (h19 : k ≠ 19) (a b c n p : Int) : readsD ⟨(k : Int), a, b, c, n⟩ p = (if ((row k).a && (!(row k).wr || (k : Int) == 18)) = true then [a] else []) ++ ((if (row k).b = true then [b] else []) ++ (if (row k).c = true then [c] else [])) := by
  simp only [readsD]
  rw [if_neg (by omega), if_pos hk]; rfl
end Go.Proofs.YtpmffclepnkedaaDoor
