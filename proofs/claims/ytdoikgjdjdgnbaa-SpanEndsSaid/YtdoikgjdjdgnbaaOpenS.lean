/-
  Layer 8 (span): a slice of spans that came in, opened.
-/
import Derived.Test.YtdoikgjdjdgnbaaOpen
import Derived.Test.YtdoikgjdjdgnbaaEndsW
import Derived.Deep.SlicePairs
namespace Go.Proofs.Ytdoikgjdjdgnbaa
open Go.ChangeShapes Go.WideShapes Go.ChangeAt Go.RowKit
set_option linter.unusedSimpArgs false
set_option linter.unusedVariables false

theorem bytesSpan : Try.prog.bytesOf 23 = 16 := by kernel_rfl
/-- The number that a value bears. -/
def intV : Value → Int
  | .int _ n => n
  | _ => 0
theorem open_spans {H : Type} {enc : TypeId × Value → H} {W : World} {b0 : Nat} {r : Reach} {v : Value} {d : DataW H} {p : List MemPlace}
    (hv : Value.okWide Try.prog W r b0 46 v) (h : DataW.Trod enc Try.prog W 0 (fun _ => true) true 46 v d p)
    (hs : ∀ elems spare, d = .slice elems spare → (elems.length + spare.length) * Try.prog.bytesOf 23 ≤ reachBytes) :
    ∃ (A : Option Addr) (ss : List Sp) (c : Nat), v = .slice A ss.length c ∧ (∀ s, s ∈ ss → s.Wf) ∧ ss.length * 16 ≤ 140737488351232 ∧ SpansAt W W.heap.size A ss := by
  obtain ⟨a0, len, cap, rfl⟩ := okWide_slice Try.underlying46 hv
  obtain ⟨fuel, hf⟩ := h
  rcases Deep.open_slice_pairs Try.underlying46 Try.underlying23 (by kernel_rfl) rfl rfl (by kernel_rfl) (by kernel_rfl) hf with ⟨hcs, hx⟩ | ⟨a, len', cap', m, n, V0, V1, D0, D1, P0, P1, hcs, _, hl, hm, hmm, hx, hc⟩
  · simp only [Value.cells, List.cons.injEq, Value.slice.injEq, and_true] at hcs
    obtain ⟨rfl, rfl, rfl⟩ := hcs
    exact ⟨none, [], 0, rfl, fun s hs => by simp at hs, by simp, fun h => by simp at h⟩
  · simp only [Value.cells, List.cons.injEq, Value.slice.injEq, and_true] at hcs
    obtain ⟨rfl, rfl, rfl⟩ := hcs
    simp only [Prod.mk.injEq] at hx
    have hsz := hs _ _ hx.1
    rw [bytesSpan] at hsz
    simp at hsz
    rw [if_pos rfl] at hmm
    subst hmm
    have each : ∀ i, i < len → ∃ lo hi : Int, V0 i = .int .i64 lo ∧ V1 i = .int .i64 hi ∧ Sp.Wf ⟨lo, hi⟩ := fun i hi => by
      obtain ⟨_, _, hy0, hy1⟩ := hc i (by omega)
      obtain ⟨x, e0, _, wa⟩ := DataW.trod_int Try.underlying2 hy0
      obtain ⟨y, e1, _, wb⟩ := DataW.trod_int Try.underlying2 hy1
      simp at e0 e1
      refine ⟨x, y, e0, e1, ?_, ?_⟩
      · simpa [Lit.wf, IntKind.min, IntKind.max, IntKind.signed, IntKind.bits] using wa
      · simpa [Lit.wf, IntKind.min, IntKind.max, IntKind.signed, IntKind.bits] using wb
    have hnth : ∀ i, i < len → nthS ((List.range len).map fun i => (⟨intV (V0 i), intV (V1 i)⟩ : Sp)) i = ⟨intV (V0 i), intV (V1 i)⟩ := fun i hi => by simp [nthS, hi]
    refine ⟨some a, (List.range len).map fun i => ⟨intV (V0 i), intV (V1 i)⟩, m, by simp, ?_, by unfold reachBytes at hsz; simp; omega, ?_⟩
    · intro s hs
      obtain ⟨i, hi, rfl⟩ := List.mem_map.1 hs
      obtain ⟨x, y, e0, e1, hw⟩ := each i (by simpa using hi)
      rw [e0, e1]; exact hw
    · intro hp
      have hp' : 0 < len := by simpa using hp
      have h0 := (hc 0 (by omega)).1
      obtain ⟨b, off, spot⟩ := a
      have hspot : spot = none := by simpa [Addr.add] using World.cell?_spot h0
      subst hspot
      have hb : b < W.heap.size := World.block_lt_of_cell? W _ h0
      refine ⟨b, off, rfl, hb, fun k hk => ?_⟩
      have hk' : k < len := by simpa using hk
      obtain ⟨c0, c1, _, _⟩ := hc k (by omega)
      obtain ⟨x, y, e0, e1, hw⟩ := each k hk'
      rw [hnth k hk', e0, e1]
      rw [e0, add_plain] at c0
      rw [e1, add_plain] at c1
      exact ⟨c0, c1⟩
end Go.Proofs.Ytdoikgjdjdgnbaa
