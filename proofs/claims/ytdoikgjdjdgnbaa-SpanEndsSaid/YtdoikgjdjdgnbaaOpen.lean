/-
  Layer 8 (span): the arguments opened: spans by value.
-/
import Derived.Test.YtdoikgjdjdgnbaaPlainA
import Derived.Lib.SmallJoins
import Derived.Test.YtdoikgjdjdgnbaaKitB
import Derived.SizedLaws
namespace Go.Proofs.Ytdoikgjdjdgnbaa
open Go.ChangeShapes Go.WideShapes Go.ChangeAt Go.RowKit Go.Joins

theorem open_span {H : Type} {enc : TypeId × Value → H} {W : World} {base b0 : Nat} {spare : Nat → Bool} {held : Bool} {r : Reach} {v : Value} {d : DataW H} {p : List MemPlace}
    (hv : Value.okWide Try.prog W r b0 23 v) (h : DataW.Trod enc Try.prog W base spare held 23 v d p) : ∃ s : Sp, v = .agg #[.int .i64 s.lo, .int .i64 s.hi] ∧ s.Wf := by
  obtain ⟨c0, c1, y0, y1, m, rfl, rfl, rfl, hy0, hy1⟩ := open_agg2 Try.underlying23 (by kernel_rfl) (by kernel_rfl) hv h
  obtain ⟨a, e0, _, wa⟩ := DataW.trod_int Try.underlying2 hy0
  obtain ⟨b, e1, _, wb⟩ := DataW.trod_int Try.underlying2 hy1
  simp at e0 e1
  subst e0 e1
  refine ⟨⟨a, b⟩, rfl, ?_, ?_⟩
  · simpa [Lit.wf, IntKind.min, IntKind.max, IntKind.signed, IntKind.bits] using wa
  · simpa [Lit.wf, IntKind.min, IntKind.max, IntKind.signed, IntKind.bits] using wb
/-- A slice of integers that came in: nil, or so many numbers that can be read. -/
theorem open_intsl {H : Type} {enc : TypeId × Value → H} {W : World} {b0 : Nat} {r : Reach} {v : Value} {d : DataW H} {p : List MemPlace}
    (hv : Value.okWide Try.prog W r b0 38 v) (h : DataW.Trod enc Try.prog W 0 (fun _ => true) true 38 v d p) :
    v = .slice none 0 0 ∨ ∃ (ad : Addr) (ts : List Int) (c : Nat) (elems spare : List (DataW H)), v = .slice (some ad) ts.length c ∧ d = .slice elems spare ∧ elems.length = ts.length ∧ ts.length ≤ maxLen ∧ IntsAt W W.heap.size (some ad) ts := by
  obtain ⟨a0, len, cap, rfl⟩ := okWide_slice Try.underlying38 hv
  obtain ⟨fuel, hf⟩ := h
  rcases open_ints Try.underlying38 Try.underlying2 (by kernel_rfl) hf with ⟨hcs, hx⟩ | ⟨a, len', cap', zs, hcs, _, hl, hm, hz, hx, hcell, hwz⟩
  · left
    simpa [Value.cells] using hcs
  · right
    simp only [Value.cells, List.cons.injEq, Value.slice.injEq, and_true] at hcs
    obtain ⟨rfl, rfl, rfl⟩ := hcs
    simp only [Prod.mk.injEq] at hx
    rw [if_pos rfl] at hz
    have hlen : (zs.take len).length = len := by rw [List.length_take]; omega
    refine ⟨a, zs.take len, cap, _, _, by rw [hlen], hx.1, by simp [lits, List.length_take], by rw [hlen]; omega, fun h0 => ?_⟩
    obtain ⟨b, off, rfl, hc⟩ := ints_at hcell (by omega)
    have hb : b < W.heap.size := World.block_lt_of_cell? W ⟨b, off + 0, none⟩ (hc 0 (by omega))
    refine ⟨b, off, rfl, hb, fun k hk => ?_⟩
    rw [hlen] at hk
    rw [hc k (by omega)]
    simp [nthI, hk]
theorem bytesInt : Try.prog.bytesOf 2 = 8 := by kernel_rfl
/-- The same in one form, with the form's own reach. -/
theorem open_ints_all {H : Type} {enc : TypeId × Value → H} {W : World} {b0 : Nat} {r : Reach} {v : Value} {d : DataW H} {p : List MemPlace}
    (hv : Value.okWide Try.prog W r b0 38 v) (h : DataW.Trod enc Try.prog W 0 (fun _ => true) true 38 v d p)
    (hs : ∀ elems spare, d = .slice elems spare → (elems.length + spare.length) * Try.prog.bytesOf 2 ≤ reachBytes) :
    ∃ (A : Option Addr) (ts : List Int) (c : Nat), v = .slice A ts.length c ∧ (A = none → c = 0 ∧ ts = []) ∧ ts.length * 8 ≤ 140737488351232 ∧ IntsAt W W.heap.size A ts := by
  rcases open_intsl hv h with rfl | ⟨ad, ts, c, elems, spare, rfl, hd, hl, _, hI⟩
  · exact ⟨none, [], 0, rfl, fun _ => ⟨rfl, rfl⟩, by simp, fun h => by simp at h⟩
  · refine ⟨some ad, ts, c, rfl, (fun h => by cases h), ?_, hI⟩
    have := hs elems spare hd
    rw [bytesInt, hl] at this
    unfold reachBytes at this
    omega
end Go.Proofs.Ytdoikgjdjdgnbaa
