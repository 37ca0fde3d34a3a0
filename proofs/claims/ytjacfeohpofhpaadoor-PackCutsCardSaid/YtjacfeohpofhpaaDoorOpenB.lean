/-
  Layer 11 (pack): the arguments opened: rows of bytes.
-/
import Derived.Test.YtjacfeohpofhpaaDoorOpenM
import Derived.Test.YtjacfeohpofhpaaDoorLawW
namespace Go.Proofs.YtjacfeohpofhpaaDoor
open Go.ChangeShapes Go.WideShapes Go.ChangeAt Go.RowKit Go.Deep Go.Joins
set_option linter.unusedSimpArgs false
set_option linter.unusedVariables false
instance : Inhabited UInt8 := ⟨0⟩
section
variable {H : Type} {enc : TypeId × Value → H} {W : World} {spare : Nat → Bool} {held : Bool}
theorem bytes8 : Tryd.prog.bytesOf 5 = 1 := by kernel_rfl
theorem dec_u8 (n : Nat) (cs : List Value) (y : DataW H × List MemPlace) (h : DataW.trod enc Tryd.prog W 0 spare held n 5 cs = some y) (_ : Fit Tryd.prog 5 y.1) : ∃ z : UInt8, True ∧ ∀ j, j < 1 → cs[j]? = some ((fun (z : UInt8) (_ : Nat) => u8V z) z j) := by
  obtain ⟨k, rfl, _, wf⟩ := DataW.trod_int Tryd.underlying5 h
  have hk : 0 ≤ k ∧ k ≤ 255 := by simpa [Lit.wf, IntKind.min, IntKind.max, IntKind.signed, IntKind.bits] using wf
  refine ⟨UInt8.ofNat k.toNat, trivial, fun j hj => ?_⟩
  obtain rfl : j = 0 := by omega
  simp only [List.getElem?_cons_zero, u8V]
  have : ((UInt8.ofNat k.toNat).toNat : Int) = k := by
    rw [UInt8.toNat_ofNat', Nat.mod_eq_of_lt (by omega)]; omega
  rw [this]
theorem open_bytes {b0 : Nat} {r : Reach} {v : Value} {d : DataW H} {p : List MemPlace}
    (hv : Value.okWide Tryd.prog W r b0 27 v) (h : DataW.Trod enc Tryd.prog W 0 spare held 27 v d p) (hfit : Fit Tryd.prog 27 d) : ∃ (l : List UInt8) (u : Value), v = u ∧ ByteR W W.heap.size u l ∧ l.length ≤ 140737488351232 := by
  obtain ⟨a0, len0, cap0, rfl⟩ := okWide_slice Tryd.underlying27 hv
  obtain ⟨fuel, hf⟩ := h
  have hx := open_slice Tryd.underlying27 hf
  obtain ⟨A, l, c, e, _, hb, hn, hr⟩ := open_rows (α := UInt8) (sz := 1) (fun z _ => u8V z) (fun _ => True) Tryd.underlying27 (by kernel_rfl) (by omega) dec_u8 hf hfit
  simp only [Value.cells, List.cons.injEq, Value.slice.injEq, and_true] at e
  obtain ⟨rfl, rfl, rfl⟩ := e
  have hle : l.length ≤ cap0 := by
    rcases hx with ⟨e, _⟩ | ⟨a, len, cap, m, n, D, Pl, e, hb2, hl, _⟩
    · simp only [Value.cells, List.cons.injEq, Value.slice.injEq, and_true] at e
      omega
    · simp only [Value.cells, List.cons.injEq, Value.slice.injEq, and_true] at e
      omega
  rw [bytes8] at hb
  unfold reachBytes at hb
  refine ⟨l, _, rfl, ⟨a0, cap0, rfl, hle, hn, fun h0 => ?_⟩, by omega⟩
  obtain ⟨b, off, e, hlt, hc⟩ := hr (List.length_pos_iff.2 h0)
  refine ⟨b, off, e, hlt, fun j hj => ?_⟩
  have := hc j hj 0 (by omega)
  rw [show off + j * 1 + 0 = off + j by omega] at this
  rw [this]; rfl
end
/-- A row of bytes as append of another wants it. -/
theorem ByteR.rows {w : World} {B : Nat} {A : Option Addr} {n c : Nat} {l : List UInt8} (h : ByteR w B (.slice A n c) l) : n = l.length ∧ (A = none → c = 0) ∧ RowsAt w B A l.length 1 (fun k _ => u8V (l.getD k 0)) := by
  obtain ⟨A2, c2, e, hc, hn, hr⟩ := h.row
  injection e with e1 e2 e3
  subst e1 e3
  refine ⟨e2, hn, fun h0 => ?_⟩
  obtain ⟨b, off, e, hlt, hcell⟩ := hr (List.length_pos_iff.1 h0)
  exact ⟨b, off, e, hlt, fun k hk j hj => by
    obtain rfl : j = 0 := by omega
    rw [show off + k * 1 + 0 = off + k by omega]
    exact hcell k hk⟩
theorem rowsL_U8s (l : List UInt8) : (rowsL l.length 1 fun k _ => u8V (l.getD k 0)) = U8s l := by
  apply List.ext_getElem?
  intro i
  rcases Nat.lt_or_ge i l.length with h | h
  · have := rowsL_get (n := l.length) (sz := 1) (val := fun k _ => u8V (l.getD k 0)) (k := i) (j := 0) h (by omega)
    rw [show i * 1 + 0 = i by omega] at this
    rw [this]
    simp [U8s, h, List.getD_eq_getElem?_getD]
  · rw [List.getElem?_eq_none (by rw [rowsL_len]; omega), List.getElem?_eq_none (by rw [U8s_len]; exact h)]
end Go.Proofs.YtjacfeohpofhpaaDoor
