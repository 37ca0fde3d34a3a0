/-
  Layer 16 (bounds): OpenM, Own, OpenL, Slic, Copy.
-/
import Derived.Test.YtddobhneplfddaaDoorV3
import Derived.ChangeMaps5
import Derived.Deep.Fields
import Derived.Deep.SlicePairs
import Derived.Deep.Slices
import Derived.Laws.AppendOwnNone
import Derived.Lib.SmallJoins
import Derived.LoopTactic
import Derived.Maps.AppendAt
import Derived.OwnWalk
import Derived.SizedLaws
namespace Go.Proofs.YtddobhneplfddaaDoor
set_option maxRecDepth 100000
open Go.ChangeShapes Go.WideShapes Go.ChangeAt Go.RowKit Go.Deep Go.Joins
set_option linter.unusedSimpArgs false
set_option linter.unusedVariables false

section
variable {H : Type} {enc : TypeId × Value → H} {P : Program} {w : World} {spare : Nat → Bool} {held : Bool}
/-- What the form asks of every part's size. -/
def Fit (P : Program) (t : TypeId) (d : DataW H) : Prop := ∀ n ∈ d.weights P t, n ≤ reachBytes
theorem fit_of_all {ts : List TypeId} {ds : List (DataW H)} {j : Nat} {t : TypeId} {d : DataW H} (h : (DataW.weightsEach P ts ds).all (· ≤ reachBytes) = true) (ht : ts[j]? = some t) (hd : ds[j]? = some d) : Fit P t d := fun n hn => by
  have := List.all_eq_true.1 h _ (DataW.weights_mem_each ht hd n hn)
  simpa using this
theorem fit_field {fs : Array Field} {t : TypeId} {parts : List (DataW H)} (hs : P.underlying t = some (.struct fs)) (h : Fit P t (.agg parts)) {i : Nat} {f : Field} {d : DataW H} (hf : fs[i]? = some f) (hd : parts[i]? = some d) : Fit P f.type d := fun n hn =>
  h n (by
    simp only [DataW.weights, hs]
    exact DataW.weights_mem_each (j := i) (by simp [hf]) hd n hn)
theorem weights_mem_all {e : TypeId} : ∀ {l : List (DataW H)} {d : DataW H}, d ∈ l → ∀ n ∈ d.weights P e, n ∈ DataW.weightsAll P e l
  | a :: r, d, hd, n, hn => by
    simp only [DataW.weightsAll, List.mem_append]
    rcases List.mem_cons.1 hd with rfl | hd
    · exact .inl hn
    · exact .inr (weights_mem_all hd n hn)
theorem fit_elem {t e : TypeId} {elems sp : List (DataW H)} {d : DataW H} (ht : P.underlying t = some (.slice e)) (h : Fit P t (.slice elems sp)) (hd : d ∈ elems) : Fit P e d := fun n hn =>
  h n (by
    simp only [DataW.weights, ht, List.mem_cons, List.mem_append]
    exact .inr (.inl (weights_mem_all hd n hn)))
theorem fit_len {t e : TypeId} {elems sp : List (DataW H)} (ht : P.underlying t = some (.slice e)) (h : Fit P t (.slice elems sp)) : (elems.length + sp.length) * P.bytesOf e ≤ reachBytes :=
  h _ (by simp only [DataW.weights, ht, List.mem_cons, true_or])
/-- A struct whose fields are one cell each. -/
theorem open_fields {t : TypeId} {fs : Array Field} {fuel : Nat} {cs : List Value} {x : DataW H × List MemPlace} (hs : P.underlying t = some (.struct fs)) (hone : oneCellFields P fs = true) (hC : P.cellsOf t = fs.size)
    (h : DataW.trod enc P w 0 spare held fuel t cs = some x) :
    ∃ (n : Nat) (ys : List (DataW H × List MemPlace)), x.1 = .agg (ys.map (·.1)) ∧ cs.length = fs.size ∧ ys.length = fs.size ∧ ∀ (i : Nat) (f : Field), fs[i]? = some f → ∃ (v : Value) (y : DataW H × List MemPlace), cs[i]? = some v ∧ ys[i]? = some y ∧ DataW.trod enc P w 0 spare held n f.type [v] = some y := by
  obtain ⟨xs, n, rfl, rfl, hlen, hxl, hf⟩ := DataW.trod_struct hs h
  refine ⟨n, xs, rfl, by rw [hlen, hC], hxl, fun i f hif => ?_⟩
  obtain ⟨ho, hc⟩ := hone_of hone i f hif
  have hi : i < fs.size := by
    rcases Nat.lt_or_ge i fs.size with k | k
    · exact k
    · rw [Array.getElem?_eq_none k] at hif; cases hif
  have := hf i f hif
  rw [ho, hc, take1_drop cs i (.int .i64 0) (by omega)] at this
  have hi2 : i < xs.length := by omega
  rw [List.getElem?_eq_getElem hi2] at this
  exact ⟨_, xs[i], by rw [List.getElem?_eq_getElem (by omega : i < cs.length), List.getD_eq_getElem?_getD, List.getElem?_eq_getElem (by omega : i < cs.length)]; rfl, List.getElem?_eq_getElem hi2, this⟩
/-- A slice, its elements read one by one. -/
theorem open_rows {α : Type} [Inhabited α] {t e : TypeId} {fuel : Nat} {cs : List Value} {x : DataW H × List MemPlace} {sz : Nat} (val : α → Nat → Value) (Q : α → Prop)
    (ht : P.underlying t = some (.slice e)) (ce : P.cellsOf e = sz) (hz : 0 < sz)
    (dec : ∀ (n : Nat) (cs : List Value) (y : DataW H × List MemPlace), DataW.trod enc P w 0 spare held n e cs = some y → Fit P e y.1 → ∃ z : α, Q z ∧ ∀ j, j < sz → cs[j]? = some (val z j))
    (h : DataW.trod enc P w 0 spare held fuel t cs = some x) (hfit : Fit P t x.1) :
    ∃ (A : Option Addr) (l : List α) (c : Nat), cs = [.slice A l.length c] ∧ (∀ z ∈ l, Q z) ∧ l.length * P.bytesOf e ≤ reachBytes ∧ (A = none → c = 0) ∧ RowsAt w w.heap.size A l.length sz (fun k => val (l.getD k default)) := by
  rcases open_slice ht h with ⟨rfl, rfl⟩ | ⟨a, len, cap, m, n, D, Pl, rfl, hb, hl, hm, hmm, rfl, hx⟩
  · exact ⟨none, [], 0, rfl, fun z hz => by simp at hz, by simp [reachBytes], fun _ => rfl, fun h => by simp at h⟩
  · have hlm : len ≤ m := by rw [hmm]; split <;> omega
    have hlen := fit_len ht hfit
    simp only [List.length_map, List.length_range] at hlen
    have each : ∀ i, i < len → ∃ z : α, Q z ∧ ∀ j, j < sz → w.cell? ((a.add (i * sz)).add j) = some (val z j) := fun i hi => by
      obtain ⟨cs', h1, h2⟩ := hx i (by omega)
      rw [ce] at h1
      obtain ⟨_, hl', hcell⟩ := World.cells?_some h1
      obtain ⟨z, hq, hv⟩ := dec n cs' _ h2 (fit_elem ht hfit (List.mem_map.2 ⟨i, List.mem_range.2 hi, rfl⟩))
      exact ⟨z, hq, fun j hj => (hcell j hj).trans (hv j hj)⟩
    obtain ⟨g, hg⟩ := choose_lt each
    refine ⟨some a, (List.range len).map g, cap, by simp, ?_, ?_, (fun h => by cases h), ?_⟩
    · intro z hz
      obtain ⟨i, hi, rfl⟩ := List.mem_map.1 hz
      exact (hg i (List.mem_range.1 hi)).1
    · simp only [List.length_map, List.length_range]
      exact Nat.le_trans (Nat.mul_le_mul_right _ (by omega)) hlen
    · intro hp
      have hp' : 0 < len := by simpa using hp
      have h0 := (hg 0 hp').2 0 hz
      obtain ⟨b, off, spot⟩ := a
      have hspot : spot = none := by simpa [Addr.add] using World.cell?_spot h0
      subst hspot
      rw [Deep.add_add, add_plain] at h0
      have hb : b < w.heap.size := World.block_lt_of_cell? w _ h0
      refine ⟨b, off, rfl, hb, fun k hk j hj => ?_⟩
      have hk' : k < len := by simpa using hk
      have := (hg k hk').2 j hj
      rw [Deep.add_add, add_plain] at this
      rw [Nat.add_assoc, this]
      simp [List.getD, hk']
end
/-- A slice that is nil has no room. -/
structure FuncD.Nils (f : FuncD) : Prop where
  p : f.pa = none → f.pc = 0
  c : f.ca = none → f.cc = 0
structure ModD.Nils (m : ModD) : Prop where
  t : m.ta = none → m.tc = 0
  f : m.fa = none → m.fc = 0
  each : ∀ f, f ∈ m.funcs → f.Nils
instance : Inhabited InsD := ⟨⟨0, 0, 0, 0, 0⟩⟩
instance : Inhabited Sp := ⟨⟨1, 0⟩⟩
instance : Inhabited FuncD := ⟨⟨.empty, none, 0, [], 0, 0, none, 0, []⟩⟩
section
variable {H : Type} {enc : TypeId × Value → H} {W : World} {spare : Nat → Bool} {held : Bool}
theorem in64_of_wf {n : Int} (h : (Lit.int .i64 n).wf = true) : In64 n := by
  simpa [In64, Lit.wf, IntKind.min, IntKind.max, IntKind.signed, IntKind.bits] using h
theorem dec_int (n : Nat) (cs : List Value) (y : DataW H × List MemPlace) (h : DataW.trod enc Tryd.prog W 0 spare held n 2 cs = some y) (_ : Fit Tryd.prog 2 y.1) : ∃ z : Int, In64 z ∧ ∀ j, j < 1 → cs[j]? = some ((fun (z : Int) (_ : Nat) => Value.int .i64 z) z j) := by
  obtain ⟨k, rfl, _, wf⟩ := DataW.trod_int Tryd.underlying2 h
  exact ⟨k, in64_of_wf wf, fun j hj => by obtain rfl : j = 0 := by omega
                                          rfl⟩
theorem dec_span (n : Nat) (cs : List Value) (y : DataW H × List MemPlace) (h : DataW.trod enc Tryd.prog W 0 spare held n 34 cs = some y) (_ : Fit Tryd.prog 34 y.1) : ∃ z : Sp, z.Wf ∧ ∀ j, j < 2 → cs[j]? = some (spV z j) := by
  obtain ⟨m, ys, _, _, _, hf⟩ := open_fields Tryd.underlying34 (by kernel_rfl) (by kernel_rfl) h
  obtain ⟨v0, y0, c0, _, t0⟩ := hf 0 _ rfl
  obtain ⟨v1, y1, c1, _, t1⟩ := hf 1 _ rfl
  simp only [List.getElem_toArray, List.getElem_cons_zero, List.getElem_cons_succ] at t0 t1
  obtain ⟨k0, e0, _, w0⟩ := DataW.trod_int Tryd.underlying2 t0
  obtain ⟨k1, e1, _, w1⟩ := DataW.trod_int Tryd.underlying2 t1
  simp only [List.cons.injEq, and_true] at e0 e1
  subst e0; subst e1
  refine ⟨⟨k0, k1⟩, ⟨in64_of_wf w0, in64_of_wf w1⟩, fun j hj => ?_⟩
  obtain rfl | rfl : j = 0 ∨ j = 1 := by omega
  · exact c0
  · exact c1
theorem dec_ins (n : Nat) (cs : List Value) (y : DataW H × List MemPlace) (h : DataW.trod enc Tryd.prog W 0 spare held n 65 cs = some y) (_ : Fit Tryd.prog 65 y.1) : ∃ z : InsD, z.Wf ∧ ∀ j, j < 5 → cs[j]? = some (insV z j) := by
  obtain ⟨m, ys, _, _, _, hf⟩ := open_fields Tryd.underlying65 (by kernel_rfl) (by kernel_rfl) h
  obtain ⟨v0, y0, c0, _, t0⟩ := hf 0 _ rfl
  obtain ⟨v1, y1, c1, _, t1⟩ := hf 1 _ rfl
  obtain ⟨v2, y2, c2, _, t2⟩ := hf 2 _ rfl
  obtain ⟨v3, y3, c3, _, t3⟩ := hf 3 _ rfl
  obtain ⟨v4, y4, c4, _, t4⟩ := hf 4 _ rfl
  simp only [List.getElem_toArray, List.getElem_cons_zero, List.getElem_cons_succ] at t0 t1 t2 t3 t4
  obtain ⟨k0, e0, _, w0⟩ := DataW.trod_int Tryd.underlying3 t0
  obtain ⟨k1, e1, _, w1⟩ := DataW.trod_int Tryd.underlying3 t1
  obtain ⟨k2, e2, _, w2⟩ := DataW.trod_int Tryd.underlying3 t2
  obtain ⟨k3, e3, _, w3⟩ := DataW.trod_int Tryd.underlying3 t3
  obtain ⟨k4, e4, _, w4⟩ := DataW.trod_int Tryd.underlying2 t4
  simp only [List.cons.injEq, and_true] at e0 e1 e2 e3 e4
  subst e0; subst e1; subst e2; subst e3; subst e4
  refine ⟨⟨k0, k1, k2, k3, k4⟩, ⟨in64_of_wf w0, in64_of_wf w1, in64_of_wf w2, in64_of_wf w3, in64_of_wf w4⟩, fun j hj => ?_⟩
  obtain rfl | rfl | rfl | rfl | rfl : j = 0 ∨ j = 1 ∨ j = 2 ∨ j = 3 ∨ j = 4 := by omega
  · exact c0
  · exact c1
  · exact c2
  · exact c3
  · exact c4
theorem bytesI : Tryd.prog.bytesOf 2 = 8 := by kernel_rfl
theorem bytesS : Tryd.prog.bytesOf 34 = 16 := by kernel_rfl
theorem bytesX : Tryd.prog.bytesOf 65 = 40 := by kernel_rfl
theorem bytesF : Tryd.prog.bytesOf 48 = 80 := by kernel_rfl
theorem dec_func (n : Nat) (cs : List Value) (y : DataW H × List MemPlace) (h : DataW.trod enc Tryd.prog W 0 spare held n 48 cs = some y) (hfit : Fit Tryd.prog 48 y.1) : ∃ z : FuncD, (z.Wf ∧ FuncOk W W.heap.size z ∧ z.Nils) ∧ ∀ j, j < 5 → cs[j]? = some (funcV z j) := by
  obtain ⟨m, ys, hy, _, hl, hf⟩ := open_fields Tryd.underlying48 (by kernel_rfl) (by kernel_rfl) h
  rw [hy] at hfit
  obtain ⟨v0, y0, c0, _, t0⟩ := hf 0 _ rfl
  obtain ⟨v1, y1, c1, g1, t1⟩ := hf 1 _ rfl
  obtain ⟨v2, y2, c2, _, t2⟩ := hf 2 _ rfl
  obtain ⟨v3, y3, c3, _, t3⟩ := hf 3 _ rfl
  obtain ⟨v4, y4, c4, g4, t4⟩ := hf 4 _ rfl
  have f1 := fit_field Tryd.underlying48 hfit (i := 1) rfl (show _ = some y1.1 by simp [g1])
  have f4 := fit_field Tryd.underlying48 hfit (i := 4) rfl (show _ = some y4.1 by simp [g4])
  simp only [List.getElem_toArray, List.getElem_cons_zero, List.getElem_cons_succ] at t0 t1 t2 t3 t4 f1 f4
  obtain ⟨k0, e0, _, w0⟩ := DataW.trod_string Tryd.underlying9 t0
  obtain ⟨A1, l1, p1, e1, q1, b1, m1, r1⟩ := open_rows (sz := 2) spV Sp.Wf Tryd.underlying26 (by kernel_rfl) (by omega) dec_span t1 f1
  obtain ⟨k2, e2, _, w2⟩ := DataW.trod_int Tryd.underlying3 t2
  obtain ⟨k3, e3, _, w3⟩ := DataW.trod_int Tryd.underlying3 t3
  obtain ⟨A4, l4, p4, e4, q4, b4, m4, r4⟩ := open_rows (sz := 5) insV InsD.Wf Tryd.underlying46 (by kernel_rfl) (by omega) dec_ins t4 f4
  simp only [List.cons.injEq, and_true] at e0 e1 e2 e3 e4
  subst e0; subst e1; subst e2; subst e3; subst e4
  rw [bytesS] at b1
  rw [bytesX] at b4
  refine ⟨⟨k0, A1, p1, l1, k2, k3, A4, p4, l4⟩, ⟨⟨w0, q1, b1, in64_of_wf w2, in64_of_wf w3, q4, b4⟩, ⟨r1, r4⟩, ⟨m1, m4⟩⟩, fun j hj => ?_⟩
  obtain rfl | rfl | rfl | rfl | rfl : j = 0 ∨ j = 1 ∨ j = 2 ∨ j = 3 ∨ j = 4 := by omega
  · exact c0
  · exact c1
  · exact c2
  · exact c3
  · exact c4
/-- A module that came in by value. -/
theorem open_mod {b0 : Nat} {r : Reach} {v : Value} {d : DataW H} {p : List MemPlace}
    (hv : Value.okWide Tryd.prog W r b0 25 v) (h : DataW.Trod enc Tryd.prog W 0 spare held 25 v d p) (hfit : Fit Tryd.prog 25 d) : ∃ m : ModD, v = m.val ∧ m.Wf ∧ ModOk W W.heap.size m ∧ m.Nils := by
  obtain ⟨cs, rfl, hsz⟩ := okWide_struct Tryd.underlying25 hv
  obtain ⟨fuel, hf⟩ := h
  obtain ⟨n, ys, hy, _, hl, hg⟩ := open_fields Tryd.underlying25 (by kernel_rfl) (by kernel_rfl) hf
  simp only at hy
  rw [hy] at hfit
  obtain ⟨v0, y0, c0, g0, t0⟩ := hg 0 _ rfl
  obtain ⟨v1, y1, c1, g1, t1⟩ := hg 1 _ rfl
  have f0 := fit_field Tryd.underlying25 hfit (i := 0) rfl (show _ = some y0.1 by simp [g0])
  have f1 := fit_field Tryd.underlying25 hfit (i := 1) rfl (show _ = some y1.1 by simp [g1])
  simp only [List.getElem_toArray, List.getElem_cons_zero, List.getElem_cons_succ] at t0 t1 f0 f1
  obtain ⟨A0, l0, p0, e0, q0, b0, m0, r0⟩ := open_rows (α := Int) (sz := 1) (fun z _ => .int .i64 z) In64 Tryd.underlying22 (by kernel_rfl) (by omega) dec_int t0 f0
  obtain ⟨A1, l1, p1, e1, q1, b1, m1, r1⟩ := open_rows (sz := 5) funcV (fun z => z.Wf ∧ FuncOk W W.heap.size z ∧ z.Nils) Tryd.underlying23 (by kernel_rfl) (by omega) dec_func t1 f1
  simp only [List.cons.injEq, and_true] at e0 e1
  subst e0; subst e1
  rw [bytesI] at b0
  rw [bytesF] at b1
  refine ⟨⟨A0, p0, l0, A1, p1, l1⟩, ?_, ⟨q0, b0, fun f hf => (q1 f hf).1, b1⟩, ⟨?_, r1, fun k hk => ?_⟩, ⟨m0, m1, fun f hf => (q1 f hf).2.2⟩⟩
  · have h2 : Tryd.prog.cellsOf 25 = 2 := by kernel_rfl
    rw [h2] at hsz
    congr 1
    apply Array.ext
    · simpa using hsz
    · intro i hi hi2
      simp only [Value.cells] at c0 c1
      obtain rfl | rfl : i = 0 ∨ i = 1 := by omega
      · simpa [hi] using c0
      · simpa [hi] using c1
  · intro h0
    obtain ⟨b, off, e, hb, hc⟩ := r0 h0
    refine ⟨b, off, e, hb, fun k hk => ?_⟩
    have := hc k hk 0 (by omega)
    simpa [nthI] using this
  · have hm : nthF l1 k ∈ l1 := by
      have hk' : k < l1.length := hk
      simp [nthF, List.getD, hk']
    exact (q1 _ hm).2.1
end
end Go.Proofs.YtddobhneplfddaaDoor

namespace Go.Proofs.YtddobhneplfddaaDoor
set_option maxRecDepth 100000
open Go.RowKit
set_option linter.unusedSimpArgs false
set_option linter.unusedVariables false

/-- The cells of n elements of sz cells each. -/
def rowsL (n sz : Nat) (val : Nat → Nat → Value) : List Value := (List.range (n * sz)).map fun i => val (i / sz) (i % sz)
theorem rowsL_len (n sz : Nat) (val : Nat → Nat → Value) : (rowsL n sz val).length = n * sz := by simp [rowsL]
theorem rowsL_get {n sz : Nat} {val : Nat → Nat → Value} {k j : Nat} (hk : k < n) (hj : j < sz) : (rowsL n sz val)[k * sz + j]? = some (val k j) := by
  have h : k * sz + j < n * sz := by
    have : (k + 1) * sz ≤ n * sz := Nat.mul_le_mul_right _ hk
    rw [Nat.add_mul, Nat.one_mul] at this; omega
  simp only [rowsL, List.getElem?_map, List.getElem?_range h, Option.map_some, Option.some.injEq]
  rw [Nat.mul_comm k sz, Nat.mul_add_div (by omega), Nat.mul_add_mod, Nat.div_eq_of_lt hj, Nat.mod_eq_of_lt hj, Nat.add_zero]
/-- Where a slice that came in lies, as append wants it. -/
theorem rows_src {w : World} {B : Nat} {A : Option Addr} {n c sz : Nat} {val : Nat → Nat → Value} (h : RowsAt w B A n sz val) (hn : A = none → c = 0) (hz : 0 < sz) :
    (Value.slice A n c = .slice none 0 0 ∧ n = 0 ∧ rowsL n sz val = []) ∨ ∃ ad, A = some ad ∧ ∀ j u, (rowsL n sz val)[j]? = some u → w.cell? (ad.add j) = some u := by
  rcases Nat.eq_zero_or_pos n with rfl | hp
  · cases A with
    | none => exact .inl ⟨by rw [hn rfl], rfl, by simp [rowsL]⟩
    | some ad => exact .inr ⟨ad, rfl, fun j u hu => by simp [rowsL] at hu⟩
  · obtain ⟨b, off, rfl, hb, hc⟩ := h hp
    refine .inr ⟨_, rfl, fun j u hu => ?_⟩
    have hj : j < n * sz := by
      rcases Nat.lt_or_ge j (n * sz) with k | k
      · exact k
      · rw [List.getElem?_eq_none (by rw [rowsL_len]; exact k)] at hu; cases hu
    have hk : j / sz < n := (Nat.div_lt_iff_lt_mul hz).2 hj
    have hm : j % sz < sz := Nat.mod_lt _ hz
    have e : j / sz * sz + j % sz = j := Nat.div_add_mod' j sz
    have h1 := hc _ hk _ hm
    have h2 := rowsL_get (val := val) hk hm
    rw [e] at h2
    rw [h2] at hu
    rw [Nat.add_assoc, e] at h1
    rw [Go.WideShapes.add_plain, h1]
    exact hu
theorem own_slice {w : World} {base sz : Nat} {e : TypeId} {v : Value} {n : Nat} {xs : List Value} (h : w.ownsRow base e sz v n xs) : ∃ A c, v = .slice A n c ∧ (A = none → c = 0) := by
  rcases h.2 with ⟨rfl, rfl⟩ | ⟨g, cap, cur, rfl, _⟩
  · exact ⟨none, 0, rfl, fun _ => rfl⟩
  · exact ⟨_, cap, rfl, (fun h => by cases h)⟩
theorem own_whl {w : World} {b1 s1 : Nat} {e1 t : TypeId} {v1 : Value} {n1 g : Nat} {x1 : List Value} {cs : Array Value} (h1 : w.ownsRow b1 e1 s1 v1 n1 x1) (h2 : Whl w g t cs) (hne : t ≠ e1) : some g ≠ v1.ownBlock := fun e => by
  rcases h1.2 with ⟨rfl, _⟩ | ⟨g2, cap2, cur2, rfl, _, hh2, _⟩
  · cases e
  · simp only [Value.ownBlock, Option.some.injEq] at e
    subst e
    unfold Whl at h2
    rw [h2] at hh2
    cases hh2
    exact hne rfl
/-- append of a slice that came in, nil or not. -/
theorem wpList_append_any {P : Program} {w : World} {ops : Array Oper} {rest : List Oper} {o : Oper} {a : Act} {Q : Exit → Act → World → Prop} (hgd : o.guard = none) (s x : Operand) (t : TypeId)
    (ho : o.op = .call { callee := .builtin .append, args := #[s, x], argTypes := #[t, t] })
    (base : Nat) (e : TypeId) (i : TypeInfo) (z : Value) (size bytes : Nat) (ht : P.underlying t = some (.slice e)) (hi : P.info? e = some i) (hz : i.zero = some z)
    (hsize : i.size = size) (hby : i.bytes = bytes) (hzs : z.cells.size = size) (hsz : 0 < size)
    (v : Value) (n : Nat) (xs : List Value) (hs : a.eval s = v) (hown : w.ownsRow base e size v n xs)
    (A : Option Addr) (m c : Nat) (val : Nat → Nat → Value) (hx : a.eval x = .slice A m c) (hsrc : RowsAt w w.heap.size A m size val) (hnil : A = none → c = 0) (h1 : ∀ k j, (val k j).oneCell' = true)
    (h63 : n + m ≤ maxLen) (hbytes : (n + m) * bytes ≤ 140737488355328) (hbase : base ≤ w.heap.size)
    (h : ∀ v' w', w'.ownsRow base e size v' (n + m) (xs ++ rowsL m size val) → w.grownBy w' v.ownBlock → wpList P ops Q rest (a.put o.dst v') w') : wpList P ops Q (o :: rest) a w := by
  rcases rows_src hsrc hnil hsz with ⟨e0, rfl, e1⟩ | ⟨ad, rfl, hc⟩
  · refine wpList_append_own_none hgd s x t ho base e i size ht hi v n xs hs hown (hx.trans e0) (h v w ?_ ⟨rfl, rfl, rfl, Nat.le_refl _, fun _ _ _ => rfl⟩)
    rw [e1, List.append_nil]; exact hown
  · exact wpList_append_own w hgd s x t ho base e i z size bytes ht hi hz hsize hby hzs hsz v n xs hs hown ad m c _ hx (rowsL_len _ _ _) hc (fun u hu => by
      obtain ⟨i, _, rfl⟩ := List.mem_map.1 hu
      exact h1 _ _) h63 hbytes hbase (fun v' w' h2 h3 _ => h v' w' h2 h3)
/-! ### Functions and modules that the call has made itself -/
end Go.Proofs.YtddobhneplfddaaDoor

namespace Go.Proofs.YtddobhneplfddaaDoor
set_option maxRecDepth 100000
open Go.ChangeShapes Go.WideShapes Go.ChangeAt Go.RowKit Go.Joins
section
variable {H : Type} {enc : TypeId × Value → H} {W : World} {spare : Nat → Bool} {held : Bool}
theorem open_spansL {b0 : Nat} {r : Reach} {v : Value} {d : DataW H} {p : List MemPlace}
    (hv : Value.okWide Tryd.prog W r b0 26 v) (h : DataW.Trod enc Tryd.prog W 0 spare held 26 v d p) (hfit : Fit Tryd.prog 26 d) :
    ∃ (A : Option Addr) (l : List Sp) (c : Nat), v = .slice A l.length c ∧ (∀ s, s ∈ l → s.Wf) ∧ l.length * 16 ≤ 140737488351232 ∧ (A = none → c = 0) ∧ RowsAt W W.heap.size A l.length 2 fun k => spV (nthS l k) := by
  obtain ⟨a0, len, cap, rfl⟩ := okWide_slice Tryd.underlying26 hv
  obtain ⟨fuel, hf⟩ := h
  obtain ⟨A, l, c, e, q, b, m, r1⟩ := open_rows (sz := 2) spV Sp.Wf Tryd.underlying26 (by kernel_rfl) (by omega) dec_span hf hfit
  simp only [Value.cells, List.cons.injEq, and_true] at e
  rw [bytesS] at b
  exact ⟨A, l, c, e, q, b, m, r1⟩
theorem open_intsL {b0 : Nat} {r : Reach} {v : Value} {d : DataW H} {p : List MemPlace}
    (hv : Value.okWide Tryd.prog W r b0 22 v) (h : DataW.Trod enc Tryd.prog W 0 spare held 22 v d p) (hfit : Fit Tryd.prog 22 d) :
    ∃ (A : Option Addr) (l : List Int) (c : Nat), v = .slice A l.length c ∧ (∀ s, s ∈ l → In64 s) ∧ l.length * 8 ≤ 140737488351232 ∧ (A = none → c = 0) ∧ IntsAt W W.heap.size A l := by
  obtain ⟨a0, len, cap, rfl⟩ := okWide_slice Tryd.underlying22 hv
  obtain ⟨fuel, hf⟩ := h
  obtain ⟨A, l, c, e, q, b, m, r1⟩ := open_rows (α := Int) (sz := 1) (fun z _ => .int .i64 z) In64 Tryd.underlying22 (by kernel_rfl) (by omega) dec_int hf hfit
  simp only [Value.cells, List.cons.injEq, and_true] at e
  rw [bytesI] at b
  refine ⟨A, l, c, e, q, b, m, fun h0 => ?_⟩
  obtain ⟨b1, off, e1, hb, hc⟩ := r1 h0
  refine ⟨b1, off, e1, hb, fun k hk => ?_⟩
  have := hc k hk 0 (by omega)
  simpa [nthI] using this
end
theorem getD_wf {l : List Sp} (h : ∀ s, s ∈ l → s.Wf) (k : Nat) : (l.getD k ⟨0, 0⟩).Wf := by
  rw [List.getD_eq_getElem?_getD]
  rcases Nat.lt_or_ge k l.length with q | q
  · rw [List.getElem?_eq_getElem q]; exact h _ (List.getElem_mem q)
  · rw [List.getElem?_eq_none q]; exact ⟨⟨by decide, by decide⟩, ⟨by decide, by decide⟩⟩
theorem getD_64 {l : List Int} (h : ∀ s, s ∈ l → In64 s) (k : Nat) : In64 (l.getD k 0) := by
  rw [List.getD_eq_getElem?_getD]
  rcases Nat.lt_or_ge k l.length with q | q
  · rw [List.getElem?_eq_getElem q]; exact h _ (List.getElem_mem q)
  · rw [List.getElem?_eq_none q]; exact ⟨by decide, by decide⟩
end Go.Proofs.YtddobhneplfddaaDoor

namespace Go.Proofs.YtddobhneplfddaaDoor
set_option maxRecDepth 100000
open Go.RowKit
set_option linter.unusedSimpArgs false
set_option linter.unusedVariables false
/-- So many cells of one value each lie there. -/
def ValsAt (w : World) (A : Option Addr) (l : List Value) : Prop := 0 < l.length → ∃ b off, A = some ⟨b, off, none⟩ ∧ ∀ k v, l[k]? = some v → w.cell? ⟨b, off + k, none⟩ = some v

set_option maxHeartbeats 2000000 in
theorem indexI (l : List Int) (n : Int) (A : Option Addr) (c : Nat) (w : World) (hl : l.length ≤ maxLen) (h : ValsAt w A (l.map (Value.int .i64))) :
    Calls Tryd.prog 51 #[.slice A l.length c, (Value.int .i64) n] w fun e w' => (∃ i : Int, e = .returned (.int .i64 i) ∧ (0 ≤ i ↔ n ∈ l) ∧ i ≤ 9223372036854775807) ∧ w = w' := by
  unfold maxLen at hl
  have H := Lib.hid h; clear h
  go_enter Tryd.func51, Tryd.ntmps51
  go_wp2
  go_loop [8] (fun i => ∃ k : Nat, k ≤ l.length ∧ i = .int .i64 k ∧ ∀ j, j < k → l[j]? ≠ some n) (fun i => l.length - (intOf i).toNat)
  case atStart => exact ⟨0, Nat.zero_le _, rfl, fun _ h => absurd h (by omega)⟩
  case round =>
    obtain ⟨k, hk, rfl, hno⟩ := hrel
    have HNO := Lib.hid hno; clear hno
    by_cases hlt : k < l.length
    · obtain ⟨b, off, hA, hc⟩ := H.out (by simpa using (by omega : 0 < l.length))
      subst hA
      obtain ⟨v, hv⟩ : ∃ v, l[k]? = some v := ⟨_, List.getElem?_eq_getElem hlt⟩
      have z := hc k ((Value.int .i64) v) (by rw [List.getElem?_map, hv]; rfl)
      have hki : (k : Int) < (l.length : Int) := by omega
      have HV := Lib.hid hv
      clear hc hv
      cases hq : (n == v)
      · have HQ := Lib.hid (show n ≠ v from by simpa using hq)
        go_wp2
        all_goals
          go_round
          case rel =>
            refine ⟨k + 1, by omega, by go_num, fun j hj e => ?_⟩
            rcases Nat.lt_or_ge j k with g | g
            · exact HNO.out j g e
            · obtain rfl : j = k := by omega
              rw [HV.out] at e
              exact HQ.out (Option.some.inj e).symm
          case measure => simp [intOf]; omega
      · have HQ := Lib.hid (show n = v from by simpa using hq)
        go_wp2
        go_ret
        have hv := HV.out
        rw [← HQ.out] at hv
        exact ⟨⟨_, rfl, ⟨fun _ => List.mem_of_getElem? hv, fun _ => by omega⟩, by omega⟩, rfl⟩
    · have hk2 : k = l.length := by omega
      subst hk2
      go_wp2
      go_ret
      refine ⟨⟨_, rfl, ⟨fun h => absurd h (by omega), fun h => ?_⟩, by omega⟩, rfl⟩
      obtain ⟨j, hj, e⟩ := List.getElem_of_mem h
      exact absurd (by rw [List.getElem?_eq_getElem hj, e]) (HNO.out j hj)
theorem containsI (l : List Int) (n : Int) (A : Option Addr) (c : Nat) (w : World) (hl : l.length ≤ maxLen) (h : ValsAt w A (l.map (Value.int .i64))) :
    Calls Tryd.prog 27 #[.slice A l.length c, (Value.int .i64) n] w fun e w' => e = .returned (.bool (decide (n ∈ l))) ∧ w = w' := by
  have H := Lib.hid h; clear h
  go_enter Tryd.func27, Tryd.ntmps27
  go_wp2_with fail
  go_at_call 51
  refine (indexI l n A c _ hl H.out).mono ?_
  rintro e w1 ⟨⟨i, rfl, hi, hi2⟩, rfl⟩
  have HI := Lib.hid hi
  clear hi
  go_wp2
  go_ret
  refine ⟨?_, rfl⟩
  rw [show decide (n ∈ l) = decide (0 ≤ i) by rw [decide_eq_decide]; exact HI.out.symm]
  rfl

set_option maxHeartbeats 2000000 in
theorem indexB (l : List Bool) (n : Bool) (A : Option Addr) (c : Nat) (w : World) (hl : l.length ≤ maxLen) (h : ValsAt w A (l.map Value.bool)) :
    Calls Tryd.prog 91 #[.slice A l.length c, Value.bool n] w fun e w' => (∃ i : Int, e = .returned (.int .i64 i) ∧ (0 ≤ i ↔ n ∈ l) ∧ i ≤ 9223372036854775807) ∧ w = w' := by
  unfold maxLen at hl
  have H := Lib.hid h; clear h
  go_enter Tryd.func91, Tryd.ntmps91
  go_wp2
  go_loop [8] (fun i => ∃ k : Nat, k ≤ l.length ∧ i = .int .i64 k ∧ ∀ j, j < k → l[j]? ≠ some n) (fun i => l.length - (intOf i).toNat)
  case atStart => exact ⟨0, Nat.zero_le _, rfl, fun _ h => absurd h (by omega)⟩
  case round =>
    obtain ⟨k, hk, rfl, hno⟩ := hrel
    have HNO := Lib.hid hno; clear hno
    by_cases hlt : k < l.length
    · obtain ⟨b, off, hA, hc⟩ := H.out (by simpa using (by omega : 0 < l.length))
      subst hA
      obtain ⟨v, hv⟩ : ∃ v, l[k]? = some v := ⟨_, List.getElem?_eq_getElem hlt⟩
      have z := hc k (Value.bool v) (by rw [List.getElem?_map, hv]; rfl)
      have hki : (k : Int) < (l.length : Int) := by omega
      have HV := Lib.hid hv
      clear hc hv
      cases hq : (n == v)
      · have HQ := Lib.hid (show n ≠ v from by simpa using hq)
        go_wp2
        all_goals
          go_round
          case rel =>
            refine ⟨k + 1, by omega, by go_num, fun j hj e => ?_⟩
            rcases Nat.lt_or_ge j k with g | g
            · exact HNO.out j g e
            · obtain rfl : j = k := by omega
              rw [HV.out] at e
              exact HQ.out (Option.some.inj e).symm
          case measure => simp [intOf]; omega
      · have HQ := Lib.hid (show n = v from by simpa using hq)
        go_wp2
        go_ret
        have hv := HV.out
        rw [← HQ.out] at hv
        exact ⟨⟨_, rfl, ⟨fun _ => List.mem_of_getElem? hv, fun _ => by omega⟩, by omega⟩, rfl⟩
    · have hk2 : k = l.length := by omega
      subst hk2
      go_wp2
      go_ret
      refine ⟨⟨_, rfl, ⟨fun h => absurd h (by omega), fun h => ?_⟩, by omega⟩, rfl⟩
      obtain ⟨j, hj, e⟩ := List.getElem_of_mem h
      exact absurd (by rw [List.getElem?_eq_getElem hj, e]) (HNO.out j hj)
theorem containsB (l : List Bool) (n : Bool) (A : Option Addr) (c : Nat) (w : World) (hl : l.length ≤ maxLen) (h : ValsAt w A (l.map Value.bool)) :
    Calls Tryd.prog 61 #[.slice A l.length c, Value.bool n] w fun e w' => e = .returned (.bool (decide (n ∈ l))) ∧ w = w' := by
  have H := Lib.hid h; clear h
  go_enter Tryd.func61, Tryd.ntmps61
  go_wp2_with fail
  go_at_call 91
  refine (indexB l n A c _ hl H.out).mono ?_
  rintro e w1 ⟨⟨i, rfl, hi, hi2⟩, rfl⟩
  have HI := Lib.hid hi
  clear hi
  go_wp2
  go_ret
  refine ⟨?_, rfl⟩
  rw [show decide (n ∈ l) = decide (0 ≤ i) by rw [decide_eq_decide]; exact HI.out.symm]
  rfl
theorem vals_own {w : World} {base : Nat} {e : TypeId} {A : Option Addr} {n c : Nat} {l : List Value} (h : w.ownsRow base e 1 (.slice A n c) l.length l) : ValsAt w A l := fun h0 => by
  rcases h.2 with ⟨_, e0⟩ | ⟨g, cap, cur, e0, _, hh, _, _, _, ht⟩
  · omega
  · cases e0
    refine ⟨g, 0, rfl, fun k v hv => ?_⟩
    have hk : k < l.length := by
      rcases Nat.lt_or_ge k l.length with q | q
      · exact q
      · rw [List.getElem?_eq_none q] at hv; cases hv
    rw [← ht, List.getElem?_take_of_lt (by omega), Array.getElem?_toList] at hv
    simp only [World.cell?, hh, Nat.zero_add]
    simpa using hv
end Go.Proofs.YtddobhneplfddaaDoor

namespace Go.Proofs.YtddobhneplfddaaDoor
set_option maxRecDepth 100000
open Go.RowKit
set_option linter.unusedSimpArgs false
set_option linter.unusedVariables false
theorem infoS : (Tryd.prog.info? 34).map (fun i => (i.zero, i.size, i.bytes)) = some (some (.agg #[.int .i64 0, .int .i64 0]), 2, 16) := by kernel_rfl
/-- An empty row that has just been made. -/
theorem own_made0 {w : World} {base : Nat} (e : TypeId) (sz k : Nat) (hb : base ≤ w.heap.size) (hk : w.heap.size = k) : (w.alloc (.cells #[] e)).ownsRow base e sz (.slice (some ⟨k, 0, none⟩) 0 0) 0 [] := by
  subst hk
  have := World.ownsRow_made (base := base) (e := e) (size := sz) w #[] 0 hb (by decide) (by simp)
  simpa using this
theorem spV_one (s : Sp) (j : Nat) : (spV s j).oneCell' = true := by unfold spV; split <;> rfl
end Go.Proofs.YtddobhneplfddaaDoor

/-
  Layer 9 (code): Copy of the reference: a module made anew, which says the same.
-/
namespace Go.Proofs.YtddobhneplfddaaDoor
open Go.RowKit
set_option linter.unusedSimpArgs false
set_option linter.unusedVariables false
variable {w W W' : World} {m : ModD} {g : Nat} {v0 v : Value}
theorem nthF_mem {fs : List FuncD} {k : Nat} (hk : k < fs.length) : nthF fs k ∈ fs := by
  simp [nthF, List.getD, hk]
end Go.Proofs.YtddobhneplfddaaDoor
