/-
  Layer 9 (code): the arguments opened: instructions by value, modules with all that they lead to.
-/
import Derived.Test.YtjacfeohpofhpaaDoorMod
import Derived.Lib.SmallJoins
import Derived.SizedLaws
import Derived.Deep.Slices
import Derived.Deep.SlicePairs
import Derived.Deep.Fields
import Derived.ChangeMaps5
namespace Go.Proofs.YtjacfeohpofhpaaDoor
open Go.ChangeShapes Go.WideShapes Go.ChangeAt Go.RowKit Go.Deep Go.Joins
set_option linter.unusedSimpArgs false
set_option linter.unusedVariables false

section
variable {H : Type} {enc : TypeId × Value → H} {P : Program} {w : World} {spare : Nat → Bool} {held : Bool}
/-- What the form asks of every part's size. -/
def Fit (P : Program) (t : TypeId) (d : DataW H) : Prop := ∀ n ∈ d.weights P t, n ≤ reachBytes
theorem fit_of_all {ts : List TypeId} {ds : List (DataW H)} {j : Nat} {t : TypeId} {d : DataW H} (h : (DataW.weightsEach P ts ds).all (· ≤ reachBytes) = true) (ht : ts[j]? = some t) (hd : ds[j]? = some d) : Fit P t d := fun n hn => by
  have := List.all_eq_true.1 h _ (DataW.weights_mem_each ht hd n hn)
  simpa using this
theorem fit_field {fs : Array Field} {t : TypeId} {parts : List (DataW H)} (hs : P.underlying t = some (.struct fs)) (h : Fit P t (.agg parts)) {i : Nat} {f : Field} {d : DataW H} (hf : fs[i]? = some f) (hd : parts[i]? = some d) : Fit P f.type d := fun n hn =>
  h n (by
    simp only [DataW.weights, hs]
    exact DataW.weights_mem_each (j := i) (by simp [hf]) hd n hn)
theorem weights_mem_all {e : TypeId} : ∀ {l : List (DataW H)} {d : DataW H}, d ∈ l → ∀ n ∈ d.weights P e, n ∈ DataW.weightsAll P e l
  | a :: r, d, hd, n, hn => by
    simp only [DataW.weightsAll, List.mem_append]
    rcases List.mem_cons.1 hd with rfl | hd
    · exact .inl hn
    · exact .inr (weights_mem_all hd n hn)
theorem fit_elem {t e : TypeId} {elems sp : List (DataW H)} {d : DataW H} (ht : P.underlying t = some (.slice e)) (h : Fit P t (.slice elems sp)) (hd : d ∈ elems) : Fit P e d := fun n hn =>
  h n (by
    simp only [DataW.weights, ht, List.mem_cons, List.mem_append]
    exact .inr (.inl (weights_mem_all hd n hn)))
theorem fit_len {t e : TypeId} {elems sp : List (DataW H)} (ht : P.underlying t = some (.slice e)) (h : Fit P t (.slice elems sp)) : (elems.length + sp.length) * P.bytesOf e ≤ reachBytes :=
  h _ (by simp only [DataW.weights, ht, List.mem_cons, true_or])
/-- A struct whose fields are one cell each. -/
theorem open_fields {t : TypeId} {fs : Array Field} {fuel : Nat} {cs : List Value} {x : DataW H × List MemPlace} (hs : P.underlying t = some (.struct fs)) (hone : oneCellFields P fs = true) (hC : P.cellsOf t = fs.size)
    (h : DataW.trod enc P w 0 spare held fuel t cs = some x) :
    ∃ (n : Nat) (ys : List (DataW H × List MemPlace)), x.1 = .agg (ys.map (·.1)) ∧ cs.length = fs.size ∧ ys.length = fs.size ∧ ∀ (i : Nat) (f : Field), fs[i]? = some f → ∃ (v : Value) (y : DataW H × List MemPlace), cs[i]? = some v ∧ ys[i]? = some y ∧ DataW.trod enc P w 0 spare held n f.type [v] = some y := by
  obtain ⟨xs, n, rfl, rfl, hlen, hxl, hf⟩ := DataW.trod_struct hs h
  refine ⟨n, xs, rfl, by rw [hlen, hC], hxl, fun i f hif => ?_⟩
  obtain ⟨ho, hc⟩ := hone_of hone i f hif
  have hi : i < fs.size := by
    rcases Nat.lt_or_ge i fs.size with k | k
    · exact k
    · rw [Array.getElem?_eq_none k] at hif; cases hif
  have := hf i f hif
  rw [ho, hc, take1_drop cs i (.int .i64 0) (by omega)] at this
  have hi2 : i < xs.length := by omega
  rw [List.getElem?_eq_getElem hi2] at this
  exact ⟨_, xs[i], by rw [List.getElem?_eq_getElem (by omega : i < cs.length), List.getD_eq_getElem?_getD, List.getElem?_eq_getElem (by omega : i < cs.length)]; rfl, List.getElem?_eq_getElem hi2, this⟩
/-- A slice, its elements read one by one. -/
theorem open_rows {α : Type} [Inhabited α] {t e : TypeId} {fuel : Nat} {cs : List Value} {x : DataW H × List MemPlace} {sz : Nat} (val : α → Nat → Value) (Q : α → Prop)
    (ht : P.underlying t = some (.slice e)) (ce : P.cellsOf e = sz) (hz : 0 < sz)
    (dec : ∀ (n : Nat) (cs : List Value) (y : DataW H × List MemPlace), DataW.trod enc P w 0 spare held n e cs = some y → Fit P e y.1 → ∃ z : α, Q z ∧ ∀ j, j < sz → cs[j]? = some (val z j))
    (h : DataW.trod enc P w 0 spare held fuel t cs = some x) (hfit : Fit P t x.1) :
    ∃ (A : Option Addr) (l : List α) (c : Nat), cs = [.slice A l.length c] ∧ (∀ z ∈ l, Q z) ∧ l.length * P.bytesOf e ≤ reachBytes ∧ (A = none → c = 0) ∧ RowsAt w w.heap.size A l.length sz (fun k => val (l.getD k default)) := by
  rcases open_slice ht h with ⟨rfl, rfl⟩ | ⟨a, len, cap, m, n, D, Pl, rfl, hb, hl, hm, hmm, rfl, hx⟩
  · exact ⟨none, [], 0, rfl, fun z hz => by simp at hz, by simp [reachBytes], fun _ => rfl, fun h => by simp at h⟩
  · have hlm : len ≤ m := by rw [hmm]; split <;> omega
    have hlen := fit_len ht hfit
    simp only [List.length_map, List.length_range] at hlen
    have each : ∀ i, i < len → ∃ z : α, Q z ∧ ∀ j, j < sz → w.cell? ((a.add (i * sz)).add j) = some (val z j) := fun i hi => by
      obtain ⟨cs', h1, h2⟩ := hx i (by omega)
      rw [ce] at h1
      obtain ⟨_, hl', hcell⟩ := World.cells?_some h1
      obtain ⟨z, hq, hv⟩ := dec n cs' _ h2 (fit_elem ht hfit (List.mem_map.2 ⟨i, List.mem_range.2 hi, rfl⟩))
      exact ⟨z, hq, fun j hj => (hcell j hj).trans (hv j hj)⟩
    obtain ⟨g, hg⟩ := choose_lt each
    refine ⟨some a, (List.range len).map g, cap, by simp, ?_, ?_, (fun h => by cases h), ?_⟩
    · intro z hz
      obtain ⟨i, hi, rfl⟩ := List.mem_map.1 hz
      exact (hg i (List.mem_range.1 hi)).1
    · simp only [List.length_map, List.length_range]
      exact Nat.le_trans (Nat.mul_le_mul_right _ (by omega)) hlen
    · intro hp
      have hp' : 0 < len := by simpa using hp
      have h0 := (hg 0 hp').2 0 hz
      obtain ⟨b, off, spot⟩ := a
      have hspot : spot = none := by simpa [Addr.add] using World.cell?_spot h0
      subst hspot
      rw [Deep.add_add, add_plain] at h0
      have hb : b < w.heap.size := World.block_lt_of_cell? w _ h0
      refine ⟨b, off, rfl, hb, fun k hk j hj => ?_⟩
      have hk' : k < len := by simpa using hk
      have := (hg k hk').2 j hj
      rw [Deep.add_add, add_plain] at this
      rw [Nat.add_assoc, this]
      simp [List.getD, hk']
end
/-- A slice that is nil has no room. -/
structure FuncD.Nils (f : FuncD) : Prop where
  p : f.pa = none → f.pc = 0
  c : f.ca = none → f.cc = 0
structure ModD.Nils (m : ModD) : Prop where
  t : m.ta = none → m.tc = 0
  f : m.fa = none → m.fc = 0
  each : ∀ f, f ∈ m.funcs → f.Nils
instance : Inhabited InsD := ⟨⟨0, 0, 0, 0, 0⟩⟩
instance : Inhabited Sp := ⟨⟨1, 0⟩⟩
instance : Inhabited FuncD := ⟨⟨.empty, none, 0, [], 0, 0, none, 0, []⟩⟩
section
variable {H : Type} {enc : TypeId × Value → H} {W : World} {spare : Nat → Bool} {held : Bool}
theorem in64_of_wf {n : Int} (h : (Lit.int .i64 n).wf = true) : In64 n := by
  simpa [In64, Lit.wf, IntKind.min, IntKind.max, IntKind.signed, IntKind.bits] using h
theorem dec_int (n : Nat) (cs : List Value) (y : DataW H × List MemPlace) (h : DataW.trod enc Tryd.prog W 0 spare held n 2 cs = some y) (_ : Fit Tryd.prog 2 y.1) : ∃ z : Int, In64 z ∧ ∀ j, j < 1 → cs[j]? = some ((fun (z : Int) (_ : Nat) => Value.int .i64 z) z j) := by
  obtain ⟨k, rfl, _, wf⟩ := DataW.trod_int Tryd.underlying2 h
  exact ⟨k, in64_of_wf wf, fun j hj => by obtain rfl : j = 0 := by omega
                                          rfl⟩
theorem dec_span (n : Nat) (cs : List Value) (y : DataW H × List MemPlace) (h : DataW.trod enc Tryd.prog W 0 spare held n 50 cs = some y) (_ : Fit Tryd.prog 50 y.1) : ∃ z : Sp, z.Wf ∧ ∀ j, j < 2 → cs[j]? = some (spV z j) := by
  obtain ⟨m, ys, _, _, _, hf⟩ := open_fields Tryd.underlying50 (by kernel_rfl) (by kernel_rfl) h
  obtain ⟨v0, y0, c0, _, t0⟩ := hf 0 _ rfl
  obtain ⟨v1, y1, c1, _, t1⟩ := hf 1 _ rfl
  simp only [List.getElem_toArray, List.getElem_cons_zero, List.getElem_cons_succ] at t0 t1
  obtain ⟨k0, e0, _, w0⟩ := DataW.trod_int Tryd.underlying2 t0
  obtain ⟨k1, e1, _, w1⟩ := DataW.trod_int Tryd.underlying2 t1
  simp only [List.cons.injEq, and_true] at e0 e1
  subst e0; subst e1
  refine ⟨⟨k0, k1⟩, ⟨in64_of_wf w0, in64_of_wf w1⟩, fun j hj => ?_⟩
  obtain rfl | rfl : j = 0 ∨ j = 1 := by omega
  · exact c0
  · exact c1
theorem dec_ins (n : Nat) (cs : List Value) (y : DataW H × List MemPlace) (h : DataW.trod enc Tryd.prog W 0 spare held n 52 cs = some y) (_ : Fit Tryd.prog 52 y.1) : ∃ z : InsD, z.Wf ∧ ∀ j, j < 5 → cs[j]? = some (insV z j) := by
  obtain ⟨m, ys, _, _, _, hf⟩ := open_fields Tryd.underlying52 (by kernel_rfl) (by kernel_rfl) h
  obtain ⟨v0, y0, c0, _, t0⟩ := hf 0 _ rfl
  obtain ⟨v1, y1, c1, _, t1⟩ := hf 1 _ rfl
  obtain ⟨v2, y2, c2, _, t2⟩ := hf 2 _ rfl
  obtain ⟨v3, y3, c3, _, t3⟩ := hf 3 _ rfl
  obtain ⟨v4, y4, c4, _, t4⟩ := hf 4 _ rfl
  simp only [List.getElem_toArray, List.getElem_cons_zero, List.getElem_cons_succ] at t0 t1 t2 t3 t4
  obtain ⟨k0, e0, _, w0⟩ := DataW.trod_int Tryd.underlying3 t0
  obtain ⟨k1, e1, _, w1⟩ := DataW.trod_int Tryd.underlying3 t1
  obtain ⟨k2, e2, _, w2⟩ := DataW.trod_int Tryd.underlying3 t2
  obtain ⟨k3, e3, _, w3⟩ := DataW.trod_int Tryd.underlying3 t3
  obtain ⟨k4, e4, _, w4⟩ := DataW.trod_int Tryd.underlying2 t4
  simp only [List.cons.injEq, and_true] at e0 e1 e2 e3 e4
  subst e0; subst e1; subst e2; subst e3; subst e4
  refine ⟨⟨k0, k1, k2, k3, k4⟩, ⟨in64_of_wf w0, in64_of_wf w1, in64_of_wf w2, in64_of_wf w3, in64_of_wf w4⟩, fun j hj => ?_⟩
  obtain rfl | rfl | rfl | rfl | rfl : j = 0 ∨ j = 1 ∨ j = 2 ∨ j = 3 ∨ j = 4 := by omega
  · exact c0
  · exact c1
  · exact c2
  · exact c3
  · exact c4
theorem bytesI : Tryd.prog.bytesOf 2 = 8 := by kernel_rfl
theorem bytesS : Tryd.prog.bytesOf 50 = 16 := by kernel_rfl
theorem bytesX : Tryd.prog.bytesOf 52 = 40 := by kernel_rfl
theorem bytesF : Tryd.prog.bytesOf 45 = 80 := by kernel_rfl
theorem dec_func (n : Nat) (cs : List Value) (y : DataW H × List MemPlace) (h : DataW.trod enc Tryd.prog W 0 spare held n 45 cs = some y) (hfit : Fit Tryd.prog 45 y.1) : ∃ z : FuncD, (z.Wf ∧ FuncOk W W.heap.size z ∧ z.Nils) ∧ ∀ j, j < 5 → cs[j]? = some (funcV z j) := by
  obtain ⟨m, ys, hy, _, hl, hf⟩ := open_fields Tryd.underlying45 (by kernel_rfl) (by kernel_rfl) h
  rw [hy] at hfit
  obtain ⟨v0, y0, c0, _, t0⟩ := hf 0 _ rfl
  obtain ⟨v1, y1, c1, g1, t1⟩ := hf 1 _ rfl
  obtain ⟨v2, y2, c2, _, t2⟩ := hf 2 _ rfl
  obtain ⟨v3, y3, c3, _, t3⟩ := hf 3 _ rfl
  obtain ⟨v4, y4, c4, g4, t4⟩ := hf 4 _ rfl
  have f1 := fit_field Tryd.underlying45 hfit (i := 1) rfl (show _ = some y1.1 by simp [g1])
  have f4 := fit_field Tryd.underlying45 hfit (i := 4) rfl (show _ = some y4.1 by simp [g4])
  simp only [List.getElem_toArray, List.getElem_cons_zero, List.getElem_cons_succ] at t0 t1 t2 t3 t4 f1 f4
  obtain ⟨k0, e0, _, w0⟩ := DataW.trod_string Tryd.underlying9 t0
  obtain ⟨A1, l1, p1, e1, q1, b1, m1, r1⟩ := open_rows (sz := 2) spV Sp.Wf Tryd.underlying42 (by kernel_rfl) (by omega) dec_span t1 f1
  obtain ⟨k2, e2, _, w2⟩ := DataW.trod_int Tryd.underlying3 t2
  obtain ⟨k3, e3, _, w3⟩ := DataW.trod_int Tryd.underlying3 t3
  obtain ⟨A4, l4, p4, e4, q4, b4, m4, r4⟩ := open_rows (sz := 5) insV InsD.Wf Tryd.underlying43 (by kernel_rfl) (by omega) dec_ins t4 f4
  simp only [List.cons.injEq, and_true] at e0 e1 e2 e3 e4
  subst e0; subst e1; subst e2; subst e3; subst e4
  rw [bytesS] at b1
  rw [bytesX] at b4
  refine ⟨⟨k0, A1, p1, l1, k2, k3, A4, p4, l4⟩, ⟨⟨w0, q1, b1, in64_of_wf w2, in64_of_wf w3, q4, b4⟩, ⟨r1, r4⟩, ⟨m1, m4⟩⟩, fun j hj => ?_⟩
  obtain rfl | rfl | rfl | rfl | rfl : j = 0 ∨ j = 1 ∨ j = 2 ∨ j = 3 ∨ j = 4 := by omega
  · exact c0
  · exact c1
  · exact c2
  · exact c3
  · exact c4
/-- An instruction that came in by value. -/
theorem open_ins {b0 : Nat} {r : Reach} {v : Value} {d : DataW H} {p : List MemPlace}
    (hv : Value.okWide Tryd.prog W r b0 52 v) (h : DataW.Trod enc Tryd.prog W 0 spare held 52 v d p) (hfit : Fit Tryd.prog 52 d) : ∃ x : InsD, v = x.val ∧ x.Wf := by
  obtain ⟨cs, rfl, hsz⟩ := okWide_struct Tryd.underlying52 hv
  obtain ⟨fuel, hf⟩ := h
  obtain ⟨x, hx, hc⟩ := dec_ins fuel _ _ hf hfit
  refine ⟨x, ?_, hx⟩
  have h5 : Tryd.prog.cellsOf 52 = 5 := by kernel_rfl
  rw [h5] at hsz
  congr 1
  apply Array.ext
  · simpa using hsz
  · intro i hi hi2
    have := hc i (by omega)
    simp only [Value.cells] at this
    rw [List.getElem?_eq_getElem (by simpa using hi)] at this
    simp only [Array.getElem_toList, Option.some.injEq] at this
    rw [this]
    obtain rfl | rfl | rfl | rfl | rfl : i = 0 ∨ i = 1 ∨ i = 2 ∨ i = 3 ∨ i = 4 := by omega
    all_goals rfl
/-- A module that came in by value. -/
theorem open_mod {b0 : Nat} {r : Reach} {v : Value} {d : DataW H} {p : List MemPlace}
    (hv : Value.okWide Tryd.prog W r b0 25 v) (h : DataW.Trod enc Tryd.prog W 0 spare held 25 v d p) (hfit : Fit Tryd.prog 25 d) : ∃ m : ModD, v = m.val ∧ m.Wf ∧ ModOk W W.heap.size m ∧ m.Nils := by
  obtain ⟨cs, rfl, hsz⟩ := okWide_struct Tryd.underlying25 hv
  obtain ⟨fuel, hf⟩ := h
  obtain ⟨n, ys, hy, _, hl, hg⟩ := open_fields Tryd.underlying25 (by kernel_rfl) (by kernel_rfl) hf
  simp only at hy
  rw [hy] at hfit
  obtain ⟨v0, y0, c0, g0, t0⟩ := hg 0 _ rfl
  obtain ⟨v1, y1, c1, g1, t1⟩ := hg 1 _ rfl
  have f0 := fit_field Tryd.underlying25 hfit (i := 0) rfl (show _ = some y0.1 by simp [g0])
  have f1 := fit_field Tryd.underlying25 hfit (i := 1) rfl (show _ = some y1.1 by simp [g1])
  simp only [List.getElem_toArray, List.getElem_cons_zero, List.getElem_cons_succ] at t0 t1 f0 f1
  obtain ⟨A0, l0, p0, e0, q0, b0, m0, r0⟩ := open_rows (α := Int) (sz := 1) (fun z _ => .int .i64 z) In64 Tryd.underlying22 (by kernel_rfl) (by omega) dec_int t0 f0
  obtain ⟨A1, l1, p1, e1, q1, b1, m1, r1⟩ := open_rows (sz := 5) funcV (fun z => z.Wf ∧ FuncOk W W.heap.size z ∧ z.Nils) Tryd.underlying23 (by kernel_rfl) (by omega) dec_func t1 f1
  simp only [List.cons.injEq, and_true] at e0 e1
  subst e0; subst e1
  rw [bytesI] at b0
  rw [bytesF] at b1
  refine ⟨⟨A0, p0, l0, A1, p1, l1⟩, ?_, ⟨q0, b0, fun f hf => (q1 f hf).1, b1⟩, ⟨?_, r1, fun k hk => ?_⟩, ⟨m0, m1, fun f hf => (q1 f hf).2.2⟩⟩
  · have h2 : Tryd.prog.cellsOf 25 = 2 := by kernel_rfl
    rw [h2] at hsz
    congr 1
    apply Array.ext
    · simpa using hsz
    · intro i hi hi2
      simp only [Value.cells] at c0 c1
      obtain rfl | rfl : i = 0 ∨ i = 1 := by omega
      · simpa [hi] using c0
      · simpa [hi] using c1
  · intro h0
    obtain ⟨b, off, e, hb, hc⟩ := r0 h0
    refine ⟨b, off, e, hb, fun k hk => ?_⟩
    have := hc k hk 0 (by omega)
    simpa [nthI] using this
  · have hm : nthF l1 k ∈ l1 := by
      have hk' : k < l1.length := hk
      simp [nthF, List.getD, hk']
    exact (q1 _ hm).2.1
end
end Go.Proofs.YtjacfeohpofhpaaDoor
