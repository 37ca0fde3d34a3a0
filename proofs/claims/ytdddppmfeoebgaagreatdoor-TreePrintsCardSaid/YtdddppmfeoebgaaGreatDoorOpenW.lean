/-
  Layer 2 (tree): a program that came in by value, opened: plain data, and where it lies.
-/
import Derived.Test.YtdddppmfeoebgaaGreatDoorNodes
import Derived.Lib.SmallJoins
import Derived.SizedLaws
import Derived.Deep.Slices
import Derived.Deep.SlicePairs
import Derived.Deep.Fields
import Derived.ChangeMaps5
import Derived.Test.YtdddppmfeoebgaaGreatDoorAwakeA
import Derived.Test.YtdddppmfeoebgaaGreatDoorRows
import Derived.LaidMore
import Derived.LaidHandle
import Derived.LaidLaws
import Derived.MakeChecks
import Derived.Lib.LaidTab
import Derived.Stop.LaidErr
namespace Go.Proofs.YtdddppmfeoebgaaGreatDoor
open Go.ChangeShapes Go.WideShapes Go.ChangeAt Go.RowKit Go.Deep Go.Joins
set_option linter.unusedSimpArgs false
set_option linter.unusedVariables false
set_option maxRecDepth 100000
theorem RowsAt.congr {w : World} {B : Nat} {A : Option Addr} {n sz : Nat} {val val2 : Nat → Nat → Value} (h : RowsAt w B A n sz val) (e : ∀ k, k < n → val k = val2 k) : RowsAt w B A n sz val2 := fun h0 => by
  obtain ⟨b, off, ha, hb, hc⟩ := h h0
  exact ⟨b, off, ha, hb, fun k hk j hj => by rw [← e k hk]; exact hc k hk j hj⟩
theorem getD_map {α β : Type} {f : α → β} {l : List α} {k : Nat} {z : α} {y : β} (h : k < l.length) : (l.map f).getD k y = f (l.getD k z) := by
  simp [List.getD, h]
section
variable {H : Type} {enc : TypeId × Value → H} {P : Program} {w : World} {spare : Nat → Bool} {held : Bool}
/-- What the form asks of every part's size. -/
def Fit (P : Program) (t : TypeId) (d : DataW H) : Prop := ∀ n ∈ d.weights P t, n ≤ reachBytes
theorem fit_of_all {ts : List TypeId} {ds : List (DataW H)} {j : Nat} {t : TypeId} {d : DataW H} (h : (DataW.weightsEach P ts ds).all (· ≤ reachBytes) = true) (ht : ts[j]? = some t) (hd : ds[j]? = some d) : Fit P t d := fun n hn => by
  have := List.all_eq_true.1 h _ (DataW.weights_mem_each ht hd n hn)
  simpa using this
theorem fit_field {fs : Array Field} {t : TypeId} {parts : List (DataW H)} (hs : P.underlying t = some (.struct fs)) (h : Fit P t (.agg parts)) {i : Nat} {f : Field} {d : DataW H} (hf : fs[i]? = some f) (hd : parts[i]? = some d) : Fit P f.type d := fun n hn =>
  h n (by
    simp only [DataW.weights, hs]
    exact DataW.weights_mem_each (j := i) (by simp [hf]) hd n hn)
theorem weights_mem_all {e : TypeId} : ∀ {l : List (DataW H)} {d : DataW H}, d ∈ l → ∀ n ∈ d.weights P e, n ∈ DataW.weightsAll P e l
  | a :: r, d, hd, n, hn => by
    simp only [DataW.weightsAll, List.mem_append]
    rcases List.mem_cons.1 hd with rfl | hd
    · exact .inl hn
    · exact .inr (weights_mem_all hd n hn)
theorem fit_elem {t e : TypeId} {elems sp : List (DataW H)} {d : DataW H} (ht : P.underlying t = some (.slice e)) (h : Fit P t (.slice elems sp)) (hd : d ∈ elems) : Fit P e d := fun n hn =>
  h n (by
    simp only [DataW.weights, ht, List.mem_cons, List.mem_append]
    exact .inr (.inl (weights_mem_all hd n hn)))
theorem fit_len {t e : TypeId} {elems sp : List (DataW H)} (ht : P.underlying t = some (.slice e)) (h : Fit P t (.slice elems sp)) : (elems.length + sp.length) * P.bytesOf e ≤ reachBytes :=
  h _ (by simp only [DataW.weights, ht, List.mem_cons, true_or])
/-- A struct whose fields are one cell each. -/
theorem open_fields {t : TypeId} {fs : Array Field} {fuel : Nat} {cs : List Value} {x : DataW H × List MemPlace} (hs : P.underlying t = some (.struct fs)) (hone : oneCellFields P fs = true) (hC : P.cellsOf t = fs.size)
    (h : DataW.trod enc P w 0 spare held fuel t cs = some x) :
    ∃ (n : Nat) (ys : List (DataW H × List MemPlace)), fuel = n + 1 ∧ x.1 = .agg (ys.map (·.1)) ∧ cs.length = fs.size ∧ ys.length = fs.size ∧ ∀ (i : Nat) (f : Field), fs[i]? = some f → ∃ (v : Value) (y : DataW H × List MemPlace), cs[i]? = some v ∧ ys[i]? = some y ∧ DataW.trod enc P w 0 spare held n f.type [v] = some y := by
  obtain ⟨xs, n, rfl, rfl, hlen, hxl, hf⟩ := DataW.trod_struct hs h
  refine ⟨n, xs, rfl, rfl, by rw [hlen, hC], hxl, fun i f hif => ?_⟩
  obtain ⟨ho, hc⟩ := hone_of hone i f hif
  have hi : i < fs.size := by
    rcases Nat.lt_or_ge i fs.size with k | k
    · exact k
    · rw [Array.getElem?_eq_none k] at hif; cases hif
  have := hf i f hif
  rw [ho, hc, take1_drop cs i (.int .i64 0) (by omega)] at this
  have hi2 : i < xs.length := by omega
  rw [List.getElem?_eq_getElem hi2] at this
  exact ⟨_, xs[i], by rw [List.getElem?_eq_getElem (by omega : i < cs.length), List.getD_eq_getElem?_getD, List.getElem?_eq_getElem (by omega : i < cs.length)]; rfl, List.getElem?_eq_getElem hi2, this⟩
/-- A slice, its elements read one by one: each with less fuel. -/
theorem open_rowsN {α : Type} [Inhabited α] {t e : TypeId} {fuel : Nat} {cs : List Value} {x : DataW H × List MemPlace} {sz : Nat} (val : α → Nat → Value) (Q : α → Prop)
    (ht : P.underlying t = some (.slice e)) (ce : P.cellsOf e = sz) (hz : 0 < sz)
    (dec : ∀ (n : Nat), n < fuel → ∀ (cs : List Value) (y : DataW H × List MemPlace), DataW.trod enc P w 0 spare held n e cs = some y → Fit P e y.1 → ∃ z : α, Q z ∧ ∀ j, j < sz → cs[j]? = some (val z j))
    (h : DataW.trod enc P w 0 spare held fuel t cs = some x) (hfit : Fit P t x.1) :
    ∃ (A : Option Addr) (l : List α) (c : Nat), cs = [.slice A l.length c] ∧ (∀ k, k < l.length → Q (l.getD k default)) ∧ l.length * P.bytesOf e ≤ reachBytes ∧ l.length ≤ c ∧ c ≤ maxLen ∧ (A = none → c = 0) ∧ RowsAt w w.heap.size A l.length sz (fun k => val (l.getD k default)) := by
  rcases DataW.trod_slice ht h with ⟨rfl, rfl⟩ | ⟨a, len, cap, elems, rest, n, rfl, rfl, rfl, hb, hl, hm, hlen, hel, hsp, hns⟩
  · exact ⟨none, [], 0, rfl, fun k hk => by simp at hk, by simp [reachBytes], Nat.le_refl _, Nat.zero_le _, fun _ => rfl, fun h => by simp at h⟩
  · have hbytes := fit_len ht hfit
    simp only [List.length_map] at hbytes
    have each : ∀ i, i < len → ∃ z : α, Q z ∧ ∀ j, j < sz → w.cell? ((a.add (i * sz)).add j) = some (val z j) := fun i hi => by
      have h0 := hel i hi
      have hi2 : i < elems.length := by omega
      rw [List.getElem?_eq_getElem hi2, Option.bind_eq_some_iff] at h0
      obtain ⟨cs', h1, h2⟩ := h0
      rw [ce] at h1
      obtain ⟨_, hl', hcell⟩ := World.cells?_some h1
      obtain ⟨z, hq, hv⟩ := dec n (Nat.lt_succ_self _) cs' _ h2 (fit_elem ht hfit (List.mem_map.2 ⟨_, List.getElem_mem hi2, rfl⟩))
      exact ⟨z, hq, fun j hj => (hcell j hj).trans (hv j hj)⟩
    obtain ⟨g, hg⟩ := choose_lt each
    have hget : ∀ k, k < len → ((List.range len).map g).getD k default = g k := fun k hk => by simp [List.getD, hk]
    refine ⟨some a, (List.range len).map g, cap, by simp, ?_, ?_, by simpa using hl, hm, (fun h => by cases h), ?_⟩
    · intro k hk
      have hk : k < len := by simpa using hk
      rw [hget k hk]; exact (hg k hk).1
    · simp only [List.length_map, List.length_range]
      exact Nat.le_trans (Nat.mul_le_mul_right _ (by omega)) hbytes
    · intro hp
      have hp' : 0 < len := by simpa using hp
      have h0 := (hg 0 hp').2 0 hz
      obtain ⟨b, off, spot⟩ := a
      have hspot : spot = none := by simpa [Addr.add] using World.cell?_spot h0
      subst hspot
      rw [Deep.add_add, add_plain] at h0
      have hb : b < w.heap.size := World.block_lt_of_cell? w _ h0
      refine ⟨b, off, rfl, hb, fun k hk j hj => ?_⟩
      have hk' : k < len := by simpa using hk
      have := (hg k hk').2 j hj
      rw [Deep.add_add, add_plain] at this
      rw [Nat.add_assoc, this]
      simp [List.getD, hk']
end
theorem bytesI : Tryz.prog.bytesOf 2 = 8 := by kernel_rfl
theorem bytesE : Tryz.prog.bytesOf 35 = 56 := by kernel_rfl
theorem bytesSt : Tryz.prog.bytesOf 42 = 216 := by kernel_rfl
theorem bytesC : Tryz.prog.bytesOf 97 = 32 := by kernel_rfl
theorem bytesP : Tryz.prog.bytesOf 37 = 32 := by kernel_rfl
theorem bytesF : Tryz.prog.bytesOf 44 = 64 := by kernel_rfl
instance : Inhabited (ExD × Hd) := ⟨⟨.zero, ⟨none, 0⟩⟩⟩
instance : Inhabited (StD × HdS × (Nat → Hd)) := ⟨⟨.zero, ⟨⟨none, 0⟩, ⟨none, 0⟩, ⟨none, 0⟩, ⟨none, 0⟩, ⟨none, 0⟩⟩, fun _ => ⟨none, 0⟩⟩⟩
instance : Inhabited (CaD × Hd) := ⟨⟨.zero, ⟨none, 0⟩⟩⟩
instance : Inhabited PaD := ⟨⟨.empty, 0, 0⟩⟩
instance : Inhabited (FnD × HdF) := ⟨⟨⟨.empty, [], []⟩, ⟨⟨none, 0⟩, ⟨none, 0⟩⟩⟩⟩
theorem nthE_fst {l : List (ExD × Hd)} {k : Nat} (h : k < l.length) : nthE (l.map Prod.fst) k = (l.getD k default).1 := getD_map h
theorem nthS_fst {l : List (StD × HdS × (Nat → Hd))} {k : Nat} (h : k < l.length) : nthS (l.map Prod.fst) k = (l.getD k default).1 := getD_map h
theorem nthC_fst {l : List (CaD × Hd)} {k : Nat} (h : k < l.length) : nthC (l.map Prod.fst) k = (l.getD k default).1 := getD_map h
theorem nthF_fst {l : List (FnD × HdF)} {k : Nat} (h : k < l.length) : nthF (l.map Prod.fst) k = (l.getD k default).1 := getD_map h
section
variable {H : Type} {enc : TypeId × Value → H} {W : World} {spare : Nat → Bool} {held : Bool}
theorem in64_of_wf {n : Int} (h : (Lit.int .i64 n).wf = true) : In64 n := by
  simpa [In64, Lit.wf, IntKind.min, IntKind.max, IntKind.signed, IntKind.bits] using h
def ExQ (W : World) (z : ExD × Hd) : Prop := ExWf z.1 ∧ ExsAt W W.heap.size z.2.a z.1.args
/-- Rows of expressions. -/
theorem exs_of {A : Option Addr} {l : List (ExD × Hd)} (b : l.length * 56 ≤ reachBytes) (q : ∀ k, k < l.length → ExQ W (l.getD k default)) (r : RowsAt W W.heap.size A l.length 4 (fun k => exV (l.getD k default).1 (l.getD k default).2)) : ExsAt W W.heap.size A (l.map Prod.fst) := by
  refine .mk (fun k => (l.getD k default).2) (by simp only [List.length_map]; exact b) ?_ ?_ ?_
  · rw [List.length_map]
    exact r.congr fun k hk => by simp only [nthE_fst hk]
  · intro k hk
    rw [List.length_map] at hk
    rw [nthE_fst hk]; exact (q k hk).1
  · intro k hk
    rw [List.length_map] at hk
    rw [nthE_fst hk]; exact (q k hk).2
/-- An expression. -/
theorem dec_ex (fuel : Nat) : ∀ (cs : List Value) (y : DataW H × List MemPlace), DataW.trod enc Tryz.prog W 0 spare held fuel 35 cs = some y → Fit Tryz.prog 35 y.1 →
    ∃ z : ExD × Hd, ExQ W z ∧ ∀ j, j < 4 → cs[j]? = some (exV z.1 z.2 j) := by
  induction fuel using Nat.strongRecOn with
  | _ fuel ih =>
    intro cs y h hfit
    obtain ⟨n, ys, rfl, hy, _, hl, hf⟩ := open_fields Tryz.underlying35 (by kernel_rfl) (by kernel_rfl) h
    rw [hy] at hfit
    obtain ⟨v0, y0, c0, _, t0⟩ := hf 0 _ rfl
    obtain ⟨v1, y1, c1, _, t1⟩ := hf 1 _ rfl
    obtain ⟨v2, y2, c2, _, t2⟩ := hf 2 _ rfl
    obtain ⟨v3, y3, c3, g3, t3⟩ := hf 3 _ rfl
    have f3 := fit_field Tryz.underlying35 hfit (i := 3) rfl (show _ = some y3.1 by simp [g3])
    simp only [List.getElem_toArray, List.getElem_cons_zero, List.getElem_cons_succ] at t0 t1 t2 t3 f3
    obtain ⟨k0, e0, _, w0⟩ := DataW.trod_int Tryz.underlying3 t0
    obtain ⟨k1, e1, _, w1⟩ := DataW.trod_int Tryz.underlying2 t1
    obtain ⟨k2, e2, _, w2⟩ := DataW.trod_string Tryz.underlying9 t2
    obtain ⟨A, l, c, e3, q, b, hc, _, _, r⟩ := open_rowsN (sz := 4) (fun z : ExD × Hd => exV z.1 z.2) (ExQ W) Tryz.underlying33 (by kernel_rfl) (by omega) (fun m hm => ih m (by omega)) t3 f3
    simp only [List.cons.injEq, and_true] at e0 e1 e2 e3
    subst e0; subst e1; subst e2; subst e3
    rw [bytesE] at b
    refine ⟨⟨.mk k0 k1 k2 (l.map Prod.fst), ⟨A, c⟩⟩, ⟨⟨in64_of_wf w0, in64_of_wf w1, w2⟩, exs_of b q r⟩, fun j hj => ?_⟩
    obtain rfl | rfl | rfl | rfl : j = 0 ∨ j = 1 ∨ j = 2 ∨ j = 3 := by omega
    · exact c0
    · exact c1
    · exact c2
    · rw [c3]; simp [exV, ExD.args]
theorem sub_get {cs : List Value} {o n j : Nat} {v : Value} (hj : j < n) (h : ((cs.drop o).take n)[j]? = some v) : cs[o + j]? = some v := by
  rwa [List.getElem?_take_of_lt hj, List.getElem?_drop] at h
def StQ (W : World) (z : StD × HdS × (Nat → Hd)) : Prop := StIn W W.heap.size z.1 z.2.1 z.2.2
abbrev StV (z : StD × HdS × (Nat → Hd)) : Nat → Value := stV z.1 z.2.1
/-- Rows of statements. -/
theorem sts_of {A : Option Addr} {l : List (StD × HdS × (Nat → Hd))} (b : l.length * 216 ≤ reachBytes) (q : ∀ k, k < l.length → StQ W (l.getD k default)) (r : RowsAt W W.heap.size A l.length 14 (fun k => StV (l.getD k default))) : StsAt W W.heap.size A (l.map Prod.fst) := by
  refine .mk (fun k => (l.getD k default).2.1) (fun k => (l.getD k default).2.2) (by simp only [List.length_map]; exact b) ?_ ?_ ?_ ?_ ?_ ?_ ?_ ?_ ?_ ?_
  · rw [List.length_map]
    exact r.congr fun k hk => by simp only [nthS_fst hk]
  all_goals (intro k hk; rw [List.length_map] at hk; rw [nthS_fst hk])
  · exact (q k hk).wf
  · exact (q k hk).ea
  · exact (q k hk).eb
  · exact (q k hk).body
  · exact (q k hk).els
  · exact (q k hk).clen
  · exact (q k hk).crow
  · exact (q k hk).cwf
  · exact (q k hk).cbody
def CaQ (W : World) (z : CaD × Hd) : Prop := In64 z.1.n ∧ StsAt W W.heap.size z.2.a z.1.body
/-- A case, where statements of less fuel are opened. -/
theorem dec_ca (fuel : Nat) (ih : ∀ m, m < fuel → ∀ (cs : List Value) (y : DataW H × List MemPlace), DataW.trod enc Tryz.prog W 0 spare held m 42 cs = some y → Fit Tryz.prog 42 y.1 → ∃ z : StD × HdS × (Nat → Hd), StQ W z ∧ ∀ j, j < 14 → cs[j]? = some (StV z j)) :
    ∀ (cs : List Value) (y : DataW H × List MemPlace), DataW.trod enc Tryz.prog W 0 spare held fuel 97 cs = some y → Fit Tryz.prog 97 y.1 → ∃ z : CaD × Hd, CaQ W z ∧ ∀ j, j < 2 → cs[j]? = some (caV z.1 z.2 j) := by
  intro cs y h hfit
  obtain ⟨n, ys, rfl, hy, _, hl, hf⟩ := open_fields Tryz.underlying97 (by kernel_rfl) (by kernel_rfl) h
  rw [hy] at hfit
  obtain ⟨v0, y0, c0, _, t0⟩ := hf 0 _ rfl
  obtain ⟨v1, y1, c1, g1, t1⟩ := hf 1 _ rfl
  have f1 := fit_field Tryz.underlying97 hfit (i := 1) rfl (show _ = some y1.1 by simp [g1])
  simp only [List.getElem_toArray, List.getElem_cons_zero, List.getElem_cons_succ] at t0 t1 f1
  obtain ⟨k0, e0, _, w0⟩ := DataW.trod_int Tryz.underlying2 t0
  obtain ⟨A, l, c, e1, q, b, hc, _, _, r⟩ := open_rowsN (sz := 14) StV (StQ W) Tryz.underlying39 (by kernel_rfl) (by omega) (fun m hm => ih m (by omega)) t1 f1
  simp only [List.cons.injEq, and_true] at e0 e1
  subst e0; subst e1
  rw [bytesSt] at b
  refine ⟨⟨.mk k0 (l.map Prod.fst), ⟨A, c⟩⟩, ⟨in64_of_wf w0, sts_of b q r⟩, fun j hj => ?_⟩
  obtain rfl | rfl : j = 0 ∨ j = 1 := by omega
  · exact c0
  · rw [c1]; simp [caV, CaD.body]
/-- A statement. -/
theorem dec_st (fuel : Nat) : ∀ (cs : List Value) (y : DataW H × List MemPlace), DataW.trod enc Tryz.prog W 0 spare held fuel 42 cs = some y → Fit Tryz.prog 42 y.1 →
    ∃ z : StD × HdS × (Nat → Hd), StQ W z ∧ ∀ j, j < 14 → cs[j]? = some (StV z j) := by
  induction fuel using Nat.strongRecOn with
  | _ fuel ih =>
    intro cs y h hfit
    obtain ⟨xs, n, rfl, rfl, hlen, hxl, hf⟩ := DataW.trod_struct Tryz.underlying42 h
    have hlen : cs.length = 14 := hlen.trans (by kernel_rfl)
    have hxl : xs.length = 8 := hxl
    have part : ∀ i (hi : i < 8), xs[i]? = some (xs[i]'(by omega)) := fun i hi => List.getElem?_eq_getElem (by omega)
    have one : ∀ o, o < 14 → (cs.drop o).take 1 = [cs.getD o (.int .i64 0)] := fun o ho => take1_drop cs o _ (by omega)
    have get : ∀ o, o < 14 → cs[o]? = some (cs.getD o (.int .i64 0)) := fun o ho => by rw [List.getElem?_eq_getElem (by omega : o < cs.length), List.getD_eq_getElem?_getD, List.getElem?_eq_getElem (by omega : o < cs.length)]; rfl
    have cE : Tryz.prog.cellsOf 35 = 4 := by kernel_rfl
    have t0 := (hf 0 _ rfl).trans (part 0 (by omega))
    have t1 := (hf 1 _ rfl).trans (part 1 (by omega))
    have t2 := (hf 2 _ rfl).trans (part 2 (by omega))
    have t3 := (hf 3 _ rfl).trans (part 3 (by omega))
    have t4 := (hf 4 _ rfl).trans (part 4 (by omega))
    have t5 := (hf 5 _ rfl).trans (part 5 (by omega))
    have t6 := (hf 6 _ rfl).trans (part 6 (by omega))
    have t7 := (hf 7 _ rfl).trans (part 7 (by omega))
    have gf : ∀ i (hi : i < 8), (xs.map (·.1))[i]? = some (xs[i]'(by omega)).1 := fun i hi => by rw [List.getElem?_map, part i hi]; rfl
    have f3 := fit_field Tryz.underlying42 hfit (i := 3) rfl (gf 3 (by omega))
    have f4 := fit_field Tryz.underlying42 hfit (i := 4) rfl (gf 4 (by omega))
    have f5 := fit_field Tryz.underlying42 hfit (i := 5) rfl (gf 5 (by omega))
    have f6 := fit_field Tryz.underlying42 hfit (i := 6) rfl (gf 6 (by omega))
    have f7 := fit_field Tryz.underlying42 hfit (i := 7) rfl (gf 7 (by omega))
    simp only [List.getElem_toArray, List.getElem_cons_zero, List.getElem_cons_succ] at t0 t1 t2 t3 t4 t5 t6 t7 f3 f4 f5 f6 f7
    rw [show Tryz.prog.cellsOf 3 = 1 by kernel_rfl, one 0 (by omega)] at t0
    rw [show Tryz.prog.cellsOf 9 = 1 by kernel_rfl, one 1 (by omega)] at t1
    rw [show Tryz.prog.cellsOf 2 = 1 by kernel_rfl, one 2 (by omega)] at t2
    rw [cE] at t3 t4
    rw [show Tryz.prog.cellsOf 39 = 1 by kernel_rfl, one 11 (by omega)] at t5
    rw [show Tryz.prog.cellsOf 39 = 1 by kernel_rfl, one 12 (by omega)] at t6
    rw [show Tryz.prog.cellsOf 40 = 1 by kernel_rfl, one 13 (by omega)] at t7
    obtain ⟨k0, e0, _, w0⟩ := DataW.trod_int Tryz.underlying3 t0
    obtain ⟨k1, e1, _, w1⟩ := DataW.trod_string Tryz.underlying9 t1
    obtain ⟨k2, e2, _, w2⟩ := DataW.trod_int Tryz.underlying2 t2
    obtain ⟨a, qa, ca⟩ := dec_ex n _ _ t3 f3
    obtain ⟨b, qb, cb⟩ := dec_ex n _ _ t4 f4
    obtain ⟨A5, l5, p5, e5, q5, b5, _, _, _, r5⟩ := open_rowsN (sz := 14) StV (StQ W) Tryz.underlying39 (by kernel_rfl) (by omega) (fun m hm => ih m (by omega)) t5 f5
    obtain ⟨A6, l6, p6, e6, q6, b6, _, _, _, r6⟩ := open_rowsN (sz := 14) StV (StQ W) Tryz.underlying39 (by kernel_rfl) (by omega) (fun m hm => ih m (by omega)) t6 f6
    obtain ⟨A7, l7, p7, e7, q7, b7, _, _, _, r7⟩ := open_rowsN (sz := 2) (fun z : CaD × Hd => caV z.1 z.2) (CaQ W) Tryz.underlying40 (by kernel_rfl) (by omega) (fun m hm => dec_ca m fun m2 hm2 => ih m2 (by omega)) t7 f7
    simp only [List.cons.injEq, and_true] at e0 e1 e2 e5 e6 e7
    rw [bytesSt] at b5 b6
    rw [bytesC] at b7
    have g0 := (get 0 (by omega)).trans (congrArg some e0)
    have g1 := (get 1 (by omega)).trans (congrArg some e1)
    have g2 := (get 2 (by omega)).trans (congrArg some e2)
    have g11 := (get 11 (by omega)).trans (congrArg some e5)
    have g12 := (get 12 (by omega)).trans (congrArg some e6)
    have g13 := (get 13 (by omega)).trans (congrArg some e7)
    refine ⟨⟨.mk k0 k1 k2 a.1 b.1 (l5.map Prod.fst) (l6.map Prod.fst) (l7.map Prod.fst), ⟨a.2, b.2, ⟨A5, p5⟩, ⟨A6, p6⟩, ⟨A7, p7⟩⟩, fun k => (l7.getD k default).2⟩,
      ⟨⟨in64_of_wf w0, in64_of_wf w2, w1, qa.1, qb.1⟩, qa.2, qb.2, sts_of b5 q5 r5, sts_of b6 q6 r6, by simp only [StD.cases, List.length_map]; exact b7, ?_, ?_, ?_⟩, fun j hj => ?_⟩
    · show RowsAt W W.heap.size A7 (l7.map Prod.fst).length 2 fun j => caV (nthC (l7.map Prod.fst) j) _
      rw [List.length_map]
      exact r7.congr fun k hk => by simp only [nthC_fst hk]
    · intro j hj
      have hj : j < l7.length := by simpa [StD.cases] using hj
      show In64 (nthC (l7.map Prod.fst) j).n
      rw [nthC_fst hj]; exact (q7 j hj).1
    · intro j hj
      have hj : j < l7.length := by simpa [StD.cases] using hj
      show StsAt W W.heap.size (l7.getD j default).2.a (nthC (l7.map Prod.fst) j).body
      rw [nthC_fst hj]; exact (q7 j hj).2
    · match j, hj with
      | 0, _ => exact g0
      | 1, _ => exact g1
      | 2, _ => exact g2
      | 3, _ => exact sub_get (j := 0) (by omega) (ca 0 (by omega))
      | 4, _ => exact sub_get (j := 1) (by omega) (ca 1 (by omega))
      | 5, _ => exact sub_get (j := 2) (by omega) (ca 2 (by omega))
      | 6, _ => exact sub_get (j := 3) (by omega) (ca 3 (by omega))
      | 7, _ => exact sub_get (j := 0) (by omega) (cb 0 (by omega))
      | 8, _ => exact sub_get (j := 1) (by omega) (cb 1 (by omega))
      | 9, _ => exact sub_get (j := 2) (by omega) (cb 2 (by omega))
      | 10, _ => exact sub_get (j := 3) (by omega) (cb 3 (by omega))
      | 11, _ => rw [g11]; simp [StV, stV, StD.body]
      | 12, _ => rw [g12]; simp [StV, stV, StD.els]
      | 13, _ => rw [g13]; simp [StV, stV, StD.cases]
def PaQ (z : PaD) : Prop := z.name.size ≤ maxLen ∧ In64 z.lo ∧ In64 z.hi
theorem dec_pa (fuel : Nat) (cs : List Value) (y : DataW H × List MemPlace) (h : DataW.trod enc Tryz.prog W 0 spare held fuel 37 cs = some y) (_ : Fit Tryz.prog 37 y.1) : ∃ z : PaD, PaQ z ∧ ∀ j, j < 3 → cs[j]? = some (paV z j) := by
  obtain ⟨n, ys, rfl, hy, _, hl, hf⟩ := open_fields Tryz.underlying37 (by kernel_rfl) (by kernel_rfl) h
  obtain ⟨v0, y0, c0, _, t0⟩ := hf 0 _ rfl
  obtain ⟨v1, y1, c1, _, t1⟩ := hf 1 _ rfl
  obtain ⟨v2, y2, c2, _, t2⟩ := hf 2 _ rfl
  simp only [List.getElem_toArray, List.getElem_cons_zero, List.getElem_cons_succ] at t0 t1 t2
  obtain ⟨k0, e0, _, w0⟩ := DataW.trod_string Tryz.underlying9 t0
  obtain ⟨k1, e1, _, w1⟩ := DataW.trod_int Tryz.underlying2 t1
  obtain ⟨k2, e2, _, w2⟩ := DataW.trod_int Tryz.underlying2 t2
  simp only [List.cons.injEq, and_true] at e0 e1 e2
  subst e0; subst e1; subst e2
  refine ⟨⟨k0, k1, k2⟩, ⟨w0, in64_of_wf w1, in64_of_wf w2⟩, fun j hj => ?_⟩
  obtain rfl | rfl | rfl : j = 0 ∨ j = 1 ∨ j = 2 := by omega
  · exact c0
  · exact c1
  · exact c2
def FnQ (W : World) (z : FnD × HdF) : Prop := FnOk W W.heap.size z.1 z.2
theorem dec_fn (fuel : Nat) (cs : List Value) (y : DataW H × List MemPlace) (h : DataW.trod enc Tryz.prog W 0 spare held fuel 44 cs = some y) (hfit : Fit Tryz.prog 44 y.1) : ∃ z : FnD × HdF, FnQ W z ∧ ∀ j, j < 3 → cs[j]? = some (fnV z.1 z.2 j) := by
  obtain ⟨n, ys, rfl, hy, _, hl, hf⟩ := open_fields Tryz.underlying44 (by kernel_rfl) (by kernel_rfl) h
  rw [hy] at hfit
  obtain ⟨v0, y0, c0, _, t0⟩ := hf 0 _ rfl
  obtain ⟨v1, y1, c1, g1, t1⟩ := hf 1 _ rfl
  obtain ⟨v2, y2, c2, g2, t2⟩ := hf 2 _ rfl
  have f1 := fit_field Tryz.underlying44 hfit (i := 1) rfl (show _ = some y1.1 by simp [g1])
  have f2 := fit_field Tryz.underlying44 hfit (i := 2) rfl (show _ = some y2.1 by simp [g2])
  simp only [List.getElem_toArray, List.getElem_cons_zero, List.getElem_cons_succ] at t0 t1 t2 f1 f2
  obtain ⟨k0, e0, _, w0⟩ := DataW.trod_string Tryz.underlying9 t0
  obtain ⟨A1, l1, p1, e1, q1, b1, _, _, _, r1⟩ := open_rowsN (sz := 3) paV PaQ Tryz.underlying38 (by kernel_rfl) (by omega) (fun m _ => dec_pa m) t1 f1
  obtain ⟨A2, l2, p2, e2, q2, b2, _, _, _, r2⟩ := open_rowsN (sz := 14) StV (StQ W) Tryz.underlying39 (by kernel_rfl) (by omega) (fun m _ => dec_st m) t2 f2
  simp only [List.cons.injEq, and_true] at e0 e1 e2
  subst e0; subst e1; subst e2
  rw [bytesP] at b1
  rw [bytesSt] at b2
  refine ⟨⟨⟨k0, l1, l2.map Prod.fst⟩, ⟨⟨A1, p1⟩, ⟨A2, p2⟩⟩⟩, ⟨w0, b1, r1, q1, sts_of b2 q2 r2⟩, fun j hj => ?_⟩
  obtain rfl | rfl | rfl : j = 0 ∨ j = 1 ∨ j = 2 := by omega
  · exact c0
  · exact c1
  · rw [c2]; simp [fnV]
theorem dec_int (fuel : Nat) (cs : List Value) (y : DataW H × List MemPlace) (h : DataW.trod enc Tryz.prog W 0 spare held fuel 2 cs = some y) (_ : Fit Tryz.prog 2 y.1) : ∃ z : Int, In64 z ∧ ∀ j, j < 1 → cs[j]? = some ((fun (z : Int) (_ : Nat) => Value.int .i64 z) z j) := by
  obtain ⟨k, rfl, _, wf⟩ := DataW.trod_int Tryz.underlying2 h
  exact ⟨k, in64_of_wf wf, fun j hj => by obtain rfl : j = 0 := by omega
                                          rfl⟩
/-- A program that came in by value. -/
theorem open_prog {b0 : Nat} {r : Reach} {v : Value} {d : DataW H} {p : List MemPlace}
    (hv : Value.okWide Tryz.prog W r b0 25 v) (h : DataW.Trod enc Tryz.prog W 0 spare held 25 v d p) (hfit : Fit Tryz.prog 25 d) :
    ∃ (q : PrD) (wa fa : Option Addr) (wc fc : Nat), v = prV q wa fa wc fc ∧ PrOk W W.heap.size q wa fa ∧ q.widen.length ≤ wc ∧ q.funcs.length ≤ fc ∧ wc ≤ maxLen ∧ fc ≤ maxLen := by
  obtain ⟨cs, rfl, hsz⟩ := okWide_struct Tryz.underlying25 hv
  obtain ⟨fuel, hf⟩ := h
  obtain ⟨n, ys, rfl, hy, _, hl, hg⟩ := open_fields Tryz.underlying25 (by kernel_rfl) (by kernel_rfl) hf
  simp only at hy
  rw [hy] at hfit
  obtain ⟨v0, y0, c0, g0, t0⟩ := hg 0 _ rfl
  obtain ⟨v1, y1, c1, g1, t1⟩ := hg 1 _ rfl
  have f0 := fit_field Tryz.underlying25 hfit (i := 0) rfl (show _ = some y0.1 by simp [g0])
  have f1 := fit_field Tryz.underlying25 hfit (i := 1) rfl (show _ = some y1.1 by simp [g1])
  simp only [List.getElem_toArray, List.getElem_cons_zero, List.getElem_cons_succ] at t0 t1 f0 f1
  obtain ⟨A0, l0, p0, e0, q0, b0, h0, m0, _, r0⟩ := open_rowsN (α := Int) (sz := 1) (fun z _ => .int .i64 z) In64 Tryz.underlying22 (by kernel_rfl) (by omega) (fun m _ => dec_int m) t0 f0
  obtain ⟨A1, l1, p1, e1, q1, b1, h1, m1, _, r1⟩ := open_rowsN (sz := 3) (fun z : FnD × HdF => fnV z.1 z.2) (FnQ W) Tryz.underlying23 (by kernel_rfl) (by omega) (fun m _ => dec_fn m) t1 f1
  simp only [List.cons.injEq, and_true] at e0 e1
  subst e0; subst e1
  rw [bytesI] at b0
  rw [bytesF] at b1
  refine ⟨⟨l0, l1.map Prod.fst⟩, A0, A1, p0, p1, ?_, ⟨b0, r0, q0, .mk (fun k => (l1.getD k default).2) (by simp only [List.length_map]; exact b1) ?_ ?_⟩, h0, by simpa using h1, m0, m1⟩
  · have h2 : Tryz.prog.cellsOf 25 = 2 := by kernel_rfl
    rw [h2] at hsz
    congr 1
    apply Array.ext
    · simpa using hsz
    · intro i hi hi2
      simp only [Value.cells] at c0 c1
      obtain rfl | rfl : i = 0 ∨ i = 1 := by omega
      · simpa [hi] using c0
      · simpa [hi] using c1
  · rw [List.length_map]
    exact r1.congr fun k hk => by simp only [nthF_fst hk]
  · intro k hk
    rw [List.length_map] at hk
    rw [nthF_fst hk]; exact q1 k hk
end
end Go.Proofs.YtdddppmfeoebgaaGreatDoor

/-
  Layer 2 (tree): the condition of the rows, that three tables read as they are laid, gives a walk the table of powers of ten; and a start that meets it.
-/
namespace Go.Proofs.YtdddppmfeoebgaaGreatDoor
open Go.ChangeShapes Go.WideShapes Go.ChangeAt Go.RowKit Go.Joins
set_option linter.unusedSimpArgs false
set_option linter.unusedVariables false
abbrev laidRows : List (String × DataW Unit) := [("math/bits.deBruijn32tab", Rows.laid_math_bits_deBruijn32tab), ("math/bits.deBruijn64tab", Rows.laid_math_bits_deBruijn64tab), ("internal/strconv.uint64pow10", Rows.laid_internal_strconv_uint64pow10)]
theorem laid_is : (Rows.laid_internal_strconv_uint64pow10 : DataW Unit) = Lib.tabData .u64 Lib.pow10Tab := by kernel_rfl
theorem gPow : Tryz.prog.globalNamed "internal/strconv.uint64pow10" = some 0 := by kernel_rfl
theorem tab_of_laid {W : World} (h : laidMetH Tryz.prog laidRows W) : Pow10 W := by
  rw [MakeChecks.laidMetH_plain _ _ _ (by kernel_rfl)] at h
  have h2 := h.tail.tail
  rw [laid_is] at h2
  exact Lib.tabIs_of_head gPow (show _ = some 149 by kernel_rfl) Tryz.underlying149 Tryz.underlying127 (by kernel_rfl) (by kernel_rfl) h2
/-- The door's own heap meets the condition. -/
theorem door_met (os : Os) (args : Array Value) : laidMetH Tryz.prog laidRows ((World.doorLaid Tryz.prog 400 os).forCall (fun _ _ => 0) ⟨#[], args, []⟩).memory :=
  laidMetH_of_parts (laidMet_of_run' 8 (by kernel_rfl) (by kernel_rfl)) (by kernel_rfl)
theorem door_shaped (os : Os) (args : Array Value) : ((World.doorLaid Tryz.prog 400 os).forCall (fun _ _ => 0) ⟨#[], args, []⟩).Shaped Tryz.prog :=
  World.shaped_of_RefB (by kernel_rfl) (by kernel_rfl)
end Go.Proofs.YtdddppmfeoebgaaGreatDoor
