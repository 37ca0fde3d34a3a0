/-
  Layer 9 (code): the condition of the row, that the table reads as it is laid, gives a walk the table's cells; and a start that meets it.
-/
import Derived.Test.YtjacfeohpofhpaaDoorTab
import Derived.LaidMore
import Derived.LaidHandle
import Derived.LaidLaws
import Derived.MakeChecks
namespace Go.Proofs.YtjacfeohpofhpaaDoor
open Go.ChangeShapes Go.WideShapes Go.ChangeAt Go.RowKit
set_option linter.unusedSimpArgs false
set_option linter.unusedVariables false

def rowData {H : Type} (r : Row) : DataW H := .agg [.lit (.string r.word), .lit (.int .i64 r.weight), .lit (.bool r.a), .lit (.bool r.b), .lit (.bool r.c), .lit (.int .i64 r.n), .lit (.bool r.wr)]
theorem laid_is : (Rows.laid_soffit_code_rows : DataW Unit) = .agg (tab.map rowData) := rfl
theorem gRows : Tryd.prog.globalNamed "soffit/code.rows" = some 0 := by kernel_rfl
theorem tRows : (Tryd.prog.globals[0]?).map (·.type) = some 81 := by kernel_rfl
theorem c20 : Tryd.prog.cellsOf 81 = 140 := by kernel_rfl
theorem c7 : Tryd.prog.cellsOf 80 = 7 := by kernel_rfl
theorem cInt : Tryd.prog.cellsOf 3 = 1 := by kernel_rfl
theorem cI64 : Tryd.prog.cellsOf 2 = 1 := by kernel_rfl
theorem cBool : Tryd.prog.cellsOf 4 = 1 := by kernel_rfl
theorem cStr : Tryd.prog.cellsOf 9 = 1 := by kernel_rfl
theorem take_at {α : Type} {l : List α} {a i : Nat} {v : α} (hi : i < 7) (h : (((l.drop a).take 7).drop i).take 1 = [v]) : l[a + i]? = some v := by
  have := congrArg (·[0]?) h
  simp only [List.getElem?_take, List.getElem?_drop] at this
  rw [if_pos (by omega), if_pos (by omega)] at this
  simpa using this
theorem cells_rowed {W : World} {fuel : Nat} {l : List Value} {a : Nat} {r : Row} {p : List MemPlace}
    (h : DataW.trod (fun _ => ()) Tryd.prog W 0 (fun _ => true) false fuel 80 ((l.drop a).take 7) = some (rowData r, p)) :
    l[a]? = some (.string (strOf r.word)) ∧ l[a + 1]? = some (.int .i64 r.weight) ∧ l[a + 2]? = some (.bool r.a) ∧ l[a + 3]? = some (.bool r.b) ∧ l[a + 4]? = some (.bool r.c) ∧ l[a + 5]? = some (.int .i64 r.n) ∧ l[a + 6]? = some (.bool r.wr) := by
  obtain ⟨xs, n, rfl, hx, _, _, hf⟩ := DataW.trod_struct Tryd.underlying80 h
  simp only [Prod.mk.injEq, rowData, DataW.agg.injEq] at hx
  match xs, hx.1, hf with
  | [x0, x1, x2, x3, x4, x5, x6], hx1, hf =>
    simp only [List.map_cons, List.map_nil, List.cons.injEq, and_true] at hx1
    obtain ⟨e0, e1, e2, e3, e4, e5, e6⟩ := hx1
    have f0 := hf 0 _ rfl
    have f1 := hf 1 _ rfl
    have f2 := hf 2 _ rfl
    have f3 := hf 3 _ rfl
    have f4 := hf 4 _ rfl
    have f5 := hf 5 _ rfl
    have f6 := hf 6 _ rfl
    simp only [List.getElem_toArray, List.getElem_cons_zero, List.getElem_cons_succ, List.getElem?_cons_zero, List.getElem?_cons_succ, cInt, cI64, cBool, cStr] at f0 f1 f2 f3 f4 f5 f6
    obtain ⟨s, c0, y0, _⟩ := DataW.trod_string Tryd.underlying9 f0
    obtain ⟨i1, c1, y1, _⟩ := DataW.trod_int Tryd.underlying2 f1
    obtain ⟨b2, c2, y2⟩ := DataW.trod_bool Tryd.underlying4 f2
    obtain ⟨b3, c3, y3⟩ := DataW.trod_bool Tryd.underlying4 f3
    obtain ⟨b4, c4, y4⟩ := DataW.trod_bool Tryd.underlying4 f4
    obtain ⟨i5, c5, y5, _⟩ := DataW.trod_int Tryd.underlying3 f5
    obtain ⟨b6, c6, y6⟩ := DataW.trod_bool Tryd.underlying4 f6
    subst y0; subst y1; subst y2; subst y3; subst y4; subst y5; subst y6
    simp only [DataW.lit.injEq, Lit.string.injEq, Lit.int.injEq, Lit.bool.injEq, true_and] at e0 e1 e2 e3 e4 e5 e6
    have k0 := take_at (by omega) c0
    have k1 := take_at (by omega) c1
    have k2 := take_at (by omega) c2
    have k3 := take_at (by omega) c3
    have k4 := take_at (by omega) c4
    have k5 := take_at (by omega) c5
    have k6 := take_at (by omega) c6
    have es : s = strOf r.word := by
      obtain ⟨⟨q⟩⟩ := s
      show _ = (⟨r.word.toArray⟩ : ByteArray)
      rw [e0]
    rw [es] at k0
    rw [← e1] at k1; rw [← e2] at k2; rw [← e3] at k3; rw [← e4] at k4; rw [← e5] at k5; rw [← e6] at k6
    exact ⟨k0, k1, k2, k3, k4, k5, k6⟩

abbrev laidRows : List (String × DataW Unit) := [("soffit/code.rows", Rows.laid_soffit_code_rows)]
theorem tab_of_laid {W : World} (h : laidMetH Tryd.prog laidRows W) : TabOk W := by
  rw [MakeChecks.laidMetH_plain _ _ _ (by kernel_rfl)] at h
  obtain ⟨ps, ⟨g, t, cs, f, p, q, hg, ht, hv, hd, _, _⟩, _, _⟩ := h
  obtain rfl := Option.some.inj (gRows.symm.trans hg)
  obtain rfl := Option.some.inj (tRows.symm.trans ht)
  have cell : ∀ o, W.cell? ⟨0, o, none⟩ = cs[o]? := fun o => World.var?_cell hg hv o
  rw [laid_is] at hd
  obtain ⟨xs, m, rfl, hx, hlen, hn, hel⟩ := DataW.trod_array Tryd.underlying81 hd
  simp only [Prod.mk.injEq, DataW.agg.injEq] at hx
  rw [c7] at hel
  rw [c20] at hlen
  have each : ∀ k, k < 20 → _ := fun k hk => by
    have hr : xs[k]?.map (·.1) = some (rowData (row k)) := by
      have := congrArg (·[k]?) hx.1
      simp only [List.getElem?_map] at this
      rw [← this]
      have : tab[k]? = some (row k) := by
        have hk' : k < tab.length := hk
        simp [row, List.getD, List.getElem?_eq_getElem hk']
      rw [this]; rfl
    have he := hel k hk
    cases hxk : xs[k]? with
    | none => rw [hxk] at hr; cases hr
    | some y =>
      rw [hxk] at hr he
      simp only [Option.map_some, Option.some.injEq] at hr
      obtain ⟨y1, y2⟩ := y
      simp only at hr
      subst hr
      exact cells_rowed he
  refine ⟨?_, fun k hk => ?_, fun k hk => ?_, fun k hk => ?_, fun k hk => ?_, fun k hk => ?_, fun k hk => ?_, fun k hk => ?_⟩
  · have h0 := (each 0 (by omega)).1
    exact World.block_lt_of_cell? W ⟨0, 0, none⟩ ((cell 0).trans (by simpa using h0))
  all_goals rw [cell]
  · simpa using (each k hk).1
  · simpa using (each k hk).2.1
  · simpa using (each k hk).2.2.1
  · simpa using (each k hk).2.2.2.1
  · simpa using (each k hk).2.2.2.2.1
  · simpa using (each k hk).2.2.2.2.2.1
  · simpa using (each k hk).2.2.2.2.2.2

/-- The door's own heap meets the condition. -/
theorem door_met (os : Os) (args : Array Value) : laidMetH Tryd.prog laidRows ((World.doorLaid Tryd.prog 400 os).forCall (fun _ _ => 0) ⟨#[], args, []⟩).memory :=
  laidMetH_of_parts (laidMet_of_run' 8 (by kernel_rfl) (by kernel_rfl)) (by kernel_rfl)
theorem door_shaped (os : Os) (args : Array Value) : ((World.doorLaid Tryd.prog 400 os).forCall (fun _ _ => 0) ⟨#[], args, []⟩).Shaped Tryd.prog :=
  World.shaped_of_RefB (by kernel_rfl) (by kernel_rfl)
end Go.Proofs.YtjacfeohpofhpaaDoor
