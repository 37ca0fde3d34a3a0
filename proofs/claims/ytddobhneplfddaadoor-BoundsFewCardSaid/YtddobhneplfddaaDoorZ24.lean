/-
  Layer 16 (bounds): RunA, RunB, Beg.
-/
import Derived.Test.YtddobhneplfddaaDoorProg
import Derived.Test.YtddobhneplfddaaDoorRows
import Derived.Test.YtddobhneplfddaaDoorZ0
import Derived.Test.YtddobhneplfddaaDoorZ1
import Derived.Test.YtddobhneplfddaaDoorZ2
import Derived.Test.YtddobhneplfddaaDoorZ3
import Derived.Test.YtddobhneplfddaaDoorZ4
import Derived.Test.YtddobhneplfddaaDoorZ5
import Derived.Test.YtddobhneplfddaaDoorZ6
import Derived.Test.YtddobhneplfddaaDoorZ7
import Derived.Test.YtddobhneplfddaaDoorZ8
import Derived.Test.YtddobhneplfddaaDoorZ9
import Derived.Test.YtddobhneplfddaaDoorZ10
import Derived.Test.YtddobhneplfddaaDoorZ11
import Derived.Test.YtddobhneplfddaaDoorZ12
import Derived.Test.YtddobhneplfddaaDoorZ13
import Derived.Test.YtddobhneplfddaaDoorZ14
import Derived.Test.YtddobhneplfddaaDoorZ15
import Derived.Test.YtddobhneplfddaaDoorZ16
import Derived.Test.YtddobhneplfddaaDoorZ17
import Derived.Test.YtddobhneplfddaaDoorZ18
import Derived.Test.YtddobhneplfddaaDoorZ19
import Derived.Test.YtddobhneplfddaaDoorZ20
import Derived.Test.YtddobhneplfddaaDoorZ21
import Derived.Test.YtddobhneplfddaaDoorZ22
import Derived.Test.YtddobhneplfddaaDoorZ23
import Derived.BigFrameIn
import Derived.BigQuiet
import Derived.BigRegion
import Derived.Carry
import Derived.ChangeMaps5
import Derived.Deep.AppendLies
import Derived.Deep.CutBlock
import Derived.Deep.DeepCutAuto
import Derived.Deep.DeepHandedRow
import Derived.Deep.DrawnRows
import Derived.Deep.Fields
import Derived.Deep.Light
import Derived.Deep.QuietTactic
import Derived.Deep.RegionHeld3
import Derived.Deep.RegionLaw
import Derived.Deep.SlicePairs
import Derived.Deep.Slices
import Derived.IntWalk
import Derived.JoinedCond
import Derived.Laws.AppendOwnNone
import Derived.Laws.Rows
import Derived.Laws.StructEq
import Derived.Lib.Hide
import Derived.Lib.SmallJoins
import Derived.LoopIn
import Derived.LoopNIn
import Derived.LoopTactic
import Derived.Maps.AppendAt
import Derived.OpenShut
import Derived.OpenVars
import Derived.Outline
import Derived.OwnWalk
import Derived.OwnWalkIn
import Derived.ProofKit
import Derived.RangeFuncBound
import Derived.RangeFuncCalls
import Derived.RangeFuncLeaves
import Derived.RangeFuncNested
import Derived.Shelf.Abstract
import Derived.Shelf.Bits.Mul64
import Derived.Shelf.RegionOpen
import Derived.SizedLaws
import Derived.TacticsInMore
import Derived.WalkKit
import Derived.WalkLawsBesides
import Derived.WalkMore
import Derived.WalkSpells
namespace Go.Proofs.YtddobhneplfddaaDoor
set_option maxRecDepth 100000
open Go.RowKit Go.Shelf
set_option linter.unusedSimpArgs false
set_option linter.unusedVariables false
attribute [local go_sem] Oper.semAt_some
/-- What stands at last. -/
def Final (m : ModD) (f : FuncD) (s : StD) : Prop :=
  ∃ K, (∀ p, p < K → true ∈ (afterD m f (passes f.code.length p)).marked) ∧ ¬ true ∈ (afterD m f (passes f.code.length K)).marked ∧ s = afterD m f (passes f.code.length K)
theorem Final.only {m : ModD} {f : FuncD} {s t : StD} (h : Final m f s) (k : Final m f t) : s = t := by
  obtain ⟨K, a, b, rfl⟩ := h
  obtain ⟨J, c, d, rfl⟩ := k
  rcases Nat.lt_trichotomy K J with q | rfl | q
  · exact absurd (c K q) b
  · rfl
  · exact absurd (a J q) d
/-- What Run leaves. -/
def RunOk (w : World) (m : ModD) (fn : Int) (e : Ending) (w' : World) : Prop :=
  Below w.heap.size w w' ∧
  (((mayD m).e ≠ 0 ∧ e = .returned (.tuple #[.agg #[.slice none 0 0, .slice none 0 0], .int .i64 (mayD m).e])) ∨
   ((mayD m).e = 0 ∧ (fn < 0 ∨ (m.funcs.length : Int) ≤ fn) ∧ e = .returned (.tuple #[.agg #[.slice none 0 0, .slice none 0 0], .int .i64 1])) ∨
   ((mayD m).e = 0 ∧ ∃ kf : Nat, fn = kf ∧ kf < m.funcs.length ∧ ∃ L sb s, Final m (nthF m.funcs kf) s ∧ e = .returned (.tuple #[.agg #[.slice (some ⟨L.inb, 0, none⟩) (nthF m.funcs kf).code.length (nthF m.funcs kf).code.length, .slice (some ⟨L.chb, 0, none⟩) (nthF m.funcs kf).code.length (nthF m.funcs kf).code.length], .int .i64 0]) ∧
      StP w' w.heap.size (nthF m.funcs kf).code.length (nthF m.funcs kf).regs.toNat sb L s))
set_option maxHeartbeats 4000000 in
theorem runP1 (m : ModD) (fn : Int) (wm : m.Wf) (h : ((mayD m).e != 0) = true) (w : World) (hm : ModOk w w.heap.size m) (ht : TabOk w) :
    Calls Tryd.prog 15 #[m.val, .int .i64 fn] w (RunOk w m fn) := by
  have H := Lib.hid (And.intro hm ht)
  have HE := Lib.hid (show (mayD m).e ≠ 0 by simpa using h)
  clear hm ht
  have hfe := fieldE
  refine (callsIn_wide (n := 9)).1 ?_
  refine callsIn_of_wp_marks Tryd.func15 rfl trivial ?_ rfl
  simp only [Tryd.ntmps15, List.size_toArray, List.length_cons, List.length_nil, Nat.reduceAdd, Nat.reduceSub, Array.replicate_succ, Array.replicate_zero, List.push_toArray, List.append_toArray, List.nil_append, List.cons_append]
  refine wpIn_wide.2 ?_
  go_wp2
  go_step3
  go_wp2_with fail
  go_at_call 26
  refine (mayP m _ wm (H.out.1.below (below_alloc (below_alloc (Below.refl _ _) _) _) (Nat.le_refl _) |>.more (by simp; omega)) ((H.out.2.alloc _).alloc _)).mono ?_
  rintro e w1 ⟨rfl, hb1⟩
  have B1 := below_step (below_alloc (below_alloc (Below.refl _ _) _) _) hb1
  have M4 := (Whl.new1 w (.cells #[.slice m.ta m.ths.length m.tc, .slice m.fa m.funcs.length m.fc] 25) 39 #[.slice none 0 0, .slice none 0 0]).below' hb1
  have y0 := M4.cell 0
  have y1 := M4.cell 1
  have z0 := M4.frozen 0
  have z1 := M4.frozen 1
  have l4 := M4.lt
  simp only [List.getElem?_toArray, List.getElem?_cons_zero, List.getElem?_cons_succ] at y0 y1
  clear hb1
  go_wp2
  go_region
  all_goals
    go_wp2
    rw [Exit.noGoto_ret]
    refine ⟨.tuple #[.agg #[.slice none 0 0, .slice none 0 0], .int .i64 (mayD m).e], by simp [results, Tryd.f15, go_sem, *], ?_⟩
    refine ⟨?_, .inl ⟨HE.out, rfl⟩⟩
    first
      | exact (below_alloc ((B1.setCell (p := ⟨w.heap.size + 1, 0, none⟩) (by simp) _).setCell (p := ⟨w.heap.size + 1, 1, none⟩) (by simp) _) _).drew
      | exact ((below_alloc B1 _).setCell (p := ⟨w.heap.size + 1, 0, none⟩) (by simp) _).setCell (p := ⟨w.heap.size + 1, 1, none⟩) (by simp) _
set_option maxHeartbeats 4000000 in
theorem runP2 (m : ModD) (fn : Int) (wm : m.Wf) (h : ((mayD m).e != 0) = false) (hfn : fn < 0 ∨ (m.funcs.length : Int) ≤ fn) (w : World) (hm : ModOk w w.heap.size m) (ht : TabOk w) :
    Calls Tryd.prog 15 #[m.val, .int .i64 fn] w (RunOk w m fn) := by
  have H := Lib.hid (And.intro hm ht)
  have HE := Lib.hid (show (mayD m).e = 0 by simpa using h)
  have HF := Lib.hid hfn
  clear hm ht
  have hfe := fieldE
  refine (callsIn_wide (n := 9)).1 ?_
  refine callsIn_of_wp_marks Tryd.func15 rfl trivial ?_ rfl
  simp only [Tryd.ntmps15, List.size_toArray, List.length_cons, List.length_nil, Nat.reduceAdd, Nat.reduceSub, Array.replicate_succ, Array.replicate_zero, List.push_toArray, List.append_toArray, List.nil_append, List.cons_append]
  refine wpIn_wide.2 ?_
  go_wp2
  go_step3
  go_wp2_with fail
  go_at_call 26
  refine (mayP m _ wm (H.out.1.below (below_alloc (below_alloc (Below.refl _ _) _) _) (Nat.le_refl _) |>.more (by simp; omega)) ((H.out.2.alloc _).alloc _)).mono ?_
  rintro e w1 ⟨rfl, hb1⟩
  have B1 := below_step (below_alloc (below_alloc (Below.refl _ _) _) _) hb1
  have M4 := (Whl.new1 w (.cells #[.slice m.ta m.ths.length m.tc, .slice m.fa m.funcs.length m.fc] 25) 39 #[.slice none 0 0, .slice none 0 0]).below' hb1
  have y0 := M4.cell 0
  have y1 := M4.cell 1
  have z0 := M4.frozen 0
  have z1 := M4.frozen 1
  have l4 := M4.lt
  have M2 := ((Whl.new w 25 #[.slice m.ta m.ths.length m.tc, .slice m.fa m.funcs.length m.fc]).alloc (.cells #[.slice none 0 0, .slice none 0 0] 39)).below' hb1
  have x1 := M2.cell 1
  have l2 := M2.lt
  simp only [List.getElem?_toArray, List.getElem?_cons_zero, List.getElem?_cons_succ] at y0 y1 x1
  clear hb1
  by_cases h0 : fn < 0
  · have h3 : decide (fn < 0) = true := by simpa using h0
    clear hfn h0
    go_wp2
    rw [Exit.noGoto_ret]
    refine ⟨.tuple #[.agg #[.slice none 0 0, .slice none 0 0], .int .i64 1], by simp [results, Tryd.f15, go_sem, *], ?_⟩
    exact ⟨below_alloc ((B1.setCell (p := ⟨w.heap.size + 1, 0, none⟩) (by simp) _).setCell (p := ⟨w.heap.size + 1, 1, none⟩) (by simp) _) _, .inr (.inl ⟨HE.out, HF.out, rfl⟩)⟩
  · have h3 : decide (fn < 0) = false := by simpa using h0
    have h4 : decide ((m.funcs.length : Int) ≤ fn) = true := by simp; omega
    clear hfn h0
    go_wp2
    rw [Exit.noGoto_ret]
    refine ⟨.tuple #[.agg #[.slice none 0 0, .slice none 0 0], .int .i64 1], by simp [results, Tryd.f15, go_sem, *], ?_⟩
    exact ⟨below_alloc ((B1.setCell (p := ⟨w.heap.size + 1, 0, none⟩) (by simp) _).setCell (p := ⟨w.heap.size + 1, 1, none⟩) (by simp) _) _, .inr (.inl ⟨HE.out, HF.out, rfl⟩)⟩
end Go.Proofs.YtddobhneplfddaaDoor

namespace Go.Proofs.YtddobhneplfddaaDoor
set_option maxRecDepth 100000
open Go.RowKit
set_option linter.unusedSimpArgs false
set_option linter.unusedVariables false
/-- A whole block that the call has made. -/
def AtB (w0 w : World) (b : Nat) (t : TypeId) (cs : Array Value) : Prop := w0.heap.size ≤ b ∧ Whl w b t cs
theorem AtB.alloc {w0 w : World} {b : Nat} {t : TypeId} {cs : Array Value} (h : AtB w0 w b t cs) (o : Obj) : AtB w0 (w.alloc o) b t cs := ⟨h.1, h.2.alloc o⟩
theorem AtB.new {w0 w : World} (h : Below w0.heap.size w0 w) (t : TypeId) (cs : Array Value) : AtB w0 (w.alloc (.cells cs t)) w.heap.size t cs := ⟨h.size, Whl.new w t cs⟩
theorem AtB.far {w0 w : World} {b : Nat} {t : TypeId} {cs : Array Value} (h : AtB w0 w b t cs) {p : Addr} (hp : b ≠ p.block) (u : Value) : AtB w0 (w.setCell p u) b t cs := ⟨h.1, h.2.far hp u⟩
noncomputable def ops8 : Array Oper := match findR 8 (bodyOf Tryd.f15) with
  | some (.region _ ops _) => ops
  | _ => #[]
theorem mkSp {n : Nat} (hn : n ≤ 1024) (w : World) : (Instr.makeSlice 36 (.int .i64 (n : Int)) (.int .i64 (n : Int))).run Tryd.prog w = .ok (.slice (some ⟨w.heap.size, 0, none⟩) n n) (w.alloc (.cells (madeCells #[.slice none 0 0] n) 26)) := by
  obtain ⟨i0, hi, hz0, hz1, hz2⟩ := info_parts (show (Tryd.prog.info? 26).map (fun i => (i.zero, i.size, i.bytes)) = some (some (.slice none 0 0), 1, 24) by kernel_rfl)
  have := run_make (P := Tryd.prog) w 36 26 i0 (.slice none 0 0) Tryd.underlying36 hi hz0 .i64 .i64 n n (by omega) (by omega) (by rw [hz2]; omega) (by omega)
  rw [this, hz1]
  simp [Value.cells]
theorem mkIs {n : Nat} (hn : n ≤ 1024) (w : World) : (Instr.makeSlice 37 (.int .i64 (n : Int)) (.int .i64 (n : Int))).run Tryd.prog w = .ok (.slice (some ⟨w.heap.size, 0, none⟩) n n) (w.alloc (.cells (madeCells #[.slice none 0 0] n) 44)) := by
  obtain ⟨i0, hi, hz0, hz1, hz2⟩ := info_parts (show (Tryd.prog.info? 44).map (fun i => (i.zero, i.size, i.bytes)) = some (some (.slice none 0 0), 1, 24) by kernel_rfl)
  have := run_make (P := Tryd.prog) w 37 44 i0 (.slice none 0 0) Tryd.underlying37 hi hz0 .i64 .i64 n n (by omega) (by omega) (by rw [hz2]; omega) (by omega)
  rw [this, hz1]
  simp [Value.cells]
theorem mkBo {n : Nat} (hn : n ≤ 1024) (w : World) : (Instr.makeSlice 67 (.int .i64 (n : Int)) (.int .i64 (n : Int))).run Tryd.prog w = .ok (.slice (some ⟨w.heap.size, 0, none⟩) n n) (w.alloc (.cells (madeCells #[.bool false] n) 4)) := by
  obtain ⟨i0, hi, hz0, hz1, hz2⟩ := info_parts (show (Tryd.prog.info? 4).map (fun i => (i.zero, i.size, i.bytes)) = some (some (.bool false), 1, 1) by kernel_rfl)
  have := run_make (P := Tryd.prog) w 67 4 i0 (.bool false) Tryd.underlying67 hi hz0 .i64 .i64 n n (by omega) (by omega) (by rw [hz2]; omega) (by omega)
  rw [this, hz1]
  simp [Value.cells]
theorem mkIn {n : Nat} (hn : n ≤ 1024) (w : World) : (Instr.makeSlice 44 (.int .i64 (n : Int)) (.int .i64 (n : Int))).run Tryd.prog w = .ok (.slice (some ⟨w.heap.size, 0, none⟩) n n) (w.alloc (.cells (madeCells #[.int .i64 0] n) 3)) := by
  obtain ⟨i0, hi, hz0, hz1, hz2⟩ := info_parts (show (Tryd.prog.info? 3).map (fun i => (i.zero, i.size, i.bytes)) = some (some (.int .i64 0), 1, 8) by kernel_rfl)
  have := run_make (P := Tryd.prog) w 44 3 i0 (.int .i64 0) Tryd.underlying44 hi hz0 .i64 .i64 n n (by omega) (by omega) (by rw [hz2]; omega) (by omega)
  rw [this, hz1]
  simp [Value.cells]
def frB (x : Nat → Value) (n : Nat) (v9 vm v43 v45 v46 v48 v50 v51 v52 : Value) : Array Value := #[x 0, x 1, x 2, x 3, x 4, x 5, x 6, x 7, .int .i64 n, v9, x 10, x 11, x 12, x 13, x 14, x 15, x 16, x 17, x 18, x 19, x 20, x 21, x 22, x 23, x 24, x 25, x 26, x 27, x 28, x 29, x 30, x 31, x 32, x 33, x 34, x 35, x 36, x 37, x 38, x 39, x 40, x 41, vm, v43, vm, v45, v46, vm, v48, vm, v50, v51, v52, undef, undef, undef, undef, undef, undef, undef, undef, undef, undef, undef, undef, undef, undef, undef, undef, undef, undef, undef, undef, undef, undef, undef, undef, undef, undef, undef, undef, undef, undef, undef, undef, undef, undef, undef, undef, undef, undef, undef, undef, undef, undef, undef, undef, undef, undef, undef, undef, undef, undef, undef, undef, undef, undef, undef, undef, undef, undef, undef, undef, undef, undef, undef, undef, undef, undef, undef, undef, undef, undef, undef, undef, undef, undef, undef, undef, undef, undef, undef, undef, undef, undef, undef, undef, undef, undef, undef, undef, undef, undef]
def MkK (n : Nat) (w0 : World) (Q : Exit → Act → World → Prop) (x : Nat → Value) : Prop :=
  ∀ b1 b3 b6 b8 bx bp W, Below w0.heap.size w0 W → AtB w0 W b1 26 (madeCells #[.slice none 0 0] n) → AtB w0 W b3 44 (madeCells #[.slice none 0 0] n) → AtB w0 W b6 4 (madeCells #[.bool false] n) → AtB w0 W b8 3 (madeCells #[.int .i64 0] n) → AtB w0 W bx 69 #[.slice (some ⟨b1, 0, none⟩) n n, .slice (some ⟨b3, 0, none⟩) n n, .slice (some ⟨b6, 0, none⟩) n n, .slice (some ⟨b8, 0, none⟩) n n] → AtB w0 W bp 66 #[.pointer (some ⟨bx, 0, none⟩)] → Q .normal ⟨frB x n (.pointer (some ⟨bp, 0, none⟩)) (.int .i64 n) (.slice (some ⟨b1, 0, none⟩) n n) (.slice (some ⟨b3, 0, none⟩) n n) (.agg #[.slice (some ⟨b1, 0, none⟩) n n, .slice (some ⟨b3, 0, none⟩) n n]) (.slice (some ⟨b6, 0, none⟩) n n) (.slice (some ⟨b8, 0, none⟩) n n) (.agg #[.slice (some ⟨b1, 0, none⟩) n n, .slice (some ⟨b3, 0, none⟩) n n, .slice (some ⟨b6, 0, none⟩) n n, .slice (some ⟨b8, 0, none⟩) n n]) (.pointer (some ⟨bx, 0, none⟩)), []⟩ W
def PanK (Q : Exit → Act → World → Prop) : Prop := ∀ ch a a2 w, Q (.panic ch) a w → Q (.panic ch) a2 w
section
variable {n : Nat} {w0 : World} {Q : Exit → Act → World → Prop} {x : Nat → Value}
theorem mk_abcdxp (hn : n ≤ 1024) (hQp : PanK Q) (hK : MkK n w0 Q x) (b1 b3 b6 b8 bx bp : Nat) (w : World) (hB : Below w0.heap.size w0 w) (f1 : AtB w0 w b1 26 (madeCells #[.slice none 0 0] n)) (f3 : AtB w0 w b3 44 (madeCells #[.slice none 0 0] n)) (f6 : AtB w0 w b6 4 (madeCells #[.bool false] n)) (f8 : AtB w0 w b8 3 (madeCells #[.int .i64 0] n)) (f10 : AtB w0 w bx 69 #[.slice (some ⟨b1, 0, none⟩) n n, .slice (some ⟨b3, 0, none⟩) n n, .slice (some ⟨b6, 0, none⟩) n n, .slice (some ⟨b8, 0, none⟩) n n]) (f11 : AtB w0 w bp 66 #[.pointer none]) :
    wpAny Tryd.prog .any ops8 Q 1 #[true, true, true, true, true, true, true, true, true, true, true, true, false] ⟨frB x n (.pointer (some ⟨bp, 0, none⟩)) (.int .i64 n) (.slice (some ⟨b1, 0, none⟩) n n) (.slice (some ⟨b3, 0, none⟩) n n) (.agg #[.slice (some ⟨b1, 0, none⟩) n n, .slice (some ⟨b3, 0, none⟩) n n]) (.slice (some ⟨b6, 0, none⟩) n n) (.slice (some ⟨b8, 0, none⟩) n n) (.agg #[.slice (some ⟨b1, 0, none⟩) n n, .slice (some ⟨b3, 0, none⟩) n n, .slice (some ⟨b6, 0, none⟩) n n, .slice (some ⟨b8, 0, none⟩) n n]) (.pointer (some ⟨bx, 0, none⟩)), []⟩ w := by
  unfold frB
  change wpAny _ _ #[_, _, _, _, _, _, _, _, _, _, _, _, _] _ _ _ _ _
  have m1 := mkSp hn
  have m3 := mkIs hn
  have m6 := mkBo hn
  have m8 := mkIn hn
  have hne : ∀ {b t cs}, AtB w0 w b t cs → t ≠ 66 → b ≠ bp := fun h ht => whl_apart h.2 f11.2 ht
  have c0 := f11.2.cell 0
  have z0 := f11.2.frozen 0
  refine wpAny_ready (rs := [12]) (by kernel_rfl) (by simp) ?_
  refine AllReady.cons rfl (fun K hKK => ?_) AllReady.nil
  go_simp
  refine hKK _ _ ?_
  clear hKK K
  refine wpAny_done (by kernel_rfl) ?_ _
  refine hK b1 b3 b6 b8 bx bp _ (hB.setCell (p := ⟨bp, 0, none⟩) f11.1 _) (f1.far (hne f1 (by decide)) _) (f3.far (hne f3 (by decide)) _) (f6.far (hne f6 (by decide)) _) (f8.far (hne f8 (by decide)) _) (f10.far (hne f10 (by decide)) _) ⟨f11.1, ?_⟩
  simpa using f11.2.put 0 (.pointer (some ⟨bx, 0, none⟩))
theorem mk_abcdx (hn : n ≤ 1024) (hQp : PanK Q) (hK : MkK n w0 Q x) (b1 b3 b6 b8 bx : Nat) (w : World) (hB : Below w0.heap.size w0 w) (f1 : AtB w0 w b1 26 (madeCells #[.slice none 0 0] n)) (f3 : AtB w0 w b3 44 (madeCells #[.slice none 0 0] n)) (f6 : AtB w0 w b6 4 (madeCells #[.bool false] n)) (f8 : AtB w0 w b8 3 (madeCells #[.int .i64 0] n)) (f10 : AtB w0 w bx 69 #[.slice (some ⟨b1, 0, none⟩) n n, .slice (some ⟨b3, 0, none⟩) n n, .slice (some ⟨b6, 0, none⟩) n n, .slice (some ⟨b8, 0, none⟩) n n]) :
    wpAny Tryd.prog .any ops8 Q 2 #[true, true, true, true, true, true, true, true, true, true, true, false, false] ⟨frB x n undef (.int .i64 n) (.slice (some ⟨b1, 0, none⟩) n n) (.slice (some ⟨b3, 0, none⟩) n n) (.agg #[.slice (some ⟨b1, 0, none⟩) n n, .slice (some ⟨b3, 0, none⟩) n n]) (.slice (some ⟨b6, 0, none⟩) n n) (.slice (some ⟨b8, 0, none⟩) n n) (.agg #[.slice (some ⟨b1, 0, none⟩) n n, .slice (some ⟨b3, 0, none⟩) n n, .slice (some ⟨b6, 0, none⟩) n n, .slice (some ⟨b8, 0, none⟩) n n]) (.pointer (some ⟨bx, 0, none⟩)), []⟩ w := by
  unfold frB
  change wpAny _ _ #[_, _, _, _, _, _, _, _, _, _, _, _, _] _ _ _ _ _
  have m1 := mkSp hn
  have m3 := mkIs hn
  have m6 := mkBo hn
  have m8 := mkIn hn
  refine wpAny_ready (rs := [11]) (by kernel_rfl) (by simp) ?_
  refine AllReady.cons rfl (fun K hKK => ?_) ?_
  · go_simp
    refine hKK _ _ ?_
    clear hKK K
    exact mk_abcdxp hn hQp hK b1 b3 b6 b8 bx w.heap.size _ (below_alloc hB _) (f1.alloc _) (f3.alloc _) (f6.alloc _) (f8.alloc _) (f10.alloc _) (AtB.new hB _ _)
  exact AllReady.nil
theorem mk_abcdp (hn : n ≤ 1024) (hQp : PanK Q) (hK : MkK n w0 Q x) (b1 b3 b6 b8 bp : Nat) (w : World) (hB : Below w0.heap.size w0 w) (f1 : AtB w0 w b1 26 (madeCells #[.slice none 0 0] n)) (f3 : AtB w0 w b3 44 (madeCells #[.slice none 0 0] n)) (f6 : AtB w0 w b6 4 (madeCells #[.bool false] n)) (f8 : AtB w0 w b8 3 (madeCells #[.int .i64 0] n)) (f11 : AtB w0 w bp 66 #[.pointer none]) :
    wpAny Tryd.prog .any ops8 Q 2 #[true, true, true, true, true, true, true, true, true, true, false, true, false] ⟨frB x n (.pointer (some ⟨bp, 0, none⟩)) (.int .i64 n) (.slice (some ⟨b1, 0, none⟩) n n) (.slice (some ⟨b3, 0, none⟩) n n) (.agg #[.slice (some ⟨b1, 0, none⟩) n n, .slice (some ⟨b3, 0, none⟩) n n]) (.slice (some ⟨b6, 0, none⟩) n n) (.slice (some ⟨b8, 0, none⟩) n n) (.agg #[.slice (some ⟨b1, 0, none⟩) n n, .slice (some ⟨b3, 0, none⟩) n n, .slice (some ⟨b6, 0, none⟩) n n, .slice (some ⟨b8, 0, none⟩) n n]) undef, []⟩ w := by
  unfold frB
  change wpAny _ _ #[_, _, _, _, _, _, _, _, _, _, _, _, _] _ _ _ _ _
  have m1 := mkSp hn
  have m3 := mkIs hn
  have m6 := mkBo hn
  have m8 := mkIn hn
  refine wpAny_ready (rs := [10]) (by kernel_rfl) (by simp) ?_
  refine AllReady.cons rfl (fun K hKK => ?_) ?_
  · go_simp
    refine hKK _ _ ?_
    clear hKK K
    exact mk_abcdxp hn hQp hK b1 b3 b6 b8 w.heap.size bp _ (below_alloc hB _) (f1.alloc _) (f3.alloc _) (f6.alloc _) (f8.alloc _) (AtB.new hB _ _) (f11.alloc _)
  exact AllReady.nil
theorem mk_abcd (hn : n ≤ 1024) (hQp : PanK Q) (hK : MkK n w0 Q x) (b1 b3 b6 b8 : Nat) (w : World) (hB : Below w0.heap.size w0 w) (f1 : AtB w0 w b1 26 (madeCells #[.slice none 0 0] n)) (f3 : AtB w0 w b3 44 (madeCells #[.slice none 0 0] n)) (f6 : AtB w0 w b6 4 (madeCells #[.bool false] n)) (f8 : AtB w0 w b8 3 (madeCells #[.int .i64 0] n)) :
    wpAny Tryd.prog .any ops8 Q 3 #[true, true, true, true, true, true, true, true, true, true, false, false, false] ⟨frB x n undef (.int .i64 n) (.slice (some ⟨b1, 0, none⟩) n n) (.slice (some ⟨b3, 0, none⟩) n n) (.agg #[.slice (some ⟨b1, 0, none⟩) n n, .slice (some ⟨b3, 0, none⟩) n n]) (.slice (some ⟨b6, 0, none⟩) n n) (.slice (some ⟨b8, 0, none⟩) n n) (.agg #[.slice (some ⟨b1, 0, none⟩) n n, .slice (some ⟨b3, 0, none⟩) n n, .slice (some ⟨b6, 0, none⟩) n n, .slice (some ⟨b8, 0, none⟩) n n]) undef, []⟩ w := by
  unfold frB
  change wpAny _ _ #[_, _, _, _, _, _, _, _, _, _, _, _, _] _ _ _ _ _
  have m1 := mkSp hn
  have m3 := mkIs hn
  have m6 := mkBo hn
  have m8 := mkIn hn
  refine wpAny_ready (rs := [10, 11]) (by kernel_rfl) (by simp) ?_
  refine AllReady.cons rfl (fun K hKK => ?_) ?_
  · go_simp
    refine hKK _ _ ?_
    clear hKK K
    exact mk_abcdx hn hQp hK b1 b3 b6 b8 w.heap.size _ (below_alloc hB _) (f1.alloc _) (f3.alloc _) (f6.alloc _) (f8.alloc _) (AtB.new hB _ _)
  refine AllReady.cons rfl (fun K hKK => ?_) ?_
  · go_simp
    refine hKK _ _ ?_
    clear hKK K
    exact mk_abcdp hn hQp hK b1 b3 b6 b8 w.heap.size _ (below_alloc hB _) (f1.alloc _) (f3.alloc _) (f6.alloc _) (f8.alloc _) (AtB.new hB _ _)
  exact AllReady.nil
theorem mk_abcp (hn : n ≤ 1024) (hQp : PanK Q) (hK : MkK n w0 Q x) (b1 b3 b6 bp : Nat) (w : World) (hB : Below w0.heap.size w0 w) (f1 : AtB w0 w b1 26 (madeCells #[.slice none 0 0] n)) (f3 : AtB w0 w b3 44 (madeCells #[.slice none 0 0] n)) (f6 : AtB w0 w b6 4 (madeCells #[.bool false] n)) (f11 : AtB w0 w bp 66 #[.pointer none]) :
    wpAny Tryd.prog .any ops8 Q 4 #[true, true, true, true, true, true, true, true, false, false, false, true, false] ⟨frB x n (.pointer (some ⟨bp, 0, none⟩)) (.int .i64 n) (.slice (some ⟨b1, 0, none⟩) n n) (.slice (some ⟨b3, 0, none⟩) n n) (.agg #[.slice (some ⟨b1, 0, none⟩) n n, .slice (some ⟨b3, 0, none⟩) n n]) (.slice (some ⟨b6, 0, none⟩) n n) undef undef undef, []⟩ w := by
  unfold frB
  change wpAny _ _ #[_, _, _, _, _, _, _, _, _, _, _, _, _] _ _ _ _ _
  have m1 := mkSp hn
  have m3 := mkIs hn
  have m6 := mkBo hn
  have m8 := mkIn hn
  refine wpAny_ready (rs := [8]) (by kernel_rfl) (by simp) ?_
  refine AllReady.cons rfl (fun K hKK => ?_) ?_
  · go_simp
    refine hKK _ _ ?_
    clear hKK K
    refine wpAny_take (i := 9) (v := ?_) rfl (by kernel_rfl) (by kernel_rfl) (by kernel_rfl) (fun _ _ _ h => hQp _ _ _ _ h) (Or.inl ⟨by rfl, ?_⟩) ?_
    rotate_left
    · (intro w'; go_simp <;> with_reducible rfl)
    exact mk_abcdp hn hQp hK b1 b3 b6 w.heap.size bp _ (below_alloc hB _) (f1.alloc _) (f3.alloc _) (f6.alloc _) (AtB.new hB _ _) (f11.alloc _)
  exact AllReady.nil
theorem mk_abdp (hn : n ≤ 1024) (hQp : PanK Q) (hK : MkK n w0 Q x) (b1 b3 b8 bp : Nat) (w : World) (hB : Below w0.heap.size w0 w) (f1 : AtB w0 w b1 26 (madeCells #[.slice none 0 0] n)) (f3 : AtB w0 w b3 44 (madeCells #[.slice none 0 0] n)) (f8 : AtB w0 w b8 3 (madeCells #[.int .i64 0] n)) (f11 : AtB w0 w bp 66 #[.pointer none]) :
    wpAny Tryd.prog .any ops8 Q 4 #[true, true, true, true, true, true, false, true, true, false, false, true, false] ⟨frB x n (.pointer (some ⟨bp, 0, none⟩)) (.int .i64 n) (.slice (some ⟨b1, 0, none⟩) n n) (.slice (some ⟨b3, 0, none⟩) n n) (.agg #[.slice (some ⟨b1, 0, none⟩) n n, .slice (some ⟨b3, 0, none⟩) n n]) undef (.slice (some ⟨b8, 0, none⟩) n n) undef undef, []⟩ w := by
  unfold frB
  change wpAny _ _ #[_, _, _, _, _, _, _, _, _, _, _, _, _] _ _ _ _ _
  have m1 := mkSp hn
  have m3 := mkIs hn
  have m6 := mkBo hn
  have m8 := mkIn hn
  refine wpAny_ready (rs := [6]) (by kernel_rfl) (by simp) ?_
  refine AllReady.cons rfl (fun K hKK => ?_) ?_
  · go_simp
    refine hKK _ _ ?_
    clear hKK K
    refine wpAny_take (i := 9) (v := ?_) rfl (by kernel_rfl) (by kernel_rfl) (by kernel_rfl) (fun _ _ _ h => hQp _ _ _ _ h) (Or.inl ⟨by rfl, ?_⟩) ?_
    rotate_left
    · (intro w'; go_simp <;> with_reducible rfl)
    exact mk_abcdp hn hQp hK b1 b3 w.heap.size b8 bp _ (below_alloc hB _) (f1.alloc _) (f3.alloc _) (AtB.new hB _ _) (f8.alloc _) (f11.alloc _)
  exact AllReady.nil
theorem mk_acdp (hn : n ≤ 1024) (hQp : PanK Q) (hK : MkK n w0 Q x) (b1 b6 b8 bp : Nat) (w : World) (hB : Below w0.heap.size w0 w) (f1 : AtB w0 w b1 26 (madeCells #[.slice none 0 0] n)) (f6 : AtB w0 w b6 4 (madeCells #[.bool false] n)) (f8 : AtB w0 w b8 3 (madeCells #[.int .i64 0] n)) (f11 : AtB w0 w bp 66 #[.pointer none]) :
    wpAny Tryd.prog .any ops8 Q 5 #[true, true, true, false, false, true, true, true, true, false, false, true, false] ⟨frB x n (.pointer (some ⟨bp, 0, none⟩)) (.int .i64 n) (.slice (some ⟨b1, 0, none⟩) n n) undef undef (.slice (some ⟨b6, 0, none⟩) n n) (.slice (some ⟨b8, 0, none⟩) n n) undef undef, []⟩ w := by
  unfold frB
  change wpAny _ _ #[_, _, _, _, _, _, _, _, _, _, _, _, _] _ _ _ _ _
  have m1 := mkSp hn
  have m3 := mkIs hn
  have m6 := mkBo hn
  have m8 := mkIn hn
  refine wpAny_ready (rs := [3]) (by kernel_rfl) (by simp) ?_
  refine AllReady.cons rfl (fun K hKK => ?_) ?_
  · go_simp
    refine hKK _ _ ?_
    clear hKK K
    refine wpAny_take (i := 4) (v := ?_) rfl (by kernel_rfl) (by kernel_rfl) (by kernel_rfl) (fun _ _ _ h => hQp _ _ _ _ h) (Or.inl ⟨by rfl, ?_⟩) ?_
    rotate_left
    · (intro w'; go_simp <;> with_reducible rfl)
    refine wpAny_take (i := 9) (v := ?_) rfl (by kernel_rfl) (by kernel_rfl) (by kernel_rfl) (fun _ _ _ h => hQp _ _ _ _ h) (Or.inl ⟨by rfl, ?_⟩) ?_
    rotate_left
    · (intro w'; go_simp <;> with_reducible rfl)
    exact mk_abcdp hn hQp hK b1 w.heap.size b6 b8 bp _ (below_alloc hB _) (f1.alloc _) (AtB.new hB _ _) (f6.alloc _) (f8.alloc _) (f11.alloc _)
  exact AllReady.nil
theorem mk_bcdp (hn : n ≤ 1024) (hQp : PanK Q) (hK : MkK n w0 Q x) (b3 b6 b8 bp : Nat) (w : World) (hB : Below w0.heap.size w0 w) (f3 : AtB w0 w b3 44 (madeCells #[.slice none 0 0] n)) (f6 : AtB w0 w b6 4 (madeCells #[.bool false] n)) (f8 : AtB w0 w b8 3 (madeCells #[.int .i64 0] n)) (f11 : AtB w0 w bp 66 #[.pointer none]) :
    wpAny Tryd.prog .any ops8 Q 5 #[true, false, true, true, false, true, true, true, true, false, false, true, false] ⟨frB x n (.pointer (some ⟨bp, 0, none⟩)) (.int .i64 n) undef (.slice (some ⟨b3, 0, none⟩) n n) undef (.slice (some ⟨b6, 0, none⟩) n n) (.slice (some ⟨b8, 0, none⟩) n n) undef undef, []⟩ w := by
  unfold frB
  change wpAny _ _ #[_, _, _, _, _, _, _, _, _, _, _, _, _] _ _ _ _ _
  have m1 := mkSp hn
  have m3 := mkIs hn
  have m6 := mkBo hn
  have m8 := mkIn hn
  refine wpAny_ready (rs := [1]) (by kernel_rfl) (by simp) ?_
  refine AllReady.cons rfl (fun K hKK => ?_) ?_
  · go_simp
    refine hKK _ _ ?_
    clear hKK K
    refine wpAny_take (i := 4) (v := ?_) rfl (by kernel_rfl) (by kernel_rfl) (by kernel_rfl) (fun _ _ _ h => hQp _ _ _ _ h) (Or.inl ⟨by rfl, ?_⟩) ?_
    rotate_left
    · (intro w'; go_simp <;> with_reducible rfl)
    refine wpAny_take (i := 9) (v := ?_) rfl (by kernel_rfl) (by kernel_rfl) (by kernel_rfl) (fun _ _ _ h => hQp _ _ _ _ h) (Or.inl ⟨by rfl, ?_⟩) ?_
    rotate_left
    · (intro w'; go_simp <;> with_reducible rfl)
    exact mk_abcdp hn hQp hK w.heap.size b3 b6 b8 bp _ (below_alloc hB _) (AtB.new hB _ _) (f3.alloc _) (f6.alloc _) (f8.alloc _) (f11.alloc _)
  exact AllReady.nil
theorem mk_abc (hn : n ≤ 1024) (hQp : PanK Q) (hK : MkK n w0 Q x) (b1 b3 b6 : Nat) (w : World) (hB : Below w0.heap.size w0 w) (f1 : AtB w0 w b1 26 (madeCells #[.slice none 0 0] n)) (f3 : AtB w0 w b3 44 (madeCells #[.slice none 0 0] n)) (f6 : AtB w0 w b6 4 (madeCells #[.bool false] n)) :
    wpAny Tryd.prog .any ops8 Q 5 #[true, true, true, true, true, true, true, true, false, false, false, false, false] ⟨frB x n undef (.int .i64 n) (.slice (some ⟨b1, 0, none⟩) n n) (.slice (some ⟨b3, 0, none⟩) n n) (.agg #[.slice (some ⟨b1, 0, none⟩) n n, .slice (some ⟨b3, 0, none⟩) n n]) (.slice (some ⟨b6, 0, none⟩) n n) undef undef undef, []⟩ w := by
  unfold frB
  change wpAny _ _ #[_, _, _, _, _, _, _, _, _, _, _, _, _] _ _ _ _ _
  have m1 := mkSp hn
  have m3 := mkIs hn
  have m6 := mkBo hn
  have m8 := mkIn hn
  refine wpAny_ready (rs := [8, 11]) (by kernel_rfl) (by simp) ?_
  refine AllReady.cons rfl (fun K hKK => ?_) ?_
  · go_simp
    refine hKK _ _ ?_
    clear hKK K
    refine wpAny_take (i := 9) (v := ?_) rfl (by kernel_rfl) (by kernel_rfl) (by kernel_rfl) (fun _ _ _ h => hQp _ _ _ _ h) (Or.inl ⟨by rfl, ?_⟩) ?_
    rotate_left
    · (intro w'; go_simp <;> with_reducible rfl)
    exact mk_abcd hn hQp hK b1 b3 b6 w.heap.size _ (below_alloc hB _) (f1.alloc _) (f3.alloc _) (f6.alloc _) (AtB.new hB _ _)
  refine AllReady.cons rfl (fun K hKK => ?_) ?_
  · go_simp
    refine hKK _ _ ?_
    clear hKK K
    exact mk_abcp hn hQp hK b1 b3 b6 w.heap.size _ (below_alloc hB _) (f1.alloc _) (f3.alloc _) (f6.alloc _) (AtB.new hB _ _)
  exact AllReady.nil
theorem mk_abd (hn : n ≤ 1024) (hQp : PanK Q) (hK : MkK n w0 Q x) (b1 b3 b8 : Nat) (w : World) (hB : Below w0.heap.size w0 w) (f1 : AtB w0 w b1 26 (madeCells #[.slice none 0 0] n)) (f3 : AtB w0 w b3 44 (madeCells #[.slice none 0 0] n)) (f8 : AtB w0 w b8 3 (madeCells #[.int .i64 0] n)) :
    wpAny Tryd.prog .any ops8 Q 5 #[true, true, true, true, true, true, false, true, true, false, false, false, false] ⟨frB x n undef (.int .i64 n) (.slice (some ⟨b1, 0, none⟩) n n) (.slice (some ⟨b3, 0, none⟩) n n) (.agg #[.slice (some ⟨b1, 0, none⟩) n n, .slice (some ⟨b3, 0, none⟩) n n]) undef (.slice (some ⟨b8, 0, none⟩) n n) undef undef, []⟩ w := by
  unfold frB
  change wpAny _ _ #[_, _, _, _, _, _, _, _, _, _, _, _, _] _ _ _ _ _
  have m1 := mkSp hn
  have m3 := mkIs hn
  have m6 := mkBo hn
  have m8 := mkIn hn
  refine wpAny_ready (rs := [6, 11]) (by kernel_rfl) (by simp) ?_
  refine AllReady.cons rfl (fun K hKK => ?_) ?_
  · go_simp
    refine hKK _ _ ?_
    clear hKK K
    refine wpAny_take (i := 9) (v := ?_) rfl (by kernel_rfl) (by kernel_rfl) (by kernel_rfl) (fun _ _ _ h => hQp _ _ _ _ h) (Or.inl ⟨by rfl, ?_⟩) ?_
    rotate_left
    · (intro w'; go_simp <;> with_reducible rfl)
    exact mk_abcd hn hQp hK b1 b3 w.heap.size b8 _ (below_alloc hB _) (f1.alloc _) (f3.alloc _) (AtB.new hB _ _) (f8.alloc _)
  refine AllReady.cons rfl (fun K hKK => ?_) ?_
  · go_simp
    refine hKK _ _ ?_
    clear hKK K
    exact mk_abdp hn hQp hK b1 b3 b8 w.heap.size _ (below_alloc hB _) (f1.alloc _) (f3.alloc _) (f8.alloc _) (AtB.new hB _ _)
  exact AllReady.nil
theorem mk_abp (hn : n ≤ 1024) (hQp : PanK Q) (hK : MkK n w0 Q x) (b1 b3 bp : Nat) (w : World) (hB : Below w0.heap.size w0 w) (f1 : AtB w0 w b1 26 (madeCells #[.slice none 0 0] n)) (f3 : AtB w0 w b3 44 (madeCells #[.slice none 0 0] n)) (f11 : AtB w0 w bp 66 #[.pointer none]) :
    wpAny Tryd.prog .any ops8 Q 5 #[true, true, true, true, true, true, false, true, false, false, false, true, false] ⟨frB x n (.pointer (some ⟨bp, 0, none⟩)) (.int .i64 n) (.slice (some ⟨b1, 0, none⟩) n n) (.slice (some ⟨b3, 0, none⟩) n n) (.agg #[.slice (some ⟨b1, 0, none⟩) n n, .slice (some ⟨b3, 0, none⟩) n n]) undef undef undef undef, []⟩ w := by
  unfold frB
  change wpAny _ _ #[_, _, _, _, _, _, _, _, _, _, _, _, _] _ _ _ _ _
  have m1 := mkSp hn
  have m3 := mkIs hn
  have m6 := mkBo hn
  have m8 := mkIn hn
  refine wpAny_ready (rs := [6, 8]) (by kernel_rfl) (by simp) ?_
  refine AllReady.cons rfl (fun K hKK => ?_) ?_
  · go_simp
    refine hKK _ _ ?_
    clear hKK K
    exact mk_abcp hn hQp hK b1 b3 w.heap.size bp _ (below_alloc hB _) (f1.alloc _) (f3.alloc _) (AtB.new hB _ _) (f11.alloc _)
  refine AllReady.cons rfl (fun K hKK => ?_) ?_
  · go_simp
    refine hKK _ _ ?_
    clear hKK K
    exact mk_abdp hn hQp hK b1 b3 w.heap.size bp _ (below_alloc hB _) (f1.alloc _) (f3.alloc _) (AtB.new hB _ _) (f11.alloc _)
  exact AllReady.nil
theorem mk_acd (hn : n ≤ 1024) (hQp : PanK Q) (hK : MkK n w0 Q x) (b1 b6 b8 : Nat) (w : World) (hB : Below w0.heap.size w0 w) (f1 : AtB w0 w b1 26 (madeCells #[.slice none 0 0] n)) (f6 : AtB w0 w b6 4 (madeCells #[.bool false] n)) (f8 : AtB w0 w b8 3 (madeCells #[.int .i64 0] n)) :
    wpAny Tryd.prog .any ops8 Q 6 #[true, true, true, false, false, true, true, true, true, false, false, false, false] ⟨frB x n undef (.int .i64 n) (.slice (some ⟨b1, 0, none⟩) n n) undef undef (.slice (some ⟨b6, 0, none⟩) n n) (.slice (some ⟨b8, 0, none⟩) n n) undef undef, []⟩ w := by
  unfold frB
  change wpAny _ _ #[_, _, _, _, _, _, _, _, _, _, _, _, _] _ _ _ _ _
  have m1 := mkSp hn
  have m3 := mkIs hn
  have m6 := mkBo hn
  have m8 := mkIn hn
  refine wpAny_ready (rs := [3, 11]) (by kernel_rfl) (by simp) ?_
  refine AllReady.cons rfl (fun K hKK => ?_) ?_
  · go_simp
    refine hKK _ _ ?_
    clear hKK K
    refine wpAny_take (i := 4) (v := ?_) rfl (by kernel_rfl) (by kernel_rfl) (by kernel_rfl) (fun _ _ _ h => hQp _ _ _ _ h) (Or.inl ⟨by rfl, ?_⟩) ?_
    rotate_left
    · (intro w'; go_simp <;> with_reducible rfl)
    refine wpAny_take (i := 9) (v := ?_) rfl (by kernel_rfl) (by kernel_rfl) (by kernel_rfl) (fun _ _ _ h => hQp _ _ _ _ h) (Or.inl ⟨by rfl, ?_⟩) ?_
    rotate_left
    · (intro w'; go_simp <;> with_reducible rfl)
    exact mk_abcd hn hQp hK b1 w.heap.size b6 b8 _ (below_alloc hB _) (f1.alloc _) (AtB.new hB _ _) (f6.alloc _) (f8.alloc _)
  refine AllReady.cons rfl (fun K hKK => ?_) ?_
  · go_simp
    refine hKK _ _ ?_
    clear hKK K
    exact mk_acdp hn hQp hK b1 b6 b8 w.heap.size _ (below_alloc hB _) (f1.alloc _) (f6.alloc _) (f8.alloc _) (AtB.new hB _ _)
  exact AllReady.nil
theorem mk_acp (hn : n ≤ 1024) (hQp : PanK Q) (hK : MkK n w0 Q x) (b1 b6 bp : Nat) (w : World) (hB : Below w0.heap.size w0 w) (f1 : AtB w0 w b1 26 (madeCells #[.slice none 0 0] n)) (f6 : AtB w0 w b6 4 (madeCells #[.bool false] n)) (f11 : AtB w0 w bp 66 #[.pointer none]) :
    wpAny Tryd.prog .any ops8 Q 6 #[true, true, true, false, false, true, true, true, false, false, false, true, false] ⟨frB x n (.pointer (some ⟨bp, 0, none⟩)) (.int .i64 n) (.slice (some ⟨b1, 0, none⟩) n n) undef undef (.slice (some ⟨b6, 0, none⟩) n n) undef undef undef, []⟩ w := by
  unfold frB
  change wpAny _ _ #[_, _, _, _, _, _, _, _, _, _, _, _, _] _ _ _ _ _
  have m1 := mkSp hn
  have m3 := mkIs hn
  have m6 := mkBo hn
  have m8 := mkIn hn
  refine wpAny_ready (rs := [3, 8]) (by kernel_rfl) (by simp) ?_
  refine AllReady.cons rfl (fun K hKK => ?_) ?_
  · go_simp
    refine hKK _ _ ?_
    clear hKK K
    refine wpAny_take (i := 4) (v := ?_) rfl (by kernel_rfl) (by kernel_rfl) (by kernel_rfl) (fun _ _ _ h => hQp _ _ _ _ h) (Or.inl ⟨by rfl, ?_⟩) ?_
    rotate_left
    · (intro w'; go_simp <;> with_reducible rfl)
    exact mk_abcp hn hQp hK b1 w.heap.size b6 bp _ (below_alloc hB _) (f1.alloc _) (AtB.new hB _ _) (f6.alloc _) (f11.alloc _)
  refine AllReady.cons rfl (fun K hKK => ?_) ?_
  · go_simp
    refine hKK _ _ ?_
    clear hKK K
    exact mk_acdp hn hQp hK b1 b6 w.heap.size bp _ (below_alloc hB _) (f1.alloc _) (f6.alloc _) (AtB.new hB _ _) (f11.alloc _)
  exact AllReady.nil
theorem mk_adp (hn : n ≤ 1024) (hQp : PanK Q) (hK : MkK n w0 Q x) (b1 b8 bp : Nat) (w : World) (hB : Below w0.heap.size w0 w) (f1 : AtB w0 w b1 26 (madeCells #[.slice none 0 0] n)) (f8 : AtB w0 w b8 3 (madeCells #[.int .i64 0] n)) (f11 : AtB w0 w bp 66 #[.pointer none]) :
    wpAny Tryd.prog .any ops8 Q 6 #[true, true, true, false, false, true, false, true, true, false, false, true, false] ⟨frB x n (.pointer (some ⟨bp, 0, none⟩)) (.int .i64 n) (.slice (some ⟨b1, 0, none⟩) n n) undef undef undef (.slice (some ⟨b8, 0, none⟩) n n) undef undef, []⟩ w := by
  unfold frB
  change wpAny _ _ #[_, _, _, _, _, _, _, _, _, _, _, _, _] _ _ _ _ _
  have m1 := mkSp hn
  have m3 := mkIs hn
  have m6 := mkBo hn
  have m8 := mkIn hn
  refine wpAny_ready (rs := [3, 6]) (by kernel_rfl) (by simp) ?_
  refine AllReady.cons rfl (fun K hKK => ?_) ?_
  · go_simp
    refine hKK _ _ ?_
    clear hKK K
    refine wpAny_take (i := 4) (v := ?_) rfl (by kernel_rfl) (by kernel_rfl) (by kernel_rfl) (fun _ _ _ h => hQp _ _ _ _ h) (Or.inl ⟨by rfl, ?_⟩) ?_
    rotate_left
    · (intro w'; go_simp <;> with_reducible rfl)
    exact mk_abdp hn hQp hK b1 w.heap.size b8 bp _ (below_alloc hB _) (f1.alloc _) (AtB.new hB _ _) (f8.alloc _) (f11.alloc _)
  refine AllReady.cons rfl (fun K hKK => ?_) ?_
  · go_simp
    refine hKK _ _ ?_
    clear hKK K
    exact mk_acdp hn hQp hK b1 w.heap.size b8 bp _ (below_alloc hB _) (f1.alloc _) (AtB.new hB _ _) (f8.alloc _) (f11.alloc _)
  exact AllReady.nil
theorem mk_bcd (hn : n ≤ 1024) (hQp : PanK Q) (hK : MkK n w0 Q x) (b3 b6 b8 : Nat) (w : World) (hB : Below w0.heap.size w0 w) (f3 : AtB w0 w b3 44 (madeCells #[.slice none 0 0] n)) (f6 : AtB w0 w b6 4 (madeCells #[.bool false] n)) (f8 : AtB w0 w b8 3 (madeCells #[.int .i64 0] n)) :
    wpAny Tryd.prog .any ops8 Q 6 #[true, false, true, true, false, true, true, true, true, false, false, false, false] ⟨frB x n undef (.int .i64 n) undef (.slice (some ⟨b3, 0, none⟩) n n) undef (.slice (some ⟨b6, 0, none⟩) n n) (.slice (some ⟨b8, 0, none⟩) n n) undef undef, []⟩ w := by
  unfold frB
  change wpAny _ _ #[_, _, _, _, _, _, _, _, _, _, _, _, _] _ _ _ _ _
  have m1 := mkSp hn
  have m3 := mkIs hn
  have m6 := mkBo hn
  have m8 := mkIn hn
  refine wpAny_ready (rs := [1, 11]) (by kernel_rfl) (by simp) ?_
  refine AllReady.cons rfl (fun K hKK => ?_) ?_
  · go_simp
    refine hKK _ _ ?_
    clear hKK K
    refine wpAny_take (i := 4) (v := ?_) rfl (by kernel_rfl) (by kernel_rfl) (by kernel_rfl) (fun _ _ _ h => hQp _ _ _ _ h) (Or.inl ⟨by rfl, ?_⟩) ?_
    rotate_left
    · (intro w'; go_simp <;> with_reducible rfl)
    refine wpAny_take (i := 9) (v := ?_) rfl (by kernel_rfl) (by kernel_rfl) (by kernel_rfl) (fun _ _ _ h => hQp _ _ _ _ h) (Or.inl ⟨by rfl, ?_⟩) ?_
    rotate_left
    · (intro w'; go_simp <;> with_reducible rfl)
    exact mk_abcd hn hQp hK w.heap.size b3 b6 b8 _ (below_alloc hB _) (AtB.new hB _ _) (f3.alloc _) (f6.alloc _) (f8.alloc _)
  refine AllReady.cons rfl (fun K hKK => ?_) ?_
  · go_simp
    refine hKK _ _ ?_
    clear hKK K
    exact mk_bcdp hn hQp hK b3 b6 b8 w.heap.size _ (below_alloc hB _) (f3.alloc _) (f6.alloc _) (f8.alloc _) (AtB.new hB _ _)
  exact AllReady.nil
theorem mk_bcp (hn : n ≤ 1024) (hQp : PanK Q) (hK : MkK n w0 Q x) (b3 b6 bp : Nat) (w : World) (hB : Below w0.heap.size w0 w) (f3 : AtB w0 w b3 44 (madeCells #[.slice none 0 0] n)) (f6 : AtB w0 w b6 4 (madeCells #[.bool false] n)) (f11 : AtB w0 w bp 66 #[.pointer none]) :
    wpAny Tryd.prog .any ops8 Q 6 #[true, false, true, true, false, true, true, true, false, false, false, true, false] ⟨frB x n (.pointer (some ⟨bp, 0, none⟩)) (.int .i64 n) undef (.slice (some ⟨b3, 0, none⟩) n n) undef (.slice (some ⟨b6, 0, none⟩) n n) undef undef undef, []⟩ w := by
  unfold frB
  change wpAny _ _ #[_, _, _, _, _, _, _, _, _, _, _, _, _] _ _ _ _ _
  have m1 := mkSp hn
  have m3 := mkIs hn
  have m6 := mkBo hn
  have m8 := mkIn hn
  refine wpAny_ready (rs := [1, 8]) (by kernel_rfl) (by simp) ?_
  refine AllReady.cons rfl (fun K hKK => ?_) ?_
  · go_simp
    refine hKK _ _ ?_
    clear hKK K
    refine wpAny_take (i := 4) (v := ?_) rfl (by kernel_rfl) (by kernel_rfl) (by kernel_rfl) (fun _ _ _ h => hQp _ _ _ _ h) (Or.inl ⟨by rfl, ?_⟩) ?_
    rotate_left
    · (intro w'; go_simp <;> with_reducible rfl)
    exact mk_abcp hn hQp hK w.heap.size b3 b6 bp _ (below_alloc hB _) (AtB.new hB _ _) (f3.alloc _) (f6.alloc _) (f11.alloc _)
  refine AllReady.cons rfl (fun K hKK => ?_) ?_
  · go_simp
    refine hKK _ _ ?_
    clear hKK K
    exact mk_bcdp hn hQp hK b3 b6 w.heap.size bp _ (below_alloc hB _) (f3.alloc _) (f6.alloc _) (AtB.new hB _ _) (f11.alloc _)
  exact AllReady.nil
theorem mk_bdp (hn : n ≤ 1024) (hQp : PanK Q) (hK : MkK n w0 Q x) (b3 b8 bp : Nat) (w : World) (hB : Below w0.heap.size w0 w) (f3 : AtB w0 w b3 44 (madeCells #[.slice none 0 0] n)) (f8 : AtB w0 w b8 3 (madeCells #[.int .i64 0] n)) (f11 : AtB w0 w bp 66 #[.pointer none]) :
    wpAny Tryd.prog .any ops8 Q 6 #[true, false, true, true, false, true, false, true, true, false, false, true, false] ⟨frB x n (.pointer (some ⟨bp, 0, none⟩)) (.int .i64 n) undef (.slice (some ⟨b3, 0, none⟩) n n) undef undef (.slice (some ⟨b8, 0, none⟩) n n) undef undef, []⟩ w := by
  unfold frB
  change wpAny _ _ #[_, _, _, _, _, _, _, _, _, _, _, _, _] _ _ _ _ _
  have m1 := mkSp hn
  have m3 := mkIs hn
  have m6 := mkBo hn
  have m8 := mkIn hn
  refine wpAny_ready (rs := [1, 6]) (by kernel_rfl) (by simp) ?_
  refine AllReady.cons rfl (fun K hKK => ?_) ?_
  · go_simp
    refine hKK _ _ ?_
    clear hKK K
    refine wpAny_take (i := 4) (v := ?_) rfl (by kernel_rfl) (by kernel_rfl) (by kernel_rfl) (fun _ _ _ h => hQp _ _ _ _ h) (Or.inl ⟨by rfl, ?_⟩) ?_
    rotate_left
    · (intro w'; go_simp <;> with_reducible rfl)
    exact mk_abdp hn hQp hK w.heap.size b3 b8 bp _ (below_alloc hB _) (AtB.new hB _ _) (f3.alloc _) (f8.alloc _) (f11.alloc _)
  refine AllReady.cons rfl (fun K hKK => ?_) ?_
  · go_simp
    refine hKK _ _ ?_
    clear hKK K
    exact mk_bcdp hn hQp hK b3 w.heap.size b8 bp _ (below_alloc hB _) (f3.alloc _) (AtB.new hB _ _) (f8.alloc _) (f11.alloc _)
  exact AllReady.nil
theorem mk_cdp (hn : n ≤ 1024) (hQp : PanK Q) (hK : MkK n w0 Q x) (b6 b8 bp : Nat) (w : World) (hB : Below w0.heap.size w0 w) (f6 : AtB w0 w b6 4 (madeCells #[.bool false] n)) (f8 : AtB w0 w b8 3 (madeCells #[.int .i64 0] n)) (f11 : AtB w0 w bp 66 #[.pointer none]) :
    wpAny Tryd.prog .any ops8 Q 6 #[true, false, true, false, false, true, true, true, true, false, false, true, false] ⟨frB x n (.pointer (some ⟨bp, 0, none⟩)) (.int .i64 n) undef undef undef (.slice (some ⟨b6, 0, none⟩) n n) (.slice (some ⟨b8, 0, none⟩) n n) undef undef, []⟩ w := by
  unfold frB
  change wpAny _ _ #[_, _, _, _, _, _, _, _, _, _, _, _, _] _ _ _ _ _
  have m1 := mkSp hn
  have m3 := mkIs hn
  have m6 := mkBo hn
  have m8 := mkIn hn
  refine wpAny_ready (rs := [1, 3]) (by kernel_rfl) (by simp) ?_
  refine AllReady.cons rfl (fun K hKK => ?_) ?_
  · go_simp
    refine hKK _ _ ?_
    clear hKK K
    exact mk_acdp hn hQp hK w.heap.size b6 b8 bp _ (below_alloc hB _) (AtB.new hB _ _) (f6.alloc _) (f8.alloc _) (f11.alloc _)
  refine AllReady.cons rfl (fun K hKK => ?_) ?_
  · go_simp
    refine hKK _ _ ?_
    clear hKK K
    exact mk_bcdp hn hQp hK w.heap.size b6 b8 bp _ (below_alloc hB _) (AtB.new hB _ _) (f6.alloc _) (f8.alloc _) (f11.alloc _)
  exact AllReady.nil
theorem mk_ab (hn : n ≤ 1024) (hQp : PanK Q) (hK : MkK n w0 Q x) (b1 b3 : Nat) (w : World) (hB : Below w0.heap.size w0 w) (f1 : AtB w0 w b1 26 (madeCells #[.slice none 0 0] n)) (f3 : AtB w0 w b3 44 (madeCells #[.slice none 0 0] n)) :
    wpAny Tryd.prog .any ops8 Q 6 #[true, true, true, true, true, true, false, true, false, false, false, false, false] ⟨frB x n undef (.int .i64 n) (.slice (some ⟨b1, 0, none⟩) n n) (.slice (some ⟨b3, 0, none⟩) n n) (.agg #[.slice (some ⟨b1, 0, none⟩) n n, .slice (some ⟨b3, 0, none⟩) n n]) undef undef undef undef, []⟩ w := by
  unfold frB
  change wpAny _ _ #[_, _, _, _, _, _, _, _, _, _, _, _, _] _ _ _ _ _
  have m1 := mkSp hn
  have m3 := mkIs hn
  have m6 := mkBo hn
  have m8 := mkIn hn
  refine wpAny_ready (rs := [6, 8, 11]) (by kernel_rfl) (by simp) ?_
  refine AllReady.cons rfl (fun K hKK => ?_) ?_
  · go_simp
    refine hKK _ _ ?_
    clear hKK K
    exact mk_abc hn hQp hK b1 b3 w.heap.size _ (below_alloc hB _) (f1.alloc _) (f3.alloc _) (AtB.new hB _ _)
  refine AllReady.cons rfl (fun K hKK => ?_) ?_
  · go_simp
    refine hKK _ _ ?_
    clear hKK K
    exact mk_abd hn hQp hK b1 b3 w.heap.size _ (below_alloc hB _) (f1.alloc _) (f3.alloc _) (AtB.new hB _ _)
  refine AllReady.cons rfl (fun K hKK => ?_) ?_
  · go_simp
    refine hKK _ _ ?_
    clear hKK K
    exact mk_abp hn hQp hK b1 b3 w.heap.size _ (below_alloc hB _) (f1.alloc _) (f3.alloc _) (AtB.new hB _ _)
  exact AllReady.nil
theorem mk_ac (hn : n ≤ 1024) (hQp : PanK Q) (hK : MkK n w0 Q x) (b1 b6 : Nat) (w : World) (hB : Below w0.heap.size w0 w) (f1 : AtB w0 w b1 26 (madeCells #[.slice none 0 0] n)) (f6 : AtB w0 w b6 4 (madeCells #[.bool false] n)) :
    wpAny Tryd.prog .any ops8 Q 7 #[true, true, true, false, false, true, true, true, false, false, false, false, false] ⟨frB x n undef (.int .i64 n) (.slice (some ⟨b1, 0, none⟩) n n) undef undef (.slice (some ⟨b6, 0, none⟩) n n) undef undef undef, []⟩ w := by
  unfold frB
  change wpAny _ _ #[_, _, _, _, _, _, _, _, _, _, _, _, _] _ _ _ _ _
  have m1 := mkSp hn
  have m3 := mkIs hn
  have m6 := mkBo hn
  have m8 := mkIn hn
  refine wpAny_ready (rs := [3, 8, 11]) (by kernel_rfl) (by simp) ?_
  refine AllReady.cons rfl (fun K hKK => ?_) ?_
  · go_simp
    refine hKK _ _ ?_
    clear hKK K
    refine wpAny_take (i := 4) (v := ?_) rfl (by kernel_rfl) (by kernel_rfl) (by kernel_rfl) (fun _ _ _ h => hQp _ _ _ _ h) (Or.inl ⟨by rfl, ?_⟩) ?_
    rotate_left
    · (intro w'; go_simp <;> with_reducible rfl)
    exact mk_abc hn hQp hK b1 w.heap.size b6 _ (below_alloc hB _) (f1.alloc _) (AtB.new hB _ _) (f6.alloc _)
  refine AllReady.cons rfl (fun K hKK => ?_) ?_
  · go_simp
    refine hKK _ _ ?_
    clear hKK K
    exact mk_acd hn hQp hK b1 b6 w.heap.size _ (below_alloc hB _) (f1.alloc _) (f6.alloc _) (AtB.new hB _ _)
  refine AllReady.cons rfl (fun K hKK => ?_) ?_
  · go_simp
    refine hKK _ _ ?_
    clear hKK K
    exact mk_acp hn hQp hK b1 b6 w.heap.size _ (below_alloc hB _) (f1.alloc _) (f6.alloc _) (AtB.new hB _ _)
  exact AllReady.nil
theorem mk_ad (hn : n ≤ 1024) (hQp : PanK Q) (hK : MkK n w0 Q x) (b1 b8 : Nat) (w : World) (hB : Below w0.heap.size w0 w) (f1 : AtB w0 w b1 26 (madeCells #[.slice none 0 0] n)) (f8 : AtB w0 w b8 3 (madeCells #[.int .i64 0] n)) :
    wpAny Tryd.prog .any ops8 Q 7 #[true, true, true, false, false, true, false, true, true, false, false, false, false] ⟨frB x n undef (.int .i64 n) (.slice (some ⟨b1, 0, none⟩) n n) undef undef undef (.slice (some ⟨b8, 0, none⟩) n n) undef undef, []⟩ w := by
  unfold frB
  change wpAny _ _ #[_, _, _, _, _, _, _, _, _, _, _, _, _] _ _ _ _ _
  have m1 := mkSp hn
  have m3 := mkIs hn
  have m6 := mkBo hn
  have m8 := mkIn hn
  refine wpAny_ready (rs := [3, 6, 11]) (by kernel_rfl) (by simp) ?_
  refine AllReady.cons rfl (fun K hKK => ?_) ?_
  · go_simp
    refine hKK _ _ ?_
    clear hKK K
    refine wpAny_take (i := 4) (v := ?_) rfl (by kernel_rfl) (by kernel_rfl) (by kernel_rfl) (fun _ _ _ h => hQp _ _ _ _ h) (Or.inl ⟨by rfl, ?_⟩) ?_
    rotate_left
    · (intro w'; go_simp <;> with_reducible rfl)
    exact mk_abd hn hQp hK b1 w.heap.size b8 _ (below_alloc hB _) (f1.alloc _) (AtB.new hB _ _) (f8.alloc _)
  refine AllReady.cons rfl (fun K hKK => ?_) ?_
  · go_simp
    refine hKK _ _ ?_
    clear hKK K
    exact mk_acd hn hQp hK b1 w.heap.size b8 _ (below_alloc hB _) (f1.alloc _) (AtB.new hB _ _) (f8.alloc _)
  refine AllReady.cons rfl (fun K hKK => ?_) ?_
  · go_simp
    refine hKK _ _ ?_
    clear hKK K
    exact mk_adp hn hQp hK b1 b8 w.heap.size _ (below_alloc hB _) (f1.alloc _) (f8.alloc _) (AtB.new hB _ _)
  exact AllReady.nil
theorem mk_ap (hn : n ≤ 1024) (hQp : PanK Q) (hK : MkK n w0 Q x) (b1 bp : Nat) (w : World) (hB : Below w0.heap.size w0 w) (f1 : AtB w0 w b1 26 (madeCells #[.slice none 0 0] n)) (f11 : AtB w0 w bp 66 #[.pointer none]) :
    wpAny Tryd.prog .any ops8 Q 7 #[true, true, true, false, false, true, false, true, false, false, false, true, false] ⟨frB x n (.pointer (some ⟨bp, 0, none⟩)) (.int .i64 n) (.slice (some ⟨b1, 0, none⟩) n n) undef undef undef undef undef undef, []⟩ w := by
  unfold frB
  change wpAny _ _ #[_, _, _, _, _, _, _, _, _, _, _, _, _] _ _ _ _ _
  have m1 := mkSp hn
  have m3 := mkIs hn
  have m6 := mkBo hn
  have m8 := mkIn hn
  refine wpAny_ready (rs := [3, 6, 8]) (by kernel_rfl) (by simp) ?_
  refine AllReady.cons rfl (fun K hKK => ?_) ?_
  · go_simp
    refine hKK _ _ ?_
    clear hKK K
    refine wpAny_take (i := 4) (v := ?_) rfl (by kernel_rfl) (by kernel_rfl) (by kernel_rfl) (fun _ _ _ h => hQp _ _ _ _ h) (Or.inl ⟨by rfl, ?_⟩) ?_
    rotate_left
    · (intro w'; go_simp <;> with_reducible rfl)
    exact mk_abp hn hQp hK b1 w.heap.size bp _ (below_alloc hB _) (f1.alloc _) (AtB.new hB _ _) (f11.alloc _)
  refine AllReady.cons rfl (fun K hKK => ?_) ?_
  · go_simp
    refine hKK _ _ ?_
    clear hKK K
    exact mk_acp hn hQp hK b1 w.heap.size bp _ (below_alloc hB _) (f1.alloc _) (AtB.new hB _ _) (f11.alloc _)
  refine AllReady.cons rfl (fun K hKK => ?_) ?_
  · go_simp
    refine hKK _ _ ?_
    clear hKK K
    exact mk_adp hn hQp hK b1 w.heap.size bp _ (below_alloc hB _) (f1.alloc _) (AtB.new hB _ _) (f11.alloc _)
  exact AllReady.nil
theorem mk_bc (hn : n ≤ 1024) (hQp : PanK Q) (hK : MkK n w0 Q x) (b3 b6 : Nat) (w : World) (hB : Below w0.heap.size w0 w) (f3 : AtB w0 w b3 44 (madeCells #[.slice none 0 0] n)) (f6 : AtB w0 w b6 4 (madeCells #[.bool false] n)) :
    wpAny Tryd.prog .any ops8 Q 7 #[true, false, true, true, false, true, true, true, false, false, false, false, false] ⟨frB x n undef (.int .i64 n) undef (.slice (some ⟨b3, 0, none⟩) n n) undef (.slice (some ⟨b6, 0, none⟩) n n) undef undef undef, []⟩ w := by
  unfold frB
  change wpAny _ _ #[_, _, _, _, _, _, _, _, _, _, _, _, _] _ _ _ _ _
  have m1 := mkSp hn
  have m3 := mkIs hn
  have m6 := mkBo hn
  have m8 := mkIn hn
  refine wpAny_ready (rs := [1, 8, 11]) (by kernel_rfl) (by simp) ?_
  refine AllReady.cons rfl (fun K hKK => ?_) ?_
  · go_simp
    refine hKK _ _ ?_
    clear hKK K
    refine wpAny_take (i := 4) (v := ?_) rfl (by kernel_rfl) (by kernel_rfl) (by kernel_rfl) (fun _ _ _ h => hQp _ _ _ _ h) (Or.inl ⟨by rfl, ?_⟩) ?_
    rotate_left
    · (intro w'; go_simp <;> with_reducible rfl)
    exact mk_abc hn hQp hK w.heap.size b3 b6 _ (below_alloc hB _) (AtB.new hB _ _) (f3.alloc _) (f6.alloc _)
  refine AllReady.cons rfl (fun K hKK => ?_) ?_
  · go_simp
    refine hKK _ _ ?_
    clear hKK K
    exact mk_bcd hn hQp hK b3 b6 w.heap.size _ (below_alloc hB _) (f3.alloc _) (f6.alloc _) (AtB.new hB _ _)
  refine AllReady.cons rfl (fun K hKK => ?_) ?_
  · go_simp
    refine hKK _ _ ?_
    clear hKK K
    exact mk_bcp hn hQp hK b3 b6 w.heap.size _ (below_alloc hB _) (f3.alloc _) (f6.alloc _) (AtB.new hB _ _)
  exact AllReady.nil
theorem mk_bd (hn : n ≤ 1024) (hQp : PanK Q) (hK : MkK n w0 Q x) (b3 b8 : Nat) (w : World) (hB : Below w0.heap.size w0 w) (f3 : AtB w0 w b3 44 (madeCells #[.slice none 0 0] n)) (f8 : AtB w0 w b8 3 (madeCells #[.int .i64 0] n)) :
    wpAny Tryd.prog .any ops8 Q 7 #[true, false, true, true, false, true, false, true, true, false, false, false, false] ⟨frB x n undef (.int .i64 n) undef (.slice (some ⟨b3, 0, none⟩) n n) undef undef (.slice (some ⟨b8, 0, none⟩) n n) undef undef, []⟩ w := by
  unfold frB
  change wpAny _ _ #[_, _, _, _, _, _, _, _, _, _, _, _, _] _ _ _ _ _
  have m1 := mkSp hn
  have m3 := mkIs hn
  have m6 := mkBo hn
  have m8 := mkIn hn
  refine wpAny_ready (rs := [1, 6, 11]) (by kernel_rfl) (by simp) ?_
  refine AllReady.cons rfl (fun K hKK => ?_) ?_
  · go_simp
    refine hKK _ _ ?_
    clear hKK K
    refine wpAny_take (i := 4) (v := ?_) rfl (by kernel_rfl) (by kernel_rfl) (by kernel_rfl) (fun _ _ _ h => hQp _ _ _ _ h) (Or.inl ⟨by rfl, ?_⟩) ?_
    rotate_left
    · (intro w'; go_simp <;> with_reducible rfl)
    exact mk_abd hn hQp hK w.heap.size b3 b8 _ (below_alloc hB _) (AtB.new hB _ _) (f3.alloc _) (f8.alloc _)
  refine AllReady.cons rfl (fun K hKK => ?_) ?_
  · go_simp
    refine hKK _ _ ?_
    clear hKK K
    exact mk_bcd hn hQp hK b3 w.heap.size b8 _ (below_alloc hB _) (f3.alloc _) (AtB.new hB _ _) (f8.alloc _)
  refine AllReady.cons rfl (fun K hKK => ?_) ?_
  · go_simp
    refine hKK _ _ ?_
    clear hKK K
    exact mk_bdp hn hQp hK b3 b8 w.heap.size _ (below_alloc hB _) (f3.alloc _) (f8.alloc _) (AtB.new hB _ _)
  exact AllReady.nil
theorem mk_bp (hn : n ≤ 1024) (hQp : PanK Q) (hK : MkK n w0 Q x) (b3 bp : Nat) (w : World) (hB : Below w0.heap.size w0 w) (f3 : AtB w0 w b3 44 (madeCells #[.slice none 0 0] n)) (f11 : AtB w0 w bp 66 #[.pointer none]) :
    wpAny Tryd.prog .any ops8 Q 7 #[true, false, true, true, false, true, false, true, false, false, false, true, false] ⟨frB x n (.pointer (some ⟨bp, 0, none⟩)) (.int .i64 n) undef (.slice (some ⟨b3, 0, none⟩) n n) undef undef undef undef undef, []⟩ w := by
  unfold frB
  change wpAny _ _ #[_, _, _, _, _, _, _, _, _, _, _, _, _] _ _ _ _ _
  have m1 := mkSp hn
  have m3 := mkIs hn
  have m6 := mkBo hn
  have m8 := mkIn hn
  refine wpAny_ready (rs := [1, 6, 8]) (by kernel_rfl) (by simp) ?_
  refine AllReady.cons rfl (fun K hKK => ?_) ?_
  · go_simp
    refine hKK _ _ ?_
    clear hKK K
    refine wpAny_take (i := 4) (v := ?_) rfl (by kernel_rfl) (by kernel_rfl) (by kernel_rfl) (fun _ _ _ h => hQp _ _ _ _ h) (Or.inl ⟨by rfl, ?_⟩) ?_
    rotate_left
    · (intro w'; go_simp <;> with_reducible rfl)
    exact mk_abp hn hQp hK w.heap.size b3 bp _ (below_alloc hB _) (AtB.new hB _ _) (f3.alloc _) (f11.alloc _)
  refine AllReady.cons rfl (fun K hKK => ?_) ?_
  · go_simp
    refine hKK _ _ ?_
    clear hKK K
    exact mk_bcp hn hQp hK b3 w.heap.size bp _ (below_alloc hB _) (f3.alloc _) (AtB.new hB _ _) (f11.alloc _)
  refine AllReady.cons rfl (fun K hKK => ?_) ?_
  · go_simp
    refine hKK _ _ ?_
    clear hKK K
    exact mk_bdp hn hQp hK b3 w.heap.size bp _ (below_alloc hB _) (f3.alloc _) (AtB.new hB _ _) (f11.alloc _)
  exact AllReady.nil
theorem mk_cd (hn : n ≤ 1024) (hQp : PanK Q) (hK : MkK n w0 Q x) (b6 b8 : Nat) (w : World) (hB : Below w0.heap.size w0 w) (f6 : AtB w0 w b6 4 (madeCells #[.bool false] n)) (f8 : AtB w0 w b8 3 (madeCells #[.int .i64 0] n)) :
    wpAny Tryd.prog .any ops8 Q 7 #[true, false, true, false, false, true, true, true, true, false, false, false, false] ⟨frB x n undef (.int .i64 n) undef undef undef (.slice (some ⟨b6, 0, none⟩) n n) (.slice (some ⟨b8, 0, none⟩) n n) undef undef, []⟩ w := by
  unfold frB
  change wpAny _ _ #[_, _, _, _, _, _, _, _, _, _, _, _, _] _ _ _ _ _
  have m1 := mkSp hn
  have m3 := mkIs hn
  have m6 := mkBo hn
  have m8 := mkIn hn
  refine wpAny_ready (rs := [1, 3, 11]) (by kernel_rfl) (by simp) ?_
  refine AllReady.cons rfl (fun K hKK => ?_) ?_
  · go_simp
    refine hKK _ _ ?_
    clear hKK K
    exact mk_acd hn hQp hK w.heap.size b6 b8 _ (below_alloc hB _) (AtB.new hB _ _) (f6.alloc _) (f8.alloc _)
  refine AllReady.cons rfl (fun K hKK => ?_) ?_
  · go_simp
    refine hKK _ _ ?_
    clear hKK K
    exact mk_bcd hn hQp hK w.heap.size b6 b8 _ (below_alloc hB _) (AtB.new hB _ _) (f6.alloc _) (f8.alloc _)
  refine AllReady.cons rfl (fun K hKK => ?_) ?_
  · go_simp
    refine hKK _ _ ?_
    clear hKK K
    exact mk_cdp hn hQp hK b6 b8 w.heap.size _ (below_alloc hB _) (f6.alloc _) (f8.alloc _) (AtB.new hB _ _)
  exact AllReady.nil
theorem mk_cp (hn : n ≤ 1024) (hQp : PanK Q) (hK : MkK n w0 Q x) (b6 bp : Nat) (w : World) (hB : Below w0.heap.size w0 w) (f6 : AtB w0 w b6 4 (madeCells #[.bool false] n)) (f11 : AtB w0 w bp 66 #[.pointer none]) :
    wpAny Tryd.prog .any ops8 Q 7 #[true, false, true, false, false, true, true, true, false, false, false, true, false] ⟨frB x n (.pointer (some ⟨bp, 0, none⟩)) (.int .i64 n) undef undef undef (.slice (some ⟨b6, 0, none⟩) n n) undef undef undef, []⟩ w := by
  unfold frB
  change wpAny _ _ #[_, _, _, _, _, _, _, _, _, _, _, _, _] _ _ _ _ _
  have m1 := mkSp hn
  have m3 := mkIs hn
  have m6 := mkBo hn
  have m8 := mkIn hn
  refine wpAny_ready (rs := [1, 3, 8]) (by kernel_rfl) (by simp) ?_
  refine AllReady.cons rfl (fun K hKK => ?_) ?_
  · go_simp
    refine hKK _ _ ?_
    clear hKK K
    exact mk_acp hn hQp hK w.heap.size b6 bp _ (below_alloc hB _) (AtB.new hB _ _) (f6.alloc _) (f11.alloc _)
  refine AllReady.cons rfl (fun K hKK => ?_) ?_
  · go_simp
    refine hKK _ _ ?_
    clear hKK K
    exact mk_bcp hn hQp hK w.heap.size b6 bp _ (below_alloc hB _) (AtB.new hB _ _) (f6.alloc _) (f11.alloc _)
  refine AllReady.cons rfl (fun K hKK => ?_) ?_
  · go_simp
    refine hKK _ _ ?_
    clear hKK K
    exact mk_cdp hn hQp hK b6 w.heap.size bp _ (below_alloc hB _) (f6.alloc _) (AtB.new hB _ _) (f11.alloc _)
  exact AllReady.nil
theorem mk_dp (hn : n ≤ 1024) (hQp : PanK Q) (hK : MkK n w0 Q x) (b8 bp : Nat) (w : World) (hB : Below w0.heap.size w0 w) (f8 : AtB w0 w b8 3 (madeCells #[.int .i64 0] n)) (f11 : AtB w0 w bp 66 #[.pointer none]) :
    wpAny Tryd.prog .any ops8 Q 7 #[true, false, true, false, false, true, false, true, true, false, false, true, false] ⟨frB x n (.pointer (some ⟨bp, 0, none⟩)) (.int .i64 n) undef undef undef undef (.slice (some ⟨b8, 0, none⟩) n n) undef undef, []⟩ w := by
  unfold frB
  change wpAny _ _ #[_, _, _, _, _, _, _, _, _, _, _, _, _] _ _ _ _ _
  have m1 := mkSp hn
  have m3 := mkIs hn
  have m6 := mkBo hn
  have m8 := mkIn hn
  refine wpAny_ready (rs := [1, 3, 6]) (by kernel_rfl) (by simp) ?_
  refine AllReady.cons rfl (fun K hKK => ?_) ?_
  · go_simp
    refine hKK _ _ ?_
    clear hKK K
    exact mk_adp hn hQp hK w.heap.size b8 bp _ (below_alloc hB _) (AtB.new hB _ _) (f8.alloc _) (f11.alloc _)
  refine AllReady.cons rfl (fun K hKK => ?_) ?_
  · go_simp
    refine hKK _ _ ?_
    clear hKK K
    exact mk_bdp hn hQp hK w.heap.size b8 bp _ (below_alloc hB _) (AtB.new hB _ _) (f8.alloc _) (f11.alloc _)
  refine AllReady.cons rfl (fun K hKK => ?_) ?_
  · go_simp
    refine hKK _ _ ?_
    clear hKK K
    exact mk_cdp hn hQp hK w.heap.size b8 bp _ (below_alloc hB _) (AtB.new hB _ _) (f8.alloc _) (f11.alloc _)
  exact AllReady.nil
theorem mk_a (hn : n ≤ 1024) (hQp : PanK Q) (hK : MkK n w0 Q x) (b1 : Nat) (w : World) (hB : Below w0.heap.size w0 w) (f1 : AtB w0 w b1 26 (madeCells #[.slice none 0 0] n)) :
    wpAny Tryd.prog .any ops8 Q 8 #[true, true, true, false, false, true, false, true, false, false, false, false, false] ⟨frB x n undef (.int .i64 n) (.slice (some ⟨b1, 0, none⟩) n n) undef undef undef undef undef undef, []⟩ w := by
  unfold frB
  change wpAny _ _ #[_, _, _, _, _, _, _, _, _, _, _, _, _] _ _ _ _ _
  have m1 := mkSp hn
  have m3 := mkIs hn
  have m6 := mkBo hn
  have m8 := mkIn hn
  refine wpAny_ready (rs := [3, 6, 8, 11]) (by kernel_rfl) (by simp) ?_
  refine AllReady.cons rfl (fun K hKK => ?_) ?_
  · go_simp
    refine hKK _ _ ?_
    clear hKK K
    refine wpAny_take (i := 4) (v := ?_) rfl (by kernel_rfl) (by kernel_rfl) (by kernel_rfl) (fun _ _ _ h => hQp _ _ _ _ h) (Or.inl ⟨by rfl, ?_⟩) ?_
    rotate_left
    · (intro w'; go_simp <;> with_reducible rfl)
    exact mk_ab hn hQp hK b1 w.heap.size _ (below_alloc hB _) (f1.alloc _) (AtB.new hB _ _)
  refine AllReady.cons rfl (fun K hKK => ?_) ?_
  · go_simp
    refine hKK _ _ ?_
    clear hKK K
    exact mk_ac hn hQp hK b1 w.heap.size _ (below_alloc hB _) (f1.alloc _) (AtB.new hB _ _)
  refine AllReady.cons rfl (fun K hKK => ?_) ?_
  · go_simp
    refine hKK _ _ ?_
    clear hKK K
    exact mk_ad hn hQp hK b1 w.heap.size _ (below_alloc hB _) (f1.alloc _) (AtB.new hB _ _)
  refine AllReady.cons rfl (fun K hKK => ?_) ?_
  · go_simp
    refine hKK _ _ ?_
    clear hKK K
    exact mk_ap hn hQp hK b1 w.heap.size _ (below_alloc hB _) (f1.alloc _) (AtB.new hB _ _)
  exact AllReady.nil
theorem mk_b (hn : n ≤ 1024) (hQp : PanK Q) (hK : MkK n w0 Q x) (b3 : Nat) (w : World) (hB : Below w0.heap.size w0 w) (f3 : AtB w0 w b3 44 (madeCells #[.slice none 0 0] n)) :
    wpAny Tryd.prog .any ops8 Q 8 #[true, false, true, true, false, true, false, true, false, false, false, false, false] ⟨frB x n undef (.int .i64 n) undef (.slice (some ⟨b3, 0, none⟩) n n) undef undef undef undef undef, []⟩ w := by
  unfold frB
  change wpAny _ _ #[_, _, _, _, _, _, _, _, _, _, _, _, _] _ _ _ _ _
  have m1 := mkSp hn
  have m3 := mkIs hn
  have m6 := mkBo hn
  have m8 := mkIn hn
  refine wpAny_ready (rs := [1, 6, 8, 11]) (by kernel_rfl) (by simp) ?_
  refine AllReady.cons rfl (fun K hKK => ?_) ?_
  · go_simp
    refine hKK _ _ ?_
    clear hKK K
    refine wpAny_take (i := 4) (v := ?_) rfl (by kernel_rfl) (by kernel_rfl) (by kernel_rfl) (fun _ _ _ h => hQp _ _ _ _ h) (Or.inl ⟨by rfl, ?_⟩) ?_
    rotate_left
    · (intro w'; go_simp <;> with_reducible rfl)
    exact mk_ab hn hQp hK w.heap.size b3 _ (below_alloc hB _) (AtB.new hB _ _) (f3.alloc _)
  refine AllReady.cons rfl (fun K hKK => ?_) ?_
  · go_simp
    refine hKK _ _ ?_
    clear hKK K
    exact mk_bc hn hQp hK b3 w.heap.size _ (below_alloc hB _) (f3.alloc _) (AtB.new hB _ _)
  refine AllReady.cons rfl (fun K hKK => ?_) ?_
  · go_simp
    refine hKK _ _ ?_
    clear hKK K
    exact mk_bd hn hQp hK b3 w.heap.size _ (below_alloc hB _) (f3.alloc _) (AtB.new hB _ _)
  refine AllReady.cons rfl (fun K hKK => ?_) ?_
  · go_simp
    refine hKK _ _ ?_
    clear hKK K
    exact mk_bp hn hQp hK b3 w.heap.size _ (below_alloc hB _) (f3.alloc _) (AtB.new hB _ _)
  exact AllReady.nil
theorem mk_c (hn : n ≤ 1024) (hQp : PanK Q) (hK : MkK n w0 Q x) (b6 : Nat) (w : World) (hB : Below w0.heap.size w0 w) (f6 : AtB w0 w b6 4 (madeCells #[.bool false] n)) :
    wpAny Tryd.prog .any ops8 Q 8 #[true, false, true, false, false, true, true, true, false, false, false, false, false] ⟨frB x n undef (.int .i64 n) undef undef undef (.slice (some ⟨b6, 0, none⟩) n n) undef undef undef, []⟩ w := by
  unfold frB
  change wpAny _ _ #[_, _, _, _, _, _, _, _, _, _, _, _, _] _ _ _ _ _
  have m1 := mkSp hn
  have m3 := mkIs hn
  have m6 := mkBo hn
  have m8 := mkIn hn
  refine wpAny_ready (rs := [1, 3, 8, 11]) (by kernel_rfl) (by simp) ?_
  refine AllReady.cons rfl (fun K hKK => ?_) ?_
  · go_simp
    refine hKK _ _ ?_
    clear hKK K
    exact mk_ac hn hQp hK w.heap.size b6 _ (below_alloc hB _) (AtB.new hB _ _) (f6.alloc _)
  refine AllReady.cons rfl (fun K hKK => ?_) ?_
  · go_simp
    refine hKK _ _ ?_
    clear hKK K
    exact mk_bc hn hQp hK w.heap.size b6 _ (below_alloc hB _) (AtB.new hB _ _) (f6.alloc _)
  refine AllReady.cons rfl (fun K hKK => ?_) ?_
  · go_simp
    refine hKK _ _ ?_
    clear hKK K
    exact mk_cd hn hQp hK b6 w.heap.size _ (below_alloc hB _) (f6.alloc _) (AtB.new hB _ _)
  refine AllReady.cons rfl (fun K hKK => ?_) ?_
  · go_simp
    refine hKK _ _ ?_
    clear hKK K
    exact mk_cp hn hQp hK b6 w.heap.size _ (below_alloc hB _) (f6.alloc _) (AtB.new hB _ _)
  exact AllReady.nil
theorem mk_d (hn : n ≤ 1024) (hQp : PanK Q) (hK : MkK n w0 Q x) (b8 : Nat) (w : World) (hB : Below w0.heap.size w0 w) (f8 : AtB w0 w b8 3 (madeCells #[.int .i64 0] n)) :
    wpAny Tryd.prog .any ops8 Q 8 #[true, false, true, false, false, true, false, true, true, false, false, false, false] ⟨frB x n undef (.int .i64 n) undef undef undef undef (.slice (some ⟨b8, 0, none⟩) n n) undef undef, []⟩ w := by
  unfold frB
  change wpAny _ _ #[_, _, _, _, _, _, _, _, _, _, _, _, _] _ _ _ _ _
  have m1 := mkSp hn
  have m3 := mkIs hn
  have m6 := mkBo hn
  have m8 := mkIn hn
  refine wpAny_ready (rs := [1, 3, 6, 11]) (by kernel_rfl) (by simp) ?_
  refine AllReady.cons rfl (fun K hKK => ?_) ?_
  · go_simp
    refine hKK _ _ ?_
    clear hKK K
    exact mk_ad hn hQp hK w.heap.size b8 _ (below_alloc hB _) (AtB.new hB _ _) (f8.alloc _)
  refine AllReady.cons rfl (fun K hKK => ?_) ?_
  · go_simp
    refine hKK _ _ ?_
    clear hKK K
    exact mk_bd hn hQp hK w.heap.size b8 _ (below_alloc hB _) (AtB.new hB _ _) (f8.alloc _)
  refine AllReady.cons rfl (fun K hKK => ?_) ?_
  · go_simp
    refine hKK _ _ ?_
    clear hKK K
    exact mk_cd hn hQp hK w.heap.size b8 _ (below_alloc hB _) (AtB.new hB _ _) (f8.alloc _)
  refine AllReady.cons rfl (fun K hKK => ?_) ?_
  · go_simp
    refine hKK _ _ ?_
    clear hKK K
    exact mk_dp hn hQp hK b8 w.heap.size _ (below_alloc hB _) (f8.alloc _) (AtB.new hB _ _)
  exact AllReady.nil
theorem mk_p (hn : n ≤ 1024) (hQp : PanK Q) (hK : MkK n w0 Q x) (bp : Nat) (w : World) (hB : Below w0.heap.size w0 w) (f11 : AtB w0 w bp 66 #[.pointer none]) :
    wpAny Tryd.prog .any ops8 Q 8 #[true, false, true, false, false, true, false, true, false, false, false, true, false] ⟨frB x n (.pointer (some ⟨bp, 0, none⟩)) (.int .i64 n) undef undef undef undef undef undef undef, []⟩ w := by
  unfold frB
  change wpAny _ _ #[_, _, _, _, _, _, _, _, _, _, _, _, _] _ _ _ _ _
  have m1 := mkSp hn
  have m3 := mkIs hn
  have m6 := mkBo hn
  have m8 := mkIn hn
  refine wpAny_ready (rs := [1, 3, 6, 8]) (by kernel_rfl) (by simp) ?_
  refine AllReady.cons rfl (fun K hKK => ?_) ?_
  · go_simp
    refine hKK _ _ ?_
    clear hKK K
    exact mk_ap hn hQp hK w.heap.size bp _ (below_alloc hB _) (AtB.new hB _ _) (f11.alloc _)
  refine AllReady.cons rfl (fun K hKK => ?_) ?_
  · go_simp
    refine hKK _ _ ?_
    clear hKK K
    exact mk_bp hn hQp hK w.heap.size bp _ (below_alloc hB _) (AtB.new hB _ _) (f11.alloc _)
  refine AllReady.cons rfl (fun K hKK => ?_) ?_
  · go_simp
    refine hKK _ _ ?_
    clear hKK K
    exact mk_cp hn hQp hK w.heap.size bp _ (below_alloc hB _) (AtB.new hB _ _) (f11.alloc _)
  refine AllReady.cons rfl (fun K hKK => ?_) ?_
  · go_simp
    refine hKK _ _ ?_
    clear hKK K
    exact mk_dp hn hQp hK w.heap.size bp _ (below_alloc hB _) (AtB.new hB _ _) (f11.alloc _)
  exact AllReady.nil
theorem mk_0 (hn : n ≤ 1024) (hQp : PanK Q) (hK : MkK n w0 Q x) (w : World) (hB : Below w0.heap.size w0 w) :
    wpAny Tryd.prog .any ops8 Q 9 #[true, false, true, false, false, true, false, true, false, false, false, false, false] ⟨frB x n undef (.int .i64 n) undef undef undef undef undef undef undef, []⟩ w := by
  unfold frB
  change wpAny _ _ #[_, _, _, _, _, _, _, _, _, _, _, _, _] _ _ _ _ _
  have m1 := mkSp hn
  have m3 := mkIs hn
  have m6 := mkBo hn
  have m8 := mkIn hn
  refine wpAny_ready (rs := [1, 3, 6, 8, 11]) (by kernel_rfl) (by simp) ?_
  refine AllReady.cons rfl (fun K hKK => ?_) ?_
  · go_simp
    refine hKK _ _ ?_
    clear hKK K
    exact mk_a hn hQp hK w.heap.size _ (below_alloc hB _) (AtB.new hB _ _)
  refine AllReady.cons rfl (fun K hKK => ?_) ?_
  · go_simp
    refine hKK _ _ ?_
    clear hKK K
    exact mk_b hn hQp hK w.heap.size _ (below_alloc hB _) (AtB.new hB _ _)
  refine AllReady.cons rfl (fun K hKK => ?_) ?_
  · go_simp
    refine hKK _ _ ?_
    clear hKK K
    exact mk_c hn hQp hK w.heap.size _ (below_alloc hB _) (AtB.new hB _ _)
  refine AllReady.cons rfl (fun K hKK => ?_) ?_
  · go_simp
    refine hKK _ _ ?_
    clear hKK K
    exact mk_d hn hQp hK w.heap.size _ (below_alloc hB _) (AtB.new hB _ _)
  refine AllReady.cons rfl (fun K hKK => ?_) ?_
  · go_simp
    refine hKK _ _ ?_
    clear hKK K
    exact mk_p hn hQp hK w.heap.size _ (below_alloc hB _) (AtB.new hB _ _)
  exact AllReady.nil
end
section
variable {n : Nat} {w0 : World} {Q : Exit → Act → World → Prop} {x0 x1 x2 x3 x4 x5 x6 x7 x10 x11 x12 x13 x14 x15 x16 x17 x18 x19 x20 x21 x22 x23 x24 x25 x26 x27 x28 x29 x30 x31 x32 x33 x34 x35 x36 x37 x38 x39 x40 x41 : Value}
theorem region8 (hn : n ≤ 1024) (hQp : ∀ ch a a2 w, Q (.panic ch) a w → Q (.panic ch) a2 w) (hK : ∀ b1 b3 b6 b8 bx bp W, Below w0.heap.size w0 W → AtB w0 W b1 26 (madeCells #[.slice none 0 0] n) → AtB w0 W b3 44 (madeCells #[.slice none 0 0] n) → AtB w0 W b6 4 (madeCells #[.bool false] n) → AtB w0 W b8 3 (madeCells #[.int .i64 0] n) → AtB w0 W bx 69 #[.slice (some ⟨b1, 0, none⟩) n n, .slice (some ⟨b3, 0, none⟩) n n, .slice (some ⟨b6, 0, none⟩) n n, .slice (some ⟨b8, 0, none⟩) n n] → AtB w0 W bp 66 #[.pointer (some ⟨bx, 0, none⟩)] → Q .normal { tmps := #[x0, x1, x2, x3, x4, x5, x6, x7, .int .i64 n, .pointer (some ⟨bp, 0, none⟩), x10, x11, x12, x13, x14, x15, x16, x17, x18, x19, x20, x21, x22, x23, x24, x25, x26, x27, x28, x29, x30, x31, x32, x33, x34, x35, x36, x37, x38, x39, x40, x41, .int .i64 n, .slice (some ⟨b1, 0, none⟩) n n, .int .i64 n, .slice (some ⟨b3, 0, none⟩) n n, .agg #[.slice (some ⟨b1, 0, none⟩) n n, .slice (some ⟨b3, 0, none⟩) n n], .int .i64 n, .slice (some ⟨b6, 0, none⟩) n n, .int .i64 n, .slice (some ⟨b8, 0, none⟩) n n, .agg #[.slice (some ⟨b1, 0, none⟩) n n, .slice (some ⟨b3, 0, none⟩) n n, .slice (some ⟨b6, 0, none⟩) n n, .slice (some ⟨b8, 0, none⟩) n n], .pointer (some ⟨bx, 0, none⟩), undef, undef, undef, undef, undef, undef, undef, undef, undef, undef, undef, undef, undef, undef, undef, undef, undef, undef, undef, undef, undef, undef, undef, undef, undef, undef, undef, undef, undef, undef, undef, undef, undef, undef, undef, undef, undef, undef, undef, undef, undef, undef, undef, undef, undef, undef, undef, undef, undef, undef, undef, undef, undef, undef, undef, undef, undef, undef, undef, undef, undef, undef, undef, undef, undef, undef, undef, undef, undef, undef, undef, undef, undef, undef, undef, undef, undef, undef, undef, undef, undef, undef, undef, undef, undef, undef, undef, undef, undef, undef], defers := [] } W) :
    ∃ c, findR 8 (bodyOf Tryd.f15) = some c ∧ Code.wp Tryd.prog c Q { tmps := #[x0, x1, x2, x3, x4, x5, x6, x7, .int .i64 n, undef, x10, x11, x12, x13, x14, x15, x16, x17, x18, x19, x20, x21, x22, x23, x24, x25, x26, x27, x28, x29, x30, x31, x32, x33, x34, x35, x36, x37, x38, x39, x40, x41, undef, undef, undef, undef, undef, undef, undef, undef, undef, undef, undef, undef, undef, undef, undef, undef, undef, undef, undef, undef, undef, undef, undef, undef, undef, undef, undef, undef, undef, undef, undef, undef, undef, undef, undef, undef, undef, undef, undef, undef, undef, undef, undef, undef, undef, undef, undef, undef, undef, undef, undef, undef, undef, undef, undef, undef, undef, undef, undef, undef, undef, undef, undef, undef, undef, undef, undef, undef, undef, undef, undef, undef, undef, undef, undef, undef, undef, undef, undef, undef, undef, undef, undef, undef, undef, undef, undef, undef, undef, undef, undef, undef, undef, undef, undef, undef, undef, undef, undef, undef, undef], defers := [] } w0 := by
  refine ⟨_, rfl, ?_⟩
  refine wp_region_any (by kernel_rfl) ?_
  refine wpAny_take (i := 0) (v := ?_) rfl (by kernel_rfl) (by kernel_rfl) (by kernel_rfl) (fun _ _ _ h => hQp _ _ _ _ h) (Or.inl ⟨by rfl, ?_⟩) ?_
  rotate_left
  · (intro w'; go_simp <;> with_reducible rfl)
  refine wpAny_take (i := 2) (v := ?_) rfl (by kernel_rfl) (by kernel_rfl) (by kernel_rfl) (fun _ _ _ h => hQp _ _ _ _ h) (Or.inl ⟨by rfl, ?_⟩) ?_
  rotate_left
  · (intro w'; go_simp <;> with_reducible rfl)
  refine wpAny_take (i := 5) (v := ?_) rfl (by kernel_rfl) (by kernel_rfl) (by kernel_rfl) (fun _ _ _ h => hQp _ _ _ _ h) (Or.inl ⟨by rfl, ?_⟩) ?_
  rotate_left
  · (intro w'; go_simp <;> with_reducible rfl)
  refine wpAny_take (i := 7) (v := ?_) rfl (by kernel_rfl) (by kernel_rfl) (by kernel_rfl) (fun _ _ _ h => hQp _ _ _ _ h) (Or.inl ⟨by rfl, ?_⟩) ?_
  rotate_left
  · (intro w'; go_simp <;> with_reducible rfl)
  exact mk_0 (x := fun i => (#[x0, x1, x2, x3, x4, x5, x6, x7, undef, undef, x10, x11, x12, x13, x14, x15, x16, x17, x18, x19, x20, x21, x22, x23, x24, x25, x26, x27, x28, x29, x30, x31, x32, x33, x34, x35, x36, x37, x38, x39, x40, x41] : Array Value).getD i undef) hn hQp hK w0.drew (Below.refl _ _).drew
end
end Go.Proofs.YtddobhneplfddaaDoor

namespace Go.Proofs.YtddobhneplfddaaDoor
set_option maxRecDepth 100000
open Go.RowKit
set_option linter.unusedSimpArgs false
set_option linter.unusedVariables false
theorem zeroC (k : Nat) : (Builtin.zeroCells #[.int .i64 0, .int .i64 0] k).toList = rowSp (List.replicate k (⟨0, 0⟩ : Sp)) := by
  apply List.ext_getElem?
  intro j
  rcases Nat.lt_or_ge j (k * 2) with h | h
  · have h1 : (rowSp (List.replicate k (⟨0, 0⟩ : Sp)))[j]? = some (.int .i64 0) := by
      have hk : j / 2 < (List.replicate k (⟨0, 0⟩ : Sp)).length := by simp; omega
      obtain ⟨a, b⟩ := rowSp_get _ _ hk
      rcases Nat.mod_two_eq_zero_or_one j with e | e
      · rw [show j / 2 * 2 = j by omega] at a; simpa using a
      · rw [show j / 2 * 2 + 1 = j by omega] at b; simpa using b
    rw [h1]
    rcases Nat.mod_two_eq_zero_or_one j with e | e <;> simp [Builtin.zeroCells, h, e]
  · rw [List.getElem?_eq_none (by simp [Builtin.zeroCells]; omega), List.getElem?_eq_none (by rw [rowSp_len]; simp; omega)]
theorem rowSp_app (a b : List Sp) : rowSp (a ++ b) = rowSp a ++ rowSp b := List.flatMap_append ..
theorem begin_app (w : World) (base ty : Nat) (A : Option Addr) (c R : Nat) (l : List Sp) (hR : 0 < R) (hR2 : R ≤ 64) (hn : l.length ≤ R) (hb : base ≤ w.heap.size)
    (own : w.ownsRow base 34 2 (.slice A l.length c) l.length (rowsL l.length 2 fun k => spV (nthS l k))) :
    ∃ g cp w', (Builtin.append_ #[26, 3] ty #[.slice A l.length l.length, .int .i64 ((R - l.length : Nat) : Int)]).run Tryd.prog w = .ok (.slice (some ⟨g, 0, none⟩) R cp) w' ∧ base ≤ g ∧ R ≤ cp ∧ cp ≤ maxLen ∧ RowE w' g cp (l ++ List.replicate (R - l.length) ⟨0, 0⟩) ∧ w.grownBy w' none := by
  obtain ⟨iS, hiS, zS0, zS1, zS2⟩ := info_parts infoS
  have hu : Tryd.prog.underlying 3 = some (.int .i64) := by kernel_rfl
  have ht := Tryd.underlying26
  have hzs : (Value.agg #[.int .i64 0, .int .i64 0]).cells = #[.int .i64 0, .int .i64 0] := rfl
  have hmk : ∀ (need old : Nat), need ≤ 64 → R = need → ∀ (pre : List Value) (r : List Sp), pre = rowSp r → r.length = R → RowS (w.drew.alloc (.cells (pre.toArray ++ Builtin.zeroCells #[.int .i64 0, .int .i64 0] (grownCap w need old 34 - need)) 34)) w.heap.size (grownCap w need old 34) r := fun need old hm e pre r hp hl => by
    have hge := grownCap_ge w need old 34
    refine ⟨_, Whl.new w.drew _ _, ⟨?_, ?_⟩, ?_⟩
    · simp only [Array.size_append, List.size_toArray, size_zeroCells, hp, rowSp_len]
      omega
    · simp only [Array.size_append, List.size_toArray, size_zeroCells, hp, rowSp_len]
      simp
      omega
    · rw [Array.toList_append, hp, ← rowSp_len]
      exact List.take_left
  have hgr : ∀ o, w.grownBy (w.drew.alloc o) none := fun o => ⟨rfl, rfl, rfl, by simp, fun k hk _ => Below.heap_alloc w.drew _ k hk⟩
  rcases own.2 with ⟨hv, h0⟩ | ⟨g, cap, cur, hv, hbg, hh, hnc, hm, hs, htk⟩
  · injection hv with e1 e2 e3
    subst e1
    have hl : l = [] := List.eq_nil_of_length_eq_zero h0
    subst hl
    have hr := run_append_make_nil (P := Tryd.prog) w 26 3 ty 34 iS _ ht hu hiS zS0 R hR (by omega) (by omega) (by omega)
    rw [hzs] at hr
    refine ⟨_, _, _, hr, hb, grownCap_ge _ _ _ _, grownCap_le_maxLen w R 0 _ (by unfold maxLen; omega), ?_, hgr _⟩
    have := hmk R 0 (by omega) rfl (Builtin.zeroCells #[.int .i64 0, .int .i64 0] R).toList (List.replicate R ⟨0, 0⟩) (zeroC R) (by simp)
    exact RowS.toE (by simpa using this)
  · injection hv with e1 e2 e3
    subst e1
    subst e3
    rw [rowsL_rowSp] at htk
    by_cases hk : R - l.length = 0
    · have hl : l.length = R := by omega
      rw [hk]
      have hr := run_append_make_zero (P := Tryd.prog) w 26 3 ty 34 iS ht hu hiS (some ⟨g, 0, none⟩) l.length l.length (Nat.le_refl _)
      refine ⟨g, l.length, w, by rw [← hl]; exact hr, hbg, by omega, by unfold maxLen; omega, ⟨c, hnc, ⟨cur, hh, ⟨?_, hs⟩, ?_⟩⟩, ⟨rfl, rfl, rfl, Nat.le_refl _, fun _ _ _ => rfl⟩⟩
      · simp; omega
      · simpa using htk
    · have hcell : ∀ j v, (rowSp l)[j]? = some v → w.cell? ((⟨g, 0, none⟩ : Addr).add j) = some v := fun j v hv => by
        have hadd : (⟨g, 0, none⟩ : Addr).add j = ⟨g, j, none⟩ := by unfold Addr.add; split <;> simp_all
        rw [hadd, cell_of_row w g j cur _ (0, 0) hh]
        rw [← htk, List.getElem?_take] at hv
        split at hv
        · simpa using hv
        · cases hv
      have hr := run_append_make_grow (P := Tryd.prog) w 26 3 ty 34 iS _ ht hu hiS zS0 ⟨g, 0, none⟩ l.length l.length (rowSp l) (by rw [rowSp_len, zS1]) hcell (R - l.length) (by omega) (by omega) (by omega) (by omega) (by omega) (by
        exact growslice_fits (by omega) (by rw [zS2]; omega))
      rw [hzs] at hr
      have e : l.length + (R - l.length) = R := by omega
      rw [e] at hr
      refine ⟨_, _, _, hr, hb, grownCap_ge _ _ _ _, grownCap_le_maxLen w R _ _ (by unfold maxLen; omega), ?_, hgr _⟩
      have := hmk R l.length (by omega) rfl (rowSp l ++ (Builtin.zeroCells #[.int .i64 0, .int .i64 0] (R - l.length)).toList) (l ++ List.replicate (R - l.length) ⟨0, 0⟩) (by rw [zeroC, rowSp_app]) (by simp; omega)
      refine RowS.toE ?_
      have e2 : ∀ (a : List Value) (b d : Array Value), (a ++ b.toList).toArray ++ d = a.toArray ++ b ++ d := fun a b d => by apply Array.ext'; simp
      rw [e2] at this
      exact this
end Go.Proofs.YtddobhneplfddaaDoor
