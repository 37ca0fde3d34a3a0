/-
  Layer 16 (bounds): RunA.
-/
import Derived.Test.YtddobhneplfddaaDoorV24
import Derived.Test.YtddobhneplfddaaDoorV31
import Derived.Test.YtddobhneplfddaaDoorV33
import Derived.WalkMore
namespace Go.Proofs.YtddobhneplfddaaDoor
set_option maxRecDepth 100000
open Go.RowKit Go.Shelf
set_option linter.unusedSimpArgs false
set_option linter.unusedVariables false
attribute [local go_sem] Oper.semAt_some
/-- What stands at last. -/
def Final (m : ModD) (f : FuncD) (s : StD) : Prop :=
  ∃ K, (∀ p, p < K → true ∈ (afterD m f (passes f.code.length p)).marked) ∧ ¬ true ∈ (afterD m f (passes f.code.length K)).marked ∧ s = afterD m f (passes f.code.length K)
theorem Final.only {m : ModD} {f : FuncD} {s t : StD} (h : Final m f s) (k : Final m f t) : s = t := by
  obtain ⟨K, a, b, rfl⟩ := h
  obtain ⟨J, c, d, rfl⟩ := k
  rcases Nat.lt_trichotomy K J with q | rfl | q
  · exact absurd (c K q) b
  · rfl
  · exact absurd (a J q) d
/-- What Run leaves. -/
def RunOk (w : World) (m : ModD) (fn : Int) (e : Ending) (w' : World) : Prop :=
  Below w.heap.size w w' ∧
  (((mayD m).e ≠ 0 ∧ e = .returned (.tuple #[.agg #[.slice none 0 0, .slice none 0 0], .int .i64 (mayD m).e])) ∨
   ((mayD m).e = 0 ∧ (fn < 0 ∨ (m.funcs.length : Int) ≤ fn) ∧ e = .returned (.tuple #[.agg #[.slice none 0 0, .slice none 0 0], .int .i64 1])) ∨
   ((mayD m).e = 0 ∧ ∃ kf : Nat, fn = kf ∧ kf < m.funcs.length ∧ ∃ L sb s, Final m (nthF m.funcs kf) s ∧ e = .returned (.tuple #[.agg #[.slice (some ⟨L.inb, 0, none⟩) (nthF m.funcs kf).code.length (nthF m.funcs kf).code.length, .slice (some ⟨L.chb, 0, none⟩) (nthF m.funcs kf).code.length (nthF m.funcs kf).code.length], .int .i64 0]) ∧
      StP w' w.heap.size (nthF m.funcs kf).code.length (nthF m.funcs kf).regs.toNat sb L s))
set_option maxHeartbeats 4000000 in
theorem runP1 (m : ModD) (fn : Int) (wm : m.Wf) (h : ((mayD m).e != 0) = true) (w : World) (hm : ModOk w w.heap.size m) (ht : TabOk w) :
    Calls Tryd.prog 15 #[m.val, .int .i64 fn] w (RunOk w m fn) := by
  have H := Lib.hid (And.intro hm ht)
  have HE := Lib.hid (show (mayD m).e ≠ 0 by simpa using h)
  clear hm ht
  have hfe := fieldE
  refine (callsIn_wide (n := 9)).1 ?_
  refine callsIn_of_wp_marks Tryd.func15 rfl trivial ?_ rfl
  simp only [Tryd.ntmps15, List.size_toArray, List.length_cons, List.length_nil, Nat.reduceAdd, Nat.reduceSub, Array.replicate_succ, Array.replicate_zero, List.push_toArray, List.append_toArray, List.nil_append, List.cons_append]
  refine wpIn_wide.2 ?_
  go_wp2
  go_step3
  go_wp2_with fail
  go_at_call 26
  refine (mayP m _ wm (H.out.1.below (below_alloc (below_alloc (Below.refl _ _) _) _) (Nat.le_refl _) |>.more (by simp; omega)) ((H.out.2.alloc _).alloc _)).mono ?_
  rintro e w1 ⟨rfl, hb1⟩
  have B1 := below_step (below_alloc (below_alloc (Below.refl _ _) _) _) hb1
  have M4 := (Whl.new1 w (.cells #[.slice m.ta m.ths.length m.tc, .slice m.fa m.funcs.length m.fc] 25) 39 #[.slice none 0 0, .slice none 0 0]).below' hb1
  have y0 := M4.cell 0
  have y1 := M4.cell 1
  have z0 := M4.frozen 0
  have z1 := M4.frozen 1
  have l4 := M4.lt
  simp only [List.getElem?_toArray, List.getElem?_cons_zero, List.getElem?_cons_succ] at y0 y1
  clear hb1
  go_wp2
  go_region
  all_goals
    go_wp2
    rw [Exit.noGoto_ret]
    refine ⟨.tuple #[.agg #[.slice none 0 0, .slice none 0 0], .int .i64 (mayD m).e], by simp [results, Tryd.f15, go_sem, *], ?_⟩
    refine ⟨?_, .inl ⟨HE.out, rfl⟩⟩
    first
      | exact (below_alloc ((B1.setCell (p := ⟨w.heap.size + 1, 0, none⟩) (by simp) _).setCell (p := ⟨w.heap.size + 1, 1, none⟩) (by simp) _) _).drew
      | exact ((below_alloc B1 _).setCell (p := ⟨w.heap.size + 1, 0, none⟩) (by simp) _).setCell (p := ⟨w.heap.size + 1, 1, none⟩) (by simp) _
set_option maxHeartbeats 4000000 in
theorem runP2 (m : ModD) (fn : Int) (wm : m.Wf) (h : ((mayD m).e != 0) = false) (hfn : fn < 0 ∨ (m.funcs.length : Int) ≤ fn) (w : World) (hm : ModOk w w.heap.size m) (ht : TabOk w) :
    Calls Tryd.prog 15 #[m.val, .int .i64 fn] w (RunOk w m fn) := by
  have H := Lib.hid (And.intro hm ht)
  have HE := Lib.hid (show (mayD m).e = 0 by simpa using h)
  have HF := Lib.hid hfn
  clear hm ht
  have hfe := fieldE
  refine (callsIn_wide (n := 9)).1 ?_
  refine callsIn_of_wp_marks Tryd.func15 rfl trivial ?_ rfl
  simp only [Tryd.ntmps15, List.size_toArray, List.length_cons, List.length_nil, Nat.reduceAdd, Nat.reduceSub, Array.replicate_succ, Array.replicate_zero, List.push_toArray, List.append_toArray, List.nil_append, List.cons_append]
  refine wpIn_wide.2 ?_
  go_wp2
  go_step3
  go_wp2_with fail
  go_at_call 26
  refine (mayP m _ wm (H.out.1.below (below_alloc (below_alloc (Below.refl _ _) _) _) (Nat.le_refl _) |>.more (by simp; omega)) ((H.out.2.alloc _).alloc _)).mono ?_
  rintro e w1 ⟨rfl, hb1⟩
  have B1 := below_step (below_alloc (below_alloc (Below.refl _ _) _) _) hb1
  have M4 := (Whl.new1 w (.cells #[.slice m.ta m.ths.length m.tc, .slice m.fa m.funcs.length m.fc] 25) 39 #[.slice none 0 0, .slice none 0 0]).below' hb1
  have y0 := M4.cell 0
  have y1 := M4.cell 1
  have z0 := M4.frozen 0
  have z1 := M4.frozen 1
  have l4 := M4.lt
  have M2 := ((Whl.new w 25 #[.slice m.ta m.ths.length m.tc, .slice m.fa m.funcs.length m.fc]).alloc (.cells #[.slice none 0 0, .slice none 0 0] 39)).below' hb1
  have x1 := M2.cell 1
  have l2 := M2.lt
  simp only [List.getElem?_toArray, List.getElem?_cons_zero, List.getElem?_cons_succ] at y0 y1 x1
  clear hb1
  by_cases h0 : fn < 0
  · have h3 : decide (fn < 0) = true := by simpa using h0
    clear hfn h0
    go_wp2
    rw [Exit.noGoto_ret]
    refine ⟨.tuple #[.agg #[.slice none 0 0, .slice none 0 0], .int .i64 1], by simp [results, Tryd.f15, go_sem, *], ?_⟩
    exact ⟨below_alloc ((B1.setCell (p := ⟨w.heap.size + 1, 0, none⟩) (by simp) _).setCell (p := ⟨w.heap.size + 1, 1, none⟩) (by simp) _) _, .inr (.inl ⟨HE.out, HF.out, rfl⟩)⟩
  · have h3 : decide (fn < 0) = false := by simpa using h0
    have h4 : decide ((m.funcs.length : Int) ≤ fn) = true := by simp; omega
    clear hfn h0
    go_wp2
    rw [Exit.noGoto_ret]
    refine ⟨.tuple #[.agg #[.slice none 0 0, .slice none 0 0], .int .i64 1], by simp [results, Tryd.f15, go_sem, *], ?_⟩
    exact ⟨below_alloc ((B1.setCell (p := ⟨w.heap.size + 1, 0, none⟩) (by simp) _).setCell (p := ⟨w.heap.size + 1, 1, none⟩) (by simp) _) _, .inr (.inl ⟨HE.out, HF.out, rfl⟩)⟩
end Go.Proofs.YtddobhneplfddaaDoor
