/-
  Layer 9 (code): the walk of CodeLies.
-/
import Derived.Test.YtpmffclepnkedaaDoorFix
import Derived.Test.YtpmffclepnkedaaDoorPlainL
import Derived.Test.YtpmffclepnkedaaDoorOpenM
import Derived.LoopIn
import Derived.RangeFuncFrom
namespace Go.Proofs.YtpmffclepnkedaaDoor
open Go.RowKit Go.Shelf
set_option linter.unusedSimpArgs false
set_option linter.unusedVariables false
attribute [local go_sem] Oper.semAt_some
theorem may_e {m : ModD} (h : mayD m ≠ ⟨0, 0, 0⟩) : (mayD m).e ≠ 0 := by
  intro h0
  apply h
  unfold mayD at h0 ⊢
  split at h0
  · simp at h0
  split at h0
  · simp at h0
  split at h0
  · simp at h0
  split at h0
  · rename_i q
    rcases badFrom_cases (okWhole m) m.funcs.length 0 with ⟨a1, a2⟩ | ⟨j, b1, b2, b3, b4⟩
    · exact absurd a1 q
    · have hd : wholeD m = j := b3
      rw [hd] at h0
      simp only [Int.toNat_natCast] at h0
      simp [okWhole, h0] at b4
  split at h0
  · rename_i q
    rcases badFrom_cases (okCode m) m.funcs.length 0 with ⟨a1, a2⟩ | ⟨j, b1, b2, b3, b4⟩
    · exact absurd a1 q
    · have hd : codeD m = j := b3
      rw [hd] at h0
      simp only [Int.toNat_natCast] at h0
      simp [okCode, h0] at b4
  rename_i q1 q2 q3 q4 q5
  rw [if_neg q1, if_neg q2, if_neg q3, if_neg q4, if_neg q5]
set_option maxHeartbeats 1000000 in
theorem withinC (r n : Int) (w : World) : Calls Tryd.prog 27 #[.int .i64 r, .int .i64 n] w fun e w' => e = .returned (.bool (decide (0 ≤ r) && decide (r < n))) ∧ w = w' := by
  rcases (by omega : r < 0 ∨ (0 ≤ r ∧ r < n) ∨ (0 ≤ r ∧ n ≤ r)) with h | ⟨h, h'⟩ | ⟨h, h'⟩
  all_goals
    go_enter Tryd.func27, Tryd.ntmps27
    go_wp2
    go_ret
    exact ⟨by simp <;> omega, rfl⟩
theorem withinT (r n : Int) (w : World) (h : 0 ≤ r ∧ r < n) : Calls Tryd.prog 27 #[.int .i64 r, .int .i64 n] w fun e w' => e = .returned (.bool true) ∧ w = w' := by
  have := withinC r n w
  rwa [show (decide (0 ≤ r) && decide (r < n)) = true by simp [h.1, h.2]] at this
theorem withinF (r n : Int) (w : World) (h : ¬ (0 ≤ r ∧ r < n)) : Calls Tryd.prog 27 #[.int .i64 r, .int .i64 n] w fun e w' => e = .returned (.bool false) ∧ w = w' := by
  have := withinC r n w
  rwa [show (decide (0 ≤ r) && decide (r < n)) = false by rw [← Bool.not_eq_true]; simpa using h] at this
/-- What lies in memory all the while: the module's box, the result's. -/
structure LM (w : World) (m : ModD) (W : World) : Prop where
  below : Below w.heap.size w W
  bm : Whl W w.heap.size 33 #[.slice m.ta m.ths.length m.tc, .slice m.fa m.funcs.length m.fc]
  br : Whl W (w.heap.size + 1) 4 #[.bool false]
theorem LM.start (w : World) (m : ModD) : LM w m ((w.alloc (.cells #[.slice m.ta m.ths.length m.tc, .slice m.fa m.funcs.length m.fc] 33)).alloc (.cells #[.bool false] 4)) := by
  refine ⟨below_alloc (below_alloc (Below.refl _ _) _) _, (Whl.new _ _ _).alloc _, ?_⟩
  have := Whl.new (w.alloc (.cells #[.slice m.ta m.ths.length m.tc, .slice m.fa m.funcs.length m.fc] 33)) 4 #[.bool false]
  rwa [World.size_alloc] at this
theorem LM.go {w W W' : World} {m : ModD} (h : LM w m W) (hb : Below W.heap.size W W') : LM w m W' := ⟨below_step h.below hb, h.bm.below' hb, h.br.below' hb⟩
theorem LM.alloc {w W : World} {m : ModD} (h : LM w m W) (o : Obj) : LM w m (W.alloc o) := h.go ((Below.refl _ _).alloc (Nat.le_refl _) _)
theorem LM.cells {w W : World} {m : ModD} (h : LM w m W) : W.cell? ⟨w.heap.size, 0, none⟩ = some (.slice m.ta m.ths.length m.tc) ∧ W.cell? ⟨w.heap.size, 1, none⟩ = some (.slice m.fa m.funcs.length m.fc) ∧ W.cell? ⟨w.heap.size + 1, 0, none⟩ = some (.bool false) ∧ W.frozen? ⟨w.heap.size + 1, 0, none⟩ = false :=
  ⟨h.bm.cell 0, h.bm.cell 1, h.br.cell 0, h.br.frozen 0⟩
theorem LM.tab {w W : World} {m : ModD} (h : LM w m W) (ht : TabOk w) : TabOk W := ht.below h.below ht.size
theorem LM.ok {w W : World} {m : ModD} (h : LM w m W) (hm : ModOk w w.heap.size m) : ModOk W W.heap.size m := (hm.below h.below (Nat.le_refl _)).more h.below.size
theorem nthF_mem' {fs : List FuncD} {k : Nat} (hk : k < fs.length) : nthF fs k ∈ fs := by simp [nthF, List.getD, hk]

/-- The marks that the loops have left: each a block that holds no call; no two the same. -/
def Marks (B : Nat) (W : World) : List Deferred → Prop
  | [] => True
  | d :: ds => ∃ r, d = { target := .collected r, args := #[] } ∧ B ≤ r ∧ W.heap[r]? = some (.deferred (some [])) ∧ (∀ q ∈ ds, q ≠ d) ∧ Marks B W ds
theorem Marks.keep {B : Nat} {W W' : World} : ∀ {ds : List Deferred}, Marks B W ds → (∀ r, W.heap[r]? = some (.deferred (some [])) → (∀ d ∈ ds, d = { target := .collected r, args := #[] } → W'.heap[r]? = some (.deferred (some [])))) → Marks B W' ds
  | [], _, _ => trivial
  | d :: ds, ⟨r, e, hB, hr, hn, h⟩, hk => ⟨r, e, hB, hk r hr d (List.mem_cons_self) e, hn, h.keep fun r' hr' d' hd' => hk r' hr' d' (List.mem_cons_of_mem _ hd')⟩
theorem Marks.go {B : Nat} {W W' : World} {ds : List Deferred} (h : Marks B W ds) (hb : Below W.heap.size W W') : Marks B W' ds :=
  h.keep fun r hr _ _ _ => (hb.block r (by
    rcases Nat.lt_or_ge r W.heap.size with k | k
    · exact k
    · rw [Array.getElem?_eq_none k] at hr; cases hr)).trans hr
theorem Marks.lt {B : Nat} {W : World} : ∀ {ds : List Deferred}, Marks B W ds → ∀ d ∈ ds, ∃ r, d = { target := .collected r, args := #[] } ∧ r < W.heap.size
  | [], _, d, hd => by cases hd
  | d :: ds, ⟨r, e, hB, hr, hn, h⟩, q, hq => by
    rcases List.mem_cons.1 hq with rfl | hq
    · refine ⟨r, e, ?_⟩
      rcases Nat.lt_or_ge r W.heap.size with k | k
      · exact k
      · rw [Array.getElem?_eq_none k] at hr; cases hr
    · exact h.lt q hq
/-- One mark more: the block is a new one. -/
theorem Marks.more {B D : Nat} {W W' : World} {ds : List Deferred} (h : Marks B W ds) (hb : Below W.heap.size W W') (hD : W.heap.size ≤ D) (hB : B ≤ D) (hK : W'.heap[D]? = some (.deferred (some []))) : Marks B W' ({ target := .collected D, args := #[] } :: ds) :=
  ⟨D, rfl, hB, hK, fun q hq e => by
    obtain ⟨r, e2, hr⟩ := h.lt q hq
    rw [e] at e2
    injection e2 with e3
    injection e3 with e3
    omega, h.go hb⟩
theorem Marks.setCell {B : Nat} {W : World} {ds : List Deferred} (h : Marks B W ds) (p : Addr) (v : Value) : Marks B (W.setCell p v) ds :=
  h.keep fun r hr _ _ _ => (KeepsOthers.setCell W p v).same r _ hr rfl
/-- The way out past the marks. -/
theorem leaves_marks {F : Fence} {n : Nat} {fn : Func} {tmps : Array Value} {R : Ending → World → Prop} {g B : Nat} {t : TypeId} {cs : Array Value} {w : World} (hg : g < B) (hB : w.heap.size ≤ B)
    (hend : ∀ W', Below w.heap.size w W' → Whl W' g t cs → LeavesInM F n Tryd.prog fn tmps R [] .returning W') : ∀ (ds : List Deferred) (W : World), Marks B W ds → Below w.heap.size w W → Whl W g t cs → LeavesInM F n Tryd.prog fn tmps R ds .returning W
  | [], W, _, hb, hw => hend W hb hw
  | d :: ds, W, ⟨r, e, hr, hK, hn, h⟩, hb, hw => by
    subst e
    refine ⟨by simp, .inl ⟨r, _, rfl, run_takeDeferred hK, ?_⟩⟩
    have hg' := grownBy_putObj' W r (.deferred none)
    refine leaves_marks hg hB hend ds _ (h.keep fun r' hr' d' hd' e' => ?_) (hb.grown hg' hb.size (fun k hk => by cases hk; omega)) (hw.grown hg' (fun e => by cases e; omega))
    have hne : r' ≠ r := fun e => hn d' hd' (by rw [e', e])
    exact (World.putObj_heap_other hne).trans hr'
/-- A frame of so many slots, written out. -/
theorem tmps_out (a : Act) (h : a.tmps.size = 146) : ∃ t : Nat → Value, a = { tmps := #[t 0, t 1, t 2, t 3, t 4, t 5, t 6, t 7, t 8, t 9, t 10, t 11, t 12, t 13, t 14, t 15, t 16, t 17, t 18, t 19, t 20, t 21, t 22, t 23, t 24, t 25, t 26, t 27, t 28, t 29, t 30, t 31, t 32, t 33, t 34, t 35, t 36, t 37, t 38, t 39, t 40, t 41, t 42, t 43, t 44, t 45, t 46, t 47, t 48, t 49, t 50, t 51, t 52, t 53, t 54, t 55, t 56, t 57, t 58, t 59, t 60, t 61, t 62, t 63, t 64, t 65, t 66, t 67, t 68, t 69, t 70, t 71, t 72, t 73, t 74, t 75, t 76, t 77, t 78, t 79, t 80, t 81, t 82, t 83, t 84, t 85, t 86, t 87, t 88, t 89, t 90, t 91, t 92, t 93, t 94, t 95, t 96, t 97, t 98, t 99, t 100, t 101, t 102, t 103, t 104, t 105, t 106, t 107, t 108, t 109, t 110, t 111, t 112, t 113, t 114, t 115, t 116, t 117, t 118, t 119, t 120, t 121, t 122, t 123, t 124, t 125, t 126, t 127, t 128, t 129, t 130, t 131, t 132, t 133, t 134, t 135, t 136, t 137, t 138, t 139, t 140, t 141, t 142, t 143, t 144, t 145], defers := a.defers } ∧ ∀ k, a.tmps.getD k undef = t k := by
  refine ⟨fun k => a.tmps.getD k undef, ?_, fun k => rfl⟩
  have e : a.tmps = ((List.range 146).map fun k => a.tmps.getD k undef).toArray := by
    apply Array.ext
    · simp [h]
    · intro i h1 h2
      simp [Array.getD, h1]
  obtain ⟨T, d⟩ := a
  simp only at e h ⊢
  congr 1
/-- What holds at the head of the loop over the functions; and how many are left. -/
def OutInv (w : World) (m : ModD) (a : Act) (W : World) : Prop :=
  ∃ i : Nat, i ≤ m.funcs.length ∧ LM w m W ∧ Marks (w.heap.size + 2) W a.defers ∧ a.tmps.size = 146 ∧ a.tmps.getD 0 undef = m.val ∧ a.tmps.getD 1 undef = .pointer (some ⟨w.heap.size, 0, none⟩) ∧ a.tmps.getD 2 undef = .pointer (some ⟨w.heap.size + 1, 0, none⟩) ∧ a.tmps.getD 3 undef = .int .i64 i
def OutMu (m : ModD) (a : Act) (_ : World) : Nat := m.funcs.length - (intOf (a.tmps.getD 3 undef)).toNat
/-- What holds at the head of the loop over a function's instructions; and how many are left. -/
def InnInv (w : World) (m : ModD) (i gf : Nat) (a : Act) (W' : World) : Prop :=
  ∃ k : Nat, k ≤ (nthF m.funcs i).code.length ∧ LM w m W' ∧ Whl W' gf 46 #[.string (nthF m.funcs i).name, .slice (nthF m.funcs i).pa (nthF m.funcs i).params.length (nthF m.funcs i).pc, .int .i64 (nthF m.funcs i).regs, .int .i64 (nthF m.funcs i).words, .slice (nthF m.funcs i).ca (nthF m.funcs i).code.length (nthF m.funcs i).cc] ∧ Marks (w.heap.size + 2) W' a.defers ∧ a.tmps.size = 146 ∧ a.tmps.getD 0 undef = m.val ∧ a.tmps.getD 1 undef = .pointer (some ⟨w.heap.size, 0, none⟩) ∧ a.tmps.getD 2 undef = .pointer (some ⟨w.heap.size + 1, 0, none⟩) ∧ a.tmps.getD 3 undef = .int .i64 i ∧ a.tmps.getD 4 undef = .pointer (some ⟨gf, 0, none⟩) ∧ a.tmps.getD 5 undef = .int .i64 k
def InnMu (m : ModD) (i : Nat) (a : Act) (_ : World) : Nat := (nthF m.funcs i).code.length - (intOf (a.tmps.getD 5 undef)).toNat
theorem nthX_wfL' {xs : List InsD} (h : ∀ x, x ∈ xs → x.Wf) {k : Nat} (hk : k < xs.length) : (nthX xs k).Wf := by
  have : nthX xs k ∈ xs := by simp [nthX, List.getD, hk]
  exact h _ this
theorem fcells {W : World} {g : Nat} {t : TypeId} {v0 v1 v2 v3 v4 : Value} (h : Whl W g t #[v0, v1, v2, v3, v4]) : W.cell? ⟨g, 0, none⟩ = some v0 ∧ W.cell? ⟨g, 1, none⟩ = some v1 ∧ W.cell? ⟨g, 2, none⟩ = some v2 ∧ W.cell? ⟨g, 3, none⟩ = some v3 ∧ W.cell? ⟨g, 4, none⟩ = some v4 := ⟨h.cell 0, h.cell 1, h.cell 2, h.cell 3, h.cell 4⟩
end Go.Proofs.YtpmffclepnkedaaDoor
