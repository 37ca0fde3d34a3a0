/-
  Layer 9 (code): the calls whose answers the document fixes: fixed() answers true.
-/
import Derived.Test.YtpmffclepnkedaaDoorTold
import Derived.Test.YtpmffclepnkedaaDoorMayP
import Derived.Test.YtpmffclepnkedaaDoorSameP
namespace Go.Proofs.YtpmffclepnkedaaDoor
open Go.RowKit Go.Shelf
set_option linter.unusedSimpArgs false
set_option linter.unusedVariables false
attribute [local go_sem] Oper.semAt_some

/-- The module that fixed makes; its instruction's B. -/
def fixF (G : Nat) (b : Int) : FuncD := ⟨strOf [102], none, 0, [], 1, 0, some ⟨G, 0, none⟩, 1, [⟨0, 0, b, 0, 0⟩]⟩
def fixM (G : Nat) (b : Int) : ModD := ⟨none, 0, [], some ⟨G + 1, 0, none⟩, 1, [fixF G b]⟩
theorem toList_strOf (l : List UInt8) : (strOf l).toList = l := by rw [ByteArray.toList_eq]; rfl
theorem fix_find1 (G : Nat) (b : Int) : findD (fixM G b).funcs (strOf [102]) = 0 := by
  have : eqN (nthF [fixF G b] 0).name (strOf [102]) = true := by simp [eqN, nthF, fixF]
  simp only [fixM, findD, List.length_cons, List.length_nil, findFrom, this, if_true]; rfl
theorem fix_find2 (G : Nat) (b : Int) : findD (fixM G b).funcs (strOf [103]) = -1 := by
  have : eqN (nthF [fixF G b] 0).name (strOf [103]) = false := by simp [eqN, nthF, fixF, toList_strOf]
  simp [fixM, findD, findFrom, this]
theorem fix_whole (G : Nat) (b : Int) : wholeE (fixM G b) 0 = 0 := by
  have h1 : findD (fixM G b).funcs (nthF (fixM G b).funcs 0).name = 0 := fix_find1 G b
  have h2 : isNameB (nthF (fixM G b).funcs 0).name = true := by rfl
  unfold wholeE
  rw [h1, h2]; rfl
theorem fix_may0 (G : Nat) : mayD (fixM G 0) = ⟨0, 0, 0⟩ := by
  have hw : wholeD (fixM G 0) = -1 := by
    have : okWhole (fixM G 0) 0 = true := by rw [okWhole, fix_whole]; rfl
    show badFrom _ 0 1 = -1
    rw [badFrom, this]; rfl
  exact mayD_6 (show ¬ 16 < 0 by decide) rfl (show ¬ 32 < 1 by decide) hw rfl
theorem fix_may3 (G : Nat) : mayD (fixM G 3) = ⟨62, 0, 0⟩ := by
  have hw : wholeD (fixM G 3) = -1 := by
    have : okWhole (fixM G 3) 0 = true := by rw [okWhole, fix_whole]; rfl
    show badFrom _ 0 1 = -1
    rw [badFrom, this]; rfl
  rw [mayD_5 (m := fixM G 3) (k := 0) (show ¬ 16 < 0 by decide) rfl (show ¬ 32 < 1 by decide) hw rfl]; rfl
theorem fix_same (G : Nat) : sameD (fixM G 3) (fixM G 3) = true := by
  have : sameFs (fixM G 3).funcs (fixM G 3).funcs 0 = true := by
    have : eqN (nthF (fixM G 3).funcs 0).name (nthF (fixM G 3).funcs 0).name = true := by simp [eqN]
    simp only [sameFs, sameF, this, Bool.true_and]; rfl
  have h2 : eqTo (fixM G 3).funcs.length (fixM G 3).funcs.length (sameFs (fixM G 3).funcs (fixM G 3).funcs) = true := by
    show (decide ((1 : Nat) = 1) && (true && sameFs (fixM G 3).funcs (fixM G 3).funcs 0)) = true
    rw [this]; rfl
  simp only [sameD, h2, Bool.and_true]; rfl
theorem fix_wf (G : Nat) (b : Int) (hb : b = 0 ∨ b = 3) : (fixM G b).Wf := by
  refine ⟨fun t ht => by simp [fixM] at ht, by simp [fixM], fun f hf => ?_, by simp [fixM]⟩
  obtain rfl : f = fixF G b := by simpa [fixM] using hf
  refine ⟨?_, fun s hs => by simp [fixF] at hs, by simp [fixF], ⟨by simp [fixF], by simp [fixF]⟩, ⟨by simp [fixF], by simp [fixF]⟩, fun y hy => ?_, by simp [fixF]⟩
  · show (strOf [102]).size ≤ maxLen
    unfold maxLen; decide
  · obtain rfl : y = ⟨0, 0, b, 0, 0⟩ := by simpa [fixF] using hy
    rcases hb with rfl | rfl <;> exact ⟨⟨by decide, by decide⟩, ⟨by decide, by decide⟩, ⟨by decide, by decide⟩, ⟨by decide, by decide⟩, ⟨by decide, by decide⟩⟩
/-- What lies in memory while fixed runs: the module's three blocks, and n. -/
structure FMem (w : World) (b n : Int) (W : World) : Prop where
  below : Below w.heap.size w W
  bc : Whl W w.heap.size 27 #[.int .i64 0, .int .i64 0, .int .i64 b, .int .i64 0, .int .i64 0]
  bf : Whl W (w.heap.size + 1) 46 #[.string (strOf [102]), .slice none 0 0, .int .i64 1, .int .i64 0, .slice (some ⟨w.heap.size, 0, none⟩) 1 1]
  bm : Whl W (w.heap.size + 1 + 1) 33 #[.slice none 0 0, .slice (some ⟨w.heap.size + 1, 0, none⟩) 1 1]
  bn : Whl W (w.heap.size + 1 + 1 + 1) 3 #[.int .i64 n]
theorem FMem.grown {w W W' : World} {b n : Int} {row : Option Nat} {B : Nat} (h : FMem w b n W) (hg : W.grownBy W' row) (hw : w.heap.size ≤ B)
    (hr : ∀ r, row = some r → B ≤ r ∧ ∃ o : Obj, W.heap[r]? = some o ∧ o.isCells = false) : FMem w b n W' :=
  ⟨h.below.grown hg h.below.size (fun k hk => by have := (hr k hk).1; omega), h.bc.grown hg (whl_ne_row h.bc hr), h.bf.grown hg (whl_ne_row h.bf hr), h.bm.grown hg (whl_ne_row h.bm hr), h.bn.grown hg (whl_ne_row h.bn hr)⟩
theorem FMem.put {w W : World} {b n n2 : Int} {v : Value} (h : FMem w b n W) (hv : v = .int .i64 n2) : FMem w b n2 (W.setCell ⟨w.heap.size + 1 + 1 + 1, 0, none⟩ v) := by
  subst hv
  exact ⟨h.below.setCell (by first | (simp; done) | (simp; omega)) _, h.bc.far (by first | (simp; done) | (simp; omega)) _, h.bf.far (by first | (simp; done) | (simp; omega)) _, h.bm.far (by simp) _, by simpa using h.bn.put 0 (.int .i64 n2)⟩
theorem FMem.keepPut {w W : World} {v : Value} : KeepI w.heap.size (w.heap.size + 1 + 1 + 1 + 1) W (W.setCell ⟨w.heap.size + 1 + 1 + 1, 0, none⟩ v) :=
  ⟨(Below.refl _ W).setCell (by simp; omega) _, fun k o hk ho _ => (Below.heap_setCell W ⟨w.heap.size + 1 + 1 + 1, 0, none⟩ v k (by simp; omega)).trans ho⟩
theorem FMem.go {w W W' : World} {b n : Int} (h : FMem w b n W) (hb : Below W.heap.size W W') : FMem w b n W' := ⟨below_step h.below hb, h.bc.below' hb, h.bf.below' hb, h.bm.below' hb, h.bn.below' hb⟩
theorem FMem.start (w : World) : FMem w 0 0 ((((((w.alloc (.cells #[.int .i64 0, .int .i64 0, .int .i64 0, .int .i64 0, .int .i64 0] 27)).alloc (.cells #[.string (strOf [102]), .slice none 0 0, .int .i64 1, .int .i64 0, .slice (some ⟨w.heap.size, 0, none⟩) 1 1] 46)).alloc (.cells #[.slice none 0 0, .slice (some ⟨w.heap.size + 1, 0, none⟩) 1 1] 33)).alloc (.cells #[.int .i64 0] 3)).alloc (.cells #[.int .i64 3, .int .i64 1, .int .i64 2, .int .i64 7, .int .i64 0] 27)).alloc (.cells #[.int .i64 0] 3)) ∧ Whl ((((((w.alloc (.cells #[.int .i64 0, .int .i64 0, .int .i64 0, .int .i64 0, .int .i64 0] 27)).alloc (.cells #[.string (strOf [102]), .slice none 0 0, .int .i64 1, .int .i64 0, .slice (some ⟨w.heap.size, 0, none⟩) 1 1] 46)).alloc (.cells #[.slice none 0 0, .slice (some ⟨w.heap.size + 1, 0, none⟩) 1 1] 33)).alloc (.cells #[.int .i64 0] 3)).alloc (.cells #[.int .i64 3, .int .i64 1, .int .i64 2, .int .i64 7, .int .i64 0] 27)).alloc (.cells #[.int .i64 0] 3)) (w.heap.size + 1 + 1 + 1 + 1) 27 #[.int .i64 3, .int .i64 1, .int .i64 2, .int .i64 7, .int .i64 0] ∧ Whl ((((((w.alloc (.cells #[.int .i64 0, .int .i64 0, .int .i64 0, .int .i64 0, .int .i64 0] 27)).alloc (.cells #[.string (strOf [102]), .slice none 0 0, .int .i64 1, .int .i64 0, .slice (some ⟨w.heap.size, 0, none⟩) 1 1] 46)).alloc (.cells #[.slice none 0 0, .slice (some ⟨w.heap.size + 1, 0, none⟩) 1 1] 33)).alloc (.cells #[.int .i64 0] 3)).alloc (.cells #[.int .i64 3, .int .i64 1, .int .i64 2, .int .i64 7, .int .i64 0] 27)).alloc (.cells #[.int .i64 0] 3)) (w.heap.size + 1 + 1 + 1 + 1 + 1) 3 #[.int .i64 0] := by
  refine ⟨⟨?_, ?_, ?_, ?_, ?_⟩, ?_, ?_⟩
  · repeat (first | exact Below.refl _ _ | with_reducible apply below_alloc)
  · have := Whl.new w 27 #[.int .i64 0, .int .i64 0, .int .i64 0, .int .i64 0, .int .i64 0]
    exact (((((this.alloc _).alloc _).alloc _).alloc _).alloc _)
  · have := Whl.new (w.alloc (.cells #[.int .i64 0, .int .i64 0, .int .i64 0, .int .i64 0, .int .i64 0] 27)) 46 #[.string (strOf [102]), .slice none 0 0, .int .i64 1, .int .i64 0, .slice (some ⟨w.heap.size, 0, none⟩) 1 1]
    simp only [World.size_alloc] at this
    exact ((((this.alloc _).alloc _).alloc _).alloc _)
  · have := Whl.new ((w.alloc (.cells #[.int .i64 0, .int .i64 0, .int .i64 0, .int .i64 0, .int .i64 0] 27)).alloc (.cells #[.string (strOf [102]), .slice none 0 0, .int .i64 1, .int .i64 0, .slice (some ⟨w.heap.size, 0, none⟩) 1 1] 46)) 33 #[.slice none 0 0, .slice (some ⟨w.heap.size + 1, 0, none⟩) 1 1]
    simp only [World.size_alloc] at this
    exact (((this.alloc _).alloc _).alloc _)
  · have := Whl.new (((w.alloc (.cells #[.int .i64 0, .int .i64 0, .int .i64 0, .int .i64 0, .int .i64 0] 27)).alloc (.cells #[.string (strOf [102]), .slice none 0 0, .int .i64 1, .int .i64 0, .slice (some ⟨w.heap.size, 0, none⟩) 1 1] 46)).alloc (.cells #[.slice none 0 0, .slice (some ⟨w.heap.size + 1, 0, none⟩) 1 1] 33)) 3 #[.int .i64 0]
    simp only [World.size_alloc] at this
    exact ((this.alloc _).alloc _)
  · have := Whl.new ((((w.alloc (.cells #[.int .i64 0, .int .i64 0, .int .i64 0, .int .i64 0, .int .i64 0] 27)).alloc (.cells #[.string (strOf [102]), .slice none 0 0, .int .i64 1, .int .i64 0, .slice (some ⟨w.heap.size, 0, none⟩) 1 1] 46)).alloc (.cells #[.slice none 0 0, .slice (some ⟨w.heap.size + 1, 0, none⟩) 1 1] 33)).alloc (.cells #[.int .i64 0] 3)) 27 #[.int .i64 3, .int .i64 1, .int .i64 2, .int .i64 7, .int .i64 0]
    simp only [World.size_alloc] at this
    exact (this.alloc _)
  · have := Whl.new (((((w.alloc (.cells #[.int .i64 0, .int .i64 0, .int .i64 0, .int .i64 0, .int .i64 0] 27)).alloc (.cells #[.string (strOf [102]), .slice none 0 0, .int .i64 1, .int .i64 0, .slice (some ⟨w.heap.size, 0, none⟩) 1 1] 46)).alloc (.cells #[.slice none 0 0, .slice (some ⟨w.heap.size + 1, 0, none⟩) 1 1] 33)).alloc (.cells #[.int .i64 0] 3)).alloc (.cells #[.int .i64 3, .int .i64 1, .int .i64 2, .int .i64 7, .int .i64 0] 27)) 3 #[.int .i64 0]
    simp only [World.size_alloc] at this
    exact this
def foldN (pre : List Int) : Int := pre.foldl (fun n r => wrap64 (wrap64 (10 * n) + r)) 0
theorem foldN_snoc (pre : List Int) (r : Int) : foldN (pre ++ [r]) = wrap64 (wrap64 (10 * foldN pre) + r) := by simp [foldN]
theorem FMem.ok {w W : World} {b n : Int} (h : FMem w b n W) : ModOk W W.heap.size (fixM w.heap.size b) := by
  refine ⟨fun h0 => absurd h0 (by show ¬ 0 < 0; omega), fun _ => ⟨w.heap.size + 1, 0, rfl, h.bf.lt, fun k hk j hj => ?_⟩, fun k hk => ?_⟩
  · obtain rfl : k = 0 := by have : k < 1 := hk; omega
    have hj' : j < 5 := hj
    obtain rfl | rfl | rfl | rfl | rfl : j = 0 ∨ j = 1 ∨ j = 2 ∨ j = 3 ∨ j = 4 := by omega
    · exact h.bf.cell 0
    · exact h.bf.cell 1
    · exact h.bf.cell 2
    · exact h.bf.cell 3
    · exact h.bf.cell 4
  · obtain rfl : k = 0 := by have : k < 1 := hk; omega
    refine ⟨fun h0 => absurd h0 (by show ¬ 0 < 0; omega), fun _ => ⟨w.heap.size, 0, rfl, h.bc.lt, fun k hk j hj => ?_⟩⟩
    obtain rfl : k = 0 := by have : k < 1 := hk; omega
    have hj' : j < 5 := hj
    obtain rfl | rfl | rfl | rfl | rfl : j = 0 ∨ j = 1 ∨ j = 2 ∨ j = 3 ∨ j = 4 := by omega
    · exact h.bc.cell 0
    · exact h.bc.cell 1
    · exact h.bc.cell 2
    · exact h.bc.cell 3
    · exact h.bc.cell 4
theorem fix_May0 {w W : World} {n : Int} (h : FMem w 0 n W) (ht : TabOk w) : Calls Tryd.prog 20 #[.agg #[.slice none 0 0, .slice (some ⟨w.heap.size + 1, 0, none⟩) 1 1]] W fun e w' => e = .returned (.agg #[.int .i64 0, .int .i64 0, .int .i64 0]) ∧ Below W.heap.size W w' := by
  have := mayP (fixM w.heap.size 0) W (fix_wf _ _ (.inl rfl)) h.ok (ht.below h.below ht.size)
  rw [fix_may0] at this
  exact this
theorem fix_May3 {w W : World} {n : Int} (h : FMem w 3 n W) (ht : TabOk w) : Calls Tryd.prog 20 #[.agg #[.slice none 0 0, .slice (some ⟨w.heap.size + 1, 0, none⟩) 1 1]] W fun e w' => e = .returned (.agg #[.int .i64 62, .int .i64 0, .int .i64 0]) ∧ Below W.heap.size W w' := by
  have := mayP (fixM w.heap.size 3) W (fix_wf _ _ (.inr rfl)) h.ok (ht.below h.below ht.size)
  rw [fix_may3] at this
  exact this
theorem fix_Find1 {w W : World} {n : Int} (h : FMem w 3 n W) : Calls Tryd.prog 23 #[.agg #[.slice none 0 0, .slice (some ⟨w.heap.size + 1, 0, none⟩) 1 1], .string { data := #[102] }] W fun e w' => e = .returned (.int .i64 0) ∧ Below W.heap.size W w' := by
  have := findP (fixM w.heap.size 3) (strOf [102]) W (by show 1 ≤ _; omega) h.ok
  rw [fix_find1] at this
  exact this
theorem fix_Find2 {w W : World} {n : Int} (h : FMem w 3 n W) : Calls Tryd.prog 23 #[.agg #[.slice none 0 0, .slice (some ⟨w.heap.size + 1, 0, none⟩) 1 1], .string { data := #[103] }] W fun e w' => e = .returned (.int .i64 (-1)) ∧ Below W.heap.size W w' := by
  have := findP (fixM w.heap.size 3) (strOf [103]) W (by show 1 ≤ _; omega) h.ok
  rw [fix_find2] at this
  exact this
theorem fix_Same {w W : World} {n : Int} (h : FMem w 3 n W) : Calls Tryd.prog 25 #[.agg #[.slice none 0 0, .slice (some ⟨w.heap.size + 1, 0, none⟩) 1 1], .agg #[.slice none 0 0, .slice (some ⟨w.heap.size + 1, 0, none⟩) 1 1]] W fun e w' => e = .returned (.bool true) ∧ Below W.heap.size W w' := by
  have := sameP (fixM w.heap.size 3) (fixM w.heap.size 3) W (fix_wf _ _ (.inr rfl)) (fix_wf _ _ (.inr rfl)) h.ok h.ok
  rw [fix_same] at this
  exact this
theorem fix_Word {w : World} (ht : TabOk w) : Calls Tryd.prog 14 #[.int .i64 19] w fun e w' => e = .returned (.string { data := #[99, 97, 108, 108] }) ∧ Below w.heap.size w w' := wordP 19 w ht
theorem fix_Weight {w : World} (ht : TabOk w) : Calls Tryd.prog 12 #[.int .i64 6] w fun e w' => e = .returned (.int .i64 8) ∧ Below w.heap.size w w' := weightP 6 w ht
theorem fix_Known (w : World) : Calls Tryd.prog 10 #[.int .i64 0] w fun e w' => e = .returned (.bool true) ∧ w = w' := knownP 0 w
theorem fix_Writes {w : World} (ht : TabOk w) : Calls Tryd.prog 16 #[.agg #[.int .i64 18, .int .i64 2, .int .i64 0, .int .i64 0, .int .i64 0]] w fun e w' => e = .returned (.int .i64 2) ∧ Below w.heap.size w w' := writesP 18 2 0 0 0 w ht
theorem FMem.alloc {w W : World} {b n : Int} (h : FMem w b n W) (o : Obj) : FMem w b n (W.alloc o) := ⟨below_alloc h.below _, h.bc.alloc _, h.bf.alloc _, h.bm.alloc _, h.bn.alloc _⟩
theorem FMem.setB {w W : World} {n : Int} (h : FMem w 0 n W) : FMem w 3 n (W.setCell ⟨w.heap.size, 2, none⟩ (.int .i64 3)) :=
  ⟨h.below.setCell (by simp) _, by simpa using h.bc.put 2 (.int .i64 3), h.bf.far (by simp) _, h.bm.far (by first | (simp; done) | (simp; omega)) _, h.bn.far (by first | (simp; done) | (simp; omega)) _⟩
theorem FMem.cells {w W : World} {b n : Int} (h : FMem w b n W) : W.cell? ⟨w.heap.size + 1 + 1, 0, none⟩ = some (.slice none 0 0) ∧ W.cell? ⟨w.heap.size + 1 + 1, 1, none⟩ = some (.slice (some ⟨w.heap.size + 1, 0, none⟩) 1 1) ∧ W.cell? ⟨w.heap.size + 1 + 1 + 1, 0, none⟩ = some (.int .i64 n) ∧
    W.cell? ⟨w.heap.size + 1, 4, none⟩ = some (.slice (some ⟨w.heap.size, 0, none⟩) 1 1) ∧ W.cell? ⟨w.heap.size, 2, none⟩ = some (.int .i64 b) ∧ W.frozen? ⟨w.heap.size, 2, none⟩ = false :=
  ⟨h.bm.cell 0, h.bm.cell 1, h.bn.cell 0, h.bf.cell 4, h.bc.cell 2, h.bc.frozen 2⟩
set_option maxRecDepth 100000 in
set_option maxHeartbeats 4000000 in
theorem fixedL (w : World) (ht : TabOk w) :
    Calls Tryd.prog 9 #[] w fun e w' => e = .returned (.bool true) ∧ Below w.heap.size w w' := by
  refine (callsIn_wide (n := 9)).1 ?_
  refine callsIn_of_wp_marks Tryd.func9 rfl trivial ?_ rfl
  simp only [Tryd.ntmps9, List.size_toArray, List.length_cons, List.length_nil, Nat.reduceAdd, Nat.reduceSub, Array.replicate_succ, Array.replicate_zero, List.push_toArray, List.append_toArray, List.nil_append, List.cons_append]
  have hnil : ∀ w2 : World, Sem.run Tryd.prog (binOp BinOp.eql 48 (.func (.func 43) #[] #[.pointer (some ⟨w.heap.size + 1 + 1 + 1 + 1, 0, none⟩), .pointer (some ⟨w.heap.size + 1 + 1 + 1 + 1 + 1, 0, none⟩)]) .nilFunc) w2 = .ok (.bool false) w2 := fun _ => by kernel_rfl
  gi_wp2_with (refine ⟨trivial, ?_⟩; gi_at_call 26; refine (callsIn_wide.2 (readsP ⟨3, 1, 2, 7, 0⟩ 0 _)).mono ?_; rintro e w2 ⟨rfl, rfl⟩)
  obtain ⟨hT0, k2, k3⟩ := FMem.start w
  have hsz2 : ((((((w.alloc (.cells #[.int .i64 0, .int .i64 0, .int .i64 0, .int .i64 0, .int .i64 0] 27)).alloc (.cells #[.string (strOf [102]), .slice none 0 0, .int .i64 1, .int .i64 0, .slice (some ⟨w.heap.size, 0, none⟩) 1 1] 46)).alloc (.cells #[.slice none 0 0, .slice (some ⟨w.heap.size + 1, 0, none⟩) 1 1] 33)).alloc (.cells #[.int .i64 0] 3)).alloc (.cells #[.int .i64 3, .int .i64 1, .int .i64 2, .int .i64 7, .int .i64 0] 27)).alloc (.cells #[.int .i64 0] 3)).heap.size = w.heap.size + 1 + 1 + 1 + 1 + 1 + 1 := by simp
  change Code.wpIn _ _ _ _ _ _ ((((((w.alloc (.cells #[.int .i64 0, .int .i64 0, .int .i64 0, .int .i64 0, .int .i64 0] 27)).alloc (.cells #[.string (strOf [102]), .slice none 0 0, .int .i64 1, .int .i64 0, .slice (some ⟨w.heap.size, 0, none⟩) 1 1] 46)).alloc (.cells #[.slice none 0 0, .slice (some ⟨w.heap.size + 1, 0, none⟩) 1 1] 33)).alloc (.cells #[.int .i64 0] 3)).alloc (.cells #[.int .i64 3, .int .i64 1, .int .i64 2, .int .i64 7, .int .i64 0] 27)).alloc (.cells #[.int .i64 0] 3))
  generalize ((((((w.alloc (.cells #[.int .i64 0, .int .i64 0, .int .i64 0, .int .i64 0, .int .i64 0] 27)).alloc (.cells #[.string (strOf [102]), .slice none 0 0, .int .i64 1, .int .i64 0, .slice (some ⟨w.heap.size, 0, none⟩) 1 1] 46)).alloc (.cells #[.slice none 0 0, .slice (some ⟨w.heap.size + 1, 0, none⟩) 1 1] 33)).alloc (.cells #[.int .i64 0] 3)).alloc (.cells #[.int .i64 3, .int .i64 1, .int .i64 2, .int .i64 7, .int .i64 0] 27)).alloc (.cells #[.int .i64 0] 3)) = W2 at hT0 k2 k3 hsz2 ⊢
  have ht2 : TabOk W2 := ht.below hT0.below ht.size
  refine wpIn_rangeFunc_ownF (F := Fence.wide) rfl (by omega) (gf := 43) (lb := #[.pointer (some ⟨w.heap.size + 1 + 1 + 1 + 1, 0, none⟩), .pointer (some ⟨w.heap.size + 1 + 1 + 1 + 1 + 1, 0, none⟩)]) rfl trivial (enters_of Tryd.func43 (by kernel_rfl) rfl)
    (reads_stops 8 (by omega) (w.heap.size + 1 + 1 + 1 + 1) (w.heap.size + 1 + 1 + 1 + 1 + 1) w.heap.size (w.heap.size + 1 + 1 + 1 + 1) ⟨3, 1, 2, 7, 0⟩ 0 W2 k2 k3 (.inr (Nat.le_refl _)) (by omega) (by omega) ht2) keepI_t (keepI_b (by omega)) (Below.refl _ _) (fun _ => rfl)
    (fun pre W => FMem w 0 (foldN pre) W) (fun _ _ _ => False)
    (fun s A B row hs hg hr => hs.grown hg (by omega) hr) (fun _ _ _ _ _ hs _ _ => hs) hT0
    (fun y => { tmps := #[.bool false, .pointer (some ⟨w.heap.size + 1 + 1, 0, none⟩), .pointer (some ⟨w.heap.size + 1 + 1 + 1, 0, none⟩), .func (.func 43) #[] #[.pointer (some ⟨w.heap.size + 1 + 1 + 1 + 1, 0, none⟩), .pointer (some ⟨w.heap.size + 1 + 1 + 1 + 1 + 1, 0, none⟩)], .int .i64 y, undef, .agg #[.int .i64 0, .int .i64 0, .int .i64 0, .int .i64 0, .int .i64 0], .slice (some ⟨w.heap.size, 0, none⟩) 1 1, .agg #[.string (strOf [102]), .slice none 0 0, .int .i64 1, .int .i64 0, .slice (some ⟨w.heap.size, 0, none⟩) 1 1], .slice (some ⟨w.heap.size + 1, 0, none⟩) 1 1, .agg #[.slice none 0 0, .slice (some ⟨w.heap.size + 1, 0, none⟩) 1 1], .agg #[.int .i64 3, .int .i64 1, .int .i64 2, .int .i64 7, .int .i64 0], .func (.func 43) #[] #[.pointer (some ⟨w.heap.size + 1 + 1 + 1 + 1, 0, none⟩), .pointer (some ⟨w.heap.size + 1 + 1 + 1 + 1 + 1, 0, none⟩)], .func (.func 43) #[] #[.pointer (some ⟨w.heap.size + 1 + 1 + 1 + 1, 0, none⟩), .pointer (some ⟨w.heap.size + 1 + 1 + 1 + 1 + 1, 0, none⟩)], .bool false, .func (.func 43) #[] #[.pointer (some ⟨w.heap.size + 1 + 1 + 1 + 1, 0, none⟩), .pointer (some ⟨w.heap.size + 1 + 1 + 1 + 1 + 1, 0, none⟩)], .int .i64 y, undef, undef, undef, undef, undef, undef, undef, undef, undef, undef, undef, undef, undef, undef, undef, undef, undef, undef, undef, undef, undef, undef, undef, undef, undef, undef, undef, undef, undef, undef, undef, undef, undef, undef, undef, undef, undef, undef, undef, undef, undef, undef, undef, undef, undef, undef, undef, undef, undef, undef, undef, undef, undef, undef, undef, undef, undef], defers := [] }) ?assign ?body ?done ?stop
  case assign =>
    intro l y W K hK
    gi_wp2
    exact hK
  case body =>
    rintro l pre y W hT _
    have c3 : W.cell? ⟨w.heap.size + 1 + 1 + 1, 0, none⟩ = some (.int .i64 (foldN pre)) := hT.bn.cell 0
    have f3 := hT.bn.frozen 0
    gi_wp2
    exact ⟨KeepsOthers.setCell _ _ _, FMem.keepPut, hT.put (by rw [foldN_snoc])⟩
  case done =>
    rintro D ys W hD rfl hT hK
    have hn : foldN (readsD ⟨3, 1, 2, 7, 0⟩ 0) = 27 := by
      rw [show readsD ⟨3, 1, 2, 7, 0⟩ 0 = [2, 7] from rfl]
      simp [foldN, wrap64]
    rw [hn] at hT
    obtain ⟨a0, b0, c0, d0, e0, f0⟩ := hT.cells
    gi_wp2_with (first
      | (refine ⟨trivial, ?_⟩; gi_at_call 20; first
          | (have u := hb3; refine (callsIn_wide.2 (fix_May3 hX ht)).mono ?_; rintro e w4 ⟨rfl, hb4⟩; have hT4 := hX.go hb4; obtain ⟨a4, b4, c4, d4, e4, f4⟩ := hT4.cells; have l4a : w.heap.size < w4.heap.size := hT4.bc.lt; have l4b : w.heap.size + 1 < w4.heap.size := hT4.bf.lt; have l4c : w.heap.size + 1 + 1 < w4.heap.size := hT4.bm.lt; have l4d : w.heap.size + 1 + 1 + 1 < w4.heap.size := hT4.bn.lt)
          | (refine (callsIn_wide.2 (fix_May0 hT ht)).mono ?_; rintro e w3 ⟨rfl, hb3⟩; have hT3 := hT.go hb3; obtain ⟨a3, b3, c3, d3, e3, f3⟩ := hT3.cells; have l3a : w.heap.size < w3.heap.size := hT3.bc.lt; have l3b : w.heap.size + 1 < w3.heap.size := hT3.bf.lt; have l3c : w.heap.size + 1 + 1 < w3.heap.size := hT3.bm.lt; have l3d : w.heap.size + 1 + 1 + 1 < w3.heap.size := hT3.bn.lt; have hX := hT3.setB.alloc (.cells #[.int .i64 0, .int .i64 0, .int .i64 0] 37)))
      | (refine ⟨trivial, ?_⟩; gi_at_call 23; first
          | (have u := hb5; refine (callsIn_wide.2 (fix_Find2 hT5)).mono ?_; rintro e w6 ⟨rfl, hb6⟩; have hT6 := hT5.go hb6; obtain ⟨a6, b6, c6, d6, e6, f6⟩ := hT6.cells; have l6a : w.heap.size < w6.heap.size := hT6.bc.lt; have l6b : w.heap.size + 1 < w6.heap.size := hT6.bf.lt; have l6c : w.heap.size + 1 + 1 < w6.heap.size := hT6.bm.lt; have l6d : w.heap.size + 1 + 1 + 1 < w6.heap.size := hT6.bn.lt)
          | (refine (callsIn_wide.2 (fix_Find1 hT4)).mono ?_; rintro e w5 ⟨rfl, hb5⟩; have hT5 := hT4.go hb5; obtain ⟨a5, b5, c5, d5, e5, f5⟩ := hT5.cells; have l5a : w.heap.size < w5.heap.size := hT5.bc.lt; have l5b : w.heap.size + 1 < w5.heap.size := hT5.bf.lt; have l5c : w.heap.size + 1 + 1 < w5.heap.size := hT5.bm.lt; have l5d : w.heap.size + 1 + 1 + 1 < w5.heap.size := hT5.bn.lt))
      | (refine ⟨trivial, ?_⟩; gi_at_call 14; refine (callsIn_wide.2 (fix_Word (ht.below hT6.below ht.size))).mono ?_; rintro e w7 ⟨rfl, hb7⟩; have hT7 := hT6.go hb7; obtain ⟨a7, b7, c7, d7, e7, f7⟩ := hT7.cells; have l7a : w.heap.size < w7.heap.size := hT7.bc.lt; have l7b : w.heap.size + 1 < w7.heap.size := hT7.bf.lt; have l7c : w.heap.size + 1 + 1 < w7.heap.size := hT7.bm.lt; have l7d : w.heap.size + 1 + 1 + 1 < w7.heap.size := hT7.bn.lt)
      | (refine ⟨trivial, ?_⟩; gi_at_call 12; refine (callsIn_wide.2 (fix_Weight (ht.below hT7.below ht.size))).mono ?_; rintro e w8 ⟨rfl, hb8⟩; have hT8 := hT7.go hb8; obtain ⟨a8, b8, c8, d8, e8, f8⟩ := hT8.cells; have l8a : w.heap.size < w8.heap.size := hT8.bc.lt; have l8b : w.heap.size + 1 < w8.heap.size := hT8.bf.lt; have l8c : w.heap.size + 1 + 1 < w8.heap.size := hT8.bm.lt; have l8d : w.heap.size + 1 + 1 + 1 < w8.heap.size := hT8.bn.lt)
      | (refine ⟨trivial, ?_⟩; gi_at_call 10; refine (callsIn_wide.2 (fix_Known _)).mono ?_; rintro e w' ⟨rfl, rfl⟩)
      | (refine ⟨trivial, ?_⟩; gi_at_call 16; refine (callsIn_wide.2 (fix_Writes (ht.below hT8.below ht.size))).mono ?_; rintro e w9 ⟨rfl, hb9⟩; have hT9 := hT8.go hb9; obtain ⟨a9, b9, c9, d9, e9, f9⟩ := hT9.cells; have l9a : w.heap.size < w9.heap.size := hT9.bc.lt; have l9b : w.heap.size + 1 < w9.heap.size := hT9.bf.lt; have l9c : w.heap.size + 1 + 1 < w9.heap.size := hT9.bm.lt; have l9d : w.heap.size + 1 + 1 + 1 < w9.heap.size := hT9.bn.lt)
      | (refine ⟨trivial, ?_⟩; gi_at_call 25; refine (callsIn_wide.2 (fix_Same hT9)).mono ?_; rintro e w10 ⟨rfl, hb10⟩; have hT10 := hT9.go hb10; obtain ⟨a10, b10, c10, d10, e10, f10⟩ := hT10.cells; have l10a : w.heap.size < w10.heap.size := hT10.bc.lt; have l10b : w.heap.size + 1 < w10.heap.size := hT10.bf.lt; have l10c : w.heap.size + 1 + 1 < w10.heap.size := hT10.bm.lt; have l10d : w.heap.size + 1 + 1 + 1 < w10.heap.size := hT10.bn.lt))
    have hD0 : D < W.heap.size := by
      rcases Nat.lt_or_ge D W.heap.size with k | k
      · exact k
      · rw [Array.getElem?_eq_none k] at hK; cases hK
    have hK3 := (hb3.block D hD0).trans hK
    have z3 := hb3.size
    have hKX : ((w3.setCell ⟨w.heap.size, 2, none⟩ (.int .i64 3)).alloc (.cells #[.int .i64 0, .int .i64 0, .int .i64 0] 37)).heap[D]? = some (.deferred (some [])) :=
      (Below.heap_alloc _ _ D (by simp; omega)).trans ((Below.heap_setCell _ _ _ D (by simp; omega)).trans hK3)
    have hK4 := (hb4.block D (by simp; omega)).trans hKX
    have z4 := hb4.size
    simp at z4
    have hK5 := (hb5.block D (by omega)).trans hK4
    have z5 := hb5.size
    have hK6 := (hb6.block D (by omega)).trans hK5
    have z6 := hb6.size
    have hK7 := (hb7.block D (by omega)).trans hK6
    have z7 := hb7.size
    have hK8 := (hb8.block D (by omega)).trans hK7
    have z8 := hb8.size
    have hK9 := (hb9.block D (by omega)).trans hK8
    have z9 := hb9.size
    have hK10 := (hb10.block D (by omega)).trans hK9
    refine ⟨by simp, .inl ⟨_, _, rfl, run_takeDeferred hK10, ?_⟩⟩
    refine ⟨_, results_tmp rfl _ _ _, rfl, hT10.below.trans (belowK_b (w := w) (Nat.le_refl _) w10 D _ _ (by omega) hK10 rfl rfl)⟩
  case stop =>
    rintro D c pre W _ _ h _
    exact h.elim
end Go.Proofs.YtpmffclepnkedaaDoor
