/-
  Layer 16 (bounds): RunB.
-/
import Derived.Test.YtddobhneplfddaaDoorV34
namespace Go.Proofs.YtddobhneplfddaaDoor
set_option maxRecDepth 100000
open Go.RowKit
set_option linter.unusedSimpArgs false
set_option linter.unusedVariables false
/-- A whole block that the call has made. -/
def AtB (w0 w : World) (b : Nat) (t : TypeId) (cs : Array Value) : Prop := w0.heap.size ≤ b ∧ Whl w b t cs
theorem AtB.alloc {w0 w : World} {b : Nat} {t : TypeId} {cs : Array Value} (h : AtB w0 w b t cs) (o : Obj) : AtB w0 (w.alloc o) b t cs := ⟨h.1, h.2.alloc o⟩
theorem AtB.new {w0 w : World} (h : Below w0.heap.size w0 w) (t : TypeId) (cs : Array Value) : AtB w0 (w.alloc (.cells cs t)) w.heap.size t cs := ⟨h.size, Whl.new w t cs⟩
theorem AtB.far {w0 w : World} {b : Nat} {t : TypeId} {cs : Array Value} (h : AtB w0 w b t cs) {p : Addr} (hp : b ≠ p.block) (u : Value) : AtB w0 (w.setCell p u) b t cs := ⟨h.1, h.2.far hp u⟩
noncomputable def ops8 : Array Oper := match findR 8 (bodyOf Tryd.f15) with
  | some (.region _ ops _) => ops
  | _ => #[]
theorem mkSp {n : Nat} (hn : n ≤ 1024) (w : World) : (Instr.makeSlice 36 (.int .i64 (n : Int)) (.int .i64 (n : Int))).run Tryd.prog w = .ok (.slice (some ⟨w.heap.size, 0, none⟩) n n) (w.alloc (.cells (madeCells #[.slice none 0 0] n) 26)) := by
  obtain ⟨i0, hi, hz0, hz1, hz2⟩ := info_parts (show (Tryd.prog.info? 26).map (fun i => (i.zero, i.size, i.bytes)) = some (some (.slice none 0 0), 1, 24) by kernel_rfl)
  have := run_make (P := Tryd.prog) w 36 26 i0 (.slice none 0 0) Tryd.underlying36 hi hz0 .i64 .i64 n n (by omega) (by omega) (by rw [hz2]; omega) (by omega)
  rw [this, hz1]
  simp [Value.cells]
theorem mkIs {n : Nat} (hn : n ≤ 1024) (w : World) : (Instr.makeSlice 37 (.int .i64 (n : Int)) (.int .i64 (n : Int))).run Tryd.prog w = .ok (.slice (some ⟨w.heap.size, 0, none⟩) n n) (w.alloc (.cells (madeCells #[.slice none 0 0] n) 44)) := by
  obtain ⟨i0, hi, hz0, hz1, hz2⟩ := info_parts (show (Tryd.prog.info? 44).map (fun i => (i.zero, i.size, i.bytes)) = some (some (.slice none 0 0), 1, 24) by kernel_rfl)
  have := run_make (P := Tryd.prog) w 37 44 i0 (.slice none 0 0) Tryd.underlying37 hi hz0 .i64 .i64 n n (by omega) (by omega) (by rw [hz2]; omega) (by omega)
  rw [this, hz1]
  simp [Value.cells]
theorem mkBo {n : Nat} (hn : n ≤ 1024) (w : World) : (Instr.makeSlice 67 (.int .i64 (n : Int)) (.int .i64 (n : Int))).run Tryd.prog w = .ok (.slice (some ⟨w.heap.size, 0, none⟩) n n) (w.alloc (.cells (madeCells #[.bool false] n) 4)) := by
  obtain ⟨i0, hi, hz0, hz1, hz2⟩ := info_parts (show (Tryd.prog.info? 4).map (fun i => (i.zero, i.size, i.bytes)) = some (some (.bool false), 1, 1) by kernel_rfl)
  have := run_make (P := Tryd.prog) w 67 4 i0 (.bool false) Tryd.underlying67 hi hz0 .i64 .i64 n n (by omega) (by omega) (by rw [hz2]; omega) (by omega)
  rw [this, hz1]
  simp [Value.cells]
theorem mkIn {n : Nat} (hn : n ≤ 1024) (w : World) : (Instr.makeSlice 44 (.int .i64 (n : Int)) (.int .i64 (n : Int))).run Tryd.prog w = .ok (.slice (some ⟨w.heap.size, 0, none⟩) n n) (w.alloc (.cells (madeCells #[.int .i64 0] n) 3)) := by
  obtain ⟨i0, hi, hz0, hz1, hz2⟩ := info_parts (show (Tryd.prog.info? 3).map (fun i => (i.zero, i.size, i.bytes)) = some (some (.int .i64 0), 1, 8) by kernel_rfl)
  have := run_make (P := Tryd.prog) w 44 3 i0 (.int .i64 0) Tryd.underlying44 hi hz0 .i64 .i64 n n (by omega) (by omega) (by rw [hz2]; omega) (by omega)
  rw [this, hz1]
  simp [Value.cells]
def frB (x : Nat → Value) (n : Nat) (v9 vm v43 v45 v46 v48 v50 v51 v52 : Value) : Array Value := #[x 0, x 1, x 2, x 3, x 4, x 5, x 6, x 7, .int .i64 n, v9, x 10, x 11, x 12, x 13, x 14, x 15, x 16, x 17, x 18, x 19, x 20, x 21, x 22, x 23, x 24, x 25, x 26, x 27, x 28, x 29, x 30, x 31, x 32, x 33, x 34, x 35, x 36, x 37, x 38, x 39, x 40, x 41, vm, v43, vm, v45, v46, vm, v48, vm, v50, v51, v52, undef, undef, undef, undef, undef, undef, undef, undef, undef, undef, undef, undef, undef, undef, undef, undef, undef, undef, undef, undef, undef, undef, undef, undef, undef, undef, undef, undef, undef, undef, undef, undef, undef, undef, undef, undef, undef, undef, undef, undef, undef, undef, undef, undef, undef, undef, undef, undef, undef, undef, undef, undef, undef, undef, undef, undef, undef, undef, undef, undef, undef, undef, undef, undef, undef, undef, undef, undef, undef, undef, undef, undef, undef, undef, undef, undef, undef, undef, undef, undef, undef, undef, undef, undef, undef, undef, undef, undef, undef, undef]
def MkK (n : Nat) (w0 : World) (Q : Exit → Act → World → Prop) (x : Nat → Value) : Prop :=
  ∀ b1 b3 b6 b8 bx bp W, Below w0.heap.size w0 W → AtB w0 W b1 26 (madeCells #[.slice none 0 0] n) → AtB w0 W b3 44 (madeCells #[.slice none 0 0] n) → AtB w0 W b6 4 (madeCells #[.bool false] n) → AtB w0 W b8 3 (madeCells #[.int .i64 0] n) → AtB w0 W bx 69 #[.slice (some ⟨b1, 0, none⟩) n n, .slice (some ⟨b3, 0, none⟩) n n, .slice (some ⟨b6, 0, none⟩) n n, .slice (some ⟨b8, 0, none⟩) n n] → AtB w0 W bp 66 #[.pointer (some ⟨bx, 0, none⟩)] → Q .normal ⟨frB x n (.pointer (some ⟨bp, 0, none⟩)) (.int .i64 n) (.slice (some ⟨b1, 0, none⟩) n n) (.slice (some ⟨b3, 0, none⟩) n n) (.agg #[.slice (some ⟨b1, 0, none⟩) n n, .slice (some ⟨b3, 0, none⟩) n n]) (.slice (some ⟨b6, 0, none⟩) n n) (.slice (some ⟨b8, 0, none⟩) n n) (.agg #[.slice (some ⟨b1, 0, none⟩) n n, .slice (some ⟨b3, 0, none⟩) n n, .slice (some ⟨b6, 0, none⟩) n n, .slice (some ⟨b8, 0, none⟩) n n]) (.pointer (some ⟨bx, 0, none⟩)), []⟩ W
def PanK (Q : Exit → Act → World → Prop) : Prop := ∀ ch a a2 w, Q (.panic ch) a w → Q (.panic ch) a2 w
section
variable {n : Nat} {w0 : World} {Q : Exit → Act → World → Prop} {x : Nat → Value}
theorem mk_abcdxp (hn : n ≤ 1024) (hQp : PanK Q) (hK : MkK n w0 Q x) (b1 b3 b6 b8 bx bp : Nat) (w : World) (hB : Below w0.heap.size w0 w) (f1 : AtB w0 w b1 26 (madeCells #[.slice none 0 0] n)) (f3 : AtB w0 w b3 44 (madeCells #[.slice none 0 0] n)) (f6 : AtB w0 w b6 4 (madeCells #[.bool false] n)) (f8 : AtB w0 w b8 3 (madeCells #[.int .i64 0] n)) (f10 : AtB w0 w bx 69 #[.slice (some ⟨b1, 0, none⟩) n n, .slice (some ⟨b3, 0, none⟩) n n, .slice (some ⟨b6, 0, none⟩) n n, .slice (some ⟨b8, 0, none⟩) n n]) (f11 : AtB w0 w bp 66 #[.pointer none]) :
    wpAny Tryd.prog .any ops8 Q 1 #[true, true, true, true, true, true, true, true, true, true, true, true, false] ⟨frB x n (.pointer (some ⟨bp, 0, none⟩)) (.int .i64 n) (.slice (some ⟨b1, 0, none⟩) n n) (.slice (some ⟨b3, 0, none⟩) n n) (.agg #[.slice (some ⟨b1, 0, none⟩) n n, .slice (some ⟨b3, 0, none⟩) n n]) (.slice (some ⟨b6, 0, none⟩) n n) (.slice (some ⟨b8, 0, none⟩) n n) (.agg #[.slice (some ⟨b1, 0, none⟩) n n, .slice (some ⟨b3, 0, none⟩) n n, .slice (some ⟨b6, 0, none⟩) n n, .slice (some ⟨b8, 0, none⟩) n n]) (.pointer (some ⟨bx, 0, none⟩)), []⟩ w := by
  unfold frB
  change wpAny _ _ #[_, _, _, _, _, _, _, _, _, _, _, _, _] _ _ _ _ _
  have m1 := mkSp hn
  have m3 := mkIs hn
  have m6 := mkBo hn
  have m8 := mkIn hn
  have hne : ∀ {b t cs}, AtB w0 w b t cs → t ≠ 66 → b ≠ bp := fun h ht => whl_apart h.2 f11.2 ht
  have c0 := f11.2.cell 0
  have z0 := f11.2.frozen 0
  refine wpAny_ready (rs := [12]) (by kernel_rfl) (by simp) ?_
  refine AllReady.cons rfl (fun K hKK => ?_) AllReady.nil
  go_simp
  refine hKK _ _ ?_
  clear hKK K
  refine wpAny_done (by kernel_rfl) ?_ _
  refine hK b1 b3 b6 b8 bx bp _ (hB.setCell (p := ⟨bp, 0, none⟩) f11.1 _) (f1.far (hne f1 (by decide)) _) (f3.far (hne f3 (by decide)) _) (f6.far (hne f6 (by decide)) _) (f8.far (hne f8 (by decide)) _) (f10.far (hne f10 (by decide)) _) ⟨f11.1, ?_⟩
  simpa using f11.2.put 0 (.pointer (some ⟨bx, 0, none⟩))
theorem mk_abcdx (hn : n ≤ 1024) (hQp : PanK Q) (hK : MkK n w0 Q x) (b1 b3 b6 b8 bx : Nat) (w : World) (hB : Below w0.heap.size w0 w) (f1 : AtB w0 w b1 26 (madeCells #[.slice none 0 0] n)) (f3 : AtB w0 w b3 44 (madeCells #[.slice none 0 0] n)) (f6 : AtB w0 w b6 4 (madeCells #[.bool false] n)) (f8 : AtB w0 w b8 3 (madeCells #[.int .i64 0] n)) (f10 : AtB w0 w bx 69 #[.slice (some ⟨b1, 0, none⟩) n n, .slice (some ⟨b3, 0, none⟩) n n, .slice (some ⟨b6, 0, none⟩) n n, .slice (some ⟨b8, 0, none⟩) n n]) :
    wpAny Tryd.prog .any ops8 Q 2 #[true, true, true, true, true, true, true, true, true, true, true, false, false] ⟨frB x n undef (.int .i64 n) (.slice (some ⟨b1, 0, none⟩) n n) (.slice (some ⟨b3, 0, none⟩) n n) (.agg #[.slice (some ⟨b1, 0, none⟩) n n, .slice (some ⟨b3, 0, none⟩) n n]) (.slice (some ⟨b6, 0, none⟩) n n) (.slice (some ⟨b8, 0, none⟩) n n) (.agg #[.slice (some ⟨b1, 0, none⟩) n n, .slice (some ⟨b3, 0, none⟩) n n, .slice (some ⟨b6, 0, none⟩) n n, .slice (some ⟨b8, 0, none⟩) n n]) (.pointer (some ⟨bx, 0, none⟩)), []⟩ w := by
  unfold frB
  change wpAny _ _ #[_, _, _, _, _, _, _, _, _, _, _, _, _] _ _ _ _ _
  have m1 := mkSp hn
  have m3 := mkIs hn
  have m6 := mkBo hn
  have m8 := mkIn hn
  refine wpAny_ready (rs := [11]) (by kernel_rfl) (by simp) ?_
  refine AllReady.cons rfl (fun K hKK => ?_) ?_
  · go_simp
    refine hKK _ _ ?_
    clear hKK K
    exact mk_abcdxp hn hQp hK b1 b3 b6 b8 bx w.heap.size _ (below_alloc hB _) (f1.alloc _) (f3.alloc _) (f6.alloc _) (f8.alloc _) (f10.alloc _) (AtB.new hB _ _)
  exact AllReady.nil
theorem mk_abcdp (hn : n ≤ 1024) (hQp : PanK Q) (hK : MkK n w0 Q x) (b1 b3 b6 b8 bp : Nat) (w : World) (hB : Below w0.heap.size w0 w) (f1 : AtB w0 w b1 26 (madeCells #[.slice none 0 0] n)) (f3 : AtB w0 w b3 44 (madeCells #[.slice none 0 0] n)) (f6 : AtB w0 w b6 4 (madeCells #[.bool false] n)) (f8 : AtB w0 w b8 3 (madeCells #[.int .i64 0] n)) (f11 : AtB w0 w bp 66 #[.pointer none]) :
    wpAny Tryd.prog .any ops8 Q 2 #[true, true, true, true, true, true, true, true, true, true, false, true, false] ⟨frB x n (.pointer (some ⟨bp, 0, none⟩)) (.int .i64 n) (.slice (some ⟨b1, 0, none⟩) n n) (.slice (some ⟨b3, 0, none⟩) n n) (.agg #[.slice (some ⟨b1, 0, none⟩) n n, .slice (some ⟨b3, 0, none⟩) n n]) (.slice (some ⟨b6, 0, none⟩) n n) (.slice (some ⟨b8, 0, none⟩) n n) (.agg #[.slice (some ⟨b1, 0, none⟩) n n, .slice (some ⟨b3, 0, none⟩) n n, .slice (some ⟨b6, 0, none⟩) n n, .slice (some ⟨b8, 0, none⟩) n n]) undef, []⟩ w := by
  unfold frB
  change wpAny _ _ #[_, _, _, _, _, _, _, _, _, _, _, _, _] _ _ _ _ _
  have m1 := mkSp hn
  have m3 := mkIs hn
  have m6 := mkBo hn
  have m8 := mkIn hn
  refine wpAny_ready (rs := [10]) (by kernel_rfl) (by simp) ?_
  refine AllReady.cons rfl (fun K hKK => ?_) ?_
  · go_simp
    refine hKK _ _ ?_
    clear hKK K
    exact mk_abcdxp hn hQp hK b1 b3 b6 b8 w.heap.size bp _ (below_alloc hB _) (f1.alloc _) (f3.alloc _) (f6.alloc _) (f8.alloc _) (AtB.new hB _ _) (f11.alloc _)
  exact AllReady.nil
theorem mk_abcd (hn : n ≤ 1024) (hQp : PanK Q) (hK : MkK n w0 Q x) (b1 b3 b6 b8 : Nat) (w : World) (hB : Below w0.heap.size w0 w) (f1 : AtB w0 w b1 26 (madeCells #[.slice none 0 0] n)) (f3 : AtB w0 w b3 44 (madeCells #[.slice none 0 0] n)) (f6 : AtB w0 w b6 4 (madeCells #[.bool false] n)) (f8 : AtB w0 w b8 3 (madeCells #[.int .i64 0] n)) :
    wpAny Tryd.prog .any ops8 Q 3 #[true, true, true, true, true, true, true, true, true, true, false, false, false] ⟨frB x n undef (.int .i64 n) (.slice (some ⟨b1, 0, none⟩) n n) (.slice (some ⟨b3, 0, none⟩) n n) (.agg #[.slice (some ⟨b1, 0, none⟩) n n, .slice (some ⟨b3, 0, none⟩) n n]) (.slice (some ⟨b6, 0, none⟩) n n) (.slice (some ⟨b8, 0, none⟩) n n) (.agg #[.slice (some ⟨b1, 0, none⟩) n n, .slice (some ⟨b3, 0, none⟩) n n, .slice (some ⟨b6, 0, none⟩) n n, .slice (some ⟨b8, 0, none⟩) n n]) undef, []⟩ w := by
  unfold frB
  change wpAny _ _ #[_, _, _, _, _, _, _, _, _, _, _, _, _] _ _ _ _ _
  have m1 := mkSp hn
  have m3 := mkIs hn
  have m6 := mkBo hn
  have m8 := mkIn hn
  refine wpAny_ready (rs := [10, 11]) (by kernel_rfl) (by simp) ?_
  refine AllReady.cons rfl (fun K hKK => ?_) ?_
  · go_simp
    refine hKK _ _ ?_
    clear hKK K
    exact mk_abcdx hn hQp hK b1 b3 b6 b8 w.heap.size _ (below_alloc hB _) (f1.alloc _) (f3.alloc _) (f6.alloc _) (f8.alloc _) (AtB.new hB _ _)
  refine AllReady.cons rfl (fun K hKK => ?_) ?_
  · go_simp
    refine hKK _ _ ?_
    clear hKK K
    exact mk_abcdp hn hQp hK b1 b3 b6 b8 w.heap.size _ (below_alloc hB _) (f1.alloc _) (f3.alloc _) (f6.alloc _) (f8.alloc _) (AtB.new hB _ _)
  exact AllReady.nil
theorem mk_abcp (hn : n ≤ 1024) (hQp : PanK Q) (hK : MkK n w0 Q x) (b1 b3 b6 bp : Nat) (w : World) (hB : Below w0.heap.size w0 w) (f1 : AtB w0 w b1 26 (madeCells #[.slice none 0 0] n)) (f3 : AtB w0 w b3 44 (madeCells #[.slice none 0 0] n)) (f6 : AtB w0 w b6 4 (madeCells #[.bool false] n)) (f11 : AtB w0 w bp 66 #[.pointer none]) :
    wpAny Tryd.prog .any ops8 Q 4 #[true, true, true, true, true, true, true, true, false, false, false, true, false] ⟨frB x n (.pointer (some ⟨bp, 0, none⟩)) (.int .i64 n) (.slice (some ⟨b1, 0, none⟩) n n) (.slice (some ⟨b3, 0, none⟩) n n) (.agg #[.slice (some ⟨b1, 0, none⟩) n n, .slice (some ⟨b3, 0, none⟩) n n]) (.slice (some ⟨b6, 0, none⟩) n n) undef undef undef, []⟩ w := by
  unfold frB
  change wpAny _ _ #[_, _, _, _, _, _, _, _, _, _, _, _, _] _ _ _ _ _
  have m1 := mkSp hn
  have m3 := mkIs hn
  have m6 := mkBo hn
  have m8 := mkIn hn
  refine wpAny_ready (rs := [8]) (by kernel_rfl) (by simp) ?_
  refine AllReady.cons rfl (fun K hKK => ?_) ?_
  · go_simp
    refine hKK _ _ ?_
    clear hKK K
    refine wpAny_take (i := 9) (v := ?_) rfl (by kernel_rfl) (by kernel_rfl) (by kernel_rfl) (fun _ _ _ h => hQp _ _ _ _ h) (Or.inl ⟨by rfl, ?_⟩) ?_
    rotate_left
    · (intro w'; go_simp <;> with_reducible rfl)
    exact mk_abcdp hn hQp hK b1 b3 b6 w.heap.size bp _ (below_alloc hB _) (f1.alloc _) (f3.alloc _) (f6.alloc _) (AtB.new hB _ _) (f11.alloc _)
  exact AllReady.nil
theorem mk_abdp (hn : n ≤ 1024) (hQp : PanK Q) (hK : MkK n w0 Q x) (b1 b3 b8 bp : Nat) (w : World) (hB : Below w0.heap.size w0 w) (f1 : AtB w0 w b1 26 (madeCells #[.slice none 0 0] n)) (f3 : AtB w0 w b3 44 (madeCells #[.slice none 0 0] n)) (f8 : AtB w0 w b8 3 (madeCells #[.int .i64 0] n)) (f11 : AtB w0 w bp 66 #[.pointer none]) :
    wpAny Tryd.prog .any ops8 Q 4 #[true, true, true, true, true, true, false, true, true, false, false, true, false] ⟨frB x n (.pointer (some ⟨bp, 0, none⟩)) (.int .i64 n) (.slice (some ⟨b1, 0, none⟩) n n) (.slice (some ⟨b3, 0, none⟩) n n) (.agg #[.slice (some ⟨b1, 0, none⟩) n n, .slice (some ⟨b3, 0, none⟩) n n]) undef (.slice (some ⟨b8, 0, none⟩) n n) undef undef, []⟩ w := by
  unfold frB
  change wpAny _ _ #[_, _, _, _, _, _, _, _, _, _, _, _, _] _ _ _ _ _
  have m1 := mkSp hn
  have m3 := mkIs hn
  have m6 := mkBo hn
  have m8 := mkIn hn
  refine wpAny_ready (rs := [6]) (by kernel_rfl) (by simp) ?_
  refine AllReady.cons rfl (fun K hKK => ?_) ?_
  · go_simp
    refine hKK _ _ ?_
    clear hKK K
    refine wpAny_take (i := 9) (v := ?_) rfl (by kernel_rfl) (by kernel_rfl) (by kernel_rfl) (fun _ _ _ h => hQp _ _ _ _ h) (Or.inl ⟨by rfl, ?_⟩) ?_
    rotate_left
    · (intro w'; go_simp <;> with_reducible rfl)
    exact mk_abcdp hn hQp hK b1 b3 w.heap.size b8 bp _ (below_alloc hB _) (f1.alloc _) (f3.alloc _) (AtB.new hB _ _) (f8.alloc _) (f11.alloc _)
  exact AllReady.nil
theorem mk_acdp (hn : n ≤ 1024) (hQp : PanK Q) (hK : MkK n w0 Q x) (b1 b6 b8 bp : Nat) (w : World) (hB : Below w0.heap.size w0 w) (f1 : AtB w0 w b1 26 (madeCells #[.slice none 0 0] n)) (f6 : AtB w0 w b6 4 (madeCells #[.bool false] n)) (f8 : AtB w0 w b8 3 (madeCells #[.int .i64 0] n)) (f11 : AtB w0 w bp 66 #[.pointer none]) :
    wpAny Tryd.prog .any ops8 Q 5 #[true, true, true, false, false, true, true, true, true, false, false, true, false] ⟨frB x n (.pointer (some ⟨bp, 0, none⟩)) (.int .i64 n) (.slice (some ⟨b1, 0, none⟩) n n) undef undef (.slice (some ⟨b6, 0, none⟩) n n) (.slice (some ⟨b8, 0, none⟩) n n) undef undef, []⟩ w := by
  unfold frB
  change wpAny _ _ #[_, _, _, _, _, _, _, _, _, _, _, _, _] _ _ _ _ _
  have m1 := mkSp hn
  have m3 := mkIs hn
  have m6 := mkBo hn
  have m8 := mkIn hn
  refine wpAny_ready (rs := [3]) (by kernel_rfl) (by simp) ?_
  refine AllReady.cons rfl (fun K hKK => ?_) ?_
  · go_simp
    refine hKK _ _ ?_
    clear hKK K
    refine wpAny_take (i := 4) (v := ?_) rfl (by kernel_rfl) (by kernel_rfl) (by kernel_rfl) (fun _ _ _ h => hQp _ _ _ _ h) (Or.inl ⟨by rfl, ?_⟩) ?_
    rotate_left
    · (intro w'; go_simp <;> with_reducible rfl)
    refine wpAny_take (i := 9) (v := ?_) rfl (by kernel_rfl) (by kernel_rfl) (by kernel_rfl) (fun _ _ _ h => hQp _ _ _ _ h) (Or.inl ⟨by rfl, ?_⟩) ?_
    rotate_left
    · (intro w'; go_simp <;> with_reducible rfl)
    exact mk_abcdp hn hQp hK b1 w.heap.size b6 b8 bp _ (below_alloc hB _) (f1.alloc _) (AtB.new hB _ _) (f6.alloc _) (f8.alloc _) (f11.alloc _)
  exact AllReady.nil
theorem mk_bcdp (hn : n ≤ 1024) (hQp : PanK Q) (hK : MkK n w0 Q x) (b3 b6 b8 bp : Nat) (w : World) (hB : Below w0.heap.size w0 w) (f3 : AtB w0 w b3 44 (madeCells #[.slice none 0 0] n)) (f6 : AtB w0 w b6 4 (madeCells #[.bool false] n)) (f8 : AtB w0 w b8 3 (madeCells #[.int .i64 0] n)) (f11 : AtB w0 w bp 66 #[.pointer none]) :
    wpAny Tryd.prog .any ops8 Q 5 #[true, false, true, true, false, true, true, true, true, false, false, true, false] ⟨frB x n (.pointer (some ⟨bp, 0, none⟩)) (.int .i64 n) undef (.slice (some ⟨b3, 0, none⟩) n n) undef (.slice (some ⟨b6, 0, none⟩) n n) (.slice (some ⟨b8, 0, none⟩) n n) undef undef, []⟩ w := by
  unfold frB
  change wpAny _ _ #[_, _, _, _, _, _, _, _, _, _, _, _, _] _ _ _ _ _
  have m1 := mkSp hn
  have m3 := mkIs hn
  have m6 := mkBo hn
  have m8 := mkIn hn
  refine wpAny_ready (rs := [1]) (by kernel_rfl) (by simp) ?_
  refine AllReady.cons rfl (fun K hKK => ?_) ?_
  · go_simp
    refine hKK _ _ ?_
    clear hKK K
    refine wpAny_take (i := 4) (v := ?_) rfl (by kernel_rfl) (by kernel_rfl) (by kernel_rfl) (fun _ _ _ h => hQp _ _ _ _ h) (Or.inl ⟨by rfl, ?_⟩) ?_
    rotate_left
    · (intro w'; go_simp <;> with_reducible rfl)
    refine wpAny_take (i := 9) (v := ?_) rfl (by kernel_rfl) (by kernel_rfl) (by kernel_rfl) (fun _ _ _ h => hQp _ _ _ _ h) (Or.inl ⟨by rfl, ?_⟩) ?_
    rotate_left
    · (intro w'; go_simp <;> with_reducible rfl)
    exact mk_abcdp hn hQp hK w.heap.size b3 b6 b8 bp _ (below_alloc hB _) (AtB.new hB _ _) (f3.alloc _) (f6.alloc _) (f8.alloc _) (f11.alloc _)
  exact AllReady.nil
theorem mk_abc (hn : n ≤ 1024) (hQp : PanK Q) (hK : MkK n w0 Q x) (b1 b3 b6 : Nat) (w : World) (hB : Below w0.heap.size w0 w) (f1 : AtB w0 w b1 26 (madeCells #[.slice none 0 0] n)) (f3 : AtB w0 w b3 44 (madeCells #[.slice none 0 0] n)) (f6 : AtB w0 w b6 4 (madeCells #[.bool false] n)) :
    wpAny Tryd.prog .any ops8 Q 5 #[true, true, true, true, true, true, true, true, false, false, false, false, false] ⟨frB x n undef (.int .i64 n) (.slice (some ⟨b1, 0, none⟩) n n) (.slice (some ⟨b3, 0, none⟩) n n) (.agg #[.slice (some ⟨b1, 0, none⟩) n n, .slice (some ⟨b3, 0, none⟩) n n]) (.slice (some ⟨b6, 0, none⟩) n n) undef undef undef, []⟩ w := by
  unfold frB
  change wpAny _ _ #[_, _, _, _, _, _, _, _, _, _, _, _, _] _ _ _ _ _
  have m1 := mkSp hn
  have m3 := mkIs hn
  have m6 := mkBo hn
  have m8 := mkIn hn
  refine wpAny_ready (rs := [8, 11]) (by kernel_rfl) (by simp) ?_
  refine AllReady.cons rfl (fun K hKK => ?_) ?_
  · go_simp
    refine hKK _ _ ?_
    clear hKK K
    refine wpAny_take (i := 9) (v := ?_) rfl (by kernel_rfl) (by kernel_rfl) (by kernel_rfl) (fun _ _ _ h => hQp _ _ _ _ h) (Or.inl ⟨by rfl, ?_⟩) ?_
    rotate_left
    · (intro w'; go_simp <;> with_reducible rfl)
    exact mk_abcd hn hQp hK b1 b3 b6 w.heap.size _ (below_alloc hB _) (f1.alloc _) (f3.alloc _) (f6.alloc _) (AtB.new hB _ _)
  refine AllReady.cons rfl (fun K hKK => ?_) ?_
  · go_simp
    refine hKK _ _ ?_
    clear hKK K
    exact mk_abcp hn hQp hK b1 b3 b6 w.heap.size _ (below_alloc hB _) (f1.alloc _) (f3.alloc _) (f6.alloc _) (AtB.new hB _ _)
  exact AllReady.nil
theorem mk_abd (hn : n ≤ 1024) (hQp : PanK Q) (hK : MkK n w0 Q x) (b1 b3 b8 : Nat) (w : World) (hB : Below w0.heap.size w0 w) (f1 : AtB w0 w b1 26 (madeCells #[.slice none 0 0] n)) (f3 : AtB w0 w b3 44 (madeCells #[.slice none 0 0] n)) (f8 : AtB w0 w b8 3 (madeCells #[.int .i64 0] n)) :
    wpAny Tryd.prog .any ops8 Q 5 #[true, true, true, true, true, true, false, true, true, false, false, false, false] ⟨frB x n undef (.int .i64 n) (.slice (some ⟨b1, 0, none⟩) n n) (.slice (some ⟨b3, 0, none⟩) n n) (.agg #[.slice (some ⟨b1, 0, none⟩) n n, .slice (some ⟨b3, 0, none⟩) n n]) undef (.slice (some ⟨b8, 0, none⟩) n n) undef undef, []⟩ w := by
  unfold frB
  change wpAny _ _ #[_, _, _, _, _, _, _, _, _, _, _, _, _] _ _ _ _ _
  have m1 := mkSp hn
  have m3 := mkIs hn
  have m6 := mkBo hn
  have m8 := mkIn hn
  refine wpAny_ready (rs := [6, 11]) (by kernel_rfl) (by simp) ?_
  refine AllReady.cons rfl (fun K hKK => ?_) ?_
  · go_simp
    refine hKK _ _ ?_
    clear hKK K
    refine wpAny_take (i := 9) (v := ?_) rfl (by kernel_rfl) (by kernel_rfl) (by kernel_rfl) (fun _ _ _ h => hQp _ _ _ _ h) (Or.inl ⟨by rfl, ?_⟩) ?_
    rotate_left
    · (intro w'; go_simp <;> with_reducible rfl)
    exact mk_abcd hn hQp hK b1 b3 w.heap.size b8 _ (below_alloc hB _) (f1.alloc _) (f3.alloc _) (AtB.new hB _ _) (f8.alloc _)
  refine AllReady.cons rfl (fun K hKK => ?_) ?_
  · go_simp
    refine hKK _ _ ?_
    clear hKK K
    exact mk_abdp hn hQp hK b1 b3 b8 w.heap.size _ (below_alloc hB _) (f1.alloc _) (f3.alloc _) (f8.alloc _) (AtB.new hB _ _)
  exact AllReady.nil
theorem mk_abp (hn : n ≤ 1024) (hQp : PanK Q) (hK : MkK n w0 Q x) (b1 b3 bp : Nat) (w : World) (hB : Below w0.heap.size w0 w) (f1 : AtB w0 w b1 26 (madeCells #[.slice none 0 0] n)) (f3 : AtB w0 w b3 44 (madeCells #[.slice none 0 0] n)) (f11 : AtB w0 w bp 66 #[.pointer none]) :
    wpAny Tryd.prog .any ops8 Q 5 #[true, true, true, true, true, true, false, true, false, false, false, true, false] ⟨frB x n (.pointer (some ⟨bp, 0, none⟩)) (.int .i64 n) (.slice (some ⟨b1, 0, none⟩) n n) (.slice (some ⟨b3, 0, none⟩) n n) (.agg #[.slice (some ⟨b1, 0, none⟩) n n, .slice (some ⟨b3, 0, none⟩) n n]) undef undef undef undef, []⟩ w := by
  unfold frB
  change wpAny _ _ #[_, _, _, _, _, _, _, _, _, _, _, _, _] _ _ _ _ _
  have m1 := mkSp hn
  have m3 := mkIs hn
  have m6 := mkBo hn
  have m8 := mkIn hn
  refine wpAny_ready (rs := [6, 8]) (by kernel_rfl) (by simp) ?_
  refine AllReady.cons rfl (fun K hKK => ?_) ?_
  · go_simp
    refine hKK _ _ ?_
    clear hKK K
    exact mk_abcp hn hQp hK b1 b3 w.heap.size bp _ (below_alloc hB _) (f1.alloc _) (f3.alloc _) (AtB.new hB _ _) (f11.alloc _)
  refine AllReady.cons rfl (fun K hKK => ?_) ?_
  · go_simp
    refine hKK _ _ ?_
    clear hKK K
    exact mk_abdp hn hQp hK b1 b3 w.heap.size bp _ (below_alloc hB _) (f1.alloc _) (f3.alloc _) (AtB.new hB _ _) (f11.alloc _)
  exact AllReady.nil
theorem mk_acd (hn : n ≤ 1024) (hQp : PanK Q) (hK : MkK n w0 Q x) (b1 b6 b8 : Nat) (w : World) (hB : Below w0.heap.size w0 w) (f1 : AtB w0 w b1 26 (madeCells #[.slice none 0 0] n)) (f6 : AtB w0 w b6 4 (madeCells #[.bool false] n)) (f8 : AtB w0 w b8 3 (madeCells #[.int .i64 0] n)) :
    wpAny Tryd.prog .any ops8 Q 6 #[true, true, true, false, false, true, true, true, true, false, false, false, false] ⟨frB x n undef (.int .i64 n) (.slice (some ⟨b1, 0, none⟩) n n) undef undef (.slice (some ⟨b6, 0, none⟩) n n) (.slice (some ⟨b8, 0, none⟩) n n) undef undef, []⟩ w := by
  unfold frB
  change wpAny _ _ #[_, _, _, _, _, _, _, _, _, _, _, _, _] _ _ _ _ _
  have m1 := mkSp hn
  have m3 := mkIs hn
  have m6 := mkBo hn
  have m8 := mkIn hn
  refine wpAny_ready (rs := [3, 11]) (by kernel_rfl) (by simp) ?_
  refine AllReady.cons rfl (fun K hKK => ?_) ?_
  · go_simp
    refine hKK _ _ ?_
    clear hKK K
    refine wpAny_take (i := 4) (v := ?_) rfl (by kernel_rfl) (by kernel_rfl) (by kernel_rfl) (fun _ _ _ h => hQp _ _ _ _ h) (Or.inl ⟨by rfl, ?_⟩) ?_
    rotate_left
    · (intro w'; go_simp <;> with_reducible rfl)
    refine wpAny_take (i := 9) (v := ?_) rfl (by kernel_rfl) (by kernel_rfl) (by kernel_rfl) (fun _ _ _ h => hQp _ _ _ _ h) (Or.inl ⟨by rfl, ?_⟩) ?_
    rotate_left
    · (intro w'; go_simp <;> with_reducible rfl)
    exact mk_abcd hn hQp hK b1 w.heap.size b6 b8 _ (below_alloc hB _) (f1.alloc _) (AtB.new hB _ _) (f6.alloc _) (f8.alloc _)
  refine AllReady.cons rfl (fun K hKK => ?_) ?_
  · go_simp
    refine hKK _ _ ?_
    clear hKK K
    exact mk_acdp hn hQp hK b1 b6 b8 w.heap.size _ (below_alloc hB _) (f1.alloc _) (f6.alloc _) (f8.alloc _) (AtB.new hB _ _)
  exact AllReady.nil
theorem mk_acp (hn : n ≤ 1024) (hQp : PanK Q) (hK : MkK n w0 Q x) (b1 b6 bp : Nat) (w : World) (hB : Below w0.heap.size w0 w) (f1 : AtB w0 w b1 26 (madeCells #[.slice none 0 0] n)) (f6 : AtB w0 w b6 4 (madeCells #[.bool false] n)) (f11 : AtB w0 w bp 66 #[.pointer none]) :
    wpAny Tryd.prog .any ops8 Q 6 #[true, true, true, false, false, true, true, true, false, false, false, true, false] ⟨frB x n (.pointer (some ⟨bp, 0, none⟩)) (.int .i64 n) (.slice (some ⟨b1, 0, none⟩) n n) undef undef (.slice (some ⟨b6, 0, none⟩) n n) undef undef undef, []⟩ w := by
  unfold frB
  change wpAny _ _ #[_, _, _, _, _, _, _, _, _, _, _, _, _] _ _ _ _ _
  have m1 := mkSp hn
  have m3 := mkIs hn
  have m6 := mkBo hn
  have m8 := mkIn hn
  refine wpAny_ready (rs := [3, 8]) (by kernel_rfl) (by simp) ?_
  refine AllReady.cons rfl (fun K hKK => ?_) ?_
  · go_simp
    refine hKK _ _ ?_
    clear hKK K
    refine wpAny_take (i := 4) (v := ?_) rfl (by kernel_rfl) (by kernel_rfl) (by kernel_rfl) (fun _ _ _ h => hQp _ _ _ _ h) (Or.inl ⟨by rfl, ?_⟩) ?_
    rotate_left
    · (intro w'; go_simp <;> with_reducible rfl)
    exact mk_abcp hn hQp hK b1 w.heap.size b6 bp _ (below_alloc hB _) (f1.alloc _) (AtB.new hB _ _) (f6.alloc _) (f11.alloc _)
  refine AllReady.cons rfl (fun K hKK => ?_) ?_
  · go_simp
    refine hKK _ _ ?_
    clear hKK K
    exact mk_acdp hn hQp hK b1 b6 w.heap.size bp _ (below_alloc hB _) (f1.alloc _) (f6.alloc _) (AtB.new hB _ _) (f11.alloc _)
  exact AllReady.nil
theorem mk_adp (hn : n ≤ 1024) (hQp : PanK Q) (hK : MkK n w0 Q x) (b1 b8 bp : Nat) (w : World) (hB : Below w0.heap.size w0 w) (f1 : AtB w0 w b1 26 (madeCells #[.slice none 0 0] n)) (f8 : AtB w0 w b8 3 (madeCells #[.int .i64 0] n)) (f11 : AtB w0 w bp 66 #[.pointer none]) :
    wpAny Tryd.prog .any ops8 Q 6 #[true, true, true, false, false, true, false, true, true, false, false, true, false] ⟨frB x n (.pointer (some ⟨bp, 0, none⟩)) (.int .i64 n) (.slice (some ⟨b1, 0, none⟩) n n) undef undef undef (.slice (some ⟨b8, 0, none⟩) n n) undef undef, []⟩ w := by
  unfold frB
  change wpAny _ _ #[_, _, _, _, _, _, _, _, _, _, _, _, _] _ _ _ _ _
  have m1 := mkSp hn
  have m3 := mkIs hn
  have m6 := mkBo hn
  have m8 := mkIn hn
  refine wpAny_ready (rs := [3, 6]) (by kernel_rfl) (by simp) ?_
  refine AllReady.cons rfl (fun K hKK => ?_) ?_
  · go_simp
    refine hKK _ _ ?_
    clear hKK K
    refine wpAny_take (i := 4) (v := ?_) rfl (by kernel_rfl) (by kernel_rfl) (by kernel_rfl) (fun _ _ _ h => hQp _ _ _ _ h) (Or.inl ⟨by rfl, ?_⟩) ?_
    rotate_left
    · (intro w'; go_simp <;> with_reducible rfl)
    exact mk_abdp hn hQp hK b1 w.heap.size b8 bp _ (below_alloc hB _) (f1.alloc _) (AtB.new hB _ _) (f8.alloc _) (f11.alloc _)
  refine AllReady.cons rfl (fun K hKK => ?_) ?_
  · go_simp
    refine hKK _ _ ?_
    clear hKK K
    exact mk_acdp hn hQp hK b1 w.heap.size b8 bp _ (below_alloc hB _) (f1.alloc _) (AtB.new hB _ _) (f8.alloc _) (f11.alloc _)
  exact AllReady.nil
theorem mk_bcd (hn : n ≤ 1024) (hQp : PanK Q) (hK : MkK n w0 Q x) (b3 b6 b8 : Nat) (w : World) (hB : Below w0.heap.size w0 w) (f3 : AtB w0 w b3 44 (madeCells #[.slice none 0 0] n)) (f6 : AtB w0 w b6 4 (madeCells #[.bool false] n)) (f8 : AtB w0 w b8 3 (madeCells #[.int .i64 0] n)) :
    wpAny Tryd.prog .any ops8 Q 6 #[true, false, true, true, false, true, true, true, true, false, false, false, false] ⟨frB x n undef (.int .i64 n) undef (.slice (some ⟨b3, 0, none⟩) n n) undef (.slice (some ⟨b6, 0, none⟩) n n) (.slice (some ⟨b8, 0, none⟩) n n) undef undef, []⟩ w := by
  unfold frB
  change wpAny _ _ #[_, _, _, _, _, _, _, _, _, _, _, _, _] _ _ _ _ _
  have m1 := mkSp hn
  have m3 := mkIs hn
  have m6 := mkBo hn
  have m8 := mkIn hn
  refine wpAny_ready (rs := [1, 11]) (by kernel_rfl) (by simp) ?_
  refine AllReady.cons rfl (fun K hKK => ?_) ?_
  · go_simp
    refine hKK _ _ ?_
    clear hKK K
    refine wpAny_take (i := 4) (v := ?_) rfl (by kernel_rfl) (by kernel_rfl) (by kernel_rfl) (fun _ _ _ h => hQp _ _ _ _ h) (Or.inl ⟨by rfl, ?_⟩) ?_
    rotate_left
    · (intro w'; go_simp <;> with_reducible rfl)
    refine wpAny_take (i := 9) (v := ?_) rfl (by kernel_rfl) (by kernel_rfl) (by kernel_rfl) (fun _ _ _ h => hQp _ _ _ _ h) (Or.inl ⟨by rfl, ?_⟩) ?_
    rotate_left
    · (intro w'; go_simp <;> with_reducible rfl)
    exact mk_abcd hn hQp hK w.heap.size b3 b6 b8 _ (below_alloc hB _) (AtB.new hB _ _) (f3.alloc _) (f6.alloc _) (f8.alloc _)
  refine AllReady.cons rfl (fun K hKK => ?_) ?_
  · go_simp
    refine hKK _ _ ?_
    clear hKK K
    exact mk_bcdp hn hQp hK b3 b6 b8 w.heap.size _ (below_alloc hB _) (f3.alloc _) (f6.alloc _) (f8.alloc _) (AtB.new hB _ _)
  exact AllReady.nil
theorem mk_bcp (hn : n ≤ 1024) (hQp : PanK Q) (hK : MkK n w0 Q x) (b3 b6 bp : Nat) (w : World) (hB : Below w0.heap.size w0 w) (f3 : AtB w0 w b3 44 (madeCells #[.slice none 0 0] n)) (f6 : AtB w0 w b6 4 (madeCells #[.bool false] n)) (f11 : AtB w0 w bp 66 #[.pointer none]) :
    wpAny Tryd.prog .any ops8 Q 6 #[true, false, true, true, false, true, true, true, false, false, false, true, false] ⟨frB x n (.pointer (some ⟨bp, 0, none⟩)) (.int .i64 n) undef (.slice (some ⟨b3, 0, none⟩) n n) undef (.slice (some ⟨b6, 0, none⟩) n n) undef undef undef, []⟩ w := by
  unfold frB
  change wpAny _ _ #[_, _, _, _, _, _, _, _, _, _, _, _, _] _ _ _ _ _
  have m1 := mkSp hn
  have m3 := mkIs hn
  have m6 := mkBo hn
  have m8 := mkIn hn
  refine wpAny_ready (rs := [1, 8]) (by kernel_rfl) (by simp) ?_
  refine AllReady.cons rfl (fun K hKK => ?_) ?_
  · go_simp
    refine hKK _ _ ?_
    clear hKK K
    refine wpAny_take (i := 4) (v := ?_) rfl (by kernel_rfl) (by kernel_rfl) (by kernel_rfl) (fun _ _ _ h => hQp _ _ _ _ h) (Or.inl ⟨by rfl, ?_⟩) ?_
    rotate_left
    · (intro w'; go_simp <;> with_reducible rfl)
    exact mk_abcp hn hQp hK w.heap.size b3 b6 bp _ (below_alloc hB _) (AtB.new hB _ _) (f3.alloc _) (f6.alloc _) (f11.alloc _)
  refine AllReady.cons rfl (fun K hKK => ?_) ?_
  · go_simp
    refine hKK _ _ ?_
    clear hKK K
    exact mk_bcdp hn hQp hK b3 b6 w.heap.size bp _ (below_alloc hB _) (f3.alloc _) (f6.alloc _) (AtB.new hB _ _) (f11.alloc _)
  exact AllReady.nil
theorem mk_bdp (hn : n ≤ 1024) (hQp : PanK Q) (hK : MkK n w0 Q x) (b3 b8 bp : Nat) (w : World) (hB : Below w0.heap.size w0 w) (f3 : AtB w0 w b3 44 (madeCells #[.slice none 0 0] n)) (f8 : AtB w0 w b8 3 (madeCells #[.int .i64 0] n)) (f11 : AtB w0 w bp 66 #[.pointer none]) :
    wpAny Tryd.prog .any ops8 Q 6 #[true, false, true, true, false, true, false, true, true, false, false, true, false] ⟨frB x n (.pointer (some ⟨bp, 0, none⟩)) (.int .i64 n) undef (.slice (some ⟨b3, 0, none⟩) n n) undef undef (.slice (some ⟨b8, 0, none⟩) n n) undef undef, []⟩ w := by
  unfold frB
  change wpAny _ _ #[_, _, _, _, _, _, _, _, _, _, _, _, _] _ _ _ _ _
  have m1 := mkSp hn
  have m3 := mkIs hn
  have m6 := mkBo hn
  have m8 := mkIn hn
  refine wpAny_ready (rs := [1, 6]) (by kernel_rfl) (by simp) ?_
  refine AllReady.cons rfl (fun K hKK => ?_) ?_
  · go_simp
    refine hKK _ _ ?_
    clear hKK K
    refine wpAny_take (i := 4) (v := ?_) rfl (by kernel_rfl) (by kernel_rfl) (by kernel_rfl) (fun _ _ _ h => hQp _ _ _ _ h) (Or.inl ⟨by rfl, ?_⟩) ?_
    rotate_left
    · (intro w'; go_simp <;> with_reducible rfl)
    exact mk_abdp hn hQp hK w.heap.size b3 b8 bp _ (below_alloc hB _) (AtB.new hB _ _) (f3.alloc _) (f8.alloc _) (f11.alloc _)
  refine AllReady.cons rfl (fun K hKK => ?_) ?_
  · go_simp
    refine hKK _ _ ?_
    clear hKK K
    exact mk_bcdp hn hQp hK b3 w.heap.size b8 bp _ (below_alloc hB _) (f3.alloc _) (AtB.new hB _ _) (f8.alloc _) (f11.alloc _)
  exact AllReady.nil
theorem mk_cdp (hn : n ≤ 1024) (hQp : PanK Q) (hK : MkK n w0 Q x) (b6 b8 bp : Nat) (w : World) (hB : Below w0.heap.size w0 w) (f6 : AtB w0 w b6 4 (madeCells #[.bool false] n)) (f8 : AtB w0 w b8 3 (madeCells #[.int .i64 0] n)) (f11 : AtB w0 w bp 66 #[.pointer none]) :
    wpAny Tryd.prog .any ops8 Q 6 #[true, false, true, false, false, true, true, true, true, false, false, true, false] ⟨frB x n (.pointer (some ⟨bp, 0, none⟩)) (.int .i64 n) undef undef undef (.slice (some ⟨b6, 0, none⟩) n n) (.slice (some ⟨b8, 0, none⟩) n n) undef undef, []⟩ w := by
  unfold frB
  change wpAny _ _ #[_, _, _, _, _, _, _, _, _, _, _, _, _] _ _ _ _ _
  have m1 := mkSp hn
  have m3 := mkIs hn
  have m6 := mkBo hn
  have m8 := mkIn hn
  refine wpAny_ready (rs := [1, 3]) (by kernel_rfl) (by simp) ?_
  refine AllReady.cons rfl (fun K hKK => ?_) ?_
  · go_simp
    refine hKK _ _ ?_
    clear hKK K
    exact mk_acdp hn hQp hK w.heap.size b6 b8 bp _ (below_alloc hB _) (AtB.new hB _ _) (f6.alloc _) (f8.alloc _) (f11.alloc _)
  refine AllReady.cons rfl (fun K hKK => ?_) ?_
  · go_simp
    refine hKK _ _ ?_
    clear hKK K
    exact mk_bcdp hn hQp hK w.heap.size b6 b8 bp _ (below_alloc hB _) (AtB.new hB _ _) (f6.alloc _) (f8.alloc _) (f11.alloc _)
  exact AllReady.nil
theorem mk_ab (hn : n ≤ 1024) (hQp : PanK Q) (hK : MkK n w0 Q x) (b1 b3 : Nat) (w : World) (hB : Below w0.heap.size w0 w) (f1 : AtB w0 w b1 26 (madeCells #[.slice none 0 0] n)) (f3 : AtB w0 w b3 44 (madeCells #[.slice none 0 0] n)) :
    wpAny Tryd.prog .any ops8 Q 6 #[true, true, true, true, true, true, false, true, false, false, false, false, false] ⟨frB x n undef (.int .i64 n) (.slice (some ⟨b1, 0, none⟩) n n) (.slice (some ⟨b3, 0, none⟩) n n) (.agg #[.slice (some ⟨b1, 0, none⟩) n n, .slice (some ⟨b3, 0, none⟩) n n]) undef undef undef undef, []⟩ w := by
  unfold frB
  change wpAny _ _ #[_, _, _, _, _, _, _, _, _, _, _, _, _] _ _ _ _ _
  have m1 := mkSp hn
  have m3 := mkIs hn
  have m6 := mkBo hn
  have m8 := mkIn hn
  refine wpAny_ready (rs := [6, 8, 11]) (by kernel_rfl) (by simp) ?_
  refine AllReady.cons rfl (fun K hKK => ?_) ?_
  · go_simp
    refine hKK _ _ ?_
    clear hKK K
    exact mk_abc hn hQp hK b1 b3 w.heap.size _ (below_alloc hB _) (f1.alloc _) (f3.alloc _) (AtB.new hB _ _)
  refine AllReady.cons rfl (fun K hKK => ?_) ?_
  · go_simp
    refine hKK _ _ ?_
    clear hKK K
    exact mk_abd hn hQp hK b1 b3 w.heap.size _ (below_alloc hB _) (f1.alloc _) (f3.alloc _) (AtB.new hB _ _)
  refine AllReady.cons rfl (fun K hKK => ?_) ?_
  · go_simp
    refine hKK _ _ ?_
    clear hKK K
    exact mk_abp hn hQp hK b1 b3 w.heap.size _ (below_alloc hB _) (f1.alloc _) (f3.alloc _) (AtB.new hB _ _)
  exact AllReady.nil
theorem mk_ac (hn : n ≤ 1024) (hQp : PanK Q) (hK : MkK n w0 Q x) (b1 b6 : Nat) (w : World) (hB : Below w0.heap.size w0 w) (f1 : AtB w0 w b1 26 (madeCells #[.slice none 0 0] n)) (f6 : AtB w0 w b6 4 (madeCells #[.bool false] n)) :
    wpAny Tryd.prog .any ops8 Q 7 #[true, true, true, false, false, true, true, true, false, false, false, false, false] ⟨frB x n undef (.int .i64 n) (.slice (some ⟨b1, 0, none⟩) n n) undef undef (.slice (some ⟨b6, 0, none⟩) n n) undef undef undef, []⟩ w := by
  unfold frB
  change wpAny _ _ #[_, _, _, _, _, _, _, _, _, _, _, _, _] _ _ _ _ _
  have m1 := mkSp hn
  have m3 := mkIs hn
  have m6 := mkBo hn
  have m8 := mkIn hn
  refine wpAny_ready (rs := [3, 8, 11]) (by kernel_rfl) (by simp) ?_
  refine AllReady.cons rfl (fun K hKK => ?_) ?_
  · go_simp
    refine hKK _ _ ?_
    clear hKK K
    refine wpAny_take (i := 4) (v := ?_) rfl (by kernel_rfl) (by kernel_rfl) (by kernel_rfl) (fun _ _ _ h => hQp _ _ _ _ h) (Or.inl ⟨by rfl, ?_⟩) ?_
    rotate_left
    · (intro w'; go_simp <;> with_reducible rfl)
    exact mk_abc hn hQp hK b1 w.heap.size b6 _ (below_alloc hB _) (f1.alloc _) (AtB.new hB _ _) (f6.alloc _)
  refine AllReady.cons rfl (fun K hKK => ?_) ?_
  · go_simp
    refine hKK _ _ ?_
    clear hKK K
    exact mk_acd hn hQp hK b1 b6 w.heap.size _ (below_alloc hB _) (f1.alloc _) (f6.alloc _) (AtB.new hB _ _)
  refine AllReady.cons rfl (fun K hKK => ?_) ?_
  · go_simp
    refine hKK _ _ ?_
    clear hKK K
    exact mk_acp hn hQp hK b1 b6 w.heap.size _ (below_alloc hB _) (f1.alloc _) (f6.alloc _) (AtB.new hB _ _)
  exact AllReady.nil
theorem mk_ad (hn : n ≤ 1024) (hQp : PanK Q) (hK : MkK n w0 Q x) (b1 b8 : Nat) (w : World) (hB : Below w0.heap.size w0 w) (f1 : AtB w0 w b1 26 (madeCells #[.slice none 0 0] n)) (f8 : AtB w0 w b8 3 (madeCells #[.int .i64 0] n)) :
    wpAny Tryd.prog .any ops8 Q 7 #[true, true, true, false, false, true, false, true, true, false, false, false, false] ⟨frB x n undef (.int .i64 n) (.slice (some ⟨b1, 0, none⟩) n n) undef undef undef (.slice (some ⟨b8, 0, none⟩) n n) undef undef, []⟩ w := by
  unfold frB
  change wpAny _ _ #[_, _, _, _, _, _, _, _, _, _, _, _, _] _ _ _ _ _
  have m1 := mkSp hn
  have m3 := mkIs hn
  have m6 := mkBo hn
  have m8 := mkIn hn
  refine wpAny_ready (rs := [3, 6, 11]) (by kernel_rfl) (by simp) ?_
  refine AllReady.cons rfl (fun K hKK => ?_) ?_
  · go_simp
    refine hKK _ _ ?_
    clear hKK K
    refine wpAny_take (i := 4) (v := ?_) rfl (by kernel_rfl) (by kernel_rfl) (by kernel_rfl) (fun _ _ _ h => hQp _ _ _ _ h) (Or.inl ⟨by rfl, ?_⟩) ?_
    rotate_left
    · (intro w'; go_simp <;> with_reducible rfl)
    exact mk_abd hn hQp hK b1 w.heap.size b8 _ (below_alloc hB _) (f1.alloc _) (AtB.new hB _ _) (f8.alloc _)
  refine AllReady.cons rfl (fun K hKK => ?_) ?_
  · go_simp
    refine hKK _ _ ?_
    clear hKK K
    exact mk_acd hn hQp hK b1 w.heap.size b8 _ (below_alloc hB _) (f1.alloc _) (AtB.new hB _ _) (f8.alloc _)
  refine AllReady.cons rfl (fun K hKK => ?_) ?_
  · go_simp
    refine hKK _ _ ?_
    clear hKK K
    exact mk_adp hn hQp hK b1 b8 w.heap.size _ (below_alloc hB _) (f1.alloc _) (f8.alloc _) (AtB.new hB _ _)
  exact AllReady.nil
theorem mk_ap (hn : n ≤ 1024) (hQp : PanK Q) (hK : MkK n w0 Q x) (b1 bp : Nat) (w : World) (hB : Below w0.heap.size w0 w) (f1 : AtB w0 w b1 26 (madeCells #[.slice none 0 0] n)) (f11 : AtB w0 w bp 66 #[.pointer none]) :
    wpAny Tryd.prog .any ops8 Q 7 #[true, true, true, false, false, true, false, true, false, false, false, true, false] ⟨frB x n (.pointer (some ⟨bp, 0, none⟩)) (.int .i64 n) (.slice (some ⟨b1, 0, none⟩) n n) undef undef undef undef undef undef, []⟩ w := by
  unfold frB
  change wpAny _ _ #[_, _, _, _, _, _, _, _, _, _, _, _, _] _ _ _ _ _
  have m1 := mkSp hn
  have m3 := mkIs hn
  have m6 := mkBo hn
  have m8 := mkIn hn
  refine wpAny_ready (rs := [3, 6, 8]) (by kernel_rfl) (by simp) ?_
  refine AllReady.cons rfl (fun K hKK => ?_) ?_
  · go_simp
    refine hKK _ _ ?_
    clear hKK K
    refine wpAny_take (i := 4) (v := ?_) rfl (by kernel_rfl) (by kernel_rfl) (by kernel_rfl) (fun _ _ _ h => hQp _ _ _ _ h) (Or.inl ⟨by rfl, ?_⟩) ?_
    rotate_left
    · (intro w'; go_simp <;> with_reducible rfl)
    exact mk_abp hn hQp hK b1 w.heap.size bp _ (below_alloc hB _) (f1.alloc _) (AtB.new hB _ _) (f11.alloc _)
  refine AllReady.cons rfl (fun K hKK => ?_) ?_
  · go_simp
    refine hKK _ _ ?_
    clear hKK K
    exact mk_acp hn hQp hK b1 w.heap.size bp _ (below_alloc hB _) (f1.alloc _) (AtB.new hB _ _) (f11.alloc _)
  refine AllReady.cons rfl (fun K hKK => ?_) ?_
  · go_simp
    refine hKK _ _ ?_
    clear hKK K
    exact mk_adp hn hQp hK b1 w.heap.size bp _ (below_alloc hB _) (f1.alloc _) (AtB.new hB _ _) (f11.alloc _)
  exact AllReady.nil
theorem mk_bc (hn : n ≤ 1024) (hQp : PanK Q) (hK : MkK n w0 Q x) (b3 b6 : Nat) (w : World) (hB : Below w0.heap.size w0 w) (f3 : AtB w0 w b3 44 (madeCells #[.slice none 0 0] n)) (f6 : AtB w0 w b6 4 (madeCells #[.bool false] n)) :
    wpAny Tryd.prog .any ops8 Q 7 #[true, false, true, true, false, true, true, true, false, false, false, false, false] ⟨frB x n undef (.int .i64 n) undef (.slice (some ⟨b3, 0, none⟩) n n) undef (.slice (some ⟨b6, 0, none⟩) n n) undef undef undef, []⟩ w := by
  unfold frB
  change wpAny _ _ #[_, _, _, _, _, _, _, _, _, _, _, _, _] _ _ _ _ _
  have m1 := mkSp hn
  have m3 := mkIs hn
  have m6 := mkBo hn
  have m8 := mkIn hn
  refine wpAny_ready (rs := [1, 8, 11]) (by kernel_rfl) (by simp) ?_
  refine AllReady.cons rfl (fun K hKK => ?_) ?_
  · go_simp
    refine hKK _ _ ?_
    clear hKK K
    refine wpAny_take (i := 4) (v := ?_) rfl (by kernel_rfl) (by kernel_rfl) (by kernel_rfl) (fun _ _ _ h => hQp _ _ _ _ h) (Or.inl ⟨by rfl, ?_⟩) ?_
    rotate_left
    · (intro w'; go_simp <;> with_reducible rfl)
    exact mk_abc hn hQp hK w.heap.size b3 b6 _ (below_alloc hB _) (AtB.new hB _ _) (f3.alloc _) (f6.alloc _)
  refine AllReady.cons rfl (fun K hKK => ?_) ?_
  · go_simp
    refine hKK _ _ ?_
    clear hKK K
    exact mk_bcd hn hQp hK b3 b6 w.heap.size _ (below_alloc hB _) (f3.alloc _) (f6.alloc _) (AtB.new hB _ _)
  refine AllReady.cons rfl (fun K hKK => ?_) ?_
  · go_simp
    refine hKK _ _ ?_
    clear hKK K
    exact mk_bcp hn hQp hK b3 b6 w.heap.size _ (below_alloc hB _) (f3.alloc _) (f6.alloc _) (AtB.new hB _ _)
  exact AllReady.nil
theorem mk_bd (hn : n ≤ 1024) (hQp : PanK Q) (hK : MkK n w0 Q x) (b3 b8 : Nat) (w : World) (hB : Below w0.heap.size w0 w) (f3 : AtB w0 w b3 44 (madeCells #[.slice none 0 0] n)) (f8 : AtB w0 w b8 3 (madeCells #[.int .i64 0] n)) :
    wpAny Tryd.prog .any ops8 Q 7 #[true, false, true, true, false, true, false, true, true, false, false, false, false] ⟨frB x n undef (.int .i64 n) undef (.slice (some ⟨b3, 0, none⟩) n n) undef undef (.slice (some ⟨b8, 0, none⟩) n n) undef undef, []⟩ w := by
  unfold frB
  change wpAny _ _ #[_, _, _, _, _, _, _, _, _, _, _, _, _] _ _ _ _ _
  have m1 := mkSp hn
  have m3 := mkIs hn
  have m6 := mkBo hn
  have m8 := mkIn hn
  refine wpAny_ready (rs := [1, 6, 11]) (by kernel_rfl) (by simp) ?_
  refine AllReady.cons rfl (fun K hKK => ?_) ?_
  · go_simp
    refine hKK _ _ ?_
    clear hKK K
    refine wpAny_take (i := 4) (v := ?_) rfl (by kernel_rfl) (by kernel_rfl) (by kernel_rfl) (fun _ _ _ h => hQp _ _ _ _ h) (Or.inl ⟨by rfl, ?_⟩) ?_
    rotate_left
    · (intro w'; go_simp <;> with_reducible rfl)
    exact mk_abd hn hQp hK w.heap.size b3 b8 _ (below_alloc hB _) (AtB.new hB _ _) (f3.alloc _) (f8.alloc _)
  refine AllReady.cons rfl (fun K hKK => ?_) ?_
  · go_simp
    refine hKK _ _ ?_
    clear hKK K
    exact mk_bcd hn hQp hK b3 w.heap.size b8 _ (below_alloc hB _) (f3.alloc _) (AtB.new hB _ _) (f8.alloc _)
  refine AllReady.cons rfl (fun K hKK => ?_) ?_
  · go_simp
    refine hKK _ _ ?_
    clear hKK K
    exact mk_bdp hn hQp hK b3 b8 w.heap.size _ (below_alloc hB _) (f3.alloc _) (f8.alloc _) (AtB.new hB _ _)
  exact AllReady.nil
theorem mk_bp (hn : n ≤ 1024) (hQp : PanK Q) (hK : MkK n w0 Q x) (b3 bp : Nat) (w : World) (hB : Below w0.heap.size w0 w) (f3 : AtB w0 w b3 44 (madeCells #[.slice none 0 0] n)) (f11 : AtB w0 w bp 66 #[.pointer none]) :
    wpAny Tryd.prog .any ops8 Q 7 #[true, false, true, true, false, true, false, true, false, false, false, true, false] ⟨frB x n (.pointer (some ⟨bp, 0, none⟩)) (.int .i64 n) undef (.slice (some ⟨b3, 0, none⟩) n n) undef undef undef undef undef, []⟩ w := by
  unfold frB
  change wpAny _ _ #[_, _, _, _, _, _, _, _, _, _, _, _, _] _ _ _ _ _
  have m1 := mkSp hn
  have m3 := mkIs hn
  have m6 := mkBo hn
  have m8 := mkIn hn
  refine wpAny_ready (rs := [1, 6, 8]) (by kernel_rfl) (by simp) ?_
  refine AllReady.cons rfl (fun K hKK => ?_) ?_
  · go_simp
    refine hKK _ _ ?_
    clear hKK K
    refine wpAny_take (i := 4) (v := ?_) rfl (by kernel_rfl) (by kernel_rfl) (by kernel_rfl) (fun _ _ _ h => hQp _ _ _ _ h) (Or.inl ⟨by rfl, ?_⟩) ?_
    rotate_left
    · (intro w'; go_simp <;> with_reducible rfl)
    exact mk_abp hn hQp hK w.heap.size b3 bp _ (below_alloc hB _) (AtB.new hB _ _) (f3.alloc _) (f11.alloc _)
  refine AllReady.cons rfl (fun K hKK => ?_) ?_
  · go_simp
    refine hKK _ _ ?_
    clear hKK K
    exact mk_bcp hn hQp hK b3 w.heap.size bp _ (below_alloc hB _) (f3.alloc _) (AtB.new hB _ _) (f11.alloc _)
  refine AllReady.cons rfl (fun K hKK => ?_) ?_
  · go_simp
    refine hKK _ _ ?_
    clear hKK K
    exact mk_bdp hn hQp hK b3 w.heap.size bp _ (below_alloc hB _) (f3.alloc _) (AtB.new hB _ _) (f11.alloc _)
  exact AllReady.nil
theorem mk_cd (hn : n ≤ 1024) (hQp : PanK Q) (hK : MkK n w0 Q x) (b6 b8 : Nat) (w : World) (hB : Below w0.heap.size w0 w) (f6 : AtB w0 w b6 4 (madeCells #[.bool false] n)) (f8 : AtB w0 w b8 3 (madeCells #[.int .i64 0] n)) :
    wpAny Tryd.prog .any ops8 Q 7 #[true, false, true, false, false, true, true, true, true, false, false, false, false] ⟨frB x n undef (.int .i64 n) undef undef undef (.slice (some ⟨b6, 0, none⟩) n n) (.slice (some ⟨b8, 0, none⟩) n n) undef undef, []⟩ w := by
  unfold frB
  change wpAny _ _ #[_, _, _, _, _, _, _, _, _, _, _, _, _] _ _ _ _ _
  have m1 := mkSp hn
  have m3 := mkIs hn
  have m6 := mkBo hn
  have m8 := mkIn hn
  refine wpAny_ready (rs := [1, 3, 11]) (by kernel_rfl) (by simp) ?_
  refine AllReady.cons rfl (fun K hKK => ?_) ?_
  · go_simp
    refine hKK _ _ ?_
    clear hKK K
    exact mk_acd hn hQp hK w.heap.size b6 b8 _ (below_alloc hB _) (AtB.new hB _ _) (f6.alloc _) (f8.alloc _)
  refine AllReady.cons rfl (fun K hKK => ?_) ?_
  · go_simp
    refine hKK _ _ ?_
    clear hKK K
    exact mk_bcd hn hQp hK w.heap.size b6 b8 _ (below_alloc hB _) (AtB.new hB _ _) (f6.alloc _) (f8.alloc _)
  refine AllReady.cons rfl (fun K hKK => ?_) ?_
  · go_simp
    refine hKK _ _ ?_
    clear hKK K
    exact mk_cdp hn hQp hK b6 b8 w.heap.size _ (below_alloc hB _) (f6.alloc _) (f8.alloc _) (AtB.new hB _ _)
  exact AllReady.nil
theorem mk_cp (hn : n ≤ 1024) (hQp : PanK Q) (hK : MkK n w0 Q x) (b6 bp : Nat) (w : World) (hB : Below w0.heap.size w0 w) (f6 : AtB w0 w b6 4 (madeCells #[.bool false] n)) (f11 : AtB w0 w bp 66 #[.pointer none]) :
    wpAny Tryd.prog .any ops8 Q 7 #[true, false, true, false, false, true, true, true, false, false, false, true, false] ⟨frB x n (.pointer (some ⟨bp, 0, none⟩)) (.int .i64 n) undef undef undef (.slice (some ⟨b6, 0, none⟩) n n) undef undef undef, []⟩ w := by
  unfold frB
  change wpAny _ _ #[_, _, _, _, _, _, _, _, _, _, _, _, _] _ _ _ _ _
  have m1 := mkSp hn
  have m3 := mkIs hn
  have m6 := mkBo hn
  have m8 := mkIn hn
  refine wpAny_ready (rs := [1, 3, 8]) (by kernel_rfl) (by simp) ?_
  refine AllReady.cons rfl (fun K hKK => ?_) ?_
  · go_simp
    refine hKK _ _ ?_
    clear hKK K
    exact mk_acp hn hQp hK w.heap.size b6 bp _ (below_alloc hB _) (AtB.new hB _ _) (f6.alloc _) (f11.alloc _)
  refine AllReady.cons rfl (fun K hKK => ?_) ?_
  · go_simp
    refine hKK _ _ ?_
    clear hKK K
    exact mk_bcp hn hQp hK w.heap.size b6 bp _ (below_alloc hB _) (AtB.new hB _ _) (f6.alloc _) (f11.alloc _)
  refine AllReady.cons rfl (fun K hKK => ?_) ?_
  · go_simp
    refine hKK _ _ ?_
    clear hKK K
    exact mk_cdp hn hQp hK b6 w.heap.size bp _ (below_alloc hB _) (f6.alloc _) (AtB.new hB _ _) (f11.alloc _)
  exact AllReady.nil
theorem mk_dp (hn : n ≤ 1024) (hQp : PanK Q) (hK : MkK n w0 Q x) (b8 bp : Nat) (w : World) (hB : Below w0.heap.size w0 w) (f8 : AtB w0 w b8 3 (madeCells #[.int .i64 0] n)) (f11 : AtB w0 w bp 66 #[.pointer none]) :
    wpAny Tryd.prog .any ops8 Q 7 #[true, false, true, false, false, true, false, true, true, false, false, true, false] ⟨frB x n (.pointer (some ⟨bp, 0, none⟩)) (.int .i64 n) undef undef undef undef (.slice (some ⟨b8, 0, none⟩) n n) undef undef, []⟩ w := by
  unfold frB
  change wpAny _ _ #[_, _, _, _, _, _, _, _, _, _, _, _, _] _ _ _ _ _
  have m1 := mkSp hn
  have m3 := mkIs hn
  have m6 := mkBo hn
  have m8 := mkIn hn
  refine wpAny_ready (rs := [1, 3, 6]) (by kernel_rfl) (by simp) ?_
  refine AllReady.cons rfl (fun K hKK => ?_) ?_
  · go_simp
    refine hKK _ _ ?_
    clear hKK K
    exact mk_adp hn hQp hK w.heap.size b8 bp _ (below_alloc hB _) (AtB.new hB _ _) (f8.alloc _) (f11.alloc _)
  refine AllReady.cons rfl (fun K hKK => ?_) ?_
  · go_simp
    refine hKK _ _ ?_
    clear hKK K
    exact mk_bdp hn hQp hK w.heap.size b8 bp _ (below_alloc hB _) (AtB.new hB _ _) (f8.alloc _) (f11.alloc _)
  refine AllReady.cons rfl (fun K hKK => ?_) ?_
  · go_simp
    refine hKK _ _ ?_
    clear hKK K
    exact mk_cdp hn hQp hK w.heap.size b8 bp _ (below_alloc hB _) (AtB.new hB _ _) (f8.alloc _) (f11.alloc _)
  exact AllReady.nil
theorem mk_a (hn : n ≤ 1024) (hQp : PanK Q) (hK : MkK n w0 Q x) (b1 : Nat) (w : World) (hB : Below w0.heap.size w0 w) (f1 : AtB w0 w b1 26 (madeCells #[.slice none 0 0] n)) :
    wpAny Tryd.prog .any ops8 Q 8 #[true, true, true, false, false, true, false, true, false, false, false, false, false] ⟨frB x n undef (.int .i64 n) (.slice (some ⟨b1, 0, none⟩) n n) undef undef undef undef undef undef, []⟩ w := by
  unfold frB
  change wpAny _ _ #[_, _, _, _, _, _, _, _, _, _, _, _, _] _ _ _ _ _
  have m1 := mkSp hn
  have m3 := mkIs hn
  have m6 := mkBo hn
  have m8 := mkIn hn
  refine wpAny_ready (rs := [3, 6, 8, 11]) (by kernel_rfl) (by simp) ?_
  refine AllReady.cons rfl (fun K hKK => ?_) ?_
  · go_simp
    refine hKK _ _ ?_
    clear hKK K
    refine wpAny_take (i := 4) (v := ?_) rfl (by kernel_rfl) (by kernel_rfl) (by kernel_rfl) (fun _ _ _ h => hQp _ _ _ _ h) (Or.inl ⟨by rfl, ?_⟩) ?_
    rotate_left
    · (intro w'; go_simp <;> with_reducible rfl)
    exact mk_ab hn hQp hK b1 w.heap.size _ (below_alloc hB _) (f1.alloc _) (AtB.new hB _ _)
  refine AllReady.cons rfl (fun K hKK => ?_) ?_
  · go_simp
    refine hKK _ _ ?_
    clear hKK K
    exact mk_ac hn hQp hK b1 w.heap.size _ (below_alloc hB _) (f1.alloc _) (AtB.new hB _ _)
  refine AllReady.cons rfl (fun K hKK => ?_) ?_
  · go_simp
    refine hKK _ _ ?_
    clear hKK K
    exact mk_ad hn hQp hK b1 w.heap.size _ (below_alloc hB _) (f1.alloc _) (AtB.new hB _ _)
  refine AllReady.cons rfl (fun K hKK => ?_) ?_
  · go_simp
    refine hKK _ _ ?_
    clear hKK K
    exact mk_ap hn hQp hK b1 w.heap.size _ (below_alloc hB _) (f1.alloc _) (AtB.new hB _ _)
  exact AllReady.nil
theorem mk_b (hn : n ≤ 1024) (hQp : PanK Q) (hK : MkK n w0 Q x) (b3 : Nat) (w : World) (hB : Below w0.heap.size w0 w) (f3 : AtB w0 w b3 44 (madeCells #[.slice none 0 0] n)) :
    wpAny Tryd.prog .any ops8 Q 8 #[true, false, true, true, false, true, false, true, false, false, false, false, false] ⟨frB x n undef (.int .i64 n) undef (.slice (some ⟨b3, 0, none⟩) n n) undef undef undef undef undef, []⟩ w := by
  unfold frB
  change wpAny _ _ #[_, _, _, _, _, _, _, _, _, _, _, _, _] _ _ _ _ _
  have m1 := mkSp hn
  have m3 := mkIs hn
  have m6 := mkBo hn
  have m8 := mkIn hn
  refine wpAny_ready (rs := [1, 6, 8, 11]) (by kernel_rfl) (by simp) ?_
  refine AllReady.cons rfl (fun K hKK => ?_) ?_
  · go_simp
    refine hKK _ _ ?_
    clear hKK K
    refine wpAny_take (i := 4) (v := ?_) rfl (by kernel_rfl) (by kernel_rfl) (by kernel_rfl) (fun _ _ _ h => hQp _ _ _ _ h) (Or.inl ⟨by rfl, ?_⟩) ?_
    rotate_left
    · (intro w'; go_simp <;> with_reducible rfl)
    exact mk_ab hn hQp hK w.heap.size b3 _ (below_alloc hB _) (AtB.new hB _ _) (f3.alloc _)
  refine AllReady.cons rfl (fun K hKK => ?_) ?_
  · go_simp
    refine hKK _ _ ?_
    clear hKK K
    exact mk_bc hn hQp hK b3 w.heap.size _ (below_alloc hB _) (f3.alloc _) (AtB.new hB _ _)
  refine AllReady.cons rfl (fun K hKK => ?_) ?_
  · go_simp
    refine hKK _ _ ?_
    clear hKK K
    exact mk_bd hn hQp hK b3 w.heap.size _ (below_alloc hB _) (f3.alloc _) (AtB.new hB _ _)
  refine AllReady.cons rfl (fun K hKK => ?_) ?_
  · go_simp
    refine hKK _ _ ?_
    clear hKK K
    exact mk_bp hn hQp hK b3 w.heap.size _ (below_alloc hB _) (f3.alloc _) (AtB.new hB _ _)
  exact AllReady.nil
theorem mk_c (hn : n ≤ 1024) (hQp : PanK Q) (hK : MkK n w0 Q x) (b6 : Nat) (w : World) (hB : Below w0.heap.size w0 w) (f6 : AtB w0 w b6 4 (madeCells #[.bool false] n)) :
    wpAny Tryd.prog .any ops8 Q 8 #[true, false, true, false, false, true, true, true, false, false, false, false, false] ⟨frB x n undef (.int .i64 n) undef undef undef (.slice (some ⟨b6, 0, none⟩) n n) undef undef undef, []⟩ w := by
  unfold frB
  change wpAny _ _ #[_, _, _, _, _, _, _, _, _, _, _, _, _] _ _ _ _ _
  have m1 := mkSp hn
  have m3 := mkIs hn
  have m6 := mkBo hn
  have m8 := mkIn hn
  refine wpAny_ready (rs := [1, 3, 8, 11]) (by kernel_rfl) (by simp) ?_
  refine AllReady.cons rfl (fun K hKK => ?_) ?_
  · go_simp
    refine hKK _ _ ?_
    clear hKK K
    exact mk_ac hn hQp hK w.heap.size b6 _ (below_alloc hB _) (AtB.new hB _ _) (f6.alloc _)
  refine AllReady.cons rfl (fun K hKK => ?_) ?_
  · go_simp
    refine hKK _ _ ?_
    clear hKK K
    exact mk_bc hn hQp hK w.heap.size b6 _ (below_alloc hB _) (AtB.new hB _ _) (f6.alloc _)
  refine AllReady.cons rfl (fun K hKK => ?_) ?_
  · go_simp
    refine hKK _ _ ?_
    clear hKK K
    exact mk_cd hn hQp hK b6 w.heap.size _ (below_alloc hB _) (f6.alloc _) (AtB.new hB _ _)
  refine AllReady.cons rfl (fun K hKK => ?_) ?_
  · go_simp
    refine hKK _ _ ?_
    clear hKK K
    exact mk_cp hn hQp hK b6 w.heap.size _ (below_alloc hB _) (f6.alloc _) (AtB.new hB _ _)
  exact AllReady.nil
theorem mk_d (hn : n ≤ 1024) (hQp : PanK Q) (hK : MkK n w0 Q x) (b8 : Nat) (w : World) (hB : Below w0.heap.size w0 w) (f8 : AtB w0 w b8 3 (madeCells #[.int .i64 0] n)) :
    wpAny Tryd.prog .any ops8 Q 8 #[true, false, true, false, false, true, false, true, true, false, false, false, false] ⟨frB x n undef (.int .i64 n) undef undef undef undef (.slice (some ⟨b8, 0, none⟩) n n) undef undef, []⟩ w := by
  unfold frB
  change wpAny _ _ #[_, _, _, _, _, _, _, _, _, _, _, _, _] _ _ _ _ _
  have m1 := mkSp hn
  have m3 := mkIs hn
  have m6 := mkBo hn
  have m8 := mkIn hn
  refine wpAny_ready (rs := [1, 3, 6, 11]) (by kernel_rfl) (by simp) ?_
  refine AllReady.cons rfl (fun K hKK => ?_) ?_
  · go_simp
    refine hKK _ _ ?_
    clear hKK K
    exact mk_ad hn hQp hK w.heap.size b8 _ (below_alloc hB _) (AtB.new hB _ _) (f8.alloc _)
  refine AllReady.cons rfl (fun K hKK => ?_) ?_
  · go_simp
    refine hKK _ _ ?_
    clear hKK K
    exact mk_bd hn hQp hK w.heap.size b8 _ (below_alloc hB _) (AtB.new hB _ _) (f8.alloc _)
  refine AllReady.cons rfl (fun K hKK => ?_) ?_
  · go_simp
    refine hKK _ _ ?_
    clear hKK K
    exact mk_cd hn hQp hK w.heap.size b8 _ (below_alloc hB _) (AtB.new hB _ _) (f8.alloc _)
  refine AllReady.cons rfl (fun K hKK => ?_) ?_
  · go_simp
    refine hKK _ _ ?_
    clear hKK K
    exact mk_dp hn hQp hK b8 w.heap.size _ (below_alloc hB _) (f8.alloc _) (AtB.new hB _ _)
  exact AllReady.nil
theorem mk_p (hn : n ≤ 1024) (hQp : PanK Q) (hK : MkK n w0 Q x) (bp : Nat) (w : World) (hB : Below w0.heap.size w0 w) (f11 : AtB w0 w bp 66 #[.pointer none]) :
    wpAny Tryd.prog .any ops8 Q 8 #[true, false, true, false, false, true, false, true, false, false, false, true, false] ⟨frB x n (.pointer (some ⟨bp, 0, none⟩)) (.int .i64 n) undef undef undef undef undef undef undef, []⟩ w := by
  unfold frB
  change wpAny _ _ #[_, _, _, _, _, _, _, _, _, _, _, _, _] _ _ _ _ _
  have m1 := mkSp hn
  have m3 := mkIs hn
  have m6 := mkBo hn
  have m8 := mkIn hn
  refine wpAny_ready (rs := [1, 3, 6, 8]) (by kernel_rfl) (by simp) ?_
  refine AllReady.cons rfl (fun K hKK => ?_) ?_
  · go_simp
    refine hKK _ _ ?_
    clear hKK K
    exact mk_ap hn hQp hK w.heap.size bp _ (below_alloc hB _) (AtB.new hB _ _) (f11.alloc _)
  refine AllReady.cons rfl (fun K hKK => ?_) ?_
  · go_simp
    refine hKK _ _ ?_
    clear hKK K
    exact mk_bp hn hQp hK w.heap.size bp _ (below_alloc hB _) (AtB.new hB _ _) (f11.alloc _)
  refine AllReady.cons rfl (fun K hKK => ?_) ?_
  · go_simp
    refine hKK _ _ ?_
    clear hKK K
    exact mk_cp hn hQp hK w.heap.size bp _ (below_alloc hB _) (AtB.new hB _ _) (f11.alloc _)
  refine AllReady.cons rfl (fun K hKK => ?_) ?_
  · go_simp
    refine hKK _ _ ?_
    clear hKK K
    exact mk_dp hn hQp hK w.heap.size bp _ (below_alloc hB _) (AtB.new hB _ _) (f11.alloc _)
  exact AllReady.nil
theorem mk_0 (hn : n ≤ 1024) (hQp : PanK Q) (hK : MkK n w0 Q x) (w : World) (hB : Below w0.heap.size w0 w) :
    wpAny Tryd.prog .any ops8 Q 9 #[true, false, true, false, false, true, false, true, false, false, false, false, false] ⟨frB x n undef (.int .i64 n) undef undef undef undef undef undef undef, []⟩ w := by
  unfold frB
  change wpAny _ _ #[_, _, _, _, _, _, _, _, _, _, _, _, _] _ _ _ _ _
  have m1 := mkSp hn
  have m3 := mkIs hn
  have m6 := mkBo hn
  have m8 := mkIn hn
  refine wpAny_ready (rs := [1, 3, 6, 8, 11]) (by kernel_rfl) (by simp) ?_
  refine AllReady.cons rfl (fun K hKK => ?_) ?_
  · go_simp
    refine hKK _ _ ?_
    clear hKK K
    exact mk_a hn hQp hK w.heap.size _ (below_alloc hB _) (AtB.new hB _ _)
  refine AllReady.cons rfl (fun K hKK => ?_) ?_
  · go_simp
    refine hKK _ _ ?_
    clear hKK K
    exact mk_b hn hQp hK w.heap.size _ (below_alloc hB _) (AtB.new hB _ _)
  refine AllReady.cons rfl (fun K hKK => ?_) ?_
  · go_simp
    refine hKK _ _ ?_
    clear hKK K
    exact mk_c hn hQp hK w.heap.size _ (below_alloc hB _) (AtB.new hB _ _)
  refine AllReady.cons rfl (fun K hKK => ?_) ?_
  · go_simp
    refine hKK _ _ ?_
    clear hKK K
    exact mk_d hn hQp hK w.heap.size _ (below_alloc hB _) (AtB.new hB _ _)
  refine AllReady.cons rfl (fun K hKK => ?_) ?_
  · go_simp
    refine hKK _ _ ?_
    clear hKK K
    exact mk_p hn hQp hK w.heap.size _ (below_alloc hB _) (AtB.new hB _ _)
  exact AllReady.nil
end
section
variable {n : Nat} {w0 : World} {Q : Exit → Act → World → Prop} {x0 x1 x2 x3 x4 x5 x6 x7 x10 x11 x12 x13 x14 x15 x16 x17 x18 x19 x20 x21 x22 x23 x24 x25 x26 x27 x28 x29 x30 x31 x32 x33 x34 x35 x36 x37 x38 x39 x40 x41 : Value}
theorem region8 (hn : n ≤ 1024) (hQp : ∀ ch a a2 w, Q (.panic ch) a w → Q (.panic ch) a2 w) (hK : ∀ b1 b3 b6 b8 bx bp W, Below w0.heap.size w0 W → AtB w0 W b1 26 (madeCells #[.slice none 0 0] n) → AtB w0 W b3 44 (madeCells #[.slice none 0 0] n) → AtB w0 W b6 4 (madeCells #[.bool false] n) → AtB w0 W b8 3 (madeCells #[.int .i64 0] n) → AtB w0 W bx 69 #[.slice (some ⟨b1, 0, none⟩) n n, .slice (some ⟨b3, 0, none⟩) n n, .slice (some ⟨b6, 0, none⟩) n n, .slice (some ⟨b8, 0, none⟩) n n] → AtB w0 W bp 66 #[.pointer (some ⟨bx, 0, none⟩)] → Q .normal { tmps := #[x0, x1, x2, x3, x4, x5, x6, x7, .int .i64 n, .pointer (some ⟨bp, 0, none⟩), x10, x11, x12, x13, x14, x15, x16, x17, x18, x19, x20, x21, x22, x23, x24, x25, x26, x27, x28, x29, x30, x31, x32, x33, x34, x35, x36, x37, x38, x39, x40, x41, .int .i64 n, .slice (some ⟨b1, 0, none⟩) n n, .int .i64 n, .slice (some ⟨b3, 0, none⟩) n n, .agg #[.slice (some ⟨b1, 0, none⟩) n n, .slice (some ⟨b3, 0, none⟩) n n], .int .i64 n, .slice (some ⟨b6, 0, none⟩) n n, .int .i64 n, .slice (some ⟨b8, 0, none⟩) n n, .agg #[.slice (some ⟨b1, 0, none⟩) n n, .slice (some ⟨b3, 0, none⟩) n n, .slice (some ⟨b6, 0, none⟩) n n, .slice (some ⟨b8, 0, none⟩) n n], .pointer (some ⟨bx, 0, none⟩), undef, undef, undef, undef, undef, undef, undef, undef, undef, undef, undef, undef, undef, undef, undef, undef, undef, undef, undef, undef, undef, undef, undef, undef, undef, undef, undef, undef, undef, undef, undef, undef, undef, undef, undef, undef, undef, undef, undef, undef, undef, undef, undef, undef, undef, undef, undef, undef, undef, undef, undef, undef, undef, undef, undef, undef, undef, undef, undef, undef, undef, undef, undef, undef, undef, undef, undef, undef, undef, undef, undef, undef, undef, undef, undef, undef, undef, undef, undef, undef, undef, undef, undef, undef, undef, undef, undef, undef, undef, undef], defers := [] } W) :
    ∃ c, findR 8 (bodyOf Tryd.f15) = some c ∧ Code.wp Tryd.prog c Q { tmps := #[x0, x1, x2, x3, x4, x5, x6, x7, .int .i64 n, undef, x10, x11, x12, x13, x14, x15, x16, x17, x18, x19, x20, x21, x22, x23, x24, x25, x26, x27, x28, x29, x30, x31, x32, x33, x34, x35, x36, x37, x38, x39, x40, x41, undef, undef, undef, undef, undef, undef, undef, undef, undef, undef, undef, undef, undef, undef, undef, undef, undef, undef, undef, undef, undef, undef, undef, undef, undef, undef, undef, undef, undef, undef, undef, undef, undef, undef, undef, undef, undef, undef, undef, undef, undef, undef, undef, undef, undef, undef, undef, undef, undef, undef, undef, undef, undef, undef, undef, undef, undef, undef, undef, undef, undef, undef, undef, undef, undef, undef, undef, undef, undef, undef, undef, undef, undef, undef, undef, undef, undef, undef, undef, undef, undef, undef, undef, undef, undef, undef, undef, undef, undef, undef, undef, undef, undef, undef, undef, undef, undef, undef, undef, undef, undef], defers := [] } w0 := by
  refine ⟨_, rfl, ?_⟩
  refine wp_region_any (by kernel_rfl) ?_
  refine wpAny_take (i := 0) (v := ?_) rfl (by kernel_rfl) (by kernel_rfl) (by kernel_rfl) (fun _ _ _ h => hQp _ _ _ _ h) (Or.inl ⟨by rfl, ?_⟩) ?_
  rotate_left
  · (intro w'; go_simp <;> with_reducible rfl)
  refine wpAny_take (i := 2) (v := ?_) rfl (by kernel_rfl) (by kernel_rfl) (by kernel_rfl) (fun _ _ _ h => hQp _ _ _ _ h) (Or.inl ⟨by rfl, ?_⟩) ?_
  rotate_left
  · (intro w'; go_simp <;> with_reducible rfl)
  refine wpAny_take (i := 5) (v := ?_) rfl (by kernel_rfl) (by kernel_rfl) (by kernel_rfl) (fun _ _ _ h => hQp _ _ _ _ h) (Or.inl ⟨by rfl, ?_⟩) ?_
  rotate_left
  · (intro w'; go_simp <;> with_reducible rfl)
  refine wpAny_take (i := 7) (v := ?_) rfl (by kernel_rfl) (by kernel_rfl) (by kernel_rfl) (fun _ _ _ h => hQp _ _ _ _ h) (Or.inl ⟨by rfl, ?_⟩) ?_
  rotate_left
  · (intro w'; go_simp <;> with_reducible rfl)
  exact mk_0 (x := fun i => (#[x0, x1, x2, x3, x4, x5, x6, x7, undef, undef, x10, x11, x12, x13, x14, x15, x16, x17, x18, x19, x20, x21, x22, x23, x24, x25, x26, x27, x28, x29, x30, x31, x32, x33, x34, x35, x36, x37, x38, x39, x40, x41] : Array Value).getD i undef) hn hQp hK w0.drew (Below.refl _ _).drew
end
end Go.Proofs.YtddobhneplfddaaDoor
