/-
  Layer 16 (bounds): the walk of BoundsTrue: the parts.
-/
import Derived.Test.YtddobhneplfddaaDoorV18
import Derived.Test.YtddobhneplfddaaDoorV32
import Derived.Test.YtddobhneplfddaaDoorVFewA
namespace Go.Proofs.YtddobhneplfddaaDoor
set_option maxRecDepth 100000
open Go.RowKit
set_option linter.unusedSimpArgs false
set_option linter.unusedVariables false
set_option maxHeartbeats 4000000 in
theorem trueL0 (m : ModD) (fn : Int) (va vb : Value) (w : World) (ht : TabOk w) (wm : m.Wf) (nm : m.Nils) (hm : ModOk w w.heap.size m) (h : (mayD m).e ≠ 0 ∨ fn < 0 ∨ (m.funcs.length : Int) ≤ fn) : Calls Tryd.prog 8 #[m.val, .int .i64 fn, va, vb] w fun e w' => e = .returned (.bool true) ∧ Below w.heap.size w w' := by
  have HM := Lib.hid hm
  have HH := Lib.hid h
  clear hm h
  have B0 : Below w.heap.size w (w.alloc (.cells #[.slice m.ta m.ths.length m.tc, .slice m.fa m.funcs.length m.fc] 25)) := below_alloc (Below.refl _ _) _
  have P0 := Whl.new w 25 #[.slice m.ta m.ths.length m.tc, .slice m.fa m.funcs.length m.fc]
  go_enter Tryd.func8, Tryd.ntmps8
  go_wp2_with fail
  go_at_call 13
  refine (fixedL _ (ht.below B0 ht.size)).mono ?_
  rintro e w1 ⟨rfl, hb1⟩
  have B1 := below_step B0 hb1
  have P1 := P0.below' hb1
  have a0 := P1.cell 0
  have a1 := P1.cell 1
  simp only [List.getElem?_toArray, List.getElem?_cons_zero, List.getElem?_cons_succ] at a0 a1
  clear hb1
  go_wp2_with fail
  go_at_call 15
  refine (runP m fn wm nm _ ((HM.out.below B1 (Nat.le_refl _)).more B1.size) (ht.below B1 ht.size)).mono ?_
  rintro e w2 ⟨hb2, h2⟩
  have key : ∃ c : Int, (c != 0) = true ∧ e = .returned (.tuple #[.agg #[.slice none 0 0, .slice none 0 0], .int .i64 c]) := by
    rcases h2 with ⟨h0, he⟩ | ⟨_, _, he⟩ | ⟨h0, kf, e0, hk, _⟩
    · exact ⟨_, by simpa using h0, he⟩
    · exact ⟨1, by decide, he⟩
    · exfalso
      rcases HH.out with q | q | q
      · exact q h0
      · omega
      · omega
  obtain ⟨c, hc, rfl⟩ := key
  have B2 := below_alloc (below_step B1 hb2) (.cells #[.slice none 0 0, .slice none 0 0] 39)
  have P2 := (P1.below' hb2).alloc (.cells #[.slice none 0 0, .slice none 0 0] 39)
  have b0 := P2.cell 0
  have b1 := P2.cell 1
  simp only [List.getElem?_toArray, List.getElem?_cons_zero, List.getElem?_cons_succ] at b0 b1
  clear h2 hb2 a0 a1
  go_wp2_with fail
  go_at_call 22
  refine (mayR m _ wm ((HM.out.below B2 (Nat.le_refl _)).more B2.size)).mono ?_
  rintro e w3 ⟨rfl, hb3⟩
  have B3 := below_step B2 hb3
  have P3 := P2.below' hb3
  have d0 := P3.cell 0
  have d1 := P3.cell 1
  have l3 := P3.lt
  simp only [List.getElem?_toArray, List.getElem?_cons_zero, List.getElem?_cons_succ] at d0 d1
  clear hb3 b0 b1
  cases he : ((mayD m).e != 0)
  · cases h1 : decide (fn < 0)
    · have h2 : decide ((m.funcs.length : Int) ≤ fn) = true := by
        rcases HH.out with q | q | q
        · simp at he; exact absurd he q
        · simp at h1; omega
        · simpa using q
      go_wp2
      go_ret
      exact ⟨by simp, below_alloc B3 _⟩
    · go_wp2
      go_ret
      exact ⟨by simp, below_alloc B3 _⟩
  · go_wp2
    go_ret
    exact ⟨by simp, below_alloc B3 _⟩
theorem mkI6 {n : Nat} (hn : n ≤ 1024) (w : World) : (Instr.makeSlice 22 (.int .i64 (n : Int)) (.int .i64 (n : Int))).run Tryd.prog w = .ok (.slice (some ⟨w.heap.size, 0, none⟩) n n) (w.alloc (.cells (madeCells #[.int .i64 0] n) 2)) := by
  obtain ⟨i0, hi, hz0, hz1, hz2⟩ := info_parts (show (Tryd.prog.info? 2).map (fun i => (i.zero, i.size, i.bytes)) = some (some (.int .i64 0), 1, 8) by kernel_rfl)
  have := run_make (P := Tryd.prog) w 22 2 i0 (.int .i64 0) Tryd.underlying22 hi hz0 .i64 .i64 n n (by omega) (by omega) (by rw [hz2]; omega) (by omega)
  rw [this, hz1]
  simp [Value.cells]
theorem rowJ_made (w : World) (n : Nat) : RowJ (w.alloc (.cells (madeCells #[.int .i64 0] n) 2)) w.heap.size n (List.replicate n 0) := by
  refine ⟨_, Whl.new w _ _, ?_, ?_⟩
  · rw [made1]; simp
  · rw [made1]; simp
theorem HoldsL.wide {r : List Int} {a b : List Sp} (h : HoldsL r a) (hl : LeR a b) : HoldsL r b := ⟨h.1.trans hl.1, fun k hk => by
  obtain ⟨h1, h2⟩ := hl.2 k (by rw [hl.1]; exact hk)
  obtain ⟨h3, h4⟩ := h.2 k (by rw [hl.1]; exact hk)
  exact ⟨Int.le_trans h1 h3, Int.le_trans h4 h2⟩⟩
/-- The registers at the beginning. -/
theorem begin_holds {f : FuncD} {r : List Int} (hr : (r.length : Int) = f.regs) (hp : (f.params.length : Int) ≤ f.regs) (h1 : ∀ j, j < f.params.length → (nthS f.params j).In (r.getD j 0)) (h2 : ∀ j, f.params.length ≤ j → r.getD j 0 = 0) : HoldsL r (beginD f) := by
  refine ⟨by rw [begin_len hp]; omega, fun k hk => ?_⟩
  unfold beginD at hk ⊢
  rw [List.getD_eq_getElem?_getD]
  rcases Nat.lt_or_ge k f.params.length with q | q
  · rw [List.getElem?_append_left q]
    have := h1 k q
    rw [nthS, List.getD_eq_getElem?_getD] at this
    rw [List.getElem?_eq_getElem q] at this ⊢
    exact this
  · rw [List.getElem?_append_right q, h2 k q, List.getElem?_replicate]
    split <;> exact ⟨Int.le_refl _, Int.le_refl _⟩
theorem LawM.go {w V V' : World} {m : ModD} {n R sb ab : Nat} {L : Lay} {s : StD} (h : LawM w m n R sb ab L s V) (hb : Below V.heap.size V V') : LawM w m n R sb ab L s V' := ⟨below_step h.below hb, h.mb.below' hb, h.ab.below' hb, h.st.below' hb⟩
/-- What lies in memory in BoundsTrue. -/
structure TrueM (w : World) (m : ModD) (F : FuncD) (R sb ab fb : Nat) (L : Lay) (s : StD) (V : World) : Prop where
  law : LawM w m F.code.length R sb ab L s V
  fb : Whl V fb 48 #[.string F.name, .slice F.pa F.params.length F.pc, .int .i64 (R : Int), .int .i64 F.words, .slice F.ca F.code.length F.cc]
theorem TrueM.go {w V V' : World} {m : ModD} {F : FuncD} {R sb ab fb : Nat} {L : Lay} {s : StD} (h : TrueM w m F R sb ab fb L s V) (hb : Below V.heap.size V V') : TrueM w m F R sb ab fb L s V' := ⟨h.law.go hb, h.fb.below' hb⟩
/-- A store into the call's own row of numbers. -/
theorem TrueM.put {w V : World} {m : ModD} {F : FuncD} {R sb ab fb : Nat} {L : Lay} {s : StD} {g cp : Nat} {r : List Int} (h : TrueM w m F R sb ab fb L s V) (hr : RowJ V g cp r) (hg : w.heap.size ≤ g) (k : Nat) (v : Value) : TrueM w m F R sb ab fb L s (V.setCell ⟨g, k, none⟩ v) := by
  obtain ⟨cur, hw, _⟩ := hr
  have hne : ∀ {q t cs}, Whl V q t cs → t ≠ 2 → q ≠ g := fun hq ht => whl_apart hq hw ht
  refine ⟨⟨h.law.below.setCell (p := ⟨g, k, none⟩) hg _, h.law.mb.far (p := ⟨g, k, none⟩) (hne h.law.mb (by decide)) _, h.law.ab.far (p := ⟨g, k, none⟩) (hne h.law.ab (by decide)) _, h.law.st.keep fun q hq => Below.heap_setCell _ _ _ q (fun e => ?_)⟩, h.fb.far (p := ⟨g, k, none⟩) (hne h.fb (by decide)) _⟩
  exact whl_out h.law.st hw (by decide) (by decide) (by decide) (by decide) (by decide) (by decide) (by have e2 : q = g := e; exact e2 ▸ hq)
end Go.Proofs.YtddobhneplfddaaDoor
