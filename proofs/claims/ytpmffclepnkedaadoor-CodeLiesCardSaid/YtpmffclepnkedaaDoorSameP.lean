/-
  Layer 9 (code): Same of the program: by slices.Equal and slices.EqualFunc.
-/
import Derived.Test.YtpmffclepnkedaaDoorEqual
import Derived.Test.YtpmffclepnkedaaDoorFind
namespace Go.Proofs.YtpmffclepnkedaaDoor
open Go.RowKit
set_option linter.unusedSimpArgs false
set_option linter.unusedVariables false

/-- Two functions, alike in all fields. -/
def sameF (f g : FuncD) : Bool := eqN f.name g.name && ((f.regs == g.regs) && ((f.words == g.words) && (eqTo f.params.length g.params.length (sameS f.params g.params) && eqTo f.code.length g.code.length (sameX f.code g.code))))
def sameFs (fs gs : List FuncD) (k : Nat) : Bool := sameF (nthF fs k) (nthF gs k)
/-- Two modules. -/
def sameD (a b : ModD) : Bool := eqTo a.ths.length b.ths.length (sameI a.ths b.ths) && eqTo a.funcs.length b.funcs.length (sameFs a.funcs b.funcs)

theorem nthF_wf {fs : List FuncD} (h : ∀ f, f ∈ fs → f.Wf) {k : Nat} (hk : k < fs.length) : (nthF fs k).Wf := by
  unfold nthF
  rw [List.getD_eq_getElem?_getD, List.getElem?_eq_getElem hk]
  exact h _ (List.getElem_mem hk)

set_option maxHeartbeats 1000000 in
theorem same1P (f g : FuncD) (w : World) (wf : f.Wf) (wg : g.Wf) (hf : FuncOk w w.heap.size f) (hg : FuncOk w w.heap.size g) :
    Calls Tryd.prog 40 #[f.val, g.val] w fun e w' => e = .returned (.bool (sameF f g)) ∧ Below w.heap.size w w' := by
  have p1 := wf.plen
  have p2 := wg.plen
  have p3 := wf.clen
  have p4 := wg.clen
  cases n1 : eqN f.name g.name
  · go_enter Tryd.func40, Tryd.ntmps40
    go_wp2
    go_ret
    exact ⟨by simp [sameF, n1], below_alloc (below_alloc (Below.refl _ _) _) _⟩
  cases n2 : (f.regs == g.regs)
  · go_enter Tryd.func40, Tryd.ntmps40
    go_wp2
    go_ret
    exact ⟨by simp only [sameF, n1, n2, Bool.false_and, Bool.true_and]; rfl, below_alloc (below_alloc (Below.refl _ _) _) _⟩
  cases n3 : (f.words == g.words)
  · go_enter Tryd.func40, Tryd.ntmps40
    go_wp2
    go_ret
    exact ⟨by simp only [sameF, n1, n2, n3, Bool.false_and, Bool.true_and]; rfl, below_alloc (below_alloc (Below.refl _ _) _) _⟩
  have hf2 := (hf.below (below_alloc (below_alloc (Below.refl _ w) (.cells #[.string f.name, .slice f.pa f.params.length f.pc, .int .i64 f.regs, .int .i64 f.words, .slice f.ca f.code.length f.cc] 46)) (.cells #[.string g.name, .slice g.pa g.params.length g.pc, .int .i64 g.regs, .int .i64 g.words, .slice g.ca g.code.length g.cc] 46)) (Nat.le_refl _)).more (B' := _) (show _ ≤ ((w.alloc (.cells #[.string f.name, .slice f.pa f.params.length f.pc, .int .i64 f.regs, .int .i64 f.words, .slice f.ca f.code.length f.cc] 46)).alloc (.cells #[.string g.name, .slice g.pa g.params.length g.pc, .int .i64 g.regs, .int .i64 g.words, .slice g.ca g.code.length g.cc] 46)).heap.size by simp; omega)
  have hg2 := (hg.below (below_alloc (below_alloc (Below.refl _ w) (.cells #[.string f.name, .slice f.pa f.params.length f.pc, .int .i64 f.regs, .int .i64 f.words, .slice f.ca f.code.length f.cc] 46)) (.cells #[.string g.name, .slice g.pa g.params.length g.pc, .int .i64 g.regs, .int .i64 g.words, .slice g.ca g.code.length g.cc] 46)) (Nat.le_refl _)).more (B' := _) (show _ ≤ ((w.alloc (.cells #[.string f.name, .slice f.pa f.params.length f.pc, .int .i64 f.regs, .int .i64 f.words, .slice f.ca f.code.length f.cc] 46)).alloc (.cells #[.string g.name, .slice g.pa g.params.length g.pc, .int .i64 g.regs, .int .i64 g.words, .slice g.ca g.code.length g.cc] 46)).heap.size by simp; omega)
  have HF := Lib.hid hf2
  have HG := Lib.hid hg2
  clear hf2 hg2 hf hg
  cases n4 : eqTo f.params.length g.params.length (sameS f.params g.params)
  · have e : sameF f g = false := by simp only [sameF, n4, Bool.false_and, Bool.and_false]
    go_enter Tryd.func40, Tryd.ntmps40
    go_wp2_with (go_at_call 41; refine (equalSP _ _ _ _ f.params g.params _ (by omega) (by omega) HF.out.params HG.out.params).mono ?_; rintro e w1 ⟨rfl, hb1⟩)
    go_ret
    exact ⟨by rw [e]; rfl, below_step (below_alloc (below_alloc (Below.refl _ _) _) _) hb1⟩
  · have e : sameF f g = eqTo f.code.length g.code.length (sameX f.code g.code) := by simp only [sameF, n1, n2, n3, n4, Bool.true_and]
    have HE := Lib.hid e; clear e
    go_enter Tryd.func40, Tryd.ntmps40
    go_wp2_with (first
      | (go_at_call 41; refine (equalSP _ _ _ _ f.params g.params _ (by omega) (by omega) HF.out.params HG.out.params).mono ?_; rintro e w1 ⟨rfl, hb1⟩; obtain ⟨hcc1, hff1⟩ := bcell hb1; have hs1 := hb1.size; (try simp at hs1); have l1 : w.heap.size + 1 < w1.heap.size := (by omega); have m1 : w.heap.size < w1.heap.size := (by omega))
      | (go_at_call 42; refine (equalXP _ _ _ _ f.code g.code _ (by omega) (by omega) ((HF.out.code.below hb1 (Nat.le_refl _)).more hb1.size) ((HG.out.code.below hb1 (Nat.le_refl _)).more hb1.size)).mono ?_; rintro e w2 ⟨rfl, hb2⟩))
    go_ret
    exact ⟨by rw [HE.out]; rfl, below_step (below_step (below_alloc (below_alloc (Below.refl _ _) _) _) hb1) hb2⟩

set_option maxHeartbeats 1000000 in
theorem equalFuncP (A1 A2 : Option Addr) (c1 c2 : Nat) (fs gs : List FuncD) (w : World) (wf : ∀ f, f ∈ fs → f.Wf) (wg : ∀ f, f ∈ gs → f.Wf) (hm : fs.length ≤ 9223372036854775806) (hm2 : gs.length ≤ 9223372036854775806) (h1 : FuncsAt w w.heap.size A1 fs) (h2 : FuncsAt w w.heap.size A2 gs)
    (e1 : ∀ k, k < fs.length → FuncOk w w.heap.size (nthF fs k)) (e2 : ∀ k, k < gs.length → FuncOk w w.heap.size (nthF gs k)) :
    Calls Tryd.prog 39 #[.slice A1 fs.length c1, .slice A2 gs.length c2, .func (.func 40) #[] #[]] w fun e w' => e = .returned (.bool (eqTo fs.length gs.length (sameFs fs gs))) ∧ Below w.heap.size w w' := by
  have H1 := Lib.hid h1; clear h1
  have H2 := Lib.hid h2; clear h2
  have E1 := Lib.hid e1; clear e1
  have E2 := Lib.hid e2; clear e2
  by_cases hl : fs.length = gs.length
  · have hl' : ((fs.length : Int) != (gs.length : Int)) = false := by simp [hl]
    have hl2 : (fs.length : Int) = (gs.length : Int) := by omega
    have HL := Lib.hid hl; clear hl
    go_enter Tryd.func39, Tryd.ntmps39
    go_wp2
    clear hl2
    go_loopw [17] (fun i wr => ∃ k : Nat, k ≤ fs.length ∧ i = .int .i64 k ∧ Below w.heap.size w wr ∧ allTo (sameFs fs gs) k = true) (fun i _ => fs.length - (intOf i).toNat)
    case atStart => exact ⟨0, Nat.zero_le _, rfl, Below.refl _ _, rfl⟩
    case round =>
      obtain ⟨k, hk, rfl, hB, hall⟩ := hrel
      have HA := Lib.hid hall; clear hall
      have hll := HL.out
      by_cases hlt : k < fs.length
      · have hlt2 : k < gs.length := by omega
        obtain ⟨b1, o1, rfl, hb1, x0, x1, x2, x3, x4⟩ := funcs_cells (H1.out.below hB (Nat.le_refl _)) hlt
        obtain ⟨b2, o2, rfl, hb2, y0, y1, y2, y3, y4⟩ := funcs_cells (H2.out.below hB (Nat.le_refl _)) hlt2
        have hs := hB.size
        have F1 := Lib.hid (((E1.out k hlt).below hB (Nat.le_refl _)).more hs)
        have F2 := Lib.hid (((E2.out k hlt2).below hB (Nat.le_refl _)).more hs)
        have z1 : b1 < wr.heap.size := by omega
        have z2 : b2 < wr.heap.size := by omega
        clear hll
        cases hn : sameF (nthF fs k) (nthF gs k)
        all_goals go_wp2_with (go_at_call 40; refine (same1P (nthF fs k) (nthF gs k) _ (nthF_wf wf hlt) (nthF_wf wg hlt2) ?_ ?_).mono ?_; (· exact (F1.out.below (below_alloc (below_alloc (Below.refl _ _) _) _) (Nat.le_refl _)).more (by simp; omega)); (· exact (F2.out.below (below_alloc (below_alloc (Below.refl _ _) _) _) (Nat.le_refl _)).more (by simp; omega)); rintro e w1 ⟨rfl, hb1⟩)
        · go_ret
          exact ⟨by rw [eqTo_no (p := sameFs fs gs) hlt hn]; rfl, below_step (below_step hB (below_alloc (below_alloc (Below.refl _ _) _) _)) hb1⟩
        · go_roundw
          case rel => exact ⟨k + 1, by omega, by go_num, below_step (below_step hB (below_alloc (below_alloc (Below.refl _ _) _) _)) hb1, allTo_yes HA.out hn⟩
          case measure => simp only [intOf]; omega
      · obtain rfl : k = fs.length := by omega
        go_wp2
        go_ret
        refine ⟨?_, hB⟩
        rw [← hll, eqTo_yes HA.out]; rfl
  · have hl' : ((fs.length : Int) != (gs.length : Int)) = true := by simp; omega
    have HL := Lib.hid hl; clear hl
    go_enter Tryd.func39, Tryd.ntmps39
    go_wp2
    go_ret
    exact ⟨by rw [eqTo_len HL.out]; rfl, Below.refl _ _⟩

set_option maxHeartbeats 1000000 in
theorem sameP (a b : ModD) (w : World) (wa : a.Wf) (wb : b.Wf) (ha : ModOk w w.heap.size a) (hb : ModOk w w.heap.size b) :
    Calls Tryd.prog 25 #[a.val, b.val] w fun e w' => e = .returned (.bool (sameD a b)) ∧ Below w.heap.size w w' := by
  have p1 := wa.tlen
  have p2 := wb.tlen
  have p3 := wa.flen
  have p4 := wb.flen
  have HA := Lib.hid ha; clear ha
  have HB := Lib.hid hb; clear hb
  have ok2 : ∀ (m : ModD) (o o' : Obj), ModOk w w.heap.size m → ModOk ((w.alloc o).alloc o') ((w.alloc o).alloc o').heap.size m := fun m o o' h => (h.below (below_alloc (below_alloc (Below.refl _ _) _) _) (Nat.le_refl _)).more (by simp; omega)
  have OK := Lib.hid ok2; clear ok2
  cases n1 : eqTo a.ths.length b.ths.length (sameI a.ths b.ths)
  · have e : sameD a b = false := by simp only [sameD, n1, Bool.false_and]
    go_enter Tryd.func25, Tryd.ntmps25
    go_wp2_with (go_at_call 38; refine (equalIP _ _ _ _ a.ths b.ths _ (by omega) (by omega) (OK.out a _ _ HA.out).ths (OK.out b _ _ HB.out).ths).mono ?_; rintro e w1 ⟨rfl, hb1⟩)
    go_ret
    exact ⟨by rw [e]; rfl, below_step (below_alloc (below_alloc (Below.refl _ _) _) _) hb1⟩
  · have e : sameD a b = eqTo a.funcs.length b.funcs.length (sameFs a.funcs b.funcs) := by simp only [sameD, n1, Bool.true_and]
    have HE := Lib.hid e; clear e
    go_enter Tryd.func25, Tryd.ntmps25
    go_wp2_with (first
      | (go_at_call 38; refine (equalIP _ _ _ _ a.ths b.ths _ (by omega) (by omega) (OK.out a _ _ HA.out).ths (OK.out b _ _ HB.out).ths).mono ?_; rintro e w1 ⟨rfl, hb1⟩; obtain ⟨hcc1, hff1⟩ := bcell hb1; have hs1 := hb1.size; (try simp at hs1); have l1 : w.heap.size + 1 < w1.heap.size := (by omega); have m1 : w.heap.size < w1.heap.size := (by omega); have A1 := (OK.out a _ _ HA.out).step hb1; have B1 := (OK.out b _ _ HB.out).step hb1)
      | (go_at_call 39; refine (equalFuncP _ _ _ _ a.funcs b.funcs _ wa.funcs wb.funcs (by omega) (by omega) A1.funcs B1.funcs A1.each B1.each).mono ?_; rintro e w2 ⟨rfl, hb2⟩))
    go_ret
    exact ⟨by rw [HE.out]; rfl, below_step (below_step (below_alloc (below_alloc (Below.refl _ _) _) _) hb1) hb2⟩
end Go.Proofs.YtpmffclepnkedaaDoor
