/-
  Layer 9 (code): what instruction says of an instruction.
-/
import Derived.Test.YtjacfeohpofhpaaDoorPlainL
import Derived.Test.YtjacfeohpofhpaaDoorCodeA
import Derived.BigQuiet
namespace Go.Proofs.YtjacfeohpofhpaaDoor
open Go.RowKit
set_option linter.unusedSimpArgs false
set_option linter.unusedVariables false
attribute [local go_sem ↓] Go.wp_at_zero Go.wp_at_succ

theorem row_n (k : Nat) : (row k).n = 0 ∨ (row k).n = 1 ∨ (row k).n = 2 ∨ (row k).n = 3 ∨ (row k).n = 4 := by
  rcases Nat.lt_or_ge k 20 with h | h
  · have : ∀ j, j < 20 → (row j).n = 0 ∨ (row j).n = 1 ∨ (row j).n = 2 ∨ (row j).n = 3 ∨ (row j).n = 4 := by decide
    exact this k h
  · left
    unfold row
    rw [List.getD_eq_getElem?_getD, List.getElem?_eq_none (by simpa [tab] using h)]; rfl
structure IMem (w : World) (m : ModD) (f : FuncD) (x : InsD) (wr : World) : Prop where
  below : Below w.heap.size w wr
  bm : Whl wr w.heap.size 25 #[.slice m.ta m.ths.length m.tc, .slice m.fa m.funcs.length m.fc]
  bf : Whl wr (w.heap.size + 1) 45 #[.string f.name, .slice f.pa f.params.length f.pc, .int .i64 f.regs, .int .i64 f.words, .slice f.ca f.code.length f.cc]
  bx : Whl wr (w.heap.size + 1 + 1) 52 #[.int .i64 x.op, .int .i64 x.a, .int .i64 x.b, .int .i64 x.c, .int .i64 x.n]
  br : Whl wr (w.heap.size + 1 + 1 + 1) 80 #[.string (strOf (row x.op.toNat).word), .int .i64 (row x.op.toNat).weight, .bool (row x.op.toNat).a, .bool (row x.op.toNat).b, .bool (row x.op.toNat).c, .int .i64 (row x.op.toNat).n, .bool (row x.op.toNat).wr]
theorem IMem.alloc {w wr : World} {m : ModD} {f : FuncD} {x : InsD} (h : IMem w m f x wr) (o : Obj) : IMem w m f x (wr.alloc o) := ⟨below_alloc h.below _, h.bm.alloc _, h.bf.alloc _, h.bx.alloc _, h.br.alloc _⟩
theorem whl_n1 (w : World) (o : Obj) (t : TypeId) (cs : Array Value) : Whl ((w.alloc o).alloc (.cells cs t)) (w.heap.size + 1) t cs := by
  have := Whl.new (w.alloc o) t cs
  rwa [World.size_alloc] at this
theorem IMem.start (w : World) (m : ModD) (f : FuncD) (x : InsD) : IMem w m f x ((((w.alloc (.cells #[.slice m.ta m.ths.length m.tc, .slice m.fa m.funcs.length m.fc] 25)).alloc (.cells #[.string f.name, .slice f.pa f.params.length f.pc, .int .i64 f.regs, .int .i64 f.words, .slice f.ca f.code.length f.cc] 45)).alloc (.cells #[.int .i64 x.op, .int .i64 x.a, .int .i64 x.b, .int .i64 x.c, .int .i64 x.n] 52)).alloc (.cells #[.string (strOf (row x.op.toNat).word), .int .i64 (row x.op.toNat).weight, .bool (row x.op.toNat).a, .bool (row x.op.toNat).b, .bool (row x.op.toNat).c, .int .i64 (row x.op.toNat).n, .bool (row x.op.toNat).wr] 80)) :=
  ⟨below_alloc (below_alloc (below_alloc (below_alloc (Below.refl _ _) _) _) _) _, (((Whl.new _ _ _).alloc _).alloc _).alloc _, ((whl_n1 _ _ _ _).alloc _).alloc _,
    (by have := whl_n1 (w.alloc (.cells #[.slice m.ta m.ths.length m.tc, .slice m.fa m.funcs.length m.fc] 25)) (.cells #[.string f.name, .slice f.pa f.params.length f.pc, .int .i64 f.regs, .int .i64 f.words, .slice f.ca f.code.length f.cc] 45) 52 #[.int .i64 x.op, .int .i64 x.a, .int .i64 x.b, .int .i64 x.c, .int .i64 x.n]; rw [World.size_alloc] at this; exact this.alloc _),
    (by have := whl_n1 ((w.alloc (.cells #[.slice m.ta m.ths.length m.tc, .slice m.fa m.funcs.length m.fc] 25)).alloc (.cells #[.string f.name, .slice f.pa f.params.length f.pc, .int .i64 f.regs, .int .i64 f.words, .slice f.ca f.code.length f.cc] 45)) (.cells #[.int .i64 x.op, .int .i64 x.a, .int .i64 x.b, .int .i64 x.c, .int .i64 x.n] 52) 80 #[.string (strOf (row x.op.toNat).word), .int .i64 (row x.op.toNat).weight, .bool (row x.op.toNat).a, .bool (row x.op.toNat).b, .bool (row x.op.toNat).c, .int .i64 (row x.op.toNat).n, .bool (row x.op.toNat).wr]; rw [World.size_alloc, World.size_alloc] at this; exact this)⟩

set_option maxHeartbeats 1000000 in
theorem insP_no (m : ModD) (f : FuncD) (x : InsD) (w : World) (wm : m.Wf) (wf : f.Wf) (wx : x.Wf) (hm : ModOk w w.heap.size m) (ht : TabOk w) (hk : known x.op = false) : Calls Tryd.prog 31 #[m.val, f.val, x.val] w fun e w' => e = .returned (.int .i64 (insErr m f x)) ∧ Below w.heap.size w w' := by
  go_enter Tryd.func31, Tryd.ntmps31
  go_wp2_with (go_at_call 37; refine (knownP _ _).mono ?_; rintro e w' ⟨rfl, rfl⟩)
  go_ret
  exact ⟨by rw [insErr, if_neg (by rw [hk]; decide)]; rfl, below_alloc (below_alloc (below_alloc (Below.refl _ _) _) _) _⟩

set_option maxHeartbeats 4000000 in
theorem insP_yes (m : ModD) (f : FuncD) (x : InsD) (w : World) (wm : m.Wf) (wf : f.Wf) (wx : x.Wf) (hm : ModOk w w.heap.size m) (ht : TabOk w) (hk : known x.op = true) : Calls Tryd.prog 31 #[m.val, f.val, x.val] w fun e w' => e = .returned (.int .i64 (insErr m f x)) ∧ Below w.heap.size w w' := by
  obtain ⟨k0, k1⟩ := known_yes hk
  have t1 := ht.word x.op.toNat (by omega)
  have t2 := ht.weight x.op.toNat (by omega)
  have t3 := ht.a x.op.toNat (by omega)
  have t4 := ht.b x.op.toNat (by omega)
  have t5 := ht.c x.op.toNat (by omega)
  have t6 := ht.n x.op.toNat (by omega)
  have t7 := ht.wr x.op.toNat (by omega)
  have hs := ht.size
  have HK := Lib.hid hk
  have HM := Lib.hid hm; clear hm
  have ii : ∀ k : Nat, k < 3 → ∀ w, (Instr.index 83 (.agg #[.bool (row x.op.toNat).a, .int .i64 x.a, .bool (row x.op.toNat).b, .int .i64 x.b, .bool (row x.op.toNat).c, .int .i64 x.c]) (.int .i64 k)).run Tryd.prog w = .ok (.agg #[.bool (hasK (row x.op.toNat) k), .int .i64 (regK x k)]) w := by
    intro k hk w
    have hk5 : k = 0 ∨ k = 1 ∨ k = 2 := by omega
    rcases hk5 with rfl | rfl | rfl
    · exact (show ∀ w, (Instr.index 83 (.agg #[.bool (row x.op.toNat).a, .int .i64 x.a, .bool (row x.op.toNat).b, .int .i64 x.b, .bool (row x.op.toNat).c, .int .i64 x.c]) (.int .i64 0)).run Tryd.prog w = .ok (.agg #[.bool (row x.op.toNat).a, .int .i64 x.a]) w from fun _ => by kernel_rfl) w
    · exact (show ∀ w, (Instr.index 83 (.agg #[.bool (row x.op.toNat).a, .int .i64 x.a, .bool (row x.op.toNat).b, .int .i64 x.b, .bool (row x.op.toNat).c, .int .i64 x.c]) (.int .i64 1)).run Tryd.prog w = .ok (.agg #[.bool (row x.op.toNat).b, .int .i64 x.b]) w from fun _ => by kernel_rfl) w
    · exact (show ∀ w, (Instr.index 83 (.agg #[.bool (row x.op.toNat).a, .int .i64 x.a, .bool (row x.op.toNat).b, .int .i64 x.b, .bool (row x.op.toNat).c, .int .i64 x.c]) (.int .i64 2)).run Tryd.prog w = .ok (.agg #[.bool (row x.op.toNat).c, .int .i64 x.c]) w from fun _ => by kernel_rfl) w
  have II := Lib.hid ii; clear ii
  go_enter Tryd.func31, Tryd.ntmps31
  go_wp2_with (go_at_call 37; refine (knownP _ _).mono ?_; rintro e w' ⟨rfl, rfl⟩)
  clear t1 t2 t3 t4 t5 t6 t7 hs
  go_loopw [34] (fun i wr => ∃ k : Nat, k ≤ 3 ∧ i = .int .i64 k ∧ fldsErr (row x.op.toNat) x f.regs k = 0 ∧ IMem w m f x wr) (fun i _ => 3 - (intOf i).toNat)
  case atStart => exact ⟨0, by omega, rfl, rfl, IMem.start w m f x⟩
  case round =>
    obtain ⟨k, hk3, rfl, hE, hM⟩ := hrel
    have HE := Lib.hid hE; clear hE
    have cbm1 : wr.cell? ⟨w.heap.size, 1, none⟩ = some (.slice m.fa m.funcs.length m.fc) := hM.bm.cell 1
    have cbf2 : wr.cell? ⟨w.heap.size + 1, 2, none⟩ = some (.int .i64 f.regs) := hM.bf.cell 2
    have cbf4 : wr.cell? ⟨w.heap.size + 1, 4, none⟩ = some (.slice f.ca f.code.length f.cc) := hM.bf.cell 4
    have cbx0 : wr.cell? ⟨w.heap.size + 1 + 1, 0, none⟩ = some (.int .i64 x.op) := hM.bx.cell 0
    have cbx1 : wr.cell? ⟨w.heap.size + 1 + 1, 1, none⟩ = some (.int .i64 x.a) := hM.bx.cell 1
    have cbx2 : wr.cell? ⟨w.heap.size + 1 + 1, 2, none⟩ = some (.int .i64 x.b) := hM.bx.cell 2
    have cbx3 : wr.cell? ⟨w.heap.size + 1 + 1, 3, none⟩ = some (.int .i64 x.c) := hM.bx.cell 3
    have cbx4 : wr.cell? ⟨w.heap.size + 1 + 1, 4, none⟩ = some (.int .i64 x.n) := hM.bx.cell 4
    have cbr5 : wr.cell? ⟨w.heap.size + 1 + 1 + 1, 5, none⟩ = some (.int .i64 (row x.op.toNat).n) := hM.br.cell 5
    by_cases hlt : k < 3
    · have ik := II.out k hlt
      have lf := hM.bf.lt
      rcases fldErr_cases (hasK (row x.op.toNat) k) (regK x k) f.regs with ⟨g1, g2, g0⟩ | ⟨g1, g2, g0⟩ | ⟨g1, g2, g0⟩ | ⟨g1, g2, g3, g0⟩ | ⟨g1, g2, g3, g0⟩
      · have hz : fldErr (hasK (row x.op.toNat) k) (regK x k) f.regs = 0 := g0
        have u1 : (regK x k != 0) = false := by simp [g2]
        go_wp2
        go_roundw
        case rel => exact ⟨k + 1, by omega, by go_num, by rw [fldsErr_next HE.out]; exact hz, hM.alloc _⟩
        case measure => simp only [intOf]; omega
      · have hz : fldErr (hasK (row x.op.toNat) k) (regK x k) f.regs = 62 := g0
        have u1 : (regK x k != 0) = true := by simpa using g2
        go_wp2
        go_ret
        exact ⟨by rw [insErr_fld HK.out hlt HE.out hz (by decide)]; rfl, below_alloc hM.below _⟩
      · have hz : fldErr (hasK (row x.op.toNat) k) (regK x k) f.regs = 61 := g0
        have v1 : decide (regK x k < 0) = true := by simp; omega
        go_wp2
        go_ret
        exact ⟨by rw [insErr_fld HK.out hlt HE.out hz (by decide)]; rfl, below_alloc hM.below _⟩
      · have hz : fldErr (hasK (row x.op.toNat) k) (regK x k) f.regs = 61 := g0
        have v1 : decide (regK x k < 0) = false := by simp; omega
        have v2 : decide (f.regs ≤ regK x k) = true := by simp; omega
        go_wp2
        go_ret
        exact ⟨by rw [insErr_fld HK.out hlt HE.out hz (by decide)]; rfl, below_alloc hM.below _⟩
      · have hz : fldErr (hasK (row x.op.toNat) k) (regK x k) f.regs = 0 := g0
        have v1 : decide (regK x k < 0) = false := by simp; omega
        have v2 : decide (f.regs ≤ regK x k) = false := by simp; omega
        go_wp2
        go_roundw
        case rel => exact ⟨k + 1, by omega, by go_num, by rw [fldsErr_next HE.out]; exact hz, hM.alloc _⟩
        case measure => simp only [intOf]; omega
    · obtain rfl : k = 3 := by omega
      have hfin : insErr m f x = nErr (row x.op.toNat) m f x := insErr_n HK.out HE.out
      have hcn := cbr5
      have hk4 : (row x.op.toNat).n = 0 ∨ (row x.op.toNat).n = 1 ∨ (row x.op.toNat).n = 2 ∨ (row x.op.toNat).n = 3 ∨ (row x.op.toNat).n = 4 := row_n x.op.toNat
      have HF := Lib.hid hfin; clear hfin
      have hflen := wm.flen
      have hclen := wf.clen
      clear cbr5
      rcases hk4 with hn | hn | hn | hn | hn <;> rw [hn] at hcn
      · by_cases h : x.n = 0
        · skip
          have u1 : (x.n != 0) = false := by simp [h]
          have hv : nErr (row x.op.toNat) m f x = 0 := by simp [nErr, hn, h]
          go_wp2
          go_ret
          exact ⟨by rw [HF.out, hv]; rfl, hM.below⟩
        · skip
          have u1 : (x.n != 0) = true := by simpa using h
          have hv : nErr (row x.op.toNat) m f x = 62 := by simp [nErr, hn, h]
          go_wp2
          go_ret
          exact ⟨by rw [HF.out, hv]; rfl, hM.below⟩
      · skip
        have hv : nErr (row x.op.toNat) m f x = 0 := by simp [nErr, hn]
        go_wp2
        go_ret
        exact ⟨by rw [HF.out, hv]; rfl, hM.below⟩
      · by_cases h : x.n < 0
        · skip
          have u1 : decide (x.n < 0) = true := by simp; omega
          have hv : nErr (row x.op.toNat) m f x = 63 := by simp [nErr, hn, h]
          go_wp2
          go_ret
          exact ⟨by rw [HF.out, hv]; rfl, hM.below⟩
        · by_cases h2 : (f.code.length : Int) ≤ x.n
          · skip
            have u1 : decide (x.n < 0) = false := by simp; omega
            have u2 : decide ((f.code.length : Int) ≤ x.n) = true := by simp; omega
            have hv : nErr (row x.op.toNat) m f x = 63 := by simp [nErr, hn, h2]
            go_wp2
            go_ret
            exact ⟨by rw [HF.out, hv]; rfl, hM.below⟩
          · skip
            have u1 : decide (x.n < 0) = false := by simp; omega
            have u2 : decide ((f.code.length : Int) ≤ x.n) = false := by simp; omega
            have hv : nErr (row x.op.toNat) m f x = 0 := by simp [nErr, hn]; omega
            go_wp2
            go_ret
            exact ⟨by rw [HF.out, hv]; rfl, hM.below⟩
      · by_cases h : x.n < 1
        · skip
          have u1 : decide (x.n < 1) = true := by simp; omega
          have hv : nErr (row x.op.toNat) m f x = 2 := by simp [nErr, hn, h]
          go_wp2
          go_ret
          exact ⟨by rw [HF.out, hv]; rfl, hM.below⟩
        · by_cases h2 : 4096 < x.n
          · skip
            have u1 : decide (x.n < 1) = false := by simp; omega
            have u2 : decide (4096 < x.n) = true := by simp; omega
            have hv : nErr (row x.op.toNat) m f x = 2 := by simp [nErr, hn, h2]
            go_wp2
            go_ret
            exact ⟨by rw [HF.out, hv]; rfl, hM.below⟩
          · skip
            have u1 : decide (x.n < 1) = false := by simp; omega
            have u2 : decide (4096 < x.n) = false := by simp; omega
            have hv : nErr (row x.op.toNat) m f x = 0 := by simp [nErr, hn]; omega
            go_wp2
            go_ret
            exact ⟨by rw [HF.out, hv]; rfl, hM.below⟩
      · by_cases h : x.n < 0
        · skip
          have u1 : decide (x.n < 0) = true := by simp; omega
          have hv : nErr (row x.op.toNat) m f x = 65 := by simp [nErr, hn, h]
          go_wp2
          go_quiet (fail)
          go_wp2
          go_ret
          exact ⟨by rw [HF.out, hv]; rfl, below_drewN hM.below _⟩
        · by_cases h2 : (m.funcs.length : Int) ≤ x.n
          · skip
            have u1 : decide (x.n < 0) = false := by simp; omega
            have u2 : decide ((m.funcs.length : Int) ≤ x.n) = true := by simp; omega
            have hv : nErr (row x.op.toNat) m f x = 65 := by simp [nErr, hn, h2]
            go_wp2
            go_quiet (fail)
            go_wp2
            go_ret
            exact ⟨by rw [HF.out, hv]; rfl, below_drewN hM.below _⟩
          · have hi : x.n.toNat < m.funcs.length := by omega
            obtain ⟨fb, fo, hfa, hfb, z0, z1, z2, z3, z4⟩ := funcs_cells (HM.out.funcs.below hM.below (Nat.le_refl _)) hi
            rw [hfa] at cbm1
            by_cases h3 : f.regs < wrap64 (x.b + (nthF m.funcs x.n.toNat).params.length)
            · skip
              have u1 : decide (x.n < 0) = false := by simp; omega
              have u2 : decide ((m.funcs.length : Int) ≤ x.n) = false := by simp; omega
              have u3 : decide (f.regs < wrap64 (x.b + (nthF m.funcs x.n.toNat).params.length)) = true := by simpa using h3
              have hv : nErr (row x.op.toNat) m f x = 65 := by simp [nErr, hn, h3]
              go_wp2
              go_quiet (fail)
              go_wp2
              go_ret
              exact ⟨by rw [HF.out, hv]; rfl, below_drewN hM.below _⟩
            · skip
              have u1 : decide (x.n < 0) = false := by simp; omega
              have u2 : decide ((m.funcs.length : Int) ≤ x.n) = false := by simp; omega
              have u3 : decide (f.regs < wrap64 (x.b + (nthF m.funcs x.n.toNat).params.length)) = false := by simpa using h3
              have hv : nErr (row x.op.toNat) m f x = 0 := by rw [nErr, if_neg (by omega), if_neg (by omega), if_neg (by omega), if_pos hn, if_neg (by omega)]
              go_wp2
              go_quiet (fail)
              go_wp2
              go_ret
              exact ⟨by rw [HF.out, hv]; rfl, below_drewN hM.below _⟩

theorem insP (m : ModD) (f : FuncD) (x : InsD) (w : World) (wm : m.Wf) (wf : f.Wf) (wx : x.Wf) (hm : ModOk w w.heap.size m) (ht : TabOk w) : Calls Tryd.prog 31 #[m.val, f.val, x.val] w fun e w' => e = .returned (.int .i64 (insErr m f x)) ∧ Below w.heap.size w w' := by
  cases hk : known x.op
  · exact insP_no m f x w wm wf wx hm ht hk
  · exact insP_yes m f x w wm wf wx hm ht hk
end Go.Proofs.YtjacfeohpofhpaaDoor
