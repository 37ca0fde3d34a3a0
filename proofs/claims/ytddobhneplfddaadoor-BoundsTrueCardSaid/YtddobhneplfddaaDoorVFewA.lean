/-
  Layer 16 (bounds): the walk of BoundsFew.
-/
import Derived.Test.YtddobhneplfddaaDoorV38
namespace Go.Proofs.YtddobhneplfddaaDoor
set_option maxRecDepth 100000
open Go.RowKit
set_option linter.unusedSimpArgs false
set_option linter.unusedVariables false
set_option maxHeartbeats 4000000 in
theorem fewL0 (m : ModD) (fn : Int) (w : World) (ht : TabOk w) (wm : m.Wf) (nm : m.Nils) (hm : ModOk w w.heap.size m) (h : (mayD m).e ≠ 0 ∨ fn < 0 ∨ (m.funcs.length : Int) ≤ fn) : Calls Tryd.prog 5 #[m.val, .int .i64 fn] w fun e w' => e = .returned (.bool true) ∧ Below w.heap.size w w' := by
  have HM := Lib.hid hm
  have HH := Lib.hid h
  clear hm h
  have B0 : Below w.heap.size w (w.alloc (.cells #[.slice m.ta m.ths.length m.tc, .slice m.fa m.funcs.length m.fc] 25)) := below_alloc (Below.refl _ _) _
  have P0 := Whl.new w 25 #[.slice m.ta m.ths.length m.tc, .slice m.fa m.funcs.length m.fc]
  go_enter Tryd.func5, Tryd.ntmps5
  go_wp2_with fail
  go_at_call 13
  refine (fixedL _ (ht.below B0 ht.size)).mono ?_
  rintro e w1 ⟨rfl, hb1⟩
  have B1 := below_step B0 hb1
  have P1 := P0.below' hb1
  have a0 := P1.cell 0
  have a1 := P1.cell 1
  simp only [List.getElem?_toArray, List.getElem?_cons_zero, List.getElem?_cons_succ] at a0 a1
  clear hb1
  go_wp2_with fail
  go_at_call 15
  refine (runP m fn wm nm _ ((HM.out.below B1 (Nat.le_refl _)).more B1.size) (ht.below B1 ht.size)).mono ?_
  rintro e w2 ⟨hb2, h2⟩
  have B2 := below_step B1 hb2
  have key : ∃ c : Int, (c != 0) = true ∧ e = .returned (.tuple #[.agg #[.slice none 0 0, .slice none 0 0], .int .i64 c]) := by
    rcases h2 with ⟨h0, he⟩ | ⟨_, _, he⟩ | ⟨h0, kf, e0, hk, _⟩
    · exact ⟨_, by simpa using h0, he⟩
    · exact ⟨1, by decide, he⟩
    · exfalso
      rcases HH.out with q | q | q
      · exact q h0
      · omega
      · omega
  obtain ⟨c, hc, rfl⟩ := key
  clear h2 hb2 a0 a1
  go_wp2
  go_ret
  exact ⟨by simp, below_alloc B2 _⟩
/-- What lies in memory in the laws that read an analysis. -/
structure LawM (w : World) (m : ModD) (n R sb ab : Nat) (L : Lay) (s : StD) (V : World) : Prop where
  below : Below w.heap.size w V
  mb : Whl V w.heap.size 25 #[.slice m.ta m.ths.length m.tc, .slice m.fa m.funcs.length m.fc]
  ab : Whl V ab 39 #[.slice (some ⟨L.inb, 0, none⟩) n n, .slice (some ⟨L.chb, 0, none⟩) n n]
  st : StP V w.heap.size n R sb L s
theorem LawM.drewN {w V : World} {m : ModD} {n R sb ab : Nat} {L : Lay} {s : StD} (h : LawM w m n R sb ab L s V) (k : Nat) : LawM w m n R sb ab L s (V.drewN k) := ⟨below_drewN h.below k, h.mb, h.ab, h.st.drewN k⟩
set_option maxHeartbeats 8000000 in
theorem fewL1 (m : ModD) (kf : Nat) (w : World) (ht : TabOk w) (wm : m.Wf) (nm : m.Nils) (hm : ModOk w w.heap.size m) (hmay : mayD m = ⟨0, 0, 0⟩) (hkm : kf < m.funcs.length) : Calls Tryd.prog 5 #[m.val, .int .i64 kf] w fun e w' => e = .returned (.bool true) ∧ Below w.heap.size w w' := by
  obtain ⟨fb, fo, hfa, hfb, u0, u1, u2, u3, u4⟩ := funcs_cells hm.funcs hkm
  have hr1 := (f_ok hmay hkm).regs
  have hn1 := (f_ok2 hmay hkm).2.1
  have hth := (may_few hmay).1
  obtain ⟨F, hF⟩ : ∃ F, nthF m.funcs kf = F := ⟨_, rfl⟩
  have hgood := fun s (hs : Final m (nthF m.funcs kf) s) => hs.good wm hmay hkm
  rw [hF] at u0 u1 u2 u3 u4 hr1 hn1 hgood
  obtain ⟨R, hRR⟩ : ∃ R : Nat, F.regs = (R : Int) := ⟨F.regs.toNat, by omega⟩
  rw [hRR] at u2 hr1
  have HM := Lib.hid hm
  have HY := Lib.hid hmay
  have HF := Lib.hid hF
  have HR := Lib.hid hRR
  have HG := Lib.hid hgood
  have HA := Lib.hid hfa
  have hkf : ((kf : Nat) : Int) < (m.funcs.length : Int) := by omega
  have hk0 : decide (((kf : Nat) : Int) < 0) = false := by simp
  have hk1 : decide (m.funcs.length ≤ kf) = false := by simp; omega
  have hk2 : decide ((m.funcs.length : Int) ≤ (kf : Int)) = false := by simp; omega
  clear hm hmay hF hRR hgood hfa u0 u1 u3
  have B0 : Below w.heap.size w (w.alloc (.cells #[.slice m.ta m.ths.length m.tc, .slice m.fa m.funcs.length m.fc] 25)) := below_alloc (Below.refl _ _) _
  have P0 := Whl.new w 25 #[.slice m.ta m.ths.length m.tc, .slice m.fa m.funcs.length m.fc]
  go_enter Tryd.func5, Tryd.ntmps5
  go_wp2_with fail
  go_at_call 13
  refine (fixedL _ (ht.below B0 ht.size)).mono ?_
  rintro e w1 ⟨rfl, hb1⟩
  have B1 := below_step B0 hb1
  have P1 := P0.below' hb1
  have a0 := P1.cell 0
  have a1 := P1.cell 1
  simp only [List.getElem?_toArray, List.getElem?_cons_zero, List.getElem?_cons_succ] at a0 a1
  clear hb1
  go_wp2_with fail
  go_at_call 15
  refine (runP m kf wm nm _ ((HM.out.below B1 (Nat.le_refl _)).more B1.size) (ht.below B1 ht.size)).mono ?_
  rintro e w2 ⟨hb2, h2⟩
  have B2 := below_step B1 hb2
  have P2 := P1.below' hb2
  rw [HY.out] at h2
  obtain ⟨L, sb, s, hfin, rfl, hS⟩ : ∃ L sb s, Final m F s ∧ e = .returned (.tuple #[.agg #[.slice (some ⟨L.inb, 0, none⟩) F.code.length F.code.length, .slice (some ⟨L.chb, 0, none⟩) F.code.length F.code.length], .int .i64 0]) ∧ StP w2 w1.heap.size F.code.length R sb L s := by
    rcases h2 with ⟨h0, _⟩ | ⟨_, h0, _⟩ | ⟨_, k2, e0, hk, h3⟩
    · exact absurd rfl h0
    · exfalso; omega
    · obtain rfl : k2 = kf := by omega
      rw [HF.out, HR.out, Int.toNat_natCast] at h3
      exact h3
  have hS2 : StP w2 w.heap.size F.code.length R sb L s := ⟨hS.st, hS.ins, hS.chs, hS.mks, hS.jns, hS.rows, hS.cnts, hS.apart, hS.ca, hS.ga, fun k hk => Nat.le_trans B1.size (hS.old k hk)⟩
  have M2 : LawM w m F.code.length R sb w2.heap.size L s (w2.alloc (.cells #[.slice (some ⟨L.inb, 0, none⟩) F.code.length F.code.length, .slice (some ⟨L.chb, 0, none⟩) F.code.length F.code.length] 39)) :=
    ⟨below_alloc B2 _, P2.alloc _, Whl.new _ _ _, hS2.alloc _⟩
  have HFI := Lib.hid hfin
  clear h2 hb2 a0 a1 hS hS2 hfin
  go_upto_region 4 with (fail)
  obtain ⟨V, hV⟩ : ∃ V, (w2.alloc (.cells #[.slice (some ⟨L.inb, 0, none⟩) F.code.length F.code.length, .slice (some ⟨L.chb, 0, none⟩) F.code.length F.code.length] 39)) = V := ⟨_, rfl⟩
  rw [hV] at M2 ⊢
  generalize w2.heap.size = ab at *
  obtain ⟨hg, _, _⟩ := HG.out s HFI.out
  have HGS := Lib.hid hg
  clear hV P2 B2 hg P1 P0 B0
  have e0 := M2.mb.cell 0
  have e1 := M2.mb.cell 1
  have e2 := M2.ab.cell 0
  have e3 := M2.ab.cell 1
  have l0 := M2.mb.lt
  have l1 := M2.ab.lt
  simp only [List.getElem?_toArray, List.getElem?_cons_zero, List.getElem?_cons_succ] at e0 e1 e2 e3
  rw [HA.out] at e1
  have u4V := u4
  have u2V := u2
  rw [← M2.below.cell (p := ⟨fb, fo + kf * 5 + 4, none⟩) hfb] at u4V
  rw [← M2.below.cell (p := ⟨fb, fo + kf * 5 + 2, none⟩) hfb] at u2V
  have hnn : ((F.code.length : Int) != (F.code.length : Int)) = false := by simp
  have hne : ((F.code.length : Int) == (F.code.length : Int)) = true := by simp
  have hRn : ((R : Int) != (R : Int)) = false := by simp
  have hRe : ((R : Int) == (R : Int)) = true := by simp
  have hRz : ((R : Int) != 0) = true := by simp; omega
  have hRy : ((R : Int) == 0) = false := by simp; omega
  go_wp2
  go_quiet (fail)
  go_wp2
  go_loopw [7] (fun i V => ∃ k : Nat, k ≤ F.code.length ∧ i = .int .i64 k ∧ LawM w m F.code.length R sb ab L s V) (fun i _ => F.code.length - (intOf i).toNat)
  case atStart => exact ⟨0, Nat.zero_le _, rfl, M2.drewN _⟩
  case round =>
    clear e0 e1 e2 e3 l0 l1 u4V u2V M2
    obtain ⟨k, hk, rfl, M2⟩ := hrel
    have e0 := M2.mb.cell 0
    have e1 := M2.mb.cell 1
    have e2 := M2.ab.cell 0
    have e3 := M2.ab.cell 1
    have l0 := M2.mb.lt
    have l1 := M2.ab.lt
    simp only [List.getElem?_toArray, List.getElem?_cons_zero, List.getElem?_cons_succ] at e0 e1 e2 e3
    rw [HA.out] at e1
    have u2V := u2
    rw [← M2.below.cell (p := ⟨fb, fo + kf * 5 + 2, none⟩) hfb] at u2V
    by_cases hlt : k < F.code.length
    · have hki : (k : Int) < (F.code.length : Int) := by omega
      have q1 := M2.st.chsC hlt
      have q2 := M2.st.insC hlt
      simp only [chV] at q1
      obtain ⟨cl, hcl⟩ : ∃ cl, s.changes.getD k [] = cl := ⟨_, rfl⟩
      have hcn := M2.st.cnts k hlt
      have hrow := HGS.out.ok.row k hlt
      rw [HR.out, Int.toNat_natCast] at hrow
      rw [hcl] at hcn hrow
      obtain ⟨IA, nI, cI, hIV, hlen, hcnt⟩ : ∃ (A : Option Addr) (nI cI : Nat), inV L R s k = .slice A nI cI ∧ (nI = 0 ∨ nI = R) ∧ ∀ j, j < R → cl.getD j 0 ≤ 4 + m.ths.length + 2 ∧ (nI = 0 → cl.getD j 0 = 0) := by
        cases ho : s.ins.getD k none with
        | none =>
          refine ⟨none, 0, 0, by rw [inV, ho], .inl rfl, fun j _ => ?_⟩
          have := (HGS.out.ok.none k ho).2.2 j
          rw [hcl] at this
          omega
        | some l =>
          refine ⟨_, R, _, by rw [inV, ho], .inr rfl, fun j hj => ⟨?_, fun h => by omega⟩⟩
          have := (HGS.out.ok.some k l ho).2.2 j (by rw [HR.out, Int.toNat_natCast]; exact hj)
          rw [hcl] at this
          omega
      rw [hIV] at q2
      have HCT := Lib.hid hcnt
      have HIV := Lib.hid hIV
      have HCL := Lib.hid hcl
      have HCN := Lib.hid hcn
      have HRW := Lib.hid hrow
      clear hcnt hIV hcn hrow hcl
      rcases hlen with hl | hl
      all_goals
        rw [hl] at q2
        have HL := Lib.hid hl
        clear hl
        go_wp2
        go_quiet (fail)
        go_wp2
        go_loopw [8] (fun i V => ∃ j : Nat, j ≤ R ∧ i = .int .i64 j ∧ LawM w m F.code.length R sb ab L s V) (fun i _ => R - (intOf i).toNat)
        case atStart => exact ⟨0, Nat.zero_le _, rfl, M2.drewN _⟩
        case round =>
          clear e0 e1 e2 e3 l0 l1 u2V M2 q1 q2
          obtain ⟨j, hj, rfl, M2⟩ := hrel
          have e0 := M2.mb.cell 0
          have e1 := M2.mb.cell 1
          have e2 := M2.ab.cell 0
          have e3 := M2.ab.cell 1
          have l0 := M2.mb.lt
          have l1 := M2.ab.lt
          simp only [List.getElem?_toArray, List.getElem?_cons_zero, List.getElem?_cons_succ] at e0 e1 e2 e3
          have q1 := M2.st.chsC hlt
          simp only [chV] at q1
          have q2 := M2.st.insC hlt
          rw [HIV.out, HL.out] at q2
          by_cases hjl : j < R
          · have hji : (j : Int) < (R : Int) := by omega
            have q3 := M2.st.cntC (k := j) hlt (by rw [HCL.out, HRW.out]; exact hjl)
            rw [HCL.out] at q3
            obtain ⟨c1, c2⟩ := HCT.out j hjl
            generalize cl.getD j 0 = c at *
            have hc0 : decide ((c : Int) < 0) = false := by simp
            have g1 : decide ((4 : Int) + (m.ths.length : Int) + 2 < (c : Int)) = false := by simp; omega
            first
              | (have hcz : c = 0 := c2 HL.out
                 subst hcz
                 clear c2 c1
                 go_wp2
                 go_roundw
                 case rel => exact ⟨j + 1, by omega, by go_num, M2⟩
                 case measure => simp only [intOf]; omega)
              | (clear c2
                 go_wp2
                 go_roundw
                 case rel => exact ⟨j + 1, by omega, by go_num, M2⟩
                 case measure => simp only [intOf]; omega)
          · obtain rfl : j = R := by omega
            go_wp2
            go_roundw
            case rel => exact ⟨k + 1, by omega, by go_num, M2⟩
            case measure => simp only [intOf]; omega
    · obtain rfl : k = F.code.length := by omega
      go_wp2
      go_ret
      exact ⟨rfl, M2.below⟩
theorem fewL (m : ModD) (fn : Int) (w : World) (ht : TabOk w) (wm : m.Wf) (nm : m.Nils) (hm : ModOk w w.heap.size m) : Calls Tryd.prog 5 #[m.val, .int .i64 fn] w fun e w' => e = .returned (.bool true) ∧ Below w.heap.size w w' := by
  by_cases h : (mayD m).e ≠ 0 ∨ fn < 0 ∨ (m.funcs.length : Int) ≤ fn
  · exact fewL0 m fn w ht wm nm hm h
  · obtain ⟨kf, rfl, hkf⟩ := nat_of (show 0 ≤ fn ∧ fn < (m.funcs.length : Int) by omega)
    exact fewL1 m kf w ht wm nm hm (may_e (by omega)) (by omega)
end Go.Proofs.YtddobhneplfddaaDoor
