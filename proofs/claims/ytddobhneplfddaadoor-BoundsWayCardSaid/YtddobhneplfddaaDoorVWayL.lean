/-
  Layer 16 (bounds): the walk of BoundsWay.
-/
import Derived.Test.YtddobhneplfddaaDoorV18
import Derived.Test.YtddobhneplfddaaDoorV32
import Derived.Test.YtddobhneplfddaaDoorV38
namespace Go.Proofs.YtddobhneplfddaaDoor
set_option maxRecDepth 100000
open Go.RowKit
set_option linter.unusedSimpArgs false
set_option linter.unusedVariables false
theorem sBel {w w' : World} {R : Prop} (h : Below w.heap.size w w' ∧ R) : Below w.heap.size w w' := h.1
set_option maxHeartbeats 8000000 in
theorem wayL (m : ModD) (fn at_ ans : Int) (l : List Sp) (r : List Int) (A A2 : Option Addr) (c c2 : Nat) (w : World) (ht : TabOk w) (wm : m.Wf) (nm : m.Nils) (hm : ModOk w w.heap.size m)
    (hl : ∀ s, s ∈ l → s.Wf) (hll : l.length * 16 ≤ 140737488351232) (hA : RowsAt w w.heap.size A l.length 2 fun k => spV (nthS l k)) (hr : ∀ s, s ∈ r → In64 s) (hrl : r.length * 8 ≤ 140737488351232) (hA2 : IntsAt w w.heap.size A2 r) (hat : In64 at_) (hans : In64 ans) :
    Calls Tryd.prog 7 #[m.val, .int .i64 fn, .int .i64 at_, .slice A l.length c, .slice A2 r.length c2, .int .i64 ans] w fun e w' => e = .returned (.bool true) ∧ Below w.heap.size w w' := by
  have HM := Lib.hid hm
  have HIA := Lib.hid hA
  have HIR := Lib.hid hA2
  have HLW := Lib.hid hl
  have HRW := Lib.hid hr
  have HAT := Lib.hid hat
  have HANS := Lib.hid hans
  clear hm hA hA2 hl hr hat hans
  have B0 : Below w.heap.size w (w.alloc (.cells #[.slice m.ta m.ths.length m.tc, .slice m.fa m.funcs.length m.fc] 25)) := below_alloc (Below.refl _ _) _
  have P0 := Whl.new w 25 #[.slice m.ta m.ths.length m.tc, .slice m.fa m.funcs.length m.fc]
  go_enter Tryd.func7, Tryd.ntmps7
  go_wp2_with fail
  go_at_call 22
  refine (mayR m _ wm ((HM.out.below B0 (Nat.le_refl _)).more B0.size)).mono ?_
  rintro e w1 ⟨rfl, hb1⟩
  have B1 := below_alloc (below_step B0 hb1) (.cells #[.int .i64 (mayD m).e, .int .i64 (mayD m).f, .int .i64 (mayD m).a] 53)
  have P1 := (P0.below' hb1).alloc (.cells #[.int .i64 (mayD m).e, .int .i64 (mayD m).f, .int .i64 (mayD m).a] 53)
  have Q1 := Whl.new w1 53 #[.int .i64 (mayD m).e, .int .i64 (mayD m).f, .int .i64 (mayD m).a]
  clear hb1
  go_wp2_with fail
  go_at_call 13
  refine (fixedL _ (ht.below B1 ht.size)).mono ?_
  rintro e w2 ⟨rfl, hb2⟩
  have B2 := below_step B1 hb2
  have P2 := P1.below' hb2
  have Q2 := Q1.below' hb2
  have a0 := P2.cell 0
  have a1 := P2.cell 1
  have f0 := Q2.cell 0
  have lP := P2.lt
  have lQ := Q2.lt
  simp only [List.getElem?_toArray, List.getElem?_cons_zero, List.getElem?_cons_succ] at a0 a1 f0
  clear hb2 B0 B1 P0 P1 Q1
  go_upto_region 4 with (fail)
  generalize w1.heap.size = fbx at *
  cases he : ((mayD m).e != 0)
  · have hmay : mayD m = ⟨0, 0, 0⟩ := may_e (by simpa using he)
    have HMY := Lib.hid hmay
    clear hmay
    cases h1 : decide (fn < 0)
    · cases h2 : decide ((m.funcs.length : Int) ≤ fn)
      · obtain ⟨kf, rfl, hkf⟩ := nat_of (show 0 ≤ fn ∧ fn < (m.funcs.length : Int) by simp at h1 h2; omega)
        have hkm : kf < m.funcs.length := by omega
        have h3 : decide (m.funcs.length ≤ kf) = false := by simp; omega
        obtain ⟨fb, fo, hfa, hfb, u0, u1, u2, u3, u4⟩ := funcs_cells HM.out.funcs hkm
        have hr1 := (f_ok HMY.out hkm).regs
        have hn1 := (f_ok2 HMY.out hkm).2.1
        have HAT2 := HAT
        obtain ⟨F, hF⟩ : ∃ F, nthF m.funcs kf = F := ⟨_, rfl⟩
        rw [hF] at u0 u1 u2 u3 u4 hr1 hn1
        have HF := Lib.hid hF
        rw [← B2.cell (p := ⟨fb, fo + kf * 5, none⟩) hfb] at u0
        rw [← B2.cell (p := ⟨fb, fo + kf * 5 + 1, none⟩) hfb] at u1
        rw [← B2.cell (p := ⟨fb, fo + kf * 5 + 2, none⟩) hfb] at u2
        rw [← B2.cell (p := ⟨fb, fo + kf * 5 + 3, none⟩) hfb] at u3
        rw [← B2.cell (p := ⟨fb, fo + kf * 5 + 4, none⟩) hfb] at u4
        rw [hfa] at a1
        have HFA := Lib.hid hfa
        have lfb : fb < w2.heap.size := by have := B2.size; omega
        clear hfa hF
        cases h4 : decide (at_ < 0)
        · cases h5 : decide ((F.code.length : Int) ≤ at_)
          · obtain ⟨frm, rfl, hfr⟩ := nat_of (show 0 ≤ at_ ∧ at_ < (F.code.length : Int) by simp at h4 h5; omega)
            have hfrm : frm < F.code.length := by omega
            have h6 : decide (F.code.length ≤ frm) = false := by simp; omega
            cases h7 : ((l.length : Int) != F.regs)
            · have h8 : ((l.length : Int) == F.regs) = true := by simpa [bne] using h7
              have hlen : (l.length : Int) = F.regs := by simpa using h8
              have HLEN := Lib.hid hlen
              clear hlen
              go_wp2_with fail
              go_at_call 23
              refine (holdsW r l A2 A c2 c (by unfold maxLen; omega) (by unfold maxLen; omega) _ ((HIR.out.below B2 (Nat.le_refl _)).more B2.size) ((HIA.out.below B2 (Nat.le_refl _)).more B2.size)).mono ?_
              rintro e w3 ⟨rfl, hb3⟩
              cases hh : holdsB r l
              · go_wp2
                go_ret
                exact ⟨rfl, below_step B2 hb3⟩
              · have HH := Lib.hid (holdsB_of hh)
                have B3 := below_step B2 hb3
                have P3 := P2.below' hb3
                have e0 := P3.cell 0
                have e1 := P3.cell 1
                have lP3 := P3.lt
                simp only [List.getElem?_toArray, List.getElem?_cons_zero, List.getElem?_cons_succ] at e0 e1
                rw [HFA.out] at e1
                rw [← hb3.cell (p := ⟨fb, fo + kf * 5, none⟩) lfb] at u0
                rw [← hb3.cell (p := ⟨fb, fo + kf * 5 + 1, none⟩) lfb] at u1
                rw [← hb3.cell (p := ⟨fb, fo + kf * 5 + 2, none⟩) lfb] at u2
                rw [← hb3.cell (p := ⟨fb, fo + kf * 5 + 3, none⟩) lfb] at u3
                rw [← hb3.cell (p := ⟨fb, fo + kf * 5 + 4, none⟩) lfb] at u4
                have lfb3 : fb < w3.heap.size := by have := hb3.size; omega
                have hrl2 : (r.length : Int) = F.regs := by rw [HH.out.1]; exact HLEN.out
                have HRL := Lib.hid hrl2
                have HSS := Lib.hid (fun (W : World) (hB : Below w.heap.size w W) => stepR m wm HMY.out hkm (frm := frm) (by rw [HF.out]; exact hfrm) r (by rw [HF.out]; exact hrl2) (getD_64 HRW.out) ans A2 c2 W ((HM.out.below hB (Nat.le_refl _)).more hB.size) ((HIR.out.below hB (Nat.le_refl _)).more hB.size))
                have HSO := Lib.hid (fun (tw : Int) (now : List Int) => step_sound wm HMY.out hkm (at_ := frm) (by rw [HF.out]; exact hfrm) (r := r) (l := l) (ans := ans) (tw := tw) (now := now) (by rw [HF.out]; exact hrl2) HH.out (getD_wf HLW.out) (getD_64 HRW.out) HANS.out)
                rw [HF.out] at HSS HSO
                have HEY := Lib.hid (fun (tw : Int) (h1 : tw ∈ nextD (nthF m.funcs kf) (frm : Int)) => edge_yes (m := m) (kf := kf) (k0 := frm) (tw := tw) (l := l) HMY.out hkm h1 (by rw [HF.out]; exact HLEN.out) (fun j s hj hs => by
                  have := HH.out.2 j hj
                  rw [List.getD_eq_getElem?_getD, hs] at this
                  unfold Sp.In at this
                  simp only [Option.getD_some] at this
                  omega))
                rw [HF.out] at HEY
                have hmv : m.val = .agg #[.slice m.ta m.ths.length m.tc, .slice (some ⟨fb, fo, none⟩) m.funcs.length m.fc] := by rw [ModD.val, HFA.out]
                have hfv : F.val = .agg #[.string F.name, .slice F.pa F.params.length F.pc, .int .i64 F.regs, .int .i64 F.words, .slice F.ca F.code.length F.cc] := rfl
                have EP := Lib.hid (fun (tw : Int) (W : World) (hB : Below w.heap.size w W) => edgeP m kf frm tw A c l wm HAT.out (by unfold maxLen; omega) (fun k s hs => HLW.out s (List.mem_of_getElem? hs)) W ((HM.out.below hB (Nat.le_refl _)).more hB.size) (ht.below hB ht.size) ((HIA.out.below hB (Nat.le_refl _)).more hB.size))
                simp only [hmv, hfv] at HSS
                simp only [hmv] at EP
                clear hrl2 a0 a1 f0 hh P2 Q2 hb3 hmv hfv
                go_wp2
                go_region_held3 (fun w' => Below w.heap.size w w' ∧ w'.cell? ⟨w.heap.size, 0, none⟩ = some (.slice m.ta m.ths.length m.tc) ∧ w'.cell? ⟨w.heap.size, 1, none⟩ = some (.slice (some ⟨fb, fo, none⟩) m.funcs.length m.fc) ∧ w'.cell? ⟨fb, fo + kf * 5, none⟩ = some (.string F.name) ∧ w'.cell? ⟨fb, fo + kf * 5 + 1, none⟩ = some (.slice F.pa F.params.length F.pc) ∧ w'.cell? ⟨fb, fo + kf * 5 + 2, none⟩ = some (.int .i64 F.regs) ∧ w'.cell? ⟨fb, fo + kf * 5 + 3, none⟩ = some (.int .i64 F.words) ∧ w'.cell? ⟨fb, fo + kf * 5 + 4, none⟩ = some (.slice F.ca F.code.length F.cc))
                  (first | exact ⟨Below.drew B3, e0, e1, u0, u1, u2, u3, u4⟩ | exact keepB7 (by assumption) (by assumption) | go_simp)
                  ((go_at_call 24; refine (HSS.out _ (sBel (by assumption))).mono ?_; intro e w4 hst; obtain ⟨tw, sv, b, rfl, hb4, hres⟩ := hst.any; clear hst))
                obtain ⟨B4, x0, x1, _⟩ : Below w.heap.size w w4 ∧ w4.cell? ⟨w.heap.size, 0, none⟩ = some (.slice m.ta m.ths.length m.tc) ∧ w4.cell? ⟨w.heap.size, 1, none⟩ = some (.slice (some ⟨fb, fo, none⟩) m.funcs.length m.fc) ∧ w4.cell? ⟨fb, fo + kf * 5, none⟩ = some (.string F.name) ∧ w4.cell? ⟨fb, fo + kf * 5 + 1, none⟩ = some (.slice F.pa F.params.length F.pc) ∧ w4.cell? ⟨fb, fo + kf * 5 + 2, none⟩ = some (.int .i64 F.regs) ∧ w4.cell? ⟨fb, fo + kf * 5 + 3, none⟩ = some (.int .i64 F.words) ∧ w4.cell? ⟨fb, fo + kf * 5 + 4, none⟩ = some (.slice F.ca F.code.length F.cc) := by assumption
                have lw4 := World.block_lt_of_cell? w4 _ x0
                clear e0 e1 u0 u1 u2 u3 u4
                cases b
                · go_wp2
                  go_ret
                  exact ⟨rfl, B4⟩
                · obtain ⟨now, g, cp, hst, rfl, hrow, hgb⟩ := hres
                  obtain ⟨hin, ⟨out, ho, hh2⟩, hnl, h64⟩ := HSO.out tw now hst
                  have hE := HEY.out tw hin
                  rw [ho] at hE
                  have H2 := Lib.hid hh2
                  have HEG := Lib.hid hE
                  have HNL := Lib.hid hnl
                  have hnow : now.length * 8 ≤ 140737488351232 := by omega
                  have hout : out.length * 8 ≤ 140737488351232 := by have := hh2.1; omega
                  have h64t : In64 tw := by
                    have h1 := nextD_lt hin
                    unfold In64; omega
                  have EP2 := EP.out tw w4 B4
                  rw [HEG.out] at EP2
                  have HEP := Lib.hid EP2
                  clear hh2 hE ho hin h64 hnl EP2
                  go_wp2_with fail
                  go_at_call 10
                  refine HEP.out.mono ?_
                  rintro e w5 ⟨hb5, v, rfl, hv⟩
                  obtain ⟨⟨g2, cp2, rfl, hg2, hcl, hcm, hR2⟩, hol⟩ := hv
                  have B5 := below_step B4 hb5
                  have hr5 := hrow.below' hb5
                  have HW := Lib.hid (holdsW now out (some ⟨g, 0, none⟩) (some ⟨g2, 0, none⟩) cp cp2 (by unfold maxLen; omega) (by unfold maxLen; omega) w5 hr5.ints (hR2.toE.rowsAt hR2.lt))
                  rw [holdsB_yes H2.out] at HW
                  clear hb5 hR2 hr5 hol x0 x1
                  simp only [Option.isSome_some]
                  go_wp2_with fail
                  go_at_call 23
                  refine HW.out.mono ?_
                  rintro e w6 ⟨rfl, hb6⟩
                  go_wp2
                  go_ret
                  exact ⟨rfl, below_step B5 hb6⟩
            · have h8 : ((l.length : Int) == F.regs) = false := by simpa [bne] using h7
              go_wp2
              go_ret
              exact ⟨rfl, B2⟩
          · have h6 : decide ((F.code.length : Int) ≤ at_) = true := h5
            go_wp2
            go_ret
            exact ⟨rfl, B2⟩
        · go_wp2
          go_ret
          exact ⟨rfl, B2⟩
      · go_wp2
        go_ret
        exact ⟨rfl, B2⟩
    · go_wp2
      go_ret
      exact ⟨rfl, B2⟩
  · go_wp2
    go_ret
    exact ⟨rfl, B2⟩
end Go.Proofs.YtddobhneplfddaaDoor
