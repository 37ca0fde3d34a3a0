/-
  Layer 9 (code): what wrong of the reference says of a function as a whole.
-/
import Derived.Test.YtjacfeohpofhpaaDoorPlainL
import Derived.Test.YtjacfeohpofhpaaDoorSpoilt
import Derived.Test.YtjacfeohpofhpaaDoorWholeP
import Derived.BigQuiet
namespace Go.Proofs.YtjacfeohpofhpaaDoor
open Go.RowKit
set_option linter.unusedSimpArgs false
set_option linter.unusedVariables false
attribute [local go_sem ↓] Go.wp_at_zero Go.wp_at_succ

set_option maxHeartbeats 1000000 in
theorem wrong1 (m : ModD) (k : Nat) (w : World) (wm : m.Wf) (hm : ModOk w w.heap.size m) (hk : k < m.funcs.length) (n1 : isNameB (nthF m.funcs k).name = false) : Calls Tryd.prog 32 #[m.val, .int .i64 k] w fun e w' => e = .returned (.tuple #[.int .i64 8, .int .i64 0]) ∧ Below w.heap.size w w' := by
  have hflen := wm.flen
  have wfk := nthF_wfM wm hk
  have hnm := wfk.name
  have hpl := wfk.plen
  have hcl := wfk.clen
  obtain ⟨fb, fo, hfa, hfb, z0, z1, z2, z3, z4⟩ := funcs_cells hm.funcs hk
  have HM := Lib.hid hm; clear hm
  have HFA := Lib.hid hfa
  obtain ⟨ta, tc, ths, fa, fc, funcs⟩ := m
  dsimp only at *
  subst hfa
  go_enter Tryd.func32, Tryd.ntmps32
  go_wp2_with (first
    | (go_at_call 38; with_reducible refine (isNameR _ _ hnm).mono ?_; rintro e w0 ⟨rfl, rfl⟩))
  all_goals (try simp only [Exit.inBlock, Exit.then])
  all_goals refine ret_of ?_ rfl
  all_goals simp [results, Tryd.results32, go_sem]
  all_goals go_light
  all_goals exact (by repeat (first | exact Below.refl _ _ | with_reducible apply below_alloc | with_reducible apply below_drewN | with_reducible refine below_step ?_ hb1))

set_option maxHeartbeats 4000000 in
theorem wrong4 (m : ModD) (k : Nat) (w : World) (wm : m.Wf) (hm : ModOk w w.heap.size m) (hk : k < m.funcs.length) (q1 : isNameB (nthF m.funcs k).name = true) : Calls Tryd.prog 32 #[m.val, .int .i64 k] w fun e w' => e = .returned (.tuple #[.int .i64 (wholeE m k), .int .i64 (wholeA m k)]) ∧ Below w.heap.size w w' := by
  have n1 : isNameB (nthF m.funcs k).name = true := q1
  have K0 : Hid (findD m.funcs (nthF m.funcs k).name < (k : Int) → wholeE m k = 9 ∧ wholeA m k = 0) := Lib.hid (fun h => by
    refine ⟨?_, ?_⟩
    · simp only [wholeE]; rw [if_neg (by rw [q1]; decide), if_pos h]
    · simp only [wholeA]; rw [if_neg (by rw [q1]; decide), if_pos h])
  have K3 : Hid (findD m.funcs (nthF m.funcs k).name = k → 8 < (nthF m.funcs k).params.length → wholeE m k = 3 ∧ wholeA m k = 8) := Lib.hid (fun h h2 => by
    refine ⟨?_, ?_⟩
    · simp only [wholeE]; rw [if_neg (by rw [q1]; decide), if_neg (by rw [h]; omega), if_pos h2]
    · simp only [wholeA]; rw [if_neg (by rw [q1]; decide), if_neg (by rw [h]; omega), if_pos h2])
  have K1 : Hid (findD m.funcs (nthF m.funcs k).name = k → ¬ 8 < (nthF m.funcs k).params.length → ∀ e, emptyD (nthF m.funcs k).params = e → e ≠ -1 → wholeE m k = 40 ∧ wholeA m k = e) := Lib.hid (fun h2 h3 e he h => by
    refine ⟨?_, ?_⟩
    · simp only [wholeE]; rw [if_neg (by rw [q1]; decide), if_neg (by rw [h2]; omega), if_neg h3, he, if_pos h]
    · simp only [wholeA]; rw [if_neg (by rw [q1]; decide), if_neg (by rw [h2]; omega), if_neg h3, he, if_pos h])
  have K2 : Hid (findD m.funcs (nthF m.funcs k).name = k → ¬ 8 < (nthF m.funcs k).params.length → emptyD (nthF m.funcs k).params = -1 → wholeE m k = restErr (nthF m.funcs k) ∧ wholeA m k = 0) := Lib.hid (fun h2 h3 he => by
    refine ⟨?_, ?_⟩
    · simp only [wholeE]; rw [if_neg (by rw [q1]; decide), if_neg (by rw [h2]; omega), if_neg h3, he, if_neg (by simp)]
    · simp only [wholeA]; rw [if_neg (by rw [q1]; decide), if_neg (by rw [h2]; omega), if_neg h3, he, if_neg (by simp)])
  clear q1
  have hflen := wm.flen
  have wfk := nthF_wfM wm hk
  have hnm := wfk.name
  have hpl := wfk.plen
  have hcl := wfk.clen
  obtain ⟨fb, fo, hfa, hfb, z0, z1, z2, z3, z4⟩ := funcs_cells hm.funcs hk
  have HM := Lib.hid hm; clear hm
  have HFA := Lib.hid hfa
  obtain ⟨ta, tc, ths, fa, fc, funcs⟩ := m
  dsimp only at *
  subst hfa
  have HX : Hid (FuncsAt w w.heap.size (some ⟨fb, fo, none⟩) funcs) := Lib.hid HM.out.funcs
  go_enter Tryd.func32, Tryd.ntmps32
  go_wp2_with (first
    | (go_at_call 38; with_reducible refine (isNameR _ _ hnm).mono ?_; rintro e w0 ⟨rfl, rfl⟩))
  clear z0 z1 z2 z3 z4 n1
  have HK := Lib.hid hk
  go_loopw [8] (fun i wr => ∃ j : Nat, j ≤ k ∧ i = .int .i64 j ∧ allTo (freshN funcs (nthF funcs k).name) j = true ∧ WMem w ⟨ta, tc, ths, some ⟨fb, fo, none⟩, fc, funcs⟩ (nthF funcs k) wr) (fun i _ => k - (intOf i).toNat)
  case atStart => exact ⟨0, Nat.zero_le _, rfl, rfl, WMem.start w ⟨ta, tc, ths, some ⟨fb, fo, none⟩, fc, funcs⟩ (nthF funcs k)⟩
  case round =>
    obtain ⟨j, hj, rfl, hE, hM⟩ := hrel
    have HD := Lib.hid hE; clear hE
    have c0 : wr.cell? ⟨w.heap.size + 1, 0, none⟩ = some (.string (nthF funcs k).name) := hM.bf.cell 0
    have c1 : wr.cell? ⟨w.heap.size + 1, 1, none⟩ = some (.slice (nthF funcs k).pa (nthF funcs k).params.length (nthF funcs k).pc) := hM.bf.cell 1
    have c2 : wr.cell? ⟨w.heap.size + 1, 2, none⟩ = some (.int .i64 (nthF funcs k).regs) := hM.bf.cell 2
    have c3 : wr.cell? ⟨w.heap.size + 1, 3, none⟩ = some (.int .i64 (nthF funcs k).words) := hM.bf.cell 3
    have c4 : wr.cell? ⟨w.heap.size + 1, 4, none⟩ = some (.slice (nthF funcs k).ca (nthF funcs k).code.length (nthF funcs k).cc) := hM.bf.cell 4
    have c9 : wr.cell? ⟨w.heap.size, 1, none⟩ = some (.slice (some ⟨fb, fo, none⟩) funcs.length fc) := hM.bm.cell 1
    by_cases hlt : j < k
    · have hjl : j < funcs.length := by omega
      obtain ⟨fb2, fo2, hfe, hfb2, y0, y1, y2, y3, y4⟩ := funcs_cells (HX.out.below hM.below (Nat.le_refl _)) hjl
      simp only [Option.some.injEq, Addr.mk.injEq] at hfe
      obtain ⟨rfl, rfl, _⟩ := hfe
      clear y1 y2 y3 y4
      cases hn : eqN (nthF funcs j).name (nthF funcs k).name
      · go_wp2
        go_quiet (fail)
        go_wp2
        go_roundw
        case rel => exact ⟨j + 1, by omega, by go_num, allTo_yes HD.out (by simp only [freshN, hn, Bool.not_false]), hM.drewN _⟩
        case measure => simp only [intOf]; omega
      · obtain ⟨E1, E2⟩ := K0.out (by rw [findD_hit hjl HD.out hn]; omega)
        have HE := Lib.hid E1
        have HAt := Lib.hid E2
        clear E1 E2
        go_wp2
        go_quiet (fail)
        go_wp2
        refine ret_of ?_ rfl
        simp [results, Tryd.results32, go_sem, HE.out, HAt.out]
        go_light
        exact below_drewN hM.below _
    · obtain rfl : j = k := by omega
      have hself := findD_self HK.out HD.out
      have HS := Lib.hid hself; clear hself
      have hM1 := hM
      by_cases q3 : 8 < (nthF funcs j).params.length
      · have n3 : decide ((8 : Int) < ((nthF funcs j).params.length : Int)) = true := by simp; omega
        obtain ⟨E1, E2⟩ := K3.out HS.out q3
        have HE := Lib.hid E1
        have HAt := Lib.hid E2
        clear E1 E2
        go_wp2
        refine ret_of ?_ rfl
        simp [results, Tryd.results32, go_sem, HE.out, HAt.out]
        go_light
        exact hM.below
      have n3 : decide ((8 : Int) < ((nthF funcs j).params.length : Int)) = false := by simp; omega
      have K1 := Lib.hid (K1.out HS.out q3)
      have K2 := Lib.hid (K2.out HS.out q3)
      go_wp2
      clear n3 q3 hj hlt hM c0 c1 c2 c3 c4 c9
      go_loopw [9] (fun i wr => ∃ q : Nat, q ≤ (nthF funcs j).params.length ∧ i = .int .i64 q ∧ emptyD (nthF funcs j).params = badFrom (okSp (nthF funcs j).params) q ((nthF funcs j).params.length - q) ∧ WMem w ⟨ta, tc, ths, some ⟨fb, fo, none⟩, fc, funcs⟩ (nthF funcs j) wr) (fun i _ => (nthF funcs j).params.length - (intOf i).toNat)
      case atStart => exact ⟨0, Nat.zero_le _, rfl, rfl, hM1⟩
      case round =>
        obtain ⟨q, hj, rfl, hE, hM⟩ := hrel
        have HD := Lib.hid hE; clear hE
        have c0 : wr.cell? ⟨w.heap.size + 1, 0, none⟩ = some (.string (nthF funcs j).name) := hM.bf.cell 0
        have c1 : wr.cell? ⟨w.heap.size + 1, 1, none⟩ = some (.slice (nthF funcs j).pa (nthF funcs j).params.length (nthF funcs j).pc) := hM.bf.cell 1
        have c2 : wr.cell? ⟨w.heap.size + 1, 2, none⟩ = some (.int .i64 (nthF funcs j).regs) := hM.bf.cell 2
        have c3 : wr.cell? ⟨w.heap.size + 1, 3, none⟩ = some (.int .i64 (nthF funcs j).words) := hM.bf.cell 3
        have c4 : wr.cell? ⟨w.heap.size + 1, 4, none⟩ = some (.slice (nthF funcs j).ca (nthF funcs j).code.length (nthF funcs j).cc) := hM.bf.cell 4
        by_cases hlt : q < (nthF funcs j).params.length
        · obtain ⟨pb, po, hpa, hpb, hpc⟩ := ((HM.out.each j HK.out).params.below hM.below (Nat.le_refl _)) (by dsimp only; omega)
          have p0 : wr.cell? ⟨pb, po + q * 2, none⟩ = some (.int .i64 (nthS (nthF funcs j).params q).lo) := hpc q hlt 0 (by omega)
          have p1 : wr.cell? ⟨pb, po + q * 2 + 1, none⟩ = some (.int .i64 (nthS (nthF funcs j).params q).hi) := hpc q hlt 1 (by omega)
          have hpa' : (nthF funcs j).pa = some ⟨pb, po, none⟩ := hpa
          clear hpc hpa
          rw [hpa'] at c1
          cases hok : okSp (nthF funcs j).params q
          · have u1 : decide ((nthS (nthF funcs j).params q).hi < (nthS (nthF funcs j).params q).lo) = true := by simp [okSp] at hok; simpa using hok
            obtain ⟨E1, E2⟩ := K1.out q (by rw [HD.out, badFrom_yes hlt hok]) (by omega)
            have HE := Lib.hid E1
            have HAt := Lib.hid E2
            clear E1 E2
            go_wp2
            go_quiet (fail)
            go_wp2
            refine ret_of ?_ rfl
            simp [results, Tryd.results32, go_sem, HE.out, HAt.out]
            go_light
            exact below_drewN hM.below _
          · have u1 : decide ((nthS (nthF funcs j).params q).hi < (nthS (nthF funcs j).params q).lo) = false := by simp [okSp] at hok; simpa using hok
            go_wp2
            go_quiet (fail)
            go_wp2
            go_roundw
            case rel => exact ⟨q + 1, by omega, by go_num, by rw [HD.out, badFrom_no hlt hok], hM.drewN _⟩
            case measure => simp only [intOf]; omega
        · obtain rfl : q = (nthF funcs j).params.length := by omega
          obtain ⟨E1, E2⟩ := K2.out (by rw [HD.out, Nat.sub_self]; rfl)
          have HE := Lib.hid E1
          have HAt := Lib.hid E2
          clear E1 E2 hj hlt
          by_cases h0 : (nthF funcs j).regs < 1
          · have u0 : decide ((nthF funcs j).regs < 1) = true := by simp; omega
            have hv : restErr (nthF funcs j) = 95 := by simp only [restErr]; rw [if_pos (by omega)]
            go_wp2
            refine ret_of ?_ rfl
            simp [results, Tryd.results32, go_sem, HE.out, HAt.out, hv]
            go_light
            exact hM.below
          by_cases h1 : 64 < (nthF funcs j).regs
          · have u0 : decide ((nthF funcs j).regs < 1) = false := by simp; omega
            have u1 : decide (64 < (nthF funcs j).regs) = true := by simp; omega
            have hv : restErr (nthF funcs j) = 95 := by simp only [restErr]; rw [if_pos (by omega)]
            go_wp2
            refine ret_of ?_ rfl
            simp [results, Tryd.results32, go_sem, HE.out, HAt.out, hv]
            go_light
            exact hM.below
          by_cases h2 : (nthF funcs j).regs < ((nthF funcs j).params.length : Int)
          · have u0 : decide ((nthF funcs j).regs < 1) = false := by simp; omega
            have u1 : decide (64 < (nthF funcs j).regs) = false := by simp; omega
            have u2 : decide ((nthF funcs j).regs < ((nthF funcs j).params.length : Int)) = true := by simp; omega
            have hv : restErr (nthF funcs j) = 95 := by simp only [restErr]; rw [if_pos (by omega)]
            go_wp2
            refine ret_of ?_ rfl
            simp [results, Tryd.results32, go_sem, HE.out, HAt.out, hv]
            go_light
            exact hM.below
          by_cases h3 : (nthF funcs j).words < 0
          · have u0 : decide ((nthF funcs j).regs < 1) = false := by simp; omega
            have u1 : decide (64 < (nthF funcs j).regs) = false := by simp; omega
            have u2 : decide ((nthF funcs j).regs < ((nthF funcs j).params.length : Int)) = false := by simp; omega
            have u3 : decide ((nthF funcs j).words < 0) = true := by simp; omega
            have hv : restErr (nthF funcs j) = 96 := by simp only [restErr]; rw [if_neg (by omega), if_pos (by omega)]
            go_wp2
            refine ret_of ?_ rfl
            simp [results, Tryd.results32, go_sem, HE.out, HAt.out, hv]
            go_light
            exact hM.below
          by_cases h4 : 4096 < (nthF funcs j).words
          · have u0 : decide ((nthF funcs j).regs < 1) = false := by simp; omega
            have u1 : decide (64 < (nthF funcs j).regs) = false := by simp; omega
            have u2 : decide ((nthF funcs j).regs < ((nthF funcs j).params.length : Int)) = false := by simp; omega
            have u3 : decide ((nthF funcs j).words < 0) = false := by simp; omega
            have u4 : decide (4096 < (nthF funcs j).words) = true := by simp; omega
            have hv : restErr (nthF funcs j) = 96 := by simp only [restErr]; rw [if_neg (by omega), if_pos (by omega)]
            go_wp2
            refine ret_of ?_ rfl
            simp [results, Tryd.results32, go_sem, HE.out, HAt.out, hv]
            go_light
            exact hM.below
          by_cases h5 : (nthF funcs j).code.length = 0
          · have u0 : decide ((nthF funcs j).regs < 1) = false := by simp; omega
            have u1 : decide (64 < (nthF funcs j).regs) = false := by simp; omega
            have u2 : decide ((nthF funcs j).regs < ((nthF funcs j).params.length : Int)) = false := by simp; omega
            have u3 : decide ((nthF funcs j).words < 0) = false := by simp; omega
            have u4 : decide (4096 < (nthF funcs j).words) = false := by simp; omega
            have u6 : decide (((nthF funcs j).code.length : Int) < 1) = true := by first | (rw [decide_eq_true_eq]; omega) | (rw [decide_eq_false_iff_not]; omega)
            have hv : restErr (nthF funcs j) = 97 := by simp only [restErr]; rw [if_neg (by omega), if_neg (by omega), if_pos (by omega)]
            go_wp2
            refine ret_of ?_ rfl
            simp [results, Tryd.results32, go_sem, HE.out, HAt.out, hv]
            go_light
            exact hM.below
          by_cases h6 : (1024 : Int) < ((nthF funcs j).code.length : Int)
          · have u0 : decide ((nthF funcs j).regs < 1) = false := by simp; omega
            have u1 : decide (64 < (nthF funcs j).regs) = false := by simp; omega
            have u2 : decide ((nthF funcs j).regs < ((nthF funcs j).params.length : Int)) = false := by simp; omega
            have u3 : decide ((nthF funcs j).words < 0) = false := by simp; omega
            have u4 : decide (4096 < (nthF funcs j).words) = false := by simp; omega
            have u6 : decide (((nthF funcs j).code.length : Int) < 1) = false := by first | (rw [decide_eq_true_eq]; omega) | (rw [decide_eq_false_iff_not]; omega)
            have u7 : decide ((1024 : Int) < ((nthF funcs j).code.length : Int)) = true := by simp; omega
            have hv : restErr (nthF funcs j) = 97 := by simp only [restErr]; rw [if_neg (by omega), if_neg (by omega), if_pos (by omega)]
            go_wp2
            refine ret_of ?_ rfl
            simp [results, Tryd.results32, go_sem, HE.out, HAt.out, hv]
            go_light
            exact hM.below
          · have u0 : decide ((nthF funcs j).regs < 1) = false := by simp; omega
            have u1 : decide (64 < (nthF funcs j).regs) = false := by simp; omega
            have u2 : decide ((nthF funcs j).regs < ((nthF funcs j).params.length : Int)) = false := by simp; omega
            have u3 : decide ((nthF funcs j).words < 0) = false := by simp; omega
            have u4 : decide (4096 < (nthF funcs j).words) = false := by simp; omega
            have u6 : decide (((nthF funcs j).code.length : Int) < 1) = false := by first | (rw [decide_eq_true_eq]; omega) | (rw [decide_eq_false_iff_not]; omega)
            have u7 : decide ((1024 : Int) < ((nthF funcs j).code.length : Int)) = false := by simp; omega
            have hv : restErr (nthF funcs j) = 0 := by simp only [restErr]; rw [if_neg (by omega), if_neg (by omega), if_neg (by omega)]
            go_wp2
            refine ret_of ?_ rfl
            simp [results, Tryd.results32, go_sem, HE.out, HAt.out, hv]
            go_light
            exact hM.below

theorem wrongR (m : ModD) (k : Nat) (w : World) (wm : m.Wf) (hm : ModOk w w.heap.size m) (hk : k < m.funcs.length) : Calls Tryd.prog 32 #[m.val, .int .i64 k] w fun e w' => e = .returned (.tuple #[.int .i64 (wholeE m k), .int .i64 (wholeA m k)]) ∧ Below w.heap.size w w' := by
  cases n1 : isNameB (nthF m.funcs k).name
  · rw [show wholeE m k = 8 from by simp only [wholeE]; rw [if_pos n1], show wholeA m k = 0 from by simp only [wholeA]; rw [if_pos n1]]
    exact wrong1 m k w wm hm hk n1
  · exact wrong4 m k w wm hm hk n1
end Go.Proofs.YtjacfeohpofhpaaDoor
