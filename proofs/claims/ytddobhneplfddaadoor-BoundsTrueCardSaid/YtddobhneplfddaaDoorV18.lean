/-
  Layer 16 (bounds): MayR.
-/
import Derived.Test.YtddobhneplfddaaDoorV10
namespace Go.Proofs.YtddobhneplfddaaDoor
set_option maxRecDepth 100000
open Go.RowKit
set_option linter.unusedSimpArgs false
set_option linter.unusedVariables false
attribute [local go_sem ↓] Go.wp_at_zero Go.wp_at_succ

theorem MMem.goD {w wr w1 : World} {m : ModD} (h : MMem w m wr) (hb : Below wr.drew.heap.size wr.drew w1) : MMem w m w1 := ⟨below_step h.below.drew hb, h.bm.drew.below' hb, h.br.drew.below' hb⟩
theorem MMem.okD {w wr : World} {m : ModD} (h : MMem w m wr) (hm : ModOk w w.heap.size m) : ModOk wr.drew wr.drew.heap.size m := (hm.below h.below.drew (Nat.le_refl _)).more h.below.size
theorem spoiltR' (m : ModD) (f : FuncD) (x : InsD) (w : World) (wm : m.Wf) (wf : f.Wf) (wx : x.Wf) (A : Option Addr) (hA : m.fa = A) (hm : ModOk w w.heap.size m) :
    Calls Tryd.prog 46 #[.agg #[.slice m.ta m.ths.length m.tc, .slice A m.funcs.length m.fc], f.val, x.val] w fun e w' => e = .returned (.int .i64 (insErr m f x)) ∧ Below w.heap.size w w' := by
  subst hA
  exact spoiltR m f x w wm wf wx hm

set_option maxRecDepth 100000 in
set_option maxHeartbeats 8000000 in
theorem mayR (m : ModD) (w : World) (wm : m.Wf) (hm : ModOk w w.heap.size m) : Calls Tryd.prog 22 #[m.val] w fun e w' => e = .returned (.agg #[.int .i64 (mayD m).e, .int .i64 (mayD m).f, .int .i64 (mayD m).a]) ∧ Below w.heap.size w w' := by
  have hflen := wm.flen
  have htlen := wm.tlen
  have HM := Lib.hid hm; clear hm
  by_cases q1 : 16 < m.ths.length
  · have n1 : decide ((16 : Int) < (m.ths.length : Int)) = true := by simp; omega
    have HE := Lib.hid (mayD_1 q1)
    clear q1
    go_enter Tryd.func22, Tryd.ntmps22
    go_wp2
    all_goals (try simp only [Exit.inBlock, Exit.then])
    refine ret_of ?_ rfl
    simp [results, Tryd.results22, go_sem, HE.out]
    go_light
    exact (by repeat (first | exact Below.refl _ _ | with_reducible apply below_alloc | with_reducible apply below_drewN | with_reducible refine Below.setCell ?_ (by dsimp only; omega) _))
  have n1 : decide ((16 : Int) < (m.ths.length : Int)) = false := by simp; omega
  have Q1 := Lib.hid q1; clear q1
  go_enter Tryd.func22, Tryd.ntmps22
  go_wp2
  clear n1
  go_loopw [3] (fun s wr => ∃ i : Nat, 1 ≤ i ∧ (i ≤ m.ths.length ∨ m.ths.length = 0 ∧ i = 1) ∧ s = .int .i64 i ∧ riseD m = badFrom (okRise m.ths) i (m.ths.length - i) ∧ MMem w m wr) (fun s _ => m.ths.length - (intOf s).toNat)
  case atStart => exact ⟨1, Nat.le_refl _, by omega, rfl, rfl, MMem.start w m⟩
  case round =>
    obtain ⟨i, hi1, hi, rfl, hE, hM⟩ := hrel
    have HD := Lib.hid hE; clear hE
    have d0 : wr.cell? ⟨w.heap.size, 0, none⟩ = some (.slice m.ta m.ths.length m.tc) := hM.bm.cell 0
    have d1 : wr.cell? ⟨w.heap.size, 1, none⟩ = some (.slice m.fa m.funcs.length m.fc) := hM.bm.cell 1
    have r0 : wr.cell? ⟨w.heap.size + 1, 0, none⟩ = some (.int .i64 0) := hM.br.cell 0
    have s0 := hM.br.frozen 0
    have r1 : wr.cell? ⟨w.heap.size + 1, 1, none⟩ = some (.int .i64 0) := hM.br.cell 1
    have s1 := hM.br.frozen 1
    have r2 : wr.cell? ⟨w.heap.size + 1, 2, none⟩ = some (.int .i64 0) := hM.br.cell 2
    have s2 := hM.br.frozen 2
    have lr := hM.br.lt
    by_cases hlt : i < m.ths.length
    · obtain ⟨tb, to, hta, htb, htc⟩ := (HM.out.ths.below hM.below (Nat.le_refl _)) (by omega)
      have p0 : wr.cell? ⟨tb, to + i, none⟩ = some (.int .i64 (nthI m.ths i)) := htc i hlt
      have p1 : wr.cell? ⟨tb, to + (i - 1), none⟩ = some (.int .i64 (nthI m.ths (i - 1))) := htc (i - 1) (by omega)
      have hsub : IntKind.i64.wrap ((i : Int) - 1) = ((i - 1 : Nat) : Int) := by simp [IntKind.wrap, IntKind.bits, IntKind.signed]; omega
      have hsub2 : wrap64 ((i : Int) - 1) = ((i - 1 : Nat) : Int) := by unfold wrap64; omega
      have h10 : (0 : Int) ≤ ((i - 1 : Nat) : Int) := by omega
      have h11 : ((i - 1 : Nat) : Int) < (m.ths.length : Int) := by omega
      clear htc
      rw [hta] at d0
      cases hok : okRise m.ths i
      · have u1 : decide (nthI m.ths i ≤ nthI m.ths (i - 1)) = true := by simp [okRise] at hok; simpa using hok
        have HE := Lib.hid (mayD_2 Q1.out (by rw [HD.out, badFrom_yes hlt hok]))
        go_wp2
        go_quiet (fail)
        go_wp2
        all_goals (try simp only [Exit.inBlock, Exit.then])
        refine ret_of ?_ rfl
        simp [results, Tryd.results22, go_sem, HE.out, r0, r1, r2, s0, s1, s2]
        go_light
        exact (by repeat (first | exact hM.below | with_reducible apply below_alloc | with_reducible apply below_drewN | with_reducible refine Below.setCell ?_ (by dsimp only; omega) _))
      · have u1 : decide (nthI m.ths i ≤ nthI m.ths (i - 1)) = false := by simp [okRise] at hok; simpa using hok
        go_wp2
        go_quiet (fail)
        go_wp2
        go_roundw
        case rel => exact ⟨i + 1, by omega, by omega, by go_num, by rw [HD.out, badFrom_no hlt hok], hM.drewN _⟩
        case measure => simp only [intOf]; omega
    · have hrise : riseD m = -1 := by rw [HD.out, show m.ths.length - i = 0 by omega]; rfl
      have HR := Lib.hid hrise; clear hrise
      by_cases q3 : 32 < m.funcs.length
      · have n3 : decide ((32 : Int) < (m.funcs.length : Int)) = true := by simp; omega
        have HE := Lib.hid (mayD_3 Q1.out HR.out q3)
        go_wp2
        all_goals (try simp only [Exit.inBlock, Exit.then])
        refine ret_of ?_ rfl
        simp [results, Tryd.results22, go_sem, HE.out, r0, r1, r2, s0, s1, s2]
        go_light
        exact (by repeat (first | exact hM.below | with_reducible apply below_alloc | with_reducible apply below_drewN | with_reducible refine Below.setCell ?_ (by dsimp only; omega) _))
      have n3 : decide ((32 : Int) < (m.funcs.length : Int)) = false := by simp; omega
      have Q3 := Lib.hid q3; clear q3
      have hM0 := hM
      go_wp2
      clear n3 hi1 hi hM hlt d0 d1 r0 r1 r2 s0 s1 s2 lr
      go_loopw [4] (fun s wr => ∃ k : Nat, k ≤ m.funcs.length ∧ s = .int .i64 k ∧ wholeD m = badFrom (okWhole m) k (m.funcs.length - k) ∧ MMem w m wr) (fun s _ => m.funcs.length - (intOf s).toNat)
      case atStart => exact ⟨0, Nat.zero_le _, rfl, rfl, hM0⟩
      case round =>
        obtain ⟨k, hk, rfl, hE, hM⟩ := hrel
        have HD := Lib.hid hE; clear hE
        have d0 : wr.cell? ⟨w.heap.size, 0, none⟩ = some (.slice m.ta m.ths.length m.tc) := hM.bm.cell 0
        have d1 : wr.cell? ⟨w.heap.size, 1, none⟩ = some (.slice m.fa m.funcs.length m.fc) := hM.bm.cell 1
        have r0 : wr.cell? ⟨w.heap.size + 1, 0, none⟩ = some (.int .i64 0) := hM.br.cell 0
        have s0 := hM.br.frozen 0
        have r1 : wr.cell? ⟨w.heap.size + 1, 1, none⟩ = some (.int .i64 0) := hM.br.cell 1
        have s1 := hM.br.frozen 1
        have r2 : wr.cell? ⟨w.heap.size + 1, 2, none⟩ = some (.int .i64 0) := hM.br.cell 2
        have s2 := hM.br.frozen 2
        have lr := hM.br.lt
        by_cases hlt : k < m.funcs.length
        · cases hok : okWhole m k
          · have u1 : (wholeE m k != 0) = true := by simpa [okWhole] using hok
            have HE := Lib.hid (mayD_4 Q1.out HR.out Q3.out (by rw [HD.out, badFrom_yes hlt hok]))
            go_wp2_with (go_at_call 45; with_reducible refine (wrongR m k _ wm (hM.ok HM.out) hlt).mono ?_; rintro e w1 ⟨rfl, hb1⟩; have hM1 := hM.go hb1; obtain ⟨r10, r11, r12⟩ := hM1.r; have s10 := hM1.br.frozen 0; have s11 := hM1.br.frozen 1; have s12 := hM1.br.frozen 2)
            all_goals (try simp only [Exit.inBlock, Exit.then])
            refine ret_of ?_ rfl
            simp [results, Tryd.results22, go_sem, HE.out, r10, r11, r12, s10, s11, s12]
            go_light
            exact (by repeat (first | exact hM1.below | with_reducible apply below_alloc | with_reducible apply below_drewN | with_reducible refine Below.setCell ?_ (by dsimp only; omega) _))
          · have u1 : (wholeE m k != 0) = false := by simpa [okWhole] using hok
            go_wp2_with (go_at_call 45; with_reducible refine (wrongR m k _ wm (hM.ok HM.out) hlt).mono ?_; rintro e w1 ⟨rfl, hb1⟩; have hM1 := hM.go hb1; obtain ⟨r10, r11, r12⟩ := hM1.r; have s10 := hM1.br.frozen 0; have s11 := hM1.br.frozen 1; have s12 := hM1.br.frozen 2)
            go_roundw
            case rel => exact ⟨k + 1, by omega, by go_num, by rw [HD.out, badFrom_no hlt hok], hM1⟩
            case measure => simp only [intOf]; omega
        · obtain rfl : k = m.funcs.length := by omega
          have hwh : wholeD m = -1 := by rw [HD.out, Nat.sub_self]; rfl
          have HW := Lib.hid hwh; clear hwh
          have hM0 := hM
          go_wp2
          clear hk hM hlt d0 d1 r0 r1 r2 s0 s1 s2 lr
          go_loopw [7] (fun s wr => ∃ k : Nat, k ≤ m.funcs.length ∧ s = .int .i64 k ∧ codeD m = badFrom (okCode m) k (m.funcs.length - k) ∧ MMem w m wr) (fun s _ => m.funcs.length - (intOf s).toNat)
          case atStart => exact ⟨0, Nat.zero_le _, rfl, rfl, hM0⟩
          case round =>
            obtain ⟨k, hk, rfl, hE, hM⟩ := hrel
            have HD := Lib.hid hE; clear hE
            have d0 : wr.cell? ⟨w.heap.size, 0, none⟩ = some (.slice m.ta m.ths.length m.tc) := hM.bm.cell 0
            have d1 : wr.cell? ⟨w.heap.size, 1, none⟩ = some (.slice m.fa m.funcs.length m.fc) := hM.bm.cell 1
            have r0 : wr.cell? ⟨w.heap.size + 1, 0, none⟩ = some (.int .i64 0) := hM.br.cell 0
            have s0 := hM.br.frozen 0
            have r1 : wr.cell? ⟨w.heap.size + 1, 1, none⟩ = some (.int .i64 0) := hM.br.cell 1
            have s1 := hM.br.frozen 1
            have r2 : wr.cell? ⟨w.heap.size + 1, 2, none⟩ = some (.int .i64 0) := hM.br.cell 2
            have s2 := hM.br.frozen 2
            have lr := hM.br.lt
            by_cases hlt : k < m.funcs.length
            · obtain ⟨fb, fo, hfa, hfb, z0, z1, z2, z3, z4⟩ := funcs_cells (HM.out.funcs.below hM.below (Nat.le_refl _)) hlt
              have wfk := nthF_wfM wm hlt
              have hclen := wfk.clen
              have hc0 := whole_code HW.out hlt
              rw [hfa] at d1
              clear hfa
              have hM0 := hM
              go_wp2
              clear z0 z1 z2 z3 z4 d0 d1 r0 r1 r2 s0 s1 s2 lr hfb hM
              go_loopw [9] (fun s wr => ∃ i : Nat, i ≤ (nthF m.funcs k).code.length ∧ s = .int .i64 i ∧ firstIns m k = badFrom (okIns m k) i ((nthF m.funcs k).code.length - i) ∧ MMem w m wr) (fun s _ => (nthF m.funcs k).code.length - (intOf s).toNat)
              case atStart => exact ⟨0, Nat.zero_le _, rfl, rfl, hM0⟩
              case round =>
                obtain ⟨i, hi, rfl, hE, hM⟩ := hrel
                have HI := Lib.hid hE; clear hE
                have d0 : wr.cell? ⟨w.heap.size, 0, none⟩ = some (.slice m.ta m.ths.length m.tc) := hM.bm.cell 0
                have d1 : wr.cell? ⟨w.heap.size, 1, none⟩ = some (.slice m.fa m.funcs.length m.fc) := hM.bm.cell 1
                have r0 : wr.cell? ⟨w.heap.size + 1, 0, none⟩ = some (.int .i64 0) := hM.br.cell 0
                have s0 := hM.br.frozen 0
                have r1 : wr.cell? ⟨w.heap.size + 1, 1, none⟩ = some (.int .i64 0) := hM.br.cell 1
                have s1 := hM.br.frozen 1
                have r2 : wr.cell? ⟨w.heap.size + 1, 2, none⟩ = some (.int .i64 0) := hM.br.cell 2
                have s2 := hM.br.frozen 2
                have lr := hM.br.lt
                by_cases hlti : i < (nthF m.funcs k).code.length
                · obtain ⟨cb, co, hca, hcb, hcc⟩ := ((HM.out.each k hlt).code.below hM.below (Nat.le_refl _)) (by omega)
                  have i0 : wr.cell? ⟨cb, co + i * 5, none⟩ = some (.int .i64 (nthX (nthF m.funcs k).code i).op) := hcc i hlti 0 (by omega)
                  have i1 : wr.cell? ⟨cb, co + i * 5 + 1, none⟩ = some (.int .i64 (nthX (nthF m.funcs k).code i).a) := hcc i hlti 1 (by omega)
                  have i2 : wr.cell? ⟨cb, co + i * 5 + 2, none⟩ = some (.int .i64 (nthX (nthF m.funcs k).code i).b) := hcc i hlti 2 (by omega)
                  have i3 : wr.cell? ⟨cb, co + i * 5 + 3, none⟩ = some (.int .i64 (nthX (nthF m.funcs k).code i).c) := hcc i hlti 3 (by omega)
                  have i4 : wr.cell? ⟨cb, co + i * 5 + 4, none⟩ = some (.int .i64 (nthX (nthF m.funcs k).code i).n) := hcc i hlti 4 (by omega)
                  obtain ⟨fb2, fo2, hfe, hfb2, y0, y1, y2, y3, y4⟩ := funcs_cells (HM.out.funcs.below hM.below (Nat.le_refl _)) hlt
                  have wx := nthX_wfL wfk.code hlti
                  rw [hfe] at d1
                  have HFE := Lib.hid hfe
                  clear hcc hfe
                  have OKM := Lib.hid (hM.okD HM.out)
                  rw [hca]
                  have HCA := Lib.hid hca
                  clear hca
                  go_wp2
                  go_region_held3 (fun w' => w'.cell? ⟨w.heap.size, 0, none⟩ = some (.slice m.ta m.ths.length m.tc) ∧ w'.cell? ⟨w.heap.size, 1, none⟩ = some (.slice (some ⟨fb2, fo2, none⟩) m.funcs.length m.fc) ∧ w'.cell? ⟨fb2, fo2 + k * 5, none⟩ = some (.string (nthF m.funcs k).name) ∧ w'.cell? ⟨fb2, fo2 + k * 5 + 1, none⟩ = some (.slice (nthF m.funcs k).pa (nthF m.funcs k).params.length (nthF m.funcs k).pc) ∧ w'.cell? ⟨fb2, fo2 + k * 5 + 2, none⟩ = some (.int .i64 (nthF m.funcs k).regs) ∧ w'.cell? ⟨fb2, fo2 + k * 5 + 3, none⟩ = some (.int .i64 (nthF m.funcs k).words) ∧ w'.cell? ⟨fb2, fo2 + k * 5 + 4, none⟩ = some (.slice (nthF m.funcs k).ca (nthF m.funcs k).code.length (nthF m.funcs k).cc) ∧ w'.cell? ⟨cb, co + i * 5, none⟩ = some (.int .i64 (nthX (nthF m.funcs k).code i).op) ∧ w'.cell? ⟨cb, co + i * 5 + 1, none⟩ = some (.int .i64 (nthX (nthF m.funcs k).code i).a) ∧ w'.cell? ⟨cb, co + i * 5 + 2, none⟩ = some (.int .i64 (nthX (nthF m.funcs k).code i).b) ∧ w'.cell? ⟨cb, co + i * 5 + 3, none⟩ = some (.int .i64 (nthX (nthF m.funcs k).code i).c) ∧ w'.cell? ⟨cb, co + i * 5 + 4, none⟩ = some (.int .i64 (nthX (nthF m.funcs k).code i).n))
                    (first | exact keep12 (by assumption) (by assumption) | (go_simp; done))
                    (first | (go_at_call 46; with_reducible refine (spoiltR' m (nthF m.funcs k) (nthX (nthF m.funcs k).code i) _ wm wfk wx _ HFE.out OKM.out).mono ?_; rintro e w1 ⟨rfl, hb1⟩))
                  have hM1 := hM.goD hb1
                  obtain ⟨r10, r11, r12⟩ := hM1.r
                  have s10 := hM1.br.frozen 0
                  have s11 := hM1.br.frozen 1
                  have s12 := hM1.br.frozen 2
                  cases hok : okIns m k i
                  · have u1 : (insErr m (nthF m.funcs k) (nthX (nthF m.funcs k).code i) != 0) = true := by simpa [okIns] using hok
                    obtain ⟨E1, E2, E3⟩ := code_ins (m := m) (k := k) (i := i) (by rw [HI.out, badFrom_yes hlti hok]) (by simpa [okIns] using hok)
                    have HE := Lib.hid (mayD_5 Q1.out HR.out Q3.out HW.out (by rw [HD.out, badFrom_yes hlt E3]))
                    have H1 := Lib.hid E1
                    have H2 := Lib.hid E2
                    clear E1 E2 E3
                    go_wp2
                    all_goals (try simp only [Exit.inBlock, Exit.then])
                    refine ret_of ?_ rfl
                    simp [results, Tryd.results22, go_sem, HE.out, H1.out, H2.out, r10, r11, r12, s10, s11, s12]
                    go_light
                    exact (by repeat (first | exact hM1.below | with_reducible apply below_alloc | with_reducible apply below_drewN | with_reducible refine Below.setCell ?_ (by dsimp only; omega) _))
                  · have u1 : (insErr m (nthF m.funcs k) (nthX (nthF m.funcs k).code i) != 0) = false := by simpa [okIns] using hok
                    go_wp2
                    go_roundw
                    case rel => exact ⟨i + 1, by omega, by go_num, by rw [HI.out, badFrom_no hlti hok], hM1⟩
                    case measure => simp only [intOf]; omega
                · obtain rfl : i = (nthF m.funcs k).code.length := by omega
                  have hf1 : firstIns m k = -1 := by rw [HI.out, Nat.sub_self]; rfl
                  obtain ⟨cb, co, hca, hcb, hcc⟩ := ((HM.out.each k hlt).code.below hM.below (Nat.le_refl _)) (by omega)
                  have i0 : wr.cell? ⟨cb, co + ((nthF m.funcs k).code.length - 1) * 5, none⟩ = some (.int .i64 (lastOp m k)) := hcc ((nthF m.funcs k).code.length - 1) (by omega) 0 (by omega)
                  have hsub : IntKind.i64.wrap (((nthF m.funcs k).code.length : Int) - 1) = (((nthF m.funcs k).code.length - 1 : Nat) : Int) := by simp [IntKind.wrap, IntKind.bits, IntKind.signed]; omega
                  have hsub2 : wrap64 (((nthF m.funcs k).code.length : Int) - 1) = (((nthF m.funcs k).code.length - 1 : Nat) : Int) := by unfold wrap64; omega
                  have hsub3 : ((nthF m.funcs k).code.length : Int) - 1 = (((nthF m.funcs k).code.length - 1 : Nat) : Int) := by omega
                  have HS3 := Lib.hid hsub3
                  have h10 : (0 : Int) ≤ (((nthF m.funcs k).code.length - 1 : Nat) : Int) := by omega
                  have h11 : (((nthF m.funcs k).code.length - 1 : Nat) : Int) < ((nthF m.funcs k).code.length : Int) := by omega
                  clear hcc hi
                  rw [hca]
                  have HCA := Lib.hid hca
                  clear hca
                  cases v0 : (lastOp m k == 0)
                  · have x0 : (lastOp m k != 0) = true := by simp only [bne, v0, Bool.not_false]
                    cases v1 : (lastOp m k == 14)
                    · have x1 : (lastOp m k != 14) = true := by simp only [bne, v1, Bool.not_false]
                      cases v2 : (lastOp m k == 18)
                      · have x2 : (lastOp m k != 18) = true := by simp only [bne, v2, Bool.not_false]
                        obtain ⟨E1, E2, E3⟩ := code_end hf1 (by simp only [endsOk, v0, v1, v2, Bool.or_false])
                        have HE := Lib.hid (mayD_5 Q1.out HR.out Q3.out HW.out (by rw [HD.out, badFrom_yes hlt E3]))
                        have H1 := Lib.hid E1
                        have H2 := Lib.hid E2
                        clear E1 E2 E3
                        go_wp2
                        all_goals (try simp only [Exit.inBlock, Exit.then])
                        refine ret_of ?_ rfl
                        simp [results, Tryd.results22, go_sem, HE.out, H1.out, H2.out, HS3.out, r0, r1, r2, s0, s1, s2]
                        go_light
                        exact (by repeat (first | exact hM.below | with_reducible apply below_alloc | with_reducible apply below_drewN | with_reducible refine Below.setCell ?_ (by dsimp only; omega) _))
                      · have x2 : (lastOp m k != 18) = false := by simp only [bne, v2, Bool.not_true]
                        have hcok := code_ok hf1 (by simp only [endsOk, v0, v1, v2, Bool.or_true])
                        go_wp2
                        try rw [← HFA.out]
                        go_roundw
                        case rel => exact ⟨k + 1, by omega, by go_num, by rw [HD.out, badFrom_no hlt hcok], hM⟩
                        case measure => simp only [intOf]; omega
                    · have x1 : (lastOp m k != 14) = false := by simp only [bne, v1, Bool.not_true]
                      have hcok := code_ok hf1 (by simp only [endsOk, v0, v1, Bool.or_true, Bool.true_or])
                      go_wp2
                      try rw [← HFA.out]
                      go_roundw
                      case rel => exact ⟨k + 1, by omega, by go_num, by rw [HD.out, badFrom_no hlt hcok], hM⟩
                      case measure => simp only [intOf]; omega
                  · have x0 : (lastOp m k != 0) = false := by simp only [bne, v0, Bool.not_true]
                    have hcok := code_ok hf1 (by simp only [endsOk, v0, Bool.true_or])
                    go_wp2
                    try rw [← HFA.out]
                    go_roundw
                    case rel => exact ⟨k + 1, by omega, by go_num, by rw [HD.out, badFrom_no hlt hcok], hM⟩
                    case measure => simp only [intOf]; omega
            · obtain rfl : k = m.funcs.length := by omega
              have HE := Lib.hid (mayD_6 Q1.out HR.out Q3.out HW.out (by rw [HD.out, Nat.sub_self]; rfl))
              go_wp2
              all_goals (try simp only [Exit.inBlock, Exit.then])
              refine ret_of ?_ rfl
              simp [results, Tryd.results22, go_sem, HE.out, r0, r1, r2, s0, s1, s2]
              go_light
              exact (by repeat (first | exact hM.below | with_reducible apply below_alloc | with_reducible apply below_drewN | with_reducible refine Below.setCell ?_ (by dsimp only; omega) _))
end Go.Proofs.YtddobhneplfddaaDoor
