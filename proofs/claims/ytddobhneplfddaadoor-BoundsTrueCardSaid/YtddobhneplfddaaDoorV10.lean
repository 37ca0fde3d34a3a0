/-
  Layer 16 (bounds): MayP, WholeR, ReadsR, PlainL, BndL.
-/
import Derived.Test.YtddobhneplfddaaDoorV9
import Derived.IntWalk
import Derived.Maps.AppendAt
import Derived.OwnWalk
namespace Go.Proofs.YtddobhneplfddaaDoor
set_option maxRecDepth 100000
open Go.RowKit
set_option linter.unusedSimpArgs false
set_option linter.unusedVariables false
attribute [local go_sem ↓] Go.wp_at_zero Go.wp_at_succ

structure MMem (w : World) (m : ModD) (wr : World) : Prop where
  below : Below w.heap.size w wr
  bm : Whl wr w.heap.size 25 #[.slice m.ta m.ths.length m.tc, .slice m.fa m.funcs.length m.fc]
  br : Whl wr (w.heap.size + 1) 53 #[.int .i64 0, .int .i64 0, .int .i64 0]
theorem MMem.alloc {w wr : World} {m : ModD} (h : MMem w m wr) (o : Obj) : MMem w m (wr.alloc o) := ⟨below_alloc h.below _, h.bm.alloc _, h.br.alloc _⟩
theorem MMem.drewN {w wr : World} {m : ModD} (h : MMem w m wr) (n : Nat) : MMem w m (wr.drewN n) := ⟨below_drewN h.below n, h.bm, h.br⟩
theorem MMem.go {w wr w1 : World} {m : ModD} (h : MMem w m wr) (hb : Below wr.heap.size wr w1) : MMem w m w1 := ⟨below_step h.below hb, h.bm.below' hb, h.br.below' hb⟩
theorem MMem.start (w : World) (m : ModD) : MMem w m ((w.alloc (.cells #[.slice m.ta m.ths.length m.tc, .slice m.fa m.funcs.length m.fc] 25)).alloc (.cells #[.int .i64 0, .int .i64 0, .int .i64 0] 53)) :=
  ⟨below_alloc (below_alloc (Below.refl _ _) _) _, (Whl.new _ _ _).alloc _, by have := Whl.new (w.alloc (.cells #[.slice m.ta m.ths.length m.tc, .slice m.fa m.funcs.length m.fc] 25)) 53 #[.int .i64 0, .int .i64 0, .int .i64 0]; rwa [World.size_alloc] at this⟩
theorem MMem.ok {w wr : World} {m : ModD} (h : MMem w m wr) (hm : ModOk w w.heap.size m) : ModOk wr wr.heap.size m := (hm.below h.below (Nat.le_refl _)).more h.below.size
theorem MMem.tab {w wr : World} {m : ModD} (h : MMem w m wr) (ht : TabOk w) : TabOk wr := ht.below h.below ht.size
theorem MMem.r {w wr : World} {m : ModD} (h : MMem w m wr) : wr.cell? ⟨w.heap.size + 1, 0, none⟩ = some (.int .i64 0) ∧ wr.cell? ⟨w.heap.size + 1, 1, none⟩ = some (.int .i64 0) ∧ wr.cell? ⟨w.heap.size + 1, 2, none⟩ = some (.int .i64 0) := ⟨h.br.cell 0, h.br.cell 1, h.br.cell 2⟩
theorem nthX_wfL {l : List InsD} (h : ∀ s, s ∈ l → s.Wf) {k : Nat} (hk : k < l.length) : (nthX l k).Wf := by
  unfold nthX
  rw [List.getD_eq_getElem?_getD, List.getElem?_eq_getElem hk]
  exact h _ (List.getElem_mem hk)

set_option maxHeartbeats 8000000 in
theorem mayP (m : ModD) (w : World) (wm : m.Wf) (hm : ModOk w w.heap.size m) (ht : TabOk w) : Calls Tryd.prog 26 #[m.val] w fun e w' => e = .returned (.agg #[.int .i64 (mayD m).e, .int .i64 (mayD m).f, .int .i64 (mayD m).a]) ∧ Below w.heap.size w w' := by
  have hflen := wm.flen
  have htlen := wm.tlen
  have HM := Lib.hid hm; clear hm
  have HT := Lib.hid ht; clear ht
  by_cases q1 : 16 < m.ths.length
  · have n1 : decide ((16 : Int) < (m.ths.length : Int)) = true := by simp; omega
    have HE := Lib.hid (mayD_1 q1)
    clear q1
    go_enter Tryd.func26, Tryd.ntmps26
    go_wp2
    all_goals (try simp only [Exit.inBlock, Exit.then])
    refine ret_of ?_ rfl
    simp [results, Tryd.results26, go_sem, HE.out]
    go_light
    exact (by repeat (first | exact Below.refl _ _ | with_reducible apply below_alloc | with_reducible apply below_drewN | with_reducible refine Below.setCell ?_ (by dsimp only; omega) _))
  have n1 : decide ((16 : Int) < (m.ths.length : Int)) = false := by simp; omega
  have Q1 := Lib.hid q1; clear q1
  go_enter Tryd.func26, Tryd.ntmps26
  go_wp2
  clear n1
  go_loopw [3] (fun s wr => ∃ i : Nat, 1 ≤ i ∧ (i ≤ m.ths.length ∨ m.ths.length = 0 ∧ i = 1) ∧ s = .int .i64 i ∧ riseD m = badFrom (okRise m.ths) i (m.ths.length - i) ∧ MMem w m wr) (fun s _ => m.ths.length - (intOf s).toNat)
  case atStart => exact ⟨1, Nat.le_refl _, by omega, rfl, rfl, MMem.start w m⟩
  case round =>
    obtain ⟨i, hi1, hi, rfl, hE, hM⟩ := hrel
    have HD := Lib.hid hE; clear hE
    have d0 : wr.cell? ⟨w.heap.size, 0, none⟩ = some (.slice m.ta m.ths.length m.tc) := hM.bm.cell 0
    have d1 : wr.cell? ⟨w.heap.size, 1, none⟩ = some (.slice m.fa m.funcs.length m.fc) := hM.bm.cell 1
    have r0 : wr.cell? ⟨w.heap.size + 1, 0, none⟩ = some (.int .i64 0) := hM.br.cell 0
    have s0 := hM.br.frozen 0
    have r1 : wr.cell? ⟨w.heap.size + 1, 1, none⟩ = some (.int .i64 0) := hM.br.cell 1
    have s1 := hM.br.frozen 1
    have r2 : wr.cell? ⟨w.heap.size + 1, 2, none⟩ = some (.int .i64 0) := hM.br.cell 2
    have s2 := hM.br.frozen 2
    have lr := hM.br.lt
    by_cases hlt : i < m.ths.length
    · obtain ⟨tb, to, hta, htb, htc⟩ := (HM.out.ths.below hM.below (Nat.le_refl _)) (by omega)
      have p0 : wr.cell? ⟨tb, to + i, none⟩ = some (.int .i64 (nthI m.ths i)) := htc i hlt
      have p1 : wr.cell? ⟨tb, to + (i - 1), none⟩ = some (.int .i64 (nthI m.ths (i - 1))) := htc (i - 1) (by omega)
      have hsub : IntKind.i64.wrap ((i : Int) - 1) = ((i - 1 : Nat) : Int) := by simp [IntKind.wrap, IntKind.bits, IntKind.signed]; omega
      have hsub2 : wrap64 ((i : Int) - 1) = ((i - 1 : Nat) : Int) := by unfold wrap64; omega
      have h10 : (0 : Int) ≤ ((i - 1 : Nat) : Int) := by omega
      have h11 : ((i - 1 : Nat) : Int) < (m.ths.length : Int) := by omega
      clear htc
      rw [hta] at d0
      cases hok : okRise m.ths i
      · have u1 : decide (nthI m.ths i ≤ nthI m.ths (i - 1)) = true := by simp [okRise] at hok; simpa using hok
        have HE := Lib.hid (mayD_2 Q1.out (by rw [HD.out, badFrom_yes hlt hok]))
        go_wp2
        go_quiet (fail)
        go_wp2
        all_goals (try simp only [Exit.inBlock, Exit.then])
        refine ret_of ?_ rfl
        simp [results, Tryd.results26, go_sem, HE.out, r0, r1, r2, s0, s1, s2]
        go_light
        exact (by repeat (first | exact hM.below | with_reducible apply below_alloc | with_reducible apply below_drewN | with_reducible refine Below.setCell ?_ (by dsimp only; omega) _))
      · have u1 : decide (nthI m.ths i ≤ nthI m.ths (i - 1)) = false := by simp [okRise] at hok; simpa using hok
        go_wp2
        go_quiet (fail)
        go_wp2
        go_roundw
        case rel => exact ⟨i + 1, by omega, by omega, by go_num, by rw [HD.out, badFrom_no hlt hok], hM.drewN _⟩
        case measure => simp only [intOf]; omega
    · have hrise : riseD m = -1 := by rw [HD.out, show m.ths.length - i = 0 by omega]; rfl
      have HR := Lib.hid hrise; clear hrise
      by_cases q3 : 32 < m.funcs.length
      · have n3 : decide ((32 : Int) < (m.funcs.length : Int)) = true := by simp; omega
        have HE := Lib.hid (mayD_3 Q1.out HR.out q3)
        go_wp2
        all_goals (try simp only [Exit.inBlock, Exit.then])
        refine ret_of ?_ rfl
        simp [results, Tryd.results26, go_sem, HE.out, r0, r1, r2, s0, s1, s2]
        go_light
        exact (by repeat (first | exact hM.below | with_reducible apply below_alloc | with_reducible apply below_drewN | with_reducible refine Below.setCell ?_ (by dsimp only; omega) _))
      have n3 : decide ((32 : Int) < (m.funcs.length : Int)) = false := by simp; omega
      have Q3 := Lib.hid q3; clear q3
      have hM0 := hM
      go_wp2
      clear n3 hi1 hi hM hlt d0 d1 r0 r1 r2 s0 s1 s2 lr
      go_loopw [47] (fun s wr => ∃ k : Nat, k ≤ m.funcs.length ∧ s = .int .i64 k ∧ wholeD m = badFrom (okWhole m) k (m.funcs.length - k) ∧ MMem w m wr) (fun s _ => m.funcs.length - (intOf s).toNat)
      case atStart => exact ⟨0, Nat.zero_le _, rfl, rfl, hM0⟩
      case round =>
        obtain ⟨k, hk, rfl, hE, hM⟩ := hrel
        have HD := Lib.hid hE; clear hE
        have d0 : wr.cell? ⟨w.heap.size, 0, none⟩ = some (.slice m.ta m.ths.length m.tc) := hM.bm.cell 0
        have d1 : wr.cell? ⟨w.heap.size, 1, none⟩ = some (.slice m.fa m.funcs.length m.fc) := hM.bm.cell 1
        have r0 : wr.cell? ⟨w.heap.size + 1, 0, none⟩ = some (.int .i64 0) := hM.br.cell 0
        have s0 := hM.br.frozen 0
        have r1 : wr.cell? ⟨w.heap.size + 1, 1, none⟩ = some (.int .i64 0) := hM.br.cell 1
        have s1 := hM.br.frozen 1
        have r2 : wr.cell? ⟨w.heap.size + 1, 2, none⟩ = some (.int .i64 0) := hM.br.cell 2
        have s2 := hM.br.frozen 2
        have lr := hM.br.lt
        by_cases hlt : k < m.funcs.length
        · cases hok : okWhole m k
          · have u1 : (wholeE m k != 0) = true := by simpa [okWhole] using hok
            have HE := Lib.hid (mayD_4 Q1.out HR.out Q3.out (by rw [HD.out, badFrom_yes hlt hok]))
            go_wp2_with (go_at_call 49; with_reducible refine (wholeP m k _ wm (hM.ok HM.out) hlt).mono ?_; rintro e w1 ⟨rfl, hb1⟩; have hM1 := hM.go hb1; obtain ⟨r10, r11, r12⟩ := hM1.r; have s10 := hM1.br.frozen 0; have s11 := hM1.br.frozen 1; have s12 := hM1.br.frozen 2)
            all_goals (try simp only [Exit.inBlock, Exit.then])
            refine ret_of ?_ rfl
            simp [results, Tryd.results26, go_sem, HE.out, r10, r11, r12, s10, s11, s12]
            go_light
            exact (by repeat (first | exact hM1.below | with_reducible apply below_alloc | with_reducible apply below_drewN | with_reducible refine Below.setCell ?_ (by dsimp only; omega) _))
          · have u1 : (wholeE m k != 0) = false := by simpa [okWhole] using hok
            go_wp2_with (go_at_call 49; with_reducible refine (wholeP m k _ wm (hM.ok HM.out) hlt).mono ?_; rintro e w1 ⟨rfl, hb1⟩; have hM1 := hM.go hb1; obtain ⟨r10, r11, r12⟩ := hM1.r; have s10 := hM1.br.frozen 0; have s11 := hM1.br.frozen 1; have s12 := hM1.br.frozen 2)
            go_roundw
            case rel => exact ⟨k + 1, by omega, by go_num, by rw [HD.out, badFrom_no hlt hok], hM1⟩
            case measure => simp only [intOf]; omega
        · obtain rfl : k = m.funcs.length := by omega
          have hwh : wholeD m = -1 := by rw [HD.out, Nat.sub_self]; rfl
          have HW := Lib.hid hwh; clear hwh
          have hM0 := hM
          go_wp2
          clear hk hM hlt d0 d1 r0 r1 r2 s0 s1 s2 lr
          go_loopw [66] (fun s wr => ∃ k : Nat, k ≤ m.funcs.length ∧ s = .int .i64 k ∧ codeD m = badFrom (okCode m) k (m.funcs.length - k) ∧ MMem w m wr) (fun s _ => m.funcs.length - (intOf s).toNat)
          case atStart => exact ⟨0, Nat.zero_le _, rfl, rfl, hM0⟩
          case round =>
            obtain ⟨k, hk, rfl, hE, hM⟩ := hrel
            have HD := Lib.hid hE; clear hE
            have d0 : wr.cell? ⟨w.heap.size, 0, none⟩ = some (.slice m.ta m.ths.length m.tc) := hM.bm.cell 0
            have d1 : wr.cell? ⟨w.heap.size, 1, none⟩ = some (.slice m.fa m.funcs.length m.fc) := hM.bm.cell 1
            have r0 : wr.cell? ⟨w.heap.size + 1, 0, none⟩ = some (.int .i64 0) := hM.br.cell 0
            have s0 := hM.br.frozen 0
            have r1 : wr.cell? ⟨w.heap.size + 1, 1, none⟩ = some (.int .i64 0) := hM.br.cell 1
            have s1 := hM.br.frozen 1
            have r2 : wr.cell? ⟨w.heap.size + 1, 2, none⟩ = some (.int .i64 0) := hM.br.cell 2
            have s2 := hM.br.frozen 2
            have lr := hM.br.lt
            by_cases hlt : k < m.funcs.length
            · obtain ⟨fb, fo, hfa, hfb, z0, z1, z2, z3, z4⟩ := funcs_cells (HM.out.funcs.below hM.below (Nat.le_refl _)) hlt
              have wfk := nthF_wfM wm hlt
              have hclen := wfk.clen
              have hc0 := whole_code HW.out hlt
              rw [hfa] at d1
              have HFA := Lib.hid hfa
              have hM0 := hM.alloc (.cells #[.string (nthF m.funcs k).name, .slice (nthF m.funcs k).pa (nthF m.funcs k).params.length (nthF m.funcs k).pc, .int .i64 (nthF m.funcs k).regs, .int .i64 (nthF m.funcs k).words, .slice (nthF m.funcs k).ca (nthF m.funcs k).code.length (nthF m.funcs k).cc] 48)
              have hG0 := Whl.new wr 48 #[.string (nthF m.funcs k).name, .slice (nthF m.funcs k).pa (nthF m.funcs k).params.length (nthF m.funcs k).pc, .int .i64 (nthF m.funcs k).regs, .int .i64 (nthF m.funcs k).words, .slice (nthF m.funcs k).ca (nthF m.funcs k).code.length (nthF m.funcs k).cc]
              rw [hfa]
              clear hfa
              go_wp2
              obtain ⟨g8, hg8⟩ : ∃ g, wr.heap.size = g := ⟨_, rfl⟩
              rw [hg8] at hG0 lr ⊢
              have HLR := Lib.hid lr
              clear z0 z1 z2 z3 z4 d0 d1 r0 r1 r2 s0 s1 s2 lr hfb hM hg8
              go_loopw [74] (fun s wr => ∃ i : Nat, i ≤ (nthF m.funcs k).code.length ∧ s = .int .i64 i ∧ firstIns m k = badFrom (okIns m k) i ((nthF m.funcs k).code.length - i) ∧ MMem w m wr ∧ Whl wr g8 48 #[.string (nthF m.funcs k).name, .slice (nthF m.funcs k).pa (nthF m.funcs k).params.length (nthF m.funcs k).pc, .int .i64 (nthF m.funcs k).regs, .int .i64 (nthF m.funcs k).words, .slice (nthF m.funcs k).ca (nthF m.funcs k).code.length (nthF m.funcs k).cc]) (fun s _ => (nthF m.funcs k).code.length - (intOf s).toNat)
              case atStart => exact ⟨0, Nat.zero_le _, rfl, rfl, hM0, hG0⟩
              case round =>
                obtain ⟨i, hi, rfl, hE, hM, hG⟩ := hrel
                have HI := Lib.hid hE; clear hE
                have d0 : wr.cell? ⟨w.heap.size, 0, none⟩ = some (.slice m.ta m.ths.length m.tc) := hM.bm.cell 0
                have d1 : wr.cell? ⟨w.heap.size, 1, none⟩ = some (.slice m.fa m.funcs.length m.fc) := hM.bm.cell 1
                have r0 : wr.cell? ⟨w.heap.size + 1, 0, none⟩ = some (.int .i64 0) := hM.br.cell 0
                have s0 := hM.br.frozen 0
                have r1 : wr.cell? ⟨w.heap.size + 1, 1, none⟩ = some (.int .i64 0) := hM.br.cell 1
                have s1 := hM.br.frozen 1
                have r2 : wr.cell? ⟨w.heap.size + 1, 2, none⟩ = some (.int .i64 0) := hM.br.cell 2
                have s2 := hM.br.frozen 2
                have lr := hM.br.lt
                have c0 : wr.cell? ⟨g8, 0, none⟩ = some (.string (nthF m.funcs k).name) := hG.cell 0
                have c1 : wr.cell? ⟨g8, 1, none⟩ = some (.slice (nthF m.funcs k).pa (nthF m.funcs k).params.length (nthF m.funcs k).pc) := hG.cell 1
                have c2 : wr.cell? ⟨g8, 2, none⟩ = some (.int .i64 (nthF m.funcs k).regs) := hG.cell 2
                have c3 : wr.cell? ⟨g8, 3, none⟩ = some (.int .i64 (nthF m.funcs k).words) := hG.cell 3
                have c4 : wr.cell? ⟨g8, 4, none⟩ = some (.slice (nthF m.funcs k).ca (nthF m.funcs k).code.length (nthF m.funcs k).cc) := hG.cell 4
                have lg := hG.lt
                have lm := hM.bm.lt
                have hlr := HLR.out
                by_cases hlti : i < (nthF m.funcs k).code.length
                · obtain ⟨cb, co, hca, hcb, hcc⟩ := ((HM.out.each k hlt).code.below hM.below (Nat.le_refl _)) (by omega)
                  have i0 : wr.cell? ⟨cb, co + i * 5, none⟩ = some (.int .i64 (nthX (nthF m.funcs k).code i).op) := hcc i hlti 0 (by omega)
                  have i1 : wr.cell? ⟨cb, co + i * 5 + 1, none⟩ = some (.int .i64 (nthX (nthF m.funcs k).code i).a) := hcc i hlti 1 (by omega)
                  have i2 : wr.cell? ⟨cb, co + i * 5 + 2, none⟩ = some (.int .i64 (nthX (nthF m.funcs k).code i).b) := hcc i hlti 2 (by omega)
                  have i3 : wr.cell? ⟨cb, co + i * 5 + 3, none⟩ = some (.int .i64 (nthX (nthF m.funcs k).code i).c) := hcc i hlti 3 (by omega)
                  have i4 : wr.cell? ⟨cb, co + i * 5 + 4, none⟩ = some (.int .i64 (nthX (nthF m.funcs k).code i).n) := hcc i hlti 4 (by omega)
                  have lc : cb < wr.heap.size := Nat.lt_of_lt_of_le hcb hM.below.size
                  have wx := nthX_wfL wfk.code hlti
                  have hMi := hM.alloc (.cells #[.int .i64 (nthX (nthF m.funcs k).code i).op, .int .i64 (nthX (nthF m.funcs k).code i).a, .int .i64 (nthX (nthF m.funcs k).code i).b, .int .i64 (nthX (nthF m.funcs k).code i).c, .int .i64 (nthX (nthF m.funcs k).code i).n] 65)
                  have hGi := hG.alloc (.cells #[.int .i64 (nthX (nthF m.funcs k).code i).op, .int .i64 (nthX (nthF m.funcs k).code i).a, .int .i64 (nthX (nthF m.funcs k).code i).b, .int .i64 (nthX (nthF m.funcs k).code i).c, .int .i64 (nthX (nthF m.funcs k).code i).n] 65)
                  clear hcc
                  cases hok : okIns m k i
                  · have u1 : (insErr m (nthF m.funcs k) (nthX (nthF m.funcs k).code i) != 0) = true := by simpa [okIns] using hok
                    obtain ⟨E1, E2, E3⟩ := code_ins (m := m) (k := k) (i := i) (by rw [HI.out, badFrom_yes hlti hok]) (by simpa [okIns] using hok)
                    have HE := Lib.hid (mayD_5 Q1.out HR.out Q3.out HW.out (by rw [HD.out, badFrom_yes hlt E3]))
                    have H1 := Lib.hid E1
                    have H2 := Lib.hid E2
                    clear E1 E2 E3
                    rw [hca]
                    have HCA := Lib.hid hca
                    clear hca
                    go_wp2_with (go_at_call 50; with_reducible refine (insP m (nthF m.funcs k) (nthX (nthF m.funcs k).code i) _ wm wfk wx (hMi.ok HM.out) (hMi.tab HT.out)).mono ?_; rintro e w1 ⟨rfl, hb1⟩; have hM1 := hMi.go hb1; have hG1 := hGi.below' hb1; obtain ⟨r10, r11, r12⟩ := hM1.r; have s10 := hM1.br.frozen 0; have s11 := hM1.br.frozen 1; have s12 := hM1.br.frozen 2)
                    all_goals (try simp only [Exit.inBlock, Exit.then])
                    refine ret_of ?_ rfl
                    simp [results, Tryd.results26, go_sem, HE.out, H1.out, H2.out, r10, r11, r12, s10, s11, s12]
                    go_light
                    exact (by repeat (first | exact hM1.below | with_reducible apply below_alloc | with_reducible apply below_drewN | with_reducible refine Below.setCell ?_ (by dsimp only; omega) _))
                  · have u1 : (insErr m (nthF m.funcs k) (nthX (nthF m.funcs k).code i) != 0) = false := by simpa [okIns] using hok
                    rw [hca]
                    have HCA := Lib.hid hca
                    clear hca
                    go_wp2_with (go_at_call 50; with_reducible refine (insP m (nthF m.funcs k) (nthX (nthF m.funcs k).code i) _ wm wfk wx (hMi.ok HM.out) (hMi.tab HT.out)).mono ?_; rintro e w1 ⟨rfl, hb1⟩; have hM1 := hMi.go hb1; have hG1 := hGi.below' hb1; obtain ⟨r10, r11, r12⟩ := hM1.r; have s10 := hM1.br.frozen 0; have s11 := hM1.br.frozen 1; have s12 := hM1.br.frozen 2)
                    go_roundw
                    case rel => exact ⟨i + 1, by omega, by go_num, by rw [HI.out, badFrom_no hlti hok], hM1, by rw [← HCA.out]; exact hG1⟩
                    case measure => simp only [intOf]; omega
                · obtain rfl : i = (nthF m.funcs k).code.length := by omega
                  have hf1 : firstIns m k = -1 := by rw [HI.out, Nat.sub_self]; rfl
                  obtain ⟨cb, co, hca, hcb, hcc⟩ := ((HM.out.each k hlt).code.below hM.below (Nat.le_refl _)) (by omega)
                  have i0 : wr.cell? ⟨cb, co + ((nthF m.funcs k).code.length - 1) * 5, none⟩ = some (.int .i64 (lastOp m k)) := hcc ((nthF m.funcs k).code.length - 1) (by omega) 0 (by omega)
                  have hsub : IntKind.i64.wrap (((nthF m.funcs k).code.length : Int) - 1) = (((nthF m.funcs k).code.length - 1 : Nat) : Int) := by simp [IntKind.wrap, IntKind.bits, IntKind.signed]; omega
                  have hsub2 : wrap64 (((nthF m.funcs k).code.length : Int) - 1) = (((nthF m.funcs k).code.length - 1 : Nat) : Int) := by unfold wrap64; omega
                  have hsub3 : ((nthF m.funcs k).code.length : Int) - 1 = (((nthF m.funcs k).code.length - 1 : Nat) : Int) := by omega
                  have HS3 := Lib.hid hsub3
                  have h10 : (0 : Int) ≤ (((nthF m.funcs k).code.length - 1 : Nat) : Int) := by omega
                  have h11 : (((nthF m.funcs k).code.length - 1 : Nat) : Int) < ((nthF m.funcs k).code.length : Int) := by omega
                  clear hcc hi
                  rw [hca] at c4
                  cases v0 : (lastOp m k == 0)
                  · cases v1 : (lastOp m k == 14)
                    · cases v2 : (lastOp m k == 18)
                      · obtain ⟨E1, E2, E3⟩ := code_end hf1 (by simp only [endsOk, v0, v1, v2, Bool.or_false])
                        have HE := Lib.hid (mayD_5 Q1.out HR.out Q3.out HW.out (by rw [HD.out, badFrom_yes hlt E3]))
                        have H1 := Lib.hid E1
                        have H2 := Lib.hid E2
                        clear E1 E2 E3
                        go_wp2
                        all_goals (try simp only [Exit.inBlock, Exit.then])
                        refine ret_of ?_ rfl
                        simp [results, Tryd.results26, go_sem, HE.out, H1.out, H2.out, HS3.out, r0, r1, r2, s0, s1, s2]
                        go_light
                        exact (by repeat (first | exact hM.below | with_reducible apply below_alloc | with_reducible apply below_drewN | with_reducible refine Below.setCell ?_ (by dsimp only; omega) _))
                      · have hcok := code_ok hf1 (by simp only [endsOk, v0, v1, v2, Bool.or_true])
                        go_wp2
                        try rw [← HFA.out]
                        go_roundw
                        case rel => exact ⟨k + 1, by omega, by go_num, by rw [HD.out, badFrom_no hlt hcok], hM⟩
                        case measure => simp only [intOf]; omega
                    · have hcok := code_ok hf1 (by simp only [endsOk, v0, v1, Bool.or_true, Bool.true_or])
                      go_wp2
                      try rw [← HFA.out]
                      go_roundw
                      case rel => exact ⟨k + 1, by omega, by go_num, by rw [HD.out, badFrom_no hlt hcok], hM⟩
                      case measure => simp only [intOf]; omega
                  · have hcok := code_ok hf1 (by simp only [endsOk, v0, Bool.true_or])
                    go_wp2
                    try rw [← HFA.out]
                    go_roundw
                    case rel => exact ⟨k + 1, by omega, by go_num, by rw [HD.out, badFrom_no hlt hcok], hM⟩
                    case measure => simp only [intOf]; omega
            · obtain rfl : k = m.funcs.length := by omega
              have HE := Lib.hid (mayD_6 Q1.out HR.out Q3.out HW.out (by rw [HD.out, Nat.sub_self]; rfl))
              go_wp2
              all_goals (try simp only [Exit.inBlock, Exit.then])
              refine ret_of ?_ rfl
              simp [results, Tryd.results26, go_sem, HE.out, r0, r1, r2, s0, s1, s2]
              go_light
              exact (by repeat (first | exact hM.below | with_reducible apply below_alloc | with_reducible apply below_drewN | with_reducible refine Below.setCell ?_ (by dsimp only; omega) _))
end Go.Proofs.YtddobhneplfddaaDoor

namespace Go.Proofs.YtddobhneplfddaaDoor
set_option maxRecDepth 100000
open Go.RowKit
set_option linter.unusedSimpArgs false
set_option linter.unusedVariables false
attribute [local go_sem ↓] Go.wp_at_zero Go.wp_at_succ

set_option maxHeartbeats 4000000 in
theorem wrong1 (m : ModD) (k : Nat) (w : World) (wm : m.Wf) (hm : ModOk w w.heap.size m) (hk : k < m.funcs.length) (n1 : isNameB (nthF m.funcs k).name = false) : Calls Tryd.prog 45 #[m.val, .int .i64 k] w fun e w' => e = .returned (.tuple #[.int .i64 8, .int .i64 0]) ∧ Below w.heap.size w w' := by
  have hflen := wm.flen
  have wfk := nthF_wfM wm hk
  have hnm := wfk.name
  have hpl := wfk.plen
  have hcl := wfk.clen
  obtain ⟨fb, fo, hfa, hfb, z0, z1, z2, z3, z4⟩ := funcs_cells hm.funcs hk
  have HM := Lib.hid hm; clear hm
  have HFA := Lib.hid hfa
  obtain ⟨ta, tc, ths, fa, fc, funcs⟩ := m
  dsimp only at *
  subst hfa
  go_enter Tryd.func45, Tryd.ntmps45
  go_wp2_with (first
    | (go_at_call 77; with_reducible refine (isNameR _ _ hnm).mono ?_; rintro e w0 ⟨rfl, rfl⟩))
  all_goals (try simp only [Exit.inBlock, Exit.then])
  all_goals refine ret_of ?_ rfl
  all_goals simp [results, Tryd.results45, go_sem]
  all_goals go_light
  all_goals exact (by repeat (first | exact Below.refl _ _ | with_reducible apply below_alloc | with_reducible apply below_drewN | with_reducible refine below_step ?_ hb1))

set_option maxHeartbeats 4000000 in
theorem wrong4 (m : ModD) (k : Nat) (w : World) (wm : m.Wf) (hm : ModOk w w.heap.size m) (hk : k < m.funcs.length) (q1 : isNameB (nthF m.funcs k).name = true) : Calls Tryd.prog 45 #[m.val, .int .i64 k] w fun e w' => e = .returned (.tuple #[.int .i64 (wholeE m k), .int .i64 (wholeA m k)]) ∧ Below w.heap.size w w' := by
  have n1 : isNameB (nthF m.funcs k).name = true := q1
  have K0 : Hid (findD m.funcs (nthF m.funcs k).name < (k : Int) → wholeE m k = 9 ∧ wholeA m k = 0) := Lib.hid (fun h => by
    refine ⟨?_, ?_⟩
    · simp only [wholeE]; rw [if_neg (by rw [q1]; decide), if_pos h]
    · simp only [wholeA]; rw [if_neg (by rw [q1]; decide), if_pos h])
  have K3 : Hid (findD m.funcs (nthF m.funcs k).name = k → 8 < (nthF m.funcs k).params.length → wholeE m k = 3 ∧ wholeA m k = 8) := Lib.hid (fun h h2 => by
    refine ⟨?_, ?_⟩
    · simp only [wholeE]; rw [if_neg (by rw [q1]; decide), if_neg (by rw [h]; omega), if_pos h2]
    · simp only [wholeA]; rw [if_neg (by rw [q1]; decide), if_neg (by rw [h]; omega), if_pos h2])
  have K1 : Hid (findD m.funcs (nthF m.funcs k).name = k → ¬ 8 < (nthF m.funcs k).params.length → ∀ e, emptyD (nthF m.funcs k).params = e → e ≠ -1 → wholeE m k = 40 ∧ wholeA m k = e) := Lib.hid (fun h2 h3 e he h => by
    refine ⟨?_, ?_⟩
    · simp only [wholeE]; rw [if_neg (by rw [q1]; decide), if_neg (by rw [h2]; omega), if_neg h3, he, if_pos h]
    · simp only [wholeA]; rw [if_neg (by rw [q1]; decide), if_neg (by rw [h2]; omega), if_neg h3, he, if_pos h])
  have K2 : Hid (findD m.funcs (nthF m.funcs k).name = k → ¬ 8 < (nthF m.funcs k).params.length → emptyD (nthF m.funcs k).params = -1 → wholeE m k = restErr (nthF m.funcs k) ∧ wholeA m k = 0) := Lib.hid (fun h2 h3 he => by
    refine ⟨?_, ?_⟩
    · simp only [wholeE]; rw [if_neg (by rw [q1]; decide), if_neg (by rw [h2]; omega), if_neg h3, he, if_neg (by simp)]
    · simp only [wholeA]; rw [if_neg (by rw [q1]; decide), if_neg (by rw [h2]; omega), if_neg h3, he, if_neg (by simp)])
  clear q1
  have hflen := wm.flen
  have wfk := nthF_wfM wm hk
  have hnm := wfk.name
  have hpl := wfk.plen
  have hcl := wfk.clen
  obtain ⟨fb, fo, hfa, hfb, z0, z1, z2, z3, z4⟩ := funcs_cells hm.funcs hk
  have HM := Lib.hid hm; clear hm
  have HFA := Lib.hid hfa
  obtain ⟨ta, tc, ths, fa, fc, funcs⟩ := m
  dsimp only at *
  subst hfa
  have HX : Hid (FuncsAt w w.heap.size (some ⟨fb, fo, none⟩) funcs) := Lib.hid HM.out.funcs
  go_enter Tryd.func45, Tryd.ntmps45
  go_wp2_with (first
    | (go_at_call 77; with_reducible refine (isNameR _ _ hnm).mono ?_; rintro e w0 ⟨rfl, rfl⟩))
  clear z0 z1 z2 z3 z4 n1
  have HK := Lib.hid hk
  go_loopw [8] (fun i wr => ∃ j : Nat, j ≤ k ∧ i = .int .i64 j ∧ allTo (freshN funcs (nthF funcs k).name) j = true ∧ WMem w ⟨ta, tc, ths, some ⟨fb, fo, none⟩, fc, funcs⟩ (nthF funcs k) wr) (fun i _ => k - (intOf i).toNat)
  case atStart => exact ⟨0, Nat.zero_le _, rfl, rfl, WMem.start w ⟨ta, tc, ths, some ⟨fb, fo, none⟩, fc, funcs⟩ (nthF funcs k)⟩
  case round =>
    obtain ⟨j, hj, rfl, hE, hM⟩ := hrel
    have HD := Lib.hid hE; clear hE
    have c0 : wr.cell? ⟨w.heap.size + 1, 0, none⟩ = some (.string (nthF funcs k).name) := hM.bf.cell 0
    have c1 : wr.cell? ⟨w.heap.size + 1, 1, none⟩ = some (.slice (nthF funcs k).pa (nthF funcs k).params.length (nthF funcs k).pc) := hM.bf.cell 1
    have c2 : wr.cell? ⟨w.heap.size + 1, 2, none⟩ = some (.int .i64 (nthF funcs k).regs) := hM.bf.cell 2
    have c3 : wr.cell? ⟨w.heap.size + 1, 3, none⟩ = some (.int .i64 (nthF funcs k).words) := hM.bf.cell 3
    have c4 : wr.cell? ⟨w.heap.size + 1, 4, none⟩ = some (.slice (nthF funcs k).ca (nthF funcs k).code.length (nthF funcs k).cc) := hM.bf.cell 4
    have c9 : wr.cell? ⟨w.heap.size, 1, none⟩ = some (.slice (some ⟨fb, fo, none⟩) funcs.length fc) := hM.bm.cell 1
    by_cases hlt : j < k
    · have hjl : j < funcs.length := by omega
      obtain ⟨fb2, fo2, hfe, hfb2, y0, y1, y2, y3, y4⟩ := funcs_cells (HX.out.below hM.below (Nat.le_refl _)) hjl
      simp only [Option.some.injEq, Addr.mk.injEq] at hfe
      obtain ⟨rfl, rfl, _⟩ := hfe
      clear y1 y2 y3 y4
      cases hn : eqN (nthF funcs j).name (nthF funcs k).name
      · go_wp2
        go_quiet (fail)
        go_wp2
        go_roundw
        case rel => exact ⟨j + 1, by omega, by go_num, allTo_yes HD.out (by simp only [freshN, hn, Bool.not_false]), hM.drewN _⟩
        case measure => simp only [intOf]; omega
      · obtain ⟨E1, E2⟩ := K0.out (by rw [findD_hit hjl HD.out hn]; omega)
        have HE := Lib.hid E1
        have HAt := Lib.hid E2
        clear E1 E2
        go_wp2
        go_quiet (fail)
        go_wp2
        refine ret_of ?_ rfl
        simp [results, Tryd.results45, go_sem, HE.out, HAt.out]
        go_light
        exact below_drewN hM.below _
    · obtain rfl : j = k := by omega
      have hself := findD_self HK.out HD.out
      have HS := Lib.hid hself; clear hself
      have hM1 := hM
      by_cases q3 : 8 < (nthF funcs j).params.length
      · have n3 : decide ((8 : Int) < ((nthF funcs j).params.length : Int)) = true := by simp; omega
        obtain ⟨E1, E2⟩ := K3.out HS.out q3
        have HE := Lib.hid E1
        have HAt := Lib.hid E2
        clear E1 E2
        go_wp2
        refine ret_of ?_ rfl
        simp [results, Tryd.results45, go_sem, HE.out, HAt.out]
        go_light
        exact hM.below
      have n3 : decide ((8 : Int) < ((nthF funcs j).params.length : Int)) = false := by simp; omega
      have K1 := Lib.hid (K1.out HS.out q3)
      have K2 := Lib.hid (K2.out HS.out q3)
      go_wp2
      clear n3 q3 hj hlt hM c0 c1 c2 c3 c4 c9
      go_loopw [9] (fun i wr => ∃ q : Nat, q ≤ (nthF funcs j).params.length ∧ i = .int .i64 q ∧ emptyD (nthF funcs j).params = badFrom (okSp (nthF funcs j).params) q ((nthF funcs j).params.length - q) ∧ WMem w ⟨ta, tc, ths, some ⟨fb, fo, none⟩, fc, funcs⟩ (nthF funcs j) wr) (fun i _ => (nthF funcs j).params.length - (intOf i).toNat)
      case atStart => exact ⟨0, Nat.zero_le _, rfl, rfl, hM1⟩
      case round =>
        obtain ⟨q, hj, rfl, hE, hM⟩ := hrel
        have HD := Lib.hid hE; clear hE
        have c0 : wr.cell? ⟨w.heap.size + 1, 0, none⟩ = some (.string (nthF funcs j).name) := hM.bf.cell 0
        have c1 : wr.cell? ⟨w.heap.size + 1, 1, none⟩ = some (.slice (nthF funcs j).pa (nthF funcs j).params.length (nthF funcs j).pc) := hM.bf.cell 1
        have c2 : wr.cell? ⟨w.heap.size + 1, 2, none⟩ = some (.int .i64 (nthF funcs j).regs) := hM.bf.cell 2
        have c3 : wr.cell? ⟨w.heap.size + 1, 3, none⟩ = some (.int .i64 (nthF funcs j).words) := hM.bf.cell 3
        have c4 : wr.cell? ⟨w.heap.size + 1, 4, none⟩ = some (.slice (nthF funcs j).ca (nthF funcs j).code.length (nthF funcs j).cc) := hM.bf.cell 4
        by_cases hlt : q < (nthF funcs j).params.length
        · obtain ⟨pb, po, hpa, hpb, hpc⟩ := ((HM.out.each j HK.out).params.below hM.below (Nat.le_refl _)) (by dsimp only; omega)
          have p0 : wr.cell? ⟨pb, po + q * 2, none⟩ = some (.int .i64 (nthS (nthF funcs j).params q).lo) := hpc q hlt 0 (by omega)
          have p1 : wr.cell? ⟨pb, po + q * 2 + 1, none⟩ = some (.int .i64 (nthS (nthF funcs j).params q).hi) := hpc q hlt 1 (by omega)
          have hpa' : (nthF funcs j).pa = some ⟨pb, po, none⟩ := hpa
          clear hpc hpa
          rw [hpa'] at c1
          cases hok : okSp (nthF funcs j).params q
          · have u1 : decide ((nthS (nthF funcs j).params q).hi < (nthS (nthF funcs j).params q).lo) = true := by simp [okSp] at hok; simpa using hok
            obtain ⟨E1, E2⟩ := K1.out q (by rw [HD.out, badFrom_yes hlt hok]) (by omega)
            have HE := Lib.hid E1
            have HAt := Lib.hid E2
            clear E1 E2
            go_wp2
            go_quiet (fail)
            go_wp2
            refine ret_of ?_ rfl
            simp [results, Tryd.results45, go_sem, HE.out, HAt.out]
            go_light
            exact below_drewN hM.below _
          · have u1 : decide ((nthS (nthF funcs j).params q).hi < (nthS (nthF funcs j).params q).lo) = false := by simp [okSp] at hok; simpa using hok
            go_wp2
            go_quiet (fail)
            go_wp2
            go_roundw
            case rel => exact ⟨q + 1, by omega, by go_num, by rw [HD.out, badFrom_no hlt hok], hM.drewN _⟩
            case measure => simp only [intOf]; omega
        · obtain rfl : q = (nthF funcs j).params.length := by omega
          obtain ⟨E1, E2⟩ := K2.out (by rw [HD.out, Nat.sub_self]; rfl)
          have HE := Lib.hid E1
          have HAt := Lib.hid E2
          clear E1 E2 hj hlt
          by_cases h0 : (nthF funcs j).regs < 1
          · have u0 : decide ((nthF funcs j).regs < 1) = true := by simp; omega
            have hv : restErr (nthF funcs j) = 95 := by simp only [restErr]; rw [if_pos (by omega)]
            go_wp2
            refine ret_of ?_ rfl
            simp [results, Tryd.results45, go_sem, HE.out, HAt.out, hv]
            go_light
            exact hM.below
          by_cases h1 : 64 < (nthF funcs j).regs
          · have u0 : decide ((nthF funcs j).regs < 1) = false := by simp; omega
            have u1 : decide (64 < (nthF funcs j).regs) = true := by simp; omega
            have hv : restErr (nthF funcs j) = 95 := by simp only [restErr]; rw [if_pos (by omega)]
            go_wp2
            refine ret_of ?_ rfl
            simp [results, Tryd.results45, go_sem, HE.out, HAt.out, hv]
            go_light
            exact hM.below
          by_cases h2 : (nthF funcs j).regs < ((nthF funcs j).params.length : Int)
          · have u0 : decide ((nthF funcs j).regs < 1) = false := by simp; omega
            have u1 : decide (64 < (nthF funcs j).regs) = false := by simp; omega
            have u2 : decide ((nthF funcs j).regs < ((nthF funcs j).params.length : Int)) = true := by simp; omega
            have hv : restErr (nthF funcs j) = 95 := by simp only [restErr]; rw [if_pos (by omega)]
            go_wp2
            refine ret_of ?_ rfl
            simp [results, Tryd.results45, go_sem, HE.out, HAt.out, hv]
            go_light
            exact hM.below
          by_cases h3 : (nthF funcs j).words < 0
          · have u0 : decide ((nthF funcs j).regs < 1) = false := by simp; omega
            have u1 : decide (64 < (nthF funcs j).regs) = false := by simp; omega
            have u2 : decide ((nthF funcs j).regs < ((nthF funcs j).params.length : Int)) = false := by simp; omega
            have u3 : decide ((nthF funcs j).words < 0) = true := by simp; omega
            have hv : restErr (nthF funcs j) = 96 := by simp only [restErr]; rw [if_neg (by omega), if_pos (by omega)]
            go_wp2
            refine ret_of ?_ rfl
            simp [results, Tryd.results45, go_sem, HE.out, HAt.out, hv]
            go_light
            exact hM.below
          by_cases h4 : 4096 < (nthF funcs j).words
          · have u0 : decide ((nthF funcs j).regs < 1) = false := by simp; omega
            have u1 : decide (64 < (nthF funcs j).regs) = false := by simp; omega
            have u2 : decide ((nthF funcs j).regs < ((nthF funcs j).params.length : Int)) = false := by simp; omega
            have u3 : decide ((nthF funcs j).words < 0) = false := by simp; omega
            have u4 : decide (4096 < (nthF funcs j).words) = true := by simp; omega
            have hv : restErr (nthF funcs j) = 96 := by simp only [restErr]; rw [if_neg (by omega), if_pos (by omega)]
            go_wp2
            refine ret_of ?_ rfl
            simp [results, Tryd.results45, go_sem, HE.out, HAt.out, hv]
            go_light
            exact hM.below
          by_cases h5 : (nthF funcs j).code.length = 0
          · have u0 : decide ((nthF funcs j).regs < 1) = false := by simp; omega
            have u1 : decide (64 < (nthF funcs j).regs) = false := by simp; omega
            have u2 : decide ((nthF funcs j).regs < ((nthF funcs j).params.length : Int)) = false := by simp; omega
            have u3 : decide ((nthF funcs j).words < 0) = false := by simp; omega
            have u4 : decide (4096 < (nthF funcs j).words) = false := by simp; omega
            have u6 : decide (((nthF funcs j).code.length : Int) < 1) = true := by first | (rw [decide_eq_true_eq]; omega) | (rw [decide_eq_false_iff_not]; omega)
            have hv : restErr (nthF funcs j) = 97 := by simp only [restErr]; rw [if_neg (by omega), if_neg (by omega), if_pos (by omega)]
            go_wp2
            refine ret_of ?_ rfl
            simp [results, Tryd.results45, go_sem, HE.out, HAt.out, hv]
            go_light
            exact hM.below
          by_cases h6 : (1024 : Int) < ((nthF funcs j).code.length : Int)
          · have u0 : decide ((nthF funcs j).regs < 1) = false := by simp; omega
            have u1 : decide (64 < (nthF funcs j).regs) = false := by simp; omega
            have u2 : decide ((nthF funcs j).regs < ((nthF funcs j).params.length : Int)) = false := by simp; omega
            have u3 : decide ((nthF funcs j).words < 0) = false := by simp; omega
            have u4 : decide (4096 < (nthF funcs j).words) = false := by simp; omega
            have u6 : decide (((nthF funcs j).code.length : Int) < 1) = false := by first | (rw [decide_eq_true_eq]; omega) | (rw [decide_eq_false_iff_not]; omega)
            have u7 : decide ((1024 : Int) < ((nthF funcs j).code.length : Int)) = true := by simp; omega
            have hv : restErr (nthF funcs j) = 97 := by simp only [restErr]; rw [if_neg (by omega), if_neg (by omega), if_pos (by omega)]
            go_wp2
            refine ret_of ?_ rfl
            simp [results, Tryd.results45, go_sem, HE.out, HAt.out, hv]
            go_light
            exact hM.below
          · have u0 : decide ((nthF funcs j).regs < 1) = false := by simp; omega
            have u1 : decide (64 < (nthF funcs j).regs) = false := by simp; omega
            have u2 : decide ((nthF funcs j).regs < ((nthF funcs j).params.length : Int)) = false := by simp; omega
            have u3 : decide ((nthF funcs j).words < 0) = false := by simp; omega
            have u4 : decide (4096 < (nthF funcs j).words) = false := by simp; omega
            have u6 : decide (((nthF funcs j).code.length : Int) < 1) = false := by first | (rw [decide_eq_true_eq]; omega) | (rw [decide_eq_false_iff_not]; omega)
            have u7 : decide ((1024 : Int) < ((nthF funcs j).code.length : Int)) = false := by simp; omega
            have hv : restErr (nthF funcs j) = 0 := by simp only [restErr]; rw [if_neg (by omega), if_neg (by omega), if_neg (by omega)]
            go_wp2
            refine ret_of ?_ rfl
            simp [results, Tryd.results45, go_sem, HE.out, HAt.out, hv]
            go_light
            exact hM.below

theorem wrongR (m : ModD) (k : Nat) (w : World) (wm : m.Wf) (hm : ModOk w w.heap.size m) (hk : k < m.funcs.length) : Calls Tryd.prog 45 #[m.val, .int .i64 k] w fun e w' => e = .returned (.tuple #[.int .i64 (wholeE m k), .int .i64 (wholeA m k)]) ∧ Below w.heap.size w w' := by
  cases n1 : isNameB (nthF m.funcs k).name
  · rw [show wholeE m k = 8 from by simp only [wholeE]; rw [if_pos n1], show wholeA m k = 0 from by simp only [wholeA]; rw [if_pos n1]]
    exact wrong1 m k w wm hm hk n1
  · exact wrong4 m k w wm hm hk n1
end Go.Proofs.YtddobhneplfddaaDoor

namespace Go.Proofs.YtddobhneplfddaaDoor
set_option maxRecDepth 100000
open Go.RowKit
set_option linter.unusedSimpArgs false
set_option linter.unusedVariables false
attribute [local go_sem ↓] Go.wp_at_zero Go.wp_at_succ

def callN (p : Int) : Nat := if p ≤ 0 then 0 else if 8 ≤ p then 8 else p.toNat
/-- The registers that an instruction reads, with so many arguments. -/
def readsD (x : InsD) (p : Int) : List Int :=
  if x.op = 19 then (List.range (callN p)).map (fun (i : Nat) => wrap64 (x.b + (i : Int))) else
  if known x.op = true then (if ((row x.op.toNat).a && (!(row x.op.toNat).wr || x.op == 18)) = true then [x.a] else []) ++ ((if (row x.op.toNat).b = true then [x.b] else []) ++ (if (row x.op.toNat).c = true then [x.c] else [])) else []
end Go.Proofs.YtddobhneplfddaaDoor

namespace Go.Proofs.YtddobhneplfddaaDoor
set_option maxRecDepth 100000
open Go.RowKit
set_option linter.unusedSimpArgs false
set_option linter.unusedVariables false
theorem badFrom_cases (p : Nat → Bool) (n : Nat) : ∀ k, (badFrom p k n = -1 ∧ ∀ j, k ≤ j → j < k + n → p j = true) ∨ ∃ j : Nat, k ≤ j ∧ j < k + n ∧ badFrom p k n = j ∧ p j = false := by
  induction n with
  | zero => intro k; exact .inl ⟨rfl, fun j h1 h2 => by omega⟩
  | succ n ih =>
    intro k
    cases hk : p k
    · exact .inr ⟨k, Nat.le_refl _, by omega, by simp [badFrom, hk], hk⟩
    · rcases ih (k + 1) with ⟨h1, h2⟩ | ⟨j, h1, h2, h3, h4⟩
      · refine .inl ⟨by simp [badFrom, hk, h1], fun j h3 h4 => ?_⟩
        rcases Nat.eq_or_lt_of_le h3 with rfl | h5
        · exact hk
        · exact h2 j (by omega) (by omega)
      · exact .inr ⟨j, by omega, by omega, by simp [badFrom, hk, h3], h4⟩
theorem findFrom_cases (fs : List FuncD) (s : ByteArray) (n : Nat) : ∀ k, (findFrom fs s k n = -1 ∧ ∀ j, k ≤ j → j < k + n → eqN (nthF fs j).name s = false) ∨ ∃ j : Nat, k ≤ j ∧ j < k + n ∧ findFrom fs s k n = j ∧ eqN (nthF fs j).name s = true ∧ ∀ i, k ≤ i → i < j → eqN (nthF fs i).name s = false := by
  induction n with
  | zero => intro k; exact .inl ⟨rfl, fun j h1 h2 => by omega⟩
  | succ n ih =>
    intro k
    cases hk : eqN (nthF fs k).name s
    · rcases ih (k + 1) with ⟨h1, h2⟩ | ⟨j, h1, h2, h3, h4, h5⟩
      · refine .inl ⟨by simp only [findFrom, hk]; simpa using h1, fun j h3 h4 => ?_⟩
        rcases Nat.eq_or_lt_of_le h3 with rfl | h5
        · exact hk
        · exact h2 j (by omega) (by omega)
      · refine .inr ⟨j, by omega, by omega, by simp only [findFrom, hk]; simpa using h3, h4, fun i h6 h7 => ?_⟩
        rcases Nat.eq_or_lt_of_le h6 with rfl | h8
        · exact hk
        · exact h5 i (by omega) h7
    · exact .inr ⟨k, Nat.le_refl _, by omega, by simp only [findFrom, hk, if_true], hk, fun i h1 h2 => by omega⟩
theorem may_all {m : ModD} (h : mayD m = ⟨0, 0, 0⟩) : ∀ i, i < m.funcs.length → wholeE m i = 0 ∧ codeE m i = 0 := by
  unfold mayD at h
  split at h
  · simp at h
  split at h
  · simp at h
  split at h
  · simp at h
  rcases badFrom_cases (okWhole m) m.funcs.length 0 with ⟨a1, a2⟩ | ⟨j, b1, b2, b3, b4⟩
  · rw [if_neg (by show ¬ wholeD m ≠ -1; unfold wholeD; rw [a1]; simp)] at h
    rcases badFrom_cases (okCode m) m.funcs.length 0 with ⟨c1, c2⟩ | ⟨j, b1, b2, b3, b4⟩
    · intro i hi
      have h1 := a2 i (Nat.zero_le _) (by omega)
      have h2 := c2 i (Nat.zero_le _) (by omega)
      exact ⟨by simpa [okWhole] using h1, by simpa [okCode] using h2⟩
    · have hd : codeD m = j := b3
      rw [if_pos (by rw [hd]; omega), hd] at h
      simp only [FaultD.mk.injEq, Int.toNat_natCast] at h
      simp [okCode, h.1] at b4
  · have hd : wholeD m = j := b3
    rw [if_pos (by rw [hd]; omega), hd] at h
    simp only [FaultD.mk.injEq, Int.toNat_natCast] at h
    simp [okWhole, h.1] at b4
/-- What a function of a module that may be is like. -/
structure FOk (m : ModD) (i : Nat) : Prop where
  find : findD m.funcs (nthF m.funcs i).name = i
  few : (nthF m.funcs i).params.length ≤ 8
  regs : 1 ≤ (nthF m.funcs i).regs ∧ (nthF m.funcs i).regs ≤ 64 ∧ ((nthF m.funcs i).params.length : Int) ≤ (nthF m.funcs i).regs
  ins : ∀ k, k < (nthF m.funcs i).code.length → insErr m (nthF m.funcs i) (nthX (nthF m.funcs i).code k) = 0
  last : endsOk (lastOp m i) = true
theorem f_ok {m : ModD} (h : mayD m = ⟨0, 0, 0⟩) {i : Nat} (hi : i < m.funcs.length) : FOk m i := by
  obtain ⟨hw, hc⟩ := may_all h i hi
  unfold wholeE at hw
  split at hw
  · simp at hw
  split at hw
  · simp at hw
  rename_i hnf
  split at hw
  · simp at hw
  rename_i hfew
  split at hw
  · simp at hw
  unfold restErr at hw
  split at hw
  · simp at hw
  rename_i hreg
  unfold codeE at hc
  refine ⟨?_, by omega, by omega, ?_, ?_⟩
  · rcases findFrom_cases m.funcs (nthF m.funcs i).name m.funcs.length 0 with ⟨a1, a2⟩ | ⟨j, b1, b2, b3, b4, b5⟩
    · have := a2 i (Nat.zero_le _) (by omega)
      simp [eqN] at this
    · have hd : findD m.funcs (nthF m.funcs i).name = j := b3
      rw [hd] at hnf ⊢
      rcases Nat.lt_or_ge i j with q | q
      · have := b5 i (Nat.zero_le _) q
        simp [eqN] at this
      · omega
  · rcases badFrom_cases (okIns m i) (nthF m.funcs i).code.length 0 with ⟨a1, a2⟩ | ⟨j, b1, b2, b3, b4⟩
    · intro k hk
      have := a2 k (Nat.zero_le _) (by omega)
      simpa [okIns] using this
    · have hd : firstIns m i = j := b3
      rw [if_pos (by rw [hd]; omega), hd, Int.toNat_natCast] at hc
      simp [okIns, hc] at b4
  · rcases badFrom_cases (okIns m i) (nthF m.funcs i).code.length 0 with ⟨a1, a2⟩ | ⟨j, b1, b2, b3, b4⟩
    · have hd : firstIns m i = -1 := a1
      rw [if_neg (by rw [hd]; simp)] at hc
      split at hc
      · assumption
      · simp at hc
    · have hd : firstIns m i = j := b3
      rw [if_pos (by rw [hd]; omega), hd, Int.toNat_natCast] at hc
      simp [okIns, hc] at b4
/-- What an instruction of a module that may be is like. -/
structure IOk (m : ModD) (f : FuncD) (x : InsD) : Prop where
  known : known x.op = true
  a : (row x.op.toNat).a = true → 0 ≤ x.a ∧ x.a < f.regs
  b : (row x.op.toNat).b = true → 0 ≤ x.b ∧ x.b < f.regs
  c : (row x.op.toNat).c = true → 0 ≤ x.c ∧ x.c < f.regs
  n : nErr (row x.op.toNat) m f x = 0
theorem fld_ok {has : Bool} {r regs : Int} (h : fldErr has r regs = 0) : has = true → 0 ≤ r ∧ r < regs := fun hh => by
  unfold fldErr at h
  rw [if_pos hh] at h
  split at h
  · simp at h
  · omega
theorem i_ok {m : ModD} {f : FuncD} {x : InsD} (h : insErr m f x = 0) : IOk m f x := by
  unfold insErr at h
  split at h
  · rename_i hk
    split at h
    · rename_i h3
      have e3 : fldsErr (row x.op.toNat) x f.regs 2 = 0 := by
        by_cases q : fldsErr (row x.op.toNat) x f.regs 2 = 0
        · exact q
        · simp only [fldsErr] at h3 q; rw [if_neg q] at h3; exact absurd h3 q
      have e2 : fldsErr (row x.op.toNat) x f.regs 1 = 0 := by
        by_cases q : fldsErr (row x.op.toNat) x f.regs 1 = 0
        · exact q
        · simp only [fldsErr] at e3 q; rw [if_neg q] at e3; exact absurd e3 q
      have g2 : fldErr (row x.op.toNat).c x.c f.regs = 0 := by
        have : fldsErr (row x.op.toNat) x f.regs 3 = fldErr (row x.op.toNat).c x.c f.regs := by rw [fldsErr, if_pos e3]; rfl
        rw [← this]; exact h3
      have g1 : fldErr (row x.op.toNat).b x.b f.regs = 0 := by
        have : fldsErr (row x.op.toNat) x f.regs 2 = fldErr (row x.op.toNat).b x.b f.regs := by rw [fldsErr, if_pos e2]; rfl
        rw [← this]; exact e3
      have g0 : fldErr (row x.op.toNat).a x.a f.regs = 0 := e2
      exact ⟨hk, fld_ok g0, fld_ok g1, fld_ok g2, h⟩
    · rename_i h3; exact absurd h h3
  · simp at h
theorem row_kinds : ∀ k, k < 20 → ((row k).wr = true → (row k).a = true) ∧ ((row k).n = 4 ↔ k = 19) ∧ (14 ≤ k → k ≤ 18 → (row k).n = 2) := by decide
/-- So many parameters has the function that is called. -/
def calledN (m : ModD) (x : InsD) : Int := if x.op = 19 then ((nthF m.funcs x.n.toNat).params.length : Int) else 0
structure LOk (m : ModD) (f : FuncD) (x : InsD) (lst : Prop) : Prop where
  call : x.op = 19 → 0 ≤ x.n ∧ x.n < m.funcs.length
  reads : ∀ r, r ∈ readsD x (calledN m x) → 0 ≤ r ∧ r < f.regs
  known : known x.op = true
  writes : writes x.op x.a = -1 ∨ (0 ≤ writes x.op x.a ∧ writes x.op x.a < f.regs)
  jumps : 14 ≤ x.op → x.op ≤ 18 → 0 ≤ x.n ∧ x.n < f.code.length
  ends : lst → x.op = 0 ∨ x.op = 14 ∨ x.op = 18
theorem l_ok {m : ModD} (h : mayD m = ⟨0, 0, 0⟩) {i k : Nat} (hi : i < m.funcs.length) (hk : k < (nthF m.funcs i).code.length) :
    LOk m (nthF m.funcs i) (nthX (nthF m.funcs i).code k) (k + 1 = (nthF m.funcs i).code.length) := by
  have hf := f_ok h hi
  have hx := i_ok (hf.ins k hk)
  obtain ⟨k0, k1⟩ : 0 ≤ (nthX (nthF m.funcs i).code k).op ∧ (nthX (nthF m.funcs i).code k).op < 20 := by simpa [known] using hx.known
  obtain ⟨r1, r2, r3⟩ := row_kinds (nthX (nthF m.funcs i).code k).op.toNat (by omega)
  have hcall : (nthX (nthF m.funcs i).code k).op = 19 → 0 ≤ (nthX (nthF m.funcs i).code k).n ∧ (nthX (nthF m.funcs i).code k).n < m.funcs.length ∧ wrap64 ((nthX (nthF m.funcs i).code k).b + (nthF m.funcs (nthX (nthF m.funcs i).code k).n.toNat).params.length) ≤ (nthF m.funcs i).regs := fun h19 => by
    have h4 : (row (nthX (nthF m.funcs i).code k).op.toNat).n = 4 := r2.2 (by omega)
    have hn := hx.n
    unfold nErr at hn
    rw [h4] at hn
    simp at hn
    omega
  refine ⟨fun h19 => ⟨(hcall h19).1, (hcall h19).2.1⟩, fun r hr => ?_, hx.known, ?_, fun h1 h2 => ?_, fun hl => ?_⟩
  · unfold readsD calledN at hr
    by_cases h19 : (nthX (nthF m.funcs i).code k).op = 19
    · rw [if_pos h19, if_pos h19] at hr
      obtain ⟨j, hj, rfl⟩ := List.mem_map.1 hr
      have hj := List.mem_range.1 hj
      obtain ⟨n0, n1, n2⟩ := hcall h19
      have hb := hx.b (by rw [h19]; rfl)
      have hfew := (f_ok h (i := (nthX (nthF m.funcs i).code k).n.toNat) (by omega)).few
      have hreg := hf.regs
      have hcl : callN (nthF m.funcs (nthX (nthF m.funcs i).code k).n.toNat).params.length ≤ (nthF m.funcs (nthX (nthF m.funcs i).code k).n.toNat).params.length := by
        unfold callN; split <;> (try split) <;> omega
      have e1 : wrap64 ((nthX (nthF m.funcs i).code k).b + (nthF m.funcs (nthX (nthF m.funcs i).code k).n.toNat).params.length) = (nthX (nthF m.funcs i).code k).b + (nthF m.funcs (nthX (nthF m.funcs i).code k).n.toNat).params.length := IntWalk.wrap64_in _ (by omega)
      rw [e1] at n2
      have e2 : wrap64 ((nthX (nthF m.funcs i).code k).b + (j : Int)) = (nthX (nthF m.funcs i).code k).b + (j : Int) := IntWalk.wrap64_in _ (by omega)
      rw [e2]
      omega
    · rw [if_neg h19, if_pos hx.known] at hr
      simp only [List.mem_append] at hr
      rcases hr with hr | hr | hr
      · split at hr
        · rename_i q
          simp only [List.mem_singleton] at hr; subst hr
          simp only [Bool.and_eq_true] at q
          exact hx.a q.1
        · simp at hr
      · split at hr
        · rename_i q
          simp only [List.mem_singleton] at hr; subst hr
          exact hx.b q
        · simp at hr
      · split at hr
        · rename_i q
          simp only [List.mem_singleton] at hr; subst hr
          exact hx.c q
        · simp at hr
  · unfold writes
    split
    · rename_i q
      simp only [Bool.and_eq_true] at q
      exact .inr (hx.a (r1 q.2))
    · exact .inl rfl
  · have h2 := r3 (by omega) (by omega)
    have hn := hx.n
    unfold nErr at hn
    rw [h2] at hn
    simp at hn
    omega
  · have hend := hf.last
    unfold lastOp at hend
    rw [show (nthF m.funcs i).code.length - 1 = k by omega] at hend
    simpa [endsOk, or_assoc] using hend
end Go.Proofs.YtddobhneplfddaaDoor

namespace Go.Proofs.YtddobhneplfddaaDoor
set_option maxRecDepth 100000
open Go.RowKit
set_option linter.unusedSimpArgs false
set_option linter.unusedVariables false
theorem nthF_mem {l : List FuncD} {k : Nat} (h : k < l.length) : nthF l k ∈ l := by simp [nthF, h]
theorem nthX_mem {l : List InsD} {k : Nat} (h : k < l.length) : nthX l k ∈ l := by simp [nthX, h]
theorem atS_of {r : List Sp} {k : Nat} {s : Sp} (h : r[k]? = some s) : atS r (k : Int) = s := by
  rw [atS, Int.toNat_natCast, List.getD_eq_getElem?_getD, h]; rfl
theorem nat_of {a n : Int} (h : 0 ≤ a ∧ a < n) : ∃ k : Nat, a = (k : Int) ∧ (k : Int) < n := ⟨a.toNat, by omega, by omega⟩
theorem get_of {r : List Sp} {k : Nat} {n : Int} (hr : (r.length : Int) = n) (hk : (k : Int) < n) : ∃ s, r[k]? = some s := ⟨_, List.getElem?_eq_getElem (by omega)⟩
theorem may_few {m : ModD} (h : mayD m = ⟨0, 0, 0⟩) : m.ths.length ≤ 16 ∧ m.funcs.length ≤ 32 := by
  unfold mayD at h
  split at h
  · simp at h
  split at h
  · simp at h
  split at h
  · simp at h
  constructor <;> omega
/-- What a function of a module that may be is like, besides. -/
theorem f_ok2 {m : ModD} (h : mayD m = ⟨0, 0, 0⟩) {i : Nat} (hi : i < m.funcs.length) :
    (0 ≤ (nthF m.funcs i).words ∧ (nthF m.funcs i).words ≤ 4096) ∧ (1 ≤ (nthF m.funcs i).code.length ∧ (nthF m.funcs i).code.length ≤ 1024) ∧ ∀ k, k < (nthF m.funcs i).params.length → (nthS (nthF m.funcs i).params k).lo ≤ (nthS (nthF m.funcs i).params k).hi := by
  obtain ⟨hw, _⟩ := may_all h i hi
  unfold wholeE at hw
  split at hw
  · simp at hw
  split at hw
  · simp at hw
  split at hw
  · simp at hw
  split at hw
  · simp at hw
  rename_i hne
  unfold restErr at hw
  split at hw
  · simp at hw
  split at hw
  · simp at hw
  split at hw
  · simp at hw
  refine ⟨by omega, by omega, fun k hk => ?_⟩
  have he : emptyD (nthF m.funcs i).params = -1 := Classical.byContradiction hne
  have := badFrom_all _ 0 he k (by omega) (by omega)
  simpa [okSp] using this
theorem n_checked {m : ModD} {f : FuncD} {a b c n : Int} (h : IOk m f ⟨13, a, b, c, n⟩) : 1 ≤ n ∧ n ≤ 4096 := by
  have := h.n
  unfold nErr at this
  simp only [show (row (13 : Int).toNat).n = 3 from rfl] at this
  simp at this
  omega
theorem n_called {m : ModD} (hm : mayD m = ⟨0, 0, 0⟩) {f : FuncD} {a b c n : Int} (h : IOk m f ⟨19, a, b, c, n⟩) (hr : f.regs ≤ 64) : (0 ≤ n ∧ n < m.funcs.length) ∧ b + (nthF m.funcs n.toNat).params.length ≤ f.regs := by
  have h1 := h.n
  have hb := h.b rfl
  unfold nErr at h1
  simp only [show (row (19 : Int).toNat).n = 4 from rfl] at h1
  simp at h1
  have h2 : 0 ≤ n ∧ n < m.funcs.length := by omega
  have h3 := (f_ok hm (i := n.toNat) (by omega)).few
  have e : wrap64 (b + (nthF m.funcs n.toNat).params.length) = b + (nthF m.funcs n.toNat).params.length := IntWalk.wrap64_in _ (by simp only at hb; omega)
  simp only at hb
  omega
theorem op_cases {op : Int} (h : known op = true) : op = 0 ∨ op = 1 ∨ op = 2 ∨ op = 3 ∨ op = 4 ∨ op = 5 ∨ op = 6 ∨ op = 7 ∨ op = 8 ∨ op = 9 ∨ op = 10 ∨ op = 11 ∨ op = 12 ∨ op = 13 ∨ op = 14 ∨ op = 15 ∨ op = 16 ∨ op = 17 ∨ op = 18 ∨ op = 19 := by
  simp only [known, Bool.and_eq_true, decide_eq_true_eq] at h
  omega
end Go.Proofs.YtddobhneplfddaaDoor
