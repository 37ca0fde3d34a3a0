/-
  Layer 9 (code): Same of the reference, of modules.
-/
import Derived.Test.YtjacfeohpofhpaaDoorSameR
namespace Go.Proofs.YtjacfeohpofhpaaDoor
open Go.RowKit
set_option linter.unusedSimpArgs false
set_option linter.unusedVariables false

structure SMMem (w : World) (a b : ModD) (wr : World) : Prop where
  below : Below w.heap.size w wr
  pa : Whl wr w.heap.size 25 #[.slice a.ta a.ths.length a.tc, .slice a.fa a.funcs.length a.fc]
  pb : Whl wr (w.heap.size + 1) 25 #[.slice b.ta b.ths.length b.tc, .slice b.fa b.funcs.length b.fc]
theorem SMMem.drewN {w wr : World} {a b : ModD} (h : SMMem w a b wr) (n : Nat) : SMMem w a b (wr.drewN n) := ⟨below_drewN h.below n, h.pa, h.pb⟩
theorem SMMem.go {w wr w1 : World} {a b : ModD} (h : SMMem w a b wr) (hb : Below wr.drew.heap.size wr.drew w1) : SMMem w a b w1 := ⟨below_step h.below.drew hb, h.pa.drew.below' hb, h.pb.drew.below' hb⟩
theorem SMMem.start (w : World) (a b : ModD) : SMMem w a b ((w.alloc (.cells #[.slice a.ta a.ths.length a.tc, .slice a.fa a.funcs.length a.fc] 25)).alloc (.cells #[.slice b.ta b.ths.length b.tc, .slice b.fa b.funcs.length b.fc] 25)) :=
  ⟨below_alloc (below_alloc (Below.refl _ _) _) _, (Whl.new _ _ _).alloc _, by have := Whl.new (w.alloc (.cells #[.slice a.ta a.ths.length a.tc, .slice a.fa a.funcs.length a.fc] 25)) 25 #[.slice b.ta b.ths.length b.tc, .slice b.fa b.funcs.length b.fc]; rwa [World.size_alloc] at this⟩

set_option maxHeartbeats 1000000 in
theorem sameMR1 (a b : ModD) (w : World) (wa : a.Wf) (wb : b.Wf) (ha : ModOk w w.heap.size a) (hb : ModOk w w.heap.size b) (n1 : ¬ a.ths.length = b.ths.length) : Calls Tryd.prog 10 #[a.val, b.val] w fun e w' => e = .returned (.bool false) ∧ Below w.heap.size w w' := by
  have m1 : ((a.ths.length : Int) != (b.ths.length : Int)) = true := by simp; omega
  have k1 : ((a.ths.length : Int) == (b.ths.length : Int)) = false := by simp; omega
  have N1 := Lib.hid n1
  clear n1
  go_enter Tryd.func10, Tryd.ntmps10
  go_wp2
  go_ret
  exact ⟨by first | rfl | simp, below_alloc (below_alloc (Below.refl _ _) _) _⟩

set_option maxHeartbeats 1000000 in
theorem sameMR2 (a b : ModD) (w : World) (wa : a.Wf) (wb : b.Wf) (ha : ModOk w w.heap.size a) (hb : ModOk w w.heap.size b) (n1 : a.ths.length = b.ths.length) (n2 : ¬ a.funcs.length = b.funcs.length) : Calls Tryd.prog 10 #[a.val, b.val] w fun e w' => e = .returned (.bool false) ∧ Below w.heap.size w w' := by
  have m1 : ((a.ths.length : Int) != (b.ths.length : Int)) = false := by simp [n1]
  have k1 : ((a.ths.length : Int) == (b.ths.length : Int)) = true := by simp [n1]
  have m2 : ((a.funcs.length : Int) != (b.funcs.length : Int)) = true := by simp; omega
  have k2 : ((a.funcs.length : Int) == (b.funcs.length : Int)) = false := by simp; omega
  have N1 := Lib.hid n1
  clear n1
  have N2 := Lib.hid n2
  clear n2
  go_enter Tryd.func10, Tryd.ntmps10
  go_wp2
  go_ret
  exact ⟨by first | rfl | simp, below_alloc (below_alloc (Below.refl _ _) _) _⟩

set_option maxHeartbeats 4000000 in
theorem sameMR3 (a b : ModD) (w : World) (wa : a.Wf) (wb : b.Wf) (ha : ModOk w w.heap.size a) (hb : ModOk w w.heap.size b) (n1 : a.ths.length = b.ths.length) (n2 : a.funcs.length = b.funcs.length) : Calls Tryd.prog 10 #[a.val, b.val] w fun e w' => e = .returned (.bool (sameD a b)) ∧ Below w.heap.size w w' := by
  have q1 := wa.tlen
  have q2 := wa.flen
  have m1 : ((a.ths.length : Int) != (b.ths.length : Int)) = false := by simp [n1]
  have k1 : ((a.ths.length : Int) == (b.ths.length : Int)) = true := by simp [n1]
  have m2 : ((a.funcs.length : Int) != (b.funcs.length : Int)) = false := by simp [n2]
  have k2 : ((a.funcs.length : Int) == (b.funcs.length : Int)) = true := by simp [n2]
  have N1 := Lib.hid n1
  clear n1
  have N2 := Lib.hid n2
  clear n2
  have HF := Lib.hid ha; clear ha
  have HG := Lib.hid hb; clear hb
  go_enter Tryd.func10, Tryd.ntmps10
  go_wp2
  go_loopw [5] (fun i wr => ∃ k : Nat, k ≤ a.ths.length ∧ i = .int .i64 k ∧ SMMem w a b wr ∧ allTo (sameI a.ths b.ths) k = true) (fun i _ => a.ths.length - (intOf i).toNat)
  case atStart => exact ⟨0, Nat.zero_le _, rfl, SMMem.start w a b, rfl⟩
  case round =>
    obtain ⟨k, hk, rfl, hM, hall⟩ := hrel
    have HA := Lib.hid hall; clear hall
    have hll := N1.out
    have d1 : wr.cell? ⟨w.heap.size, 0, none⟩ = some (.slice a.ta a.ths.length a.tc) := hM.pa.cell 0
    have d2 : wr.cell? ⟨w.heap.size + 1, 0, none⟩ = some (.slice b.ta b.ths.length b.tc) := hM.pb.cell 0
    have d3 : wr.cell? ⟨w.heap.size, 1, none⟩ = some (.slice a.fa a.funcs.length a.fc) := hM.pa.cell 1
    have d4 : wr.cell? ⟨w.heap.size + 1, 1, none⟩ = some (.slice b.fa b.funcs.length b.fc) := hM.pb.cell 1
    by_cases hlt : k < a.ths.length
    · have hlt2 : k < b.ths.length := by omega
      obtain ⟨b1, o1, hA1, hb1, hc1⟩ := (HF.out.ths.below hM.below (Nat.le_refl _)) (by omega)
      obtain ⟨b2, o2, hA2, hb2, hc2⟩ := (HG.out.ths.below hM.below (Nat.le_refl _)) (by omega)
      have p0 : wr.cell? ⟨b1, o1 + k, none⟩ = some (.int .i64 (nthI a.ths k)) := hc1 k (by omega)
      have q0 : wr.cell? ⟨b2, o2 + k, none⟩ = some (.int .i64 (nthI b.ths k)) := hc2 k (by omega)
      clear hc1 hc2 d3 d4
      rw [hA1] at d1
      rw [hA2] at d2
      have hp : sameI a.ths b.ths k = (nthI a.ths k == nthI b.ths k) := rfl
      have HP := Lib.hid hp; clear hp
      have HZ : Hid (sameI a.ths b.ths k = false → sameD a b = false) := Lib.hid (fun h => by simp only [sameD, eqTo_no (p := sameI a.ths b.ths) hlt h, Bool.false_and])
      clear hll hA1 hA2
      cases u0 : (nthI a.ths k == nthI b.ths k)
      · have hp : sameI a.ths b.ths k = false := by rw [HP.out]; exact u0
        go_wp2
        go_quiet (fail)
        go_wp2
        go_ret
        exact ⟨by rw [HZ.out hp]; rfl, below_drewN hM.below _⟩
      · have hp : sameI a.ths b.ths k = true := by rw [HP.out]; exact u0
        go_wp2
        go_quiet (fail)
        go_wp2
        go_roundw
        case rel => exact ⟨k + 1, by omega, by go_num, hM.drewN _, allTo_yes HA.out hp⟩
        case measure => simp only [intOf]; omega
    · obtain rfl : k = a.ths.length := by omega
      have hM1 := hM
      have HP1 := HA
      have HY : Hid (allTo (sameFs a.funcs b.funcs) a.funcs.length = true → sameD a b = true) := Lib.hid (fun h => by
        have t1 : eqTo a.ths.length b.ths.length (sameI a.ths b.ths) = true := by rw [← N1.out]; exact eqTo_yes HP1.out
        have t2 : eqTo a.funcs.length b.funcs.length (sameFs a.funcs b.funcs) = true := by rw [← N2.out]; exact eqTo_yes h
        simp only [sameD, t1, t2, Bool.and_self])
      go_wp2
      clear hk HA hM d1 d2 d3 d4 hll
      go_loopw [6] (fun i wr => ∃ k : Nat, k ≤ a.funcs.length ∧ i = .int .i64 k ∧ SMMem w a b wr ∧ allTo (sameFs a.funcs b.funcs) k = true) (fun i _ => a.funcs.length - (intOf i).toNat)
      case atStart => exact ⟨0, Nat.zero_le _, rfl, hM1, rfl⟩
      case round =>
        obtain ⟨k, hk, rfl, hM, hall⟩ := hrel
        have HA := Lib.hid hall; clear hall
        have hll := N2.out
        have d1 : wr.cell? ⟨w.heap.size, 1, none⟩ = some (.slice a.fa a.funcs.length a.fc) := hM.pa.cell 1
        have d2 : wr.cell? ⟨w.heap.size + 1, 1, none⟩ = some (.slice b.fa b.funcs.length b.fc) := hM.pb.cell 1
        by_cases hlt : k < a.funcs.length
        · have hlt2 : k < b.funcs.length := by omega
          obtain ⟨b1, o1, hA1, hb1, x0, x1, x2, x3, x4⟩ := funcs_cells (HF.out.funcs.below hM.below (Nat.le_refl _)) hlt
          obtain ⟨b2, o2, hA2, hb2, y0, y1, y2, y3, y4⟩ := funcs_cells (HG.out.funcs.below hM.below (Nat.le_refl _)) hlt2
          rw [hA1] at d1
          rw [hA2] at d2
          have hs := hM.below.size
          have F1 := Lib.hid (((HF.out.each k hlt).below hM.below.drew (Nat.le_refl _)).more hs)
          have F2 := Lib.hid (((HG.out.each k hlt2).below hM.below.drew (Nat.le_refl _)).more hs)
          have HZ : Hid (sameF (nthF a.funcs k) (nthF b.funcs k) = false → sameD a b = false) := Lib.hid (fun h => by simp only [sameD, eqTo_no (p := sameFs a.funcs b.funcs) hlt h, Bool.and_false])
          clear hll hA1 hA2
          go_wp2
          go_region_held3 (fun w' => w'.cell? ⟨b1, o1 + k * 5, none⟩ = some (.string (nthF a.funcs k).name) ∧ w'.cell? ⟨b1, o1 + k * 5 + 1, none⟩ = some (.slice (nthF a.funcs k).pa (nthF a.funcs k).params.length (nthF a.funcs k).pc) ∧ w'.cell? ⟨b1, o1 + k * 5 + 2, none⟩ = some (.int .i64 (nthF a.funcs k).regs) ∧ w'.cell? ⟨b1, o1 + k * 5 + 3, none⟩ = some (.int .i64 (nthF a.funcs k).words) ∧ w'.cell? ⟨b1, o1 + k * 5 + 4, none⟩ = some (.slice (nthF a.funcs k).ca (nthF a.funcs k).code.length (nthF a.funcs k).cc) ∧ w'.cell? ⟨b2, o2 + k * 5, none⟩ = some (.string (nthF b.funcs k).name) ∧ w'.cell? ⟨b2, o2 + k * 5 + 1, none⟩ = some (.slice (nthF b.funcs k).pa (nthF b.funcs k).params.length (nthF b.funcs k).pc) ∧ w'.cell? ⟨b2, o2 + k * 5 + 2, none⟩ = some (.int .i64 (nthF b.funcs k).regs) ∧ w'.cell? ⟨b2, o2 + k * 5 + 3, none⟩ = some (.int .i64 (nthF b.funcs k).words) ∧ w'.cell? ⟨b2, o2 + k * 5 + 4, none⟩ = some (.slice (nthF b.funcs k).ca (nthF b.funcs k).code.length (nthF b.funcs k).cc) ∧ w'.cell? ⟨w.heap.size, 1, none⟩ = some (.slice (some ⟨b1, o1, none⟩) a.funcs.length a.fc) ∧ w'.cell? ⟨w.heap.size + 1, 1, none⟩ = some (.slice (some ⟨b2, o2, none⟩) b.funcs.length b.fc))
            (first | exact keep12 (by assumption) (by assumption) | (go_simp; done))
            (first | (go_at_call 20; with_reducible refine (sameFuncR (nthF a.funcs k) (nthF b.funcs k) _ (nthF_wf wa.funcs hlt) (nthF_wf wb.funcs hlt2) F1.out F2.out).mono ?_; rintro e w1 ⟨rfl, hb1⟩))
          cases hn : sameF (nthF a.funcs k) (nthF b.funcs k)
          all_goals go_wp2
          · go_ret
            exact ⟨by rw [HZ.out hn]; rfl, (hM.go hb1).below⟩
          · go_roundw
            case rel => exact ⟨k + 1, by omega, by go_num, hM.go hb1, allTo_yes HA.out hn⟩
            case measure => simp only [intOf]; omega
        · obtain rfl : k = a.funcs.length := by omega
          go_wp2
          go_ret
          refine ⟨?_, hM.below⟩
          rw [HY.out HA.out]; rfl

theorem sameMR (a b : ModD) (w : World) (wa : a.Wf) (wb : b.Wf) (ha : ModOk w w.heap.size a) (hb : ModOk w w.heap.size b) : Calls Tryd.prog 10 #[a.val, b.val] w fun e w' => e = .returned (.bool (sameD a b)) ∧ Below w.heap.size w w' := by
  by_cases n1 : a.ths.length = b.ths.length
  · by_cases n2 : a.funcs.length = b.funcs.length
    · exact sameMR3 a b w wa wb ha hb n1 n2
    · rw [show sameD a b = false from by simp only [sameD, eqTo_len n2, Bool.and_false]]; exact sameMR2 a b w wa wb ha hb n1 n2
  · rw [show sameD a b = false from by simp only [sameD, eqTo_len n1, Bool.false_and]]; exact sameMR1 a b w wa wb ha hb n1
end Go.Proofs.YtjacfeohpofhpaaDoor
