/-
  Layer 9 (code): Same of the reference.
-/
import Derived.Test.YtjacfeohpofhpaaDoorSameP
namespace Go.Proofs.YtjacfeohpofhpaaDoor
open Go.RowKit
set_option linter.unusedSimpArgs false
set_option linter.unusedVariables false

structure SFMem (w : World) (f g : FuncD) (wr : World) : Prop where
  below : Below w.heap.size w wr
  pf : Whl wr w.heap.size 45 #[.string f.name, .slice f.pa f.params.length f.pc, .int .i64 f.regs, .int .i64 f.words, .slice f.ca f.code.length f.cc]
  pg : Whl wr (w.heap.size + 1) 45 #[.string g.name, .slice g.pa g.params.length g.pc, .int .i64 g.regs, .int .i64 g.words, .slice g.ca g.code.length g.cc]
theorem SFMem.drewN {w wr : World} {f g : FuncD} (h : SFMem w f g wr) (n : Nat) : SFMem w f g (wr.drewN n) := ⟨below_drewN h.below n, h.pf, h.pg⟩
theorem SFMem.start (w : World) (f g : FuncD) : SFMem w f g ((w.alloc (.cells #[.string f.name, .slice f.pa f.params.length f.pc, .int .i64 f.regs, .int .i64 f.words, .slice f.ca f.code.length f.cc] 45)).alloc (.cells #[.string g.name, .slice g.pa g.params.length g.pc, .int .i64 g.regs, .int .i64 g.words, .slice g.ca g.code.length g.cc] 45)) :=
  ⟨below_alloc (below_alloc (Below.refl _ _) _) _, (Whl.new _ _ _).alloc _, by have := Whl.new (w.alloc (.cells #[.string f.name, .slice f.pa f.params.length f.pc, .int .i64 f.regs, .int .i64 f.words, .slice f.ca f.code.length f.cc] 45)) 45 #[.string g.name, .slice g.pa g.params.length g.pc, .int .i64 g.regs, .int .i64 g.words, .slice g.ca g.code.length g.cc]; rwa [World.size_alloc] at this⟩
theorem ne_of_no {s t : ByteArray} (h : eqN s t = false) : (s.toList != t.toList) = true := by simp only [bne, h, Bool.not_false]
theorem ne_of_yes {s t : ByteArray} (h : eqN s t = true) : (s.toList != t.toList) = false := by simp only [bne, h, Bool.not_true]

set_option maxHeartbeats 1000000 in
theorem sameFuncR1 (f g : FuncD) (w : World) (wf : f.Wf) (wg : g.Wf) (hf : FuncOk w w.heap.size f) (hg : FuncOk w w.heap.size g) (n1 : eqN f.name g.name = false) : Calls Tryd.prog 20 #[f.val, g.val] w fun e w' => e = .returned (.bool false) ∧ Below w.heap.size w w' := by
  have m1 := ne_of_no n1
  have N1 := Lib.hid n1
  go_enter Tryd.func20, Tryd.ntmps20
  go_wp2
  go_ret
  exact ⟨by first | rfl | simp, below_alloc (below_alloc (Below.refl _ _) _) _⟩

set_option maxHeartbeats 1000000 in
theorem sameFuncR2 (f g : FuncD) (w : World) (wf : f.Wf) (wg : g.Wf) (hf : FuncOk w w.heap.size f) (hg : FuncOk w w.heap.size g) (n1 : eqN f.name g.name = true) (n2 : (f.regs == g.regs) = false) : Calls Tryd.prog 20 #[f.val, g.val] w fun e w' => e = .returned (.bool false) ∧ Below w.heap.size w w' := by
  have m1 := ne_of_yes n1
  have m2 : (f.regs != g.regs) = true := by simpa using n2
  have N1 := Lib.hid n1
  have N2 := Lib.hid n2
  go_enter Tryd.func20, Tryd.ntmps20
  go_wp2
  go_ret
  exact ⟨by first | rfl | simp, below_alloc (below_alloc (Below.refl _ _) _) _⟩

set_option maxHeartbeats 1000000 in
theorem sameFuncR3 (f g : FuncD) (w : World) (wf : f.Wf) (wg : g.Wf) (hf : FuncOk w w.heap.size f) (hg : FuncOk w w.heap.size g) (n1 : eqN f.name g.name = true) (n2 : (f.regs == g.regs) = true) (n3 : (f.words == g.words) = false) : Calls Tryd.prog 20 #[f.val, g.val] w fun e w' => e = .returned (.bool false) ∧ Below w.heap.size w w' := by
  have m1 := ne_of_yes n1
  have m2 : (f.regs != g.regs) = false := by simpa using n2
  have m3 : (f.words != g.words) = true := by simpa using n3
  have N1 := Lib.hid n1
  have N2 := Lib.hid n2
  have N3 := Lib.hid n3
  go_enter Tryd.func20, Tryd.ntmps20
  go_wp2
  go_ret
  exact ⟨by first | rfl | simp, below_alloc (below_alloc (Below.refl _ _) _) _⟩

set_option maxHeartbeats 1000000 in
theorem sameFuncR4 (f g : FuncD) (w : World) (wf : f.Wf) (wg : g.Wf) (hf : FuncOk w w.heap.size f) (hg : FuncOk w w.heap.size g) (n1 : eqN f.name g.name = true) (n2 : (f.regs == g.regs) = true) (n3 : (f.words == g.words) = true) (n4 : ¬ f.params.length = g.params.length) : Calls Tryd.prog 20 #[f.val, g.val] w fun e w' => e = .returned (.bool false) ∧ Below w.heap.size w w' := by
  have m1 := ne_of_yes n1
  have m2 : (f.regs != g.regs) = false := by simpa using n2
  have m3 : (f.words != g.words) = false := by simpa using n3
  have m4 : ((f.params.length : Int) != (g.params.length : Int)) = true := by simp; omega
  have k4 : ((f.params.length : Int) == (g.params.length : Int)) = false := by simp; omega
  have N1 := Lib.hid n1
  have N2 := Lib.hid n2
  have N3 := Lib.hid n3
  have N4 := Lib.hid n4
  clear n4
  go_enter Tryd.func20, Tryd.ntmps20
  go_wp2
  go_ret
  exact ⟨by first | rfl | simp, below_alloc (below_alloc (Below.refl _ _) _) _⟩

set_option maxHeartbeats 1000000 in
theorem sameFuncR5 (f g : FuncD) (w : World) (wf : f.Wf) (wg : g.Wf) (hf : FuncOk w w.heap.size f) (hg : FuncOk w w.heap.size g) (n1 : eqN f.name g.name = true) (n2 : (f.regs == g.regs) = true) (n3 : (f.words == g.words) = true) (n4 : f.params.length = g.params.length) (n5 : ¬ f.code.length = g.code.length) : Calls Tryd.prog 20 #[f.val, g.val] w fun e w' => e = .returned (.bool false) ∧ Below w.heap.size w w' := by
  have m1 := ne_of_yes n1
  have m2 : (f.regs != g.regs) = false := by simpa using n2
  have m3 : (f.words != g.words) = false := by simpa using n3
  have m4 : ((f.params.length : Int) != (g.params.length : Int)) = false := by simp [n4]
  have k4 : ((f.params.length : Int) == (g.params.length : Int)) = true := by simp [n4]
  have m5 : ((f.code.length : Int) != (g.code.length : Int)) = true := by simp; omega
  have k5 : ((f.code.length : Int) == (g.code.length : Int)) = false := by simp; omega
  have N1 := Lib.hid n1
  have N2 := Lib.hid n2
  have N3 := Lib.hid n3
  have N4 := Lib.hid n4
  clear n4
  have N5 := Lib.hid n5
  clear n5
  go_enter Tryd.func20, Tryd.ntmps20
  go_wp2
  go_ret
  exact ⟨by first | rfl | simp, below_alloc (below_alloc (Below.refl _ _) _) _⟩

set_option maxHeartbeats 4000000 in
theorem sameFuncR6 (f g : FuncD) (w : World) (wf : f.Wf) (wg : g.Wf) (hf : FuncOk w w.heap.size f) (hg : FuncOk w w.heap.size g) (n1 : eqN f.name g.name = true) (n2 : (f.regs == g.regs) = true) (n3 : (f.words == g.words) = true) (n4 : f.params.length = g.params.length) (n5 : f.code.length = g.code.length) : Calls Tryd.prog 20 #[f.val, g.val] w fun e w' => e = .returned (.bool (sameF f g)) ∧ Below w.heap.size w w' := by
  have q1 := wf.plen
  have q2 := wf.clen
  have m1 := ne_of_yes n1
  have m2 : (f.regs != g.regs) = false := by simpa using n2
  have m3 : (f.words != g.words) = false := by simpa using n3
  have m4 : ((f.params.length : Int) != (g.params.length : Int)) = false := by simp [n4]
  have k4 : ((f.params.length : Int) == (g.params.length : Int)) = true := by simp [n4]
  have m5 : ((f.code.length : Int) != (g.code.length : Int)) = false := by simp [n5]
  have k5 : ((f.code.length : Int) == (g.code.length : Int)) = true := by simp [n5]
  have ok2 : ∀ (x : FuncD) (o o' : Obj), FuncOk w w.heap.size x → FuncOk ((w.alloc o).alloc o') w.heap.size x := fun m o o' h => (h.below (below_alloc (below_alloc (Below.refl _ _) _) _) (Nat.le_refl _))
  have HF := Lib.hid hf; clear hf
  have HG := Lib.hid hg; clear hg
  clear ok2
  have N1 := Lib.hid n1
  have N2 := Lib.hid n2
  have N3 := Lib.hid n3
  have N4 := Lib.hid n4
  clear n4
  have N5 := Lib.hid n5
  clear n5
  go_enter Tryd.func20, Tryd.ntmps20
  go_wp2
  go_loopw [5] (fun i wr => ∃ k : Nat, k ≤ f.params.length ∧ i = .int .i64 k ∧ SFMem w f g wr ∧ allTo (sameS f.params g.params) k = true) (fun i _ => f.params.length - (intOf i).toNat)
  case atStart => exact ⟨0, Nat.zero_le _, rfl, (SFMem.start w f g), rfl⟩
  case round =>
    obtain ⟨k, hk, rfl, hM, hall⟩ := hrel
    have HA := Lib.hid hall; clear hall
    have hll := N4.out
    have d1 : wr.cell? ⟨w.heap.size, 1, none⟩ = some (.slice f.pa f.params.length f.pc) := hM.pf.cell 1
    have d2 : wr.cell? ⟨w.heap.size + 1, 1, none⟩ = some (.slice g.pa g.params.length g.pc) := hM.pg.cell 1
    by_cases hlt : k < f.params.length
    · have hlt2 : k < g.params.length := by omega
      obtain ⟨b1, o1, hA1, hb1, hc1⟩ := (HF.out.params.below hM.below (Nat.le_refl _)) (by omega)
      obtain ⟨b2, o2, hA2, hb2, hc2⟩ := (HG.out.params.below hM.below (Nat.le_refl _)) (by omega)
      have p0 : wr.cell? ⟨b1, o1 + k * 2, none⟩ = some (.int .i64 (nthS f.params k).lo) := hc1 k (by omega) 0 (by omega)
      have p1 : wr.cell? ⟨b1, o1 + k * 2 + 1, none⟩ = some (.int .i64 (nthS f.params k).hi) := hc1 k (by omega) 1 (by omega)
      have q0 : wr.cell? ⟨b2, o2 + k * 2, none⟩ = some (.int .i64 (nthS g.params k).lo) := hc2 k (by omega) 0 (by omega)
      have q1 : wr.cell? ⟨b2, o2 + k * 2 + 1, none⟩ = some (.int .i64 (nthS g.params k).hi) := hc2 k (by omega) 1 (by omega)
      clear hc1 hc2
      rw [hA1] at d1
      rw [hA2] at d2
      have hp : sameS f.params g.params k = ((nthS f.params k).lo == (nthS g.params k).lo && ((nthS f.params k).hi == (nthS g.params k).hi)) := rfl
      have HP := Lib.hid hp; clear hp
      have HZ : Hid (sameS f.params g.params k = false → sameF f g = false) := Lib.hid (fun h => by simp only [sameF, eqTo_no (p := sameS f.params g.params) hlt h, Bool.false_and, Bool.and_false])
      clear hll hA1 hA2
      cases u0 : ((nthS f.params k).lo == (nthS g.params k).lo)
      · have hp : sameS f.params g.params k = false := by rw [HP.out]; simp only [u0, Bool.false_and, Bool.and_false, Bool.true_and]
        go_wp2
        go_quiet (fail)
        go_wp2
        go_ret
        exact ⟨by rw [HZ.out hp]; rfl, below_drewN hM.below _⟩
      · skip
        cases u1 : ((nthS f.params k).hi == (nthS g.params k).hi)
        · have hp : sameS f.params g.params k = false := by rw [HP.out]; simp only [u0, u1, Bool.false_and, Bool.and_false, Bool.true_and]
          go_wp2
          go_quiet (fail)
          go_wp2
          go_ret
          exact ⟨by rw [HZ.out hp]; rfl, below_drewN hM.below _⟩
        · skip
          have hp : sameS f.params g.params k = true := by rw [HP.out]; simp only [u0, u1, Bool.and_self]
          go_wp2
          go_quiet (fail)
          go_wp2
          go_roundw
          case rel => exact ⟨k + 1, by omega, by go_num, hM.drewN _, allTo_yes HA.out hp⟩
          case measure => simp only [intOf]; omega
    · obtain rfl : k = f.params.length := by omega
      have hM1 := hM
      have HP1 := HA
      have HY : Hid (allTo (sameX f.code g.code) f.code.length = true → sameF f g = true) := Lib.hid (fun h => by
        have t1 : eqTo f.params.length g.params.length (sameS f.params g.params) = true := by rw [← N4.out]; exact eqTo_yes HP1.out
        have t2 : eqTo f.code.length g.code.length (sameX f.code g.code) = true := by rw [← N5.out]; exact eqTo_yes h
        simp only [sameF, N1.out, N2.out, N3.out, t1, t2, Bool.and_self])
      go_wp2
      clear hk HA hM d1 d2 hll
      go_loopw [6] (fun i wr => ∃ k : Nat, k ≤ f.code.length ∧ i = .int .i64 k ∧ SFMem w f g wr ∧ allTo (sameX f.code g.code) k = true) (fun i _ => f.code.length - (intOf i).toNat)
      case atStart => exact ⟨0, Nat.zero_le _, rfl, hM1, rfl⟩
      case round =>
        obtain ⟨k, hk, rfl, hM, hall⟩ := hrel
        have HA := Lib.hid hall; clear hall
        have hll := N5.out
        have d1 : wr.cell? ⟨w.heap.size, 4, none⟩ = some (.slice f.ca f.code.length f.cc) := hM.pf.cell 4
        have d2 : wr.cell? ⟨w.heap.size + 1, 4, none⟩ = some (.slice g.ca g.code.length g.cc) := hM.pg.cell 4
        by_cases hlt : k < f.code.length
        · have hlt2 : k < g.code.length := by omega
          obtain ⟨b1, o1, hA1, hb1, hc1⟩ := (HF.out.code.below hM.below (Nat.le_refl _)) (by omega)
          obtain ⟨b2, o2, hA2, hb2, hc2⟩ := (HG.out.code.below hM.below (Nat.le_refl _)) (by omega)
          have p0 : wr.cell? ⟨b1, o1 + k * 5, none⟩ = some (.int .i64 (nthX f.code k).op) := hc1 k (by omega) 0 (by omega)
          have p1 : wr.cell? ⟨b1, o1 + k * 5 + 1, none⟩ = some (.int .i64 (nthX f.code k).a) := hc1 k (by omega) 1 (by omega)
          have p2 : wr.cell? ⟨b1, o1 + k * 5 + 2, none⟩ = some (.int .i64 (nthX f.code k).b) := hc1 k (by omega) 2 (by omega)
          have p3 : wr.cell? ⟨b1, o1 + k * 5 + 3, none⟩ = some (.int .i64 (nthX f.code k).c) := hc1 k (by omega) 3 (by omega)
          have p4 : wr.cell? ⟨b1, o1 + k * 5 + 4, none⟩ = some (.int .i64 (nthX f.code k).n) := hc1 k (by omega) 4 (by omega)
          have q0 : wr.cell? ⟨b2, o2 + k * 5, none⟩ = some (.int .i64 (nthX g.code k).op) := hc2 k (by omega) 0 (by omega)
          have q1 : wr.cell? ⟨b2, o2 + k * 5 + 1, none⟩ = some (.int .i64 (nthX g.code k).a) := hc2 k (by omega) 1 (by omega)
          have q2 : wr.cell? ⟨b2, o2 + k * 5 + 2, none⟩ = some (.int .i64 (nthX g.code k).b) := hc2 k (by omega) 2 (by omega)
          have q3 : wr.cell? ⟨b2, o2 + k * 5 + 3, none⟩ = some (.int .i64 (nthX g.code k).c) := hc2 k (by omega) 3 (by omega)
          have q4 : wr.cell? ⟨b2, o2 + k * 5 + 4, none⟩ = some (.int .i64 (nthX g.code k).n) := hc2 k (by omega) 4 (by omega)
          clear hc1 hc2
          rw [hA1] at d1
          rw [hA2] at d2
          have hp : sameX f.code g.code k = ((nthX f.code k).op == (nthX g.code k).op && ((nthX f.code k).a == (nthX g.code k).a && ((nthX f.code k).b == (nthX g.code k).b && ((nthX f.code k).c == (nthX g.code k).c && ((nthX f.code k).n == (nthX g.code k).n))))) := rfl
          have HP := Lib.hid hp; clear hp
          have HZ : Hid (sameX f.code g.code k = false → sameF f g = false) := Lib.hid (fun h => by simp only [sameF, eqTo_no (p := sameX f.code g.code) hlt h, Bool.and_false])
          clear hll hA1 hA2
          cases u0 : ((nthX f.code k).op == (nthX g.code k).op)
          · have hp : sameX f.code g.code k = false := by rw [HP.out]; simp only [u0, Bool.false_and, Bool.and_false, Bool.true_and]
            go_wp2
            go_quiet (fail)
            go_wp2
            go_ret
            exact ⟨by rw [HZ.out hp]; rfl, below_drewN hM.below _⟩
          · skip
            cases u1 : ((nthX f.code k).a == (nthX g.code k).a)
            · have hp : sameX f.code g.code k = false := by rw [HP.out]; simp only [u0, u1, Bool.false_and, Bool.and_false, Bool.true_and]
              go_wp2
              go_quiet (fail)
              go_wp2
              go_ret
              exact ⟨by rw [HZ.out hp]; rfl, below_drewN hM.below _⟩
            · skip
              cases u2 : ((nthX f.code k).b == (nthX g.code k).b)
              · have hp : sameX f.code g.code k = false := by rw [HP.out]; simp only [u0, u1, u2, Bool.false_and, Bool.and_false, Bool.true_and]
                go_wp2
                go_quiet (fail)
                go_wp2
                go_ret
                exact ⟨by rw [HZ.out hp]; rfl, below_drewN hM.below _⟩
              · skip
                cases u3 : ((nthX f.code k).c == (nthX g.code k).c)
                · have hp : sameX f.code g.code k = false := by rw [HP.out]; simp only [u0, u1, u2, u3, Bool.false_and, Bool.and_false, Bool.true_and]
                  go_wp2
                  go_quiet (fail)
                  go_wp2
                  go_ret
                  exact ⟨by rw [HZ.out hp]; rfl, below_drewN hM.below _⟩
                · skip
                  cases u4 : ((nthX f.code k).n == (nthX g.code k).n)
                  · have hp : sameX f.code g.code k = false := by rw [HP.out]; simp only [u0, u1, u2, u3, u4, Bool.false_and, Bool.and_false, Bool.true_and]
                    go_wp2
                    go_quiet (fail)
                    go_wp2
                    go_ret
                    exact ⟨by rw [HZ.out hp]; rfl, below_drewN hM.below _⟩
                  · skip
                    have hp : sameX f.code g.code k = true := by rw [HP.out]; simp only [u0, u1, u2, u3, u4, Bool.and_self]
                    go_wp2
                    go_quiet (fail)
                    go_wp2
                    go_roundw
                    case rel => exact ⟨k + 1, by omega, by go_num, hM.drewN _, allTo_yes HA.out hp⟩
                    case measure => simp only [intOf]; omega
        · obtain rfl : k = f.code.length := by omega
          go_wp2
          go_ret
          refine ⟨?_, hM.below⟩
          rw [HY.out HA.out]; rfl

theorem sameFuncR (f g : FuncD) (w : World) (wf : f.Wf) (wg : g.Wf) (hf : FuncOk w w.heap.size f) (hg : FuncOk w w.heap.size g) : Calls Tryd.prog 20 #[f.val, g.val] w fun e w' => e = .returned (.bool (sameF f g)) ∧ Below w.heap.size w w' := by
  cases n1 : eqN f.name g.name
  · rw [show sameF f g = false from by simp only [sameF, n1, Bool.false_and]]; exact sameFuncR1 f g w wf wg hf hg n1
  cases n2 : (f.regs == g.regs)
  · rw [show sameF f g = false from by simp only [sameF, n1, n2, Bool.false_and, Bool.and_false]]; exact sameFuncR2 f g w wf wg hf hg n1 n2
  cases n3 : (f.words == g.words)
  · rw [show sameF f g = false from by simp only [sameF, n1, n2, n3, Bool.false_and, Bool.and_false]]; exact sameFuncR3 f g w wf wg hf hg n1 n2 n3
  by_cases n4 : f.params.length = g.params.length
  · by_cases n5 : f.code.length = g.code.length
    · exact sameFuncR6 f g w wf wg hf hg n1 n2 n3 n4 n5
    · rw [show sameF f g = false from by simp only [sameF, eqTo_len n5, Bool.and_false]]; exact sameFuncR5 f g w wf wg hf hg n1 n2 n3 n4 n5
  · rw [show sameF f g = false from by simp only [sameF, eqTo_len n4, Bool.false_and, Bool.and_false]]; exact sameFuncR4 f g w wf wg hf hg n1 n2 n3 n4
end Go.Proofs.YtjacfeohpofhpaaDoor
