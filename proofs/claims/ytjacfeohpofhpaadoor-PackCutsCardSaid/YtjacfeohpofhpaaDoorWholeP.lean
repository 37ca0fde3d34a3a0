/-
  Layer 9 (code): what whole says of a function as a whole.
-/
import Derived.Test.YtjacfeohpofhpaaDoorPlainL
import Derived.BigQuiet
namespace Go.Proofs.YtjacfeohpofhpaaDoor
open Go.RowKit
set_option linter.unusedSimpArgs false
set_option linter.unusedVariables false
attribute [local go_sem ↓] Go.wp_at_zero Go.wp_at_succ

structure WMem (w : World) (m : ModD) (f : FuncD) (wr : World) : Prop where
  below : Below w.heap.size w wr
  bm : Whl wr w.heap.size 25 #[.slice m.ta m.ths.length m.tc, .slice m.fa m.funcs.length m.fc]
  bf : Whl wr (w.heap.size + 1) 45 #[.string f.name, .slice f.pa f.params.length f.pc, .int .i64 f.regs, .int .i64 f.words, .slice f.ca f.code.length f.cc]
theorem WMem.alloc {w wr : World} {m : ModD} {f : FuncD} (h : WMem w m f wr) (o : Obj) : WMem w m f (wr.alloc o) := ⟨below_alloc h.below _, h.bm.alloc _, h.bf.alloc _⟩
theorem WMem.drewN {w wr : World} {m : ModD} {f : FuncD} (h : WMem w m f wr) (n : Nat) : WMem w m f (wr.drewN n) := ⟨below_drewN h.below n, h.bm, h.bf⟩
theorem WMem.go {w wr w1 : World} {m : ModD} {f : FuncD} (h : WMem w m f wr) (hb : Below wr.heap.size wr w1) : WMem w m f w1 := ⟨below_step h.below hb, h.bm.below' hb, h.bf.below' hb⟩
theorem WMem.start (w : World) (m : ModD) (f : FuncD) : WMem w m f ((w.alloc (.cells #[.slice m.ta m.ths.length m.tc, .slice m.fa m.funcs.length m.fc] 25)).alloc (.cells #[.string f.name, .slice f.pa f.params.length f.pc, .int .i64 f.regs, .int .i64 f.words, .slice f.ca f.code.length f.cc] 45)) :=
  ⟨below_alloc (below_alloc (Below.refl _ _) _) _, (Whl.new _ _ _).alloc _, by have := Whl.new (w.alloc (.cells #[.slice m.ta m.ths.length m.tc, .slice m.fa m.funcs.length m.fc] 25)) 45 #[.string f.name, .slice f.pa f.params.length f.pc, .int .i64 f.regs, .int .i64 f.words, .slice f.ca f.code.length f.cc]; rwa [World.size_alloc] at this⟩

theorem nthF_wfM {m : ModD} (h : m.Wf) {k : Nat} (hk : k < m.funcs.length) : (nthF m.funcs k).Wf := by
  unfold nthF
  rw [List.getD_eq_getElem?_getD, List.getElem?_eq_getElem hk]
  exact h.funcs _ (List.getElem_mem hk)
theorem nthS_wfL {l : List Sp} (h : ∀ s, s ∈ l → s.Wf) {k : Nat} (hk : k < l.length) : (nthS l k).Wf := by
  unfold nthS
  rw [List.getD_eq_getElem?_getD, List.getElem?_eq_getElem hk]
  exact h _ (List.getElem_mem hk)

set_option maxHeartbeats 1000000 in
theorem whole1 (m : ModD) (k : Nat) (w : World) (wm : m.Wf) (hm : ModOk w w.heap.size m) (hk : k < m.funcs.length) (n1 : isNameB (nthF m.funcs k).name = false) : Calls Tryd.prog 30 #[m.val, .int .i64 k] w fun e w' => e = .returned (.tuple #[.int .i64 8, .int .i64 0]) ∧ Below w.heap.size w w' := by
  have hflen := wm.flen
  have wfk := nthF_wfM wm hk
  have hnm := wfk.name
  have hpl := wfk.plen
  have hcl := wfk.clen
  obtain ⟨fb, fo, hfa, hfb, z0, z1, z2, z3, z4⟩ := funcs_cells hm.funcs hk
  have HM := Lib.hid hm; clear hm
  have HFA := Lib.hid hfa
  obtain ⟨ta, tc, ths, fa, fc, funcs⟩ := m
  dsimp only at *
  subst hfa
  have OK : ModOk ((w.alloc (.cells #[.slice ta ths.length tc, .slice (some ⟨fb, fo, none⟩) funcs.length fc] 25)).alloc (.cells #[.string (nthF funcs k).name, .slice (nthF funcs k).pa (nthF funcs k).params.length (nthF funcs k).pc, .int .i64 (nthF funcs k).regs, .int .i64 (nthF funcs k).words, .slice (nthF funcs k).ca (nthF funcs k).code.length (nthF funcs k).cc] 45)) _ ⟨ta, tc, ths, some ⟨fb, fo, none⟩, fc, funcs⟩ := (HM.out.below (below_alloc (below_alloc (Below.refl _ _) _) _) (Nat.le_refl _)).more (B' := ((w.alloc (.cells #[.slice ta ths.length tc, .slice (some ⟨fb, fo, none⟩) funcs.length fc] 25)).alloc (.cells #[.string (nthF funcs k).name, .slice (nthF funcs k).pa (nthF funcs k).params.length (nthF funcs k).pc, .int .i64 (nthF funcs k).regs, .int .i64 (nthF funcs k).words, .slice (nthF funcs k).ca (nthF funcs k).code.length (nthF funcs k).cc] 45)).heap.size) (by simp; omega)
  go_enter Tryd.func30, Tryd.ntmps30
  go_wp2_with (first
    | (go_at_call 35; with_reducible refine (isNameP _ _ hnm).mono ?_; rintro e w0 ⟨rfl, rfl⟩)
    | (go_at_call 36; with_reducible refine (findP ⟨ta, tc, ths, some ⟨fb, fo, none⟩, fc, funcs⟩ (nthF funcs k).name _ (by dsimp only; omega) OK).mono ?_; rintro e w1 ⟨rfl, hb1⟩; obtain ⟨hcc1, hff1⟩ := bcell hb1; have hs1 := hb1.size; (try simp at hs1); have l1 : w.heap.size + 1 < w1.heap.size := (by omega); have r1 : w.heap.size < w1.heap.size := (by omega)))
  all_goals (try simp only [Exit.inBlock, Exit.then])
  all_goals refine ret_of ?_ rfl
  all_goals simp [results, Tryd.results30, go_sem]
  all_goals go_light
  all_goals exact (by repeat (first | exact Below.refl _ _ | with_reducible apply below_alloc | with_reducible apply below_drewN | with_reducible refine below_step ?_ hb1))

set_option maxHeartbeats 1000000 in
theorem whole2 (m : ModD) (k : Nat) (w : World) (wm : m.Wf) (hm : ModOk w w.heap.size m) (hk : k < m.funcs.length) (n1 : isNameB (nthF m.funcs k).name = true) (n2 : decide (findD m.funcs (nthF m.funcs k).name < (k : Int)) = true) : Calls Tryd.prog 30 #[m.val, .int .i64 k] w fun e w' => e = .returned (.tuple #[.int .i64 9, .int .i64 0]) ∧ Below w.heap.size w w' := by
  have hflen := wm.flen
  have wfk := nthF_wfM wm hk
  have hnm := wfk.name
  have hpl := wfk.plen
  have hcl := wfk.clen
  obtain ⟨fb, fo, hfa, hfb, z0, z1, z2, z3, z4⟩ := funcs_cells hm.funcs hk
  have HM := Lib.hid hm; clear hm
  have HFA := Lib.hid hfa
  obtain ⟨ta, tc, ths, fa, fc, funcs⟩ := m
  dsimp only at *
  subst hfa
  have OK : ModOk ((w.alloc (.cells #[.slice ta ths.length tc, .slice (some ⟨fb, fo, none⟩) funcs.length fc] 25)).alloc (.cells #[.string (nthF funcs k).name, .slice (nthF funcs k).pa (nthF funcs k).params.length (nthF funcs k).pc, .int .i64 (nthF funcs k).regs, .int .i64 (nthF funcs k).words, .slice (nthF funcs k).ca (nthF funcs k).code.length (nthF funcs k).cc] 45)) _ ⟨ta, tc, ths, some ⟨fb, fo, none⟩, fc, funcs⟩ := (HM.out.below (below_alloc (below_alloc (Below.refl _ _) _) _) (Nat.le_refl _)).more (B' := ((w.alloc (.cells #[.slice ta ths.length tc, .slice (some ⟨fb, fo, none⟩) funcs.length fc] 25)).alloc (.cells #[.string (nthF funcs k).name, .slice (nthF funcs k).pa (nthF funcs k).params.length (nthF funcs k).pc, .int .i64 (nthF funcs k).regs, .int .i64 (nthF funcs k).words, .slice (nthF funcs k).ca (nthF funcs k).code.length (nthF funcs k).cc] 45)).heap.size) (by simp; omega)
  go_enter Tryd.func30, Tryd.ntmps30
  go_wp2_with (first
    | (go_at_call 35; with_reducible refine (isNameP _ _ hnm).mono ?_; rintro e w0 ⟨rfl, rfl⟩)
    | (go_at_call 36; with_reducible refine (findP ⟨ta, tc, ths, some ⟨fb, fo, none⟩, fc, funcs⟩ (nthF funcs k).name _ (by dsimp only; omega) OK).mono ?_; rintro e w1 ⟨rfl, hb1⟩; obtain ⟨hcc1, hff1⟩ := bcell hb1; have hs1 := hb1.size; (try simp at hs1); have l1 : w.heap.size + 1 < w1.heap.size := (by omega); have r1 : w.heap.size < w1.heap.size := (by omega)))
  all_goals (try simp only [Exit.inBlock, Exit.then])
  all_goals refine ret_of ?_ rfl
  all_goals simp [results, Tryd.results30, go_sem]
  all_goals go_light
  all_goals exact (by repeat (first | exact Below.refl _ _ | with_reducible apply below_alloc | with_reducible apply below_drewN | with_reducible refine below_step ?_ hb1))

set_option maxHeartbeats 1000000 in
theorem whole3 (m : ModD) (k : Nat) (w : World) (wm : m.Wf) (hm : ModOk w w.heap.size m) (hk : k < m.funcs.length) (n1 : isNameB (nthF m.funcs k).name = true) (n2 : decide (findD m.funcs (nthF m.funcs k).name < (k : Int)) = false) (n3 : decide ((8 : Int) < ((nthF m.funcs k).params.length : Int)) = true) : Calls Tryd.prog 30 #[m.val, .int .i64 k] w fun e w' => e = .returned (.tuple #[.int .i64 3, .int .i64 8]) ∧ Below w.heap.size w w' := by
  have hflen := wm.flen
  have wfk := nthF_wfM wm hk
  have hnm := wfk.name
  have hpl := wfk.plen
  have hcl := wfk.clen
  obtain ⟨fb, fo, hfa, hfb, z0, z1, z2, z3, z4⟩ := funcs_cells hm.funcs hk
  have HM := Lib.hid hm; clear hm
  have HFA := Lib.hid hfa
  obtain ⟨ta, tc, ths, fa, fc, funcs⟩ := m
  dsimp only at *
  subst hfa
  have OK : ModOk ((w.alloc (.cells #[.slice ta ths.length tc, .slice (some ⟨fb, fo, none⟩) funcs.length fc] 25)).alloc (.cells #[.string (nthF funcs k).name, .slice (nthF funcs k).pa (nthF funcs k).params.length (nthF funcs k).pc, .int .i64 (nthF funcs k).regs, .int .i64 (nthF funcs k).words, .slice (nthF funcs k).ca (nthF funcs k).code.length (nthF funcs k).cc] 45)) _ ⟨ta, tc, ths, some ⟨fb, fo, none⟩, fc, funcs⟩ := (HM.out.below (below_alloc (below_alloc (Below.refl _ _) _) _) (Nat.le_refl _)).more (B' := ((w.alloc (.cells #[.slice ta ths.length tc, .slice (some ⟨fb, fo, none⟩) funcs.length fc] 25)).alloc (.cells #[.string (nthF funcs k).name, .slice (nthF funcs k).pa (nthF funcs k).params.length (nthF funcs k).pc, .int .i64 (nthF funcs k).regs, .int .i64 (nthF funcs k).words, .slice (nthF funcs k).ca (nthF funcs k).code.length (nthF funcs k).cc] 45)).heap.size) (by simp; omega)
  go_enter Tryd.func30, Tryd.ntmps30
  go_wp2_with (first
    | (go_at_call 35; with_reducible refine (isNameP _ _ hnm).mono ?_; rintro e w0 ⟨rfl, rfl⟩)
    | (go_at_call 36; with_reducible refine (findP ⟨ta, tc, ths, some ⟨fb, fo, none⟩, fc, funcs⟩ (nthF funcs k).name _ (by dsimp only; omega) OK).mono ?_; rintro e w1 ⟨rfl, hb1⟩; obtain ⟨hcc1, hff1⟩ := bcell hb1; have hs1 := hb1.size; (try simp at hs1); have l1 : w.heap.size + 1 < w1.heap.size := (by omega); have r1 : w.heap.size < w1.heap.size := (by omega)))
  all_goals (try simp only [Exit.inBlock, Exit.then])
  all_goals refine ret_of ?_ rfl
  all_goals simp [results, Tryd.results30, go_sem]
  all_goals go_light
  all_goals exact (by repeat (first | exact Below.refl _ _ | with_reducible apply below_alloc | with_reducible apply below_drewN | with_reducible refine below_step ?_ hb1))

set_option maxHeartbeats 4000000 in
theorem whole4 (m : ModD) (k : Nat) (w : World) (wm : m.Wf) (hm : ModOk w w.heap.size m) (hk : k < m.funcs.length) (q1 : isNameB (nthF m.funcs k).name = true) (q2 : ¬ findD m.funcs (nthF m.funcs k).name < (k : Int)) (q3 : ¬ 8 < (nthF m.funcs k).params.length) : Calls Tryd.prog 30 #[m.val, .int .i64 k] w fun e w' => e = .returned (.tuple #[.int .i64 (wholeE m k), .int .i64 (wholeA m k)]) ∧ Below w.heap.size w w' := by
  have n1 : isNameB (nthF m.funcs k).name = true := q1
  have n2 : decide (findD m.funcs (nthF m.funcs k).name < (k : Int)) = false := by simpa using q2
  have n3 : decide ((8 : Int) < ((nthF m.funcs k).params.length : Int)) = false := by simp; omega
  have K1 : Hid (∀ e, emptyD (nthF m.funcs k).params = e → e ≠ -1 → wholeE m k = 40 ∧ wholeA m k = e) := Lib.hid (fun e he h => by
    refine ⟨?_, ?_⟩
    · simp only [wholeE]; rw [if_neg (by rw [q1]; decide), if_neg q2, if_neg q3, he, if_pos h]
    · simp only [wholeA]; rw [if_neg (by rw [q1]; decide), if_neg q2, if_neg q3, he, if_pos h])
  have K2 : Hid (emptyD (nthF m.funcs k).params = -1 → wholeE m k = restErr (nthF m.funcs k) ∧ wholeA m k = 0) := Lib.hid (fun he => by
    refine ⟨?_, ?_⟩
    · simp only [wholeE]; rw [if_neg (by rw [q1]; decide), if_neg q2, if_neg q3, he, if_neg (by simp)]
    · simp only [wholeA]; rw [if_neg (by rw [q1]; decide), if_neg q2, if_neg q3, he, if_neg (by simp)])
  clear q1 q2 q3
  have hflen := wm.flen
  have wfk := nthF_wfM wm hk
  have hnm := wfk.name
  have hpl := wfk.plen
  have hcl := wfk.clen
  obtain ⟨fb, fo, hfa, hfb, z0, z1, z2, z3, z4⟩ := funcs_cells hm.funcs hk
  have HM := Lib.hid hm; clear hm
  have HFA := Lib.hid hfa
  obtain ⟨ta, tc, ths, fa, fc, funcs⟩ := m
  dsimp only at *
  subst hfa
  have OK : ModOk ((w.alloc (.cells #[.slice ta ths.length tc, .slice (some ⟨fb, fo, none⟩) funcs.length fc] 25)).alloc (.cells #[.string (nthF funcs k).name, .slice (nthF funcs k).pa (nthF funcs k).params.length (nthF funcs k).pc, .int .i64 (nthF funcs k).regs, .int .i64 (nthF funcs k).words, .slice (nthF funcs k).ca (nthF funcs k).code.length (nthF funcs k).cc] 45)) _ ⟨ta, tc, ths, some ⟨fb, fo, none⟩, fc, funcs⟩ := (HM.out.below (below_alloc (below_alloc (Below.refl _ _) _) _) (Nat.le_refl _)).more (B' := ((w.alloc (.cells #[.slice ta ths.length tc, .slice (some ⟨fb, fo, none⟩) funcs.length fc] 25)).alloc (.cells #[.string (nthF funcs k).name, .slice (nthF funcs k).pa (nthF funcs k).params.length (nthF funcs k).pc, .int .i64 (nthF funcs k).regs, .int .i64 (nthF funcs k).words, .slice (nthF funcs k).ca (nthF funcs k).code.length (nthF funcs k).cc] 45)).heap.size) (by simp; omega)
  go_enter Tryd.func30, Tryd.ntmps30
  go_wp2_with (first
    | (go_at_call 35; with_reducible refine (isNameP _ _ hnm).mono ?_; rintro e w0 ⟨rfl, rfl⟩)
    | (go_at_call 36; with_reducible refine (findP ⟨ta, tc, ths, some ⟨fb, fo, none⟩, fc, funcs⟩ (nthF funcs k).name _ (by dsimp only; omega) OK).mono ?_; rintro e w1 ⟨rfl, hb1⟩; obtain ⟨hcc1, hff1⟩ := bcell hb1; have hs1 := hb1.size; (try simp at hs1); have l1 : w.heap.size + 1 < w1.heap.size := (by omega); have r1 : w.heap.size < w1.heap.size := (by omega)))
  have hM1 : WMem w ⟨ta, tc, ths, some ⟨fb, fo, none⟩, fc, funcs⟩ (nthF funcs k) w1 := (WMem.start w ⟨ta, tc, ths, some ⟨fb, fo, none⟩, fc, funcs⟩ (nthF funcs k)).go hb1
  clear z0 z1 z2 z3 z4 OK n1 n2 n3 hcc1 hff1 hb1 hs1 l1 r1
  go_loopw [31] (fun i wr => ∃ j : Nat, j ≤ (nthF funcs k).params.length ∧ i = .int .i64 j ∧ emptyD (nthF funcs k).params = badFrom (okSp (nthF funcs k).params) j ((nthF funcs k).params.length - j) ∧ WMem w ⟨ta, tc, ths, some ⟨fb, fo, none⟩, fc, funcs⟩ (nthF funcs k) wr) (fun i _ => (nthF funcs k).params.length - (intOf i).toNat)
  case atStart => exact ⟨0, Nat.zero_le _, rfl, rfl, hM1⟩
  case round =>
    obtain ⟨j, hj, rfl, hE, hM⟩ := hrel
    have HD := Lib.hid hE; clear hE
    have c0 : wr.cell? ⟨w.heap.size + 1, 0, none⟩ = some (.string (nthF funcs k).name) := hM.bf.cell 0
    have c1 : wr.cell? ⟨w.heap.size + 1, 1, none⟩ = some (.slice (nthF funcs k).pa (nthF funcs k).params.length (nthF funcs k).pc) := hM.bf.cell 1
    have c2 : wr.cell? ⟨w.heap.size + 1, 2, none⟩ = some (.int .i64 (nthF funcs k).regs) := hM.bf.cell 2
    have c3 : wr.cell? ⟨w.heap.size + 1, 3, none⟩ = some (.int .i64 (nthF funcs k).words) := hM.bf.cell 3
    have c4 : wr.cell? ⟨w.heap.size + 1, 4, none⟩ = some (.slice (nthF funcs k).ca (nthF funcs k).code.length (nthF funcs k).cc) := hM.bf.cell 4
    have lf := hM.bf.lt
    by_cases hlt : j < (nthF funcs k).params.length
    · obtain ⟨pb, po, hpa, hpb, hpc⟩ := ((HM.out.each k hk).params.below hM.below (Nat.le_refl _)) (by dsimp only; omega)
      have p0 : wr.cell? ⟨pb, po + j * 2, none⟩ = some (.int .i64 (nthS (nthF funcs k).params j).lo) := hpc j hlt 0 (by omega)
      have p1 : wr.cell? ⟨pb, po + j * 2 + 1, none⟩ = some (.int .i64 (nthS (nthF funcs k).params j).hi) := hpc j hlt 1 (by omega)
      have hpa' : (nthF funcs k).pa = some ⟨pb, po, none⟩ := hpa
      have lp : pb < wr.heap.size := Nat.lt_of_lt_of_le hpb hM.below.size
      clear hpc hpa
      rw [hpa'] at c1
      cases hok : okSp (nthF funcs k).params j
      · have u1 : decide ((nthS (nthF funcs k).params j).hi < (nthS (nthF funcs k).params j).lo) = true := by simp [okSp] at hok; simpa using hok
        obtain ⟨E1, E2⟩ := K1.out j (by rw [HD.out, badFrom_yes hlt hok]) (by omega)
        have HE := Lib.hid E1
        have HAt := Lib.hid E2
        clear E1 E2
        rw [hpa']
        go_wp2
        refine ret_of ?_ rfl
        simp [results, Tryd.results30, go_sem, HE.out, HAt.out]
        go_light
        exact below_alloc hM.below _
      · have u1 : decide ((nthS (nthF funcs k).params j).hi < (nthS (nthF funcs k).params j).lo) = false := by simp [okSp] at hok; simpa using hok
        rw [hpa']
        go_wp2
        go_roundw
        case rel => exact ⟨j + 1, by omega, by go_num, by rw [HD.out, badFrom_no hlt hok], hM.alloc _⟩
        case measure => simp only [intOf]; omega
    · obtain rfl : j = (nthF funcs k).params.length := by omega
      obtain ⟨E1, E2⟩ := K2.out (by rw [HD.out, Nat.sub_self]; rfl)
      have HE := Lib.hid E1
      have HAt := Lib.hid E2
      clear E1 E2 hj hlt
      by_cases h0 : (nthF funcs k).regs < 1
      · have u0 : decide ((nthF funcs k).regs < 1) = true := by simp; omega
        have hv : restErr (nthF funcs k) = 95 := by simp only [restErr]; rw [if_pos (by omega)]
        go_wp2
        refine ret_of ?_ rfl
        simp [results, Tryd.results30, go_sem, HE.out, HAt.out, hv]
        go_light
        exact hM.below
      by_cases h1 : 64 < (nthF funcs k).regs
      · have u0 : decide ((nthF funcs k).regs < 1) = false := by simp; omega
        have u1 : decide (64 < (nthF funcs k).regs) = true := by simp; omega
        have hv : restErr (nthF funcs k) = 95 := by simp only [restErr]; rw [if_pos (by omega)]
        go_wp2
        refine ret_of ?_ rfl
        simp [results, Tryd.results30, go_sem, HE.out, HAt.out, hv]
        go_light
        exact hM.below
      by_cases h2 : (nthF funcs k).regs < ((nthF funcs k).params.length : Int)
      · have u0 : decide ((nthF funcs k).regs < 1) = false := by simp; omega
        have u1 : decide (64 < (nthF funcs k).regs) = false := by simp; omega
        have u2 : decide ((nthF funcs k).regs < ((nthF funcs k).params.length : Int)) = true := by simp; omega
        have hv : restErr (nthF funcs k) = 95 := by simp only [restErr]; rw [if_pos (by omega)]
        go_wp2
        refine ret_of ?_ rfl
        simp [results, Tryd.results30, go_sem, HE.out, HAt.out, hv]
        go_light
        exact hM.below
      by_cases h3 : (nthF funcs k).words < 0
      · have u0 : decide ((nthF funcs k).regs < 1) = false := by simp; omega
        have u1 : decide (64 < (nthF funcs k).regs) = false := by simp; omega
        have u2 : decide ((nthF funcs k).regs < ((nthF funcs k).params.length : Int)) = false := by simp; omega
        have u3 : decide ((nthF funcs k).words < 0) = true := by simp; omega
        have hv : restErr (nthF funcs k) = 96 := by simp only [restErr]; rw [if_neg (by omega), if_pos (by omega)]
        go_wp2
        refine ret_of ?_ rfl
        simp [results, Tryd.results30, go_sem, HE.out, HAt.out, hv]
        go_light
        exact hM.below
      by_cases h4 : 4096 < (nthF funcs k).words
      · have u0 : decide ((nthF funcs k).regs < 1) = false := by simp; omega
        have u1 : decide (64 < (nthF funcs k).regs) = false := by simp; omega
        have u2 : decide ((nthF funcs k).regs < ((nthF funcs k).params.length : Int)) = false := by simp; omega
        have u3 : decide ((nthF funcs k).words < 0) = false := by simp; omega
        have u4 : decide (4096 < (nthF funcs k).words) = true := by simp; omega
        have hv : restErr (nthF funcs k) = 96 := by simp only [restErr]; rw [if_neg (by omega), if_pos (by omega)]
        go_wp2
        refine ret_of ?_ rfl
        simp [results, Tryd.results30, go_sem, HE.out, HAt.out, hv]
        go_light
        exact hM.below
      by_cases h5 : (nthF funcs k).code.length = 0
      · have u0 : decide ((nthF funcs k).regs < 1) = false := by simp; omega
        have u1 : decide (64 < (nthF funcs k).regs) = false := by simp; omega
        have u2 : decide ((nthF funcs k).regs < ((nthF funcs k).params.length : Int)) = false := by simp; omega
        have u3 : decide ((nthF funcs k).words < 0) = false := by simp; omega
        have u4 : decide (4096 < (nthF funcs k).words) = false := by simp; omega
        have u6 : (((nthF funcs k).code.length : Int) == 0) = true := by first | (rw [beq_iff_eq]; omega) | (rw [beq_eq_false_iff_ne]; omega)
        have hv : restErr (nthF funcs k) = 97 := by simp only [restErr]; rw [if_neg (by omega), if_neg (by omega), if_pos (by omega)]
        go_wp2
        refine ret_of ?_ rfl
        simp [results, Tryd.results30, go_sem, HE.out, HAt.out, hv]
        go_light
        exact hM.below
      by_cases h6 : (1024 : Int) < ((nthF funcs k).code.length : Int)
      · have u0 : decide ((nthF funcs k).regs < 1) = false := by simp; omega
        have u1 : decide (64 < (nthF funcs k).regs) = false := by simp; omega
        have u2 : decide ((nthF funcs k).regs < ((nthF funcs k).params.length : Int)) = false := by simp; omega
        have u3 : decide ((nthF funcs k).words < 0) = false := by simp; omega
        have u4 : decide (4096 < (nthF funcs k).words) = false := by simp; omega
        have u6 : (((nthF funcs k).code.length : Int) == 0) = false := by first | (rw [beq_iff_eq]; omega) | (rw [beq_eq_false_iff_ne]; omega)
        have u7 : decide ((1024 : Int) < ((nthF funcs k).code.length : Int)) = true := by simp; omega
        have hv : restErr (nthF funcs k) = 97 := by simp only [restErr]; rw [if_neg (by omega), if_neg (by omega), if_pos (by omega)]
        go_wp2
        refine ret_of ?_ rfl
        simp [results, Tryd.results30, go_sem, HE.out, HAt.out, hv]
        go_light
        exact hM.below
      · have u0 : decide ((nthF funcs k).regs < 1) = false := by simp; omega
        have u1 : decide (64 < (nthF funcs k).regs) = false := by simp; omega
        have u2 : decide ((nthF funcs k).regs < ((nthF funcs k).params.length : Int)) = false := by simp; omega
        have u3 : decide ((nthF funcs k).words < 0) = false := by simp; omega
        have u4 : decide (4096 < (nthF funcs k).words) = false := by simp; omega
        have u6 : (((nthF funcs k).code.length : Int) == 0) = false := by first | (rw [beq_iff_eq]; omega) | (rw [beq_eq_false_iff_ne]; omega)
        have u7 : decide ((1024 : Int) < ((nthF funcs k).code.length : Int)) = false := by simp; omega
        have hv : restErr (nthF funcs k) = 0 := by simp only [restErr]; rw [if_neg (by omega), if_neg (by omega), if_neg (by omega)]
        go_wp2
        refine ret_of ?_ rfl
        simp [results, Tryd.results30, go_sem, HE.out, HAt.out, hv]
        go_light
        exact hM.below

theorem wholeP (m : ModD) (k : Nat) (w : World) (wm : m.Wf) (hm : ModOk w w.heap.size m) (hk : k < m.funcs.length) : Calls Tryd.prog 30 #[m.val, .int .i64 k] w fun e w' => e = .returned (.tuple #[.int .i64 (wholeE m k), .int .i64 (wholeA m k)]) ∧ Below w.heap.size w w' := by
  cases n1 : isNameB (nthF m.funcs k).name
  · rw [show wholeE m k = 8 from by simp only [wholeE]; rw [if_pos n1], show wholeA m k = 0 from by simp only [wholeA]; rw [if_pos n1]]
    exact whole1 m k w wm hm hk n1
  by_cases n2 : findD m.funcs (nthF m.funcs k).name < (k : Int)
  · rw [show wholeE m k = 9 from by simp only [wholeE]; rw [if_neg (by rw [n1]; decide), if_pos n2], show wholeA m k = 0 from by simp only [wholeA]; rw [if_neg (by rw [n1]; decide), if_pos n2]]
    exact whole2 m k w wm hm hk n1 (by simpa using n2)
  by_cases n3 : 8 < (nthF m.funcs k).params.length
  · rw [show wholeE m k = 3 from by simp only [wholeE]; rw [if_neg (by rw [n1]; decide), if_neg n2, if_pos n3], show wholeA m k = 8 from by simp only [wholeA]; rw [if_neg (by rw [n1]; decide), if_neg n2, if_pos n3]]
    exact whole3 m k w wm hm hk n1 (by simpa using n2) (by simp; omega)
  · exact whole4 m k w wm hm hk n1 n2 n3
end Go.Proofs.YtjacfeohpofhpaaDoor
