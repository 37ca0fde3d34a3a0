/-
  Layer 2 (tree): the walk of the reference's expr.
-/
import Derived.Test.YtdddppmfeoebgaaGreatDoorKindR
import Derived.Test.YtdddppmfeoebgaaGreatDoorChkE
import Derived.Test.YtdddppmfeoebgaaGreatDoorScanS
import Derived.Deep.CutBlock
import Derived.Deep.DeepCutAuto
namespace Go.Proofs.YtdddppmfeoebgaaGreatDoor
open Go.RowKit
set_option linter.unusedSimpArgs false
set_option linter.unusedVariables false
theorem orI_zero2 {a b : Int} (h : orI a b = 0) : a = 0 ∧ b = 0 := by
  unfold orI at h
  split at h
  · contradiction
  · rename_i q; exact ⟨by omega, h⟩
theorem orI_stop {e : Int} {l : List ExD} {k lv : Nat} (h : orI e (chkEs (l.take k) lv) ≠ 0) : orI e (chkEs l lv) = orI e (chkEs (l.take k) lv) := by
  unfold orI at h ⊢
  split
  · rfl
  · rename_i q
    rw [if_neg q] at h
    exact chkEs_stop h
set_option maxRecDepth 100000 in
set_option maxHeartbeats 8000000 in
theorem exprRN (N : Nat) : ∀ (x : ExD) (h : Hd) (lv : Nat) (z n0 e0 : Int) (B g : Nat) (w : World), SizeOf.sizeOf x < N → ExWf x → ExsAt w B h.a x.args → B ≤ g → lv ≤ 50 → z = (lv : Int) → Whl w g 85 #[.int .i64 n0, .int .i64 e0] → (e0 = 0 → lv ≤ 33) →
    Calls Tryz.prog 87 #[.pointer (some ⟨g, 0, none⟩), exG x h, .int .i64 z] w fun e w' => e = .returned (.tuple #[]) ∧ Whl w' g 85 #[.int .i64 n0, .int .i64 (orI e0 (chkE x lv))] ∧ Turn B g w w' := by
  induction N with
  | zero => intro x h lv z n0 e0 B g w hN; omega
  | succ N ih =>
    intro x h lv z n0 e0 B g w hN wf hk hB hlv hz hg hl0
    subst hz
    have IH := Lib.hid ih
    have HK := Lib.hid hk
    have HW := Lib.hid wf
    clear ih hk wf
    have HC := Lib.hid (chkE_eq x lv)
    have lg := hg.lt
    have hBw : B ≤ w.heap.size := by omega
    have hcap : x.args.length * 56 ≤ 140737488351232 := by obtain ⟨_, _, _, a, _⟩ := HK.out.open_ g; exact a
    have f0 : w.cell? ⟨g, 0, none⟩ = some (.int .i64 n0) := hg.cell 0
    have f1 : w.cell? ⟨g, 1, none⟩ = some (.int .i64 e0) := hg.cell 1
    have z1 : w.frozen? ⟨g, 1, none⟩ = false := hg.frozen 1
    cases he0 : (e0 == 0)
    · have he1 : (e0 != 0) = true := by rw [bne, he0]; rfl
      have hor : orI e0 (chkE x lv) = e0 := by rw [orI, if_pos (by simpa using he0)]
      have HOR := Lib.hid hor
      clear hor hl0
      go_enter Tryz.func87, Tryz.ntmps87
      go_wp2_with (go_at_call 107; ((with_reducible refine (argsR x.kind _).mono ?_); rintro e w' ⟨rfl, rfl⟩))
      have hgb := hg.alloc (.cells (exC x h) 35)
      have hxb := Whl.new w 35 (exC x h)
      have hTb := (Turn.refl B g w).alloc hBw (.cells (exC x h) 35)
      go_loopw [7] (fun i W => i = .int .i64 0 ∧ Whl W g 85 #[.int .i64 n0, .int .i64 e0] ∧ Whl W w.heap.size 35 (exC x h) ∧ Turn B g w W) (fun _ _ => 0)
      case atStart => exact ⟨rfl, hgb, hxb, hTb⟩
      case round =>
        obtain ⟨rfl, hgk, hxk, hTk⟩ := hrel
        obtain ⟨g0, g1⟩ := hgk.c2
        obtain ⟨d0, d1, d2, d3⟩ := hxk.c4
        have lgk := hgk.lt
        have lxk := hxk.lt
        clear f0 f1 z1
        by_cases hl : x.args.length = 0
        · have hl1 : decide (0 < x.args.length) = false := by simp [hl]
          have HL := Lib.hid hl
          clear hl
          go_wp2
          refine end_of ?_ rfl
          exact ⟨_, by simp [results, Tryz.results87, go_sem], rfl, by rw [HOR.out]; exact hgk, hTk⟩
        · have hl1 : decide (0 < x.args.length) = true := by simp; omega
          go_wp2
          refine end_of ?_ rfl
          exact ⟨_, by simp [results, Tryz.results87, go_sem], rfl, by rw [HOR.out]; exact hgk, hTk⟩
    obtain rfl : e0 = 0 := by simpa using he0
    have hlv2 := hl0 rfl
    rw [orI_z]
    clear hl0 he0
    go_enter Tryz.func87, Tryz.ntmps87
    go_upto_block 0 with (go_at_call 107; ((with_reducible refine (argsR x.kind _).mono ?_); rintro e w' ⟨rfl, rfl⟩))
    revert HK
    generalize hAK : arR x.kind = ak
    rw [arR] at hAK
    revert hAK
    generalize hA : arD x.kind = ar
    generalize hN : namedD x.kind = nd
    generalize hK : knownE x.kind = kd
    intro hAK HK
    have HAK := Lib.hid hAK.symm
    clear hAK
    have HAR2 := Lib.hid (show -1 ≤ ar from hA ▸ arD_lo x.kind)
    have HAR := Lib.hid hA
    have HND := Lib.hid hN
    have HKD := Lib.hid hK
    clear hA hN hK
    go_cut [] (fun W => Whl W g 85 #[.int .i64 n0, .int .i64 (ownE x lv)] ∧ Whl W w.heap.size 35 (exC x h) ∧ Turn B g w W)
    case first =>
      by_cases hd : 32 < lv
      · have hd' : decide ((32 : Int) < (lv : Int)) = true := by simp; omega
        have HO := Lib.hid (own_deep (x := x) hd)
        go_wp2_with (first | (go_at_call 108; ((with_reducible refine (namedR x.kind _).mono ?_); rintro e w' ⟨rfl, rfl⟩; rw [HND.out])))
        go_meet
        exact ⟨by rw [HO.out]; exact (hg.put 1 _).alloc _, Whl.newAt (by simp) _ _, ((Turn.refl B g w).put hB 1 _).alloc hBw _⟩
      have hd' : decide ((32 : Int) < (lv : Int)) = false := by simp; omega
      have HD := Lib.hid hd
      clear hd
      cases kd
      · have HE := Lib.hid (show formE x = false by simp only [formE, HKD.out, Bool.false_and])
        have HO := Lib.hid (own_form HD.out HE.out)
        have ha2 : (ak == -2) = true := by rw [HAK.out]; rfl
        go_wp2_with (first | (go_at_call 108; ((with_reducible refine (namedR x.kind _).mono ?_); rintro e w' ⟨rfl, rfl⟩; rw [HND.out])))
        go_meet
        exact ⟨by rw [HO.out]; exact (hg.put 1 _).alloc _, Whl.newAt (by simp) _ _, ((Turn.refl B g w).put hB 1 _).alloc hBw _⟩
      obtain rfl : ak = ar := HAK.out
      have am2 : (ak == -2) = false := by have := HAR2.out; simp only [beq_eq_false_iff_ne]; omega
      cases am : (ak == -1)
      · have a1 : decide (0 ≤ ak) = true := by have := HAR2.out; simp only [beq_eq_false_iff_ne] at am; simp only [decide_eq_true_eq]; omega
        cases al : ((x.args.length : Int) == ak)
        · have a2 : ((x.args.length : Int) != ak) = true := by rw [bne, al]; rfl
          have HE := Lib.hid (show formE x = false by simp [formE, HKD.out, HAR.out, HND.out, am, al])
          have HO := Lib.hid (own_form HD.out HE.out)
          clear am al
          go_wp2_with (first | (go_at_call 108; ((with_reducible refine (namedR x.kind _).mono ?_); rintro e w' ⟨rfl, rfl⟩; rw [HND.out])))
          go_meet
          exact ⟨by rw [HO.out]; exact (hg.put 1 _).alloc _, Whl.newAt (by simp) _ _, ((Turn.refl B g w).put hB 1 _).alloc hBw _⟩
        · have a2 : ((x.args.length : Int) != ak) = false := by rw [bne, al]; rfl
          cases nz : (x.n == 0)
          · have b1 : (x.n != 0) = true := by rw [bne, nz]; rfl
            cases k1 : (x.kind == 1)
            · have b2 : (x.kind != 1) = true := by rw [bne, k1]; rfl
              have HE := Lib.hid (show formE x = false by simp [formE, HKD.out, HAR.out, HND.out, am, al, nz, k1])
              have HO := Lib.hid (own_form HD.out HE.out)
              clear am al k1
              go_wp2_with (first | (go_at_call 108; ((with_reducible refine (namedR x.kind _).mono ?_); rintro e w' ⟨rfl, rfl⟩; rw [HND.out])))
              go_meet
              exact ⟨by rw [HO.out]; exact (hg.put 1 _).alloc _, Whl.newAt (by simp) _ _, ((Turn.refl B g w).put hB 1 _).alloc hBw _⟩
            · have b2 : (x.kind != 1) = false := by rw [bne, k1]; rfl
              have nm : nd = false := by simp only [beq_iff_eq] at k1; rw [← HND.out, k1]; rfl
              subst nm
              cases se : (x.name.size == 0)
              · have c1 : (x.name.toList == []) = false := nil_list.trans se
                have HE := Lib.hid (show formE x = false by simp [formE, HKD.out, HAR.out, HND.out, am, al, nz, k1, se])
                have HO := Lib.hid (own_form HD.out HE.out)
                clear am al k1 se
                go_wp2_with (first | (go_at_call 108; ((with_reducible refine (namedR x.kind _).mono ?_); rintro e w' ⟨rfl, rfl⟩; rw [HND.out])))
                go_meet
                exact ⟨by rw [HO.out]; exact (hg.put 1 _).alloc _, Whl.newAt (by simp) _ _, ((Turn.refl B g w).put hB 1 _).alloc hBw _⟩
              · have c1 : (x.name.toList == []) = true := nil_list.trans se
                have HE := Lib.hid (show formE x = true by simp [formE, HKD.out, HAR.out, HND.out, am, al, nz, k1, se])
                have hnm : (namedD x.kind && !nameE x.name) = false := by rw [HND.out]; rfl
                cases ng : decide (x.n < 0)
                · have HO := Lib.hid (own_ok HD.out HE.out hnm (of_decide_eq_false ng))
                  clear am al k1 se
                  go_wp2_with (first | (go_at_call 108; ((with_reducible refine (namedR x.kind _).mono ?_); rintro e w' ⟨rfl, rfl⟩; rw [HND.out])))
                  go_meet
                  exact ⟨by rw [HO.out]; exact hg.alloc _, Whl.newAt rfl _ _, (Turn.refl B g w).alloc hBw _⟩
                · have HO := Lib.hid (own_arg HD.out HE.out hnm (of_decide_eq_true ng))
                  clear am al k1 se
                  go_wp2_with (first | (go_at_call 108; ((with_reducible refine (namedR x.kind _).mono ?_); rintro e w' ⟨rfl, rfl⟩; rw [HND.out])))
                  go_meet
                  exact ⟨by rw [HO.out]; exact (hg.put 1 _).alloc _, Whl.newAt (by simp) _ _, ((Turn.refl B g w).put hB 1 _).alloc hBw _⟩
          · have b1 : (x.n != 0) = false := by rw [bne, nz]; rfl
            have ng : decide (x.n < 0) = false := by simp only [beq_iff_eq] at nz; simp only [decide_eq_false_iff_not]; omega
            cases nd
            · cases se : (x.name.size == 0)
              · have c1 : (x.name.toList == []) = false := nil_list.trans se
                have HE := Lib.hid (show formE x = false by simp [formE, HKD.out, HAR.out, HND.out, am, al, nz, se])
                have HO := Lib.hid (own_form HD.out HE.out)
                clear am al se
                go_wp2_with (first | (go_at_call 108; ((with_reducible refine (namedR x.kind _).mono ?_); rintro e w' ⟨rfl, rfl⟩; rw [HND.out])))
                go_meet
                exact ⟨by rw [HO.out]; exact (hg.put 1 _).alloc _, Whl.newAt (by simp) _ _, ((Turn.refl B g w).put hB 1 _).alloc hBw _⟩
              · have c1 : (x.name.toList == []) = true := nil_list.trans se
                have HE := Lib.hid (show formE x = true by simp [formE, HKD.out, HAR.out, HND.out, am, al, nz, se])
                have HO := Lib.hid (own_ok HD.out HE.out (by rw [HND.out]; rfl) (of_decide_eq_false ng))
                clear am al se
                go_wp2_with (first | (go_at_call 108; ((with_reducible refine (namedR x.kind _).mono ?_); rintro e w' ⟨rfl, rfl⟩; rw [HND.out])))
                go_meet
                exact ⟨by rw [HO.out]; exact hg.alloc _, Whl.newAt rfl _ _, (Turn.refl B g w).alloc hBw _⟩
            · cases se : (x.name.size == 0) <;> cases ne : nameE x.name
              all_goals have c1 := nil_list.trans se
              all_goals have c2 : nameB (bytesOf x.name) = _ := ne
              all_goals have HE := Lib.hid (show formE x = true by simp [formE, HKD.out, HAR.out, HND.out, am, al, nz])
              · have HO := Lib.hid (own_name HD.out HE.out HND.out ne)
                clear am al se ne
                go_wp2_with (first | (go_at_call 108; ((with_reducible refine (namedR x.kind _).mono ?_); rintro e w' ⟨rfl, rfl⟩; rw [HND.out])) | (go_at_call 59; ((with_reducible refine (nameR x.name HW.out.name _).mono ?_); rintro e w9 ⟨rfl, hb9⟩; have g9 := ((hg.alloc (.cells (exC x h) 35)).below' hb9); have x9 := ((Whl.new w 35 (exC x h)).below' hb9); have T9 := ((Turn.refl B g w).alloc hBw (.cells (exC x h) 35)).go hBw hb9; have f0 := g9.c2.1; have f1 := g9.c2.2; have z1 := g9.frozen 1; have lx9 := x9.lt; have lg9 := g9.lt; obtain ⟨j0, j1, j2, j3⟩ := x9.c4)))
                go_meet
                exact ⟨by rw [HO.out]; exact g9.put 1 _, x9.far (show w.heap.size ≠ g by omega) _, T9.put hB 1 _⟩
              · have HO := Lib.hid (own_ok HD.out HE.out (by rw [HND.out, ne]; rfl) (of_decide_eq_false ng))
                clear am al se ne
                go_wp2_with (first | (go_at_call 108; ((with_reducible refine (namedR x.kind _).mono ?_); rintro e w' ⟨rfl, rfl⟩; rw [HND.out])) | (go_at_call 59; ((with_reducible refine (nameR x.name HW.out.name _).mono ?_); rintro e w9 ⟨rfl, hb9⟩; have g9 := ((hg.alloc (.cells (exC x h) 35)).below' hb9); have x9 := ((Whl.new w 35 (exC x h)).below' hb9); have T9 := ((Turn.refl B g w).alloc hBw (.cells (exC x h) 35)).go hBw hb9; have f0 := g9.c2.1; have f1 := g9.c2.2; have z1 := g9.frozen 1; have lx9 := x9.lt; have lg9 := g9.lt; obtain ⟨j0, j1, j2, j3⟩ := x9.c4)))
                go_meet
                exact ⟨by rw [HO.out]; exact g9, x9, T9⟩
              · have HO := Lib.hid (own_name HD.out HE.out HND.out ne)
                clear am al se ne
                go_wp2_with (first | (go_at_call 108; ((with_reducible refine (namedR x.kind _).mono ?_); rintro e w' ⟨rfl, rfl⟩; rw [HND.out])) | (go_at_call 59; ((with_reducible refine (nameR x.name HW.out.name _).mono ?_); rintro e w9 ⟨rfl, hb9⟩; have g9 := ((hg.alloc (.cells (exC x h) 35)).below' hb9); have x9 := ((Whl.new w 35 (exC x h)).below' hb9); have T9 := ((Turn.refl B g w).alloc hBw (.cells (exC x h) 35)).go hBw hb9; have f0 := g9.c2.1; have f1 := g9.c2.2; have z1 := g9.frozen 1; have lx9 := x9.lt; have lg9 := g9.lt; obtain ⟨j0, j1, j2, j3⟩ := x9.c4)))
                go_meet
                exact ⟨by rw [HO.out]; exact g9.put 1 _, x9.far (show w.heap.size ≠ g by omega) _, T9.put hB 1 _⟩
              · have HO := Lib.hid (own_ok HD.out HE.out (by rw [HND.out, ne]; rfl) (of_decide_eq_false ng))
                clear am al se ne
                go_wp2_with (first | (go_at_call 108; ((with_reducible refine (namedR x.kind _).mono ?_); rintro e w' ⟨rfl, rfl⟩; rw [HND.out])) | (go_at_call 59; ((with_reducible refine (nameR x.name HW.out.name _).mono ?_); rintro e w9 ⟨rfl, hb9⟩; have g9 := ((hg.alloc (.cells (exC x h) 35)).below' hb9); have x9 := ((Whl.new w 35 (exC x h)).below' hb9); have T9 := ((Turn.refl B g w).alloc hBw (.cells (exC x h) 35)).go hBw hb9; have f0 := g9.c2.1; have f1 := g9.c2.2; have z1 := g9.frozen 1; have lx9 := x9.lt; have lg9 := g9.lt; obtain ⟨j0, j1, j2, j3⟩ := x9.c4)))
                go_meet
                exact ⟨by rw [HO.out]; exact g9, x9, T9⟩
      · have a1 : decide (0 ≤ ak) = false := by simp only [beq_iff_eq] at am; simp only [decide_eq_false_iff_not]; omega
        cases nz : (x.n == 0)
        · have b1 : (x.n != 0) = true := by rw [bne, nz]; rfl
          cases k1 : (x.kind == 1)
          · have b2 : (x.kind != 1) = true := by rw [bne, k1]; rfl
            have HE := Lib.hid (show formE x = false by simp [formE, HKD.out, HAR.out, HND.out, am, nz, k1])
            have HO := Lib.hid (own_form HD.out HE.out)
            clear am k1
            go_wp2_with (first | (go_at_call 108; ((with_reducible refine (namedR x.kind _).mono ?_); rintro e w' ⟨rfl, rfl⟩; rw [HND.out])))
            go_meet
            exact ⟨by rw [HO.out]; exact (hg.put 1 _).alloc _, Whl.newAt (by simp) _ _, ((Turn.refl B g w).put hB 1 _).alloc hBw _⟩
          · have b2 : (x.kind != 1) = false := by rw [bne, k1]; rfl
            have nm : nd = false := by simp only [beq_iff_eq] at k1; rw [← HND.out, k1]; rfl
            subst nm
            cases se : (x.name.size == 0)
            · have c1 : (x.name.toList == []) = false := nil_list.trans se
              have HE := Lib.hid (show formE x = false by simp [formE, HKD.out, HAR.out, HND.out, am, nz, k1, se])
              have HO := Lib.hid (own_form HD.out HE.out)
              clear am k1 se
              go_wp2_with (first | (go_at_call 108; ((with_reducible refine (namedR x.kind _).mono ?_); rintro e w' ⟨rfl, rfl⟩; rw [HND.out])))
              go_meet
              exact ⟨by rw [HO.out]; exact (hg.put 1 _).alloc _, Whl.newAt (by simp) _ _, ((Turn.refl B g w).put hB 1 _).alloc hBw _⟩
            · have c1 : (x.name.toList == []) = true := nil_list.trans se
              have HE := Lib.hid (show formE x = true by simp [formE, HKD.out, HAR.out, HND.out, am, nz, k1, se])
              have hnm : (namedD x.kind && !nameE x.name) = false := by rw [HND.out]; rfl
              cases ng : decide (x.n < 0)
              · have HO := Lib.hid (own_ok HD.out HE.out hnm (of_decide_eq_false ng))
                clear am k1 se
                go_wp2_with (first | (go_at_call 108; ((with_reducible refine (namedR x.kind _).mono ?_); rintro e w' ⟨rfl, rfl⟩; rw [HND.out])))
                go_meet
                exact ⟨by rw [HO.out]; exact hg.alloc _, Whl.newAt rfl _ _, (Turn.refl B g w).alloc hBw _⟩
              · have HO := Lib.hid (own_arg HD.out HE.out hnm (of_decide_eq_true ng))
                clear am k1 se
                go_wp2_with (first | (go_at_call 108; ((with_reducible refine (namedR x.kind _).mono ?_); rintro e w' ⟨rfl, rfl⟩; rw [HND.out])))
                go_meet
                exact ⟨by rw [HO.out]; exact (hg.put 1 _).alloc _, Whl.newAt (by simp) _ _, ((Turn.refl B g w).put hB 1 _).alloc hBw _⟩
        · have b1 : (x.n != 0) = false := by rw [bne, nz]; rfl
          have ng : decide (x.n < 0) = false := by simp only [beq_iff_eq] at nz; simp only [decide_eq_false_iff_not]; omega
          cases nd
          · cases se : (x.name.size == 0)
            · have c1 : (x.name.toList == []) = false := nil_list.trans se
              have HE := Lib.hid (show formE x = false by simp [formE, HKD.out, HAR.out, HND.out, am, nz, se])
              have HO := Lib.hid (own_form HD.out HE.out)
              clear am se
              go_wp2_with (first | (go_at_call 108; ((with_reducible refine (namedR x.kind _).mono ?_); rintro e w' ⟨rfl, rfl⟩; rw [HND.out])))
              go_meet
              exact ⟨by rw [HO.out]; exact (hg.put 1 _).alloc _, Whl.newAt (by simp) _ _, ((Turn.refl B g w).put hB 1 _).alloc hBw _⟩
            · have c1 : (x.name.toList == []) = true := nil_list.trans se
              have HE := Lib.hid (show formE x = true by simp [formE, HKD.out, HAR.out, HND.out, am, nz, se])
              have HO := Lib.hid (own_ok HD.out HE.out (by rw [HND.out]; rfl) (of_decide_eq_false ng))
              clear am se
              go_wp2_with (first | (go_at_call 108; ((with_reducible refine (namedR x.kind _).mono ?_); rintro e w' ⟨rfl, rfl⟩; rw [HND.out])))
              go_meet
              exact ⟨by rw [HO.out]; exact hg.alloc _, Whl.newAt rfl _ _, (Turn.refl B g w).alloc hBw _⟩
          · cases se : (x.name.size == 0) <;> cases ne : nameE x.name
            all_goals have c1 := nil_list.trans se
            all_goals have c2 : nameB (bytesOf x.name) = _ := ne
            all_goals have HE := Lib.hid (show formE x = true by simp [formE, HKD.out, HAR.out, HND.out, am, nz])
            · have HO := Lib.hid (own_name HD.out HE.out HND.out ne)
              clear am se ne
              go_wp2_with (first | (go_at_call 108; ((with_reducible refine (namedR x.kind _).mono ?_); rintro e w' ⟨rfl, rfl⟩; rw [HND.out])) | (go_at_call 59; ((with_reducible refine (nameR x.name HW.out.name _).mono ?_); rintro e w9 ⟨rfl, hb9⟩; have g9 := ((hg.alloc (.cells (exC x h) 35)).below' hb9); have x9 := ((Whl.new w 35 (exC x h)).below' hb9); have T9 := ((Turn.refl B g w).alloc hBw (.cells (exC x h) 35)).go hBw hb9; have f0 := g9.c2.1; have f1 := g9.c2.2; have z1 := g9.frozen 1; have lx9 := x9.lt; have lg9 := g9.lt; obtain ⟨j0, j1, j2, j3⟩ := x9.c4)))
              go_meet
              exact ⟨by rw [HO.out]; exact g9.put 1 _, x9.far (show w.heap.size ≠ g by omega) _, T9.put hB 1 _⟩
            · have HO := Lib.hid (own_ok HD.out HE.out (by rw [HND.out, ne]; rfl) (of_decide_eq_false ng))
              clear am se ne
              go_wp2_with (first | (go_at_call 108; ((with_reducible refine (namedR x.kind _).mono ?_); rintro e w' ⟨rfl, rfl⟩; rw [HND.out])) | (go_at_call 59; ((with_reducible refine (nameR x.name HW.out.name _).mono ?_); rintro e w9 ⟨rfl, hb9⟩; have g9 := ((hg.alloc (.cells (exC x h) 35)).below' hb9); have x9 := ((Whl.new w 35 (exC x h)).below' hb9); have T9 := ((Turn.refl B g w).alloc hBw (.cells (exC x h) 35)).go hBw hb9; have f0 := g9.c2.1; have f1 := g9.c2.2; have z1 := g9.frozen 1; have lx9 := x9.lt; have lg9 := g9.lt; obtain ⟨j0, j1, j2, j3⟩ := x9.c4)))
              go_meet
              exact ⟨by rw [HO.out]; exact g9, x9, T9⟩
            · have HO := Lib.hid (own_name HD.out HE.out HND.out ne)
              clear am se ne
              go_wp2_with (first | (go_at_call 108; ((with_reducible refine (namedR x.kind _).mono ?_); rintro e w' ⟨rfl, rfl⟩; rw [HND.out])) | (go_at_call 59; ((with_reducible refine (nameR x.name HW.out.name _).mono ?_); rintro e w9 ⟨rfl, hb9⟩; have g9 := ((hg.alloc (.cells (exC x h) 35)).below' hb9); have x9 := ((Whl.new w 35 (exC x h)).below' hb9); have T9 := ((Turn.refl B g w).alloc hBw (.cells (exC x h) 35)).go hBw hb9; have f0 := g9.c2.1; have f1 := g9.c2.2; have z1 := g9.frozen 1; have lx9 := x9.lt; have lg9 := g9.lt; obtain ⟨j0, j1, j2, j3⟩ := x9.c4)))
              go_meet
              exact ⟨by rw [HO.out]; exact g9.put 1 _, x9.far (show w.heap.size ≠ g by omega) _, T9.put hB 1 _⟩
            · have HO := Lib.hid (own_ok HD.out HE.out (by rw [HND.out, ne]; rfl) (of_decide_eq_false ng))
              clear am se ne
              go_wp2_with (first | (go_at_call 108; ((with_reducible refine (namedR x.kind _).mono ?_); rintro e w' ⟨rfl, rfl⟩; rw [HND.out])) | (go_at_call 59; ((with_reducible refine (nameR x.name HW.out.name _).mono ?_); rintro e w9 ⟨rfl, hb9⟩; have g9 := ((hg.alloc (.cells (exC x h) 35)).below' hb9); have x9 := ((Whl.new w 35 (exC x h)).below' hb9); have T9 := ((Turn.refl B g w).alloc hBw (.cells (exC x h) 35)).go hBw hb9; have f0 := g9.c2.1; have f1 := g9.c2.2; have z1 := g9.frozen 1; have lx9 := x9.lt; have lg9 := g9.lt; obtain ⟨j0, j1, j2, j3⟩ := x9.c4)))
              go_meet
              exact ⟨by rw [HO.out]; exact g9, x9, T9⟩

    case rest =>
      obtain ⟨hgc, hxc, htc⟩ := hcut
      have hke := Lib.hid (HK.out.turn htc)
      have hle : Hid (ownE x lv = 0 → lv ≤ 32) := Lib.hid (fun h => by
        rcases Nat.lt_or_ge 32 lv with q | q
        · rw [own_deep (x := x) q] at h; omega
        · exact q)
      have HQ0 : Hid (chkE x lv = orI (ownE x lv) (chkEs x.args (lv + 1))) := Lib.hid HC.out
      revert hgc hle HQ0
      generalize ownE x lv = e
      intro hgc hle HQ0
      have hsx := args_size x
      obtain ⟨hd, rows, kids, _, wfs⟩ := HK.out.open_ g
      have HR := Lib.hid rows
      have HS := Lib.hid kids
      have HWF := Lib.hid wfs
      clear rows kids wfs f0 f1 z1 HC
      go_wp2
      go_loopw [7] (fun i W => ∃ (k : Nat) (e1 : Int), k ≤ x.args.length ∧ i = .int .i64 k ∧ Hid (orI e (chkEs (x.args.take k) (lv + 1)) = e1) ∧ Whl W g 85 #[.int .i64 n0, .int .i64 e1] ∧ Whl W w.heap.size 35 (exC x h) ∧ Turn B g w W) (fun i _ => x.args.length - (intOf i).toNat)
      case atStart => exact ⟨0, e, Nat.zero_le _, rfl, Lib.hid (by simp only [List.take_zero, chkEs]; exact orI_r e), hgc, hxc, htc⟩
      case round =>
        obtain ⟨k, e1, hk, rfl, HZ, hgk, hxk, hgr⟩ := hrel
        have l1 := hgr.size
        obtain ⟨g0, g1⟩ := hgk.c2
        obtain ⟨d0, d1, d2, d3⟩ := hxk.c4
        have lgk := hgk.lt
        have lxk := hxk.lt
        by_cases hgo : k < x.args.length ∧ e1 = 0
        · obtain ⟨hlt, rfl⟩ := hgo
          obtain ⟨he, hz0⟩ := orI_zero2 HZ.out
          have hlv3 := hle.out he
          have HE0 := Lib.hid he
          have hsn := Lib.hid (chk_take hlt hz0)
          clear hz0 he
          have hsz : SizeOf.sizeOf (nthE x.args k) < SizeOf.sizeOf x.args := getD_size _ hlt
          obtain ⟨b, off, ha, c0, c1, c2, c3⟩ := HR.out wr hgr k hlt
          have lb : b < wr.heap.size := World.block_lt_of_cell? _ _ c0
          rw [ha] at d3
          clear ha
          go_wp2_with (go_at_call 87; go_must (refine (IH.out (nthE x.args k) (hd k) (lv + 1) _ _ 0 B g _ (by omega) (HWF.out k hlt) (((HS.out k hlt).turn hgr).keep (Below.refl _ _) (by omega)) hB (by omega) (by omega) hgk (by omega)).mono ?_; rintro e w1 ⟨rfl, hg1, hr1⟩))
          go_roundw
          case rel => exact ⟨k + 1, _, by omega, by go_num, Lib.hid (by rw [hsn.out, HE0.out, orI_z]), hg1, hr1.keep _ _ _ (by omega) (by decide) hxk, hgr.trans hr1⟩
          case measure => simp [intOf]; omega
        · have HF : Hid (chkE x lv = e1) := Lib.hid (by
            rw [HQ0.out, ← HZ.out]
            by_cases hlt : k < x.args.length
            · have hne : e1 ≠ 0 := fun h => hgo ⟨hlt, h⟩
              rw [← HZ.out] at hne
              exact orI_stop hne
            · obtain rfl : k = x.args.length := by omega
              rw [List.take_length])
          by_cases hlt : k < x.args.length
          · have hne : (e1 == 0) = false := by simp only [beq_eq_false_iff_ne]; exact fun h => hgo ⟨hlt, h⟩
            go_wp2
            refine end_of ?_ rfl
            exact ⟨_, by simp [results, Tryz.results87, go_sem], rfl, by rw [HF.out]; exact hgk, hgr⟩
          · go_wp2
            refine end_of ?_ rfl
            exact ⟨_, by simp [results, Tryz.results87, go_sem], rfl, by rw [HF.out]; exact hgk, hgr⟩
theorem exprR (x : ExD) (h : Hd) (lv : Nat) (z n0 e0 : Int) (B g : Nat) (w : World) (wf : ExWf x) (hk : ExsAt w B h.a x.args) (hB : B ≤ g) (hlv : lv ≤ 50) (hz : z = (lv : Int)) (hg : Whl w g 85 #[.int .i64 n0, .int .i64 e0]) (hl0 : e0 = 0 → lv ≤ 33) :
    Calls Tryz.prog 87 #[.pointer (some ⟨g, 0, none⟩), exG x h, .int .i64 z] w fun e w' => e = .returned (.tuple #[]) ∧ Whl w' g 85 #[.int .i64 n0, .int .i64 (orI e0 (chkE x lv))] ∧ Turn B g w w' :=
  exprRN _ x h lv z n0 e0 B g w (Nat.lt_succ_self _) wf hk hB hlv hz hg hl0
end Go.Proofs.YtdddppmfeoebgaaGreatDoor
