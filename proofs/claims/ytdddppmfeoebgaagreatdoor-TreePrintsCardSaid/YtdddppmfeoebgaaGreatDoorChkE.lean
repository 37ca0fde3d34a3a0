/-
  Layer 2 (tree): the walk of the checker's expr.
-/
import Derived.Test.YtdddppmfeoebgaaGreatDoorOwnA
import Derived.Deep.CutBlock
import Derived.Deep.DeepCutAuto
namespace Go.Proofs.YtdddppmfeoebgaaGreatDoor
open Go.RowKit
set_option linter.unusedSimpArgs false
set_option linter.unusedVariables false
theorem chk_take {l : List ExD} {k lv : Nat} (h : k < l.length) (h0 : chkEs (l.take k) lv = 0) : chkEs (l.take (k + 1)) lv = chkE (nthE l k) lv := by rw [chkEs_snoc h, orI, h0]; rfl
theorem own_deep {x : ExD} {lv : Nat} (h : 32 < lv) : ownE x lv = 20 := by rw [ownE, if_pos h]
theorem own_form {x : ExD} {lv : Nat} (h : ¬ 32 < lv) (f : formE x = false) : ownE x lv = 5 := by rw [ownE, if_neg h, f]; rfl
theorem own_name {x : ExD} {lv : Nat} (h : ¬ 32 < lv) (f : formE x = true) (n : namedD x.kind = true) (m : nameE x.name = false) : ownE x lv = 8 := by rw [ownE, if_neg h, f, n, m]; rfl
theorem own_arg {x : ExD} {lv : Nat} (h : ¬ 32 < lv) (f : formE x = true) (n : (namedD x.kind && !nameE x.name) = false) (m : x.n < 0) : ownE x lv = 1 := by rw [ownE, if_neg h, f, n, if_pos m]; rfl
theorem own_ok {x : ExD} {lv : Nat} (h : ¬ 32 < lv) (f : formE x = true) (n : (namedD x.kind && !nameE x.name) = false) (m : ¬ x.n < 0) : ownE x lv = 0 := by rw [ownE, if_neg h, f, n, if_neg m]; rfl
theorem arD_lo (k : Int) : -1 ≤ arD k := by
  unfold arD
  repeat' split
  all_goals omega
set_option maxRecDepth 100000 in
set_option maxHeartbeats 8000000 in
theorem exprN (N : Nat) : ∀ (x : ExD) (h : Hd) (lv : Nat) (z n0 : Int) (B g : Nat) (w : World), SizeOf.sizeOf x < N → ExWf x → ExsAt w B h.a x.args → B ≤ g → lv ≤ 33 → z = (lv : Int) → Whl w g 69 #[.int .i64 n0, .int .i64 0] →
    Calls Tryz.prog 43 #[.pointer (some ⟨g, 0, none⟩), exG x h, .int .i64 z] w fun e w' => e = .returned (.bool (chkE x lv == 0)) ∧ Whl w' g 69 #[.int .i64 n0, .int .i64 (chkE x lv)] ∧ Turn B g w w' := by
  induction N with
  | zero => intro x h lv z n0 B g w hN; omega
  | succ N ih =>
    intro x h lv z n0 B g w hN wf hk hB hlv hz hg
    subst hz
    have IH := Lib.hid ih
    have HK := Lib.hid hk
    have HW := Lib.hid wf
    clear ih hk wf
    have HC := Lib.hid (chkE_eq x lv)
    have lg := hg.lt
    have hBw : B ≤ w.heap.size := by omega
    have hcap : x.args.length * 56 ≤ 140737488351232 := by obtain ⟨_, _, _, a, _⟩ := HK.out.open_ g; exact a
    have f0 : w.cell? ⟨g, 0, none⟩ = some (.int .i64 n0) := hg.cell 0
    have f1 : w.cell? ⟨g, 1, none⟩ = some (.int .i64 0) := hg.cell 1
    have z1 : w.frozen? ⟨g, 1, none⟩ = false := hg.frozen 1
    go_enter Tryz.func43, Tryz.ntmps43
    go_upto_block 0 with (go_at_call 69; go_must ((with_reducible refine (arityP x.kind _).mono ?_); rintro e w' ⟨rfl, rfl⟩))
    revert HK
    generalize hA : arD x.kind = ar
    generalize hN : namedD x.kind = nd
    generalize hK : knownE x.kind = kd
    intro HK
    have HAR2 := Lib.hid (show -1 ≤ ar from hA ▸ arD_lo x.kind)
    have HAR := Lib.hid hA
    have HND := Lib.hid hN
    have HKD := Lib.hid hK
    clear hA hN hK
    go_cut [] (fun W => Whl W g 69 #[.int .i64 n0, .int .i64 (ownE x lv)] ∧ Whl W w.heap.size 35 (exC x h) ∧ Turn B g w W)
    case first =>
      by_cases hd : 32 < lv
      · have hd' : decide ((32 : Int) < (lv : Int)) = true := by simp; omega
        have HO := Lib.hid (own_deep (x := x) hd)
        go_wp2
        go_meet
        exact ⟨by rw [HO.out]; exact (hg.put 1 _).alloc _, Whl.newAt (by simp) _ _, ((Turn.refl B g w).put hB 1 _).alloc hBw _⟩
      have hd' : decide ((32 : Int) < (lv : Int)) = false := by simp; omega
      have HD := Lib.hid hd
      clear hd
      cases kd
      · have HE := Lib.hid (show formE x = false by simp only [formE, HKD.out, Bool.false_and])
        have HO := Lib.hid (own_form HD.out HE.out)
        go_wp2
        go_meet
        exact ⟨by rw [HO.out]; exact (hg.put 1 _).alloc _, Whl.newAt (by simp) _ _, ((Turn.refl B g w).put hB 1 _).alloc hBw _⟩
      cases am : (ar == -1)
      · have a1 : decide (0 ≤ ar) = true := by have := HAR2.out; simp only [beq_eq_false_iff_ne] at am; simp only [decide_eq_true_eq]; omega
        cases al : ((x.args.length : Int) == ar)
        · have a2 : ((x.args.length : Int) != ar) = true := by rw [bne, al]; rfl
          have HE := Lib.hid (show formE x = false by simp [formE, HKD.out, HAR.out, HND.out, am, al])
          have HO := Lib.hid (own_form HD.out HE.out)
          clear am al
          go_wp2
          go_meet
          exact ⟨by rw [HO.out]; exact (hg.put 1 _).alloc _, Whl.newAt (by simp) _ _, ((Turn.refl B g w).put hB 1 _).alloc hBw _⟩
        · have a2 : ((x.args.length : Int) != ar) = false := by rw [bne, al]; rfl
          cases nz : (x.n == 0)
          · have b1 : (x.n != 0) = true := by rw [bne, nz]; rfl
            cases k1 : (x.kind == 1)
            · have b2 : (x.kind != 1) = true := by rw [bne, k1]; rfl
              have HE := Lib.hid (show formE x = false by simp [formE, HKD.out, HAR.out, HND.out, am, al, nz, k1])
              have HO := Lib.hid (own_form HD.out HE.out)
              clear am al k1
              go_wp2
              go_meet
              exact ⟨by rw [HO.out]; exact (hg.put 1 _).alloc _, Whl.newAt (by simp) _ _, ((Turn.refl B g w).put hB 1 _).alloc hBw _⟩
            · have b2 : (x.kind != 1) = false := by rw [bne, k1]; rfl
              have nm : nd = false := by simp only [beq_iff_eq] at k1; rw [← HND.out, k1]; rfl
              subst nm
              cases se : (x.name.size == 0)
              · have c1 : (x.name.toList == []) = false := nil_list.trans se
                have HE := Lib.hid (show formE x = false by simp [formE, HKD.out, HAR.out, HND.out, am, al, nz, k1, se])
                have HO := Lib.hid (own_form HD.out HE.out)
                clear am al k1 se
                go_wp2
                go_meet
                exact ⟨by rw [HO.out]; exact (hg.put 1 _).alloc _, Whl.newAt (by simp) _ _, ((Turn.refl B g w).put hB 1 _).alloc hBw _⟩
              · have c1 : (x.name.toList == []) = true := nil_list.trans se
                have HE := Lib.hid (show formE x = true by simp [formE, HKD.out, HAR.out, HND.out, am, al, nz, k1, se])
                have hnm : (namedD x.kind && !nameE x.name) = false := by rw [HND.out]; rfl
                cases ng : decide (x.n < 0)
                · have HO := Lib.hid (own_ok HD.out HE.out hnm (of_decide_eq_false ng))
                  clear am al k1 se
                  go_wp2
                  go_meet
                  exact ⟨by rw [HO.out]; exact hg.alloc _, Whl.newAt rfl _ _, (Turn.refl B g w).alloc hBw _⟩
                · have HO := Lib.hid (own_arg HD.out HE.out hnm (of_decide_eq_true ng))
                  clear am al k1 se
                  go_wp2
                  go_meet
                  exact ⟨by rw [HO.out]; exact (hg.put 1 _).alloc _, Whl.newAt (by simp) _ _, ((Turn.refl B g w).put hB 1 _).alloc hBw _⟩
          · have b1 : (x.n != 0) = false := by rw [bne, nz]; rfl
            have ng : decide (x.n < 0) = false := by simp only [beq_iff_eq] at nz; simp only [decide_eq_false_iff_not]; omega
            cases nd
            · cases se : (x.name.size == 0)
              · have c1 : (x.name.toList == []) = false := nil_list.trans se
                have HE := Lib.hid (show formE x = false by simp [formE, HKD.out, HAR.out, HND.out, am, al, nz, se])
                have HO := Lib.hid (own_form HD.out HE.out)
                clear am al se
                go_wp2
                go_meet
                exact ⟨by rw [HO.out]; exact (hg.put 1 _).alloc _, Whl.newAt (by simp) _ _, ((Turn.refl B g w).put hB 1 _).alloc hBw _⟩
              · have c1 : (x.name.toList == []) = true := nil_list.trans se
                have HE := Lib.hid (show formE x = true by simp [formE, HKD.out, HAR.out, HND.out, am, al, nz, se])
                have HO := Lib.hid (own_ok HD.out HE.out (by rw [HND.out]; rfl) (of_decide_eq_false ng))
                clear am al se
                go_wp2
                go_meet
                exact ⟨by rw [HO.out]; exact hg.alloc _, Whl.newAt rfl _ _, (Turn.refl B g w).alloc hBw _⟩
            · cases se : (x.name.size == 0) <;> cases ne : nameE x.name
              all_goals have c1 := nil_list.trans se
              all_goals have c2 : nameB (bytesOf x.name) = _ := ne
              all_goals have HE := Lib.hid (show formE x = true by simp [formE, HKD.out, HAR.out, HND.out, am, al, nz])
              · have HO := Lib.hid (own_name HD.out HE.out HND.out ne)
                clear am al se ne
                go_wp2_with (first | (go_at_call 40; (with_reducible refine (nameP x.name HW.out.name _).mono ?_); rintro e w9 ⟨rfl, rfl⟩))
                go_meet
                exact ⟨by rw [HO.out]; exact (hg.put 1 _).alloc _, Whl.newAt (by simp) _ _, ((Turn.refl B g w).put hB 1 _).alloc hBw _⟩
              · have HO := Lib.hid (own_ok HD.out HE.out (by rw [HND.out, ne]; rfl) (of_decide_eq_false ng))
                clear am al se ne
                go_wp2_with (first | (go_at_call 40; (with_reducible refine (nameP x.name HW.out.name _).mono ?_); rintro e w9 ⟨rfl, rfl⟩))
                go_meet
                exact ⟨by rw [HO.out]; exact hg.alloc _, Whl.newAt rfl _ _, (Turn.refl B g w).alloc hBw _⟩
              · have HO := Lib.hid (own_name HD.out HE.out HND.out ne)
                clear am al se ne
                go_wp2_with (first | (go_at_call 40; (with_reducible refine (nameP x.name HW.out.name _).mono ?_); rintro e w9 ⟨rfl, rfl⟩))
                go_meet
                exact ⟨by rw [HO.out]; exact (hg.put 1 _).alloc _, Whl.newAt (by simp) _ _, ((Turn.refl B g w).put hB 1 _).alloc hBw _⟩
              · have HO := Lib.hid (own_ok HD.out HE.out (by rw [HND.out, ne]; rfl) (of_decide_eq_false ng))
                clear am al se ne
                go_wp2_with (first | (go_at_call 40; (with_reducible refine (nameP x.name HW.out.name _).mono ?_); rintro e w9 ⟨rfl, rfl⟩))
                go_meet
                exact ⟨by rw [HO.out]; exact hg.alloc _, Whl.newAt rfl _ _, (Turn.refl B g w).alloc hBw _⟩
      · have a1 : decide (0 ≤ ar) = false := by simp only [beq_iff_eq] at am; simp only [decide_eq_false_iff_not]; omega
        cases nz : (x.n == 0)
        · have b1 : (x.n != 0) = true := by rw [bne, nz]; rfl
          cases k1 : (x.kind == 1)
          · have b2 : (x.kind != 1) = true := by rw [bne, k1]; rfl
            have HE := Lib.hid (show formE x = false by simp [formE, HKD.out, HAR.out, HND.out, am, nz, k1])
            have HO := Lib.hid (own_form HD.out HE.out)
            clear am k1
            go_wp2
            go_meet
            exact ⟨by rw [HO.out]; exact (hg.put 1 _).alloc _, Whl.newAt (by simp) _ _, ((Turn.refl B g w).put hB 1 _).alloc hBw _⟩
          · have b2 : (x.kind != 1) = false := by rw [bne, k1]; rfl
            have nm : nd = false := by simp only [beq_iff_eq] at k1; rw [← HND.out, k1]; rfl
            subst nm
            cases se : (x.name.size == 0)
            · have c1 : (x.name.toList == []) = false := nil_list.trans se
              have HE := Lib.hid (show formE x = false by simp [formE, HKD.out, HAR.out, HND.out, am, nz, k1, se])
              have HO := Lib.hid (own_form HD.out HE.out)
              clear am k1 se
              go_wp2
              go_meet
              exact ⟨by rw [HO.out]; exact (hg.put 1 _).alloc _, Whl.newAt (by simp) _ _, ((Turn.refl B g w).put hB 1 _).alloc hBw _⟩
            · have c1 : (x.name.toList == []) = true := nil_list.trans se
              have HE := Lib.hid (show formE x = true by simp [formE, HKD.out, HAR.out, HND.out, am, nz, k1, se])
              have hnm : (namedD x.kind && !nameE x.name) = false := by rw [HND.out]; rfl
              cases ng : decide (x.n < 0)
              · have HO := Lib.hid (own_ok HD.out HE.out hnm (of_decide_eq_false ng))
                clear am k1 se
                go_wp2
                go_meet
                exact ⟨by rw [HO.out]; exact hg.alloc _, Whl.newAt rfl _ _, (Turn.refl B g w).alloc hBw _⟩
              · have HO := Lib.hid (own_arg HD.out HE.out hnm (of_decide_eq_true ng))
                clear am k1 se
                go_wp2
                go_meet
                exact ⟨by rw [HO.out]; exact (hg.put 1 _).alloc _, Whl.newAt (by simp) _ _, ((Turn.refl B g w).put hB 1 _).alloc hBw _⟩
        · have b1 : (x.n != 0) = false := by rw [bne, nz]; rfl
          have ng : decide (x.n < 0) = false := by simp only [beq_iff_eq] at nz; simp only [decide_eq_false_iff_not]; omega
          cases nd
          · cases se : (x.name.size == 0)
            · have c1 : (x.name.toList == []) = false := nil_list.trans se
              have HE := Lib.hid (show formE x = false by simp [formE, HKD.out, HAR.out, HND.out, am, nz, se])
              have HO := Lib.hid (own_form HD.out HE.out)
              clear am se
              go_wp2
              go_meet
              exact ⟨by rw [HO.out]; exact (hg.put 1 _).alloc _, Whl.newAt (by simp) _ _, ((Turn.refl B g w).put hB 1 _).alloc hBw _⟩
            · have c1 : (x.name.toList == []) = true := nil_list.trans se
              have HE := Lib.hid (show formE x = true by simp [formE, HKD.out, HAR.out, HND.out, am, nz, se])
              have HO := Lib.hid (own_ok HD.out HE.out (by rw [HND.out]; rfl) (of_decide_eq_false ng))
              clear am se
              go_wp2
              go_meet
              exact ⟨by rw [HO.out]; exact hg.alloc _, Whl.newAt rfl _ _, (Turn.refl B g w).alloc hBw _⟩
          · cases se : (x.name.size == 0) <;> cases ne : nameE x.name
            all_goals have c1 := nil_list.trans se
            all_goals have c2 : nameB (bytesOf x.name) = _ := ne
            all_goals have HE := Lib.hid (show formE x = true by simp [formE, HKD.out, HAR.out, HND.out, am, nz])
            · have HO := Lib.hid (own_name HD.out HE.out HND.out ne)
              clear am se ne
              go_wp2_with (first | (go_at_call 40; (with_reducible refine (nameP x.name HW.out.name _).mono ?_); rintro e w9 ⟨rfl, rfl⟩))
              go_meet
              exact ⟨by rw [HO.out]; exact (hg.put 1 _).alloc _, Whl.newAt (by simp) _ _, ((Turn.refl B g w).put hB 1 _).alloc hBw _⟩
            · have HO := Lib.hid (own_ok HD.out HE.out (by rw [HND.out, ne]; rfl) (of_decide_eq_false ng))
              clear am se ne
              go_wp2_with (first | (go_at_call 40; (with_reducible refine (nameP x.name HW.out.name _).mono ?_); rintro e w9 ⟨rfl, rfl⟩))
              go_meet
              exact ⟨by rw [HO.out]; exact hg.alloc _, Whl.newAt rfl _ _, (Turn.refl B g w).alloc hBw _⟩
            · have HO := Lib.hid (own_name HD.out HE.out HND.out ne)
              clear am se ne
              go_wp2_with (first | (go_at_call 40; (with_reducible refine (nameP x.name HW.out.name _).mono ?_); rintro e w9 ⟨rfl, rfl⟩))
              go_meet
              exact ⟨by rw [HO.out]; exact (hg.put 1 _).alloc _, Whl.newAt (by simp) _ _, ((Turn.refl B g w).put hB 1 _).alloc hBw _⟩
            · have HO := Lib.hid (own_ok HD.out HE.out (by rw [HND.out, ne]; rfl) (of_decide_eq_false ng))
              clear am se ne
              go_wp2_with (first | (go_at_call 40; (with_reducible refine (nameP x.name HW.out.name _).mono ?_); rintro e w9 ⟨rfl, rfl⟩))
              go_meet
              exact ⟨by rw [HO.out]; exact hg.alloc _, Whl.newAt rfl _ _, (Turn.refl B g w).alloc hBw _⟩

    case rest =>
      obtain ⟨hgc, hxc, htc⟩ := hcut
      have lgc := hgc.lt
      have lxc := hxc.lt
      have hke := Lib.hid (HK.out.turn htc)
      have hle : Hid (ownE x lv = 0 → lv ≤ 32) := Lib.hid (fun h => by
        rcases Nat.lt_or_ge 32 lv with q | q
        · rw [own_deep (x := x) q] at h; omega
        · exact q)
      revert hgc hle HC
      generalize ownE x lv = e
      intro HC hgc hle
      have g0 : wc.cell? ⟨g, 0, none⟩ = some (.int .i64 n0) := hgc.cell 0
      have g1 : wc.cell? ⟨g, 1, none⟩ = some (.int .i64 e) := hgc.cell 1
      obtain ⟨d0, d1, d2, d3⟩ := hxc.c4
      cases he : (e == 0)
      · have he' : (e != 0) = true := by rw [bne, he]; rfl
        have HQ : Hid (chkE x lv = e) := Lib.hid (by rw [HC.out, orI, if_pos (by simpa using he)])
        clear f0 f1 z1
        go_wp2
        refine ret_of ?_ rfl
        exact ⟨_, by simp [results, Tryz.results43, go_sem]; rfl, by rw [HQ.out, he], by rw [HQ.out]; exact hgc, htc⟩
      · have he' : (e != 0) = false := by rw [bne, he]; rfl
        obtain rfl : e = 0 := by simpa using he
        have hlv2 := hle.out rfl
        have HQ : Hid (chkE x lv = chkEs x.args (lv + 1)) := Lib.hid (by rw [HC.out, orI, if_neg (by omega)])
        clear f0 f1 z1 he hle HC
        obtain ⟨hd, rows, kids, _, wfs⟩ := HK.out.open_ g
        have HR := Lib.hid rows
        have HS := Lib.hid kids
        have HWF := Lib.hid wfs
        have hsx := args_size x
        clear rows kids wfs
        go_wp2
        go_loopw [87] (fun i W => ∃ k : Nat, k ≤ x.args.length ∧ i = .int .i64 k ∧ Hid (chkEs (x.args.take k) (lv + 1) = 0) ∧ Whl W g 69 #[.int .i64 n0, .int .i64 0] ∧ Turn B g w W) (fun i _ => x.args.length - (intOf i).toNat)
        case atStart => exact ⟨0, Nat.zero_le _, rfl, Lib.hid (by simp [chkEs]), hgc, htc⟩
        case round =>
          obtain ⟨k, hk, rfl, HZ, hgk, hgr⟩ := hrel
          have l1 := hgr.size
          by_cases hlt : k < x.args.length
          · have hsn := Lib.hid (chk_take hlt HZ.out)
            have hsz : SizeOf.sizeOf (nthE x.args k) < SizeOf.sizeOf x.args := getD_size _ hlt
            obtain ⟨b, off, ha, c0, c1, c2, c3⟩ := HR.out wr hgr k hlt
            rw [ha]
            cases hq : (chkE (nthE x.args k) (lv + 1) == 0)
            · go_wp2_with (go_at_call 43; go_must (refine (IH.out (nthE x.args k) (hd k) (lv + 1) _ _ B g _ (by omega) (HWF.out k hlt) (((HS.out k hlt).turn hgr).keep (below_alloc (Below.refl _ _) _) (by omega)) hB (by omega) (by omega) (hgk.alloc _)).mono ?_; rintro e w1 ⟨rfl, hg1, hr1⟩))
              refine ret_of ?_ rfl
              have HQ2 : chkE x lv = chkE (nthE x.args k) (lv + 1) := by
                rw [HQ.out, ← hsn.out, chkEs_stop]; rw [hsn.out]; simpa using hq
              exact ⟨_, by simp [results, Tryz.results43, go_sem]; rfl, by rw [HQ2, hq], by rw [HQ2]; exact hg1, (hgr.alloc hBw _).trans hr1⟩
            · go_wp2_with (go_at_call 43; go_must (refine (IH.out (nthE x.args k) (hd k) (lv + 1) _ _ B g _ (by omega) (HWF.out k hlt) (((HS.out k hlt).turn hgr).keep (below_alloc (Below.refl _ _) _) (by omega)) hB (by omega) (by omega) (hgk.alloc _)).mono ?_; rintro e w1 ⟨rfl, hg1, hr1⟩))
              have hq0 : chkE (nthE x.args k) (lv + 1) = 0 := by simpa using hq
              rw [hq0] at hg1
              go_roundw
              case rel => exact ⟨k + 1, by omega, by go_num, Lib.hid (by rw [hsn.out, hq0]), hg1, (hgr.alloc hBw _).trans hr1⟩
              case measure => simp [intOf]; omega
          · obtain rfl : k = x.args.length := by omega
            have HQ2 : chkE x lv = 0 := by have := HZ.out; rw [List.take_length] at this; rw [HQ.out, this]
            have HQ3 := Lib.hid HQ2
            clear HQ2
            go_wp2
            refine ret_of ?_ rfl
            exact ⟨_, by simp [results, Tryz.results43, go_sem]; rfl, by rw [HQ3.out]; rfl, by rw [HQ3.out]; exact hgk, hgr⟩
theorem chkEP (x : ExD) (h : Hd) (lv : Nat) (z n0 : Int) (B g : Nat) (w : World) (wf : ExWf x) (hk : ExsAt w B h.a x.args) (hB : B ≤ g) (hlv : lv ≤ 33) (hz : z = (lv : Int)) (hg : Whl w g 69 #[.int .i64 n0, .int .i64 0]) :
    Calls Tryz.prog 43 #[.pointer (some ⟨g, 0, none⟩), exG x h, .int .i64 z] w fun e w' => e = .returned (.bool (chkE x lv == 0)) ∧ Whl w' g 69 #[.int .i64 n0, .int .i64 (chkE x lv)] ∧ Turn B g w w' :=
  exprN _ x h lv z n0 B g w (Nat.lt_succ_self _) wf hk hB hlv hz hg
end Go.Proofs.YtdddppmfeoebgaaGreatDoor
