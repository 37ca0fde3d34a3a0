/-
  Layer 2 (tree): the walk of the checker's stmts.
-/
import Derived.Test.YtdddppmfeoebgaaGreatDoorChkE
import Derived.Test.YtdddppmfeoebgaaGreatDoorChkP
import Derived.Test.YtdddppmfeoebgaaGreatDoorOwnS
namespace Go.Proofs.YtdddppmfeoebgaaGreatDoor
open Go.RowKit
set_option linter.unusedSimpArgs false
set_option linter.unusedVariables false
theorem whlMet {W : World} {g n0 : Nat} {p : Met} {v e : Int} (h : Whl W g 69 #[.int .i64 v, .int .i64 e]) (hv : v = ((n0 + p.n : Nat) : Int)) (he : e = p.e) : Whl W g 69 #[.int .i64 ((n0 + p.n : Nat) : Int), .int .i64 p.e] := by subst hv; subst he; exact h
set_option maxRecDepth 100000 in
set_option maxHeartbeats 20000000 in
theorem chkStN (N : Nat) : ∀ (l : List StD) (A : Option Addr) (c lv : Nat) (z y : Int) (n0 B g : Nat) (w : World), SizeOf.sizeOf l < N → StsAt w B A l → B ≤ g → lv ≤ 33 → z = (lv : Int) → n0 + cntSs l ≤ 1000000 → y = (n0 : Int) → Whl w g 69 #[.int .i64 y, .int .i64 0] →
    Calls Tryz.prog 23 #[.pointer (some ⟨g, 0, none⟩), .slice A l.length c, .int .i64 z] w fun e w' => e = .returned (.bool ((chkSs l lv).e == 0)) ∧ Whl w' g 69 #[.int .i64 ((n0 + (chkSs l lv).n : Nat) : Int), .int .i64 (chkSs l lv).e] ∧ Turn B g w w' := by
  induction N with
  | zero => intro l A c lv z y n0 B g w hN; omega
  | succ N ih =>
    intro l A c lv z y n0 B g w hN hA hB hlv hz hcnt hy hg
    subst hz
    subst hy
    have IH := Lib.hid ih
    obtain ⟨hd, hc, rows, kids, len⟩ := hA.open_
    have HR := Lib.hid rows
    have HK := Lib.hid kids
    clear rows kids hA ih
    have hBw : B ≤ w.heap.size := by have := hg.lt; omega
    go_enter Tryz.func23, Tryz.ntmps23
    go_wp2
    go_loopw [15] (fun i W => ∃ k m n : Nat, k ≤ l.length ∧ i = .int .i64 k ∧ Hid (chkSs (l.take k) lv = ⟨m, 0⟩ ∧ n = n0 + m) ∧ Whl W g 69 #[.int .i64 (n : Int), .int .i64 0] ∧ Turn B g w W) (fun i _ => l.length - (intOf i).toNat)
    case atStart => exact ⟨0, 0, n0, Nat.zero_le _, rfl, Lib.hid ⟨by simp [chkSs], rfl⟩, hg, Turn.refl _ _ _⟩
    case round =>
      obtain ⟨k, m, n, hk, rfl, HQ, hgk, hgr⟩ := hrel
      have lg := hg.lt
      have l1 := hgr.size
      obtain ⟨wo, rfl⟩ : ∃ wo : World, wo = wr := ⟨_, rfl⟩
      have f0 : wo.cell? ⟨g, 0, none⟩ = some (.int .i64 (n : Int)) := hgk.cell 0
      have f1 : wo.cell? ⟨g, 1, none⟩ = some (.int .i64 0) := hgk.cell 1
      have z0 : wo.frozen? ⟨g, 0, none⟩ = false := hgk.frozen 0
      have z1 : wo.frozen? ⟨g, 1, none⟩ = false := hgk.frozen 1
      have lk := hgk.lt
      by_cases hlt : k < l.length
      · have hst := Lib.hid (chkSs_step hlt (by rw [HQ.out.1]))
        have hsb := Lib.hid (chkSs_bad hlt (by rw [HQ.out.1]))
        have hin := Lib.hid ((HK.out k hlt).turn hgr)
        have hsz : SizeOf.sizeOf (nthS l k) < SizeOf.sizeOf l := getD_size _ hlt
        have hs1 := body_size (nthS l k)
        have hs2 := els_size (nthS l k)
        have hs3 := cases_size (nthS l k)
        have hm : n + cntS (nthS l k) ≤ 1000000 := by
          have e0 := HQ.out.2
          have e1 := chkSs_le (l.take k) lv
          have e2 := cntSs_snoc hlt
          have e3 := cntSs_cut l (k + 1)
          rw [HQ.out.1] at e1
          simp only at e1
          omega
        have hm2 := cntS_eq (nthS l k)
        obtain ⟨b, off, rfl, c0, c1, c2, c3, c4, c5, c6, c7, c8, c9, c10, c11, c12, c13⟩ := HR.out g wo hgr k hlt
        have hB2 : B ≤ wo.heap.size := by omega
        revert hst hsb hin hsz hs1 hs2 hs3 hm hm2 c0 c1 c2 c3 c4 c5 c6 c7 c8 c9 c10 c11 c12 c13
        rw [HQ.out.1]
        generalize nthS l k = x
        generalize hd k = h
        generalize hc k = q
        intro hst hsb hin hsz hs1 hs2 hs3 hm hm2 c0 c1 c2 c3 c4 c5 c6 c7 c8 c9 c10 c11 c12 c13
        have HM2 := Lib.hid hm2
        clear hm2
        by_cases hdp : 32 < lv
        · have hd' : decide ((32 : Int) < (lv : Int)) = true := by simp; omega
          have HX := Lib.hid (chkS_deep (x := x) hdp)
          go_wp2
          refine ret_of ?_ rfl
          have e2 := hsb.out (by rw [HX.out]; decide)
          exact ⟨_, by simp [results, Tryz.results23, go_sem]; rfl, by rw [e2, HX.out]; rfl, whlMet (((hgk.put 0 _).put 1 _).alloc _) (by rw [e2, HX.out]; have := HQ.out.2; simp only []; omega) (by rw [e2, HX.out]), hgr.trans ((((Turn.refl B g wo).put hB 0 _).put hB 1 _).alloc hB2 _)⟩
        · have hd' : decide ((32 : Int) < (lv : Int)) = false := by simp; omega
          have HD := Lib.hid hdp
          clear hdp
          cases ho : (ownS x == 0)
          · have ho' : (ownS x != 0) = true := by rw [bne, ho]; rfl
            have HX := Lib.hid (chkS_own (x := x) HD.out (by simpa using ho))
            go_wp2_with (first | (go_at_call 41; go_must (((with_reducible refine (countingP x.kind _).mono ?_); rintro e w1 ⟨rfl, hb1⟩; have C1 := ((hgk.put 0 _).alloc _).below' hb1; have X1 := (Whl.newAt (b := wo.heap.size) (by simp) 42 (stC x h)).below' hb1; have T1 := (((Turn.refl B g wo).put hB 0 _).alloc hB2 _).go hB2 hb1; have s1 := X1.lt; have q1 := C1.lt; have hl1 : wo.heap.size + 1 ≤ w1.heap.size := s1; obtain ⟨x0, x1, x2, x3, x4, x5, x6, x7, x8, x9, x10, x11, x12, x13⟩ := X1.cSt))) | (go_at_call 42; go_must (((with_reducible refine (ownP x h q B _ (by simp; omega) (hin.out.turn (T1.alloc hB2 _))).mono ?_); rintro e w2 ⟨rfl, hb2⟩; have C2 := (C1.alloc _).below' hb2; have X2 := (X1.alloc _).below' hb2; have F2 := (Whl.new w1 91 (fieldsC x.kind)).below' hb2; have T2 := (T1.alloc hB2 _).go hB2 hb2; have s2 := X2.lt; have q2 := C2.lt; have r2 := F2.lt; have f2 : w2.cell? ⟨g, 0, none⟩ = _ := C2.cell 0; have f3 : w2.cell? ⟨g, 1, none⟩ = _ := C2.cell 1; have z2 : w2.frozen? ⟨g, 1, none⟩ = false := C2.frozen 1; clear x0 x1 x2 x3 x4 x5 x6 x7 x8 x9 x10 x11 x12 x13; obtain ⟨y0, y1, y2, y3, y4, y5, y6, y7, y8, y9, y10, y11, y12, y13⟩ := X2.cSt; obtain ⟨k0, k1, k2, k3, k4, k5, k6⟩ := F2.c7))))
            refine ret_of ?_ rfl
            have e2 := hsb.out (by rw [HX.out]; simpa using ho)
            exact ⟨_, by simp [results, Tryz.results23, go_sem]; rfl, by rw [e2, HX.out, ho], whlMet (C2.put 1 _) (by rw [e2, HX.out]; have := HQ.out.2; simp only []; omega) (by rw [e2, HX.out]), hgr.trans (T2.put hB 1 _)⟩
          · have ho' : (ownS x != 0) = false := by rw [bne, ho]; rfl
            have HO : Hid (ownS x = 0) := Lib.hid (by simpa using ho)
            go_upto_region 12 with (first | (go_at_call 41; go_must (((with_reducible refine (countingP x.kind _).mono ?_); rintro e w1 ⟨rfl, hb1⟩; have C1 := ((hgk.put 0 _).alloc _).below' hb1; have X1 := (Whl.newAt (b := wo.heap.size) (by simp) 42 (stC x h)).below' hb1; have T1 := (((Turn.refl B g wo).put hB 0 _).alloc hB2 _).go hB2 hb1; have s1 := X1.lt; have q1 := C1.lt; have hl1 : wo.heap.size + 1 ≤ w1.heap.size := s1; obtain ⟨x0, x1, x2, x3, x4, x5, x6, x7, x8, x9, x10, x11, x12, x13⟩ := X1.cSt))) | (go_at_call 42; go_must (((with_reducible refine (ownP x h q B _ (by simp; omega) (hin.out.turn (T1.alloc hB2 _))).mono ?_); rintro e w2 ⟨rfl, hb2⟩; have C2 := (C1.alloc _).below' hb2; have X2 := (X1.alloc _).below' hb2; have F2 := (Whl.new w1 91 (fieldsC x.kind)).below' hb2; have T2 := (T1.alloc hB2 _).go hB2 hb2; have s2 := X2.lt; have q2 := C2.lt; have r2 := F2.lt; have f2 : w2.cell? ⟨g, 0, none⟩ = _ := C2.cell 0; have f3 : w2.cell? ⟨g, 1, none⟩ = _ := C2.cell 1; have z2 : w2.frozen? ⟨g, 1, none⟩ = false := C2.frozen 1; clear x0 x1 x2 x3 x4 x5 x6 x7 x8 x9 x10 x11 x12 x13; obtain ⟨y0, y1, y2, y3, y4, y5, y6, y7, y8, y9, y10, y11, y12, y13⟩ := X2.cSt; obtain ⟨k0, k1, k2, k3, k4, k5, k6⟩ := F2.c7))))
            have hon : (.int .i64 (ownS x) : Value) = .int .i64 0 := by rw [HO.out]
            have C3 := C2.put 1 (.int .i64 (ownS x))
            have X3 := X2.far (p := ⟨g, 1, none⟩) (by simp; omega) (.int .i64 (ownS x))
            have F3 := F2.far (p := ⟨g, 1, none⟩) (by simp; omega) (.int .i64 (ownS x))
            have T3 := T2.put hB 1 (.int .i64 (ownS x))
            rw [hon] at C3 X3 F3 T3 ⊢
            clear hon
            revert C3 X3 F3 T3
            generalize w2.setCell ⟨g, 1, none⟩ (.int .i64 0) = w3
            intro C3 X3 F3 T3
            replace C3 : Whl w3 g 69 #[.int .i64 ((n : Int) + 1), .int .i64 0] := C3
            clear C1 C2 X1 X2 F2 T1 T2 hb1 hb2 f0 f1 f2 f3 z0 z1 z2 c0 c1 c2 c3 c4 c5 c6 c7 c8 c9 c10 c11 c12 c13 y0 y1 y2 y3 y4 y5 y6 y7 y8 y9 y10 y11 y12 y13 k0 k1 k2 k3 k4 k5 k6
            have s3 := X3.lt
            have q3 := C3.lt
            have r3 := F3.lt
            have hlv2 : lv ≤ 32 := by have := HD.out; omega
            have hin3 := Lib.hid (hin.out.turn T3)
            obtain ⟨d0, d1, d2, d3, d4, d5, d6, d7, d8, d9, d10, d11, d12, d13⟩ := X3.cSt
            obtain ⟨j0, j1, j2, j3, j4, j5, j6⟩ := F3.c7
            revert j2 j3
            generalize hva : cA x.kind = va
            generalize hvb : cB x.kind = vb
            intro j2 j3
            have HVA := Lib.hid hva
            have HVB := Lib.hid hvb
            clear hva hvb
            go_cut [81] (fun s W => ∃ M : Met, Hid (midS x lv = M) ∧ s = .bool (M.e != 0) ∧ Whl W g 69 #[.int .i64 (((n + 1 + M.n : Nat) : Int)), .int .i64 M.e] ∧ Whl W wo.heap.size 42 (stC x h) ∧ Turn B g wo W)
            case first =>
              cases va
              · cases vb
                · cases qc : ((chkSs x.body (lv + 1)).e == 0)
                  · have QC := Lib.hid qc
                    have tk3 := Lib.hid trivial
                    go_wp2_with (first | (go_at_call 23; go_must ((refine (IH.out x.body h.body.a h.body.c (lv + 1) _ _ (n + 1) B g _ (by omega) (hin.out.body.turn T3) hB (by omega) (by omega) (by have := HM2.out; omega) (by omega) C3).mono ?_; rintro e w9 ⟨rfl, C9, U9⟩; have T9 := T3.trans U9; have X9 := U9.keep _ _ _ (by omega) (by decide) X3))))
                    go_meet
                    exact ⟨chkSs x.body (lv + 1), Lib.hid (by rw [midS, HVA.out, HVB.out, if_neg (by decide), Met.on_l, if_neg (by decide), Met.on_l]), by rw [bne, QC.out]; rfl, C9, X9, T9⟩
                  · have QC := Lib.hid qc
                    have tk3 := Lib.hid trivial
                    go_wp2_with (first | (go_at_call 23; go_must ((refine (IH.out x.body h.body.a h.body.c (lv + 1) _ _ (n + 1) B g _ (by omega) (hin.out.body.turn T3) hB (by omega) (by omega) (by have := HM2.out; omega) (by omega) C3).mono ?_; rintro e w9 ⟨rfl, C9, U9⟩; have T9 := T3.trans U9; have X9 := U9.keep _ _ _ (by omega) (by decide) X3))))
                    go_meet
                    exact ⟨chkSs x.body (lv + 1), Lib.hid (by rw [midS, HVA.out, HVB.out, if_neg (by decide), Met.on_l, if_neg (by decide), Met.on_l]), by rw [bne, QC.out]; rfl, C9, X9, T9⟩
                · cases qb : (chkE x.b (lv + 1) == 0)
                  · have qb' : chkE x.b (lv + 1) ≠ 0 := by simpa using qb
                    have tk3 := Lib.hid trivial
                    go_wp2_with (first | (go_at_call 43; have v3 := tk3; clear tk3; go_must ((refine (chkEP x.b h.b (lv + 1) _ _ B g _ hin3.out.wf.b (hin.out.eb.turn T3) hB (by omega) (by omega) C3).mono ?_; have tk4 := Lib.hid trivial; rintro e w4 ⟨rfl, C4, U4⟩; have T4 := T3.trans U4; have X4 := U4.keep _ _ _ (by omega) (by decide) X3; have F4 := U4.keep _ _ _ (by omega) (by decide) F3; obtain ⟨e0, e1, e2, e3, e4, e5, e6, e7, e8, e9, e10, e11, e12, e13⟩ := X4.cSt; obtain ⟨ek0, ek1, ek2, ek3, ek4, ek5, ek6⟩ := F4.c7; rw [HVB.out] at ek3))))
                    go_meet
                    exact ⟨⟨0, chkE x.b (lv + 1)⟩, Lib.hid (by rw [midS, HVA.out, HVB.out]; rw [if_neg (by decide), Met.on_ok rfl, if_pos rfl, Met.on_bad qb']; rfl), by rw [bne, qb]; rfl, C4, X4, T4⟩
                  · have qb' : chkE x.b (lv + 1) = 0 := by simpa using qb
                    have QB := Lib.hid qb'
                    cases qc : ((chkSs x.body (lv + 1)).e == 0)
                    · have QC := Lib.hid qc
                      have tk3 := Lib.hid trivial
                      go_wp2_with (first | (go_at_call 43; have v3 := tk3; clear tk3; go_must ((refine (chkEP x.b h.b (lv + 1) _ _ B g _ hin3.out.wf.b (hin.out.eb.turn T3) hB (by omega) (by omega) C3).mono ?_; have tk4 := Lib.hid trivial; rintro e w4 ⟨rfl, C4, U4⟩; have T4 := T3.trans U4; have X4 := U4.keep _ _ _ (by omega) (by decide) X3; have F4 := U4.keep _ _ _ (by omega) (by decide) F3; obtain ⟨e0, e1, e2, e3, e4, e5, e6, e7, e8, e9, e10, e11, e12, e13⟩ := X4.cSt; obtain ⟨ek0, ek1, ek2, ek3, ek4, ek5, ek6⟩ := F4.c7; rw [HVB.out] at ek3; rw [qb'] at C4))) | (go_at_call 23; go_must ((refine (IH.out x.body h.body.a h.body.c (lv + 1) _ _ (n + 1) B g _ (by omega) (hin.out.body.turn T4) hB (by omega) (by omega) (by have := HM2.out; omega) (by omega) C4).mono ?_; rintro e w9 ⟨rfl, C9, U9⟩; have T9 := T4.trans U9; have X9 := U9.keep _ _ _ (by omega) (by decide) X4))))
                      go_meet
                      exact ⟨chkSs x.body (lv + 1), Lib.hid (by rw [midS, HVA.out, HVB.out, if_neg (by decide), Met.on_l, if_pos rfl, QB.out, Met.on_l]), by rw [bne, QC.out]; rfl, C9, X9, T9⟩
                    · have QC := Lib.hid qc
                      have tk3 := Lib.hid trivial
                      go_wp2_with (first | (go_at_call 43; have v3 := tk3; clear tk3; go_must ((refine (chkEP x.b h.b (lv + 1) _ _ B g _ hin3.out.wf.b (hin.out.eb.turn T3) hB (by omega) (by omega) C3).mono ?_; have tk4 := Lib.hid trivial; rintro e w4 ⟨rfl, C4, U4⟩; have T4 := T3.trans U4; have X4 := U4.keep _ _ _ (by omega) (by decide) X3; have F4 := U4.keep _ _ _ (by omega) (by decide) F3; obtain ⟨e0, e1, e2, e3, e4, e5, e6, e7, e8, e9, e10, e11, e12, e13⟩ := X4.cSt; obtain ⟨ek0, ek1, ek2, ek3, ek4, ek5, ek6⟩ := F4.c7; rw [HVB.out] at ek3; rw [qb'] at C4))) | (go_at_call 23; go_must ((refine (IH.out x.body h.body.a h.body.c (lv + 1) _ _ (n + 1) B g _ (by omega) (hin.out.body.turn T4) hB (by omega) (by omega) (by have := HM2.out; omega) (by omega) C4).mono ?_; rintro e w9 ⟨rfl, C9, U9⟩; have T9 := T4.trans U9; have X9 := U9.keep _ _ _ (by omega) (by decide) X4))))
                      go_meet
                      exact ⟨chkSs x.body (lv + 1), Lib.hid (by rw [midS, HVA.out, HVB.out, if_neg (by decide), Met.on_l, if_pos rfl, QB.out, Met.on_l]), by rw [bne, QC.out]; rfl, C9, X9, T9⟩
              · cases qa : (chkE x.a (lv + 1) == 0)
                · have qa' : chkE x.a (lv + 1) ≠ 0 := by simpa using qa
                  have tk3 := Lib.hid trivial
                  go_wp2_with (first | (go_at_call 43; have v3 := tk3; clear tk3; go_must ((refine (chkEP x.a h.a (lv + 1) _ _ B g _ hin3.out.wf.a (hin.out.ea.turn T3) hB (by omega) (by omega) C3).mono ?_; have tk4 := Lib.hid trivial; rintro e w4 ⟨rfl, C4, U4⟩; have T4 := T3.trans U4; have X4 := U4.keep _ _ _ (by omega) (by decide) X3; have F4 := U4.keep _ _ _ (by omega) (by decide) F3; obtain ⟨e0, e1, e2, e3, e4, e5, e6, e7, e8, e9, e10, e11, e12, e13⟩ := X4.cSt; obtain ⟨ek0, ek1, ek2, ek3, ek4, ek5, ek6⟩ := F4.c7; rw [HVB.out] at ek3))))
                  go_meet
                  exact ⟨⟨0, chkE x.a (lv + 1)⟩, Lib.hid (by rw [midS, HVA.out, HVB.out]; rw [if_pos rfl, Met.on_bad qa']), by rw [bne, qa]; rfl, C4, X4, T4⟩
                · have qa' : chkE x.a (lv + 1) = 0 := by simpa using qa
                  have QA := Lib.hid qa'
                  cases vb
                  · cases qc : ((chkSs x.body (lv + 1)).e == 0)
                    · have QC := Lib.hid qc
                      have tk3 := Lib.hid trivial
                      go_wp2_with (first | (go_at_call 43; have v3 := tk3; clear tk3; go_must ((refine (chkEP x.a h.a (lv + 1) _ _ B g _ hin3.out.wf.a (hin.out.ea.turn T3) hB (by omega) (by omega) C3).mono ?_; have tk4 := Lib.hid trivial; rintro e w4 ⟨rfl, C4, U4⟩; have T4 := T3.trans U4; have X4 := U4.keep _ _ _ (by omega) (by decide) X3; have F4 := U4.keep _ _ _ (by omega) (by decide) F3; obtain ⟨e0, e1, e2, e3, e4, e5, e6, e7, e8, e9, e10, e11, e12, e13⟩ := X4.cSt; obtain ⟨ek0, ek1, ek2, ek3, ek4, ek5, ek6⟩ := F4.c7; rw [HVB.out] at ek3; rw [qa'] at C4))) | (go_at_call 23; go_must ((refine (IH.out x.body h.body.a h.body.c (lv + 1) _ _ (n + 1) B g _ (by omega) (hin.out.body.turn T4) hB (by omega) (by omega) (by have := HM2.out; omega) (by omega) C4).mono ?_; rintro e w9 ⟨rfl, C9, U9⟩; have T9 := T4.trans U9; have X9 := U9.keep _ _ _ (by omega) (by decide) X4))))
                      go_meet
                      exact ⟨chkSs x.body (lv + 1), Lib.hid (by rw [midS, HVA.out, HVB.out, if_pos rfl, QA.out, Met.on_l, if_neg (by decide), Met.on_l]), by rw [bne, QC.out]; rfl, C9, X9, T9⟩
                    · have QC := Lib.hid qc
                      have tk3 := Lib.hid trivial
                      go_wp2_with (first | (go_at_call 43; have v3 := tk3; clear tk3; go_must ((refine (chkEP x.a h.a (lv + 1) _ _ B g _ hin3.out.wf.a (hin.out.ea.turn T3) hB (by omega) (by omega) C3).mono ?_; have tk4 := Lib.hid trivial; rintro e w4 ⟨rfl, C4, U4⟩; have T4 := T3.trans U4; have X4 := U4.keep _ _ _ (by omega) (by decide) X3; have F4 := U4.keep _ _ _ (by omega) (by decide) F3; obtain ⟨e0, e1, e2, e3, e4, e5, e6, e7, e8, e9, e10, e11, e12, e13⟩ := X4.cSt; obtain ⟨ek0, ek1, ek2, ek3, ek4, ek5, ek6⟩ := F4.c7; rw [HVB.out] at ek3; rw [qa'] at C4))) | (go_at_call 23; go_must ((refine (IH.out x.body h.body.a h.body.c (lv + 1) _ _ (n + 1) B g _ (by omega) (hin.out.body.turn T4) hB (by omega) (by omega) (by have := HM2.out; omega) (by omega) C4).mono ?_; rintro e w9 ⟨rfl, C9, U9⟩; have T9 := T4.trans U9; have X9 := U9.keep _ _ _ (by omega) (by decide) X4))))
                      go_meet
                      exact ⟨chkSs x.body (lv + 1), Lib.hid (by rw [midS, HVA.out, HVB.out, if_pos rfl, QA.out, Met.on_l, if_neg (by decide), Met.on_l]), by rw [bne, QC.out]; rfl, C9, X9, T9⟩
                  · cases qb : (chkE x.b (lv + 1) == 0)
                    · have qb' : chkE x.b (lv + 1) ≠ 0 := by simpa using qb
                      have tk3 := Lib.hid trivial
                      go_wp2_with (first | (go_at_call 43; have v3 := tk3; clear tk3; go_must ((refine (chkEP x.a h.a (lv + 1) _ _ B g _ hin3.out.wf.a (hin.out.ea.turn T3) hB (by omega) (by omega) C3).mono ?_; have tk4 := Lib.hid trivial; rintro e w4 ⟨rfl, C4, U4⟩; have T4 := T3.trans U4; have X4 := U4.keep _ _ _ (by omega) (by decide) X3; have F4 := U4.keep _ _ _ (by omega) (by decide) F3; obtain ⟨e0, e1, e2, e3, e4, e5, e6, e7, e8, e9, e10, e11, e12, e13⟩ := X4.cSt; obtain ⟨ek0, ek1, ek2, ek3, ek4, ek5, ek6⟩ := F4.c7; rw [HVB.out] at ek3; rw [qa'] at C4))) | (go_at_call 43; have v4 := tk4; clear tk4; go_must ((refine (chkEP x.b h.b (lv + 1) _ _ B g _ hin3.out.wf.b (hin.out.eb.turn T4) hB (by omega) (by omega) C4).mono ?_; have tk5 := Lib.hid trivial; rintro e w5 ⟨rfl, C5, U5⟩; have T5 := T4.trans U5; have X5 := U5.keep _ _ _ (by omega) (by decide) X4; have F5 := U5.keep _ _ _ (by omega) (by decide) F4; obtain ⟨i0, i1, i2, i3, i4, i5, i6, i7, i8, i9, i10, i11, i12, i13⟩ := X5.cSt; obtain ⟨ik0, ik1, ik2, ik3, ik4, ik5, ik6⟩ := F5.c7; rw [HVB.out] at ik3))))
                      go_meet
                      exact ⟨⟨0, chkE x.b (lv + 1)⟩, Lib.hid (by rw [midS, HVA.out, HVB.out]; rw [if_pos rfl, QA.out, Met.on_ok rfl, if_pos rfl, Met.on_bad qb']; rfl), by rw [bne, qb]; rfl, C5, X5, T5⟩
                    · have qb' : chkE x.b (lv + 1) = 0 := by simpa using qb
                      have QB := Lib.hid qb'
                      cases qc : ((chkSs x.body (lv + 1)).e == 0)
                      · have QC := Lib.hid qc
                        have tk3 := Lib.hid trivial
                        go_wp2_with (first | (go_at_call 43; have v3 := tk3; clear tk3; go_must ((refine (chkEP x.a h.a (lv + 1) _ _ B g _ hin3.out.wf.a (hin.out.ea.turn T3) hB (by omega) (by omega) C3).mono ?_; have tk4 := Lib.hid trivial; rintro e w4 ⟨rfl, C4, U4⟩; have T4 := T3.trans U4; have X4 := U4.keep _ _ _ (by omega) (by decide) X3; have F4 := U4.keep _ _ _ (by omega) (by decide) F3; obtain ⟨e0, e1, e2, e3, e4, e5, e6, e7, e8, e9, e10, e11, e12, e13⟩ := X4.cSt; obtain ⟨ek0, ek1, ek2, ek3, ek4, ek5, ek6⟩ := F4.c7; rw [HVB.out] at ek3; rw [qa'] at C4))) | (go_at_call 43; have v4 := tk4; clear tk4; go_must ((refine (chkEP x.b h.b (lv + 1) _ _ B g _ hin3.out.wf.b (hin.out.eb.turn T4) hB (by omega) (by omega) C4).mono ?_; have tk5 := Lib.hid trivial; rintro e w5 ⟨rfl, C5, U5⟩; have T5 := T4.trans U5; have X5 := U5.keep _ _ _ (by omega) (by decide) X4; have F5 := U5.keep _ _ _ (by omega) (by decide) F4; obtain ⟨i0, i1, i2, i3, i4, i5, i6, i7, i8, i9, i10, i11, i12, i13⟩ := X5.cSt; obtain ⟨ik0, ik1, ik2, ik3, ik4, ik5, ik6⟩ := F5.c7; rw [HVB.out] at ik3; rw [qb'] at C5))) | (go_at_call 23; go_must ((refine (IH.out x.body h.body.a h.body.c (lv + 1) _ _ (n + 1) B g _ (by omega) (hin.out.body.turn T5) hB (by omega) (by omega) (by have := HM2.out; omega) (by omega) C5).mono ?_; rintro e w9 ⟨rfl, C9, U9⟩; have T9 := T5.trans U9; have X9 := U9.keep _ _ _ (by omega) (by decide) X5))))
                        go_meet
                        exact ⟨chkSs x.body (lv + 1), Lib.hid (by rw [midS, HVA.out, HVB.out, if_pos rfl, QA.out, Met.on_l, if_pos rfl, QB.out, Met.on_l]), by rw [bne, QC.out]; rfl, C9, X9, T9⟩
                      · have QC := Lib.hid qc
                        have tk3 := Lib.hid trivial
                        go_wp2_with (first | (go_at_call 43; have v3 := tk3; clear tk3; go_must ((refine (chkEP x.a h.a (lv + 1) _ _ B g _ hin3.out.wf.a (hin.out.ea.turn T3) hB (by omega) (by omega) C3).mono ?_; have tk4 := Lib.hid trivial; rintro e w4 ⟨rfl, C4, U4⟩; have T4 := T3.trans U4; have X4 := U4.keep _ _ _ (by omega) (by decide) X3; have F4 := U4.keep _ _ _ (by omega) (by decide) F3; obtain ⟨e0, e1, e2, e3, e4, e5, e6, e7, e8, e9, e10, e11, e12, e13⟩ := X4.cSt; obtain ⟨ek0, ek1, ek2, ek3, ek4, ek5, ek6⟩ := F4.c7; rw [HVB.out] at ek3; rw [qa'] at C4))) | (go_at_call 43; have v4 := tk4; clear tk4; go_must ((refine (chkEP x.b h.b (lv + 1) _ _ B g _ hin3.out.wf.b (hin.out.eb.turn T4) hB (by omega) (by omega) C4).mono ?_; have tk5 := Lib.hid trivial; rintro e w5 ⟨rfl, C5, U5⟩; have T5 := T4.trans U5; have X5 := U5.keep _ _ _ (by omega) (by decide) X4; have F5 := U5.keep _ _ _ (by omega) (by decide) F4; obtain ⟨i0, i1, i2, i3, i4, i5, i6, i7, i8, i9, i10, i11, i12, i13⟩ := X5.cSt; obtain ⟨ik0, ik1, ik2, ik3, ik4, ik5, ik6⟩ := F5.c7; rw [HVB.out] at ik3; rw [qb'] at C5))) | (go_at_call 23; go_must ((refine (IH.out x.body h.body.a h.body.c (lv + 1) _ _ (n + 1) B g _ (by omega) (hin.out.body.turn T5) hB (by omega) (by omega) (by have := HM2.out; omega) (by omega) C5).mono ?_; rintro e w9 ⟨rfl, C9, U9⟩; have T9 := T5.trans U9; have X9 := U9.keep _ _ _ (by omega) (by decide) X5))))
                        go_meet
                        exact ⟨chkSs x.body (lv + 1), Lib.hid (by rw [midS, HVA.out, HVB.out, if_pos rfl, QA.out, Met.on_l, if_pos rfl, QB.out, Met.on_l]), by rw [bne, QC.out]; rfl, C9, X9, T9⟩

            case rest =>
              obtain ⟨M, HM, rfl, hgc, hxc, htc⟩ := hcut
              clear d0 d1 d2 d3 d4 d5 d6 d7 d8 d9 d10 d11 d12 d13 j0 j1 j2 j3 j4 j5 j6 C3 X3 F3 T3 s3 q3 r3 hin3
              have lgc := hgc.lt
              have lxc := hxc.lt
              have hmn : M.n ≤ cntSs x.body := by have := midS_le x lv; rw [HM.out] at this; exact this
              have g0 : wc.cell? ⟨g, 0, none⟩ = some (.int .i64 ((n + 1 + M.n : Nat) : Int)) := hgc.cell 0
              cases hM : (M.e == 0)
              · have hM' : (M.e != 0) = true := by rw [bne, hM]; rfl
                have HX := Lib.hid (chkS_bad (x := x) HD.out HO.out (by rw [HM.out]; simpa using hM))
                go_wp2
                refine ret_of ?_ rfl
                have e2 := hsb.out (by rw [HX.out, HM.out]; simpa using hM)
                exact ⟨_, by simp [results, Tryz.results23, go_sem]; rfl, by rw [e2, HX.out, HM.out, hM], whlMet hgc (by rw [e2, HX.out, HM.out]; have := HQ.out.2; simp only []; omega) (by rw [e2, HX.out, HM.out]), hgr.trans htc⟩
              · have hM' : (M.e != 0) = false := by rw [bne, hM]; rfl
                obtain ⟨mn, me⟩ := M
                obtain rfl : me = 0 := by simpa using hM
                simp only at hgc hmn g0 hM'
                obtain ⟨y0, y1, y2, y3, y4, y5, y6, y7, y8, y9, y10, y11, y12, y13⟩ := hxc.cSt
                go_wp2
                clear y0 y1 y2 y3 y4 y5 y6 y7 y8 y9 y10 y11 y12 y13 g0 hM hM'
                go_loopw [85] (fun i W => ∃ j m4 n4 : Nat, j ≤ x.cases.length ∧ i = .int .i64 j ∧ Hid (chkCs (x.cases.take j) (lv + 1) = ⟨m4, 0⟩ ∧ n4 = n + 1 + mn + m4) ∧ Whl W g 69 #[.int .i64 (n4 : Int), .int .i64 0] ∧ Whl W wo.heap.size 42 (stC x h) ∧ Turn B g wo W) (fun i _ => x.cases.length - (intOf i).toNat)
                case atStart => exact ⟨0, 0, n + 1 + mn, by omega, rfl, Lib.hid ⟨by simp [chkCs], rfl⟩, hgc, hxc, htc⟩
                case round =>
                  obtain ⟨j, m4, n4, hj, rfl, HQ4, hg4, hx4, ht4⟩ := hrel
                  have l4 := ht4.size
                  have lg4 := hg4.lt
                  have lx4 := hx4.lt
                  have hin4 := Lib.hid (hin.out.turn ht4)
                  have hm4 : m4 ≤ cntCs (x.cases.take j) := by have := chkCs_le (x.cases.take j) (lv + 1); rw [HQ4.out.1] at this; exact this
                  by_cases hlt4 : j < x.cases.length
                  · have hsn4 := Lib.hid (cntCs_snoc hlt4)
                    have hcc4 := Lib.hid (cntCs_cut x.cases (j + 1))
                    have hce4 := Lib.hid (cntC_eq (nthC x.cases j))
                    have hsz4 : SizeOf.sizeOf (nthC x.cases j) < SizeOf.sizeOf x.cases := getD_size _ hlt4
                    have hsb4 := cbody_size (nthC x.cases j)
                    have hcl := hin4.out.clen
                    have hcn := Lib.hid (chkCs_snoc (lv := lv + 1) hlt4)
                    obtain ⟨cb, coff, hca, d0, d1⟩ := hin4.out.crow.ca hlt4
                    rw [hca]
                    cases hq : ((chkSs (nthC x.cases j).body (lv + 1)).e == 0)
                    · have HX := Lib.hid (chkS_case (x := x) HD.out HO.out (by rw [HM.out]) hlt4 (by rw [HQ4.out.1]) (by simpa using hq))
                      have hq2 := Lib.hid hq
                      go_wp2_with (go_at_call 23; go_must ((refine (IH.out (nthC x.cases j).body _ _ (lv + 1) _ _ n4 B g _ (by omega) ((hin4.out.cbody j hlt4).keep (below_alloc (Below.refl _ _) _) (by omega)) hB (by omega) (by omega) (by have := HQ4.out.2; have := hsn4.out; have := hcc4.out; have := hce4.out; have := HM2.out; omega) (by omega) (hg4.alloc _)).mono ?_; rintro e w5 ⟨rfl, hg5, ht5⟩)))
                      refine ret_of ?_ rfl
                      have e2 := hsb.out (by rw [HX.out]; simpa using hq2.out)
                      exact ⟨_, by simp [results, Tryz.results23, go_sem]; rfl, by rw [e2, HX.out, hq2.out], whlMet hg5 (by rw [e2, HX.out, HM.out, HQ4.out.1]; have := HQ.out.2; have := HQ4.out.2; simp only []; omega) (by rw [e2, HX.out]), hgr.trans ((ht4.alloc hB2 _).trans ht5)⟩
                    · have hq0 : (chkSs (nthC x.cases j).body (lv + 1)).e = 0 := by simpa using hq
                      have HQ0 := Lib.hid hq0
                      clear hq0
                      go_wp2_with (go_at_call 23; go_must ((refine (IH.out (nthC x.cases j).body _ _ (lv + 1) _ _ n4 B g _ (by omega) ((hin4.out.cbody j hlt4).keep (below_alloc (Below.refl _ _) _) (by omega)) hB (by omega) (by omega) (by have := HQ4.out.2; have := hsn4.out; have := hcc4.out; have := hce4.out; have := HM2.out; omega) (by omega) (hg4.alloc _)).mono ?_; rintro e w5 ⟨rfl, hg5, ht5⟩)))
                      rw [HQ0.out] at hg5
                      go_roundw
                      case rel => exact ⟨j + 1, _, _, by omega, by go_num, Lib.hid ⟨by rw [hcn.out, HQ4.out.1, Met.on_ok rfl, HQ0.out], by have := HQ4.out.2; simp only []; omega⟩, hg5, ht5.keep _ _ _ (by omega) (by decide) (hx4.alloc _), (ht4.alloc hB2 _).trans ht5⟩
                      case measure => simp [intOf]; omega
                  · obtain rfl : j = x.cases.length := by omega
                    obtain ⟨y0, y1, y2, y3, y4, y5, y6, y7, y8, y9, y10, y11, y12, y13⟩ := hx4.cSt
                    have hce : Hid (chkCs x.cases (lv + 1) = ⟨m4, 0⟩) := Lib.hid (by have := HQ4.out.1; rwa [List.take_length] at this)
                    have hm5 : Hid (m4 ≤ cntCs x.cases) := Lib.hid (by have := hm4; rwa [List.take_length] at this)
                    have HX := Lib.hid (chkS_end (x := x) HD.out HO.out (by rw [HM.out]) (by rw [hce.out]))
                    cases hq : ((chkSs x.els (lv + 1)).e == 0)
                    · have hq2 := Lib.hid hq
                      go_wp2_with (go_at_call 23; go_must ((refine (IH.out x.els _ _ (lv + 1) _ _ n4 B g _ (by omega) hin4.out.els hB (by omega) (by omega) (by have := HQ4.out.2; have := hm5.out; have := HM2.out; omega) (by omega) hg4).mono ?_; rintro e w5 ⟨rfl, hg5, ht5⟩)))
                      refine ret_of ?_ rfl
                      have e2 := hsb.out (by rw [HX.out]; simpa using hq2.out)
                      exact ⟨_, by simp [results, Tryz.results23, go_sem]; rfl, by rw [e2, HX.out, hq2.out], whlMet hg5 (by rw [e2, HX.out, HM.out, hce.out]; have := HQ.out.2; have := HQ4.out.2; simp only []; omega) (by rw [e2, HX.out]), hgr.trans (ht4.trans ht5)⟩
                    · have hq0 : (chkSs x.els (lv + 1)).e = 0 := by simpa using hq
                      have HQ0 := Lib.hid hq0
                      clear hq0
                      go_wp2_with (go_at_call 23; go_must ((refine (IH.out x.els _ _ (lv + 1) _ _ n4 B g _ (by omega) hin4.out.els hB (by omega) (by omega) (by have := HQ4.out.2; have := hm5.out; have := HM2.out; omega) (by omega) hg4).mono ?_; rintro e w5 ⟨rfl, hg5, ht5⟩)))
                      rw [HQ0.out] at hg5
                      go_roundw
                      case rel => exact ⟨k + 1, _, _, by omega, by go_num, Lib.hid ⟨by rw [hst.out, HX.out, HM.out, hce.out, HQ0.out], by have := HQ4.out.2; have := HQ.out.2; simp only []; omega⟩, hg5, hgr.trans (ht4.trans ht5)⟩
                      case measure => simp [intOf]; omega
      · obtain rfl : k = l.length := by omega
        obtain ⟨he, hn⟩ := HQ.out
        subst hn
        rw [List.take_length] at he
        have HE := Lib.hid he
        clear he
        go_wp2
        refine ret_of ?_ rfl
        exact ⟨_, by simp [results, Tryz.results23, go_sem]; rfl, by rw [HE.out]; rfl, by rw [HE.out]; exact hgk, hgr⟩
theorem chkStP (l : List StD) (A : Option Addr) (c lv : Nat) (z y : Int) (n0 B g : Nat) (w : World) (h : StsAt w B A l) (hB : B ≤ g) (hlv : lv ≤ 33) (hz : z = (lv : Int)) (hn : n0 + cntSs l ≤ 1000000) (hy : y = (n0 : Int)) (hg : Whl w g 69 #[.int .i64 y, .int .i64 0]) :
    Calls Tryz.prog 23 #[.pointer (some ⟨g, 0, none⟩), .slice A l.length c, .int .i64 z] w fun e w' => e = .returned (.bool ((chkSs l lv).e == 0)) ∧ Whl w' g 69 #[.int .i64 ((n0 + (chkSs l lv).n : Nat) : Int), .int .i64 (chkSs l lv).e] ∧ Turn B g w w' :=
  chkStN _ l A c lv z y n0 B g w (Nat.lt_succ_self _) h hB hlv hz hn hy hg
end Go.Proofs.YtdddppmfeoebgaaGreatDoor
