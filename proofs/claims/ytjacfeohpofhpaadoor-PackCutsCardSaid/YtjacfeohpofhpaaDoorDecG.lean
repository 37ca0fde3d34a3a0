/-
  Layer 11 (pack): the walk of the reader's function.
-/
import Derived.Test.YtjacfeohpofhpaaDoorDecK
import Derived.Deep.CutBlock
import Derived.Deep.DeepCutAuto
namespace Go.Proofs.YtjacfeohpofhpaaDoor
open Go.RowKit
set_option linter.unusedSimpArgs false
set_option linter.unusedVariables false
variable {w W W' : World} {T : TypeId} {g gf : Nat} {v P C P2 C2 : Value} {nm : ByteArray} {r q : Int} {ps : List Sp} {cs : List InsD} {s s2 : St} {L : List UInt8} {B : Nat}
theorem countNameF (hB : B ≤ w.heap.size) (hv : RowB w B g v L) (h : F0 w T g v s W) : Calls Tryd.prog 23 #[.pointer (some ⟨g, 0, none⟩), .int .i64 1, .int .i64 16, .int .i64 8] W fun x w' =>
    ∃ u, x = .returned u ∧ F0 w T g v (cntS L s 1 16 8) w' ∧ W.grownBy w' (some g) ∧ u = .int .i64 (cntV L s 1 16) :=
  (countNameP B (Nat.le_trans hB h.grown.size) (hv.grown hB h.grown) h.rd).mono fun _ _ ⟨u, e, h2, h3, h4⟩ => ⟨u, e, h.go h2 h3, h3, h4⟩
theorem takeF (n : Nat) (hn : n ≤ 65536) (hB : B ≤ w.heap.size) (hv : RowB w B g v L) (h : F0 w T g v s W) : Calls Tryd.prog 21 #[.pointer (some ⟨g, 0, none⟩), .int .i64 (n : Int)] W fun x w' =>
    ∃ u, x = .returned u ∧ F0 w T g v (takeS L s n) w' ∧ W.grownBy w' (some g) ∧ RowB w' w'.heap.size g u (readL L s n) :=
  (takeP n B (Nat.le_trans hB h.grown.size) hn (hv.grown hB h.grown) h.rd).mono fun _ _ ⟨u, e, h1, h2, h3⟩ => ⟨u, e, h.go h2 h3, h3, h1⟩
theorem instructionM (B : Nat) (hB : B ≤ w.heap.size) (hv : RowB w B g v L) (h : Rd T w g v s) : Calls Tryd.prog 34 #[.pointer (some ⟨g, 0, none⟩)] w fun x w' =>
    ∃ u, x = .returned u ∧ Rd T w' g v (insS L s) ∧ w.grownBy w' (some g) ∧ u = (insD L s).val := (instructionP B hB hv h).mono (fun _ _ h => ⟨_, h.1, h.2.1, h.2.2, rfl⟩)
set_option maxHeartbeats 2000000 in
set_option maxRecDepth 100000 in
theorem functionP (B : Nat) (hB : B ≤ w.heap.size) (hv : RowB w B g v L) (h : Rd T w g v s) : Calls Tryd.prog 25 #[.pointer (some ⟨g, 0, none⟩)] w fun x w' =>
    ∃ f : FuncD, x = .returned f.val ∧ bare f = bare (funD L s) ∧ OwnF w' w.heap.size f ∧ Rd T w' g v (funS L s) ∧ w.grownBy w' (some g) := by
  have H0 := Lib.hid (F0.start h)
  have HV := Lib.hid hv
  have lg := h.lt
  have hn := cntV_le L s 1 16
  clear hv h
  obtain ⟨iS, hiS, zS0, zS1, zS2⟩ := info_parts infoS
  obtain ⟨iX, hiX, zX0, zX1, zX2⟩ := info_parts infoX
  go_enter Tryd.func25, Tryd.ntmps25
  go_upto_region 1 with fail
  go_cut [3] (fun p W => ∃ gf, p = .pointer (some ⟨gf, 0, none⟩) ∧ FM w T g v gf (fnm L s) (.slice none 0 0) (.slice none 0 0) 0 0 [] [] (fs2 L s) W)
  case first =>
    go_region_held_law (fun _ => True) (exact trivial) (first
      | (have b7' := b7
         fail_if_success (have _t := H8)
         refine step_call2 rfl _ (.tmp 7) (.tmp 11) _ Tryd.func21 (by kernel_rfl) rfl rfl (takeF (cntV L s 1 16) (by omega) hB HV.out (by with_reducible exact H7)) ?_
         rintro u8 w8 ⟨H8, hg8, hu8⟩
         have b8 := b7.grown hg8 (ne_some (Nat.lt_of_lt_of_le lg (Nat.le_succ _)))
         have l8 := b8.lt
         obtain ⟨x0, x1, x2, x3, x4⟩ := ins_cells b8
         have z0 := b8.frozen 0
         have z1 := b8.frozen 1
         have z2 := b8.frozen 2
         have z3 := b8.frozen 3
         have z4 := b8.frozen 4
         have q8 := hu8.conv)
      | (have H7' := H7
         fail_if_success (have _t := H8)
         refine step_call2 rfl _ (.tmp 7) (.tmp 11) _ Tryd.func21 (by kernel_rfl) rfl rfl (takeF (cntV L s 1 16) (by omega) hB HV.out (by with_reducible exact H7)) ?_
         rintro u8 w8 ⟨H8, hg8, hu8⟩
         have q8 := hu8.conv
         have q9 := (hu8.alloc (Nat.le_refl _) (.cells fun0 45)).conv)
      | (have H7' := H7
         fail_if_success (have _t := H8)
         refine step_call2 rfl _ (.tmp 7) (.tmp 11) _ Tryd.func21 (by kernel_rfl) rfl rfl (takeF (cntV L s 1 16) (by omega) hB HV.out (by with_reducible exact H7.alloc _)) ?_
         rintro u8 w8 ⟨H8, hg8, hu8⟩
         have b8 := (Whl.new w7 45 fun0).grown hg8 (ne_some (Nat.lt_of_lt_of_le lg H7.grown.size))
         have l8 := b8.lt
         obtain ⟨x0, x1, x2, x3, x4⟩ := ins_cells b8
         have z0 := b8.frozen 0
         have z1 := b8.frozen 1
         have z2 := b8.frozen 2
         have z3 := b8.frozen 3
         have z4 := b8.frozen 4
         have q8 := hu8.conv)
      | (fail_if_success (have _t := H7)
         refine step_call4 rfl _ (.tmp 10) (.const (.int .i64 1)) (.const (.int .i64 16)) (.const (.int .i64 8)) _ Tryd.func23 (by kernel_rfl) rfl rfl (countNameF hB HV.out (by first | with_reducible exact H0.out.drew)) ?_
         rintro u7 w7 ⟨H7, hg7, rfl⟩)
      | (fail_if_success (have _t := H7)
         refine step_call4 rfl _ (.tmp 10) (.const (.int .i64 1)) (.const (.int .i64 16)) (.const (.int .i64 8)) _ Tryd.func23 (by kernel_rfl) rfl rfl (countNameF hB HV.out (by first | with_reducible exact (H0.out.alloc _).drew | with_reducible exact H0.out.drew.alloc _)) ?_
         rintro u7 w7 ⟨H7, hg7, rfl⟩
         have b7 := (Whl.new1 w (.cells fun0 45) 45 fun0).drew.grown hg7 (ne_some (Nat.lt_of_lt_of_le lg (Nat.le_succ _)))))
    all_goals go_wp2_with fail
    all_goals go_meet
    · exact ⟨_, rfl, H8.boxNew _⟩
    · exact ⟨_, rfl, H8.boxNew _⟩
    · exact ⟨_, rfl, H8.boxOld _ b8 (Nat.lt_of_lt_of_le (F0.size H7) (Nat.le_refl _))⟩
    · exact ⟨_, rfl, H8.boxOld _ b8 (Nat.lt_succ_self _)⟩
  case rest =>
    obtain ⟨gf, rfl, hM⟩ := hcut
    have hn2 := cntV_le L (fs2 L s) 1 8
    have hn3 := cntV_le L (fs6 L s) 2 1024
    have HM := Lib.hid hM
    clear hM H0 hn
    go_upto_block 0 with (go_at_call 23; with_reducible refine (HM.out.of (countParP B (HM.out.size hB) (HM.out.bytes hB HV.out) HM.out.rd)).mono ?_; rintro e w1 ⟨u, rfl, hM1, rfl⟩)
    clear HM
    go_wp2_with fail
    go_loopw [19] (fun i wr => ∃ (k : Nat) (P : Value), k ≤ cntV L (fs2 L s) 1 8 ∧ i = .int .i64 k ∧ FM w T g v gf (fnm L s) P (.slice none 0 0) 0 0 (psS L k (fs3 L s)).2 [] (psS L k (fs3 L s)).1 wr) (fun i _ => cntV L (fs2 L s) 1 8 - (intOf i).toNat)
    case atStart => exact ⟨0, _, Nat.zero_le _, rfl, hM1⟩
    case round =>
      clear hM1
      obtain ⟨k, P, hk, rfl, hM⟩ := hrel
      by_cases hlt : k < cntV L (fs2 L s) 1 8
      · have HM := Lib.hid hM
        clear hM
        go_wp2_with (go_at_call 24; with_reducible refine (HM.out.of (number8P B (HM.out.size hB) (HM.out.bytes hB HV.out) HM.out.rd)).mono ?_; rintro e w2 ⟨u, rfl, hM2, rfl⟩)
        have hsn : psS L (k + 1) (fs3 L s) = (takeS L (takeS L (psS L k (fs3 L s)).1 8) 8, (psS L k (fs3 L s)).2 ++ [⟨i64 (natS L (psS L k (fs3 L s)).1 8), i64 (natS L (takeS L (psS L k (fs3 L s)).1 8) 8)⟩]) := rfl
        have hl2 := psS_len L k (fs3 L s)
        have HSN := Lib.hid hsn
        clear hsn
        generalize i64 (natS L (psS L k (fs3 L s)).1 8) = lo at *
        generalize (psS L k (fs3 L s)).2 = ps at *
        generalize (psS L k (fs3 L s)).1 = t0 at *
        have hpl : ps.length ≤ 8 := by omega
        have HM2 := Lib.hid hM2
        obtain ⟨y0, y1, y2, y3, y4⟩ := hM2.cells
        clear hM2 hl2
        go_region_law (first
          | (fail_if_success (have _t := H7)
             refine step_call2 rfl _ (.tmp 30) (.const (.int .i64 8)) _ Tryd.func24 (by kernel_rfl) rfl rfl (HM2.out.drew.of (number8P B (HM2.out.drew.size hB) (HM2.out.drew.bytes hB HV.out) HM2.out.drew.rd)) ?_
             rintro u7 w7 ⟨H7, rfl⟩
             have l7 := H7.bf.lt
             obtain ⟨x0, x1, x2, x3, x4⟩ := H7.cells)
          | (have H7' := H7
             fail_if_success (have _t := hown)
             refine step_append_lies _ (by rfl) (.tmp 26) (.tmp 33) 42 (by rfl) w.heap.size 50 iS (.agg #[.int .i64 0, .int .i64 0]) 2 16 Tryd.underlying42 hiS zS0 zS1 zS2 rfl (by decide) P ps.length _ (by rfl) (H7.op.alloc _) ⟨w7.heap.size, 0, none⟩ 1 1 [.int .i64 lo, .int .i64 (i64 (natS L (takeS L t0 8) 8))] (by rfl) rfl (World.news_of_block (Whl.new w7 50 #[.int .i64 lo, .int .i64 (i64 (natS L (takeS L t0 8) 8))])) (by intro u hu; simp at hu; rcases hu with rfl | rfl <;> rfl) (by decide) (by unfold maxLen; omega) (by omega) (Nat.le_trans H7.grown.size (by simp)) _ rfl ?_
             intro g2 cap w8 hown hgrow hat hlt8
             have H9 := H7.moreP (x := ⟨lo, i64 (natS L (takeS L t0 8) 8)⟩) hgrow hown
             have bf8 := ((H7.alloc (.cells #[.int .i64 lo, .int .i64 (i64 (natS L (takeS L t0 8) 8))] 50)).growP hgrow).2.2.2.2
             have l8 := bf8.lt
             obtain ⟨x0, x1, x2, x3, x4⟩ := ins_cells bf8
             have z1 := bf8.frozen 1))
        all_goals go_wp2
        all_goals refine ⟨⟨k + 1, _, by omega, by go_num, by rw [HSN.out]; exact H9⟩, by simp only [intOf]; omega⟩
      · obtain rfl : k = cntV L (fs2 L s) 1 8 := by omega
        have hps : psS L (cntV L (fs2 L s) 1 8) (fs3 L s) = fps L s := rfl
        rw [hps] at hM
        clear hps hlt hk
        have HM := Lib.hid hM
        have l0 := hM.bf.lt
        obtain ⟨y0, y1, y2, y3, y4⟩ := hM.cells
        obtain ⟨f1, f2, f3, f4⟩ := hM.fz
        clear hM
        generalize hps : (fps L s).2 = ps at *
        have HPS := Lib.hid hps
        clear hps
        go_upto_block 2 with (first
          | (fail_if_success (have _t := H7)
             go_at_call 24
             with_reducible refine (HM.out.of (number1P B (HM.out.size hB) (HM.out.bytes hB HV.out) HM.out.rd)).mono ?_
             rintro e w7 ⟨u, rfl, H7, rfl⟩
             have l7 := H7.bf.lt
             obtain ⟨x0, x1, x2, x3, x4⟩ := H7.cells
             obtain ⟨e1, e2, e3, e4⟩ := H7.fz
             have H8 : FM w T g v gf (fnm L s) P (.slice none 0 0) (i64 (natS L (fps L s).1 1)) 0 ps [] (fs5 L s) _ := H7.putR (i64 (natS L (fps L s).1 1)))
          | (fail_if_success (have _t := H9)
             go_at_call 24
             with_reducible refine (H8.of (number2P B (H8.size hB) (H8.bytes hB HV.out) H8.rd)).mono ?_
             rintro e w9 ⟨u, rfl, H9, rfl⟩
             have l9 := H9.bf.lt
             obtain ⟨k0, k1, k2, k3, k4⟩ := H9.cells
             obtain ⟨d1, d2, d3, d4⟩ := H9.fz
             have H10 : FM w T g v gf (fnm L s) P (.slice none 0 0) (i64 (natS L (fps L s).1 1)) (i64 (natS L (fs5 L s) 2)) ps [] (fs6 L s) _ := H9.putQ (i64 (natS L (fs5 L s) 2)))
          | (go_at_call 23
             with_reducible refine (H10.of (countCodeP B (H10.size hB) (H10.bytes hB HV.out) H10.rd)).mono ?_
             rintro e w11 ⟨u, rfl, H11, rfl⟩))
        clear H7 H8 H9 H10 l0 l7 l9 x0 x1 x2 x3 x4 y0 y1 y2 y3 y4 f1 f2 f3 f4 e1 e2 e3 e4 k0 k1 k2 k3 k4 d1 d2 d3 d4 HM
        generalize hr : i64 (natS L (fps L s).1 1) = r at *
        generalize hq : i64 (natS L (fs5 L s) 2) = q at *
        have HRQ := Lib.hid (And.intro hr hq)
        clear hr hq
        go_wp2_with fail
        go_loopw [51] (fun i wr => ∃ (k : Nat) (C : Value), k ≤ cntV L (fs6 L s) 2 1024 ∧ i = .int .i64 k ∧ FM w T g v gf (fnm L s) P C r q ps (csS L k (fs7 L s)).2 (csS L k (fs7 L s)).1 wr) (fun i _ => cntV L (fs6 L s) 2 1024 - (intOf i).toNat)
        case atStart => exact ⟨0, _, Nat.zero_le _, rfl, H11⟩
        case round =>
          clear H11
          obtain ⟨k, C, hk, rfl, hM⟩ := hrel
          have HM := Lib.hid hM
          obtain ⟨y0, y1, y2, y3, y4⟩ := hM.cells
          have lf := hM.bf.lt
          by_cases hlt : k < cntV L (fs6 L s) 2 1024
          · have hsn : csS L (k + 1) (fs7 L s) = (insS L (csS L k (fs7 L s)).1, (csS L k (fs7 L s)).2 ++ [insD L (csS L k (fs7 L s)).1]) := rfl
            have hl2 := csS_len L k (fs7 L s)
            have HSN := Lib.hid hsn
            clear hsn hM
            generalize (csS L k (fs7 L s)).2 = cs at *
            generalize (csS L k (fs7 L s)).1 = t0 at *
            generalize hx : insD L t0 = x at *
            have HX := Lib.hid hx
            have hcl : cs.length ≤ 1024 := by omega
            clear hl2 hx
            go_wp2
            go_region_law (first
              | (fail_if_success (have _t := H7)
                 refine step_call1 rfl _ (.tmp 55) _ Tryd.func34 (by kernel_rfl) rfl rfl (HM.out.drew.of (instructionM B (HM.out.drew.size hB) (HM.out.drew.bytes hB HV.out) HM.out.drew.rd)) ?_
                 rintro u7 w7 ⟨H7, e7⟩
                 rw [HX.out] at e7
                 subst e7
                 have l7 := H7.bf.lt
                 obtain ⟨x0, x1, x2, x3, x4⟩ := H7.cells)
              | (have H7' := H7
                 fail_if_success (have _t := hown)
                 refine step_append_lies _ (by rfl) (.tmp 54) (.tmp 57) 43 (by rfl) w.heap.size 52 iX (.agg #[.int .i64 0, .int .i64 0, .int .i64 0, .int .i64 0, .int .i64 0]) 5 40 Tryd.underlying43 hiX zX0 zX1 zX2 rfl (by decide) C cs.length _ (by rfl) (H7.oc.alloc _) ⟨w7.heap.size, 0, none⟩ 1 1 [.int .i64 x.op, .int .i64 x.a, .int .i64 x.b, .int .i64 x.c, .int .i64 x.n] (by rfl) rfl (World.news_of_block (Whl.new w7 52 #[.int .i64 x.op, .int .i64 x.a, .int .i64 x.b, .int .i64 x.c, .int .i64 x.n])) (by intro u hu; simp at hu; rcases hu with rfl | rfl | rfl | rfl | rfl <;> rfl) (by decide) (by unfold maxLen; omega) (by omega) (Nat.le_trans H7.grown.size (by simp)) _ rfl ?_
                 intro g2 cap w8 hown hgrow hat hlt8
                 have H9 := H7.moreC (x := x) hgrow hown
                 have bf8 := ((H7.alloc (.cells #[.int .i64 x.op, .int .i64 x.a, .int .i64 x.b, .int .i64 x.c, .int .i64 x.n] 52)).growC hgrow).2.2.2.2
                 have l8 := bf8.lt
                 obtain ⟨x0, x1, x2, x3, x4⟩ := ins_cells bf8
                 have z4 := bf8.frozen 4))
            all_goals go_wp2
            all_goals refine ⟨⟨k + 1, _, by omega, by go_num, by rw [HSN.out]; exact H9⟩, by simp only [intOf]; omega⟩
          · obtain rfl : k = cntV L (fs6 L s) 2 1024 := by omega
            obtain ⟨b0, b1, b2, b3, b4⟩ := ins_cells hM.br
            have n0 := hM.br.frozen 0
            have n1 := hM.br.frozen 1
            have n2 := hM.br.frozen 2
            have n3 := hM.br.frozen 3
            have n4 := hM.br.frozen 4
            have lr := hM.br.lt
            have hlo := hM.lo
            obtain ⟨⟨A1, c1, rfl⟩, ⟨A2, c2, rfl⟩⟩ := hM.slices
            have HN := Lib.hid hM
            clear hM hlt hk HM
            go_wp2
            refine ret_of ?_ rfl
            obtain ⟨w1, w2, w3, w4⟩ := HN.out.finish (.string (fnm L s)) (.slice A1 ps.length c1) (.int .i64 r) (.int .i64 q) (.slice A2 (csS L (cntV L (fs6 L s) 2 1024) (fs7 L s)).2.length c2)
            refine ⟨(⟨fnm L s, A1, c1, ps, r, q, A2, c2, (csS L (cntV L (fs6 L s) 2 1024) (fs7 L s)).2⟩ : FuncD).val, ?_, ⟨fnm L s, A1, c1, ps, r, q, A2, c2, (csS L (cntV L (fs6 L s) 2 1024) (fs7 L s)).2⟩, rfl, ?_, ⟨w1, w2⟩, w3, w4⟩
            · simp [results, Tryd.results25, go_sem, b0, b1, b2, b3, b4, n0, n1, n2, n3, n4, lr]
            · have e1 := HPS.out
              obtain ⟨e2, e3⟩ := HRQ.out
              subst e1 e2 e3
              rfl
end Go.Proofs.YtjacfeohpofhpaaDoor
