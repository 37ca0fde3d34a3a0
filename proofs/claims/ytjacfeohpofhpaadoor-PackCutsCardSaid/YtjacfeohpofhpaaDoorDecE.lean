/-
  Layer 11 (pack): the walk of the reference's function.
-/
import Derived.Test.YtjacfeohpofhpaaDoorDecK
namespace Go.Proofs.YtjacfeohpofhpaaDoor
open Go.RowKit
set_option linter.unusedSimpArgs false
set_option linter.unusedVariables false
variable {w W W' : World} {T : TypeId} {g gf k : Nat} {v P C P2 C2 u : Value} {nm : ByteArray} {r q : Int} {ps : List Sp} {cs : List InsD} {s s2 : St} {L l : List UInt8} {B : Nat}
set_option maxHeartbeats 2000000 in
set_option maxRecDepth 100000 in
theorem functionQ (B : Nat) (hB : B ≤ w.heap.size) (hv : RowB w B g v L) (h : Rd T w g v s) : Calls Tryd.prog 29 #[.pointer (some ⟨g, 0, none⟩)] w fun x w' =>
    ∃ f : FuncD, x = .returned f.val ∧ ((funS L s).isOk = true → bare f = bare (funD L s)) ∧ OwnF w' w.heap.size f ∧ Rd T w' g v (funS L s) ∧ w.grownBy w' (some g) := by
  have hM0 := (F0.start h).boxNew ⟨#[]⟩
  rw [World.size_alloc] at hM0
  have H0 := Lib.hid hM0
  have HV := Lib.hid hv
  have hn := cntV_le L s 1 16
  have hn2 := cntV_le L (fs2 L s) 1 8
  have hn3 := cntV_le L (fs6 L s) 2 1024
  clear hv h hM0
  obtain ⟨iB, hiB, zB0, zB1, zB2⟩ := info_parts infoB
  obtain ⟨iS, hiS, zS0, zS1, zS2⟩ := info_parts infoS
  obtain ⟨iX, hiX, zX0, zX1, zX2⟩ := info_parts infoX
  go_enter Tryd.func29, Tryd.ntmps29
  go_upto_block 0 with (go_at_call 28; with_reducible refine (H0.out.of (manyNameQ B (H0.out.size hB) (H0.out.bytes hB HV.out) H0.out.rd)).mono ?_; rintro e w1 ⟨u, rfl, hM1, rfl⟩)
  have ho1 : (w1.alloc (.cells #[] 5)).ownsRow w.heap.size 5 1 (.slice (some ⟨w1.heap.size, 0, none⟩) 0 0) 0 [] := own_made0 _ _ _ hM1.grown.size rfl
  have hM2 := hM1.alloc (.cells #[] 5)
  go_wp2_with fail
  go_loopw [5, 6] (fun u i wr => ∃ k : Nat, k ≤ cntV L s 1 16 ∧ i = .int .i64 k ∧ FM w T g v (w.heap.size + 1) ⟨#[]⟩ (.slice none 0 0) (.slice none 0 0) 0 0 [] [] (oneS L k (fs1 L s)).1 wr ∧ wr.ownsRow w.heap.size 5 1 u k (U8s (oneS L k (fs1 L s)).2)) (fun _ i _ => cntV L s 1 16 - (intOf i).toNat)
  case atStart => exact ⟨0, Nat.zero_le _, rfl, hM2, ho1⟩
  case round =>
    clear hM2 ho1 hM1
    obtain ⟨k, hk, rfl, hM, ho⟩ := hrel
    by_cases hlt : k < cntV L s 1 16
    · have hlen := oneS_len L k (fs1 L s)
      have hb := nat_u8 (natS_lt L (oneS L k (fs1 L s)).1 1)
      have hsn : oneS L (k + 1) (fs1 L s) = (takeS L (oneS L k (fs1 L s)).1 1, (oneS L k (fs1 L s)).2 ++ [UInt8.ofNat (natS L (oneS L k (fs1 L s)).1 1)]) := rfl
      have HSN := Lib.hid hsn
      clear hsn
      generalize UInt8.ofNat (natS L (oneS L k (fs1 L s)).1 1) = b at *
      generalize (oneS L k (fs1 L s)).2 = l at *
      generalize (oneS L k (fs1 L s)).1 = t0 at *
      have HM := Lib.hid hM
      have HO := Lib.hid ho
      clear hM ho
      subst hlen
      go_wp2_with (first
        | (go_at_call 26
           with_reducible refine (HM.out.of' (number1Q B (HM.out.size hB) (HM.out.bytes hB HV.out) HM.out.rd)).mono ?_
           rintro e w3 ⟨u, rfl, hM3, hg3, rfl⟩
           have ho3 := HO.out.kept hg3 (own_ne HO.out hM3.lg))
        | (at_builtin
           refine wpList_append_lies _ rfl _ _ _ rfl w.heap.size 5 iB (.int .u8 0) 1 1 Tryd.underlying27 hiB zB0 zB1 zB2 rfl (by decide) _ _ _ rfl (ho3.alloc _) ⟨w3.heap.size, 0, none⟩ 1 1 [u8V b] rfl rfl (cell_one_new w3 (u8V b) 5) (by simp [Value.oneCell']) (by decide) (by unfold maxLen; omega) (by omega) (Nat.le_trans hM3.grown.size (by simp)) _ rfl ?_
           intro g2 cap w4 hown hgrow hat hlt4
           have hM4 := (hM3.alloc (.cells #[u8V b] 5)).other (ho3.alloc _) (by decide) (by decide) (by decide) hgrow))
      refine ⟨⟨l.length + 1, by omega, by go_num, by rw [HSN.out]; exact hM4, by rw [HSN.out, U8s_app]; exact hown⟩, by simp only [intOf]; omega⟩
    · obtain rfl : k = cntV L s 1 16 := by omega
      have hlen := oneS_len L (cntV L s 1 16) (fs1 L s)
      have hst : (oneS L (cntV L s 1 16) (fs1 L s)).1 = fs2 L s := oneS_st (cntS_le _ _ _ _ _) _
      have hnm : nmQ L s = ⟨(oneS L (cntV L s 1 16) (fs1 L s)).2.toArray⟩ := rfl
      rw [hst] at hM
      generalize (oneS L (cntV L s 1 16) (fs1 L s)).2 = l at *
      rw [← hlen] at ho
      have hconv := (rowB_of_own (g := g) ho hM.lg (by omega)).conv
      rw [← hnm] at hconv
      generalize hnq : nmQ L s = nm at *
      have HNQ := Lib.hid hnq
      clear hnq
      have HNM := Lib.hid hnm
      have l0 := hM.bf.lt
      obtain ⟨y0, y1, y2, y3, y4⟩ := hM.cells
      have f0 := hM.bf.frozen 0
      have hM5 := hM.putN nm
      have HM := Lib.hid hM5
      clear hM ho hst hlen hnm hM5 hlt hk
      go_upto_block 2 with (go_at_call 28; with_reducible refine (HM.out.of (manyParQ B (HM.out.size hB) (HM.out.bytes hB HV.out) HM.out.rd)).mono ?_; rintro e w6 ⟨u, rfl, hM6, rfl⟩)
      clear HM l0 y0 y1 y2 y3 y4 f0 hconv
      go_wp2_with fail
      go_loopw [7] (fun i wr => ∃ (k : Nat) (P : Value), k ≤ cntV L (fs2 L s) 1 8 ∧ i = .int .i64 k ∧ FM w T g v (w.heap.size + 1) nm P (.slice none 0 0) 0 0 (psS L k (fs3 L s)).2 [] (psS L k (fs3 L s)).1 wr) (fun i _ => cntV L (fs2 L s) 1 8 - (intOf i).toNat)
      case atStart => exact ⟨0, _, Nat.zero_le _, rfl, hM6⟩
      case round =>
        clear hM6
        obtain ⟨k, P, hk, rfl, hM⟩ := hrel
        have HM := Lib.hid hM
        have l0 := hM.bf.lt
        obtain ⟨y0, y1, y2, y3, y4⟩ := hM.cells
        obtain ⟨f1, f2, f3, f4⟩ := hM.fz
        by_cases hlt : k < cntV L (fs2 L s) 1 8
        · have hsn : psS L (k + 1) (fs3 L s) = (takeS L (takeS L (psS L k (fs3 L s)).1 8) 8, (psS L k (fs3 L s)).2 ++ [⟨i64 (natS L (psS L k (fs3 L s)).1 8), i64 (natS L (takeS L (psS L k (fs3 L s)).1 8) 8)⟩]) := rfl
          have hl2 := psS_len L k (fs3 L s)
          have HSN := Lib.hid hsn
          clear hsn hM l0 y0 y1 y2 y3 y4 f1 f2 f3 f4
          generalize (psS L k (fs3 L s)).2 = ps at *
          generalize (psS L k (fs3 L s)).1 = t0 at *
          have hlo : IntKind.i64.wrap ((natS L t0 8 : Nat) : Int) = i64 (natS L t0 8) := rfl
          have hhi : IntKind.i64.wrap ((natS L (takeS L t0 8) 8 : Nat) : Int) = i64 (natS L (takeS L t0 8) 8) := rfl
          generalize i64 (natS L t0 8) = lo at *
          generalize i64 (natS L (takeS L t0 8) 8) = hi at *
          have hpl : ps.length ≤ 8 := by omega
          clear hl2
          go_wp2_with (go_at_call 26; with_reducible refine (HM.out.of (number8Q B (HM.out.size hB) (HM.out.bytes hB HV.out) HM.out.rd)).mono ?_; rintro e w2 ⟨u, rfl, hM2, rfl⟩)
          have HM2 := Lib.hid hM2
          obtain ⟨y0, y1, y2, y3, y4⟩ := hM2.cells
          clear hM2
          go_region_law (first
            | (fail_if_success (have _t := H7)
               refine step_call2 rfl _ (.tmp 42) (.const (.int .i64 8)) _ Tryd.func26 (by kernel_rfl) rfl rfl (HM2.out.drew.of (number8Q B (HM2.out.drew.size hB) (HM2.out.drew.bytes hB HV.out) HM2.out.drew.rd)) ?_
               rintro u7 w7 ⟨H7, rfl⟩
               have l7 := H7.bf.lt
               obtain ⟨x0, x1, x2, x3, x4⟩ := H7.cells)
            | (have H7' := H7
               fail_if_success (have _t := hown)
               refine step_append_lies _ (by rfl) (.tmp 40) (.tmp 46) 42 (by rfl) w.heap.size 50 iS (.agg #[.int .i64 0, .int .i64 0]) 2 16 Tryd.underlying42 hiS zS0 zS1 zS2 rfl (by decide) P ps.length _ (by rfl) (H7.op.alloc _) ⟨w7.heap.size, 0, none⟩ 1 1 [.int .i64 lo, .int .i64 hi] (by rfl) rfl (World.news_of_block (Whl.new w7 50 #[.int .i64 lo, .int .i64 hi])) (by intro u hu; simp at hu; rcases hu with rfl | rfl <;> rfl) (by decide) (by unfold maxLen; omega) (by omega) (Nat.le_trans H7.grown.size (by simp)) _ rfl ?_
               intro g2 cap w8 hown hgrow hat hlt8
               have H9 := H7.moreP (x := ⟨lo, hi⟩) hgrow hown
               have bf8 := ((H7.alloc (.cells #[.int .i64 lo, .int .i64 hi] 50)).growP hgrow).2.2.2.2
               have l8 := bf8.lt
               obtain ⟨x0, x1, x2, x3, x4⟩ := ins_cells bf8
               have z1 := bf8.frozen 1))
          all_goals go_wp2
          all_goals refine ⟨⟨k + 1, _, by omega, by go_num, by rw [HSN.out]; exact H9⟩, by simp only [intOf]; omega⟩
        · obtain rfl : k = cntV L (fs2 L s) 1 8 := by omega
          have hps : psS L (cntV L (fs2 L s) 1 8) (fs3 L s) = fps L s := rfl
          rw [hps] at HM
          clear hps hlt hk hM
          generalize hps : (fps L s).2 = ps at *
          have HPS := Lib.hid hps
          clear hps
          have hr0 : IntKind.i64.wrap ((natS L (fps L s).1 1 : Nat) : Int) = i64 (natS L (fps L s).1 1) := rfl
          have hq0 : IntKind.i64.wrap ((natS L (fs5 L s) 2 : Nat) : Int) = i64 (natS L (fs5 L s) 2) := rfl
          generalize hr : i64 (natS L (fps L s).1 1) = r at *
          generalize hq : i64 (natS L (fs5 L s) 2) = q at *
          have HRQ := Lib.hid (And.intro hr hq)
          clear hr hq
          go_upto_block 4 with (first
            | (fail_if_success (have _t := H7)
               go_at_call 26
               with_reducible refine (HM.out.of (number1Q B (HM.out.size hB) (HM.out.bytes hB HV.out) HM.out.rd)).mono ?_
               rintro e w7 ⟨u, rfl, H7, rfl⟩
               have l7 := H7.bf.lt
               obtain ⟨x0, x1, x2, x3, x4⟩ := H7.cells
               obtain ⟨e1, e2, e3, e4⟩ := H7.fz
               have H8 : FM w T g v (w.heap.size + 1) nm P (.slice none 0 0) r 0 ps [] (fs5 L s) _ := H7.putR r)
            | (fail_if_success (have _t := H9)
               go_at_call 26
               with_reducible refine (H8.of (number2Q B (H8.size hB) (H8.bytes hB HV.out) H8.rd)).mono ?_
               rintro e w9 ⟨u, rfl, H9, rfl⟩
               have l9 := H9.bf.lt
               obtain ⟨k0, k1, k2, k3, k4⟩ := H9.cells
               obtain ⟨d1, d2, d3, d4⟩ := H9.fz
               have H10 : FM w T g v (w.heap.size + 1) nm P (.slice none 0 0) r q ps [] (fs6 L s) _ := H9.putQ q)
            | (go_at_call 28
               with_reducible refine (H10.of (manyCodeQ B (H10.size hB) (H10.bytes hB HV.out) H10.rd)).mono ?_
               rintro e w11 ⟨u, rfl, H11, rfl⟩))
          clear H7 H8 H9 H10 l0 l7 l9 x0 x1 x2 x3 x4 y0 y1 y2 y3 y4 f1 f2 f3 f4 e1 e2 e3 e4 k0 k1 k2 k3 k4 d1 d2 d3 d4 HM hr0 hq0
          go_wp2_with fail
          go_loopw [9] (fun i wr => ∃ (k : Nat) (C : Value) (cs : List InsD), k ≤ cntV L (fs6 L s) 2 1024 ∧ i = .int .i64 k ∧ cs.length = k ∧ ((csS L k (fs7 L s)).1.isOk = true → cs = (csS L k (fs7 L s)).2) ∧ FM w T g v (w.heap.size + 1) nm P C r q ps cs (csS L k (fs7 L s)).1 wr) (fun i _ => cntV L (fs6 L s) 2 1024 - (intOf i).toNat)
          case atStart => exact ⟨0, _, [], Nat.zero_le _, rfl, rfl, fun _ => rfl, H11⟩
          case round =>
            clear H11
            obtain ⟨k, C, cs, hk, rfl, hcl, hcs, hM⟩ := hrel
            by_cases hgo : k < cntV L (fs6 L s) 2 1024 ∧ (csS L k (fs7 L s)).1.isOk = true
            · obtain ⟨hlt, hok⟩ := hgo
              have hsn : csS L (k + 1) (fs7 L s) = (insS L (csS L k (fs7 L s)).1, (csS L k (fs7 L s)).2 ++ [insD L (csS L k (fs7 L s)).1]) := rfl
              have HCS := Lib.hid (hcs hok)
              have HSN := Lib.hid hsn
              clear hsn hcs
              generalize (csS L k (fs7 L s)).2 = cs2 at *
              generalize (csS L k (fs7 L s)).1 = t0 at *
              subst hcl
              have hst : insQS L t0 = insS L t0 := insQS_eq L t0
              have hin : (insS L t0).isOk = true → insQ L t0 = insD L t0 := insQ_eq
              rw [← hst] at HSN hin
              have HIN := Lib.hid hin
              have HOK := Lib.hid hok
              clear hst hin hok
              have h0 := natS_lt L t0 1
              have h1 := natS_lt L (takeS L t0 1) 1
              have h2 := natS_lt L (takeS L (takeS L t0 1) 1) 1
              have h3 := natS_lt L (takeS L (takeS L (takeS L t0 1) 1) 1) 1
              have g0 : IntKind.i64.wrap ((natS L t0 1 : Nat) : Int) = ((natS L t0 1 : Nat) : Int) := IntWalk.i64_in _ (by omega)
              have g1 : IntKind.i64.wrap ((natS L (takeS L t0 1) 1 : Nat) : Int) = ((natS L (takeS L t0 1) 1 : Nat) : Int) := IntWalk.i64_in _ (by omega)
              have g2 : IntKind.i64.wrap ((natS L (takeS L (takeS L t0 1) 1) 1 : Nat) : Int) = ((natS L (takeS L (takeS L t0 1) 1) 1 : Nat) : Int) := IntWalk.i64_in _ (by omega)
              have g3 : IntKind.i64.wrap ((natS L (takeS L (takeS L (takeS L t0 1) 1) 1) 1 : Nat) : Int) = ((natS L (takeS L (takeS L (takeS L t0 1) 1) 1) 1 : Nat) : Int) := IntWalk.i64_in _ (by omega)
              have g4 : IntKind.i64.wrap ((natS L (takeS L (takeS L (takeS L (takeS L t0 1) 1) 1) 1) 8 : Nat) : Int) = i64 (natS L (takeS L (takeS L (takeS L (takeS L t0 1) 1) 1) 1) 8) := rfl
              clear h0 h1 h2 h3
              have hxe : insQ L t0 = ⟨natS L t0 1, natS L (takeS L t0 1) 1, natS L (takeS L (takeS L t0 1) 1) 1, natS L (takeS L (takeS L (takeS L t0 1) 1) 1) 1, i64 (natS L (takeS L (takeS L (takeS L (takeS L t0 1) 1) 1) 1) 8)⟩ := rfl
              generalize hd0 : ((natS L t0 1 : Nat) : Int) = d0 at *
              generalize hd1 : ((natS L (takeS L t0 1) 1 : Nat) : Int) = d1 at *
              generalize hd2 : ((natS L (takeS L (takeS L t0 1) 1) 1 : Nat) : Int) = d2 at *
              generalize hd3 : ((natS L (takeS L (takeS L (takeS L t0 1) 1) 1) 1 : Nat) : Int) = d3 at *
              generalize i64 (natS L (takeS L (takeS L (takeS L (takeS L t0 1) 1) 1) 1) 8) = d4 at *
              have HXE := Lib.hid hxe
              have HM := Lib.hid hM
              have HD0 := Lib.hid hd0
              have HD1 := Lib.hid hd1
              have HD2 := Lib.hid hd2
              have HD3 := Lib.hid hd3
              clear hxe hd0 hd1 hd2 hd3
              cases t0 with
              | bad x y => exact absurd HOK.out (by simp [St.isOk])
              | ok a =>
                obtain ⟨p3, hW, ha⟩ := hM.rd.okCells
                have c2 := rd2 hW
                have lg2 := hW.lt
                clear hW hM
                go_wp2_with (first
                  | (fail_if_success (have _t := M1)
                     go_at_call 26
                     with_reducible refine (HM.out.of' (number1Q B (HM.out.size hB) (HM.out.bytes hB HV.out) HM.out.rd)).mono ?_
                     rintro e w2 ⟨u, rfl, M1, hg1, rfl⟩
                     rw [HD0.out]
                     have F2 := M1.farNew
                     have M2 := M1.alloc (.cells #[.int .i64 d0, .int .i64 0, .int .i64 0, .int .i64 0, .int .i64 0] 52)
                     have X2 := Whl.new w2 52 #[.int .i64 d0, .int .i64 0, .int .i64 0, .int .i64 0, .int .i64 0])
                  | (fail_if_success (have _t := M3)
                     go_at_call 26
                     with_reducible refine (M2.of' (number1Q B (M2.size hB) (M2.bytes hB HV.out) M2.rd)).mono ?_
                     rintro e w3 ⟨u, rfl, M3, hg3, rfl⟩
                     rw [HD1.out]
                     have X3 := X2.grown hg3 (ne_some F2.g)
                     have l3 := X3.lt
                     obtain ⟨y0, y1, y2, y3, y4⟩ := ins_cells X3
                     have z3 := X3.frozen 1
                     have M4 := M3.setFar F2 1 (.int .i64 d1)
                     have X4 := X3.put 1 (.int .i64 d1)
                     simp only [List.setIfInBounds_toArray, List.set_cons_zero, List.set_cons_succ] at X4)
                  | (fail_if_success (have _t := M5)
                     go_at_call 26
                     with_reducible refine (M4.of' (number1Q B (M4.size hB) (M4.bytes hB HV.out) M4.rd)).mono ?_
                     rintro e w5 ⟨u, rfl, M5, hg5, rfl⟩
                     rw [HD2.out]
                     have X5 := X4.grown hg5 (ne_some F2.g)
                     have l5 := X5.lt
                     obtain ⟨y50, y51, y52, y53, y54⟩ := ins_cells X5
                     have z5 := X5.frozen 2
                     have M6 := M5.setFar F2 2 (.int .i64 d2)
                     have X6 := X5.put 2 (.int .i64 d2)
                     simp only [List.setIfInBounds_toArray, List.set_cons_zero, List.set_cons_succ] at X6)
                  | (fail_if_success (have _t := M7)
                     go_at_call 26
                     with_reducible refine (M6.of' (number1Q B (M6.size hB) (M6.bytes hB HV.out) M6.rd)).mono ?_
                     rintro e w7 ⟨u, rfl, M7, hg7, rfl⟩
                     rw [HD3.out]
                     have X7 := X6.grown hg7 (ne_some F2.g)
                     have l7 := X7.lt
                     obtain ⟨y70, y71, y72, y73, y74⟩ := ins_cells X7
                     have z7 := X7.frozen 3
                     have M8 := M7.setFar F2 3 (.int .i64 d3)
                     have X8 := X7.put 3 (.int .i64 d3)
                     simp only [List.setIfInBounds_toArray, List.set_cons_zero, List.set_cons_succ] at X8)
                  | (fail_if_success (have _t := M9)
                     go_at_call 26
                     with_reducible refine (M8.of' (number8Q B (M8.size hB) (M8.bytes hB HV.out) M8.rd)).mono ?_
                     rintro e w9 ⟨u, rfl, M9, hg9, rfl⟩
                     have X9 := X8.grown hg9 (ne_some F2.g)
                     have l9 := X9.lt
                     obtain ⟨y90, y91, y92, y93, y94⟩ := ins_cells X9
                     have z9 := X9.frozen 4
                     have M10 := M9.setFar F2 4 (.int .i64 d4)
                     obtain ⟨v0, v1, v2, v3, v4⟩ := M9.cells
                     have l10 := M9.bf.lt
                     have hne := F2.gf
                     have X12 : Whl ((w9.setCell ⟨w2.heap.size, 4, none⟩ (.int .i64 d4)).alloc (.cells #[.int .i64 d0, .int .i64 d1, .int .i64 d2, .int .i64 d3, .int .i64 d4] 52)) w9.heap.size 52 #[.int .i64 d0, .int .i64 d1, .int .i64 d2, .int .i64 d3, .int .i64 d4] := by
                       have := Whl.new (w9.setCell ⟨w2.heap.size, 4, none⟩ (.int .i64 d4)) 52 #[.int .i64 d0, .int .i64 d1, .int .i64 d2, .int .i64 d3, .int .i64 d4]
                       simpa using this)
                  | (fail_if_success (have _t := hown)
                     at_builtin
                     refine wpList_append_lies _ rfl _ _ _ rfl w.heap.size 52 iX (.agg #[.int .i64 0, .int .i64 0, .int .i64 0, .int .i64 0, .int .i64 0]) 5 40 Tryd.underlying43 hiX zX0 zX1 zX2 rfl (by decide) C cs.length _ rfl (M10.oc.alloc _) ⟨w9.heap.size, 0, none⟩ 1 1 [.int .i64 d0, .int .i64 d1, .int .i64 d2, .int .i64 d3, .int .i64 d4] rfl rfl (World.news_of_block X12) (by intro u hu; simp at hu; rcases hu with rfl | rfl | rfl | rfl | rfl <;> rfl) (by decide) (by unfold maxLen; omega) (by omega) (Nat.le_trans M10.grown.size (by simp)) _ rfl ?_
                     intro g8 cap w10 hown hgrow hat hlt10
                     have H11 := M10.moreC (x := ⟨d0, d1, d2, d3, d4⟩) hgrow hown
                     have bf8 := ((M10.alloc (.cells #[.int .i64 d0, .int .i64 d1, .int .i64 d2, .int .i64 d3, .int .i64 d4] 52)).growC hgrow).2.2.2.2
                     have l11 := bf8.lt
                     obtain ⟨k0, k1, k2, k3, k4⟩ := ins_cells bf8
                     have z11 := bf8.frozen 4))
                refine ⟨⟨cs.length + 1, .slice (some ⟨g8, 0, none⟩) (cs.length + 1) cap, cs ++ [⟨d0, d1, d2, d3, d4⟩], by omega, by go_num, by simp, ?_, ?_⟩, by simp only [intOf]; omega⟩
                · rw [HSN.out]
                  intro hok
                  show cs ++ [⟨d0, d1, d2, d3, d4⟩] = cs2 ++ [insD L (.ok a)]
                  rw [← HIN.out hok, HXE.out, HCS.out]
                · rw [HSN.out]
                  exact H11
            · have hst : (csS L k (fs7 L s)).1 = funS L s := by
                by_cases q : k < cntV L (fs6 L s) 2 1024
                · exact (csS_stop (bad_of fun h => hgo ⟨q, h⟩) _ hk).symm
                · obtain rfl : k = cntV L (fs6 L s) 2 1024 := by omega
                  rfl
              have hval : (funS L s).isOk = true → cs = (fcs L s).2 := by
                intro h
                obtain rfl : k = cntV L (fs6 L s) 2 1024 := by
                  rcases Nat.lt_or_ge k (cntV L (fs6 L s) 2 1024) with q | q
                  · exact absurd ⟨q, by rw [hst]; exact h⟩ hgo
                  · omega
                exact hcs (by rw [hst]; exact h)
              have hend : k < cntV L (fs6 L s) 2 1024 → (funS L s).isOk = false := fun q => bad_of fun h => hgo ⟨q, by rw [hst]; exact h⟩
              rw [hst] at hM
              obtain ⟨b0, b1, b2, b3, b4⟩ := ins_cells hM.br
              have n0 := hM.br.frozen 0
              have n1 := hM.br.frozen 1
              have n2 := hM.br.frozen 2
              have n3 := hM.br.frozen 3
              have n4 := hM.br.frozen 4
              have lr := hM.br.lt
              obtain ⟨y0, y1, y2, y3, y4⟩ := hM.cells
              have lf := hM.bf.lt
              obtain ⟨⟨A1, c1, rfl⟩, ⟨A2, c2, rfl⟩⟩ := hM.slices
              obtain ⟨v1, v2, v3, v4⟩ := hM.finish (.string nm) (.slice A1 ps.length c1) (.int .i64 r) (.int .i64 q) (.slice A2 cs.length c2)
              have HV1 := Lib.hid (And.intro v1 (And.intro v2 (And.intro v3 v4)))
              have HVAL := Lib.hid hval
              have hrd := hM.rd
              clear hM hcs hgo hval hst v1 v2 v3 v4
              have HEND := Lib.hid hend
              clear hend
              subst hcl
              by_cases hlt : cs.length < cntV L (fs6 L s) 2 1024
              · have hb := HEND.out hlt
                cases hs : funS L s with
                | ok a => rw [hs] at hb; simp [St.isOk] at hb
                | bad x y =>
                  rw [hs] at hrd
                  obtain ⟨p3, hW, hx⟩ := hrd.badCells
                  have cg2 := rd2 hW
                  have lg2 := hW.lt
                  have hx2 : (x == 0) = false := by simpa using hx
                  clear hW hx hb hrd hs
                  go_wp2
                  refine ret_of ?_ rfl
                  obtain ⟨v1, v2, v3, v4⟩ := HV1.out
                  refine ⟨(⟨nm, A1, c1, ps, r, q, A2, c2, cs⟩ : FuncD).val, ?_, ⟨nm, A1, c1, ps, r, q, A2, c2, cs⟩, rfl, ?_, ⟨v1, v2⟩, v3, v4⟩
                  · simp [results, Tryd.results29, go_sem, b0, b1, b2, b3, b4, n0, n1, n2, n3, n4, lr]
                  · intro hok
                    have e1 := HPS.out
                    obtain ⟨e2, e3⟩ := HRQ.out
                    have e4 := nmQ_eq hok
                    rw [HNQ.out] at e4
                    have e5 := HVAL.out hok
                    subst e1 e2 e3 e4 e5
                    rfl
              · clear hrd
                go_wp2
                refine ret_of ?_ rfl
                obtain ⟨v1, v2, v3, v4⟩ := HV1.out
                refine ⟨(⟨nm, A1, c1, ps, r, q, A2, c2, cs⟩ : FuncD).val, ?_, ⟨nm, A1, c1, ps, r, q, A2, c2, cs⟩, rfl, ?_, ⟨v1, v2⟩, v3, v4⟩
                · simp [results, Tryd.results29, go_sem, b0, b1, b2, b3, b4, n0, n1, n2, n3, n4, lr]
                · intro hok
                  have e1 := HPS.out
                  obtain ⟨e2, e3⟩ := HRQ.out
                  have e4 := nmQ_eq hok
                  rw [HNQ.out] at e4
                  have e5 := HVAL.out hok
                  subst e1 e2 e3 e4 e5
                  rfl
end Go.Proofs.YtjacfeohpofhpaaDoor
