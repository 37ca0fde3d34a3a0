/-
  Layer 11 (pack): the walk of the reference's Decode.
-/
import Derived.Test.YtjacfeohpofhpaaDoorDecK
import Derived.Test.YtjacfeohpofhpaaDoorDecE
import Derived.Test.YtjacfeohpofhpaaDoorStepC
namespace Go.Proofs.YtjacfeohpofhpaaDoor
open Go.RowKit
set_option linter.unusedSimpArgs false
set_option linter.unusedVariables false
variable {w W W' : World} {T : TypeId} {g gm k : Nat} {v TV FV TV2 FV2 : Value} {ths : List Int} {fs : List FuncD} {s s2 : St} {L : List UInt8} {B : Nat}
theorem rdT_Q : RdT 68 := ⟨by decide, by decide, by decide, by decide, by decide⟩
theorem mkS_yesQ {L : List UInt8} {i : Nat} (h : natS L (mkS L i) 1 = markB i) : mkS L (i + 1) = takeS L (mkS L i) 1 := by rw [mkS, if_pos h]
theorem mkS_noQ {L : List UInt8} {i : Nat} (h : natS L (mkS L i) 1 ≠ markB i) : mkS L (i + 1) = failS (takeS L (mkS L i) 1) 5 i := by rw [mkS, if_neg h]
/-- The marks' row. -/
abbrev marks : Array Value := #[.int .u64 83, .int .u64 70, .int .u64 84, .int .u64 1]
structure DQ (w : World) (v : Value) (s : St) (W : World) : Prop where
  d0 : D0 w 68 (w.heap.size + 1) v s W
  mr : Whl W (w.heap.size + 1 + 1) 54 marks
theorem DQ.take1 (hv : RowB w w.heap.size w.heap.size v L) (h : DQ w v s W) : Calls Tryd.prog 26 #[.pointer (some ⟨w.heap.size + 1, 0, none⟩), .int .i64 1] W fun x w' =>
    x = .returned (.int .u64 (natS L s 1 : Nat)) ∧ DQ w v (takeS L s 1) w' :=
  (numberQ 1 w.heap.size h.d0.below.size (by decide) (h.d0.bytes hv) h.d0.rd).mono fun _ _ ⟨e, h1, h2⟩ => ⟨e, h.d0.go h1 h2, h.mr.grown h2 (ne_some (by omega))⟩
theorem DQ.fail (h : DQ w v s W) (e p : Int) (he : e ≠ 0) : Calls Tryd.prog 27 #[.pointer (some ⟨w.heap.size + 1, 0, none⟩), .int .i64 e, .int .i64 p] W fun x w' => x = .returned (.tuple #[]) ∧ DQ w v (failS s e p) w' :=
  (failQ e p he h.d0.rd).mono fun _ _ ⟨e, h1, h2⟩ => ⟨e, h.d0.go h1 h2, h.mr.grown h2 (ne_some (by omega))⟩
theorem DM.failR (h : DM w T g v gm TV FV ths fs s W) (e p : Int) (he : e ≠ 0) : Calls Tryd.prog 27 #[.pointer (some ⟨g, 0, none⟩), .int .i64 e, .int .i64 p] W fun x w' => x = .returned (.tuple #[]) ∧ DM w T g v gm TV FV ths fs (failS s e p) w' :=
  (failQ e p he h.d0.rd).mono fun _ _ ⟨e, h1, h2⟩ => ⟨e, h.go h1 h2⟩
theorem DM.fnQ (hv : RowB w w.heap.size w.heap.size v L) (h : DM w T g v gm TV FV ths fs s W) : Calls Tryd.prog 29 #[.pointer (some ⟨g, 0, none⟩)] W fun x w' =>
    ∃ f : FuncD, x = .returned f.val ∧ ((funS L s).isOk = true → bare f = bare (funD L s)) ∧ OwnF w' w.heap.size f ∧ DM w T g v gm TV FV ths fs (funS L s) w' :=
  (functionQ w.heap.size h.size (h.bytes hv) h.d0.rd).mono fun _ _ ⟨f, e, h1, h2, h3, h4⟩ => ⟨f, e, h1, h2.low h.size, h.go h3 h4⟩
theorem marks_cells {g : Nat} (h : Whl W g 54 marks) : W.cell? ⟨g, 0, none⟩ = some (.int .u64 83) ∧ W.cell? ⟨g, 1, none⟩ = some (.int .u64 70) ∧ W.cell? ⟨g, 2, none⟩ = some (.int .u64 84) ∧ W.cell? ⟨g, 3, none⟩ = some (.int .u64 1) := ⟨h.cell 0, h.cell 1, h.cell 2, h.cell 3⟩
theorem bare_snocQ {fs fs2 : List FuncD} {x y : FuncD} (hl : fs2.length = fs.length) (h : ∀ j, j < fs.length → bare (nthF fs j) = bare (nthF fs2 j)) (hx : bare x = bare y) : ∀ j, j < fs.length + 1 → bare (nthF (fs ++ [x]) j) = bare (nthF (fs2 ++ [y]) j) := fun j hj => by
  rcases Nat.lt_or_ge j fs.length with q | q
  · rw [nthF_app1 fs x q, nthF_app1 fs2 y (by omega), h j q]
  · obtain rfl : j = fs.length := by omega
    rw [nthF_app2, ← hl, nthF_app2, hx]
set_option maxHeartbeats 2000000 in
set_option maxRecDepth 100000 in
theorem decodeQ (hv : RowB w w.heap.size w.heap.size v L) : Calls Tryd.prog 14 #[v] w (DecOk w L) := by
  obtain ⟨i6, hi6, z60, z61, z62⟩ := info_parts info64
  obtain ⟨iF, hiF, zF0, zF1, zF2⟩ := info_parts infoF
  have HV := Lib.hid hv
  obtain ⟨A, c, rfl, hc, hrow⟩ := hv.row
  clear hrow hv hc
  by_cases hlen : 1048576 < L.length
  · go_enter Tryd.func14, Tryd.ntmps14
    go_wp2
    have hds : decS L = .bad 4 1048576 := if_pos hlen
    refine ret_of ?_ rfl
    have hb := below_alloc (Below.refl w.heap.size w) (.cells mod0 25)
    refine ⟨.tuple #[.agg #[.slice none 0 0, .slice none 0 0], .int .i64 4, .int .i64 1048576], ?_, decOk_bad (by rw [hds]; rfl) (by rw [hds]; rfl) ?_⟩
    · simp [results, Tryd.results14, go_sem]
    · repeat (first | exact hb | exact Below.refl _ _ | with_reducible apply Below.drew | (with_reducible refine Below.setCell ?_ (by simp) _))
  · have u1 : decide ((1048576 : Int) < (L.length : Int)) = false := by simp; omega
    have H0 : Hid (DQ w (.slice A L.length c) (.ok 0) _) := Lib.hid ⟨(D0.start (v := .slice A L.length c) w 68).alloc (.cells marks 54), Whl.new2 _ _ _ _ _⟩
    go_enter Tryd.func14, Tryd.ntmps14
    go_upto_block 0 with fail
    go_wp2_with fail
    go_loopw [7] (fun i wr => ∃ k : Nat, k ≤ 4 ∧ i = .int .i64 k ∧ DQ w (.slice A L.length c) (mkS L k) wr) (fun i _ => 4 - (intOf i).toNat)
    case atStart => exact ⟨0, by omega, rfl, H0.out⟩
    case round =>
      obtain ⟨k, hk, rfl, hD⟩ := hrel
      have HD := Lib.hid hD
      by_cases hlt : k < 4
      · clear hD
        obtain rfl | rfl | rfl | rfl : k = 0 ∨ k = 1 ∨ k = 2 ∨ k = 3 := by omega
        · by_cases hq : natS L (mkS L 0) 1 = markB 0
          · have q1 : (((natS L (mkS L 0) 1 : Nat) : Int) == 83) = true := by rw [hq]; rfl
            have q2 : (((natS L (mkS L 0) 1 : Nat) : Int) != 83) = false := by rw [hq]; rfl
            have HN := Lib.hid (mkS_yesQ hq)
            clear hq
            generalize hN : natS L (mkS L 0) 1 = N at *
            have HNN := Lib.hid hN
            clear hN
            go_wp2_with (go_at_call 26; with_reducible refine (HD.out.take1 HV.out).mono ?_; rintro e w2 ⟨rfl, hD2⟩; rw [HNN.out]; obtain ⟨m0, m1, m2, m3⟩ := marks_cells hD2.mr)
            refine ⟨⟨1, by omega, by go_num, by rw [HN.out]; exact hD2⟩, by simp only [intOf]; omega⟩
          · have hm : (natS L (mkS L 0) 1 : Int) ≠ 83 := fun e => hq (by have : markB 0 = 83 := rfl; omega)
            have q1 : (((natS L (mkS L 0) 1 : Nat) : Int) == 83) = false := by simpa using hm
            have q2 : (((natS L (mkS L 0) 1 : Nat) : Int) != 83) = true := by simpa using hm
            have HN := Lib.hid (mkS_noQ hq)
            clear hq hm
            generalize hN : natS L (mkS L 0) 1 = N at *
            have HNN := Lib.hid hN
            clear hN
            go_wp2_with (first
              | (go_at_call 26; with_reducible refine (HD.out.take1 HV.out).mono ?_; rintro e w2 ⟨rfl, hD2⟩; rw [HNN.out]; obtain ⟨m0, m1, m2, m3⟩ := marks_cells hD2.mr)
              | (go_at_call 27; with_reducible refine (hD2.fail 5 0 (by decide)).mono ?_; rintro e w3 ⟨rfl, hD3⟩))
            refine ⟨⟨1, by omega, by go_num, by rw [HN.out]; exact hD3⟩, by simp only [intOf]; omega⟩
        · by_cases hq : natS L (mkS L 1) 1 = markB 1
          · have q1 : (((natS L (mkS L 1) 1 : Nat) : Int) == 70) = true := by rw [hq]; rfl
            have q2 : (((natS L (mkS L 1) 1 : Nat) : Int) != 70) = false := by rw [hq]; rfl
            have HN := Lib.hid (mkS_yesQ hq)
            clear hq
            generalize hN : natS L (mkS L 1) 1 = N at *
            have HNN := Lib.hid hN
            clear hN
            go_wp2_with (go_at_call 26; with_reducible refine (HD.out.take1 HV.out).mono ?_; rintro e w2 ⟨rfl, hD2⟩; rw [HNN.out]; obtain ⟨m0, m1, m2, m3⟩ := marks_cells hD2.mr)
            refine ⟨⟨2, by omega, by go_num, by rw [HN.out]; exact hD2⟩, by simp only [intOf]; omega⟩
          · have hm : (natS L (mkS L 1) 1 : Int) ≠ 70 := fun e => hq (by have : markB 1 = 70 := rfl; omega)
            have q1 : (((natS L (mkS L 1) 1 : Nat) : Int) == 70) = false := by simpa using hm
            have q2 : (((natS L (mkS L 1) 1 : Nat) : Int) != 70) = true := by simpa using hm
            have HN := Lib.hid (mkS_noQ hq)
            clear hq hm
            generalize hN : natS L (mkS L 1) 1 = N at *
            have HNN := Lib.hid hN
            clear hN
            go_wp2_with (first
              | (go_at_call 26; with_reducible refine (HD.out.take1 HV.out).mono ?_; rintro e w2 ⟨rfl, hD2⟩; rw [HNN.out]; obtain ⟨m0, m1, m2, m3⟩ := marks_cells hD2.mr)
              | (go_at_call 27; with_reducible refine (hD2.fail 5 1 (by decide)).mono ?_; rintro e w3 ⟨rfl, hD3⟩))
            refine ⟨⟨2, by omega, by go_num, by rw [HN.out]; exact hD3⟩, by simp only [intOf]; omega⟩
        · by_cases hq : natS L (mkS L 2) 1 = markB 2
          · have q1 : (((natS L (mkS L 2) 1 : Nat) : Int) == 84) = true := by rw [hq]; rfl
            have q2 : (((natS L (mkS L 2) 1 : Nat) : Int) != 84) = false := by rw [hq]; rfl
            have HN := Lib.hid (mkS_yesQ hq)
            clear hq
            generalize hN : natS L (mkS L 2) 1 = N at *
            have HNN := Lib.hid hN
            clear hN
            go_wp2_with (go_at_call 26; with_reducible refine (HD.out.take1 HV.out).mono ?_; rintro e w2 ⟨rfl, hD2⟩; rw [HNN.out]; obtain ⟨m0, m1, m2, m3⟩ := marks_cells hD2.mr)
            refine ⟨⟨3, by omega, by go_num, by rw [HN.out]; exact hD2⟩, by simp only [intOf]; omega⟩
          · have hm : (natS L (mkS L 2) 1 : Int) ≠ 84 := fun e => hq (by have : markB 2 = 84 := rfl; omega)
            have q1 : (((natS L (mkS L 2) 1 : Nat) : Int) == 84) = false := by simpa using hm
            have q2 : (((natS L (mkS L 2) 1 : Nat) : Int) != 84) = true := by simpa using hm
            have HN := Lib.hid (mkS_noQ hq)
            clear hq hm
            generalize hN : natS L (mkS L 2) 1 = N at *
            have HNN := Lib.hid hN
            clear hN
            go_wp2_with (first
              | (go_at_call 26; with_reducible refine (HD.out.take1 HV.out).mono ?_; rintro e w2 ⟨rfl, hD2⟩; rw [HNN.out]; obtain ⟨m0, m1, m2, m3⟩ := marks_cells hD2.mr)
              | (go_at_call 27; with_reducible refine (hD2.fail 5 2 (by decide)).mono ?_; rintro e w3 ⟨rfl, hD3⟩))
            refine ⟨⟨3, by omega, by go_num, by rw [HN.out]; exact hD3⟩, by simp only [intOf]; omega⟩
        · by_cases hq : natS L (mkS L 3) 1 = markB 3
          · have q1 : (((natS L (mkS L 3) 1 : Nat) : Int) == 1) = true := by rw [hq]; rfl
            have q2 : (((natS L (mkS L 3) 1 : Nat) : Int) != 1) = false := by rw [hq]; rfl
            have HN := Lib.hid (mkS_yesQ hq)
            clear hq
            generalize hN : natS L (mkS L 3) 1 = N at *
            have HNN := Lib.hid hN
            clear hN
            go_wp2_with (go_at_call 26; with_reducible refine (HD.out.take1 HV.out).mono ?_; rintro e w2 ⟨rfl, hD2⟩; rw [HNN.out]; obtain ⟨m0, m1, m2, m3⟩ := marks_cells hD2.mr)
            refine ⟨⟨4, by omega, by go_num, by rw [HN.out]; exact hD2⟩, by simp only [intOf]; omega⟩
          · have hm : (natS L (mkS L 3) 1 : Int) ≠ 1 := fun e => hq (by have : markB 3 = 1 := rfl; omega)
            have q1 : (((natS L (mkS L 3) 1 : Nat) : Int) == 1) = false := by simpa using hm
            have q2 : (((natS L (mkS L 3) 1 : Nat) : Int) != 1) = true := by simpa using hm
            have HN := Lib.hid (mkS_noQ hq)
            clear hq hm
            generalize hN : natS L (mkS L 3) 1 = N at *
            have HNN := Lib.hid hN
            clear hN
            go_wp2_with (first
              | (go_at_call 26; with_reducible refine (HD.out.take1 HV.out).mono ?_; rintro e w2 ⟨rfl, hD2⟩; rw [HNN.out]; obtain ⟨m0, m1, m2, m3⟩ := marks_cells hD2.mr)
              | (go_at_call 27; with_reducible refine (hD2.fail 5 3 (by decide)).mono ?_; rintro e w3 ⟨rfl, hD3⟩))
            refine ⟨⟨4, by omega, by go_num, by rw [HN.out]; exact hD3⟩, by simp only [intOf]; omega⟩
      · obtain rfl : k = 4 := by omega
        clear hlt hk hD
        obtain ⟨wo, rfl⟩ : ∃ wo : World, wo = wr := ⟨_, rfl⟩
        have HM := Lib.hid (HD.out.d0.box rdT_Q)
        clear HD
        go_upto_block 2 with (go_at_call 28; with_reducible refine (HM.out.of' (manyThsQ w.heap.size HM.out.size (HM.out.bytes HV.out) HM.out.d0.rd)).mono ?_; rintro e w1 ⟨u, rfl, hM1, rfl⟩)
        clear HM
        have hn1 := cntV_le L (mkS L 4) 1 16
        have hn2 := cntV_le L (dths L).1 1 32
        go_wp2_with fail
        go_loopw [11] (fun i wr => ∃ (k : Nat) (TV : Value), k ≤ cntV L (mkS L 4) 1 16 ∧ i = .int .i64 k ∧ DM w 68 (w.heap.size + 1) (.slice A L.length c) wo.heap.size TV (.slice none 0 0) (thsS L k (ds1 L)).2 [] (thsS L k (ds1 L)).1 wr) (fun i _ => cntV L (mkS L 4) 1 16 - (intOf i).toNat)
        case atStart => exact ⟨0, _, Nat.zero_le _, rfl, hM1⟩
        case round =>
          clear hM1
          obtain ⟨k, TV, hk, rfl, hM⟩ := hrel
          by_cases hlt : k < cntV L (mkS L 4) 1 16
          · have hsn : thsS L (k + 1) (ds1 L) = (takeS L (thsS L k (ds1 L)).1 8, (thsS L k (ds1 L)).2 ++ [i64 (natS L (thsS L k (ds1 L)).1 8)]) := rfl
            have hl2 := thsS_len L k (ds1 L)
            have HSN := Lib.hid hsn
            have HM := Lib.hid hM
            obtain ⟨y0, y1, f0, f1⟩ := hM.cells
            clear hsn hM
            generalize (thsS L k (ds1 L)).2 = ths at *
            generalize (thsS L k (ds1 L)).1 = t0 at *
            have hlo : IntKind.i64.wrap ((natS L t0 8 : Nat) : Int) = i64 (natS L t0 8) := rfl
            generalize i64 (natS L t0 8) = lo at *
            have hpl : ths.length ≤ 16 := by omega
            clear hl2
            go_wp2_with fail
            go_region_law (first
              | (fail_if_success (have _t := H7)
                 refine step_call2 rfl _ (.tmp 47) (.const (.int .i64 8)) _ Tryd.func26 (by kernel_rfl) rfl rfl (HM.out.drew.of' (number8Q w.heap.size HM.out.drew.size (HM.out.drew.bytes HV.out) HM.out.drew.d0.rd)) ?_
                 rintro u7 w7 ⟨H7, rfl⟩
                 have l7 := H7.bm.lt
                 obtain ⟨x0, x1, e0, e1⟩ := H7.cells)
              | (have H7' := H7
                 fail_if_success (have _t := hown)
                 refine step_append_lies _ (by rfl) (.tmp 46) (.tmp 50) 22 (by rfl) w.heap.size 2 i6 (.int .i64 0) 1 8 Tryd.underlying22 hi6 z60 z61 z62 rfl (by decide) TV ths.length _ (by rfl) (H7.ot.alloc _) ⟨w7.heap.size, 0, none⟩ 1 1 [.int .i64 lo] (by rfl) rfl (World.news_of_block (Whl.new w7 2 #[.int .i64 lo])) (by intro u hu; simp at hu; rcases hu with rfl; rfl) (by decide) (by unfold maxLen; omega) (by omega) (Nat.le_trans H7.size (by simp)) _ rfl ?_
                 intro g2 cap w8 hown hgrow hat hlt8
                 have H9 := H7.moreT (x := lo) hgrow hown
                 have bm8 := (grown_bm (H7.alloc (.cells #[.int .i64 lo] 2)) (H7.ot.alloc _) (by decide) H7.tk.i hgrow).2
                 have l8 := bm8.lt
                 obtain ⟨x0, x1, e0, e1⟩ := Whl.two bm8))
            all_goals go_wp2
            all_goals refine ⟨⟨k + 1, _, by omega, by go_num, by rw [HSN.out]; exact H9⟩, by simp only [intOf]; omega⟩
          · obtain rfl : k = cntV L (mkS L 4) 1 16 := by omega
            have hths : thsS L (cntV L (mkS L 4) 1 16) (ds1 L) = dths L := rfl
            rw [hths] at hM
            clear hths hlt hk
            have HM := Lib.hid hM
            clear hM
            go_upto_block 4 with (go_at_call 28; with_reducible refine (HM.out.of' (manyFunQ w.heap.size HM.out.size (HM.out.bytes HV.out) HM.out.d0.rd)).mono ?_; rintro e w2 ⟨u, rfl, hM2, rfl⟩)
            clear HM
            go_wp2_with fail
            go_loopw [12] (fun i wr => ∃ (k : Nat) (FV : Value) (fs : List FuncD), k ≤ cntV L (dths L).1 1 32 ∧ i = .int .i64 k ∧ fs.length = k ∧ ((fsS L k (ds2 L)).1.isOk = true → ∀ j, j < k → bare (nthF fs j) = bare (nthF (fsS L k (ds2 L)).2 j)) ∧ DM w 68 (w.heap.size + 1) (.slice A L.length c) wo.heap.size TV FV (dths L).2 fs (fsS L k (ds2 L)).1 wr) (fun i _ => cntV L (dths L).1 1 32 - (intOf i).toNat)
            case atStart => exact ⟨0, _, [], Nat.zero_le _, rfl, rfl, fun _ j hj => absurd hj (Nat.not_lt_zero _), hM2⟩
            case round =>
              clear hM2
              obtain ⟨k, FV, fs, hk, rfl, hfl, hfs, hM⟩ := hrel
              by_cases hgo : k < cntV L (dths L).1 1 32 ∧ (fsS L k (ds2 L)).1.isOk = true
              · obtain ⟨hlt, hok⟩ := hgo
                have hsn : fsS L (k + 1) (ds2 L) = (funS L (fsS L k (ds2 L)).1, (fsS L k (ds2 L)).2 ++ [funD L (fsS L k (ds2 L)).1]) := rfl
                have hl2 := fsS_len L k (ds2 L)
                have HSN := Lib.hid hsn
                have HM := Lib.hid hM
                have HFS := Lib.hid (hfs hok)
                have HL2 := Lib.hid hl2
                obtain ⟨y0, y1, f0, f1⟩ := hM.cells
                clear hsn hfs
                generalize (fsS L k (ds2 L)).2 = fs2 at *
                generalize (fsS L k (ds2 L)).1 = t0 at *
                have hpl : fs.length ≤ 32 := by omega
                clear hl2
                subst hfl
                cases t0 with
                | bad x y => simp [St.isOk] at hok
                | ok a =>
                  obtain ⟨p3, hW, ha⟩ := hM.d0.rd.okCells
                  have cg2 := rd2 hW
                  have lg2 := hW.lt
                  clear hW hM hok
                  go_wp2_with (first
                    | (go_at_call 29
                       with_reducible refine (HM.out.fnQ HV.out).mono ?_
                       rintro e w7 ⟨x, rfl, hx, hox, H7⟩
                       have HX := Lib.hid hx
                       clear hx
                       have l7 := H7.bm.lt
                       obtain ⟨x0, x1, e0, e1⟩ := H7.cells
                       have H8 := H7.alloc (FBox x)
                       have hox8 := hox.alloc (FBox x))
                    | (fail_if_success (have _t := hown)
                       at_builtin
                       refine wpList_append_lies _ rfl _ _ _ rfl w.heap.size 45 iF (.agg #[.string .empty, .slice none 0 0, .int .i64 0, .int .i64 0, .slice none 0 0]) 5 80 Tryd.underlying23 hiF zF0 zF1 zF2 rfl (by decide) FV fs.length _ rfl (H8.of.alloc _) ⟨w7.heap.size + 1, 0, none⟩ 1 1 ((List.range 5).map (funcV x)) rfl (by simp) (cell_five_new _ _ _ (by simp)) (fun u hu => by obtain ⟨i, _, rfl⟩ := List.mem_map.1 hu; exact funcV_one _ _) (by decide) (by unfold maxLen; omega) (by omega) (Nat.le_trans H8.size (by simp)) _ rfl ?_
                       intro g2 cap w8 hown hgrow hat hlt8
                       have H9 := H8.moreF hox8 hgrow hown
                       have bm8 := (grown_bm (H8.alloc (FBox x)) (H8.of.alloc _) (by decide) H8.tk.f hgrow).2
                       have l8 := bm8.lt
                       obtain ⟨k0, k1, k2, k3⟩ := Whl.two bm8))
                  refine ⟨⟨fs.length + 1, _, fs ++ [x], by omega, by go_num, by simp, ?_, by rw [HSN.out]; exact H9⟩, by simp only [intOf]; omega⟩
                  rw [HSN.out]
                  exact fun hok => bare_snocQ HL2.out HFS.out (HX.out hok)
              · have hst : (fsS L k (ds2 L)).1 = (dfs L).1 := by
                  by_cases q : k < cntV L (dths L).1 1 32
                  · exact (fsS_stop (bad_of fun h => hgo ⟨q, h⟩) _ hk).symm
                  · obtain rfl : k = cntV L (dths L).1 1 32 := by omega
                    rfl
                have hval : (dfs L).1.isOk = true → k = cntV L (dths L).1 1 32 := fun h => by
                  rcases Nat.lt_or_ge k (cntV L (dths L).1 1 32) with q | q
                  · exact absurd ⟨q, by rw [hst]; exact h⟩ hgo
                  · omega
                rw [hst] at hM hfs
                have HFS := Lib.hid hfs
                have HFL := Lib.hid hfl
                have hdl : (dfs L).2.length = cntV L (dths L).1 1 32 := fsS_len _ _ _
                have HDL := Lib.hid hdl
                have hds := decS_of hlen
                clear hgo hst hfl hdl hfs
                cases hs : (dfs L).1 with
                | ok a =>
                  rw [hs] at hM
                  obtain rfl := hval (by rw [hs]; rfl)
                  obtain ⟨p3, hW, ha⟩ := hM.d0.rd.okCells
                  have g1 := rd1 hW
                  have g2 := rd2 hW
                  have lg := hW.lt
                  have HM2 := Lib.hid hM
                  obtain ⟨y0, y1, f0, f1⟩ := hM.cells
                  have lm := hM.bm.lt
                  by_cases hat : a < L.length
                  · have hds2 : decS L = .bad 7 a := by rw [hds, hs, restS, if_pos hat]
                    have HDS := Lib.hid hds2
                    clear hds hds2 hW hM hs hval y0 y1 f0 f1 lm hk
                    go_wp2_with (go_at_call 27; with_reducible refine (HM2.out.failR 7 (a : Int) (by decide)).mono ?_; rintro e w9 ⟨rfl, hM9⟩; rw [failS] at hM9; obtain ⟨a9, hW9, hx9⟩ := hM9.d0.rd.badCells; have h2 := rd2 hW9; have h3 := rd3 hW9; have l9 := hW9.lt; have q1 := bad_ne hx9; obtain ⟨r0, r1, s0, s1, lr⟩ := hM9.ends; have HE := Lib.hid hM9; clear hM9 hW9 hx9)
                    go_region
                    go_wp2
                    refine ret_of ?_ rfl
                    have hb := HE.out.d0.below
                    refine ⟨.tuple #[.agg #[.slice none 0 0, .slice none 0 0], .int .i64 7, .int .i64 a], ?_, decOk_bad (by rw [HDS.out]; rfl) (by rw [HDS.out]; rfl) ?_⟩
                    · simp [results, Tryd.results14, go_sem, r0, r1, s0, s1, lr]
                    · repeat (first | exact hb | exact Below.refl _ _ | with_reducible apply Below.drew | (with_reducible refine Below.setCell ?_ (by simp) _))
                  · have hds2 : decS L = .ok a := by rw [hds, hs, restS, if_neg hat]
                    have HDS := Lib.hid hds2
                    have hal : decide ((a : Int) < (L.length : Int)) = false := by simp; omega
                    have HSX := Lib.hid hs
                    obtain ⟨⟨A1, c1, rfl⟩, ⟨A2, c2, rfl⟩⟩ := hM.slices
                    obtain ⟨r0, r1, s0, s1, lr⟩ := hM.ends
                    clear hds hds2 hW hM hs hval hk
                    go_wp2
                    refine ret_of ?_ rfl
                    obtain ⟨v1, v2, v3, v4⟩ := HM2.out.finish (.slice A1 (dths L).2.length c1) (.slice A2 fs.length c2)
                    refine ⟨.tuple #[(⟨A1, c1, (dths L).2, A2, c2, fs⟩ : ModD).val, .int .i64 0, .int .i64 0], ?_, ⟨A1, c1, (dths L).2, A2, c2, fs⟩, by rw [HDS.out]; rfl, ⟨?_, ?_, fun k => ?_⟩, ⟨v2, v3, v4⟩, v1⟩
                    · simp [results, Tryd.results14, go_sem, r0, r1, s0, s1, lr]
                    · unfold decM; rw [HDS.out]
                    · unfold decM; rw [HDS.out]; have h1 := HDL.out; have h2 := HFL.out; show fs.length = (dfs L).2.length; omega
                    · have e : decM L = ⟨none, 0, (dths L).2, none, 0, (dfs L).2⟩ := by unfold decM; rw [HDS.out]
                      rw [e]
                      have h1 := HDL.out
                      have h2 := HFL.out
                      rcases Nat.lt_or_ge k fs.length with q | q
                      · exact HFS.out (by rw [HSX.out]; rfl) k (by omega)
                      · show bare (nthF fs k) = bare (nthF (dfs L).2 k)
                        simp only [nthF, List.getD_eq_getElem?_getD, List.getElem?_eq_none q, List.getElem?_eq_none (show (dfs L).2.length ≤ k by omega)]
                | bad x y =>
                  have hds2 : decS L = .bad x y := by rw [hds, hs]; rfl
                  have HDS := Lib.hid hds2
                  rw [hs] at hM
                  obtain ⟨a8, hW8, hx8⟩ := hM.d0.rd.badCells
                  have g1 := rd1 hW8
                  have g2 := rd2 hW8
                  have g3 := rd3 hW8
                  have lg := hW8.lt
                  have hx2 : (x == 0) = false := by simpa using hx8
                  have q1 := bad_ne hx8
                  have HM8 := Lib.hid hM
                  have hM8 := hM
                  clear hds hds2 hs hM hW8 hx8 hval
                  by_cases hlt : k < cntV L (dths L).1 1 32
                  · by_cases hat : a8 < (L.length : Int)
                    · clear hM8 hk
                      go_wp2_with (go_at_call 27; with_reducible refine (HM8.out.failR 7 a8 (by decide)).mono ?_; rintro e w9 ⟨rfl, hM9⟩; rw [failS] at hM9; obtain ⟨a9, hW9, hx9⟩ := hM9.d0.rd.badCells; have h2 := rd2 hW9; have h3 := rd3 hW9; have l9 := hW9.lt; have q1 := bad_ne hx9; obtain ⟨r0, r1, s0, s1, lr⟩ := hM9.ends; have HE := Lib.hid hM9; clear hM9 hW9 hx9)
                      go_region
                      go_wp2
                      refine ret_of ?_ rfl
                      have hb := HE.out.d0.below
                      refine ⟨.tuple #[.agg #[.slice none 0 0, .slice none 0 0], .int .i64 x, .int .i64 y], ?_, decOk_bad (by rw [HDS.out]; rfl) (by rw [HDS.out]; rfl) ?_⟩
                      · simp [results, Tryd.results14, go_sem, r0, r1, s0, s1, lr]
                      · repeat (first | exact hb | exact Below.refl _ _ | with_reducible apply Below.drew | (with_reducible refine Below.setCell ?_ (by simp) _))
                    · obtain ⟨r0, r1, s0, s1, lr⟩ := hM8.ends
                      have HE := HM8
                      clear hM8 hk
                      go_wp2
                      go_region
                      go_wp2
                      refine ret_of ?_ rfl
                      have hb := HE.out.d0.below
                      refine ⟨.tuple #[.agg #[.slice none 0 0, .slice none 0 0], .int .i64 x, .int .i64 y], ?_, decOk_bad (by rw [HDS.out]; rfl) (by rw [HDS.out]; rfl) ?_⟩
                      · simp [results, Tryd.results14, go_sem, r0, r1, s0, s1, lr]
                      · repeat (first | exact hb | exact Below.refl _ _ | with_reducible apply Below.drew | (with_reducible refine Below.setCell ?_ (by simp) _))
                  · by_cases hat : a8 < (L.length : Int)
                    · clear hM8 hk
                      go_wp2_with (go_at_call 27; with_reducible refine (HM8.out.failR 7 a8 (by decide)).mono ?_; rintro e w9 ⟨rfl, hM9⟩; rw [failS] at hM9; obtain ⟨a9, hW9, hx9⟩ := hM9.d0.rd.badCells; have h2 := rd2 hW9; have h3 := rd3 hW9; have l9 := hW9.lt; have q1 := bad_ne hx9; obtain ⟨r0, r1, s0, s1, lr⟩ := hM9.ends; have HE := Lib.hid hM9; clear hM9 hW9 hx9)
                      go_region
                      go_wp2
                      refine ret_of ?_ rfl
                      have hb := HE.out.d0.below
                      refine ⟨.tuple #[.agg #[.slice none 0 0, .slice none 0 0], .int .i64 x, .int .i64 y], ?_, decOk_bad (by rw [HDS.out]; rfl) (by rw [HDS.out]; rfl) ?_⟩
                      · simp [results, Tryd.results14, go_sem, r0, r1, s0, s1, lr]
                      · repeat (first | exact hb | exact Below.refl _ _ | with_reducible apply Below.drew | (with_reducible refine Below.setCell ?_ (by simp) _))
                    · obtain ⟨r0, r1, s0, s1, lr⟩ := hM8.ends
                      have HE := HM8
                      clear hM8 hk
                      go_wp2
                      go_region
                      go_wp2
                      refine ret_of ?_ rfl
                      have hb := HE.out.d0.below
                      refine ⟨.tuple #[.agg #[.slice none 0 0, .slice none 0 0], .int .i64 x, .int .i64 y], ?_, decOk_bad (by rw [HDS.out]; rfl) (by rw [HDS.out]; rfl) ?_⟩
                      · simp [results, Tryd.results14, go_sem, r0, r1, s0, s1, lr]
                      · repeat (first | exact hb | exact Below.refl _ _ | with_reducible apply Below.drew | (with_reducible refine Below.setCell ?_ (by simp) _))
end Go.Proofs.YtjacfeohpofhpaaDoor
