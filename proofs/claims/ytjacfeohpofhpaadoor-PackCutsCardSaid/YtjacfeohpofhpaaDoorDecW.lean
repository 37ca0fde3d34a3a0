/-
  Layer 11 (pack): the walk of Decode.
-/
import Derived.Test.YtjacfeohpofhpaaDoorDecK
import Derived.Test.YtjacfeohpofhpaaDoorDecG
import Derived.Test.YtjacfeohpofhpaaDoorStepC
namespace Go.Proofs.YtjacfeohpofhpaaDoor
open Go.RowKit
set_option linter.unusedSimpArgs false
set_option linter.unusedVariables false
variable {w W W' : World} {T : TypeId} {g gm k : Nat} {v TV FV TV2 FV2 : Value} {ths : List Int} {fs : List FuncD} {s s2 : St} {L : List UInt8} {B : Nat}
theorem rdT_P : RdT 60 := ⟨by decide, by decide, by decide, by decide, by decide⟩
theorem natS_byte (L : List UInt8) (s : St) : natS L s 1 = ((readL L s 1).getD 0 0).toNat := by
  have h := readL_len L s 1
  unfold natS
  generalize readL L s 1 = l at *
  match l, h with
  | [b], _ => simp [leN]
theorem RowB.one {l : List UInt8} (h : RowB W B g v l) (hl : l.length = 1) : ∃ b off c, v = .slice (some ⟨b, off, none⟩) 1 c ∧ b < B ∧ W.cell? ⟨b, off, none⟩ = some (u8V (l.getD 0 0)) := by
  obtain ⟨A, c, rfl, hc, hrow⟩ := h.row
  obtain ⟨b, off, rfl, hb, hne, hcell⟩ := hrow (by intro e; subst e; simp at hl)
  rw [hl] at hcell
  exact ⟨b, off, c, by rw [hl], hb, hcell 0 (by omega)⟩
/-- One byte of the mark, right or wrong. -/
theorem mkS_yes {L : List UInt8} {i : Nat} (h : natS L (mkS L i) 1 = markB i) : mkS L (i + 1) = takeS L (mkS L i) 1 := by rw [mkS, if_pos h]
theorem mkS_no {L : List UInt8} {i : Nat} (h : natS L (mkS L i) 1 ≠ markB i) : mkS L (i + 1) = failS (takeS L (mkS L i) 1) 5 i := by rw [mkS, if_neg h]
theorem D0.take1 (hv : RowB w w.heap.size w.heap.size v L) (h : D0 w T g v s W) : Calls Tryd.prog 21 #[.pointer (some ⟨g, 0, none⟩), .int .i64 1] W fun x w' =>
    ∃ b off c, x = .returned (.slice (some ⟨b, off, none⟩) 1 c) ∧ D0 w T g v (takeS L s 1) w' ∧ b < w'.heap.size ∧ w'.cell? ⟨b, off, none⟩ = some (.int .u8 (natS L s 1 : Nat)) :=
  (take1P w.heap.size h.below.size (h.bytes hv) h.rd).mono fun _ _ ⟨u, e, h1, h2, h3⟩ => by
    obtain ⟨b, off, c, rfl, hb, hc⟩ := h1.one (readL_len _ _ _)
    exact ⟨b, off, c, e, h.go h2 h3, hb, by rw [natS_byte]; exact hc⟩
theorem D0.fail (h : D0 w T g v s W) (e p : Int) (he : e ≠ 0) : Calls Tryd.prog 22 #[.pointer (some ⟨g, 0, none⟩), .int .i64 e, .int .i64 p] W fun x w' => x = .returned (.tuple #[]) ∧ D0 w T g v (failS s e p) w' :=
  (failP e p he h.rd).mono fun _ _ ⟨e, h1, h2⟩ => ⟨e, h.go h1 h2⟩
theorem DM.fail (h : DM w T g v gm TV FV ths fs s W) (e p : Int) (he : e ≠ 0) : Calls Tryd.prog 22 #[.pointer (some ⟨g, 0, none⟩), .int .i64 e, .int .i64 p] W fun x w' => x = .returned (.tuple #[]) ∧ DM w T g v gm TV FV ths fs (failS s e p) w' :=
  (failP e p he h.d0.rd).mono fun _ _ ⟨e, h1, h2⟩ => ⟨e, h.go h1 h2⟩
theorem DM.fail3 (h : DM w T g v gm TV FV ths fs s W) (e p : Int) (he : e ≠ 0) : Calls Tryd.prog 22 #[.pointer (some ⟨g, 0, none⟩), .int .i64 e, .int .i64 p] W fun x w' => ∃ u, x = .returned u ∧ DM w T g v gm TV FV ths fs (failS s e p) w' :=
  (h.fail e p he).mono fun _ _ ⟨e, h1⟩ => ⟨_, e, h1⟩
theorem DM.fn (hv : RowB w w.heap.size w.heap.size v L) (h : DM w T g v gm TV FV ths fs s W) : Calls Tryd.prog 25 #[.pointer (some ⟨g, 0, none⟩)] W fun x w' =>
    ∃ u, x = .returned u ∧ ∃ f : FuncD, u = f.val ∧ bare f = bare (funD L s) ∧ OwnF w' w.heap.size f ∧ DM w T g v gm TV FV ths fs (funS L s) w' :=
  (functionP w.heap.size h.size (h.bytes hv) h.d0.rd).mono fun _ _ ⟨f, e, h1, h2, h3, h4⟩ => ⟨_, e, f, rfl, h1, h2.low h.size, h.go h3 h4⟩
theorem bare_snoc {fs fs2 : List FuncD} {x y : FuncD} (hl : fs2.length = fs.length) (h : ∀ j, j < fs.length → bare (nthF fs j) = bare (nthF fs2 j)) (hx : bare x = bare y) : ∀ j, j < fs.length + 1 → bare (nthF (fs ++ [x]) j) = bare (nthF (fs2 ++ [y]) j) := fun j hj => by
  rcases Nat.lt_or_ge j fs.length with q | q
  · rw [nthF_app1 fs x q, nthF_app1 fs2 y (by omega), h j q]
  · obtain rfl : j = fs.length := by omega
    rw [nthF_app2, ← hl, nthF_app2, hx]
set_option maxHeartbeats 2000000 in
set_option maxRecDepth 100000 in
theorem decodeP (hv : RowB w w.heap.size w.heap.size v L) : Calls Tryd.prog 13 #[v] w (DecOk w L) := by
  obtain ⟨i6, hi6, z60, z61, z62⟩ := info_parts info64
  obtain ⟨iF, hiF, zF0, zF1, zF2⟩ := info_parts infoF
  have HV := Lib.hid hv
  obtain ⟨A, c, rfl, hc, hrow⟩ := hv.row
  clear hrow hv hc
  by_cases hlen : 1048576 < L.length
  · go_enter Tryd.func13, Tryd.ntmps13
    go_wp2
    have hds : decS L = .bad 4 1048576 := if_pos hlen
    refine ret_of ?_ rfl
    have hb := below_alloc (Below.refl w.heap.size w) (.cells mod0 25)
    refine ⟨.tuple #[.agg #[.slice none 0 0, .slice none 0 0], .int .i64 4, .int .i64 1048576], ?_, decOk_bad (by rw [hds]; rfl) (by rw [hds]; rfl) ?_⟩
    · simp [results, Tryd.results13, go_sem]
    · repeat (first | exact hb | exact Below.refl _ _ | with_reducible apply Below.drew | (with_reducible refine Below.setCell ?_ (by simp) _))
  · have u1 : decide ((1048576 : Int) < (L.length : Int)) = false := by simp; omega
    have H0 := Lib.hid (D0.start (v := .slice A L.length c) w 60)
    go_enter Tryd.func13, Tryd.ntmps13
    go_upto_block 0 with fail
    go_wp2_with fail
    go_loopw [17] (fun i wr => ∃ k : Nat, k ≤ 4 ∧ i = .int .i64 k ∧ D0 w 60 (w.heap.size + 1) (.slice A L.length c) (mkS L k) wr) (fun i _ => 4 - (intOf i).toNat)
    case atStart => exact ⟨0, by omega, rfl, H0.out⟩
    case round =>
      obtain ⟨k, hk, rfl, hD⟩ := hrel
      have HD := Lib.hid hD
      by_cases hlt : k < 4
      · clear hD
        obtain rfl | rfl | rfl | rfl : k = 0 ∨ k = 1 ∨ k = 2 ∨ k = 3 := by omega
        · have mk : (({ data := #[83, 70, 84, 1] } : ByteArray)[0]'(by decide)).toNat = 83 := rfl
          by_cases hq : natS L (mkS L 0) 1 = markB 0
          · have q1 : (((natS L (mkS L 0) 1 : Nat) : Int) == 83) = true := by rw [hq]; rfl
            have q2 : (((natS L (mkS L 0) 1 : Nat) : Int) != 83) = false := by rw [hq]; rfl
            have HN := Lib.hid (mkS_yes hq)
            clear hq
            generalize hN : natS L (mkS L 0) 1 = N at *
            have HNN := Lib.hid hN
            clear hN
            go_wp2_with (go_at_call 21; with_reducible refine (HD.out.take1 HV.out).mono ?_; rintro e w2 ⟨b, off, c2, rfl, hD2, hb, hcell⟩; rw [HNN.out] at hcell)
            go_region
            go_wp2
            refine ⟨⟨1, by omega, by go_num, by rw [HN.out]; exact hD2.drew⟩, by simp only [intOf]; omega⟩
          · have hm : (natS L (mkS L 0) 1 : Int) ≠ 83 := fun e => hq (by have : markB 0 = 83 := rfl; omega)
            have q1 : (((natS L (mkS L 0) 1 : Nat) : Int) == 83) = false := by simpa using hm
            have q2 : (((natS L (mkS L 0) 1 : Nat) : Int) != 83) = true := by simpa using hm
            have HN := Lib.hid (mkS_no hq)
            clear hq hm
            generalize hN : natS L (mkS L 0) 1 = N at *
            have HNN := Lib.hid hN
            clear hN
            go_wp2_with (go_at_call 21; with_reducible refine (HD.out.take1 HV.out).mono ?_; rintro e w2 ⟨b, off, c2, rfl, hD2, hb, hcell⟩; rw [HNN.out] at hcell)
            go_region
            go_wp2_with (go_at_call 22; with_reducible refine (hD2.drew.fail 5 0 (by decide)).mono ?_; rintro e w3 ⟨rfl, hD3⟩)
            refine ⟨⟨1, by omega, by go_num, by rw [HN.out]; exact hD3⟩, by simp only [intOf]; omega⟩
        · have mk : (({ data := #[83, 70, 84, 1] } : ByteArray)[1]'(by decide)).toNat = 70 := rfl
          by_cases hq : natS L (mkS L 1) 1 = markB 1
          · have q1 : (((natS L (mkS L 1) 1 : Nat) : Int) == 70) = true := by rw [hq]; rfl
            have q2 : (((natS L (mkS L 1) 1 : Nat) : Int) != 70) = false := by rw [hq]; rfl
            have HN := Lib.hid (mkS_yes hq)
            clear hq
            generalize hN : natS L (mkS L 1) 1 = N at *
            have HNN := Lib.hid hN
            clear hN
            go_wp2_with (go_at_call 21; with_reducible refine (HD.out.take1 HV.out).mono ?_; rintro e w2 ⟨b, off, c2, rfl, hD2, hb, hcell⟩; rw [HNN.out] at hcell)
            go_region
            go_wp2
            refine ⟨⟨2, by omega, by go_num, by rw [HN.out]; exact hD2.drew⟩, by simp only [intOf]; omega⟩
          · have hm : (natS L (mkS L 1) 1 : Int) ≠ 70 := fun e => hq (by have : markB 1 = 70 := rfl; omega)
            have q1 : (((natS L (mkS L 1) 1 : Nat) : Int) == 70) = false := by simpa using hm
            have q2 : (((natS L (mkS L 1) 1 : Nat) : Int) != 70) = true := by simpa using hm
            have HN := Lib.hid (mkS_no hq)
            clear hq hm
            generalize hN : natS L (mkS L 1) 1 = N at *
            have HNN := Lib.hid hN
            clear hN
            go_wp2_with (go_at_call 21; with_reducible refine (HD.out.take1 HV.out).mono ?_; rintro e w2 ⟨b, off, c2, rfl, hD2, hb, hcell⟩; rw [HNN.out] at hcell)
            go_region
            go_wp2_with (go_at_call 22; with_reducible refine (hD2.drew.fail 5 1 (by decide)).mono ?_; rintro e w3 ⟨rfl, hD3⟩)
            refine ⟨⟨2, by omega, by go_num, by rw [HN.out]; exact hD3⟩, by simp only [intOf]; omega⟩
        · have mk : (({ data := #[83, 70, 84, 1] } : ByteArray)[2]'(by decide)).toNat = 84 := rfl
          by_cases hq : natS L (mkS L 2) 1 = markB 2
          · have q1 : (((natS L (mkS L 2) 1 : Nat) : Int) == 84) = true := by rw [hq]; rfl
            have q2 : (((natS L (mkS L 2) 1 : Nat) : Int) != 84) = false := by rw [hq]; rfl
            have HN := Lib.hid (mkS_yes hq)
            clear hq
            generalize hN : natS L (mkS L 2) 1 = N at *
            have HNN := Lib.hid hN
            clear hN
            go_wp2_with (go_at_call 21; with_reducible refine (HD.out.take1 HV.out).mono ?_; rintro e w2 ⟨b, off, c2, rfl, hD2, hb, hcell⟩; rw [HNN.out] at hcell)
            go_region
            go_wp2
            refine ⟨⟨3, by omega, by go_num, by rw [HN.out]; exact hD2.drew⟩, by simp only [intOf]; omega⟩
          · have hm : (natS L (mkS L 2) 1 : Int) ≠ 84 := fun e => hq (by have : markB 2 = 84 := rfl; omega)
            have q1 : (((natS L (mkS L 2) 1 : Nat) : Int) == 84) = false := by simpa using hm
            have q2 : (((natS L (mkS L 2) 1 : Nat) : Int) != 84) = true := by simpa using hm
            have HN := Lib.hid (mkS_no hq)
            clear hq hm
            generalize hN : natS L (mkS L 2) 1 = N at *
            have HNN := Lib.hid hN
            clear hN
            go_wp2_with (go_at_call 21; with_reducible refine (HD.out.take1 HV.out).mono ?_; rintro e w2 ⟨b, off, c2, rfl, hD2, hb, hcell⟩; rw [HNN.out] at hcell)
            go_region
            go_wp2_with (go_at_call 22; with_reducible refine (hD2.drew.fail 5 2 (by decide)).mono ?_; rintro e w3 ⟨rfl, hD3⟩)
            refine ⟨⟨3, by omega, by go_num, by rw [HN.out]; exact hD3⟩, by simp only [intOf]; omega⟩
        · have mk : (({ data := #[83, 70, 84, 1] } : ByteArray)[3]'(by decide)).toNat = 1 := rfl
          by_cases hq : natS L (mkS L 3) 1 = markB 3
          · have q1 : (((natS L (mkS L 3) 1 : Nat) : Int) == 1) = true := by rw [hq]; rfl
            have q2 : (((natS L (mkS L 3) 1 : Nat) : Int) != 1) = false := by rw [hq]; rfl
            have HN := Lib.hid (mkS_yes hq)
            clear hq
            generalize hN : natS L (mkS L 3) 1 = N at *
            have HNN := Lib.hid hN
            clear hN
            go_wp2_with (go_at_call 21; with_reducible refine (HD.out.take1 HV.out).mono ?_; rintro e w2 ⟨b, off, c2, rfl, hD2, hb, hcell⟩; rw [HNN.out] at hcell)
            go_region
            go_wp2
            refine ⟨⟨4, by omega, by go_num, by rw [HN.out]; exact hD2.drew⟩, by simp only [intOf]; omega⟩
          · have hm : (natS L (mkS L 3) 1 : Int) ≠ 1 := fun e => hq (by have : markB 3 = 1 := rfl; omega)
            have q1 : (((natS L (mkS L 3) 1 : Nat) : Int) == 1) = false := by simpa using hm
            have q2 : (((natS L (mkS L 3) 1 : Nat) : Int) != 1) = true := by simpa using hm
            have HN := Lib.hid (mkS_no hq)
            clear hq hm
            generalize hN : natS L (mkS L 3) 1 = N at *
            have HNN := Lib.hid hN
            clear hN
            go_wp2_with (go_at_call 21; with_reducible refine (HD.out.take1 HV.out).mono ?_; rintro e w2 ⟨b, off, c2, rfl, hD2, hb, hcell⟩; rw [HNN.out] at hcell)
            go_region
            go_wp2_with (go_at_call 22; with_reducible refine (hD2.drew.fail 5 3 (by decide)).mono ?_; rintro e w3 ⟨rfl, hD3⟩)
            refine ⟨⟨4, by omega, by go_num, by rw [HN.out]; exact hD3⟩, by simp only [intOf]; omega⟩
      · obtain rfl : k = 4 := by omega
        clear hlt hk hD
        obtain ⟨wo, rfl⟩ : ∃ wo : World, wo = wr := ⟨_, rfl⟩
        have HM := Lib.hid (HD.out.box rdT_P)
        clear HD
        go_upto_block 2 with (go_at_call 23; with_reducible refine (HM.out.of' (countThsP w.heap.size HM.out.size (HM.out.bytes HV.out) HM.out.d0.rd)).mono ?_; rintro e w1 ⟨u, rfl, hM1, rfl⟩)
        clear HM
        have hn1 := cntV_le L (mkS L 4) 1 16
        have hn2 := cntV_le L (dths L).1 1 32
        go_wp2_with fail
        go_loopw [40] (fun i wr => ∃ (k : Nat) (TV : Value), k ≤ cntV L (mkS L 4) 1 16 ∧ i = .int .i64 k ∧ DM w 60 (w.heap.size + 1) (.slice A L.length c) wo.heap.size TV (.slice none 0 0) (thsS L k (ds1 L)).2 [] (thsS L k (ds1 L)).1 wr) (fun i _ => cntV L (mkS L 4) 1 16 - (intOf i).toNat)
        case atStart => exact ⟨0, _, Nat.zero_le _, rfl, hM1⟩
        case round =>
          clear hM1
          obtain ⟨k, TV, hk, rfl, hM⟩ := hrel
          by_cases hlt : k < cntV L (mkS L 4) 1 16
          · have hsn : thsS L (k + 1) (ds1 L) = (takeS L (thsS L k (ds1 L)).1 8, (thsS L k (ds1 L)).2 ++ [i64 (natS L (thsS L k (ds1 L)).1 8)]) := rfl
            have hl2 := thsS_len L k (ds1 L)
            have HSN := Lib.hid hsn
            have HM := Lib.hid hM
            obtain ⟨y0, y1, f0, f1⟩ := hM.cells
            clear hsn hM
            generalize (thsS L k (ds1 L)).2 = ths at *
            generalize (thsS L k (ds1 L)).1 = t0 at *
            have hpl : ths.length ≤ 16 := by omega
            clear hl2
            go_wp2_with fail
            go_region_law (first
              | (fail_if_success (have _t := H7)
                 refine step_call2 rfl _ (.tmp 46) (.const (.int .i64 8)) _ Tryd.func24 (by kernel_rfl) rfl rfl (HM.out.drew.of' (number8P w.heap.size HM.out.drew.size (HM.out.drew.bytes HV.out) HM.out.drew.d0.rd)) ?_
                 rintro u7 w7 ⟨H7, rfl⟩
                 have l7 := H7.bm.lt
                 obtain ⟨x0, x1, e0, e1⟩ := H7.cells)
              | (have H7' := H7
                 fail_if_success (have _t := hown)
                 refine step_append_lies _ (by rfl) (.tmp 43) (.tmp 48) 22 (by rfl) w.heap.size 2 i6 (.int .i64 0) 1 8 Tryd.underlying22 hi6 z60 z61 z62 rfl (by decide) TV ths.length _ (by rfl) (H7.ot.alloc _) ⟨w7.heap.size, 0, none⟩ 1 1 [.int .i64 (i64 (natS L t0 8))] (by rfl) rfl (World.news_of_block (Whl.new w7 2 #[.int .i64 (i64 (natS L t0 8))])) (by intro u hu; simp at hu; rcases hu with rfl; rfl) (by decide) (by unfold maxLen; omega) (by omega) (Nat.le_trans H7.size (by simp)) _ rfl ?_
                 intro g2 cap w8 hown hgrow hat hlt8
                 have H9 := H7.moreT (x := i64 (natS L t0 8)) hgrow hown
                 have bm8 := (grown_bm (H7.alloc (.cells #[.int .i64 (i64 (natS L t0 8))] 2)) (H7.ot.alloc _) (by decide) H7.tk.i hgrow).2
                 have l8 := bm8.lt
                 obtain ⟨x0, x1, e0, e1⟩ := Whl.two bm8))
            all_goals go_wp2
            all_goals refine ⟨⟨k + 1, _, by omega, by go_num, by rw [HSN.out]; exact H9⟩, by simp only [intOf]; omega⟩
          · obtain rfl : k = cntV L (mkS L 4) 1 16 := by omega
            have hths : thsS L (cntV L (mkS L 4) 1 16) (ds1 L) = dths L := rfl
            rw [hths] at hM
            clear hths hlt hk
            have HM := Lib.hid hM
            clear hM
            go_upto_block 4 with (go_at_call 23; with_reducible refine (HM.out.of' (countFunP w.heap.size HM.out.size (HM.out.bytes HV.out) HM.out.d0.rd)).mono ?_; rintro e w2 ⟨u, rfl, hM2, rfl⟩)
            clear HM
            go_wp2_with fail
            go_loopw [56] (fun i wr => ∃ (k : Nat) (FV : Value) (fs : List FuncD), k ≤ cntV L (dths L).1 1 32 ∧ i = .int .i64 k ∧ fs.length = k ∧ (∀ j, j < k → bare (nthF fs j) = bare (nthF (fsS L k (ds2 L)).2 j)) ∧ DM w 60 (w.heap.size + 1) (.slice A L.length c) wo.heap.size TV FV (dths L).2 fs (fsS L k (ds2 L)).1 wr) (fun i _ => cntV L (dths L).1 1 32 - (intOf i).toNat)
            case atStart => exact ⟨0, _, [], Nat.zero_le _, rfl, rfl, fun j hj => absurd hj (Nat.not_lt_zero _), hM2⟩
            case round =>
              clear hM2
              obtain ⟨k, FV, fs, hk, rfl, hfl, hfs, hM⟩ := hrel
              by_cases hlt : k < cntV L (dths L).1 1 32
              · have hsn : fsS L (k + 1) (ds2 L) = (funS L (fsS L k (ds2 L)).1, (fsS L k (ds2 L)).2 ++ [funD L (fsS L k (ds2 L)).1]) := rfl
                have hl2 := fsS_len L k (ds2 L)
                have HSN := Lib.hid hsn
                have HM := Lib.hid hM
                have HFS := Lib.hid hfs
                have HL2 := Lib.hid hl2
                obtain ⟨y0, y1, f0, f1⟩ := hM.cells
                clear hsn hM hfs
                generalize (fsS L k (ds2 L)).2 = fs2 at *
                generalize (fsS L k (ds2 L)).1 = t0 at *
                have hpl : fs.length ≤ 32 := by omega
                clear hl2
                subst hfl
                go_wp2_with fail
                go_region_law (first
                  | (fail_if_success (have _t := H7)
                     refine step_call1 rfl _ (.tmp 60) _ Tryd.func25 (by kernel_rfl) rfl rfl (HM.out.drew.fn HV.out) ?_
                     rintro u7 w7 ⟨x, rfl, hx, hox, H7⟩
                     have HX := Lib.hid hx
                     clear hx
                     have l7 := H7.bm.lt
                     obtain ⟨x0, x1, e0, e1⟩ := H7.cells)
                  | (have H7' := H7
                     fail_if_success (have _t := hown)
                     refine step_append_lies _ (by rfl) (.tmp 59) (.tmp 62) 23 (by rfl) w.heap.size 45 iF (.agg #[.string .empty, .slice none 0 0, .int .i64 0, .int .i64 0, .slice none 0 0]) 5 80 Tryd.underlying23 hiF zF0 zF1 zF2 rfl (by decide) FV fs.length _ (by rfl) (H7.of.alloc _) ⟨w7.heap.size, 0, none⟩ 1 1 ((List.range 5).map (funcV x)) (by rfl) (by simp) (cell_five_new _ _ _ rfl) (fun u hu => by obtain ⟨i, _, rfl⟩ := List.mem_map.1 hu; exact funcV_one _ _) (by decide) (by unfold maxLen; omega) (by omega) (Nat.le_trans H7.size (by simp)) _ rfl ?_
                     intro g2 cap w8 hown hgrow hat hlt8
                     have H9 := H7.moreF hox hgrow hown
                     have bm8 := (grown_bm (H7.alloc (FBox x)) (H7.of.alloc _) (by decide) H7.tk.f hgrow).2
                     have l8 := bm8.lt
                     obtain ⟨x0, x1, e0, e1⟩ := Whl.two bm8))
                all_goals go_wp2
                all_goals refine ⟨⟨fs.length + 1, _, fs ++ [x], by omega, by go_num, by simp, by rw [HSN.out]; exact bare_snoc HL2.out HFS.out HX.out, by rw [HSN.out]; exact H9⟩, by simp only [intOf]; omega⟩
              · obtain rfl : k = cntV L (dths L).1 1 32 := by omega
                have hdfs : fsS L (cntV L (dths L).1 1 32) (ds2 L) = dfs L := rfl
                rw [hdfs] at hM hfs
                have HFS := Lib.hid hfs
                have hdl : (dfs L).2.length = fs.length := by rw [hfl]; exact fsS_len _ _ _
                have HDL := Lib.hid hdl
                have HFL := Lib.hid hfl
                clear hfl
                have hds := decS_of hlen
                obtain ⟨y0, y1, f0, f1⟩ := hM.cells
                have lm := hM.bm.lt
                have r0 : wr.cell? ⟨w.heap.size, 0, none⟩ = some (.slice none 0 0) := hM.d0.br.cell 0
                have r1 : wr.cell? ⟨w.heap.size, 1, none⟩ = some (.slice none 0 0) := hM.d0.br.cell 1
                have s0 := hM.d0.br.frozen 0
                have s1 := hM.d0.br.frozen 1
                have lr := hM.d0.br.lt
                clear hlt hk hdfs hdl hfs
                have HM := Lib.hid hM
                cases hs : (dfs L).1 with
                | ok a =>
                  rw [hs] at hM
                  obtain ⟨p3, hW, ha⟩ := hM.d0.rd.okCells
                  have g1 := rd1 hW
                  have g2 := rd2 hW
                  have lg := hW.lt
                  by_cases hat : a < L.length
                  · have hds2 : decS L = .bad 7 a := by rw [hds, hs, restS, if_pos hat]
                    have HDS := Lib.hid hds2
                    have HM2 := Lib.hid hM
                    clear hds hds2 hW hM hs r0 r1 s0 s1 lr y0 y1 f0 f1 lm
                    go_wp2_with fail
                    go_region_law (first
                      | (fail_if_success (have _t := hM9)
                         refine step_call rfl _ (.tmp 76) (.const (.int .i64 7)) (.tmp 81) _ Tryd.func22 (by kernel_rfl) rfl rfl (HM2.out.drew.fail3 7 (a : Int) (by decide)) ?_
                         rintro u9 w9 hM9))
                    rw [failS] at hM9
                    clear g1 g2 lg
                    obtain ⟨a9, hW9, hx9⟩ := hM9.d0.rd.badCells
                    have h2 := rd2 hW9
                    have h3 := rd3 hW9
                    have l9 := hW9.lt
                    have q1 := bad_ne hx9
                    obtain ⟨r0, r1, s0, s1, lr⟩ := hM9.ends
                    have HE := Lib.hid hM9
                    clear hW9 hx9
                    go_wp2
                    go_region
                    go_wp2
                    refine ret_of ?_ rfl
                    have hb := HE.out.d0.below
                    refine ⟨.tuple #[.agg #[.slice none 0 0, .slice none 0 0], .int .i64 7, .int .i64 a], ?_, decOk_bad (by rw [HDS.out]; rfl) (by rw [HDS.out]; rfl) ?_⟩
                    · simp [results, Tryd.results13, go_sem, r0, r1, s0, s1, lr]
                    · repeat (first | exact hb | exact Below.refl _ _ | with_reducible apply Below.drew | (with_reducible refine Below.setCell ?_ (by simp) _))
                  · have hds2 : decS L = .ok a := by rw [hds, hs, restS, if_neg hat]
                    have HDS := Lib.hid hds2
                    have HM2 := Lib.hid hM
                    have hal : decide ((a : Int) < (L.length : Int)) = false := by simp; omega
                    obtain ⟨⟨A1, c1, rfl⟩, ⟨A2, c2, rfl⟩⟩ := hM.slices
                    clear hds hds2 hW hM hs HM
                    go_wp2
                    refine ret_of ?_ rfl
                    obtain ⟨v1, v2, v3, v4⟩ := HM2.out.finish (.slice A1 (dths L).2.length c1) (.slice A2 fs.length c2)
                    refine ⟨.tuple #[(⟨A1, c1, (dths L).2, A2, c2, fs⟩ : ModD).val, .int .i64 0, .int .i64 0], ?_, ⟨A1, c1, (dths L).2, A2, c2, fs⟩, by rw [HDS.out]; rfl, ⟨?_, ?_, fun k => ?_⟩, ⟨v2, v3, v4⟩, v1⟩
                    · simp [results, Tryd.results13, go_sem, r0, r1, s0, s1, lr]
                    · unfold decM; rw [HDS.out]
                    · unfold decM; rw [HDS.out]; exact HDL.out.symm
                    · have e : decM L = ⟨none, 0, (dths L).2, none, 0, (dfs L).2⟩ := by unfold decM; rw [HDS.out]
                      rw [e]
                      rcases Nat.lt_or_ge k fs.length with q | q
                      · exact HFS.out k (by have := HFL.out; omega)
                      · have h1 := HDL.out
                        show bare (nthF fs k) = bare (nthF (dfs L).2 k)
                        simp only [nthF, List.getD_eq_getElem?_getD, List.getElem?_eq_none q, List.getElem?_eq_none (show (dfs L).2.length ≤ k by omega)]
                | bad x y =>
                  have hds2 : decS L = .bad x y := by rw [hds, hs]; rfl
                  have HDS := Lib.hid hds2
                  rw [hs] at hM
                  obtain ⟨a8, hW8, hx8⟩ := hM.d0.rd.badCells
                  have g1 := rd1 hW8
                  have lg := hW8.lt
                  have hM8 := hM
                  have HM8 := Lib.hid hM8
                  clear hds hds2 hs hM r0 r1 s0 s1 lr y0 y1 f0 f1 lm HM hW8 hx8
                  by_cases hat : a8 < (L.length : Int)
                  · clear hM8
                    go_wp2_with fail
                    go_region_law (first
                      | (fail_if_success (have _t := hM9)
                         refine step_call rfl _ (.tmp 76) (.const (.int .i64 7)) (.tmp 81) _ Tryd.func22 (by kernel_rfl) rfl rfl (HM8.out.drew.fail3 7 a8 (by decide)) ?_
                         rintro u9 w9 hM9))
                    rw [failS] at hM9
                    clear g1 lg
                    obtain ⟨a9, hW9, hx9⟩ := hM9.d0.rd.badCells
                    have h2 := rd2 hW9
                    have h3 := rd3 hW9
                    have l9 := hW9.lt
                    have q1 := bad_ne hx9
                    obtain ⟨r0, r1, s0, s1, lr⟩ := hM9.ends
                    have HE := Lib.hid hM9
                    clear hW9 hx9
                    go_wp2
                    go_region
                    go_wp2
                    refine ret_of ?_ rfl
                    have hb := HE.out.d0.below
                    refine ⟨.tuple #[.agg #[.slice none 0 0, .slice none 0 0], .int .i64 x, .int .i64 y], ?_, decOk_bad (by rw [HDS.out]; rfl) (by rw [HDS.out]; rfl) ?_⟩
                    · simp [results, Tryd.results13, go_sem, r0, r1, s0, s1, lr]
                    · repeat (first | exact hb | exact Below.refl _ _ | with_reducible apply Below.drew | (with_reducible refine Below.setCell ?_ (by simp) _))
                  · obtain ⟨a9, hW9, hx9⟩ := hM8.d0.rd.badCells
                    have h2 := rd2 hW9
                    have h3 := rd3 hW9
                    have l9 := hW9.lt
                    have q1 := bad_ne hx9
                    obtain ⟨r0, r1, s0, s1, lr⟩ := hM8.ends
                    have HE := Lib.hid hM8
                    clear hW9 hx9
                    go_wp2
                    go_region
                    go_wp2
                    refine ret_of ?_ rfl
                    have hb := HE.out.d0.below
                    refine ⟨.tuple #[.agg #[.slice none 0 0, .slice none 0 0], .int .i64 x, .int .i64 y], ?_, decOk_bad (by rw [HDS.out]; rfl) (by rw [HDS.out]; rfl) ?_⟩
                    · simp [results, Tryd.results13, go_sem, r0, r1, s0, s1, lr]
                    · repeat (first | exact hb | exact Below.refl _ _ | with_reducible apply Below.drew | (with_reducible refine Below.setCell ?_ (by simp) _))
end Go.Proofs.YtjacfeohpofhpaaDoor
