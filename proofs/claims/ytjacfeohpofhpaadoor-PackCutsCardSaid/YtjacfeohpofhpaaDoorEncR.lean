/-
  Layer 11 (pack): the walk of the reference's Encode.
-/
import Derived.Test.YtjacfeohpofhpaaDoorEncW
import Derived.Test.YtjacfeohpofhpaaDoorMayR
namespace Go.Proofs.YtjacfeohpofhpaaDoor
open Go.RowKit
set_option linter.unusedSimpArgs false
set_option linter.unusedVariables false
theorem u64_nat (z : Int) : ∃ n : Nat, RowKit.Hid ((n : Int) = z % 18446744073709551616) ∧ IntKind.u64.wrap z = (n : Int) :=
  ⟨(z % 18446744073709551616).toNat, Lib.hid (show (((z % 18446744073709551616).toNat : Nat) : Int) = z % 18446744073709551616 by omega), by rw [IntKind.wrap_u64]; omega⟩
theorem cell1 {w : World} {g : Nat} {t : TypeId} {a b c d e : Value} (h : Whl w g t #[a, b, c, d, e]) : w.cell? ⟨g, 1, none⟩ = some b := h.cell 1
theorem encStartR {w w1 : World} {TA FA : Option Addr} {m : ModD} (B1 : Below w.heap.size w w1) (R1 : Whl w1 w.heap.size 25 #[.slice TA m.ths.length m.tc, .slice FA m.funcs.length m.fc])
    (R2 : Whl w1 (w.heap.size + 1) 30 #[.int .i64 0, .int .i64 0, .int .i64 0]) {z : Int} (hz : ((byteB (m.ths.length : Int)).toNat : Int) = z) :
    EM w TA FA m (.slice (some ⟨w1.heap.size, 0, none⟩) 5 5) (encT m 0) (w1.alloc (.cells #[.int .u8 83, .int .u8 70, .int .u8 84, .int .u8 1, .int .u8 z] 5)) := by
  subst hz
  exact ⟨below_alloc B1 _, World.ownsRow_lit (base := w.heap.size) (e := 5) (size := 1) w1 #[u8V 83, u8V 70, u8V 84, u8V 1, u8V (byteB m.ths.length)] 5 B1.size (by decide) rfl, R1.alloc _, R2.alloc _⟩
set_option maxHeartbeats 16000000 in
set_option maxRecDepth 100000 in
theorem encodeR (m : ModD) (w : World) (wm : m.Wf) (hm : ModOk w w.heap.size m) (hmay : mayD m = ⟨0, 0, 0⟩) : Calls Tryd.prog 9 #[m.val] w fun e w' =>
    (∃ v, e = .returned (.tuple #[v, .agg #[.int .i64 0, .int .i64 0, .int .i64 0]]) ∧ OwnB w' w.heap.size v (encM m)) ∧ Below w.heap.size w w' := by
  have hs := small_of hmay
  have hlen := encFs_len hs
  have h1 := hs.ths
  have h2 := hs.funcs
  have HP := Lib.hid (show ∀ W, ModOk W W.heap.size m → Calls Tryd.prog 18 #[m.val] W fun e w' => e = .returned (.agg #[.int .i64 0, .int .i64 0, .int .i64 0]) ∧ Below W.heap.size W w' from fun W hm => by
    have := mayR m W wm hm
    rwa [hmay] at this)
  have HM := Lib.hid hm
  have HS := Lib.hid hs
  have HL := Lib.hid hlen
  clear hm hs hlen hmay
  obtain ⟨TA, hTA⟩ : ∃ A, m.ta = A := ⟨_, rfl⟩
  obtain ⟨FA, hFA⟩ : ∃ A, m.fa = A := ⟨_, rfl⟩
  unfold ModD.val at HP ⊢
  rw [hTA, hFA] at HP ⊢
  have HTA := Lib.hid hTA
  have HFA := Lib.hid hFA
  clear hTA hFA
  obtain ⟨i0, hi, hz0, hz1, hz2⟩ := info_parts infoB
  have B0 : Below w.heap.size w ((w.alloc (.cells #[.slice TA m.ths.length m.tc, .slice FA m.funcs.length m.fc] 25)).alloc (.cells #[.int .i64 0, .int .i64 0, .int .i64 0] 30)) := below_alloc (below_alloc (Below.refl _ _) _) _
  have hbt : ((byteB (m.ths.length : Int)).toNat : Int) = (m.ths.length : Int) := by rw [byteB_nat]; omega
  have HBT := Lib.hid hbt
  clear hbt
  go_enter Tryd.func9, Tryd.ntmps9
  go_upto_block 0 with
    (go_at_call 18; with_reducible refine (HP.out _ ((HM.out.below B0 (Nat.le_refl _)).more B0.size)).mono ?_; rintro e w1 ⟨rfl, hb1⟩; have R1 := ((Whl.new w 25 #[.slice TA m.ths.length m.tc, .slice FA m.funcs.length m.fc]).alloc (.cells #[.int .i64 0, .int .i64 0, .int .i64 0] 30)).below' hb1; have R2 := (Whl.new1 w (.cells #[.slice TA m.ths.length m.tc, .slice FA m.funcs.length m.fc] 25) 30 #[.int .i64 0, .int .i64 0, .int .i64 0]).below' hb1; have B1 := below_step B0 hb1; have l1 := R1.lt; have l2 := R2.lt; have c0 := R1.cell 0; have c1 := R1.cell 1)
  have hE := encStartR (below_alloc B1 (.cells #[.int .i64 0, .int .i64 0, .int .i64 0] 30)) (R1.alloc (.cells #[.int .i64 0, .int .i64 0, .int .i64 0] 30)) (R2.alloc (.cells #[.int .i64 0, .int .i64 0, .int .i64 0] 30)) HBT.out
  rw [World.size_alloc] at hE
  clear R1 R2 B1 l1 l2 c0 c1 HP HBT
  go_cut [5] (fun s W => EM w TA FA m s (encT m m.ths.length) W)
  case first =>
    obtain ⟨d0, d1⟩ := hE.cells
    have l3 := hE.bm.lt
    go_wp2_with fail
    go_loopw [5, 6] (fun s i wr => ∃ k : Nat, k ≤ m.ths.length ∧ i = .int .i64 k ∧ EM w TA FA m s (encT m k) wr) (fun _ i _ => m.ths.length - (intOf i).toNat)
    case atStart => exact ⟨0, Nat.zero_le _, rfl, hE⟩
    case round =>
      clear hE d0 d1 l3
      obtain ⟨k, hk, rfl, hE⟩ := hrel
      obtain ⟨d0, d1⟩ := hE.cells
      have l3 := hE.bm.lt
      by_cases hlt : k < m.ths.length
      · obtain ⟨tb, tf, rfl, hc⟩ := nthI_ths HM.out hE.below HTA.out hlt
        have hlen := encT_len m k
        have hsz := hE.size
        have HE := Lib.hid hE
        have hlt2 := (HE.out.below).size
        obtain ⟨un, HU, hw⟩ := u64_nat (nthI m.ths k)
        go_wp2_with (go_at_call 19; with_reducible refine (num8R _ (encT m k) (nthI m.ths k) un w.heap.size _ HU.out hsz (by omega) HE.out.own).mono ?_; rintro e w3 ⟨v3, rfl, hG⟩; have hE3 := HE.out.grow hG)
        refine ⟨⟨k + 1, by omega, by go_num, hE3⟩, by simp [intOf]; omega⟩
      · obtain rfl : k = m.ths.length := by omega
        go_wp2
        go_meet
        exact hE
  case rest =>
    clear hE
    have hE := hcut
    obtain ⟨d0, d1⟩ := hE.cells
    have l3 := hE.bm.lt
    have hsz := hE.size
    have hlen := encT_len m m.ths.length
    have hbt : ((byteB (m.funcs.length : Int)).toNat : Int) = (m.funcs.length : Int) := by rw [byteB_nat]; omega
    have HBT := Lib.hid hbt
    clear hbt
    have HE := Lib.hid hE
    clear hcut hE
    go_upto_block 2 with (
      at_builtin
      refine wpList_append_lies _ rfl _ _ _ rfl w.heap.size 5 i0 (.int .u8 0) 1 1 Tryd.underlying27 hi hz0 hz1 hz2 rfl (by decide) _ _ _ rfl (HE.out.own.alloc _) ⟨wc.heap.size, 0, none⟩ 1 1 [u8V (byteB m.funcs.length)] rfl rfl ?c2 (by simp [Value.oneCell']) (by decide) (by unfold maxLen; omega) (by omega) (by simp; omega) _ rfl ?_
      case c2 =>
        simp only [u8V, HBT.out]
        exact cell_one_new wc (.int .u8 (m.funcs.length : Int)) 5
      intro g cap w3 hown hgrow hat hlt2
      have hE3 := (HE.out.alloc _).step (x := [byteB m.funcs.length]) hgrow hown)
    clear d0 d1 l3 hown hgrow hat
    simp only [hlen] at hE3
    rw [show encT m m.ths.length ++ [byteB (m.funcs.length : Int)] = encFs m 0 from rfl] at hE3
    clear HE hsz hlen HBT
    go_wp2_with fail
    go_loopw [5, 7] (fun s i wr => ∃ k : Nat, k ≤ m.funcs.length ∧ i = .int .i64 k ∧ EM w TA FA m s (encFs m k) wr) (fun _ i _ => m.funcs.length - (intOf i).toNat)
    case atStart => exact ⟨0, Nat.zero_le _, rfl, hE3⟩
    case round =>
      clear hE3
      obtain ⟨k, hk, rfl, hE⟩ := hrel
      obtain ⟨d0, d1⟩ := hE.cells
      have l3 := hE.bm.lt
      by_cases hlt : k < m.funcs.length
      · have hfs := HM.out.funcs
        have hff := HM.out.each k hlt
        rw [HFA.out] at hfs
        obtain ⟨fb, fo, rfl, hfb, y0, y1, y2, y3, y4⟩ := funcs_cells (hfs.below hE.below (Nat.le_refl _)) hlt
        have hll := HL.out (k + 1) hlt
        have hl0 : (encFs m (k + 1)) = encFs m k ++ encF (nthF m.funcs k) := rfl
        have n1 := HS.out.name k hlt
        have n2 := HS.out.params k hlt
        have n3 := HS.out.code k hlt
        clear hfs
        generalize hf : nthF m.funcs k = f at *
        rw [hl0, List.length_append, encF_len] at hll
        obtain ⟨PA, hPA⟩ : ∃ A, f.pa = A := ⟨_, rfl⟩
        obtain ⟨CA, hCA⟩ : ∃ A, f.ca = A := ⟨_, rfl⟩
        rw [hPA] at y1
        rw [hCA] at y4
        have HPA := Lib.hid hPA
        have HCA := Lib.hid hCA
        have HFF := Lib.hid hff
        have HF := Lib.hid hf
        have HL0 := Lib.hid hl0
        clear hPA hCA hff hf hl0
        have hsz := hE.size
        have hE1 := hE.alloc (.cells (fCells f PA CA) 45)
        have hW1 := Whl.new wr 45 (fCells f PA CA)
        have hbn : ((byteB (f.name.size : Int)).toNat : Int) = (f.name.size : Int) := by rw [byteB_nat]; omega
        have hwn : IntKind.u8.wrap (f.name.size : Int) = (f.name.size : Int) := by rw [wrap_byte, hbn]
        have hbp : ((byteB (f.params.length : Int)).toNat : Int) = (f.params.length : Int) := by rw [byteB_nat]; omega
        have HBN := Lib.hid hbn
        have HBP := Lib.hid hbp
        have HWN := Lib.hid hwn
        clear hbn hbp hwn
        have l5 := hW1.lt
        have b0 : (wr.alloc (.cells (fCells f PA CA) 45)).cell? ⟨wr.heap.size, 0, none⟩ = some (.string f.name) := hW1.cell 0
        have hLl : ((encFs m k ++ [byteB f.name.size]) ++ f.name.data.toList).length ≤ (encFs m k).length + 1 + f.name.size := by
          have : f.name.data.toList.length = f.name.size := rfl
          simp only [List.length_append, List.length_cons, List.length_nil, this]; omega
        go_upto_region 14 with fail
        clear y0 y1 y2 y3 y4 hE B0 d0 d1 l3
        have hwn := HWN.out
        clear HWN
        go_upto_region 15 with (
          at_builtin
          refine wpList_append_lies _ rfl _ _ _ rfl w.heap.size 5 i0 (.int .u8 0) 1 1 Tryd.underlying27 hi hz0 hz1 hz2 rfl (by decide) _ _ _ rfl (hE1.own.alloc _) ⟨wr.heap.size + 1, 0, none⟩ 1 1 [u8V (byteB f.name.size)] rfl rfl (new1_cell (W := wr.alloc (.cells (fCells f PA CA) 45)) HBN.out (by simp)) (by simp [Value.oneCell']) (by decide) (by unfold maxLen; omega) (by omega) (by simp; omega) _ rfl ?_
          intro g cap w2 hown hgrow hat hlt2
          have hE2 := (hE1.alloc _).step (x := [byteB f.name.size]) hgrow hown
          have hW2 := (hE1.alloc _).bytes (by decide) (hW1.alloc _) hgrow
          have l6 := hW2.lt
          have b1 : w2.cell? ⟨wr.heap.size, 0, none⟩ = some (.string f.name) := hW2.cell 0)
        clear hE1 hW1 l5 b0 hown hgrow hat hwn HBN
        go_upto_region 16 with (
          at_builtin
          refine Lib.wpList_append_own_string _ rfl _ _ _ _ rfl w.heap.size 5 i0 Tryd.underlying27 Tryd.underlying9 hi hz0 hz1 hz2 _ _ _ rfl hE2.own f.name rfl (by unfold maxLen; simp; omega) (by simp; omega) hE2.size ?_
          intro v6 w6 hown6 hgrow6 _
          have hE3 := hE2.step (x := f.name.data.toList) hgrow6 hown6
          have hW3 := hE2.bytes (by decide) hW2 hgrow6
          have l7 := hW3.lt
          have b2 : w6.cell? ⟨wr.heap.size, 1, none⟩ = some (.slice PA f.params.length f.pc) := hW3.cell 1)
        have hL : encFs m k ++ headF f = (encFs m k ++ [byteB f.name.size]) ++ f.name.data.toList ++ [byteB f.params.length] := by simp [headF]
        clear hE2 hW2 l6 b1 hown6 hgrow6
        generalize (encFs m k ++ [byteB f.name.size]) ++ f.name.data.toList = L1 at *
        go_upto_block 4 with (
          at_builtin
          refine wpList_append_lies _ rfl _ _ _ rfl w.heap.size 5 i0 (.int .u8 0) 1 1 Tryd.underlying27 hi hz0 hz1 hz2 rfl (by decide) _ _ _ rfl (hE3.own.alloc _) ⟨w6.heap.size, 0, none⟩ 1 1 [u8V (byteB f.params.length)] rfl rfl (new1_cell (W := w6) HBP.out rfl) (by simp [Value.oneCell']) (by decide) (by unfold maxLen; omega) (by omega) (by have := hE3.size; simp; omega) _ rfl ?_
          intro g cap w5 hown hgrow hat hlt2
          have hE4 := (hE3.alloc _).step (x := [byteB f.params.length]) hgrow hown
          have hW4 := (hE3.alloc _).bytes (by decide) (hW3.alloc _) hgrow)
        rw [← hL] at hE4
        have hL2 : (encFs m k ++ headF f).length ≤ (encFs m k).length + 2 + f.name.size := by rw [List.length_append, headF_len]; omega
        have hLF : encFs m k ++ encF f = ((encFs m k ++ headF f) ++ encPs f f.params.length) ++ midF f ++ encC f f.code.length := by simp [encF, List.append_assoc]
        rw [hLF] at HL0
        generalize encFs m k ++ headF f = L2 at *
        generalize wr.heap.size = gf at *
        clear hL hLl b2 l7 hE3 hW3 hown hgrow hat HBP hLF
        go_cut [5] (fun s W => EM w TA (some ⟨fb, fo, none⟩) m s (L2 ++ encPs f f.params.length) W ∧ Whl W gf 45 (fCells f PA CA))
        case first =>
          go_wp2_with fail
          go_loopw [5, 9] (fun s i W => ∃ j : Nat, j ≤ f.params.length ∧ i = .int .i64 j ∧ EM w TA (some ⟨fb, fo, none⟩) m s (L2 ++ encPs f j) W ∧ Whl W gf 45 (fCells f PA CA)) (fun _ i _ => f.params.length - (intOf i).toNat)
          case atStart => exact ⟨0, Nat.zero_le _, rfl, by simpa [encPs] using hE4, hW4⟩
          case round =>
            clear hE4 hW4
            obtain ⟨j, hj, rfl, hE, hW⟩ := hrel
            have l5 := hW.lt
            have b1 : wr.cell? ⟨gf, 1, none⟩ = some (.slice PA f.params.length f.pc) := hW.cell 1
            by_cases hlt2 : j < f.params.length
            · have hpp := HFF.out.params
              rw [HPA.out] at hpp
              obtain ⟨pb, po, rfl, hpb, hpc⟩ := hpp (by omega)
              have z0 : wr.cell? ⟨pb, po + j * 2, none⟩ = some (.int .i64 (nthS f.params j).lo) := (hE.below.cell (p := ⟨pb, po + j * 2, none⟩) hpb).trans (hpc j hlt2 0 (by omega))
              have z1 : ∀ W2, Below w.heap.size w W2 → W2.cell? ⟨pb, po + j * 2 + 1, none⟩ = some (.int .i64 (nthS f.params j).hi) := fun W2 h => (h.cell (p := ⟨pb, po + j * 2 + 1, none⟩) hpb).trans (hpc j hlt2 1 (by omega))
              have Z1 := Lib.hid z1
              clear z1
              have hnx : L2 ++ encPs f (j + 1) = (L2 ++ encPs f j) ++ encNum (nthS f.params j).lo 8 ++ encNum (nthS f.params j).hi 8 := by simp [encPs, encSp]
              have hlp : (L2 ++ encPs f j).length ≤ L2.length + 16 * j := by rw [List.length_append, encPs_len]; omega
              clear hpc hpp
              generalize (nthS f.params j).lo = pl at *
              generalize (nthS f.params j).hi = ph at *
              generalize L2 ++ encPs f j = L3 at *
              have hln : (L3 ++ encNum pl 8).length ≤ L3.length + 8 := by rw [List.length_append, encNum_len]; omega
              have hsz1 := hE.size
              obtain ⟨ul, HUL, hwl⟩ := u64_nat pl
              obtain ⟨uh, HUH, hwh⟩ := u64_nat ph
              go_wp2_with (first
                | (go_at_call 19; with_reducible refine (num8R _ L3 pl ul w.heap.size _ HUL.out hsz1 (by omega) hE.own).mono ?_; rintro e w6 ⟨v6, rfl, hG6⟩; have hE6 := hE.grow hG6; have hW6 := hG6.keep _ _ _ (by decide) hW; have l6 := hW6.lt; have b6 := cell1 hW6; have z1 := Z1.out w6 hE6.below; have hsz6 := hE6.size)
                | (go_at_call 19; with_reducible refine (num8R _ (L3 ++ encNum pl 8) ph uh w.heap.size _ HUH.out hsz6 (by omega) hE6.own).mono ?_; rintro e w7 ⟨v7, rfl, hG7⟩; have hE7 := hE6.grow hG7; have hW7 := hG7.keep _ _ _ (by decide) hW6))
              rw [← hnx] at hE7
              refine ⟨⟨j + 1, by omega, by go_num, hE7, hW7⟩, by simp [intOf]; omega⟩
            · obtain rfl : j = f.params.length := by omega
              go_wp2
              go_meet
              exact ⟨hE, hW⟩
        case rest =>
          clear hE4 hW4
          obtain ⟨hE2, hW2⟩ := hcut
          have hL3 : (L2 ++ encPs f f.params.length).length ≤ L2.length + 16 * f.params.length := by rw [List.length_append, encPs_len]; omega
          generalize L2 ++ encPs f f.params.length = L3 at *
          have hwr := wrap_byte f.regs
          have b2 : wc.cell? ⟨gf, 2, none⟩ = some (.int .i64 f.regs) := hW2.cell 2
          have l5 := hW2.lt
          have hsz2 := hE2.size
          have hMid : L3 ++ midF f = (L3 ++ [byteB f.regs] ++ encNum f.words 2) ++ encNum f.code.length 2 := by simp [midF, List.append_assoc]
          have hL4 : (L3 ++ [byteB f.regs] ++ encNum f.words 2).length ≤ L3.length + 3 := by rw [List.length_append, List.length_append, encNum_len]; simp
          have hL5 : (L3 ++ midF f).length ≤ L3.length + 5 := by rw [List.length_append, midF_len]; omega
          go_upto_region 23 with (
            at_builtin
            refine wpList_append_lies _ rfl _ _ _ rfl w.heap.size 5 i0 (.int .u8 0) 1 1 Tryd.underlying27 hi hz0 hz1 hz2 rfl (by decide) _ _ _ rfl (hE2.own.alloc _) ⟨wc.heap.size, 0, none⟩ 1 1 [u8V (byteB f.regs)] rfl rfl (new1_cell (W := wc) rfl rfl) (by simp [Value.oneCell']) (by decide) (by unfold maxLen; omega) (by omega) (by simp; omega) _ rfl ?_
            intro g cap w6 hown hgrow hat hlt2
            have hE6 := (hE2.alloc _).step (x := [byteB f.regs]) hgrow hown
            have hW6 := (hE2.alloc _).bytes (by decide) (hW2.alloc _) hgrow
            have l6 := hW6.lt
            have x3 := cell3 hW6
            have hsz6 := hE6.size)
          clear hE2 hW2 b2 l5 hsz2 hwr hown hgrow hat
          obtain ⟨uw, HUW, hww⟩ := u64_nat f.words
          go_upto_region 24 with (go_at_call 19; with_reducible refine (num2R _ (L3 ++ [byteB f.regs]) f.words uw w.heap.size _ HUW.out hsz6 (by simp; omega) hE6.own).mono ?_; rintro e w7 ⟨v7, rfl, hG7⟩; have hE7 := hE6.grow hG7; have hW7 := hG7.keep _ _ _ (by decide) hW6; have x4 := cell4 hW7; have l7 := hW7.lt; have hsz7 := hE7.size)
          clear hE6 hW6 l6 x3 hsz6 hG7 hww
          generalize L3 ++ [byteB f.regs] ++ encNum f.words 2 = L4 at *
          obtain ⟨uc, HUC, hww⟩ := u64_nat (f.code.length : Int)
          go_upto_block 6 with (go_at_call 19; with_reducible refine (num2R _ L4 (f.code.length : Int) uc w.heap.size _ HUC.out hsz7 (by omega) hE7.own).mono ?_; rintro e w8 ⟨v8, rfl, hG8⟩; have hE8 := hE7.grow hG8; have hW8 := hG8.keep _ _ _ (by decide) hW7)
          rw [← hMid] at hE8
          generalize L3 ++ midF f = L5 at *
          clear hMid hL4 hE7 hW7 x4 l7 hsz7 hG8 hww
          go_wp2_with fail
          go_loopw [5, 10] (fun s i W => ∃ j : Nat, j ≤ f.code.length ∧ i = .int .i64 j ∧ EM w TA (some ⟨fb, fo, none⟩) m s (L5 ++ encC f j) W ∧ Whl W gf 45 (fCells f PA CA)) (fun _ i _ => f.code.length - (intOf i).toNat)
          case atStart => exact ⟨0, Nat.zero_le _, rfl, by simpa [encC] using hE8, hW8⟩
          case round =>
            clear hE8 hW8
            obtain ⟨j, hj, rfl, hE, hW⟩ := hrel
            have l5 := hW.lt
            have b4 : wr.cell? ⟨gf, 4, none⟩ = some (.slice CA f.code.length f.cc) := cell4 hW
            by_cases hlt2 : j < f.code.length
            · have hpp := HFF.out.code
              rw [HCA.out] at hpp
              obtain ⟨pb, po, rfl, hpb, hpc⟩ := hpp (by omega)
              have z0 : wr.cell? ⟨pb, po + j * 5, none⟩ = some (.int .i64 (nthX f.code j).op) := (hE.below.cell (p := ⟨pb, po + j * 5, none⟩) hpb).trans (hpc j hlt2 0 (by omega))
              have z1 : wr.cell? ⟨pb, po + j * 5 + 1, none⟩ = some (.int .i64 (nthX f.code j).a) := (hE.below.cell (p := ⟨pb, po + j * 5 + 1, none⟩) hpb).trans (hpc j hlt2 1 (by omega))
              have z2 : wr.cell? ⟨pb, po + j * 5 + 2, none⟩ = some (.int .i64 (nthX f.code j).b) := (hE.below.cell (p := ⟨pb, po + j * 5 + 2, none⟩) hpb).trans (hpc j hlt2 2 (by omega))
              have z3 : wr.cell? ⟨pb, po + j * 5 + 3, none⟩ = some (.int .i64 (nthX f.code j).c) := (hE.below.cell (p := ⟨pb, po + j * 5 + 3, none⟩) hpb).trans (hpc j hlt2 3 (by omega))
              have z4 : wr.cell? ⟨pb, po + j * 5 + 4, none⟩ = some (.int .i64 (nthX f.code j).n) := (hE.below.cell (p := ⟨pb, po + j * 5 + 4, none⟩) hpb).trans (hpc j hlt2 4 (by omega))
              have hnx : L5 ++ encC f (j + 1) = (L5 ++ encC f j) ++ [byteB (nthX f.code j).op, byteB (nthX f.code j).a, byteB (nthX f.code j).b, byteB (nthX f.code j).c] ++ encNum (nthX f.code j).n 8 := by simp [encC, encX]
              have hlp : (L5 ++ encC f j).length ≤ L5.length + 12 * j := by rw [List.length_append, encC_len]; omega
              generalize nthX f.code j = x at *
              clear hpc hpp
              generalize L5 ++ encC f j = L6 at *
              have hE1 := hE.alloc (.cells #[.int .i64 x.op, .int .i64 x.a, .int .i64 x.b, .int .i64 x.c, .int .i64 x.n] 52)
              have hWf := hW.alloc (.cells #[.int .i64 x.op, .int .i64 x.a, .int .i64 x.b, .int .i64 x.c, .int .i64 x.n] 52)
              have hX1 := Whl.new wr 52 #[.int .i64 x.op, .int .i64 x.a, .int .i64 x.b, .int .i64 x.c, .int .i64 x.n]
              have w0 := wrap_byte x.op
              have w1 := wrap_byte x.a
              have w2 := wrap_byte x.b
              have w3 := wrap_byte x.c
              obtain ⟨ux, HUX, w4⟩ := u64_nat x.n
              have hsz1 := hE.size
              go_upto_region 29 with fail
              clear z0 z1 z2 z3 z4 hE hW b4 l5
              obtain ⟨z0, z1, z2, z3, z4⟩ := ins_cells hX1
              have l5 := hX1.lt
              go_wp2_with (first
                | (at_builtin
                   refine wpList_append_lies _ rfl _ _ _ rfl w.heap.size 5 i0 (.int .u8 0) 1 1 Tryd.underlying27 hi hz0 hz1 hz2 rfl (by decide) _ _ _ rfl (hE1.own.alloc _) ⟨wr.heap.size + 1, 0, none⟩ 4 4 [u8V (byteB x.op), u8V (byteB x.a), u8V (byteB x.b), u8V (byteB x.c)] rfl rfl (new4_cell (W := wr.alloc (.cells #[.int .i64 x.op, .int .i64 x.a, .int .i64 x.b, .int .i64 x.c, .int .i64 x.n] 52)) (by simp)) (by simp [Value.oneCell']) (by decide) (by unfold maxLen; omega) (by omega) (by simp; omega) _ rfl ?_
                   intro g cap w6 hown hgrow hat hlt2
                   have hE6 := (hE1.alloc _).step (x := [byteB x.op, byteB x.a, byteB x.b, byteB x.c]) hgrow hown
                   have hX6 := (hE1.alloc _).bytes (by decide) (hX1.alloc _) hgrow
                   have hW6 := (hE1.alloc _).bytes (by decide) (hWf.alloc _) hgrow
                   have l6 := hX6.lt
                   have x4 := cell4 hX6
                   have hsz6 := hE6.size)
                | (go_at_call 19; with_reducible refine (num8R _ (L6 ++ [byteB x.op, byteB x.a, byteB x.b, byteB x.c]) x.n ux w.heap.size _ HUX.out hsz6 (by simp; omega) hE6.own).mono ?_; rintro e w7 ⟨v7, rfl, hG7⟩; have hE7 := hE6.grow hG7; have hW7 := hG7.keep _ _ _ (by decide) hW6))
              rw [← hnx] at hE7
              refine ⟨⟨j + 1, by omega, by go_num, hE7, hW7⟩, by simp [intOf]; omega⟩
            · obtain rfl : j = f.code.length := by omega
              go_wp2
              rw [← HL0.out] at hE
              refine ⟨⟨k + 1, by omega, by go_num, hE⟩, by simp [intOf]; omega⟩
      · obtain rfl : k = m.funcs.length := by omega
        have hbr := hE.br
        have r0 : wr.cell? ⟨w.heap.size + 1, 0, none⟩ = some (.int .i64 0) := hbr.cell 0
        have r1 : wr.cell? ⟨w.heap.size + 1, 1, none⟩ = some (.int .i64 0) := hbr.cell 1
        have r2 : wr.cell? ⟨w.heap.size + 1, 2, none⟩ = some (.int .i64 0) := hbr.cell 2
        have s0 := hbr.frozen 0
        have s1 := hbr.frozen 1
        have s2 := hbr.frozen 2
        have lr := hbr.lt
        have hne : Value.ownBlock u5 ≠ some (w.heap.size + 1) := fun e => own_whl hE.own hbr (by decide) e.symm
        have HE := Lib.hid hE
        clear hE
        go_wp2
        refine ret_of ?_ rfl
        refine ⟨.tuple #[u5, .agg #[.int .i64 0, .int .i64 0, .int .i64 0]], ?_, ⟨u5, rfl, ?_⟩, ?_⟩
        rotate_left
        · exact own_far (own_far (own_far HE.out.own _ hne) _ hne) _ hne
        · exact ((HE.out.below.setCell (by simp) _).setCell (by simp) _).setCell (by simp) _
        · simp [results, Tryd.results9, go_sem, r0, r1, r2, s0, s1, s2, lr]
end Go.Proofs.YtjacfeohpofhpaaDoor
