/-
  ScanPieces: two sources, one behind the other with a line's end between, have the tokens of both, those of the second one so much further on, and the first one's error, or the second one's so much further on; the calls of awake answer as they should. The five listed variables are tied to the program's text.
-/
import Derived.Test.YtihfllkgoolkhaaDoorTokD
import Derived.Test.YtihfllkgoolkhaaDoorScanQ
import Derived.Test.YtihfllkgoolkhaaDoorCards
import Derived.Test.YtihfllkgoolkhaaDoorTie
import Derived.SevenTiedAt
import Derived.Stop.Joined
namespace Go.Proofs.YtihfllkgoolkhaaDoor
open Go.RowKit
set_option linter.unusedSimpArgs false
set_option linter.unusedVariables false
set_option maxHeartbeats 1000000 in
theorem piecesB (a b : ByteArray) (ha : a.size ≤ maxLen) (hb : b.size ≤ maxLen) (h : 65536 < a.size ∨ 65536 < b.size ∨ 65536 ≤ a.size + b.size) (w : World) (hv : RangeVar w) : Calls Tryd.prog 6 #[.string a, .string b] w fun e w' => e = .returned (.bool true) ∧ Below w.heap.size w w' := by
  unfold maxLen at ha hb
  by_cases h1 : 65536 < a.size
  · have q1 : decide ((65536 : Int) < (a.size : Int)) = true := by simp; omega
    go_enter Tryd.func6, Tryd.ntmps6
    go_wp2_with (go_at_call 10; refine (awakeP _ hv).mono ?_; rintro e w1 ⟨rfl, hb1⟩; have hv1 := hv.below hb1)
    go_ret
    exact ⟨rfl, hb1⟩
  · have q1 : decide ((65536 : Int) < (a.size : Int)) = false := by simp; omega
    by_cases h2 : 65536 < b.size
    · have q2 : decide ((65536 : Int) < (b.size : Int)) = true := by simp; omega
      go_enter Tryd.func6, Tryd.ntmps6
      go_wp2_with (go_at_call 10; refine (awakeP _ hv).mono ?_; rintro e w1 ⟨rfl, hb1⟩; have hv1 := hv.below hb1)
      go_ret
      exact ⟨rfl, hb1⟩
    · have q2 : decide ((65536 : Int) < (b.size : Int)) = false := by simp; omega
      have q3 : decide ((65536 : Int) ≤ (a.size : Int) + (b.size : Int)) = true := by simp; omega
      go_enter Tryd.func6, Tryd.ntmps6
      go_wp2_with (go_at_call 10; refine (awakeP _ hv).mono ?_; rintro e w1 ⟨rfl, hb1⟩; have hv1 := hv.below hb1)
      go_ret
      exact ⟨rfl, hb1⟩
theorem below_drewN {n : Nat} {A B : World} (h : Below n A B) (k : Nat) : Below n A (B.drewN k) := ⟨h.os, h.tape, h.output, h.size, h.block⟩
theorem allD_ok {L : List UInt8} (he : (scanD L).e = 0) : allD L = ⟨(scanD L).toks, 0, 0⟩ := by
  rw [allD, if_pos he]
  have hp := scanD_p he
  generalize scanD L = R at *
  obtain ⟨a, b, c⟩ := R
  simp only at he hp
  rw [he, hp]
set_option maxHeartbeats 1000000 in
theorem piecesE (a b : ByteArray) (h : a.size + b.size < 65536) (R : AheadR) (x : Int) (p : Nat) (hx : x ≠ 0) (hA : ∀ w, RangeVar w → Calls Tryd.prog 11 #[.string (a)] w (AllOk (a) w ⟨[], x, p⟩)) (hB : ∀ w, RangeVar w → Calls Tryd.prog 11 #[.string (b)] w (AllOk (b) w R)) (hJ : ∀ w, RangeVar w → Calls Tryd.prog 11 #[.string (a ++ { data := #[10] } ++ b)] w (AllOk (joinS a b) w ⟨[], x, p⟩)) (w : World) (hv : RangeVar w) : Calls Tryd.prog 6 #[.string a, .string b] w fun e w' => e = .returned (.bool true) ∧ Below w.heap.size w w' := by
  have q1 : decide ((65536 : Int) < (a.size : Int)) = false := by simp; omega
  have q2 : decide ((65536 : Int) < (b.size : Int)) = false := by simp; omega
  have q3 : decide ((65536 : Int) ≤ (a.size : Int) + (b.size : Int)) = false := by simp; omega
  have u1 : (x != 0) = true := by simpa using hx
  go_enter Tryd.func6, Tryd.ntmps6
  go_wp2_with (first
    | (go_at_call 10; refine (awakeP _ hv).mono ?_; rintro e w1 ⟨rfl, hb1⟩; have hv1 := hv.below hb1)
    | (go_at_call 11; (with_reducible refine (hA _ hv1).mono ?_); rintro e w2 ⟨⟨A2, rfl, hr2⟩, hb2⟩; have hv2 := hv1.below hb2; clear hA)
    | (go_at_call 11; (with_reducible refine (hB _ hv2).mono ?_); rintro e w3 ⟨⟨A3, rfl, hr3⟩, hb3⟩; have hv3 := hv2.below hb3; clear hB)
    | (go_at_call 11; (with_reducible refine (hJ _ hv3).mono ?_); rintro e w4 ⟨⟨A4, rfl, hr4⟩, hb4⟩; clear hJ))
  go_ret
  exact ⟨by simp, below_step (below_step (below_step hb1 hb2) hb3) hb4⟩
set_option maxHeartbeats 1000000 in
theorem piecesF (a b : ByteArray) (h : a.size + b.size < 65536) (la : List TokD) (x : Int) (p : Nat) (hx : x ≠ 0) (hp : p ≤ 65536) (hA : ∀ w, RangeVar w → Calls Tryd.prog 11 #[.string (a)] w (AllOk (a) w ⟨la, 0, 0⟩)) (hB : ∀ w, RangeVar w → Calls Tryd.prog 11 #[.string (b)] w (AllOk (b) w ⟨[], x, p⟩)) (hJ : ∀ w, RangeVar w → Calls Tryd.prog 11 #[.string (a ++ { data := #[10] } ++ b)] w (AllOk (joinS a b) w ⟨[], x, a.size + 1 + p⟩)) (w : World) (hv : RangeVar w) : Calls Tryd.prog 6 #[.string a, .string b] w fun e w' => e = .returned (.bool true) ∧ Below w.heap.size w w' := by
  have q1 : decide ((65536 : Int) < (a.size : Int)) = false := by simp; omega
  have q2 : decide ((65536 : Int) < (b.size : Int)) = false := by simp; omega
  have q3 : decide ((65536 : Int) ≤ (a.size : Int) + (b.size : Int)) = false := by simp; omega
  have u1 : (x != 0) = true := by simpa using hx
  have u2 : ((a.size + 1 + p : Nat) : Int) = (a.size : Int) + 1 + (p : Int) := by omega
  rw [u2.symm.symm] at *
  go_enter Tryd.func6, Tryd.ntmps6
  go_wp2_with (first
    | (go_at_call 10; refine (awakeP _ hv).mono ?_; rintro e w1 ⟨rfl, hb1⟩; have hv1 := hv.below hb1)
    | (go_at_call 11; (with_reducible refine (hA _ hv1).mono ?_); rintro e w2 ⟨⟨A2, rfl, hr2⟩, hb2⟩; have hv2 := hv1.below hb2; clear hA)
    | (go_at_call 11; (with_reducible refine (hB _ hv2).mono ?_); rintro e w3 ⟨⟨A3, rfl, hr3⟩, hb3⟩; have hv3 := hv2.below hb3; clear hB)
    | (go_at_call 11; (with_reducible refine (hJ _ hv3).mono ?_); rintro e w4 ⟨⟨A4, rfl, hr4⟩, hb4⟩; clear hJ))
  go_ret
  exact ⟨by simp, below_step (below_step (below_step hb1 hb2) hb3) hb4⟩
set_option maxHeartbeats 2000000 in
theorem piecesY (a b : ByteArray) (h : a.size + b.size < 65536) (la lb ls : List TokD) (hls : la ++ lb.map (shT (a.size + 1)) = ls) (hla : la.length ≤ 65536) (hlb : lb.length ≤ 65536) (fa : ∀ t ∈ la, t.at_ + t.len ≤ a.size) (fb : ∀ t ∈ lb, t.at_ + t.len ≤ b.size) (hA : ∀ w, RangeVar w → Calls Tryd.prog 11 #[.string (a)] w (AllOk (a) w ⟨la, 0, 0⟩)) (hB : ∀ w, RangeVar w → Calls Tryd.prog 11 #[.string (b)] w (AllOk (b) w ⟨lb, 0, 0⟩)) (hJ : ∀ w, RangeVar w → Calls Tryd.prog 11 #[.string (a ++ { data := #[10] } ++ b)] w (AllOk (joinS a b) w ⟨ls, 0, 0⟩)) (w : World) (hv : RangeVar w) : Calls Tryd.prog 6 #[.string a, .string b] w fun e w' => e = .returned (.bool true) ∧ Below w.heap.size w w' := by
  have q1 : decide ((65536 : Int) < (a.size : Int)) = false := by simp; omega
  have q2 : decide ((65536 : Int) < (b.size : Int)) = false := by simp; omega
  have q3 : decide ((65536 : Int) ≤ (a.size : Int) + (b.size : Int)) = false := by simp; omega
  have HN := Lib.hid (show ls.length = la.length + lb.length by rw [← hls, List.length_append, List.length_map])
  have hn1 : ls.length ≤ la.length + lb.length := by rw [HN.out]; exact Nat.le_refl _
  have hn2 : la.length + lb.length ≤ ls.length := by rw [HN.out]; exact Nat.le_refl _
  have hl1 : ((ls.length : Int) != (la.length : Int) + (lb.length : Int)) = false := by simp; omega
  have hl2 : ((ls.length : Int) == (la.length : Int) + (lb.length : Int)) = true := by simp; omega
  have HL := Lib.hid hls
  clear hls
  go_enter Tryd.func6, Tryd.ntmps6
  go_wp2_with (first
    | (go_at_call 10; refine (awakeP _ hv).mono ?_; rintro e w1 ⟨rfl, hb1⟩; have hv1 := hv.below hb1)
    | (go_at_call 11; (with_reducible refine (hA _ hv1).mono ?_); rintro e w2 ⟨⟨A2, rfl, hr2⟩, hb2⟩; have hv2 := hv1.below hb2; clear hA)
    | (go_at_call 11; (with_reducible refine (hB _ hv2).mono ?_); rintro e w3 ⟨⟨A3, rfl, hr3⟩, hb3⟩; have hv3 := hv2.below hb3; clear hB)
    | (go_at_call 11; (with_reducible refine (hJ _ hv3).mono ?_); rintro e w4 ⟨⟨A4, rfl, hr4⟩, hb4⟩; clear hJ))
  have HB := Lib.hid (below_step (below_step (below_step hb1 hb2) hb3) hb4)
  have HT2 := Lib.hid ((hr2.below hb3).below hb4).tokAt
  have HT3 := Lib.hid (hr3.below hb4).tokAt
  have HT4 := Lib.hid hr4.tokAt
  clear hb1 hb2 hb3 hb4 hr2 hr3 hr4 hv1 hv2 hv3
  go_loopw [107] (fun i wr => ∃ j : Nat, j ≤ ls.length ∧ i = .int .i64 j ∧ Below w.heap.size w wr ∧ Below w4.heap.size w4 wr) (fun i _ => ls.length - (intOf i).toNat)
  case atStart => exact ⟨0, Nat.zero_le _, rfl, HB.out, Below.refl _ _⟩
  case round =>
    clear HB
    obtain ⟨j, hj, rfl, hb, hb4⟩ := hrel
    have hlw := hb4.size
    by_cases hlt : j < ls.length
    · obtain ⟨b4, o4, hA4, lb4, hc4⟩ := HT4.out (by omega)
      obtain ⟨x0, x1, x2, x3⟩ := hc4 j hlt
      subst hA4
      have k0 : wr.cell? ⟨b4, o4 + j * 4, none⟩ = _ := (hb4.cell (p := ⟨b4, o4 + j * 4, none⟩) lb4).trans x0
      have k1 : wr.cell? ⟨b4, o4 + j * 4 + 1, none⟩ = _ := (hb4.cell (p := ⟨b4, o4 + j * 4 + 1, none⟩) lb4).trans x1
      have k2 : wr.cell? ⟨b4, o4 + j * 4 + 2, none⟩ = _ := (hb4.cell (p := ⟨b4, o4 + j * 4 + 2, none⟩) lb4).trans x2
      have k3 : wr.cell? ⟨b4, o4 + j * 4 + 3, none⟩ = _ := (hb4.cell (p := ⟨b4, o4 + j * 4 + 3, none⟩) lb4).trans x3
      clear x0 x1 x2 x3 hc4
      by_cases hlo : j < la.length
      · obtain ⟨b2, o2, hA2, lb2, hc2⟩ := HT2.out (by omega)
        obtain ⟨x0, x1, x2, x3⟩ := hc2 j hlo
        subst hA2
        have he : ls[j] = la[j] := by
          have h1 : ls[j]? = la[j]? := by rw [← HL.out, List.getElem?_append_left hlo]
          rw [List.getElem?_eq_getElem hlt, List.getElem?_eq_getElem hlo] at h1
          exact Option.some.inj h1
        have hf := fa _ (List.getElem_mem hlo)
        rw [he] at k0 k1 k2 k3
        generalize la[j] = t at *
        rw [join_text1 a b hf] at k2
        have m0 : wr.cell? ⟨b2, o2 + j * 4, none⟩ = _ := (hb4.cell (p := ⟨b2, o2 + j * 4, none⟩) lb2).trans x0
        have m1 : wr.cell? ⟨b2, o2 + j * 4 + 1, none⟩ = _ := (hb4.cell (p := ⟨b2, o2 + j * 4 + 1, none⟩) lb2).trans x1
        have m2 : wr.cell? ⟨b2, o2 + j * 4 + 2, none⟩ = _ := (hb4.cell (p := ⟨b2, o2 + j * 4 + 2, none⟩) lb2).trans x2
        have m3 : wr.cell? ⟨b2, o2 + j * 4 + 3, none⟩ = _ := (hb4.cell (p := ⟨b2, o2 + j * 4 + 3, none⟩) lb2).trans x3
        have y2 : b2 < wr.heap.size := by omega
        have HB2 := Lib.hid hb
        have HB3 := Lib.hid hb4
        have d1 : decide ((la.length : Int) ≤ (j : Int)) = false := by simp; omega
        clear x0 x1 x2 x3 hc2 he hb hb4
        generalize t.kind = kd at *
        generalize a.extract t.at_ (t.at_ + t.len) = tx at *
        generalize t.at_ = pl at *
        generalize t.n = nn at *
        go_wp2
        go_quiet (fail)
        go_wp2
        go_roundw
        case rel => exact ⟨j + 1, by omega, by go_num, below_drewN (below_step HB2.out (below_alloc (Below.refl _ _) _)) _, below_drewN (HB3.out.trans ((below_alloc (Below.refl _ _) _).mono hlw)) _⟩
        case measure => simp [intOf]; omega
      · have hj2 : j - la.length < lb.length := by omega
        obtain ⟨b3, o3, hA3, lb3, hc3⟩ := HT3.out (by omega)
        obtain ⟨x0, x1, x2, x3⟩ := hc3 (j - la.length) hj2
        subst hA3
        have he : ls[j] = shT (a.size + 1) lb[j - la.length] := by
          have h1 : ls[j]? = (lb[j - la.length]?).map (shT (a.size + 1)) := by rw [← HL.out, List.getElem?_append_right (by omega), List.getElem?_map]
          rw [List.getElem?_eq_getElem hlt, List.getElem?_eq_getElem hj2] at h1
          exact Option.some.inj h1
        rw [he] at k0 k1 k2 k3
        have hfb := fb _ (List.getElem_mem hj2)
        generalize lb[j - la.length] = t at *
        simp only [shT] at k0 k1 k2 k3
        rw [join_text2 a b] at k2
        obtain ⟨m, hm⟩ : ∃ m, j - la.length = m := ⟨_, rfl⟩
        rw [hm] at x0 x1 x2 x3
        have m0 : wr.cell? ⟨b3, o3 + m * 4, none⟩ = _ := (hb4.cell (p := ⟨b3, o3 + m * 4, none⟩) lb3).trans x0
        have m1 : wr.cell? ⟨b3, o3 + m * 4 + 1, none⟩ = _ := (hb4.cell (p := ⟨b3, o3 + m * 4 + 1, none⟩) lb3).trans x1
        have m2 : wr.cell? ⟨b3, o3 + m * 4 + 2, none⟩ = _ := (hb4.cell (p := ⟨b3, o3 + m * 4 + 2, none⟩) lb3).trans x2
        have m3 : wr.cell? ⟨b3, o3 + m * 4 + 3, none⟩ = _ := (hb4.cell (p := ⟨b3, o3 + m * 4 + 3, none⟩) lb3).trans x3
        have e1 : (j : Int) - (la.length : Int) = (m : Int) := by omega
        have e2 : (a.size : Int) + 1 + (t.at_ : Int) - ((a.size : Int) + 1) = (t.at_ : Int) := by omega
        have k1' : wr.cell? ⟨b4, o4 + j * 4 + 1, none⟩ = some (.int .i64 ((a.size : Int) + 1 + (t.at_ : Int))) := k1
        have hpl : t.at_ ≤ 65536 := by omega
        clear k1
        have y2 : b3 < wr.heap.size := by omega
        have HB2 := Lib.hid hb
        have HB3 := Lib.hid hb4
        have d1 : decide ((la.length : Int) ≤ (j : Int)) = true := by simp; omega
        clear x0 x1 x2 x3 hc3 he hb hb4 hm
        generalize t.kind = kd at *
        generalize b.extract t.at_ (t.at_ + t.len) = tx at *
        generalize t.at_ = pl at *
        generalize t.n = nn at *
        have hw : IntKind.i64.wrap ((j : Int) - (la.length : Int)) = (m : Int) := by rw [e1]; exact IntWalk.i64_in _ (by omega)
        go_wp2
        go_quiet (fail)
        clear hw e1 e2
        go_wp2
        go_roundw
        case rel => exact ⟨j + 1, by omega, by go_num, below_drewN (below_step HB2.out (by repeat (first | exact Below.refl _ _ | (with_reducible refine below_alloc ?_ _) | (with_reducible refine Below.setCell ?_ (by simp) _)))) _, below_drewN (HB3.out.trans (Below.mono (B := wr.heap.size) (by repeat (first | exact Below.refl _ _ | (with_reducible refine below_alloc ?_ _) | (with_reducible refine Below.setCell ?_ (by simp) _))) hlw)) _⟩
        case measure => simp [intOf]; omega
    · obtain rfl : j = ls.length := by omega
      go_wp2
      go_ret
      exact ⟨rfl, hb⟩
theorem piecesL (a b : ByteArray) (ha : a.size ≤ maxLen) (hb : b.size ≤ maxLen) (w : World) (hv : RangeVar w) : Calls Tryd.prog 6 #[.string a, .string b] w fun e w' => e = .returned (.bool true) ∧ Below w.heap.size w w' := by
  by_cases hbig : 65536 < a.size ∨ 65536 < b.size ∨ 65536 ≤ a.size + b.size
  · exact piecesB a b ha hb hbig w hv
  · have h : a.size + b.size < 65536 := by omega
    obtain ⟨j1, j2, j3⟩ := allD_join a b h
    have hA := allP a ha
    have hB := allP b hb
    have hJ := allP (joinS a b) (by rw [joinS_size]; unfold maxLen; omega)
    by_cases he : (scanD (bytesOf a)).e = 0
    · have hR : allD (bytesOf a) = ⟨(scanD (bytesOf a)).toks, 0, 0⟩ := allD_ok he
      rw [hR] at hA
      by_cases hf : (scanD (bytesOf b)).e = 0
      · rw [allD_ok hf] at hB
        rw [j3 he hf] at hJ
        exact piecesY a b h _ _ _ rfl (scanD_len _) (scanD_len _) (rising_fits (scanD_rising _)) (rising_fits (scanD_rising _)) hA hB hJ w hv
      · rw [allD, if_neg hf] at hB
        rw [j2 he hf] at hJ
        exact piecesF a b h _ _ _ hf (scanD_err hf).1 hA hB hJ w hv
    · rw [allD, if_neg he] at hA
      rw [j1 he] at hJ
      exact piecesE a b h _ _ _ he hA hB hJ w hv
end Go.Proofs.YtihfllkgoolkhaaDoor
set_option linter.unusedVariables false
namespace Go.Proofs.YtihfllkgoolkhaaDoor.scanPieces
open Go.ChangeShapes Go.WideShapes Go.ChangeAt Go.RowKit
set_option maxRecDepth 100000 in
theorem lifted (os : Os) (started : os.Started) (H : Type) (enc : TypeId × Value → H) :
    ReturnsInHanded {} Tryd.checked os 6 .any (fun w args => (Rows.scanPiecesSpec.pre enc Tryd.prog Tryd.f6 [] false w args ∧ laidMetH Tryd.prog laidScan w) ∧ sizedMet enc Tryd.prog Tryd.f6 (OpenSpec.ofChange Rows.scanPiecesSpec) false w args) (Rows.scanPiecesSpec.post enc Tryd.prog Tryd.f6 false true false false) := by
  refine returnsInHanded_of_change_and (C := Tryd.checked) (X := fun w _ => laidMetH Tryd.prog laidScan w) (fun _ _ _ hh h => h.of_heap hh) own started (by kernel_rfl) Tryd.func6
    (ChangeSpec.witness_shaped (enc := enc) (C := Tryd.checked) (os := os) (X := fun w _ => laidMetH Tryd.prog laidScan w) false (World.doorLaid Tryd.prog 400 os) #[.string .empty, .string .empty] 8 rfl (door_shaped os _) (by kernel_rfl) (by kernel_rfl) (by kernel_rfl) (door_met os _)) ?_
  intro W base args ds gs before hval0 hW hcnd hsz0 hL hholds
  have hsz : (DataW.weightsEach Tryd.prog (Tryd.f6.params.toList ++ Rows.scanPiecesSpec.plain.varTypes Tryd.prog) (ds ++ gs)).all (· ≤ reachBytes) = true := hsz0
  have ht : RangeVar W := range_of_laid hL
  have hval : ∀ (j : Nat) t v, Tryd.f6.params[j]? = some t → args[j]? = some v → Value.okWide Tryd.prog W .any base t v := hval0
  have hW' := hW
  obtain ⟨p, q, hA0, hV, rfl, hfz, hnd⟩ := hW
  have hA : DataW.TrodAll enc Tryd.prog W 0 (fun _ => true) true Tryd.f6.params.toList args.toList ds p := hA0
  rw [Tryd.params6] at hA hval hsz
  obtain ⟨v0, vs0, d0, ds0, p0, q0, hargs, rfl, rfl, h0, r0⟩ := trodAll_cons hA
  obtain ⟨v1, vs1, d1, ds1, p1, q1, rfl, rfl, rfl, h1, r1⟩ := trodAll_cons r0
  obtain ⟨rfl, rfl, rfl⟩ := trodAll_nil r1
  obtain rfl : args = #[v0, v1] := by cases args; simp_all
  obtain ⟨rfl, rfl⟩ := trodVars_none hV
  obtain ⟨s0, rfl, rfl, rfl, wl0⟩ := Go.ChangeMaps.open_string Tryd.underlying9 (hval 0 9 v0 rfl rfl) h0
  obtain ⟨s1, rfl, rfl, rfl, wl1⟩ := Go.ChangeMaps.open_string Tryd.underlying9 (hval 1 9 v1 rfl rfl) h1
  clear hA0 hval0
  refine (piecesL s0 s1 wl0 wl1 W ht).mono fun e W' ⟨he, hb⟩ => ?_
  subst he
  exact ⟨_, rfl, law_post laidOut (by kernel_rfl) (by kernel_rfl) rfl Tryd.underlying4 hW' rfl rfl rfl hb⟩

theorem said : Rows.ScanPiecesSaid :=
  OpenClaim.holds_of_wide 6 Tryd.f6 rfl rfl rfl rfl rfl rfl rfl ⟨rfl, rfl, rfl, rfl, rfl⟩ rfl rfl rfl rfl rfl (by kernel_rfl) Tryd.func6 (by kernel_rfl)
    (of_decide_eq_true (by kernel_rfl)) (by unfold Func.isWrapper; first | (rw [if_pos (by decide +kernel)]; kernel_rfl) | (rw [if_neg (by decide +kernel)]; exact ⟨rfl, rfl⟩))
    (fun os started H enc _ => lifted os started H enc)

theorem holds : Rows.ScanPiecesCardSaid :=
  Claim7.holds_tied_plain_at .later [] [.data, .data, .data, .sentinel, .sentinel] true _ true
    said (fun _ h => by cases h) (by kernel_rfl) (fun _ h => by cases h) scanPieces_row_tie rfl ⟨rfl, rfl⟩ (by kernel_rfl) rfl
    (fun f fn hf hfn => by
      obtain rfl : f = 6 := Option.some.inj ((show Tryd.prog.funcNamed "soffit/soffitlaw01.ScanPieces" = some 6 by kernel_rfl).symm.trans hf) |>.symm
      obtain rfl : fn = Tryd.f6 := (Option.some.inj (Tryd.func6.symm.trans hfn)).symm
      exact ⟨by kernel_rfl, fun j t ht => by
        rw [Tryd.params6] at ht
        have hm : t ∈ [9, 9] := by simpa using Array.mem_of_getElem? ht
        have hall : ([9, 9].all fun u => !Tryd.prog.wantsStandIn u) = true := by kernel_rfl
        exact (show Tryd.prog.wantsStandIn t = false by simpa using List.all_eq_true.1 hall t hm)⟩)
    (by kernel_rfl)
end Go.Proofs.YtihfllkgoolkhaaDoor.scanPieces
