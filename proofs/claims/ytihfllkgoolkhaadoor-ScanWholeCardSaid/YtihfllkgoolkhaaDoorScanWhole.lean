/-
  ScanWhole: the tokens of a source stand in it where they say, by rising places, and between them there are blanks and remarks alone; an error stands in the source, or the source is too long; the calls of awake answer as they should. The five listed variables are tied to the program's text.
-/
import Derived.Test.YtihfllkgoolkhaaDoorTokD
import Derived.Test.YtihfllkgoolkhaaDoorCards
import Derived.Test.YtihfllkgoolkhaaDoorTie
import Derived.SevenTiedAt
import Derived.Stop.Joined
namespace Go.Proofs.YtihfllkgoolkhaaDoor
open Go.RowKit
set_option linter.unusedSimpArgs false
set_option linter.unusedVariables false
set_option maxHeartbeats 1000000 in
theorem wholeE (s : ByteArray) (hs : s.size ≤ maxLen) (x : Int) (p : Nat) (hP : ∀ w, RangeVar w → Calls Tryd.prog 11 #[.string s] w (AllOk s w ⟨[], x, p⟩)) (hx : x ≠ 0) (h6 : p ≤ 65536) (hp : p < s.size ∨ x = 4) (w : World) (hv : RangeVar w) : Calls Tryd.prog 5 #[.string s] w fun e w' => e = .returned (.bool true) ∧ Below w.heap.size w w' := by
  unfold maxLen at hs
  have h1 : (x != 0) = true := by simpa using hx
  rcases hp with hp | rfl
  · go_enter Tryd.func5, Tryd.ntmps5
    go_wp2_with (first
      | (go_at_call 10; refine (awakeP _ hv).mono ?_; rintro e w1 ⟨rfl, hb1⟩; have hv1 := hv.below hb1)
      | (go_at_call 11; refine (hP _ hv1).mono ?_; rintro e w2 ⟨⟨A, rfl, hr⟩, hb2⟩))
    go_ret
    exact ⟨rfl, below_step hb1 hb2⟩
  · by_cases hq : p < s.size
    all_goals
      go_enter Tryd.func5, Tryd.ntmps5
      go_wp2_with (first
        | (go_at_call 10; refine (awakeP _ hv).mono ?_; rintro e w1 ⟨rfl, hb1⟩; have hv1 := hv.below hb1)
        | (go_at_call 11; refine (hP _ hv1).mono ?_; rintro e w2 ⟨⟨A, rfl, hr⟩, hb2⟩))
      go_ret
      exact ⟨rfl, below_step hb1 hb2⟩
theorem below_drewN {n : Nat} {A B : World} (h : Below n A B) (k : Nat) : Below n A (B.drewN k) := ⟨h.os, h.tape, h.output, h.size, h.block⟩
set_option maxHeartbeats 2000000 in
theorem wholeY (s : ByteArray) (hs : s.size ≤ maxLen) (ts : List TokD) (hP : ∀ w, RangeVar w → Calls Tryd.prog 11 #[.string s] w (AllOk s w ⟨ts, 0, 0⟩)) (hn : ts.length ≤ 65536) (hris : Rising (bytesOf s) 0 ts) (hend : ∃ en, en ≤ s.size ∧ Ends (bytesOf s) 0 ts en ∧ s.size ≤ skipD (bytesOf s) en) (w : World) (hv : RangeVar w) : Calls Tryd.prog 5 #[.string s] w fun e w' => e = .returned (.bool true) ∧ Below w.heap.size w w' := by
  have hs2 := hs
  unfold maxLen at hs
  have HE := Lib.hid hend
  have HRi := Lib.hid hris
  clear hend hris
  go_enter Tryd.func5, Tryd.ntmps5
  go_wp2_with (first
    | (go_at_call 10; refine (awakeP _ hv).mono ?_; rintro e w1 ⟨rfl, hb1⟩; have hv1 := hv.below hb1)
    | (go_at_call 11; refine (hP _ hv1).mono ?_; rintro e w2 ⟨⟨A, rfl, hr⟩, hb2⟩))
  have HB := Lib.hid (below_step hb1 hb2)
  have HT := Lib.hid hr.tokAt
  clear hb1 hv1 hr hP hb2
  go_loopw [6, 42] (fun a i wr => ∃ (en j : Nat), en ≤ s.size ∧ j ≤ ts.length ∧ a = .int .i64 en ∧ i = .int .i64 j ∧ Below w.heap.size w wr ∧ Below w2.heap.size w2 wr ∧ Rising (bytesOf s) en (ts.drop j) ∧ (∀ e2, Ends (bytesOf s) 0 ts e2 → Ends (bytesOf s) en (ts.drop j) e2)) (fun _ i _ => ts.length - (intOf i).toNat)
  case atStart => exact ⟨0, 0, Nat.zero_le _, Nat.zero_le _, rfl, rfl, HB.out, Below.refl _ _, HRi.out, fun _ h => h⟩
  case round =>
    clear HB HRi
    obtain ⟨en, j, hen, hj, rfl, rfl, hb, hb2, hri, hes⟩ := hrel
    by_cases hlt : j < ts.length
    · obtain ⟨b, off, hA, hlb, hc⟩ := HT.out (by omega)
      obtain ⟨x0, x1, x2, x3⟩ := hc j hlt
      rw [List.drop_eq_getElem_cons hlt] at hri hes
      obtain ⟨r1, r2, r3, r4⟩ := hri
      subst hA
      have k0 : wr.cell? ⟨b, off + j * 4, none⟩ = _ := (hb2.cell (p := ⟨b, off + j * 4, none⟩) hlb).trans x0
      have k1 : wr.cell? ⟨b, off + j * 4 + 1, none⟩ = _ := (hb2.cell (p := ⟨b, off + j * 4 + 1, none⟩) hlb).trans x1
      have k2 : wr.cell? ⟨b, off + j * 4 + 2, none⟩ = _ := (hb2.cell (p := ⟨b, off + j * 4 + 2, none⟩) hlb).trans x2
      have k3 : wr.cell? ⟨b, off + j * 4 + 3, none⟩ = _ := (hb2.cell (p := ⟨b, off + j * 4 + 3, none⟩) hlb).trans x3
      have hlw := hb2.size
      clear x0 x1 x2 x3 hc
      have hga := gap_between (L := bytesOf s) r1
      generalize ts[j] = t at *
      have hge : en ≤ t.at_ := by rw [r1]; exact skipD_ge _ _
      have htz : (s.extract t.at_ (t.at_ + t.len)).size = t.len := by rw [ext_size r3]; omega
      have hbyt := cut_ext s en t.at_
      obtain ⟨kd, at_, len, nn⟩ := t
      simp only at *
      obtain ⟨x, hx⟩ : ∃ x, s.extract at_ (at_ + len) = x := ⟨_, rfl⟩
      rw [hx] at k2 htz
      subst htz
      have hfit : at_ + x.size ≤ s.size := r3
      have hgb : gapL false (bytesOf (s.extract en at_)) = true := by rw [show bytesOf (s.extract en at_) = _ from hbyt]; exact hga
      have hG : ∀ W, Calls Tryd.prog 14 #[.string (s.extract en at_)] W fun e w' => e = .returned (.bool true) ∧ w' = W := fun W => (gapP (s.extract en at_) (by unfold maxLen; rw [ext_size (by omega)]; omega) W).mono fun e w' ⟨he, hw⟩ => ⟨by rw [he, hgb], hw.symm⟩
      have f1 : decide ((at_ : Int) < (en : Int)) = false := by simp; omega
      have f2 : x.toList = [] → False := fun h => by
        rw [ByteArray.toList_eq] at h
        have : x.size = 0 := by show x.data.size = 0; rw [← Array.length_toList, h]; rfl
        omega
      have f3 : (x.toList == []) = false := by rw [beq_eq_false_iff_ne]; exact f2
      have f4 : x.toList.isEmpty = false := by cases h : x.toList; exact (f2 h).elim; rfl
      have f5 : decide ((s.size : Int) - (at_ : Int) < (x.size : Int)) = false := by simp; omega
      have HX := Lib.hid r4
      have HS := Lib.hid hes
      have HB2 := Lib.hid hb
      have HB3 := Lib.hid hb2
      clear r4 hes hb hb2 hga hbyt hgb r1 r3 f2
      have w1 : IntKind.i64.wrap ((s.size : Int) - (at_ : Int)) = (s.size : Int) - (at_ : Int) := IntWalk.i64_in _ (by omega)
      have w2' : IntKind.i64.wrap ((at_ : Int) + (x.size : Int)) = (at_ : Int) + (x.size : Int) := IntWalk.i64_in _ (by omega)
      have w3 : ((at_ : Int) + (x.size : Int)).toNat = at_ + x.size := by omega
      have w4 : 0 ≤ (at_ : Int) + (x.size : Int) := by omega
      have w5 : (at_ : Int) ≤ (at_ : Int) + (x.size : Int) := by omega
      have w6 : (at_ : Int) + (x.size : Int) ≤ (s.size : Int) := by omega
      have w7 : (en : Int) ≤ (at_ : Int) := by omega
      have w8 : (at_ : Int) ≤ (s.size : Int) := by omega
      go_wp2
      go_quiet ((go_at_call 14; exact Calls.quiet_of_same (hG _)))
      clear w1 w2' w3 w4 w5 w6 w7 w8 f1 f3 f4 f5 hG hx k0 k1 k2 k3
      go_wp2
      go_roundw
      case rel =>
        exact ⟨at_ + x.size, j + 1, hfit, by omega, by go_num, by go_num, below_drewN (below_step HB2.out (below_alloc (Below.refl _ _) _)) _, below_drewN (HB3.out.trans ((below_alloc (Below.refl _ _) _).mono hlw)) _, HX.out, HS.out⟩
      case measure => simp [intOf]; omega
    · obtain rfl : j = ts.length := by omega
      obtain ⟨e2, h1, h2, h3⟩ := HE.out
      have hen2 : en = e2 := by
        have := hes e2 h2
        rwa [List.drop_length] at this
      subst hen2
      have hgb : gapL false (bytesOf (s.extract en s.size)) = true := by
        rw [show bytesOf (s.extract en s.size) = _ from cut_ext s en s.size, List.take_of_length_le (by rw [List.length_drop]; exact Nat.le_refl _)]
        exact gap_behind h1 h3
      have hG : ∀ W, Calls Tryd.prog 14 #[.string (s.extract en s.size)] W fun e w' => e = .returned (.bool true) ∧ W = w' := fun W => (gapP (s.extract en s.size) (by unfold maxLen; rw [ext_size (Nat.le_refl _)]; omega) W).mono fun e w' ⟨he, hw⟩ => ⟨by rw [he, hgb], hw⟩
      clear hes h2 h3 hri hgb
      go_wp2_with (go_at_call 14; refine (hG _).mono ?_; rintro e w' ⟨rfl, rfl⟩)
      go_ret
      exact ⟨rfl, hb⟩
theorem wholeL (s : ByteArray) (hs : s.size ≤ maxLen) (w : World) (hv : RangeVar w) : Calls Tryd.prog 5 #[.string s] w fun e w' => e = .returned (.bool true) ∧ Below w.heap.size w w' := by
  have hP := allP s hs
  by_cases he : (scanD (bytesOf s)).e = 0
  · have hR : allD (bytesOf s) = ⟨(scanD (bytesOf s)).toks, 0, 0⟩ := by
      rw [allD, if_pos he]
      have hp := scanD_p he
      generalize scanD (bytesOf s) = R at *
      obtain ⟨a, b, c⟩ := R
      simp only at he hp
      rw [he, hp]
    rw [hR] at hP
    exact wholeY s hs _ hP (scanD_len _) (scanD_rising _) (scanD_last he) w hv
  · rw [allD, if_neg he] at hP
    obtain ⟨h1, h2⟩ := scanD_err he
    exact wholeE s hs _ _ hP he h1 h2 w hv
end Go.Proofs.YtihfllkgoolkhaaDoor
set_option linter.unusedVariables false
namespace Go.Proofs.YtihfllkgoolkhaaDoor.scanWhole
open Go.ChangeShapes Go.WideShapes Go.ChangeAt Go.RowKit
set_option maxRecDepth 100000 in
theorem lifted (os : Os) (started : os.Started) (H : Type) (enc : TypeId × Value → H) :
    ReturnsInHanded {} Tryd.checked os 5 .any (fun w args => (Rows.scanWholeSpec.pre enc Tryd.prog Tryd.f5 [] false w args ∧ laidMetH Tryd.prog laidScan w) ∧ sizedMet enc Tryd.prog Tryd.f5 (OpenSpec.ofChange Rows.scanWholeSpec) false w args) (Rows.scanWholeSpec.post enc Tryd.prog Tryd.f5 false true false false) := by
  refine returnsInHanded_of_change_and (C := Tryd.checked) (X := fun w _ => laidMetH Tryd.prog laidScan w) (fun _ _ _ hh h => h.of_heap hh) own started (by kernel_rfl) Tryd.func5
    (ChangeSpec.witness_shaped (enc := enc) (C := Tryd.checked) (os := os) (X := fun w _ => laidMetH Tryd.prog laidScan w) false (World.doorLaid Tryd.prog 400 os) #[.string .empty] 8 rfl (door_shaped os _) (by kernel_rfl) (by kernel_rfl) (by kernel_rfl) (door_met os _)) ?_
  intro W base args ds gs before hval0 hW hcnd hsz0 hL hholds
  have hsz : (DataW.weightsEach Tryd.prog (Tryd.f5.params.toList ++ Rows.scanWholeSpec.plain.varTypes Tryd.prog) (ds ++ gs)).all (· ≤ reachBytes) = true := hsz0
  have ht : RangeVar W := range_of_laid hL
  have hval : ∀ (j : Nat) t v, Tryd.f5.params[j]? = some t → args[j]? = some v → Value.okWide Tryd.prog W .any base t v := hval0
  have hW' := hW
  obtain ⟨p, q, hA0, hV, rfl, hfz, hnd⟩ := hW
  have hA : DataW.TrodAll enc Tryd.prog W 0 (fun _ => true) true Tryd.f5.params.toList args.toList ds p := hA0
  rw [Tryd.params5] at hA hval hsz
  obtain ⟨v0, vs0, d0, ds0, p0, q0, hargs, rfl, rfl, h0, r0⟩ := trodAll_cons hA
  obtain ⟨rfl, rfl, rfl⟩ := trodAll_nil r0
  obtain rfl : args = #[v0] := by cases args; simp_all
  obtain ⟨rfl, rfl⟩ := trodVars_none hV
  obtain ⟨s0, rfl, rfl, rfl, wl0⟩ := Go.ChangeMaps.open_string Tryd.underlying9 (hval 0 9 v0 rfl rfl) h0
  clear hA0 hval0
  refine (wholeL s0 wl0 W ht).mono fun e W' ⟨he, hb⟩ => ?_
  subst he
  exact ⟨_, rfl, law_post laidOut (by kernel_rfl) (by kernel_rfl) rfl Tryd.underlying4 hW' rfl rfl rfl hb⟩

theorem said : Rows.ScanWholeSaid :=
  OpenClaim.holds_of_wide 5 Tryd.f5 rfl rfl rfl rfl rfl rfl rfl ⟨rfl, rfl, rfl, rfl, rfl⟩ rfl rfl rfl rfl rfl (by kernel_rfl) Tryd.func5 (by kernel_rfl)
    (of_decide_eq_true (by kernel_rfl)) (by unfold Func.isWrapper; first | (rw [if_pos (by decide +kernel)]; kernel_rfl) | (rw [if_neg (by decide +kernel)]; exact ⟨rfl, rfl⟩))
    (fun os started H enc _ => lifted os started H enc)

theorem holds : Rows.ScanWholeCardSaid :=
  Claim7.holds_tied_plain_at .later [] [.data, .data, .data, .sentinel, .sentinel] true _ true
    said (fun _ h => by cases h) (by kernel_rfl) (fun _ h => by cases h) scanWhole_row_tie rfl ⟨rfl, rfl⟩ (by kernel_rfl) rfl
    (fun f fn hf hfn => by
      obtain rfl : f = 5 := Option.some.inj ((show Tryd.prog.funcNamed "soffit/soffitlaw01.ScanWhole" = some 5 by kernel_rfl).symm.trans hf) |>.symm
      obtain rfl : fn = Tryd.f5 := (Option.some.inj (Tryd.func5.symm.trans hfn)).symm
      exact ⟨by kernel_rfl, fun j t ht => by
        rw [Tryd.params5] at ht
        have hm : t ∈ [9] := by simpa using Array.mem_of_getElem? ht
        have hall : ([9].all fun u => !Tryd.prog.wantsStandIn u) = true := by kernel_rfl
        exact (show Tryd.prog.wantsStandIn t = false by simpa using List.all_eq_true.1 hall t hm)⟩)
    (by kernel_rfl)
end Go.Proofs.YtihfllkgoolkhaaDoor.scanWhole
