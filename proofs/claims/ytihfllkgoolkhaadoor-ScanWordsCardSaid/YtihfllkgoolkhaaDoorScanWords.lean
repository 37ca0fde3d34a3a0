/-
  ScanWords: of any text package scan says as the document's reference does whether it is a word or a name; a text is a word or a name just where it is one token alone, of that kind; the calls of awake answer as they should. The five listed variables are tied to the program's text.
-/
import Derived.Test.YtihfllkgoolkhaaDoorTokD
import Derived.Test.YtihfllkgoolkhaaDoorScanO
import Derived.Test.YtihfllkgoolkhaaDoorScanP
import Derived.Test.YtihfllkgoolkhaaDoorCards
import Derived.Test.YtihfllkgoolkhaaDoorTie
import Derived.SevenTiedAt
import Derived.Stop.Joined
namespace Go.Proofs.YtihfllkgoolkhaaDoor
open Go.RowKit
set_option linter.unusedSimpArgs false
set_option linter.unusedVariables false
set_option maxHeartbeats 1000000 in
theorem wordsE (s : ByteArray) (R : AheadR) (bw bn : Bool) (hP : ∀ w, RangeVar w → Calls Tryd.prog 11 #[.string s] w (AllOk s w R))
    (hWP : ∀ w, Calls Tryd.prog 15 #[.string s] w fun e w' => e = .returned (.bool bw) ∧ w = w') (hNP : ∀ w, Calls Tryd.prog 17 #[.string s] w fun e w' => e = .returned (.bool bn) ∧ w = w')
    (hWR : ∀ w, Calls Tryd.prog 16 #[.string s] w fun e w' => e = .returned (.bool bw) ∧ Below w.heap.size w w') (hNR : ∀ w, Calls Tryd.prog 18 #[.string s] w fun e w' => e = .returned (.bool bn) ∧ Below w.heap.size w w') (w : World) (hv : RangeVar w) (he : (R.e == 0) = false) (h1 : bw = false) (h2 : bn = false) : Calls Tryd.prog 7 #[.string s] w fun e w' => e = .returned (.bool true) ∧ Below w.heap.size w w' := by
  subst h1 h2
  go_enter Tryd.func7, Tryd.ntmps7
  go_wp2_with (first
      | (go_at_call 10; refine (awakeP _ hv).mono ?_; rintro e w1 ⟨rfl, hb1⟩; have hv1 := hv.below hb1)
      | (go_at_call 15; refine (hWP _).mono ?_; rintro e w' ⟨rfl, rfl⟩)
      | (go_at_call 17; refine (hNP _).mono ?_; rintro e w' ⟨rfl, rfl⟩)
      | (go_at_call 16; refine (hWR _).mono ?_; rintro e w2 ⟨rfl, hb2⟩; have hv2 := hv1.below hb2)
      | (go_at_call 18; refine (hNR _).mono ?_; rintro e w3 ⟨rfl, hb3⟩; have hv3 := hv2.below hb3)
      | (go_at_call 11; refine (hP _ hv3).mono ?_; rintro e w4 ⟨⟨A, rfl, hr⟩, hb4⟩))
  go_ret
  exact ⟨by simp, below_step (below_step (below_step hb1 hb2) hb3) hb4⟩
set_option maxHeartbeats 1000000 in
theorem wordsN (s : ByteArray) (R : AheadR) (bw bn : Bool) (hP : ∀ w, RangeVar w → Calls Tryd.prog 11 #[.string s] w (AllOk s w R))
    (hWP : ∀ w, Calls Tryd.prog 15 #[.string s] w fun e w' => e = .returned (.bool bw) ∧ w = w') (hNP : ∀ w, Calls Tryd.prog 17 #[.string s] w fun e w' => e = .returned (.bool bn) ∧ w = w')
    (hWR : ∀ w, Calls Tryd.prog 16 #[.string s] w fun e w' => e = .returned (.bool bw) ∧ Below w.heap.size w w') (hNR : ∀ w, Calls Tryd.prog 18 #[.string s] w fun e w' => e = .returned (.bool bn) ∧ Below w.heap.size w w') (w : World) (hv : RangeVar w) (he : (R.e == 0) = true) (hl : ((R.toks.length : Int) == 1) = false) (h1 : bw = false) (h2 : bn = false) : Calls Tryd.prog 7 #[.string s] w fun e w' => e = .returned (.bool true) ∧ Below w.heap.size w w' := by
  subst h1 h2
  go_enter Tryd.func7, Tryd.ntmps7
  go_wp2_with (first
      | (go_at_call 10; refine (awakeP _ hv).mono ?_; rintro e w1 ⟨rfl, hb1⟩; have hv1 := hv.below hb1)
      | (go_at_call 15; refine (hWP _).mono ?_; rintro e w' ⟨rfl, rfl⟩)
      | (go_at_call 17; refine (hNP _).mono ?_; rintro e w' ⟨rfl, rfl⟩)
      | (go_at_call 16; refine (hWR _).mono ?_; rintro e w2 ⟨rfl, hb2⟩; have hv2 := hv1.below hb2)
      | (go_at_call 18; refine (hNR _).mono ?_; rintro e w3 ⟨rfl, hb3⟩; have hv3 := hv2.below hb3)
      | (go_at_call 11; refine (hP _ hv3).mono ?_; rintro e w4 ⟨⟨A, rfl, hr⟩, hb4⟩))
  go_ret
  exact ⟨by simp, below_step (below_step (below_step hb1 hb2) hb3) hb4⟩
set_option maxHeartbeats 1000000 in
theorem wordsO (t : TokD) (p : Nat) (s : ByteArray) (R : AheadR) (bw bn : Bool) (hP : ∀ w, RangeVar w → Calls Tryd.prog 11 #[.string s] w (AllOk s w R))
    (hWP : ∀ w, Calls Tryd.prog 15 #[.string s] w fun e w' => e = .returned (.bool bw) ∧ w = w') (hNP : ∀ w, Calls Tryd.prog 17 #[.string s] w fun e w' => e = .returned (.bool bn) ∧ w = w')
    (hWR : ∀ w, Calls Tryd.prog 16 #[.string s] w fun e w' => e = .returned (.bool bw) ∧ Below w.heap.size w w') (hNR : ∀ w, Calls Tryd.prog 18 #[.string s] w fun e w' => e = .returned (.bool bn) ∧ Below w.heap.size w w') (hR : R = ⟨[t], 0, p⟩) (w : World) (hv : RangeVar w) (x : ByteArray) (hx : s.extract t.at_ (t.at_ + t.len) = x) (hxs : (x.toList == s.toList) = false) (h1 : bw = false) (h2 : bn = false) : Calls Tryd.prog 7 #[.string s] w fun e w' => e = .returned (.bool true) ∧ Below w.heap.size w w' := by
  subst h1 h2 hR
  go_enter Tryd.func7, Tryd.ntmps7
  go_wp2_with (first
      | (go_at_call 10; refine (awakeP _ hv).mono ?_; rintro e w1 ⟨rfl, hb1⟩; have hv1 := hv.below hb1)
      | (go_at_call 15; refine (hWP _).mono ?_; rintro e w' ⟨rfl, rfl⟩)
      | (go_at_call 17; refine (hNP _).mono ?_; rintro e w' ⟨rfl, rfl⟩)
      | (go_at_call 16; refine (hWR _).mono ?_; rintro e w2 ⟨rfl, hb2⟩; have hv2 := hv1.below hb2)
      | (go_at_call 18; refine (hNR _).mono ?_; rintro e w3 ⟨rfl, hb3⟩; have hv3 := hv2.below hb3)
      | (go_at_call 11; refine (hP _ hv3).mono ?_; rintro e w4 ⟨⟨A, rfl, hr⟩, hb4⟩; obtain ⟨g, rfl, _, lg, hc⟩ := hr.cells Nat.zero_lt_one; obtain ⟨c0, c1, c2, c3⟩ := hc 0 Nat.zero_lt_one; simp only [Nat.zero_mul, Nat.zero_add, List.getElem_cons_zero, hx] at c0 c1 c2 c3; clear hc hr hx))
  go_ret
  exact ⟨by simp, below_step (below_step (below_step hb1 hb2) hb3) hb4⟩
set_option maxHeartbeats 1000000 in
theorem wordsY (t : TokD) (p : Nat) (s : ByteArray) (R : AheadR) (bw bn : Bool) (hP : ∀ w, RangeVar w → Calls Tryd.prog 11 #[.string s] w (AllOk s w R))
    (hWP : ∀ w, Calls Tryd.prog 15 #[.string s] w fun e w' => e = .returned (.bool bw) ∧ w = w') (hNP : ∀ w, Calls Tryd.prog 17 #[.string s] w fun e w' => e = .returned (.bool bn) ∧ w = w')
    (hWR : ∀ w, Calls Tryd.prog 16 #[.string s] w fun e w' => e = .returned (.bool bw) ∧ Below w.heap.size w w') (hNR : ∀ w, Calls Tryd.prog 18 #[.string s] w fun e w' => e = .returned (.bool bn) ∧ Below w.heap.size w w') (hR : R = ⟨[t], 0, p⟩) (w : World) (hv : RangeVar w) (hx : s.extract t.at_ (t.at_ + t.len) = s) (h1 : bw = (t.kind == 3)) (h2 : bn = (t.kind == 1)) : Calls Tryd.prog 7 #[.string s] w fun e w' => e = .returned (.bool true) ∧ Below w.heap.size w w' := by
  subst h1 h2 hR
  go_enter Tryd.func7, Tryd.ntmps7
  go_wp2_with (first
      | (go_at_call 10; refine (awakeP _ hv).mono ?_; rintro e w1 ⟨rfl, hb1⟩; have hv1 := hv.below hb1)
      | (go_at_call 15; refine (hWP _).mono ?_; rintro e w' ⟨rfl, rfl⟩)
      | (go_at_call 17; refine (hNP _).mono ?_; rintro e w' ⟨rfl, rfl⟩)
      | (go_at_call 16; refine (hWR _).mono ?_; rintro e w2 ⟨rfl, hb2⟩; have hv2 := hv1.below hb2)
      | (go_at_call 18; refine (hNR _).mono ?_; rintro e w3 ⟨rfl, hb3⟩; have hv3 := hv2.below hb3)
      | (go_at_call 11; refine (hP _ hv3).mono ?_; rintro e w4 ⟨⟨A, rfl, hr⟩, hb4⟩; obtain ⟨g, rfl, _, lg, hc⟩ := hr.cells Nat.zero_lt_one; obtain ⟨c0, c1, c2, c3⟩ := hc 0 Nat.zero_lt_one; simp only [Nat.zero_mul, Nat.zero_add, List.getElem_cons_zero, hx] at c0 c1 c2 c3; clear hc hr hx))
  all_goals
    go_ret
    exact ⟨by simp, below_step (below_step (below_step hb1 hb2) hb3) hb4⟩
theorem scanWordsL (s : ByteArray) (hs : s.size ≤ maxLen) (w : World) (hv : RangeVar w) : Calls Tryd.prog 7 #[.string s] w fun e w' => e = .returned (.bool true) ∧ Below w.heap.size w w' := by
  have hP := allP s hs
  have hWP := wordP s
  have hNP := nameP s hs
  have hWR := wordR s
  have hNR := nameR s hs
  have hno : (¬ ∃ t p, allD (bytesOf s) = ⟨[t], 0, p⟩ ∧ s.extract t.at_ (t.at_ + t.len) = s) → wordB (bytesOf s) = false ∧ nameB (bytesOf s) = false := fun h => by
    have key : ¬ (wordB (bytesOf s) = true ∨ nameB (bytesOf s) = true) := fun hk => h (by
      have h1 := one_all hk
      refine ⟨⟨if wordB (bytesOf s) then 3 else 1, 0, (bytesOf s).length, 0⟩, 0, ?_, ?_⟩
      · rw [allD, h1]; rfl
      · show s.extract 0 (0 + s.size) = s
        rw [Nat.zero_add]; exact ByteArray.extract_zero_size)
    exact ⟨by cases hh : wordB (bytesOf s); rfl; exact absurd (.inl hh) key, by cases hh : nameB (bytesOf s); rfl; exact absurd (.inr hh) key⟩
  cases he : ((allD (bytesOf s)).e == 0)
  · obtain ⟨h1, h2⟩ := hno (fun ⟨t, p, h, _⟩ => by rw [h] at he; cases he)
    exact wordsE s _ _ _ hP hWP hNP hWR hNR w hv he h1 h2
  · by_cases hl : (allD (bytesOf s)).toks.length = 1
    · obtain ⟨t, ht⟩ := List.length_eq_one_iff.1 hl
      have hR : allD (bytesOf s) = ⟨[t], 0, (allD (bytesOf s)).p⟩ := by
        have he' : (allD (bytesOf s)).e = 0 := by simpa using he
        generalize allD (bytesOf s) = R at *
        obtain ⟨a, b, c⟩ := R
        simp only at ht he' ⊢
        rw [ht, he']
      by_cases hx : s.extract t.at_ (t.at_ + t.len) = s
      · have hS : scanD (bytesOf s) = ⟨[t], 0, (allD (bytesOf s)).p⟩ := by
          rw [← hR, allD]
          split
          · rfl
          · rename_i h
            rw [allD, if_neg h] at hR
            cases hR
        have hlen : t.len = (bytesOf s).length := by
          have hf := scanD_fits hS
          have := congrArg ByteArray.size hx
          rw [ext_size hf] at this
          rw [bytes_len]; omega
        obtain ⟨_, h1, h2⟩ := all_one hS hlen
        exact wordsY t _ s _ _ _ hP hWP hNP hWR hNR hR w hv hx h1 h2
      · obtain ⟨h1, h2⟩ := hno (fun ⟨t', p, h, hx'⟩ => by
          rw [hR] at h
          cases h
          exact hx hx')
        exact wordsO t _ s _ _ _ hP hWP hNP hWR hNR hR w hv _ rfl (by
          rw [beq_eq_false_iff_ne]
          intro h
          rw [ByteArray.toList_eq, ByteArray.toList_eq] at h
          exact hx (ByteArray.ext (Array.toList_inj.1 h))) h1 h2
    · obtain ⟨h1, h2⟩ := hno (fun ⟨t, p, h, _⟩ => by rw [h] at hl; exact hl rfl)
      exact wordsN s _ _ _ hP hWP hNP hWR hNR w hv he (by simp; omega) h1 h2
end Go.Proofs.YtihfllkgoolkhaaDoor
set_option linter.unusedVariables false
namespace Go.Proofs.YtihfllkgoolkhaaDoor.scanWords
open Go.ChangeShapes Go.WideShapes Go.ChangeAt Go.RowKit
set_option maxRecDepth 100000 in
theorem lifted (os : Os) (started : os.Started) (H : Type) (enc : TypeId × Value → H) :
    ReturnsInHanded {} Tryd.checked os 7 .any (fun w args => (Rows.scanWordsSpec.pre enc Tryd.prog Tryd.f7 [] false w args ∧ laidMetH Tryd.prog laidScan w) ∧ sizedMet enc Tryd.prog Tryd.f7 (OpenSpec.ofChange Rows.scanWordsSpec) false w args) (Rows.scanWordsSpec.post enc Tryd.prog Tryd.f7 false true false false) := by
  refine returnsInHanded_of_change_and (C := Tryd.checked) (X := fun w _ => laidMetH Tryd.prog laidScan w) (fun _ _ _ hh h => h.of_heap hh) own started (by kernel_rfl) Tryd.func7
    (ChangeSpec.witness_shaped (enc := enc) (C := Tryd.checked) (os := os) (X := fun w _ => laidMetH Tryd.prog laidScan w) false (World.doorLaid Tryd.prog 400 os) #[.string .empty] 8 rfl (door_shaped os _) (by kernel_rfl) (by kernel_rfl) (by kernel_rfl) (door_met os _)) ?_
  intro W base args ds gs before hval0 hW hcnd hsz0 hL hholds
  have hsz : (DataW.weightsEach Tryd.prog (Tryd.f7.params.toList ++ Rows.scanWordsSpec.plain.varTypes Tryd.prog) (ds ++ gs)).all (· ≤ reachBytes) = true := hsz0
  have ht : RangeVar W := range_of_laid hL
  have hval : ∀ (j : Nat) t v, Tryd.f7.params[j]? = some t → args[j]? = some v → Value.okWide Tryd.prog W .any base t v := hval0
  have hW' := hW
  obtain ⟨p, q, hA0, hV, rfl, hfz, hnd⟩ := hW
  have hA : DataW.TrodAll enc Tryd.prog W 0 (fun _ => true) true Tryd.f7.params.toList args.toList ds p := hA0
  rw [Tryd.params7] at hA hval hsz
  obtain ⟨v0, vs0, d0, ds0, p0, q0, hargs, rfl, rfl, h0, r0⟩ := trodAll_cons hA
  obtain ⟨rfl, rfl, rfl⟩ := trodAll_nil r0
  obtain rfl : args = #[v0] := by cases args; simp_all
  obtain ⟨rfl, rfl⟩ := trodVars_none hV
  obtain ⟨s0, rfl, rfl, rfl, wl0⟩ := Go.ChangeMaps.open_string Tryd.underlying9 (hval 0 9 v0 rfl rfl) h0
  clear hA0 hval0
  refine (scanWordsL s0 wl0 W ht).mono fun e W' ⟨he, hb⟩ => ?_
  subst he
  exact ⟨_, rfl, law_post laidOut (by kernel_rfl) (by kernel_rfl) rfl Tryd.underlying4 hW' rfl rfl rfl hb⟩

theorem said : Rows.ScanWordsSaid :=
  OpenClaim.holds_of_wide 7 Tryd.f7 rfl rfl rfl rfl rfl rfl rfl ⟨rfl, rfl, rfl, rfl, rfl⟩ rfl rfl rfl rfl rfl (by kernel_rfl) Tryd.func7 (by kernel_rfl)
    (of_decide_eq_true (by kernel_rfl)) (by unfold Func.isWrapper; first | (rw [if_pos (by decide +kernel)]; kernel_rfl) | (rw [if_neg (by decide +kernel)]; exact ⟨rfl, rfl⟩))
    (fun os started H enc _ => lifted os started H enc)

theorem holds : Rows.ScanWordsCardSaid :=
  Claim7.holds_tied_plain_at .later [] [.data, .data, .data, .sentinel, .sentinel] true _ true
    said (fun _ h => by cases h) (by kernel_rfl) (fun _ h => by cases h) scanWords_row_tie rfl ⟨rfl, rfl⟩ (by kernel_rfl) rfl
    (fun f fn hf hfn => by
      obtain rfl : f = 7 := Option.some.inj ((show Tryd.prog.funcNamed "soffit/soffitlaw01.ScanWords" = some 7 by kernel_rfl).symm.trans hf) |>.symm
      obtain rfl : fn = Tryd.f7 := (Option.some.inj (Tryd.func7.symm.trans hfn)).symm
      exact ⟨by kernel_rfl, fun j t ht => by
        rw [Tryd.params7] at ht
        have hm : t ∈ [9] := by simpa using Array.mem_of_getElem? ht
        have hall : ([9].all fun u => !Tryd.prog.wantsStandIn u) = true := by kernel_rfl
        exact (show Tryd.prog.wantsStandIn t = false by simpa using List.all_eq_true.1 hall t hm)⟩)
    (by kernel_rfl)
end Go.Proofs.YtihfllkgoolkhaaDoor.scanWords
