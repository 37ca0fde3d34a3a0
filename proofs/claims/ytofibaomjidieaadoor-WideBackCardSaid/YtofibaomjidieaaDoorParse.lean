/-
  Layer 7 (wide): the walk of Parse of package wide: the number of every text, or what is wrong.
-/
import Derived.Test.YtofibaomjidieaaDoorTimes
import Derived.Test.YtofibaomjidieaaDoorFits
import Derived.LoopTactic
import Derived.Deep.RegionWith
namespace Go.Proofs.YtofibaomjidieaaDoor
open Go.RowKit Go.Shelf
set_option linter.unusedSimpArgs false
set_option linter.unusedVariables false
def byteAt (s : ByteArray) (k : Nat) : Nat := (s.data.toList.getD k 0).toNat
def digB (c : Nat) : Bool := decide (48 ≤ c) && decide (c ≤ 57)
def digTo (s : ByteArray) : Nat → Bool
  | 0 => true
  | k + 1 => digTo s k && digB (byteAt s k)
def valTo (s : ByteArray) : Nat → Nat
  | 0 => 0
  | k + 1 => valTo s k * 10 + (byteAt s k - 48)
def formOk (s : ByteArray) : Bool := digTo s s.size && (!(decide (s.size = 0)) && !(decide (byteAt s 0 = 48) && decide (1 < s.size)))
def parseE (s : ByteArray) : Int := if formOk s = true then (if fits2 (valTo s s.size) = true then 0 else 2) else 5
def parseV (s : ByteArray) : Wd := if formOk s = true then wdOf (valTo s s.size) else ⟨0, 0⟩
theorem digTo_mono {s : ByteArray} {k n : Nat} (h : digTo s k = false) (hk : k ≤ n) : digTo s n = false := by
  induction n with
  | zero => obtain rfl : k = 0 := by omega
            exact h
  | succ n ih =>
    rcases Nat.lt_or_ge n k with h1 | h1
    · obtain rfl : k = n + 1 := by omega
      exact h
    · simp [digTo, ih h1]
theorem valTo_mono {s : ByteArray} {k n : Nat} (hk : k ≤ n) : valTo s k ≤ valTo s n := by
  induction n with
  | zero => obtain rfl : k = 0 := by omega
            exact Nat.le_refl _
  | succ n ih =>
    rcases Nat.lt_or_ge n k with h1 | h1
    · obtain rfl : k = n + 1 := by omega
      exact Nat.le_refl _
    · have := ih h1; simp only [valTo]; omega
theorem parse_bad {s : ByteArray} (h : formOk s = false) : parseE s = 5 ∧ parseV s = ⟨0, 0⟩ := by simp [parseE, parseV, h]
theorem parse_over {s : ByteArray} (h : formOk s = true) {k n : Nat} (hk : k ≤ s.size) (hn : n ≤ valTo s k) (hf : fits2 n = false) : parseE s = 2 ∧ parseV s = ⟨0, 0⟩ := by
  have h1 := valTo_mono (s := s) hk
  have h2 : fits2 (valTo s s.size) = false := by
    simp only [fits2, decide_eq_false_iff_not] at hf ⊢; omega
  simp [parseE, parseV, h, h2, wdOf]
theorem times10 (v : Nat) (hv : fits2 v = true) (w : World) : Calls Tryd.prog 17 #[(wd v).v, .int .u64 10] w fun e w' => e = .returned (.tuple #[(wdOf (v * 10)).v, .bool (fits2 (v * 10))]) ∧ Below w.heap.size w w' := by
  have := timesP (wd v) 10 (wd_wf (by simpa [fits2] using hv)) (by omega) w
  rw [wd_val] at this
  exact this
theorem addDig (v d : Nat) (hv : fits2 v = true) (hd : d < 10) (w : World) : Calls Tryd.prog 11 #[(wd v).v, Wd.v ⟨0, d⟩] w fun e w' => e = .returned (.tuple #[(wdOf (v + d)).v, .bool (fits2 (v + d))]) ∧ Below w.heap.size w w' := by
  have := addP (wd v) ⟨0, d⟩ (wd_wf (by simpa [fits2] using hv)) ⟨by show 0 < 18446744073709551616; omega, by show d < 18446744073709551616; omega⟩ w
  rw [wd_val, show (⟨0, d⟩ : Wd).val = d by simp [Wd.val]] at this
  exact this
theorem digTo_at {s : ByteArray} {k n : Nat} (h : digTo s n = true) (hk : k < n) : digB (byteAt s k) = true := by
  cases q : digB (byteAt s k)
  · have h1 : digTo s (k + 1) = false := by simp [digTo, q]
    rw [digTo_mono h1 hk] at h; cases h
  · rfl
theorem times10T (v : Nat) (hv : fits2 v = true) (hf : fits2 (v * 10) = true) (w : World) : Calls Tryd.prog 17 #[(wd v).v, .int .u64 10] w fun e w' => e = .returned (.tuple #[(wd (v * 10)).v, .bool true]) ∧ Below w.heap.size w w' := by
  have := times10 v hv w
  rwa [hf, show wdOf (v * 10) = wd (v * 10) by unfold wdOf; rw [if_pos hf]] at this
theorem times10F (v : Nat) (hv : fits2 v = true) (hf : fits2 (v * 10) = false) (w : World) : Calls Tryd.prog 17 #[(wd v).v, .int .u64 10] w fun e w' => e = .returned (.tuple #[Wd.v ⟨0, 0⟩, .bool false]) ∧ Below w.heap.size w w' := by
  have := times10 v hv w
  rwa [hf, show wdOf (v * 10) = ⟨0, 0⟩ by unfold wdOf; rw [if_neg (by simp [hf])]] at this
theorem addT (v d : Nat) (hv : fits2 v = true) (hd : d < 10) (hf : fits2 (v + d) = true) (w : World) : Calls Tryd.prog 11 #[(wd v).v, Wd.v ⟨0, d⟩] w fun e w' => e = .returned (.tuple #[(wd (v + d)).v, .bool true]) ∧ Below w.heap.size w w' := by
  have := addDig v d hv hd w
  rwa [hf, show wdOf (v + d) = wd (v + d) by unfold wdOf; rw [if_pos hf]] at this
theorem addF (v d : Nat) (hv : fits2 v = true) (hd : d < 10) (hf : fits2 (v + d) = false) (w : World) : Calls Tryd.prog 11 #[(wd v).v, Wd.v ⟨0, d⟩] w fun e w' => e = .returned (.tuple #[Wd.v ⟨0, 0⟩, .bool false]) ∧ Below w.heap.size w w' := by
  have := addDig v d hv hd w
  rwa [hf, show wdOf (v + d) = ⟨0, 0⟩ by unfold wdOf; rw [if_neg (by simp [hf])]] at this
/-- What lies in memory while the digits are taken: the result's variable, and a. -/
structure PMem (w : World) (s : ByteArray) (k : Nat) (W : World) : Prop where
  below : Below w.heap.size w W
  br : Whl W w.heap.size 24 #[.int .u64 0, .int .u64 0]
  ba : Whl W (w.heap.size + 1) 24 #[.int .u64 ((wd (valTo s k)).hi : Int), .int .u64 ((wd (valTo s k)).lo : Int)]
  fit : fits2 (valTo s k) = true
theorem PMem.start (w : World) (s : ByteArray) : PMem w s 0 ((w.alloc (.cells #[.int .u64 0, .int .u64 0] 24)).alloc (.cells #[.int .u64 0, .int .u64 0] 24)) := by
  refine ⟨below_alloc (below_alloc (Below.refl _ _) _) _, (Whl.new _ _ _).alloc _, ?_, by simp [valTo, fits2]⟩
  have := Whl.new (w.alloc (.cells #[.int .u64 0, .int .u64 0] 24)) 24 #[.int .u64 0, .int .u64 0]
  rw [World.size_alloc] at this
  simpa [valTo, wd] using this
set_option maxHeartbeats 16000000 in
set_option maxRecDepth 100000 in
theorem parseP (s : ByteArray) (hs : s.size ≤ maxLen) (w : World) : Calls Tryd.prog 25 #[.string s] w fun e w' => e = .returned (.tuple #[(parseV s).v, .int .i64 (parseE s)]) ∧ Below w.heap.size w w' := by
  unfold maxLen at hs
  have B0 : Below w.heap.size w (w.alloc (.cells #[.int .u64 0, .int .u64 0] 24)) := below_alloc (Below.refl _ _) _
  go_enter Tryd.func25, Tryd.ntmps25
  go_wp2
  go_loop [11] (fun i => ∃ k : Nat, k ≤ s.size ∧ i = .int .i64 k ∧ digTo s k = true) (fun i => s.size - (intOf i).toNat)
  case atStart => exact ⟨0, Nat.zero_le _, rfl, rfl⟩
  case round =>
    obtain ⟨k, hk, rfl, hn⟩ := hrel
    have HN := Lib.hid hn; clear hn
    by_cases hlt : k < s.size
    · have hbyte : byteAt s k = s[k].toNat := by simp [byteAt, hlt]; rfl
      have HB := Lib.hid hbyte; clear hbyte
      have hok : digB (byteAt s k) = true → digTo s (k + 1) = true := fun h => by simp [digTo, HN.out, h]
      have HO := Lib.hid hok; clear hok
      have hno : digB (byteAt s k) = false → parseE s = 5 ∧ parseV s = ⟨0, 0⟩ := fun h => parse_bad (by
        have : digTo s (k + 1) = false := by simp [digTo, h]
        simp [formOk, digTo_mono this hlt])
      have HX := Lib.hid hno; clear hno
      rcases (by omega : s[k].toNat < 48 ∨ (48 ≤ s[k].toNat ∧ 57 < s[k].toNat) ∨ (48 ≤ s[k].toNat ∧ s[k].toNat ≤ 57)) with h1 | ⟨h1, h2⟩ | ⟨h1, h2⟩
      · have e1 : decide ((s[k].toNat : Int) < 48) = true := by simp; omega
        have HV := Lib.hid (HX.out (by rw [HB.out]; simp [digB]; omega))
        go_wp2
        refine ret_of ?_ rfl
        refine ⟨.tuple #[Wd.v ⟨0, 0⟩, .int .i64 5], ?_, by rw [HV.out.1, HV.out.2], ?_⟩
        · simp [results, Tryd.results25, go_sem]
        · repeat (first | exact Below.refl _ _ | with_reducible apply below_alloc)
      · have e1 : decide ((s[k].toNat : Int) < 48) = false := by simp; omega
        have e2 : decide ((57 : Int) < (s[k].toNat : Int)) = true := by simp; omega
        have HV := Lib.hid (HX.out (by rw [HB.out]; simp [digB]; omega))
        go_wp2
        refine ret_of ?_ rfl
        refine ⟨.tuple #[Wd.v ⟨0, 0⟩, .int .i64 5], ?_, by rw [HV.out.1, HV.out.2], ?_⟩
        · simp [results, Tryd.results25, go_sem]
        · repeat (first | exact Below.refl _ _ | with_reducible apply below_alloc)
      · have e1 : decide ((s[k].toNat : Int) < 48) = false := by simp; omega
        have e2 : decide ((57 : Int) < (s[k].toNat : Int)) = false := by simp; omega
        have HV := Lib.hid (HO.out (by rw [HB.out]; simp [digB]; omega))
        go_wp2
        go_round
        case rel => exact ⟨k + 1, by omega, by go_num, HV.out⟩
        case measure => simp [intOf]; omega
    · obtain rfl : k = s.size := by omega
      have hdig := HN.out
      rcases (by omega : s.size = 0 ∨ 0 < s.size) with h0 | h0
      · have he : s = ⟨#[]⟩ := by
          obtain ⟨⟨l⟩⟩ := s
          have : l.length = 0 := by simpa [ByteArray.size] using h0
          simp [List.eq_nil_of_length_eq_zero this]
        subst he
        have HV := Lib.hid (parse_bad (s := ⟨#[]⟩) (by rfl))
        clear hdig HN
        go_wp2
        refine ret_of ?_ rfl
        refine ⟨.tuple #[Wd.v ⟨0, 0⟩, .int .i64 5], ?_, by rw [HV.out.1, HV.out.2], ?_⟩
        · simp [results, Tryd.results25, go_sem]
        · repeat (first | exact Below.refl _ _ | with_reducible apply below_alloc)
      · have hne : s ≠ ⟨#[]⟩ := fun e => by rw [e] at h0; exact absurd h0 (by decide)
        have n1 : s.toList.isEmpty = false := by
          rw [ByteArray.toList_eq]
          obtain ⟨⟨l⟩⟩ := s
          cases l with
          | nil => exact absurd rfl hne
          | cons a r => rfl
        have hbyte : byteAt s 0 = s[0].toNat := by simp [byteAt, h0]; rfl
        have HB := Lib.hid hbyte; clear hbyte
        have HD := Lib.hid hdig; clear hdig HN
        have HNE := Lib.hid hne; clear hne
        by_cases hz : s[0].toNat = 48 ∧ 1 < s.size
        · obtain ⟨z1, z2⟩ := hz
          have HV := Lib.hid (parse_bad (s := s) (by simp [formOk, HB.out, z1, z2]))
          have e1 : ((s[0].toNat : Int) == 48) = true := by simp; omega
          have e2 : decide ((1 : Int) < (s.size : Int)) = true := by simp; omega
          clear z1
          go_wp2
          refine ret_of ?_ rfl
          refine ⟨.tuple #[Wd.v ⟨0, 0⟩, .int .i64 5], ?_, by rw [HV.out.1, HV.out.2], ?_⟩
          · simp [results, Tryd.results25, go_sem]
          · repeat (first | exact Below.refl _ _ | with_reducible apply below_alloc)
        · have hform : formOk s = true := by
            simp only [formOk, HD.out, HB.out, Bool.true_and, Bool.and_eq_true, Bool.not_eq_true', decide_eq_false_iff_not, Bool.and_eq_false_iff]
            refine ⟨by omega, ?_⟩
            by_cases q : s[0].toNat = 48
            · exact .inr (fun h => hz ⟨q, h⟩)
            · exact .inl q
          have HF := Lib.hid hform; clear hform
          have hcase : ((s[0].toNat : Int) == 48) = false ∨ (((s[0].toNat : Int) == 48) = true ∧ decide ((1 : Int) < (s.size : Int)) = false) := by
            by_cases q : s[0].toNat = 48
            · exact .inr ⟨by simp; omega, by simp; omega⟩
            · exact .inl (by simp; omega)
          clear hz
          have H0 := PMem.start w s
          rcases hcase with e1 | ⟨e1, e2⟩
          all_goals
            go_wp2
            clear e1 n1 HB HNE
            go_loopw [41] (fun i wr => ∃ k : Nat, k ≤ s.size ∧ i = .int .i64 k ∧ PMem w s k wr) (fun i _ => s.size - (intOf i).toNat)
            case atStart => exact ⟨0, Nat.zero_le _, rfl, H0⟩
            case round =>
              obtain ⟨k, hk, rfl, hM⟩ := hrel
              obtain ⟨hb, hbr, hba, hfit⟩ := hM
              have r0 : wr.cell? ⟨w.heap.size, 0, none⟩ = some (.int .u64 0) := hbr.cell 0
              have r1 : wr.cell? ⟨w.heap.size, 1, none⟩ = some (.int .u64 0) := hbr.cell 1
              have fr0 := hbr.frozen 0
              have fr1 := hbr.frozen 1
              have a0 : wr.cell? ⟨w.heap.size + 1, 0, none⟩ = some (.int .u64 ((wd (valTo s k)).hi : Int)) := hba.cell 0
              have a1 : wr.cell? ⟨w.heap.size + 1, 1, none⟩ = some (.int .u64 ((wd (valTo s k)).lo : Int)) := hba.cell 1
              have l0 := hbr.lt
              have l1 := hba.lt
              by_cases hlt2 : k < s.size
              · have hdg := digTo_at HD.out hlt2
                have hbyte : byteAt s k = s[k].toNat := by simp [byteAt, hlt2]; rfl
                rw [hbyte] at hdg
                have hd10 : 48 ≤ s[k].toNat ∧ s[k].toNat ≤ 57 := by simpa [digB] using hdg
                have hnext : valTo s (k + 1) = valTo s k * 10 + (s[k].toNat - 48) := by simp only [valTo, hbyte]
                obtain ⟨d, hd⟩ : ∃ d, s[k].toNat - 48 = d := ⟨_, rfl⟩
                rw [hd] at hnext
                have hdl : d < 10 := by omega
                have w1' : IntKind.u8.wrap ((s[k].toNat : Int) - 48) = (d : Int) := by simp only [IntKind.wrap, IntKind.bits, IntKind.signed]; simp; omega
                have w2' : IntKind.u64.wrap (d : Int) = (d : Int) := by rw [IntKind.wrap_u64]; omega
                have HN := Lib.hid hnext
                clear hnext hdg hbyte hd hd10
                obtain ⟨v, hv⟩ : ∃ v, valTo s k = v := ⟨_, rfl⟩
                have HVV := Lib.hid hv
                rw [hv] at a0 a1 hfit
                clear hv
                cases hf : fits2 (v * 10)
                · have HO := Lib.hid (parse_over HF.out (k := k + 1) hlt2 (n := v * 10) (by rw [HN.out, HVV.out]; omega) hf)
                  go_wp2_with (go_at_call 17; refine (times10F v hfit hf _).mono ?_; rintro e w1 ⟨rfl, hb1⟩; obtain ⟨hcc1, hff1⟩ := bcell hb1; have s1 := hb1.size; have m0 : w.heap.size < w1.heap.size := (by omega); have B1 := below_step hb hb1)
                  refine ret_of ?_ rfl
                  refine ⟨.tuple #[Wd.v ⟨0, 0⟩, .int .i64 2], ?_, by rw [HO.out.1, HO.out.2], ?_⟩
                  · have z := (((hbr.below' hb1).put 0 (.int .u64 0)).put 1 (.int .u64 0)).alloc (.cells #[.int .u64 0, .int .u64 0] 24)
                    simp [results, Tryd.results25, go_sem, z.cell]
                  · repeat (first | exact B1 | with_reducible apply below_alloc | (with_reducible refine Below.setCell ?_ (by simp) _))
                · have fa0 := hba.frozen 0
                  have fa1 := hba.frozen 1
                  cases hg : fits2 (v * 10 + d)
                  · have HO := Lib.hid (parse_over HF.out (k := k + 1) hlt2 (n := v * 10 + d) (by rw [HN.out, HVV.out]; omega) hg)
                    go_wp2_with (go_at_call 17; refine (times10T v hfit hf _).mono ?_; rintro e w1 ⟨rfl, hb1⟩; obtain ⟨hcc1, hff1⟩ := bcell hb1; have s1 := hb1.size; have m0 : w.heap.size < w1.heap.size := (by omega); have m1 : w.heap.size + 1 < w1.heap.size := (by omega); have B1 := below_step hb hb1)
                    go_region_with (first
                      | (go_at_call 16; refine (ofP d _).mono ?_; rintro e w2 ⟨rfl, hb2⟩; obtain ⟨hcc2, hff2⟩ := bcell hb2; have s2 := hb2.size; (try simp at s2); have n0 : w.heap.size < w2.heap.size := (by omega); have n1 : w.heap.size + 1 < w2.heap.size := (by omega); have n2 : w1.heap.size < w2.heap.size := (by omega))
                      | (go_at_call 11; refine (addF (v * 10) d hf hdl hg _).mono ?_; rintro e w3 ⟨rfl, hb3⟩; obtain ⟨hcc3, hff3⟩ := bcell hb3; have s3 := hb3.size; (try simp at s3); have o0 : w.heap.size < w3.heap.size := (by omega); have o1 : w.heap.size + 1 < w3.heap.size := (by omega); have o2 : w1.heap.size < w3.heap.size := (by omega)))
                    all_goals go_wp2
                    all_goals
                      have R2 : Whl w2 w.heap.size 24 #[.int .u64 0, .int .u64 0] := by first | exact ((hbr.below' hb1).alloc _).below' hb2 | exact ((hbr.below' hb1).alloc _).drew.below' hb2
                      have R3 : Whl w3 w.heap.size 24 #[.int .u64 0, .int .u64 0] := by first | exact R2.below' hb3 | exact R2.drew.below' hb3
                      have C2 : Below w.heap.size w w2 := by first | exact below_step (below_alloc B1 _) hb2 | exact below_step (below_alloc B1 _).drew hb2
                      have C3 : Below w.heap.size w w3 := by first | exact below_step C2 hb3 | exact below_step C2.drew hb3
                      have z := (((R3.far (p := ⟨w1.heap.size, 0, none⟩) (by simp; omega) (.int .u64 0)).far (p := ⟨w1.heap.size, 1, none⟩) (by simp; omega) (.int .u64 0)).put 0 (.int .u64 0)).put 1 (.int .u64 0)
                      refine ret_of ?_ rfl
                      refine ⟨.tuple #[Wd.v ⟨0, 0⟩, .int .i64 2], ?_, by rw [HO.out.1, HO.out.2], ?_⟩
                      · simp [results, Tryd.results25, go_sem, z.cell]
                      · repeat (first | exact C3 | with_reducible apply below_alloc | (with_reducible refine Below.setCell ?_ (by simp <;> omega) _))
                  · have HO := Lib.hid (show valTo s (k + 1) = v * 10 + d by rw [HN.out, HVV.out])
                    go_wp2_with (go_at_call 17; refine (times10T v hfit hf _).mono ?_; rintro e w1 ⟨rfl, hb1⟩; obtain ⟨hcc1, hff1⟩ := bcell hb1; have s1 := hb1.size; have m0 : w.heap.size < w1.heap.size := (by omega); have m1 : w.heap.size + 1 < w1.heap.size := (by omega); have B1 := below_step hb hb1)
                    go_region_with (first
                      | (go_at_call 16; refine (ofP d _).mono ?_; rintro e w2 ⟨rfl, hb2⟩; obtain ⟨hcc2, hff2⟩ := bcell hb2; have s2 := hb2.size; (try simp at s2); have n0 : w.heap.size < w2.heap.size := (by omega); have n1 : w.heap.size + 1 < w2.heap.size := (by omega); have n2 : w1.heap.size < w2.heap.size := (by omega))
                      | (go_at_call 11; refine (addT (v * 10) d hf hdl hg _).mono ?_; rintro e w3 ⟨rfl, hb3⟩; obtain ⟨hcc3, hff3⟩ := bcell hb3; have s3 := hb3.size; (try simp at s3); have o0 : w.heap.size < w3.heap.size := (by omega); have o1 : w.heap.size + 1 < w3.heap.size := (by omega); have o2 : w1.heap.size < w3.heap.size := (by omega)))
                    all_goals go_wp2
                    all_goals
                      have R2 : Whl w2 w.heap.size 24 #[.int .u64 0, .int .u64 0] := by first | exact ((hbr.below' hb1).alloc _).below' hb2 | exact ((hbr.below' hb1).alloc _).drew.below' hb2
                      have R3 : Whl w3 w.heap.size 24 #[.int .u64 0, .int .u64 0] := by first | exact R2.below' hb3 | exact R2.drew.below' hb3
                      have C2 : Below w.heap.size w w2 := by first | exact below_step (below_alloc B1 _) hb2 | exact below_step (below_alloc B1 _).drew hb2
                      have C3 : Below w.heap.size w w3 := by first | exact below_step C2 hb3 | exact below_step C2.drew hb3
                      have A2 : Whl w2 (w.heap.size + 1) 24 #[.int .u64 ((wd (valTo s k)).hi : Int), .int .u64 ((wd (valTo s k)).lo : Int)] := by first | exact ((hba.below' hb1).alloc _).below' hb2 | exact ((hba.below' hb1).alloc _).drew.below' hb2
                      have A3 : Whl w3 (w.heap.size + 1) 24 #[.int .u64 ((wd (valTo s k)).hi : Int), .int .u64 ((wd (valTo s k)).lo : Int)] := by first | exact A2.below' hb3 | exact A2.drew.below' hb3
                      refine ⟨⟨k + 1, hlt2, by go_num, ⟨?_, ?_, ?_, ?_⟩⟩, by simp [intOf]; omega⟩
                      · repeat (first | exact C3 | with_reducible apply below_alloc | (with_reducible refine Below.setCell ?_ (by simp <;> omega) _))
                      · exact (((R3.far (p := ⟨w1.heap.size, 0, none⟩) (by simp; omega) _).far (p := ⟨w1.heap.size, 1, none⟩) (by simp; omega) _).far (p := ⟨w.heap.size + 1, 0, none⟩) (by simp) _).far (p := ⟨w.heap.size + 1, 1, none⟩) (by simp) _
                      · have z := (((A3.far (p := ⟨w1.heap.size, 0, none⟩) (by simp; omega) (.int .u64 ((wd (v * 10 + d)).hi : Int))).far (p := ⟨w1.heap.size, 1, none⟩) (by simp; omega) (.int .u64 ((wd (v * 10 + d)).lo : Int))).put 0 (.int .u64 ((wd (v * 10 + d)).hi : Int))).put 1 (.int .u64 ((wd (v * 10 + d)).lo : Int))
                        rw [HO.out]
                        simpa using z
                      · rw [HO.out]; exact hg
              · obtain rfl : k = s.size := by omega
                have HG := Lib.hid (show parseE s = 0 ∧ parseV s = wd (valTo s s.size) by simp [parseE, parseV, HF.out, hfit, wdOf])
                obtain ⟨v, hv⟩ : ∃ v, valTo s s.size = v := ⟨_, rfl⟩
                rw [hv] at a0 a1 HG
                clear hv
                go_wp2
                refine ret_of ?_ rfl
                refine ⟨.tuple #[(wd v).v, .int .i64 0], ?_, by rw [HG.out.1, HG.out.2], ?_⟩
                · have z := (hbr.put 0 (.int .u64 ((wd v).hi : Int))).put 1 (.int .u64 ((wd v).lo : Int))
                  simp [results, Tryd.results25, go_sem, z.cell]
                · repeat (first | exact hb | with_reducible apply below_alloc | (with_reducible refine Below.setCell ?_ (by simp) _))
end Go.Proofs.YtofibaomjidieaaDoor
