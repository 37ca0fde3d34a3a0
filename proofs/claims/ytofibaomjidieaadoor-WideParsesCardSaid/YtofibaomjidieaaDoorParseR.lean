/-
  Layer 7 (wide): the walk of the reference's Parse: the number of every text, or what is wrong.
-/
import Derived.Test.YtofibaomjidieaaDoorParse
import Derived.Test.YtofibaomjidieaaDoorTimesR
import Derived.Deep.DeepCutAuto
namespace Go.Proofs.YtofibaomjidieaaDoor
open Go.RowKit Go.Shelf
set_option linter.unusedSimpArgs false
set_option linter.unusedVariables false
theorem valTo_low {s : ByteArray} (h : 1 ≤ valTo s 1) (k : Nat) : 10 ^ k ≤ valTo s (k + 1) := by
  induction k with
  | zero => simpa using h
  | succ k ih => rw [show valTo s (k + 1 + 1) = valTo s (k + 1) * 10 + (byteAt s (k + 1) - 48) from rfl, Nat.pow_succ]; omega
theorem parse_long {s : ByteArray} (h : formOk s = true) (h39 : 39 < s.size) : parseE s = 2 ∧ parseV s = ⟨0, 0⟩ := by
  have h1 : 1 ≤ valTo s 1 := by
    simp only [formOk, Bool.and_eq_true, Bool.not_eq_true', decide_eq_false_iff_not, Bool.and_eq_false_iff] at h
    obtain ⟨hd, h0, h2⟩ := h
    have := digTo_at hd (k := 0) (by omega)
    simp only [digB, Bool.and_eq_true, decide_eq_true_eq] at this
    simp only [valTo]
    rcases h2 with q | q <;> omega
  refine parse_over h (k := s.size) (Nat.le_refl _) (Nat.le_refl _) ?_
  have h3 := valTo_low h1 39
  have h4 := valTo_mono (s := s) (k := 39 + 1) (n := s.size) (by omega)
  have h5 : (340282366920938463463374607431768211456 : Nat) ≤ 10 ^ 39 := by decide
  simp only [fits2, decide_eq_false_iff_not]
  omega
theorem times10RT (v : Nat) (hv : fits2 v = true) (hf : fits2 (v * 10) = true) (w : World) : Calls Tryd.prog 18 #[(wd v).v, .int .u64 10] w fun e w' => e = .returned (.tuple #[(wd (v * 10)).v, .bool true]) ∧ Below w.heap.size w w' := by
  have := timesR (wd v) 10 (wd_wf (by simpa [fits2] using hv)) (by omega) w
  rwa [wd_val, hf, show wdOf (v * 10) = wd (v * 10) by unfold wdOf; rw [if_pos hf]] at this
theorem times10RF (v : Nat) (hv : fits2 v = true) (hf : fits2 (v * 10) = false) (w : World) : Calls Tryd.prog 18 #[(wd v).v, .int .u64 10] w fun e w' => e = .returned (.tuple #[Wd.v ⟨0, 0⟩, .bool false]) ∧ Below w.heap.size w w' := by
  have := timesR (wd v) 10 (wd_wf (by simpa [fits2] using hv)) (by omega) w
  rwa [wd_val, hf, show wdOf (v * 10) = ⟨0, 0⟩ by unfold wdOf; rw [if_neg (by simp [hf])]] at this
theorem addDR (v d : Nat) (hv : fits2 v = true) (hd : d < 10) (w : World) : Calls Tryd.prog 12 #[(wd v).v, .agg #[.int .u64 0, .int .u64 (d : Int)]] w fun e w' => e = .returned (.tuple #[(wdOf (v + d)).v, .bool (fits2 (v + d))]) ∧ Below w.heap.size w w' := by
  have := addR (wd v) ⟨0, d⟩ (wd_wf (by simpa [fits2] using hv)) ⟨by show 0 < 18446744073709551616; omega, by show d < 18446744073709551616; omega⟩ w
  rwa [wd_val, show (⟨0, d⟩ : Wd).val = d by simp [Wd.val]] at this
theorem addRT (v d : Nat) (hv : fits2 v = true) (hd : d < 10) (hf : fits2 (v + d) = true) (w : World) : Calls Tryd.prog 12 #[(wd v).v, .agg #[.int .u64 0, .int .u64 (d : Int)]] w fun e w' => e = .returned (.tuple #[(wd (v + d)).v, .bool true]) ∧ Below w.heap.size w w' := by
  have := addDR v d hv hd w
  rwa [hf, show wdOf (v + d) = wd (v + d) by unfold wdOf; rw [if_pos hf]] at this
theorem addRF (v d : Nat) (hv : fits2 v = true) (hd : d < 10) (hf : fits2 (v + d) = false) (w : World) : Calls Tryd.prog 12 #[(wd v).v, .agg #[.int .u64 0, .int .u64 (d : Int)]] w fun e w' => e = .returned (.tuple #[Wd.v ⟨0, 0⟩, .bool false]) ∧ Below w.heap.size w w' := by
  have := addDR v d hv hd w
  rwa [hf, show wdOf (v + d) = ⟨0, 0⟩ by unfold wdOf; rw [if_neg (by simp [hf])]] at this
theorem Whl.new1' (w : World) (o : Obj) (t : TypeId) (cs : Array Value) : Whl ((w.alloc o).drew.alloc (.cells cs t)) (w.heap.size + 1) t cs := by
  have := Whl.new (w.alloc o).drew t cs
  rwa [show (w.alloc o).drew.heap.size = w.heap.size + 1 by simp] at this
theorem Whl.put0 {w : World} {g : Nat} {t : TypeId} {x y u : Value} (h : Whl w g t #[x, y]) : Whl (w.setCell ⟨g, 0, none⟩ u) g t #[u, y] := h.put 0 u
theorem Whl.put1 {w : World} {g : Nat} {t : TypeId} {x y u : Value} (h : Whl w g t #[x, y]) : Whl (w.setCell ⟨g, 1, none⟩ u) g t #[x, u] := h.put 1 u
/-- What the sum leaves: it lies in a variable of its own. -/
def CutP (w : World) (s : ByteArray) (k n : Nat) (s9 s10 : Value) (W : World) : Prop :=
  ∃ g : Nat, s9 = .pointer (some ⟨g, 0, none⟩) ∧ s10 = .bool (fits2 n) ∧ Below w.heap.size w W ∧ Whl W w.heap.size 24 #[.int .u64 0, .int .u64 0] ∧
    Whl W (w.heap.size + 1) 24 #[.int .u64 ((wd (valTo s k)).hi : Int), .int .u64 ((wd (valTo s k)).lo : Int)] ∧ Whl W g 24 #[.int .u64 ((wdOf n).hi : Int), .int .u64 ((wdOf n).lo : Int)]
set_option maxHeartbeats 16000000 in
set_option maxRecDepth 100000 in
theorem parseR (s : ByteArray) (hs : s.size ≤ maxLen) (w : World) : Calls Tryd.prog 26 #[.string s] w fun e w' => e = .returned (.tuple #[(parseV s).v, .int .i64 (parseE s)]) ∧ Below w.heap.size w w' := by
  unfold maxLen at hs
  have B0 : Below w.heap.size w (w.alloc (.cells #[.int .u64 0, .int .u64 0] 24)) := below_alloc (Below.refl _ _) _
  have H0 := PMem.start w s
  go_enter Tryd.func26, Tryd.ntmps26
  go_wp2
  go_loop [4] (fun i => ∃ k : Nat, k ≤ s.size ∧ i = .int .i64 k ∧ digTo s k = true) (fun i => s.size - (intOf i).toNat)
  case atStart => exact ⟨0, Nat.zero_le _, rfl, rfl⟩
  case round =>
    obtain ⟨k, hk, rfl, hn⟩ := hrel
    have HN := Lib.hid hn; clear hn
    by_cases hlt : k < s.size
    · have hbyte : byteAt s k = s[k].toNat := by simp [byteAt, hlt]; rfl
      have HB := Lib.hid hbyte; clear hbyte
      have hok : digB (byteAt s k) = true → digTo s (k + 1) = true := fun h => by simp [digTo, HN.out, h]
      have HO := Lib.hid hok; clear hok
      have hno : digB (byteAt s k) = false → parseE s = 5 ∧ parseV s = ⟨0, 0⟩ := fun h => parse_bad (by
        have : digTo s (k + 1) = false := by simp [digTo, h]
        simp [formOk, digTo_mono this hlt])
      have HX := Lib.hid hno; clear hno
      rcases (by omega : s[k].toNat < 48 ∨ (48 ≤ s[k].toNat ∧ 57 < s[k].toNat) ∨ (48 ≤ s[k].toNat ∧ s[k].toNat ≤ 57)) with h1 | ⟨h1, h2⟩ | ⟨h1, h2⟩
      · have e1 : decide ((s[k].toNat : Int) < 48) = true := by simp; omega
        have HV := Lib.hid (HX.out (by rw [HB.out]; simp [digB]; omega))
        go_wp2
        refine ret_of ?_ rfl
        refine ⟨.tuple #[Wd.v ⟨0, 0⟩, .int .i64 5], ?_, by rw [HV.out.1, HV.out.2], ?_⟩
        · simp [results, Tryd.results26, go_sem]
        · repeat (first | exact Below.refl _ _ | with_reducible apply below_alloc)
      · have e1 : decide ((s[k].toNat : Int) < 48) = false := by simp; omega
        have e2 : decide ((57 : Int) < (s[k].toNat : Int)) = true := by simp; omega
        have HV := Lib.hid (HX.out (by rw [HB.out]; simp [digB]; omega))
        go_wp2
        refine ret_of ?_ rfl
        refine ⟨.tuple #[Wd.v ⟨0, 0⟩, .int .i64 5], ?_, by rw [HV.out.1, HV.out.2], ?_⟩
        · simp [results, Tryd.results26, go_sem]
        · repeat (first | exact Below.refl _ _ | with_reducible apply below_alloc)
      · have e1 : decide ((s[k].toNat : Int) < 48) = false := by simp; omega
        have e2 : decide ((57 : Int) < (s[k].toNat : Int)) = false := by simp; omega
        have HV := Lib.hid (HO.out (by rw [HB.out]; simp [digB]; omega))
        go_wp2
        go_round
        case rel => exact ⟨k + 1, by omega, by go_num, HV.out⟩
        case measure => simp [intOf]; omega
    · obtain rfl : k = s.size := by omega
      have hdig := HN.out
      rcases (by omega : s.size = 0 ∨ 0 < s.size) with h0 | h0
      · have HV := Lib.hid (parse_bad (s := s) (by simp [formOk, h0]))
        have u0 : ((s.size : Int) == 0) = true := by rw [beq_iff_eq]; omega
        clear hdig HN
        go_wp2
        refine ret_of ?_ rfl
        refine ⟨.tuple #[Wd.v ⟨0, 0⟩, .int .i64 5], ?_, by rw [HV.out.1, HV.out.2], ?_⟩
        · simp [results, Tryd.results26, go_sem]
        · repeat (first | exact Below.refl _ _ | with_reducible apply below_alloc)
      · have u0 : ((s.size : Int) == 0) = false := by rw [beq_eq_false_iff_ne]; omega
        have hbyte : byteAt s 0 = s[0].toNat := by simp [byteAt, h0]; rfl
        have HB := Lib.hid hbyte; clear hbyte
        have HD := Lib.hid hdig; clear hdig HN
        by_cases hz : s[0].toNat = 48 ∧ 1 < s.size
        · obtain ⟨z1, z2⟩ := hz
          have HV := Lib.hid (parse_bad (s := s) (by simp [formOk, HB.out, z1, z2]))
          have e1 : ((s[0].toNat : Int) == 48) = true := by simp; omega
          have e2 : decide ((1 : Int) < (s.size : Int)) = true := by simp; omega
          clear z1
          go_wp2
          refine ret_of ?_ rfl
          refine ⟨.tuple #[Wd.v ⟨0, 0⟩, .int .i64 5], ?_, by rw [HV.out.1, HV.out.2], ?_⟩
          · simp [results, Tryd.results26, go_sem]
          · repeat (first | exact Below.refl _ _ | with_reducible apply below_alloc)
        · have hform : formOk s = true := by
            simp only [formOk, HD.out, HB.out, Bool.true_and, Bool.and_eq_true, Bool.not_eq_true', decide_eq_false_iff_not, Bool.and_eq_false_iff]
            refine ⟨by omega, ?_⟩
            by_cases q : s[0].toNat = 48
            · exact .inr (fun h => hz ⟨q, h⟩)
            · exact .inl q
          have HF := Lib.hid hform; clear hform
          have hcase : ((s[0].toNat : Int) == 48) = false ∨ (((s[0].toNat : Int) == 48) = true ∧ decide ((1 : Int) < (s.size : Int)) = false) := by
            by_cases q : s[0].toNat = 48
            · exact .inr ⟨by simp; omega, by simp; omega⟩
            · exact .inl (by simp; omega)
          clear hz
          by_cases hlong : 39 < s.size
          · have u3 : decide ((39 : Int) < (s.size : Int)) = true := by simp; omega
            have HV := Lib.hid (parse_long HF.out hlong)
            clear hlong
            rcases hcase with e1 | ⟨e1, e2⟩
            all_goals
              go_wp2
              refine ret_of ?_ rfl
              refine ⟨.tuple #[Wd.v ⟨0, 0⟩, .int .i64 2], ?_, by rw [HV.out.1, HV.out.2], ?_⟩
              · simp [results, Tryd.results26, go_sem]
              · repeat (first | exact Below.refl _ _ | with_reducible apply below_alloc)
          · have u3 : decide ((39 : Int) < (s.size : Int)) = false := by simp; omega
            clear hlong
            rcases hcase with e1 | ⟨e1, e2⟩
            all_goals
              go_wp2
              clear e1 HB
              go_loopw [6] (fun i wr => ∃ k : Nat, k ≤ s.size ∧ i = .int .i64 k ∧ PMem w s k wr) (fun i _ => s.size - (intOf i).toNat)
              case atStart => exact ⟨0, Nat.zero_le _, rfl, H0⟩
              case round =>
                obtain ⟨k, hk, rfl, hM⟩ := hrel
                obtain ⟨hb, hbr, hba, hfit⟩ := hM
                obtain ⟨r0, r1, fr0, fr1⟩ := hbr.two
                obtain ⟨a0, a1, fa0, fa1⟩ := hba.two
                have l0 := hbr.lt
                have l1 := hba.lt
                by_cases hlt2 : k < s.size
                · have hdg := digTo_at HD.out hlt2
                  have hbyte : byteAt s k = s[k].toNat := by simp [byteAt, hlt2]; rfl
                  rw [hbyte] at hdg
                  have hd10 : 48 ≤ s[k].toNat ∧ s[k].toNat ≤ 57 := by simpa [digB] using hdg
                  have hnext : valTo s (k + 1) = valTo s k * 10 + (s[k].toNat - 48) := by simp only [valTo, hbyte]
                  obtain ⟨d, hd⟩ : ∃ d, s[k].toNat - 48 = d := ⟨_, rfl⟩
                  rw [hd] at hnext
                  have hdl : d < 10 := by omega
                  have w1' : IntKind.u8.wrap ((s[k].toNat : Int) - 48) = (d : Int) := by simp only [IntKind.wrap, IntKind.bits, IntKind.signed]; simp; omega
                  have w2' : IntKind.u64.wrap (d : Int) = (d : Int) := by rw [IntKind.wrap_u64]; omega
                  have HN := Lib.hid hnext
                  clear hnext hdg hbyte hd hd10
                  obtain ⟨v, hv⟩ : ∃ v, valTo s k = v := ⟨_, rfl⟩
                  have HVV := Lib.hid hv
                  rw [hv] at a0 a1 hfit
                  clear hv
                  cases hf : fits2 (v * 10)
                  · have HO := Lib.hid (parse_over HF.out (k := k + 1) hlt2 (n := v * 10) (by rw [HN.out, HVV.out]; omega) hf)
                    go_wp2_with (go_at_call 18; with_reducible refine (times10RF v hfit hf _).mono ?_; rintro e w1 ⟨rfl, hb1⟩; obtain ⟨hcc1, hff1⟩ := bcell hb1; have s1 := hb1.size; have m0 : w.heap.size < w1.heap.size := (by omega); have B1 := below_step hb hb1)
                    refine ret_of ?_ rfl
                    refine ⟨.tuple #[Wd.v ⟨0, 0⟩, .int .i64 2], ?_, by rw [HO.out.1, HO.out.2], ?_⟩
                    · have z := (((hbr.below' hb1).put 0 (.int .u64 0)).put 1 (.int .u64 0)).alloc (.cells #[.int .u64 0, .int .u64 0] 24)
                      simp [results, Tryd.results26, go_sem, z.cell]
                    · repeat (first | exact B1 | with_reducible apply below_alloc | (with_reducible refine Below.setCell ?_ (by simp) _))
                  · go_wp2_with (go_at_call 18; with_reducible refine (times10RT v hfit hf _).mono ?_; rintro e w1 ⟨rfl, hb1⟩; obtain ⟨hcc1, hff1⟩ := bcell hb1; have s1 := hb1.size; have m0 : w.heap.size < w1.heap.size := (by omega); have m1 : w.heap.size + 1 < w1.heap.size := (by omega); have B1 := below_step hb hb1)
                    have R1 := hbr.below' hb1
                    have A1 := hba.below' hb1
                    go_cut [9, 10] (fun s9 s10 W => CutP w s k (v * 10 + d) s9 s10 W)
                    case first =>
                      go_region_with (go_at_call 12; with_reducible refine (addDR (v * 10) d hf hdl _).mono ?_; rintro e w3 ⟨rfl, hb3⟩; obtain ⟨hcc3, hff3⟩ := bcell hb3; have s3 := hb3.size; (try simp at s3); have o0 : w.heap.size < w3.heap.size := (by omega); have o1 : w.heap.size + 1 < w3.heap.size := (by omega); have o2 : w1.heap.size < w3.heap.size := (by omega))
                      all_goals go_wp2_with fail
                      all_goals go_meet
                      all_goals
                        have C3 : Below w.heap.size w w3 := below_step (by repeat (first | exact B1 | with_reducible apply Below.drew | with_reducible apply below_alloc)) hb3
                        have R3 : Whl w3 w.heap.size 24 #[.int .u64 0, .int .u64 0] := by
                          refine Whl.below' ?_ hb3
                          repeat (first | exact R1 | with_reducible apply Whl.drew | with_reducible apply Whl.alloc)
                        have A3 : Whl w3 (w.heap.size + 1) 24 #[.int .u64 ((wd (valTo s k)).hi : Int), .int .u64 ((wd (valTo s k)).lo : Int)] := by
                          refine Whl.below' ?_ hb3
                          repeat (first | exact A1 | with_reducible apply Whl.drew | with_reducible apply Whl.alloc)
                        refine ⟨_, rfl, rfl, ?_, ?_, ?_, ?_⟩
                        · repeat (first | exact C3 | with_reducible apply Below.drew | with_reducible apply below_alloc | (with_reducible refine Below.setCell ?_ (by simp <;> omega) _))
                        · repeat (first | exact R3 | with_reducible apply Whl.drew | with_reducible apply Whl.alloc | (with_reducible refine Whl.far ?_ (by simp <;> omega) _))
                        · repeat (first | exact A3 | with_reducible apply Whl.drew | with_reducible apply Whl.alloc | (with_reducible refine Whl.far ?_ (by simp <;> omega) _))
                        · first
                            | exact Whl.new _ _ _
                            | (with_reducible apply Whl.put1
                               with_reducible apply Whl.put0
                               refine Whl.below' ?_ hb3
                               repeat (first | exact Whl.new1 _ _ _ _ | exact Whl.new1' _ _ _ _ | with_reducible apply Whl.drew | with_reducible apply Whl.alloc))
                    case rest =>
                      obtain ⟨g9, rfl, rfl, hB, hR, hA, hG⟩ := hcut
                      obtain ⟨q0, q1, p0, p1⟩ := hR.two
                      obtain ⟨b0, b1, p2, p3⟩ := hA.two
                      have la := hA.lt
                      cases hg : fits2 (v * 10 + d)
                      · have HO := Lib.hid (parse_over HF.out (k := k + 1) hlt2 (n := v * 10 + d) (by rw [HN.out, HVV.out]; omega) hg)
                        go_wp2
                        refine ret_of ?_ rfl
                        refine ⟨.tuple #[Wd.v ⟨0, 0⟩, .int .i64 2], ?_, by rw [HO.out.1, HO.out.2], ?_⟩
                        · simp [results, Tryd.results26, go_sem, q0, q1, p0, p1]
                        · repeat (first | exact hB | with_reducible apply Below.drew | with_reducible apply below_alloc | (with_reducible refine Below.setCell ?_ (by simp <;> omega) _))
                      · have HO := Lib.hid (show valTo s (k + 1) = v * 10 + d by rw [HN.out, HVV.out])
                        rw [show wdOf (v * 10 + d) = wd (v * 10 + d) by simp [wdOf, hg]] at hG
                        obtain ⟨y0, y1, -, -⟩ := hG.two
                        go_wp2
                        refine ⟨⟨k + 1, hlt2, by go_num, ⟨?_, ?_, ?_, ?_⟩⟩, by simp [intOf]; omega⟩
                        · repeat (first | exact hB | with_reducible apply Below.drew | with_reducible apply below_alloc | (with_reducible refine Below.setCell ?_ (by simp <;> omega) _))
                        · repeat (first | exact hR | with_reducible apply Whl.drew | with_reducible apply Whl.alloc | (with_reducible refine Whl.far ?_ (by simp <;> omega) _))
                        · rw [HO.out]
                          with_reducible apply Whl.put1
                          with_reducible apply Whl.put0
                          exact hA
                        · rw [HO.out]; exact hg
                · obtain rfl : k = s.size := by omega
                  have HG := Lib.hid (show parseE s = 0 ∧ parseV s = wd (valTo s s.size) by simp [parseE, parseV, HF.out, hfit, wdOf])
                  obtain ⟨v, hv⟩ : ∃ v, valTo s s.size = v := ⟨_, rfl⟩
                  rw [hv] at a0 a1 HG
                  clear hv
                  go_wp2
                  refine ret_of ?_ rfl
                  refine ⟨.tuple #[(wd v).v, .int .i64 0], ?_, by rw [HG.out.1, HG.out.2], ?_⟩
                  · have z := (hbr.put 0 (.int .u64 ((wd v).hi : Int))).put 1 (.int .u64 ((wd v).lo : Int))
                    simp [results, Tryd.results26, go_sem, z.cell]
                  · repeat (first | exact hb | with_reducible apply below_alloc | (with_reducible refine Below.setCell ?_ (by simp) _))
end Go.Proofs.YtofibaomjidieaaDoor
