/-
  Layer 7 (wide): the walk of the reference's Text: digits, the last one first reckoned.
-/
import Derived.Test.YtofibaomjidieaaDoorTextW
import Derived.Test.YtofibaomjidieaaDoorProduct
namespace Go.Proofs.YtofibaomjidieaaDoor
open Go.RowKit Go.Shelf
set_option linter.unusedSimpArgs false
set_option linter.unusedVariables false
theorem conv1 (W : World) (d : Nat) (hd : d < 256) : (convert 55 9 (.slice (some ⟨W.heap.size, 0, none⟩) 1 1)).run Tryd.prog (W.alloc (.cells #[.int .u8 (d : Int)] 5)) = .ok (.string (BA [UInt8.ofNat d])) (W.alloc (.cells #[.int .u8 (d : Int)] 5)) := by
  have h := run_convert_bytes_back (P := Tryd.prog) (W.alloc (.cells #[.int .u8 (d : Int)] 5)) 55 9 5 ⟨W.heap.size, 0, none⟩ 1 [UInt8.ofNat d] Tryd.underlying55 Tryd.underlying5 Tryd.underlying9 (fun j hj => by
    obtain rfl : j = 0 := by simpa using hj
    rw [Lib.add_plain, World.cell?_alloc_new]
    simp [Nat.mod_eq_of_lt hd])
  exact h
theorem Digs.set {l : List Nat} (h : Digs l) {k d : Nat} (hd : d < 65536) : Digs (l.set k d) := fun x hx => by
  rcases List.mem_or_eq_of_mem_set hx with q | q
  · exact h x q
  · omega
theorem val_drop {l : List Nat} {i : Nat} (h : i < l.length) : valD (l.drop i) = nth l i + 65536 * valD (l.drop (i + 1)) := by
  rw [List.drop_eq_getElem_cons h]
  simp [valD, nth, h]
theorem val_drop_set {l : List Nat} {i v : Nat} (h : i < l.length) : valD ((l.set i v).drop i) = v + 65536 * valD (l.drop (i + 1)) := by
  rw [val_drop (by simpa using h), nth_set, if_pos ⟨rfl, h⟩, List.drop_set_of_lt (by omega)]
/-- The row while it is divided by ten, from the top down to digit k. -/
structure Dv (L M : List Nat) (k r : Nat) (b : Bool) : Prop where
  len : M.length = 8
  low : ∀ j, j < k → nth M j = nth L j
  val : valD (M.drop k) * 10 + r = valD (L.drop k)
  rest : r < 10
  digs : Digs M
  some_ : b = decide (0 < valD (M.drop k))
theorem Dv.start {L : List Nat} (hl : L.length = 8) (hd : Digs L) : Dv L L 8 0 false := by
  have e : L.drop 8 = [] := List.drop_of_length_le (by omega)
  exact ⟨hl, fun _ _ => rfl, by rw [e]; simp [valD], by decide, hd, by rw [e]; simp [valD]⟩
theorem Dv.step {L M : List Nat} {i r : Nat} {b : Bool} (h : Dv L M (i + 1) r b) (hl : L.length = 8) (hL : Digs L) (hi : i < 8) {n : Nat} (hn : r * 65536 + nth M i = n) :
    Dv L (M.set i (n / 10)) i (n % 10) (b || decide (0 < n / 10)) ∧ n / 10 < 65536 := by
  have h1 := h.rest
  have h2 := h.low i (by omega)
  have h3 := nth_lt hL i
  have h4 := h.len
  have hs : n / 10 < 65536 := by omega
  refine ⟨⟨by simpa using h4, fun j hj => ?_, ?_, Nat.mod_lt _ (by decide), h.digs.set hs, ?_⟩, hs⟩
  · rw [nth_set, if_neg (by omega)]; exact h.low j (by omega)
  · rw [val_drop_set (by omega), val_drop (l := L) (by omega), ← h.val, ← h2]
    omega
  · rw [val_drop_set (by omega), h.some_]
    rcases Nat.eq_zero_or_pos (valD (M.drop (i + 1))) with q | q
    · rw [q]; simp
    · have e1 : decide (0 < valD (M.drop (i + 1))) = true := by simpa using q
      have e2 : decide (0 < n / 10 + 65536 * valD (M.drop (i + 1))) = true := by simp; omega
      rw [e1, e2]; rfl
theorem Dv.done {L M : List Nat} {r : Nat} {b : Bool} (h : Dv L M 0 r b) : valD M = valD L / 10 ∧ r = valD L % 10 ∧ b = decide (0 < valD L / 10) := by
  have h1 := h.val
  have h2 := h.rest
  have h3 := h.some_
  simp only [List.drop_zero] at h1 h3
  have e : valD M = valD L / 10 := by omega
  exact ⟨e, by omega, by rw [h3, e]⟩
set_option maxHeartbeats 16000000 in
set_option maxRecDepth 100000 in
theorem textR (a : Wd) (ha : a.Wf) (w : World) : Calls Tryd.prog 24 #[a.v] w fun e w' => e = .returned (.string (BA (Lib.decDigits a.val))) ∧ Below w.heap.size w w' := by
  have hva := valD_digsW ha
  have hna := digsW_len a
  have hda := digsW_digs a
  have HX := Lib.hid (show ∀ w, Calls Tryd.prog 28 #[a.v] w fun e w' => ∃ v, e = .returned v ∧ OMem w w.heap.size v (digsW a) w' from fun w => digitsR a ha w)
  have hnn : Lib.nDigits a.val ≤ 39 := nDigits_le (by omega) (Nat.lt_of_lt_of_le (val_lt ha) (by decide))
  generalize digsW a = x at *
  generalize a.val = N at *
  go_enter Tryd.func24, Tryd.ntmps24
  go_wp2_with (go_at_call 28; with_reducible refine (HX.out _).mono ?_; rintro e w1 ⟨v1, rfl, hM1⟩)
  obtain ⟨g, c, rfl, hg1, -⟩ := hM1.row (by omega)
  have B0 : Below w.heap.size w (w.alloc (.cells #[.int .u64 (a.hi : Int), .int .u64 (a.lo : Int)] 24)) := below_alloc (Below.refl _ _) _
  rw [hna]
  go_loopw [4] (fun s wr => ∃ t L, s = .string (BA t) ∧ OMem (w.alloc (.cells #[.int .u64 (a.hi : Int), .int .u64 (a.lo : Int)] 24)) (w.alloc (.cells #[.int .u64 (a.hi : Int), .int .u64 (a.lo : Int)] 24)).heap.size (.slice (some ⟨g, 0, none⟩) L.length c) L wr ∧ L.length = 8 ∧ Digs L ∧ Lib.decDigits N = Lib.decDigits (valD L) ++ t) (fun s _ => 40 - lenOf s)
  case atStart => exact ⟨[], x, rfl, hM1, hna, hda, by rw [hva]; simp⟩
  case round =>
    clear hM1 HX
    obtain ⟨t, L, rfl, hM, hl, hL, hdec⟩ := hrel
    generalize (w.alloc (.cells #[.int .u64 (a.hi : Int), .int .u64 (a.lo : Int)] 24)) = wa at *
    have hb := hM.below
    go_wp2
    go_loopw [5, 6, 7] (fun rs sm i wr => ∃ (k r : Nat) (b : Bool) (M : List Nat), k ≤ 8 ∧ i = .int .i64 ((k : Int) - 1) ∧ rs = .int .u64 (r : Int) ∧ sm = .bool b ∧ Dv L M k r b ∧ OMem wa wa.heap.size (.slice (some ⟨g, 0, none⟩) M.length c) M wr) (fun _ _ i _ => (intOf i + 1).toNat)
    case atStart => exact ⟨8, 0, false, L, by omega, rfl, rfl, rfl, Dv.start hl hL, hM⟩
    case round =>
      clear hM hb
      obtain ⟨k, r, b, M, hk, rfl, rfl, rfl, hD, hM⟩ := hrel
      cases k with
      | zero =>
        have u0 : decide ((0 : Int) ≤ ((0 : Nat) : Int) - 1) = false := by decide
        obtain ⟨d1, d2, d3⟩ := hD.done
        have hv := hD.digs
        have hMl := hD.len
        have hr := hD.rest
        obtain ⟨d, hd⟩ : ∃ d, 48 + r = d := ⟨_, rfl⟩
        have hcv := fun W => conv1 W d (by omega)
        have f0 : (48 : Int) + (r : Int) = (d : Int) := by omega
        have f1 : IntKind.u64.wrap (d : Int) = (d : Int) := wrap_lt (by omega)
        have f2 : IntKind.u8.wrap (d : Int) = (d : Int) := by simp only [IntKind.wrap, IntKind.bits, IntKind.signed]; simp; omega
        have htl : t.length ≤ Lib.nDigits N := by
          have := congrArg List.length hdec
          rw [Lib.decDigits_length, List.length_append] at this
          omega
        have c4 : 1 + t.length ≤ 9223372036854775807 := by omega
        have happ : BA [UInt8.ofNat d] ++ BA t = BA (UInt8.ofNat d :: t) := by rw [BA_app]; rfl
        obtain ⟨V, hV⟩ : ∃ V, valD L = V := ⟨_, rfl⟩
        rw [hV] at d1 d2 d3 hdec
        have hM2 := (hM.stay (below_alloc (Below.refl _ _) (.cells #[.int .u8 (d : Int)] 5)))
        by_cases hz : V < 10
        · have hdec2 : Lib.decDigits N = UInt8.ofNat d :: t := by rw [hdec, Lib.decDigits_one hz, ← hd, d2, show V % 10 = V by omega]; rfl
          have hbf : b = false := by rw [d3]; simp; omega
          subst hbf
          have HD := Lib.hid hdec2
          clear d1 d2 d3 hdec hdec2 hD hv hr hd hz
          go_wp2
          go_ret
          exact ⟨by rw [HD.out]; rfl, below_step B0 hM2.below⟩
        · have hdec2 : Lib.decDigits N = Lib.decDigits (valD M) ++ (UInt8.ofNat d :: t) := by rw [hdec, decD_big hz, d1, ← hd, d2]; simp
          have hbt : b = true := by rw [d3]; simp; omega
          subst hbt
          have HD := Lib.hid hdec2
          clear d1 d2 d3 hdec hdec2 hD hr hd hz
          go_wp2
          refine ⟨⟨UInt8.ofNat d :: t, M, rfl, hM2, hMl, hv, HD.out⟩, ?_⟩
          show 40 - (BA (UInt8.ofNat d :: t)).size < 40 - (BA t).size
          rw [BA_size, BA_size, List.length_cons]; omega
      | succ i =>
        have e1 : (((i + 1 : Nat) : Int) - 1) = (i : Int) := by omega
        rw [e1]
        obtain ⟨n, hn⟩ : ∃ n, r * 65536 + nth M i = n := ⟨_, rfl⟩
        obtain ⟨hS, hs⟩ := hD.step hl hL (by omega) hn
        have hr := hD.rest
        have hlow := nth_lt hD.digs i
        have hMl := hD.len
        obtain ⟨cm, fm⟩ := hM.cell (j := i) (by omega)
        obtain ⟨p, hp⟩ : ∃ p, r * 65536 = p := ⟨_, rfl⟩
        have g1 : (r : Int) * 65536 = (p : Int) := by rw [← hp]; simp
        have g2 : IntKind.u64.wrap (p : Int) = (p : Int) := wrap_lt (by omega)
        rw [hp] at hn
        have g3 : (p : Int) + (nth M i : Int) = (n : Int) := by omega
        have g4 : IntKind.u64.wrap (n : Int) = (n : Int) := wrap_lt (by omega)
        have g5 : (n : Int).tdiv 10 = ((n / 10 : Nat) : Int) := by rw [Int.tdiv_eq_ediv_of_nonneg (Int.natCast_nonneg _)]; omega
        have g6 : (n : Int).tmod 10 = ((n % 10 : Nat) : Int) := by rw [Int.tmod_eq_emod_of_nonneg (Int.natCast_nonneg _)]; omega
        have g7 : IntKind.u64.wrap ((n / 10 : Nat) : Int) = ((n / 10 : Nat) : Int) := wrap_lt (by omega)
        have g8 : IntKind.u64.wrap ((n % 10 : Nat) : Int) = ((n % 10 : Nat) : Int) := wrap_lt (by omega)
        generalize n / 10 = q at *
        generalize n % 10 = r2 at *
        have hM2 := hM.put (j := i) (d := q)
        have HS := Lib.hid hS
        have HM2 := Lib.hid hM2
        clear hS hM2 hn hp hD e1 hs hr hlow
        cases b
        · go_wp2
          refine ⟨⟨i, r2, decide (0 < q), M.set i q, by omega, rfl, rfl, rfl, by simpa using HS.out, HM2.out⟩, by simp [intOf] <;> omega⟩
        · go_wp2
          refine ⟨⟨i, r2, true, M.set i q, by omega, rfl, rfl, rfl, by simpa using HS.out, HM2.out⟩, by simp [intOf] <;> omega⟩
end Go.Proofs.YtofibaomjidieaaDoor
