/-
  Layer 1 (scan), in plain Lean: a word and a name are one token each, of their kind; any other text is none.
-/
import Derived.Test.YtihfllkgoolkhaaDoorScanE
namespace Go.Proofs.YtihfllkgoolkhaaDoor
set_option linter.unusedSimpArgs false
set_option linter.unusedVariables false
theorem word_face {L : List UInt8} (h : wordB L = true) : L.length ≠ 0 ∧ letterB (L.getD 0 0) = true ∧ L.length ≤ 16 ∧ rowD alnumB L 0 = L.length := by
  simp only [wordB, wordsL, List.any_cons, List.any_nil, Bool.or_false, Bool.or_eq_true, beq_iff_eq] at h
  rcases h with rfl | rfl | rfl | rfl | rfl | rfl | rfl | rfl | rfl | rfl | rfl <;> decide
theorem cutL_whole (L : List UInt8) : cutL L 0 L.length = L := by rw [cutL, List.drop_zero, Nat.sub_zero, List.take_length]
theorem face_one {L : List UInt8} (h0 : L.length ≠ 0) (hl : letterB (L.getD 0 0) = true) (h16 : L.length ≤ 16) (hr : rowD alnumB L 0 = L.length) : oneD L 0 = .tok ⟨if wordB L then 3 else 1, 0, L.length, 0⟩ := by
  rw [oneD, if_pos hl, hr, Nat.sub_zero, if_neg (by omega), cutL_whole]
theorem letter_not {c : UInt8} (h : letterB c = true) : blankB c = false ∧ (c == 35) = false := by
  have h1 : 97 ≤ c.toNat := by
    simp only [letterB, Bool.and_eq_true, decide_eq_true_eq] at h; exact h.1
  have hne : ∀ d : UInt8, d.toNat < 97 → (c == d) = false := fun d hd => by
    rw [beq_eq_false_iff_ne]; rintro rfl; omega
  exact ⟨by rw [blankB, hne 32 (by decide), hne 9 (by decide), hne 10 (by decide), hne 13 (by decide)]; rfl, hne 35 (by decide)⟩
theorem name_face {L : List UInt8} (h : nameB L = true) : L.length ≠ 0 ∧ letterB (L.getD 0 0) = true ∧ L.length ≤ 16 ∧ rowD alnumB L 0 = L.length := by
  simp only [nameB, Bool.and_eq_true, Bool.not_eq_true', beq_eq_false_iff_ne, beq_iff_eq, decide_eq_true_eq] at h
  exact ⟨h.1.1.1.1, h.1.1.1.2, h.1.1.2, h.1.2⟩
/-- A word or a name is one token. -/
theorem one_all {L : List UInt8} (h : wordB L = true ∨ nameB L = true) : scanD L = ⟨[⟨if wordB L then 3 else 1, 0, L.length, 0⟩], 0, 0⟩ := by
  obtain ⟨h0, hl, h16, hr⟩ := h.elim word_face name_face
  obtain ⟨hb, hx⟩ := letter_not hl
  have hk : skipD L 0 = 0 := skipD_stop (by omega) hb hx
  have he : skipD L (0 + L.length) = L.length := by rw [Nat.zero_add]; exact skipD_end (Nat.le_refl _)
  rw [scanD, if_neg (by omega), hk, aheadD_tok (by omega) (face_one h0 hl h16 hr)]
  simp only
  rw [he, aheadD_end (Nat.le_refl _)]
/-- The one token of a text that is the whole text: of the kind of a word or a name just where the text is one. -/
theorem all_one {L : List UInt8} {t : TokD} {p : Nat} {e : Int} (h : scanD L = ⟨[t], e, p⟩) (hlen : t.len = L.length) : t.at_ = 0 ∧ wordB L = (t.kind == 3) ∧ nameB L = (t.kind == 1) := by
  rw [scanD] at h
  split at h
  · cases h
  · by_cases hk : skipD L 0 < L.length
    · cases ho : oneD L (skipD L 0) with
      | err x => rw [aheadD_err hk ho] at h; cases h
      | tok t' =>
        rw [aheadD_tok hk ho] at h
        simp only [AheadR.mk.injEq, List.cons.injEq] at h
        obtain ⟨⟨rfl, _⟩, _, _⟩ := h
        obtain ⟨hp, hf, ha⟩ := oneD_pos hk ho
        have hk0 : skipD L 0 = 0 := by omega
        rw [hk0] at ho ha
        refine ⟨ha, ?_⟩
        rw [oneD] at ho
        cases hl : letterB (L.getD 0 0)
        · have hw : wordB L = false := by
            cases hw : wordB L
            · rfl
            · rw [(word_face hw).2.1] at hl; cases hl
          have hn : nameB L = false := by
            cases hn : nameB L
            · rfl
            · rw [(name_face hn).2.1] at hl; cases hl
          rw [if_neg (by rw [hl]; decide)] at ho
          rw [hw, hn]
          split at ho
          · split at ho
            · cases ho
            · cases ho; exact ⟨rfl, rfl⟩
          · split at ho
            · cases ho
            · cases ho; exact ⟨rfl, rfl⟩
        · rw [if_pos hl] at ho
          split at ho
          · cases ho
          · rename_i h16
            cases ho
            simp only [Nat.sub_zero] at hlen h16
            rw [hlen] at h16
            rw [hlen, cutL_whole]
            have hnz : L.length ≠ 0 := by omega
            cases hw : wordB L
            · refine ⟨by simp, ?_⟩
              rw [nameB, hl, hw, hlen]
              simp
              exact ⟨by intro h; rw [h] at hnz; exact hnz rfl, by omega⟩
            · refine ⟨by simp, ?_⟩
              rw [nameB, hw]; simp
    · rw [aheadD_end (by omega)] at h; cases h
end Go.Proofs.YtihfllkgoolkhaaDoor
