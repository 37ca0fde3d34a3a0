/-
  Layer 1 (scan), in plain Lean: the tokens of a source lie in it, by rising places, with gaps between.
-/
import Derived.Test.YtihfllkgoolkhaaDoorScanF
import Derived.Test.YtihfllkgoolkhaaDoorScanL
namespace Go.Proofs.YtihfllkgoolkhaaDoor
set_option linter.unusedSimpArgs false
set_option linter.unusedVariables false
/-- Tokens from an end on: they begin at the first byte behind the gap. -/
def Rising (L : List UInt8) : Nat → List TokD → Prop
  | _, [] => True
  | k, t :: ts => t.at_ = skipD L k ∧ 0 < t.len ∧ t.at_ + t.len ≤ L.length ∧ Rising L (t.at_ + t.len) ts
/-- Where the last of some tokens ends. -/
def Ends (L : List UInt8) : Nat → List TokD → Nat → Prop
  | k, [], en => k = en
  | _, t :: ts, en => Ends L (t.at_ + t.len) ts en
theorem oneD_ne {L : List UInt8} {k : Nat} {x : Int} (h : oneD L k = .err x) : x ≠ 0 := by
  rw [oneD] at h
  split at h
  · split at h <;> first | (cases h; decide) | cases h
  · split at h
    · split at h <;> first | (cases h; decide) | cases h
    · split at h <;> first | (cases h; decide) | cases h
theorem aheadF_rising (L : List UInt8) : ∀ n k, Rising L k (aheadF L n (skipD L k)).toks
  | 0, k => trivial
  | n + 1, k => by
    rw [aheadF]
    by_cases h : skipD L k < L.length
    · rw [if_pos h]
      cases ho : oneD L (skipD L k) with
      | err e => trivial
      | tok t =>
        obtain ⟨h1, h2, h3⟩ := oneD_pos h ho
        refine ⟨h3, h1, by rw [h3]; exact h2, ?_⟩
        rw [h3]
        exact aheadF_rising L n _
    · rw [if_neg h]; trivial
theorem scanD_rising (L : List UInt8) : Rising L 0 (scanD L).toks := by
  unfold scanD
  split
  · trivial
  · exact aheadF_rising L _ 0
theorem scanD_fits {L : List UInt8} {t : TokD} {e : Int} {p : Nat} (h : scanD L = ⟨[t], e, p⟩) : t.at_ + t.len ≤ L.length := by
  have := scanD_rising L
  rw [h] at this
  exact this.2.2.1
/-- Behind the last token of a source without a fault nothing is left but a gap. -/
theorem aheadF_last (L : List UInt8) : ∀ n k, L.length < n + skipD L k → (aheadF L n (skipD L k)).e = 0 → ∃ en, en ≤ max k L.length ∧ (∀ ts', (aheadF L n (skipD L k)).toks = ts' → Ends L k ts' en) ∧ L.length ≤ skipD L en
  | 0, k => fun h _ => ⟨k, Nat.le_max_left _ _, fun ts' h' => by subst h'; rfl, by omega⟩
  | n + 1, k => fun hn he => by
    rw [aheadF] at he ⊢
    by_cases h : skipD L k < L.length
    · rw [if_pos h] at he ⊢
      cases ho : oneD L (skipD L k) with
      | err e => rw [ho] at he; exact absurd he (oneD_ne ho)
      | tok t =>
        obtain ⟨h1, h2, h3⟩ := oneD_pos h ho
        rw [ho] at he
        simp only at he ⊢
        have hge := skipD_ge L (skipD L k + t.len)
        obtain ⟨en, h4, h5, h6⟩ := aheadF_last L n (skipD L k + t.len) (by omega) he
        refine ⟨en, by omega, fun ts' h' => ?_, h6⟩
        subst h'
        show Ends L (t.at_ + t.len) _ en
        rw [h3]
        exact h5 _ rfl
    · rw [if_neg h] at he ⊢
      exact ⟨k, Nat.le_max_left _ _, fun ts' h' => by subst h'; rfl, by omega⟩
theorem scanD_last {L : List UInt8} (h : (scanD L).e = 0) : ∃ en, en ≤ L.length ∧ Ends L 0 (scanD L).toks en ∧ L.length ≤ skipD L en := by
  unfold scanD at h ⊢
  split at h
  · cases h
  · rename_i h6
    rw [if_neg h6]
    obtain ⟨en, h1, h2, h3⟩ := aheadF_last L (L.length + 1) 0 (by omega) h
    exact ⟨en, by omega, h2 _ rfl, h3⟩
theorem aheadF_err (L : List UInt8) : ∀ n k, (aheadF L n k).e ≠ 0 → (aheadF L n k).p < L.length
  | 0, k => fun h => absurd rfl h
  | n + 1, k => fun h => by
    rw [aheadF] at h ⊢
    by_cases hk : k < L.length
    · rw [if_pos hk] at h ⊢
      cases ho : oneD L k with
      | err e => exact hk
      | tok t => rw [ho] at h; exact aheadF_err L n _ h
    · rw [if_neg hk] at h; exact absurd rfl h
theorem scanD_err {L : List UInt8} (h : (scanD L).e ≠ 0) : (scanD L).p ≤ 65536 ∧ ((scanD L).p < L.length ∨ (scanD L).e = 4) := by
  unfold scanD at h ⊢
  split at h
  · rename_i h6; rw [if_pos h6]; exact ⟨Nat.le_refl _, .inr rfl⟩
  · rename_i h6
    rw [if_neg h6]
    have := aheadF_err L (L.length + 1) (skipD L 0) h
    exact ⟨by show (aheadF L (L.length + 1) (skipD L 0)).p ≤ _; omega, .inl this⟩
theorem gap_between {L : List UInt8} {k m : Nat} (h : m = skipD L k) : gapL false ((L.drop k).take (m - k)) = true := by
  subst h
  rw [skipD, Nat.add_sub_cancel_left]
  exact gap_skip _ _
theorem gap_behind {L : List UInt8} {k : Nat} (hk : k ≤ L.length) (h : L.length ≤ skipD L k) : gapL false (L.drop k) = true := by
  have h1 := skipD_le hk
  have := gap_between (L := L) (k := k) (m := L.length) (by omega)
  rwa [List.take_of_length_le (by rw [List.length_drop]; exact Nat.le_refl _)] at this
theorem aheadF_p (L : List UInt8) : ∀ n k, (aheadF L n k).e = 0 → (aheadF L n k).p = 0
  | 0, k => fun _ => rfl
  | n + 1, k => by
    rw [aheadF]
    by_cases hk : k < L.length
    · rw [if_pos hk]
      cases ho : oneD L k with
      | err e => exact fun h => absurd h (oneD_ne ho)
      | tok t => exact aheadF_p L n _
    · rw [if_neg hk]; exact fun _ => rfl
theorem scanD_p {L : List UInt8} (h : (scanD L).e = 0) : (scanD L).p = 0 := by
  unfold scanD at h ⊢
  split at h
  · cases h
  · rename_i h6
    rw [if_neg h6]; exact aheadF_p L _ _ h
/-- Of a source: all tokens, or none, what is wrong and where. -/
def allD (L : List UInt8) : AheadR := if (scanD L).e = 0 then scanD L else ⟨[], (scanD L).e, (scanD L).p⟩
end Go.Proofs.YtihfllkgoolkhaaDoor
