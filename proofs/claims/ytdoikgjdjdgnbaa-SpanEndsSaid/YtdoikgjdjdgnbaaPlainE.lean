/-
  Layer 8 (span): how often a span that is widened again and again changes. No program in sight.
-/
import Derived.Test.YtdoikgjdjdgnbaaPlainG
namespace Go.Proofs.Ytdoikgjdjdgnbaa
open Go.RowKit
set_option linter.unusedSimpArgs false
set_option linter.unusedVariables false

/-- How many thresholds lie below a number, above it. -/
def cntLo (ts : List Int) (x : Int) : Nat := ts.countP fun t => decide (t < x)
def cntHi (ts : List Int) (x : Int) : Nat := ts.countP fun t => decide (x < t)
def phi (ts : List Int) (s : Sp) : Nat := cntLo ts s.lo + cntHi ts s.hi + (if Sp.least < s.lo then 1 else 0) + (if s.hi < Sp.greatest then 1 else 0)
/-- What stands behind each round: no number yet and no change, or so many changes that are still to come. -/
def EndInv (ts : List Int) (s : Sp) (c : Nat) : Prop := (s.none = true ∧ c = 0) ∨ (s.none = false ∧ c + phi ts s ≤ ts.length + 2)
theorem cnt_both (ts : List Int) {x y : Int} (h : x ≤ y) : cntLo ts x + cntHi ts y ≤ ts.length := by
  induction ts with
  | nil => simp [cntLo, cntHi]
  | cons t ts ih =>
    unfold cntLo cntHi at *
    rw [List.countP_cons, List.countP_cons, List.length_cons]
    simp only [decide_eq_true_eq]
    split <;> split <;> omega
theorem phi_start (ts : List Int) {s : Sp} (h : s.lo ≤ s.hi) : phi ts s ≤ ts.length + 2 := by
  have := cnt_both ts h
  unfold phi
  split <;> split <;> omega
theorem cntLo_le (ts : List Int) {x y : Int} (h : x ≤ y) : cntLo ts x ≤ cntLo ts y :=
  List.countP_mono_left fun t _ ht => by simp only [decide_eq_true_eq] at *; omega
theorem cntHi_le (ts : List Int) {x y : Int} (h : x ≤ y) : cntHi ts y ≤ cntHi ts x :=
  List.countP_mono_left fun t _ ht => by simp only [decide_eq_true_eq] at *; omega
theorem cntLo_lt {ts : List Int} {x y : Int} (h : x < y) (hm : x ∈ ts) : cntLo ts x + 1 ≤ cntLo ts y := by
  induction ts with
  | nil => simp at hm
  | cons t ts ih =>
    have hle := cntLo_le ts (Int.le_of_lt h)
    unfold cntLo at *
    rw [List.countP_cons, List.countP_cons]
    simp only [decide_eq_true_eq]
    rcases List.mem_cons.1 hm with rfl | hm
    · rw [if_neg (by omega), if_pos h]; omega
    · have := ih hm
      split <;> split <;> omega
theorem cntHi_lt {ts : List Int} {x y : Int} (h : x < y) (hm : y ∈ ts) : cntHi ts y + 1 ≤ cntHi ts x := by
  induction ts with
  | nil => simp at hm
  | cons t ts ih =>
    have hle := cntHi_le ts (Int.le_of_lt h)
    unfold cntHi at *
    rw [List.countP_cons, List.countP_cons]
    simp only [decide_eq_true_eq]
    rcases List.mem_cons.1 hm with rfl | hm
    · rw [if_neg (by omega), if_pos h]; omega
    · have := ih hm
      split <;> split <;> omega
theorem wLo_is (ts : List Int) (j : Int) (hj : Sp.least ≤ j) : ∀ k, k ≤ ts.length → wLo ts j k ≤ j ∧ (wLo ts j k = Sp.least ∨ wLo ts j k ∈ ts) ∧ Sp.least ≤ wLo ts j k
  | 0, _ => ⟨hj, .inl rfl, Int.le_refl _⟩
  | k + 1, h => by
    obtain ⟨h1, h2⟩ := wLo_is ts j hj k (by omega)
    rcases Int.lt_or_le j (nthI ts k) with g | g
    · rw [wLo_no g]; exact ⟨h1, h2⟩
    · rw [wLo_yes g]
      unfold Sp.mx
      split
      · exact ⟨h1, h2⟩
      · exact ⟨g, .inr (nth_mem (by omega)), by omega⟩
theorem wHi_is (ts : List Int) (j : Int) (hj : j ≤ Sp.greatest) : ∀ k, k ≤ ts.length → j ≤ wHi ts j k ∧ (wHi ts j k = Sp.greatest ∨ wHi ts j k ∈ ts) ∧ wHi ts j k ≤ Sp.greatest
  | 0, _ => ⟨hj, .inl rfl, Int.le_refl _⟩
  | k + 1, h => by
    obtain ⟨h1, h2⟩ := wHi_is ts j hj k (by omega)
    rcases Int.lt_or_le (nthI ts k) j with g | g
    · rw [wHi_no g]; exact ⟨h1, h2⟩
    · rw [wHi_yes g]
      unfold Sp.mn
      split
      · exact ⟨h1, h2⟩
      · exact ⟨g, .inr (nth_mem (by omega)), by omega⟩
theorem lo_step {ts : List Int} {x y : Int} (h : x < y) (hx : x = Sp.least ∨ x ∈ ts) (hl : Sp.least ≤ x) : cntLo ts x + (if Sp.least < x then 1 else 0) + 1 ≤ cntLo ts y + (if Sp.least < y then 1 else 0) := by
  have h1 := cntLo_le ts (Int.le_of_lt h)
  rcases hx with hx | hx
  · rw [if_neg (by omega), if_pos (by omega)]; omega
  · have := cntLo_lt h hx
    split <;> split <;> omega
theorem hi_step {ts : List Int} {x y : Int} (h : x < y) (hx : y = Sp.greatest ∨ y ∈ ts) (hl : y ≤ Sp.greatest) : cntHi ts y + (if y < Sp.greatest then 1 else 0) + 1 ≤ cntHi ts x + (if x < Sp.greatest then 1 else 0) := by
  have h1 := cntHi_le ts (Int.le_of_lt h)
  rcases hx with hx | hx
  · rw [if_neg (by omega), if_pos (by omega)]; omega
  · have := cntHi_lt h hx
    split <;> split <;> omega
theorem widen_is {s b : Sp} (ts : List Int) (hb : b.Wf) (hs : s.none = false) (hn : b.none = false) :
    ((widen s b ts).lo = s.lo ∨ ((widen s b ts).lo < s.lo ∧ ((widen s b ts).lo = Sp.least ∨ (widen s b ts).lo ∈ ts) ∧ Sp.least ≤ (widen s b ts).lo)) ∧ ((widen s b ts).hi = s.hi ∨ (s.hi < (widen s b ts).hi ∧ ((widen s b ts).hi = Sp.greatest ∨ (widen s b ts).hi ∈ ts) ∧ (widen s b ts).hi ≤ Sp.greatest)) ∧
    (widen s b ts).lo ≤ b.lo ∧ b.hi ≤ (widen s b ts).hi := by
  obtain ⟨⟨w1, w2⟩, w3, w4⟩ := hb
  obtain ⟨l1, l2⟩ := wLo_is ts b.lo w1 ts.length (Nat.le_refl _)
  obtain ⟨r1, r2⟩ := wHi_is ts b.hi w4 ts.length (Nat.le_refl _)
  have e : widen s b ts = ⟨if b.lo < s.lo then wLo ts b.lo ts.length else s.lo, if s.hi < b.hi then wHi ts b.hi ts.length else s.hi⟩ := by unfold widen; rw [hs, hn]; rfl
  rw [e]
  dsimp only
  refine ⟨?_, ?_, ?_, ?_⟩
  · split
    · exact .inr ⟨by omega, l2⟩
    · exact .inl rfl
  · split
    · exact .inr ⟨by omega, r2⟩
    · exact .inl rfl
  · split <;> omega
  · split <;> omega
theorem widen_within1 {s b : Sp} (ts : List Int) (hb : b.Wf) : s.within (widen s b ts) = true := within_iff.2 fun h => by
  have hs : s.none = false := by simp [Sp.none]; omega
  cases hn : b.none
  · obtain ⟨h1, h2, _, _⟩ := widen_is ts hb hs hn
    omega
  · have e : widen s b ts = s := by unfold widen; rw [hs, hn]; rfl
    rw [e]; exact ⟨Int.le_refl _, Int.le_refl _⟩
theorem widen_within2 {s b : Sp} (ts : List Int) (hb : b.Wf) : b.within (widen s b ts) = true := within_iff.2 fun h => by
  have hn : b.none = false := by simp [Sp.none]; omega
  cases hs : s.none
  · obtain ⟨_, _, h1, h2⟩ := widen_is ts hb hs hn
    omega
  · have e : widen s b ts = b := by unfold widen; rw [hs]; rfl
    rw [e]; exact ⟨Int.le_refl _, Int.le_refl _⟩
/-- A round in which no change is counted. -/
theorem inv_same {ts : List Int} {s b : Sp} {c : Nat} (h : EndInv ts s c) (hb : b.none = true ∨ s.none = true ∨ (widen s b ts).lo = s.lo ∧ (widen s b ts).hi = s.hi) : EndInv ts (widen s b ts) c := by
  cases hs : s.none
  · rcases hb with hb | hb | ⟨h1, h2⟩
    · have e : widen s b ts = s := by unfold widen; rw [hs, hb]; rfl
      rw [e]; exact h
    · rw [hs] at hb; cases hb
    · have e : widen s b ts = s := Sp.ext' h1 h2
      rw [e]; exact h
  · have e : widen s b ts = b := by unfold widen; rw [hs]; rfl
    rw [e]
    rcases h with ⟨_, rfl⟩ | ⟨h, _⟩
    · cases hn : b.none
      · refine .inr ⟨hn, ?_⟩
        have := phi_start ts (s := b) (by simpa [Sp.none] using hn)
        omega
      · exact .inl ⟨hn, rfl⟩
    · rw [hs] at h; cases h
/-- A round in which one is counted. -/
theorem inv_change {ts : List Int} {s b : Sp} {c : Nat} (h : EndInv ts s c) (wb : b.Wf) (hb : b.none = false) (hs : s.none = false) (hc : (widen s b ts).lo ≠ s.lo ∨ (widen s b ts).hi ≠ s.hi) : EndInv ts (widen s b ts) (c + 1) := by
  rcases h with ⟨h, _⟩ | ⟨_, h⟩
  · rw [hs] at h; cases h
  obtain ⟨h1, h2, h3, h4⟩ := widen_is ts wb hs hb
  have ok : s.lo ≤ s.hi := by simpa [Sp.none] using hs
  generalize widen s b ts = n at *
  refine .inr ⟨by simp [Sp.none]; omega, ?_⟩
  obtain ⟨⟨w1, w2⟩, w3, w4⟩ := wb
  unfold phi at *
  have key : ∀ A B C D E F G H : Nat, A + B + C + D = A + C + (B + D) := by intros; omega
  by_cases l : n.lo = s.lo
  · have r : n.hi ≠ s.hi := by rcases hc with hc | hc; exact absurd l hc; exact hc
    obtain ⟨r1, r2, r3⟩ := h2.resolve_left r
    have := hi_step r1 r2 r3
    rw [l]; omega
  · obtain ⟨l1, l2, l3⟩ := h1.resolve_left l
    have hl := lo_step l1 l2 l3
    by_cases r : n.hi = s.hi
    · rw [r]; omega
    · obtain ⟨r1, r2, r3⟩ := h2.resolve_left r
      have := hi_step r1 r2 r3
      omega
end Go.Proofs.Ytdoikgjdjdgnbaa
