/-
  Layer 1 (scan): the walks of the reference: Letter, Digit, plain, blank.
-/
import Derived.Test.YtdddppmfeoebgaaGreatDoorScanE
namespace Go.Proofs.YtdddppmfeoebgaaGreatDoor
open Go.RowKit
set_option linter.unusedSimpArgs false
set_option linter.unusedVariables false
theorem letterR (c : UInt8) (w : World) : Calls Tryz.prog 103 #[.int .u8 (c.toNat : Int)] w fun e w' => e = .returned (.bool (letterB c)) ∧ w = w' := by
  have hc := c.toNat_lt
  rcases (by omega : c.toNat < 97 ∨ (97 ≤ c.toNat ∧ c.toNat ≤ 122) ∨ 122 < c.toNat) with h1 | ⟨h1, h2⟩ | h1
  · have e1 : decide ((97 : Int) ≤ (c.toNat : Int)) = false := by simp; omega
    have e0 : letterB c = false := by simp [letterB]; omega
    rw [e0]
    go_enter Tryz.func103, Tryz.ntmps103
    go_wp2
    go_ret
    exact ⟨rfl, rfl⟩
  · have e1 : decide ((97 : Int) ≤ (c.toNat : Int)) = true := by simp; omega
    have e2 : decide ((c.toNat : Int) ≤ 122) = true := by simp; omega
    have e0 : letterB c = true := by simp [letterB]; omega
    rw [e0]
    go_enter Tryz.func103, Tryz.ntmps103
    go_wp2
    go_ret
    exact ⟨rfl, rfl⟩
  · have e1 : decide ((97 : Int) ≤ (c.toNat : Int)) = true := by simp; omega
    have e2 : decide ((c.toNat : Int) ≤ 122) = false := by simp; omega
    have e0 : letterB c = false := by simp [letterB]; omega
    rw [e0]
    go_enter Tryz.func103, Tryz.ntmps103
    go_wp2
    go_ret
    exact ⟨rfl, rfl⟩
theorem digitR (c : UInt8) (w : World) : Calls Tryz.prog 104 #[.int .u8 (c.toNat : Int)] w fun e w' => e = .returned (.bool (digitB c)) ∧ w = w' := by
  have hc := c.toNat_lt
  rcases (by omega : c.toNat < 48 ∨ (48 ≤ c.toNat ∧ c.toNat ≤ 57) ∨ 57 < c.toNat) with h1 | ⟨h1, h2⟩ | h1
  · have e1 : decide ((48 : Int) ≤ (c.toNat : Int)) = false := by simp; omega
    have e0 : digitB c = false := by simp [digitB]; omega
    rw [e0]
    go_enter Tryz.func104, Tryz.ntmps104
    go_wp2
    go_ret
    exact ⟨rfl, rfl⟩
  · have e1 : decide ((48 : Int) ≤ (c.toNat : Int)) = true := by simp; omega
    have e2 : decide ((c.toNat : Int) ≤ 57) = true := by simp; omega
    have e0 : digitB c = true := by simp [digitB]; omega
    rw [e0]
    go_enter Tryz.func104, Tryz.ntmps104
    go_wp2
    go_ret
    exact ⟨rfl, rfl⟩
  · have e1 : decide ((48 : Int) ≤ (c.toNat : Int)) = true := by simp; omega
    have e2 : decide ((c.toNat : Int) ≤ 57) = false := by simp; omega
    have e0 : digitB c = false := by simp [digitB]; omega
    rw [e0]
    go_enter Tryz.func104, Tryz.ntmps104
    go_wp2
    go_ret
    exact ⟨rfl, rfl⟩
/-- Letters and digits from place k on. -/
theorem rowD_run {p : UInt8 → Bool} {L : List UInt8} {k : Nat} (h : k < L.length) : (rowD p L k == L.length) = (p (L.getD k 0) && (rowD p L (k + 1) == L.length)) := by
  cases hp : p (L.getD k 0)
  · rw [rowD_no h hp]; simp; omega
  · rw [rowD_yes h hp]; simp
def plainB (L : List UInt8) : Bool := !(L.length == 0) && letterB (L.getD 0 0) && (rowD alnumB L 0 == L.length)
def plainK (L : List UInt8) : Nat → Bool
  | 0 => plainB L
  | k + 1 => rowD alnumB L (k + 1) == L.length
theorem plainK_yes {L : List UInt8} {k : Nat} (h : k < L.length) (hc : letterB (L.getD k 0) = true ∨ (0 < k ∧ digitB (L.getD k 0) = true)) : plainK L k = plainK L (k + 1) := by
  have ha : alnumB (L.getD k 0) = true := by
    rcases hc with h1 | ⟨_, h1⟩ <;> rw [alnumB, h1] <;> simp
  cases k with
  | zero =>
    rcases hc with h1 | ⟨h1, _⟩
    · rw [plainK, plainK, plainB, rowD_run h, ha, h1, beq_eq_false_iff_ne.2 (show L.length ≠ 0 by omega)]; simp
    · omega
  | succ k => rw [plainK, plainK, rowD_run h, ha]; simp
theorem plainK_no {L : List UInt8} {k : Nat} (h : k < L.length) (h1 : letterB (L.getD k 0) = false) (hc : k = 0 ∨ digitB (L.getD k 0) = false) : plainK L k = false := by
  cases k with
  | zero => rw [plainK, plainB, h1]; simp
  | succ k =>
    rcases hc with hc | hc
    · omega
    · rw [plainK, rowD_run h, alnumB, h1, hc]; simp
set_option maxHeartbeats 2000000 in
theorem plainR (s : ByteArray) (hs : s.size ≤ maxLen) (w : World) : Calls Tryz.prog 82 #[.string s] w fun e w' => e = .returned (.bool (plainB (bytesOf s))) ∧ w = w' := by
  have hs2 := hs
  unfold maxLen at hs
  by_cases h0 : s.size = 0
  · have e0 : plainB (bytesOf s) = false := by simp [plainB, bytes_len, h0]
    rw [e0]
    go_enter Tryz.func82, Tryz.ntmps82
    go_wp2
    go_loop [3] (fun i => i = .int .i64 0) (fun i => 0)
    case atStart => rfl
    case round =>
      subst hrel
      go_wp2
      go_ret
      exact ⟨rfl, rfl⟩
  · have hp0 : decide (0 < (s.size : Int)) = true := by simp; omega
    go_enter Tryz.func82, Tryz.ntmps82
    go_wp2
    go_loop [3] (fun i => ∃ k : Nat, k ≤ s.size ∧ i = .int .i64 k ∧ plainK (bytesOf s) k = plainB (bytesOf s)) (fun i => s.size - (intOf i).toNat)
    case atStart => exact ⟨0, Nat.zero_le _, rfl, rfl⟩
    case round =>
      obtain ⟨k, hk, rfl, hr⟩ := hrel
      have HR := Lib.hid hr
      clear hr
      by_cases hlt : k < s.size
      · have hg := byte_get hlt
        have HG := Lib.hid hg
        clear hg
        cases hl : letterB s[k]
        rotate_left
        · have HE := Lib.hid (plainK_yes (L := bytesOf s) hlt (by rw [HG.out]; exact .inl hl))
          go_wp2_with (first
            | (go_at_call 103; refine (letterR _ _).mono ?_; rintro e w' ⟨rfl, rfl⟩)
            | (go_at_call 104; refine (digitR _ _).mono ?_; rintro e w' ⟨rfl, rfl⟩))
          go_round
          case rel => exact ⟨k + 1, by omega, by go_num, by rw [← HE.out]; exact HR.out⟩
          case measure => simp [intOf] <;> omega
        rcases Nat.eq_zero_or_pos k with hz | hz
        · have hkk : (((k : Nat) : Int) == 0) = true := by simp; omega
          have HE := Lib.hid (plainK_no (L := bytesOf s) hlt (by rw [HG.out]; exact hl) (.inl hz))
          clear hz
          go_wp2_with (first
            | (go_at_call 103; refine (letterR _ _).mono ?_; rintro e w' ⟨rfl, rfl⟩)
            | (go_at_call 104; refine (digitR _ _).mono ?_; rintro e w' ⟨rfl, rfl⟩))
          go_ret
          exact ⟨ret_b (HE.out.symm.trans HR.out), rfl⟩
        · have hkk : (((k : Nat) : Int) == 0) = false := by simp; omega
          cases hd : digitB s[k]
          · have HE := Lib.hid (plainK_no (L := bytesOf s) hlt (by rw [HG.out]; exact hl) (.inr (by rw [HG.out]; exact hd)))
            clear hz
            go_wp2_with (first
              | (go_at_call 103; refine (letterR _ _).mono ?_; rintro e w' ⟨rfl, rfl⟩)
              | (go_at_call 104; refine (digitR _ _).mono ?_; rintro e w' ⟨rfl, rfl⟩))
            go_ret
            exact ⟨ret_b (HE.out.symm.trans HR.out), rfl⟩
          · have HE := Lib.hid (plainK_yes (L := bytesOf s) hlt (by rw [HG.out]; exact .inr ⟨hz, hd⟩))
            clear hz
            go_wp2_with (first
              | (go_at_call 103; refine (letterR _ _).mono ?_; rintro e w' ⟨rfl, rfl⟩)
              | (go_at_call 104; refine (digitR _ _).mono ?_; rintro e w' ⟨rfl, rfl⟩))
            go_round
            case rel => exact ⟨k + 1, by omega, by go_num, by rw [← HE.out]; exact HR.out⟩
            case measure => simp [intOf] <;> omega
      · obtain rfl : k = s.size := by omega
        have HE := Lib.hid (show plainK (bytesOf s) s.size = decide (0 < s.size) from by
          obtain ⟨m, hm⟩ : ∃ m, s.size = m + 1 := ⟨s.size - 1, by omega⟩
          rw [hm, plainK, rowD_end (by rw [bytes_len]; omega), bytes_len, hm]; simp)
        go_wp2
        go_ret
        exact ⟨ret_b (HE.out.symm.trans HR.out), rfl⟩
end Go.Proofs.YtdddppmfeoebgaaGreatDoor

/-
  Layer 1 (scan): the walks of the reference: words, in, Word, Name, value.
-/
namespace Go.Proofs.YtdddppmfeoebgaaGreatDoor
open Go.RowKit
set_option linter.unusedSimpArgs false
set_option linter.unusedVariables false
/-- A row of texts from a block's start on. -/
def StrsAt (w : World) (g : Nat) (l : List ByteArray) : Prop := g < w.heap.size ∧ ∀ k (h : k < l.length), w.cell? ⟨g, k, none⟩ = some (.string l[k])
def hasB (l : List ByteArray) (s : ByteArray) : Bool := l.any fun x => x.toList == s.toList
theorem hasB_yes {l : List ByteArray} {s : ByteArray} {k : Nat} (h : k < l.length) (he : (l[k].toList == s.toList) = true) : hasB (l.drop k) s = true := by
  rw [List.drop_eq_getElem_cons h, hasB, List.any_cons, he]; rfl
theorem hasB_no {l : List ByteArray} {s : ByteArray} {k : Nat} (h : k < l.length) (he : (l[k].toList == s.toList) = false) : hasB (l.drop k) s = hasB (l.drop (k + 1)) s := by
  rw [List.drop_eq_getElem_cons h, hasB, List.any_cons, he]; rfl
set_option maxHeartbeats 2000000 in
theorem inR (s : ByteArray) (g : Nat) (l : List ByteArray) (c : Nat) (hl : l.length ≤ 1000) (w : World) (h : StrsAt w g l) : Calls Tryz.prog 105 #[.string s, .slice (some ⟨g, 0, none⟩) l.length c] w fun e w' => e = .returned (.bool (hasB l s)) ∧ w = w' := by
  obtain ⟨lg, h⟩ := h
  have HH := Lib.hid h
  clear h
  go_enter Tryz.func105, Tryz.ntmps105
  go_wp2
  go_loop [5] (fun i => ∃ k : Nat, k ≤ l.length ∧ i = .int .i64 k ∧ hasB (l.drop k) s = hasB l s) (fun i => l.length - (intOf i).toNat)
  case atStart => exact ⟨0, Nat.zero_le _, rfl, rfl⟩
  case round =>
    obtain ⟨k, hk, rfl, hr⟩ := hrel
    have HR := Lib.hid hr
    clear hr
    by_cases hlt : k < l.length
    · have hc := HH.out k hlt
      cases he : (l[k].toList == s.toList)
      · have HE := Lib.hid (hasB_no hlt he)
        go_wp2
        go_round
        case rel => exact ⟨k + 1, by omega, by go_num, by rw [← HE.out]; exact HR.out⟩
        case measure => simp [intOf] <;> omega
      · have HE := Lib.hid (hasB_yes hlt he)
        go_wp2
        go_ret
        exact ⟨ret_b (HE.out.symm.trans HR.out), rfl⟩
    · obtain rfl : k = l.length := by omega
      have HE := Lib.hid (show hasB (l.drop l.length) s = false by rw [List.drop_length]; rfl)
      go_wp2
      go_ret
      exact ⟨ret_b (HE.out.symm.trans HR.out), rfl⟩
def wordsS : List ByteArray := [⟨#[119, 105, 100, 101, 110]⟩, ⟨#[102, 110]⟩, ⟨#[108, 101, 116]⟩, ⟨#[102, 111, 114]⟩, ⟨#[105, 110]⟩, ⟨#[105, 102]⟩, ⟨#[101, 108, 115, 101]⟩, ⟨#[115, 119, 105, 116, 99, 104]⟩, ⟨#[99, 97, 115, 101]⟩, ⟨#[98, 114, 101, 97, 107]⟩, ⟨#[114, 101, 116, 117, 114, 110]⟩]
theorem whl_strs {w : World} {g : Nat} {t : TypeId} {l : List ByteArray} (h : Whl w g t (l.map Value.string).toArray) : StrsAt w g l :=
  ⟨h.lt, fun k hk => by rw [h.cell k]; simp [hk]⟩
theorem wordsR (w : World) : Calls Tryz.prog 106 #[] w fun e w' => e = .returned (.slice (some ⟨w.heap.size, 0, none⟩) 11 11) ∧ Whl w' w.heap.size 9 (wordsS.map Value.string).toArray ∧ Below w.heap.size w w' := by
  go_enter Tryz.func106, Tryz.ntmps106
  go_wp2
  go_ret
  exact ⟨by first | rfl | simp, Whl.new _ _ _, below_alloc (Below.refl _ _) _⟩
theorem hasB_words (s : ByteArray) : hasB wordsS s = wordB (bytesOf s) := by
  rw [wordB_or, show bytesOf s = s.data.toList from rfl]
  simp only [hasB, wordsS, List.any_cons, List.any_nil, Bool.or_false, Bool.or_assoc]
  simp only [ByteArray.toList_eq]
  simp only [BEq.comm]
theorem wordR (s : ByteArray) (w : World) : Calls Tryz.prog 83 #[.string s] w fun e w' => e = .returned (.bool (wordB (bytesOf s))) ∧ Below w.heap.size w w' := by
  rw [← hasB_words]
  go_enter Tryz.func83, Tryz.ntmps83
  go_wp2_with (first
    | (go_at_call 106; refine (wordsR _).mono ?_; rintro e w1 ⟨rfl, hW, hb⟩)
    | (go_at_call 105; refine (inR s _ wordsS _ (by decide) _ (whl_strs hW)).mono ?_; rintro e w2 ⟨rfl, rfl⟩))
  go_ret
  exact ⟨rfl, hb⟩
theorem nameB_eq (L : List UInt8) : nameB L = (decide (L.length ≤ 16) && plainB L && !wordB L) := by
  rw [nameB, plainB]
  cases decide (L.length ≤ 16) <;> simp
theorem nameR (s : ByteArray) (hs : s.size ≤ maxLen) (w : World) : Calls Tryz.prog 59 #[.string s] w fun e w' => e = .returned (.bool (nameB (bytesOf s))) ∧ Below w.heap.size w w' := by
  have hP := plainR s hs
  have hW := wordR s
  rw [nameB_eq, bytes_len]
  generalize plainB (bytesOf s) = p at *
  generalize wordB (bytesOf s) = q at *
  cases hd : decide (s.size ≤ 16)
  · have hd2 : decide ((s.size : Int) ≤ 16) = false := by simp at hd ⊢; omega
    clear hd
    go_enter Tryz.func59, Tryz.ntmps59
    go_wp2
    go_ret
    exact ⟨rfl, Below.refl _ _⟩
  · have hd2 : decide ((s.size : Int) ≤ 16) = true := by simp at hd ⊢; omega
    clear hd
    cases p
    · go_enter Tryz.func59, Tryz.ntmps59
      go_wp2_with (go_at_call 82; refine (hP _).mono ?_; rintro e w1 ⟨rfl, rfl⟩)
      go_ret
      exact ⟨rfl, Below.refl _ _⟩
    · cases q
      all_goals
        go_enter Tryz.func59, Tryz.ntmps59
        go_wp2_with (first
          | (go_at_call 82; refine (hP _).mono ?_; rintro e w1 ⟨rfl, rfl⟩)
          | (go_at_call 83; refine (hW _).mono ?_; rintro e w2 ⟨rfl, hb⟩))
        go_ret
        exact ⟨rfl, hb⟩
end Go.Proofs.YtdddppmfeoebgaaGreatDoor
