/-
  Layer 1 (scan): the walks of the reference: words, in, Word, Name, value.
-/
import Derived.Test.YtihfllkgoolkhaaDoorScanR
import Derived.Test.YtihfllkgoolkhaaDoorScanF
namespace Go.Proofs.YtihfllkgoolkhaaDoor
open Go.RowKit
set_option linter.unusedSimpArgs false
set_option linter.unusedVariables false
/-- A row of texts from a block's start on. -/
def StrsAt (w : World) (g : Nat) (l : List ByteArray) : Prop := g < w.heap.size ∧ ∀ k (h : k < l.length), w.cell? ⟨g, k, none⟩ = some (.string l[k])
def hasB (l : List ByteArray) (s : ByteArray) : Bool := l.any fun x => x.toList == s.toList
theorem hasB_yes {l : List ByteArray} {s : ByteArray} {k : Nat} (h : k < l.length) (he : (l[k].toList == s.toList) = true) : hasB (l.drop k) s = true := by
  rw [List.drop_eq_getElem_cons h, hasB, List.any_cons, he]; rfl
theorem hasB_no {l : List ByteArray} {s : ByteArray} {k : Nat} (h : k < l.length) (he : (l[k].toList == s.toList) = false) : hasB (l.drop k) s = hasB (l.drop (k + 1)) s := by
  rw [List.drop_eq_getElem_cons h, hasB, List.any_cons, he]; rfl
set_option maxHeartbeats 2000000 in
theorem inR (s : ByteArray) (g : Nat) (l : List ByteArray) (c : Nat) (hl : l.length ≤ 1000) (w : World) (h : StrsAt w g l) : Calls Tryd.prog 23 #[.string s, .slice (some ⟨g, 0, none⟩) l.length c] w fun e w' => e = .returned (.bool (hasB l s)) ∧ w = w' := by
  obtain ⟨lg, h⟩ := h
  have HH := Lib.hid h
  clear h
  go_enter Tryd.func23, Tryd.ntmps23
  go_wp2
  go_loop [5] (fun i => ∃ k : Nat, k ≤ l.length ∧ i = .int .i64 k ∧ hasB (l.drop k) s = hasB l s) (fun i => l.length - (intOf i).toNat)
  case atStart => exact ⟨0, Nat.zero_le _, rfl, rfl⟩
  case round =>
    obtain ⟨k, hk, rfl, hr⟩ := hrel
    have HR := Lib.hid hr
    clear hr
    by_cases hlt : k < l.length
    · have hc := HH.out k hlt
      cases he : (l[k].toList == s.toList)
      · have HE := Lib.hid (hasB_no hlt he)
        go_wp2
        go_round
        case rel => exact ⟨k + 1, by omega, by go_num, by rw [← HE.out]; exact HR.out⟩
        case measure => simp [intOf] <;> omega
      · have HE := Lib.hid (hasB_yes hlt he)
        go_wp2
        go_ret
        exact ⟨ret_b (HE.out.symm.trans HR.out), rfl⟩
    · obtain rfl : k = l.length := by omega
      have HE := Lib.hid (show hasB (l.drop l.length) s = false by rw [List.drop_length]; rfl)
      go_wp2
      go_ret
      exact ⟨ret_b (HE.out.symm.trans HR.out), rfl⟩
def wordsS : List ByteArray := [⟨#[119, 105, 100, 101, 110]⟩, ⟨#[102, 110]⟩, ⟨#[108, 101, 116]⟩, ⟨#[102, 111, 114]⟩, ⟨#[105, 110]⟩, ⟨#[105, 102]⟩, ⟨#[101, 108, 115, 101]⟩, ⟨#[115, 119, 105, 116, 99, 104]⟩, ⟨#[99, 97, 115, 101]⟩, ⟨#[98, 114, 101, 97, 107]⟩, ⟨#[114, 101, 116, 117, 114, 110]⟩]
theorem whl_strs {w : World} {g : Nat} {t : TypeId} {l : List ByteArray} (h : Whl w g t (l.map Value.string).toArray) : StrsAt w g l :=
  ⟨h.lt, fun k hk => by rw [h.cell k]; simp [hk]⟩
theorem wordsR (w : World) : Calls Tryd.prog 24 #[] w fun e w' => e = .returned (.slice (some ⟨w.heap.size, 0, none⟩) 11 11) ∧ Whl w' w.heap.size 9 (wordsS.map Value.string).toArray ∧ Below w.heap.size w w' := by
  go_enter Tryd.func24, Tryd.ntmps24
  go_wp2
  go_ret
  exact ⟨by first | rfl | simp, Whl.new _ _ _, below_alloc (Below.refl _ _) _⟩
theorem hasB_words (s : ByteArray) : hasB wordsS s = wordB (bytesOf s) := by
  rw [wordB_or, show bytesOf s = s.data.toList from rfl]
  simp only [hasB, wordsS, List.any_cons, List.any_nil, Bool.or_false, Bool.or_assoc]
  simp only [ByteArray.toList_eq]
  simp only [BEq.comm]
theorem wordR (s : ByteArray) (w : World) : Calls Tryd.prog 16 #[.string s] w fun e w' => e = .returned (.bool (wordB (bytesOf s))) ∧ Below w.heap.size w w' := by
  rw [← hasB_words]
  go_enter Tryd.func16, Tryd.ntmps16
  go_wp2_with (first
    | (go_at_call 24; refine (wordsR _).mono ?_; rintro e w1 ⟨rfl, hW, hb⟩)
    | (go_at_call 23; refine (inR s _ wordsS _ (by decide) _ (whl_strs hW)).mono ?_; rintro e w2 ⟨rfl, rfl⟩))
  go_ret
  exact ⟨rfl, hb⟩
theorem nameB_eq (L : List UInt8) : nameB L = (decide (L.length ≤ 16) && plainB L && !wordB L) := by
  rw [nameB, plainB]
  cases decide (L.length ≤ 16) <;> simp
theorem nameR (s : ByteArray) (hs : s.size ≤ maxLen) (w : World) : Calls Tryd.prog 18 #[.string s] w fun e w' => e = .returned (.bool (nameB (bytesOf s))) ∧ Below w.heap.size w w' := by
  have hP := plainR s hs
  have hW := wordR s
  rw [nameB_eq, bytes_len]
  generalize plainB (bytesOf s) = p at *
  generalize wordB (bytesOf s) = q at *
  cases hd : decide (s.size ≤ 16)
  · have hd2 : decide ((s.size : Int) ≤ 16) = false := by simp at hd ⊢; omega
    clear hd
    go_enter Tryd.func18, Tryd.ntmps18
    go_wp2
    go_ret
    exact ⟨rfl, Below.refl _ _⟩
  · have hd2 : decide ((s.size : Int) ≤ 16) = true := by simp at hd ⊢; omega
    clear hd
    cases p
    · go_enter Tryd.func18, Tryd.ntmps18
      go_wp2_with (go_at_call 28; refine (hP _).mono ?_; rintro e w1 ⟨rfl, rfl⟩)
      go_ret
      exact ⟨rfl, Below.refl _ _⟩
    · cases q
      all_goals
        go_enter Tryd.func18, Tryd.ntmps18
        go_wp2_with (first
          | (go_at_call 28; refine (hP _).mono ?_; rintro e w1 ⟨rfl, rfl⟩)
          | (go_at_call 16; refine (hW _).mono ?_; rintro e w2 ⟨rfl, hb⟩))
        go_ret
        exact ⟨rfl, hb⟩
end Go.Proofs.YtihfllkgoolkhaaDoor
