/-
  Layer 1 (scan): the walks of the reference's All and Same.
-/
import Derived.Test.YtihfllkgoolkhaaDoorScanI
import Derived.Test.YtihfllkgoolkhaaDoorScanP
namespace Go.Proofs.YtihfllkgoolkhaaDoor
open Go.RowKit
set_option linter.unusedSimpArgs false
set_option linter.unusedVariables false
theorem allR (s : ByteArray) (hs : s.size ≤ maxLen) (w : World) : Calls Tryd.prog 12 #[.string s] w (AheadOk s w (allD (bytesOf s))) := by
  have hA := aheadR s hs
  cases h0 : ((scanD (bytesOf s)).e == 0)
  · have hx : ((scanD (bytesOf s)).e != 0) = true := by rw [bne, h0]; rfl
    have HX := Lib.hid (show allD (bytesOf s) = ⟨[], (scanD (bytesOf s)).e, (scanD (bytesOf s)).p⟩ from if_neg (by simpa using h0))
    rw [HX.out]
    clear h0 HX
    generalize scanD (bytesOf s) = R at *
    go_enter Tryd.func12, Tryd.ntmps12
    go_wp2_with (go_at_call 19; refine (hA _).mono ?_; rintro e w1 ⟨⟨v, rfl, ho⟩, hb⟩)
    refine ret_of ?_ rfl
    refine ⟨_, by simp [results, Tryd.results12, go_sem]; rfl, ?_⟩
    exact ⟨⟨_, rfl, World.ownsRow_nil _ _ _ _⟩, hb⟩
  · have hx : ((scanD (bytesOf s)).e != 0) = false := by rw [bne, h0]; rfl
    have HX := Lib.hid (show allD (bytesOf s) = scanD (bytesOf s) from if_pos (by simpa using h0))
    rw [HX.out]
    clear h0 HX
    generalize scanD (bytesOf s) = R at *
    go_enter Tryd.func12, Tryd.ntmps12
    go_wp2_with (go_at_call 19; refine (hA _).mono ?_; rintro e w1 ⟨⟨v, rfl, ho⟩, hb⟩)
    refine ret_of ?_ rfl
    refine ⟨_, by simp [results, Tryd.results12, go_sem]; rfl, ?_⟩
    exact ⟨⟨_, rfl, ho⟩, hb⟩
/-- Where a list of tokens lies. -/
def TokAt (w : World) (A : Option Addr) (s : ByteArray) (ts : List TokD) : Prop :=
  0 < ts.length → ∃ b off, A = some ⟨b, off, none⟩ ∧ b < w.heap.size ∧ ∀ k (h : k < ts.length), w.cell? ⟨b, off + k * 4, none⟩ = some (.int .i64 (ts[k]).kind) ∧ w.cell? ⟨b, off + k * 4 + 1, none⟩ = some (.int .i64 ((ts[k]).at_ : Int)) ∧
    w.cell? ⟨b, off + k * 4 + 2, none⟩ = some (.string (s.extract (ts[k]).at_ ((ts[k]).at_ + (ts[k]).len))) ∧ w.cell? ⟨b, off + k * 4 + 3, none⟩ = some (.int .i64 (ts[k]).n)
theorem TokAt.below {w w' : World} {A : Option Addr} {s : ByteArray} {ts : List TokD} (h : TokAt w A s ts) (hb : Below w.heap.size w w') : TokAt w' A s ts := fun h0 => by
  obtain ⟨b, off, e, hlt, hc⟩ := h h0
  refine ⟨b, off, e, Nat.lt_of_lt_of_le hlt hb.size, fun k hk => ?_⟩
  obtain ⟨c0, c1, c2, c3⟩ := hc k hk
  exact ⟨(hb.cell (p := ⟨b, off + k * 4, none⟩) hlt).trans c0, (hb.cell (p := ⟨b, off + k * 4 + 1, none⟩) hlt).trans c1, (hb.cell (p := ⟨b, off + k * 4 + 2, none⟩) hlt).trans c2, (hb.cell (p := ⟨b, off + k * 4 + 3, none⟩) hlt).trans c3⟩
set_option maxHeartbeats 2000000 in
theorem sameR (s : ByteArray) (ts : List TokD) (hn : ts.length ≤ 65536) (A B : Option Addr) (c d : Nat) (w : World) (hA : TokAt w A s ts) (hB : TokAt w B s ts) :
    Calls Tryd.prog 13 #[.slice A ts.length c, .slice B ts.length d] w fun e w' => e = .returned (.bool true) ∧ Below w.heap.size w w' := by
  have HA := Lib.hid hA
  have HB := Lib.hid hB
  clear hA hB
  go_enter Tryd.func13, Tryd.ntmps13
  go_wp2
  go_loopw [5] (fun i wr => ∃ k : Nat, k ≤ ts.length ∧ i = .int .i64 k ∧ Below w.heap.size w wr) (fun i _ => ts.length - (intOf i).toNat)
  case atStart => exact ⟨0, Nat.zero_le _, rfl, Below.refl _ _⟩
  case round =>
    obtain ⟨k, hk, rfl, hI⟩ := hrel
    by_cases hlt : k < ts.length
    · obtain ⟨b, off, e1, hb1, hc1⟩ := (HA.out.below hI) (by omega)
      obtain ⟨b2, off2, e2, hb2, hc2⟩ := (HB.out.below hI) (by omega)
      obtain ⟨x0, x1, x2, x3⟩ := hc1 k hlt
      obtain ⟨y0, y1, y2, y3⟩ := hc2 k hlt
      have HI := Lib.hid hI
      clear hc1 hc2 hI
      subst e1 e2
      generalize (ts[k]).kind = kd at *
      generalize s.extract (ts[k]).at_ ((ts[k]).at_ + (ts[k]).len) = tx at *
      generalize (ts[k]).at_ = pl at *
      generalize (ts[k]).n = nn at *
      go_wp2
      go_region
      go_wp2
      exact ⟨⟨k + 1, by omega, by go_num, Below.drew HI.out⟩, by simp [intOf] <;> omega⟩
    · obtain rfl : k = ts.length := by omega
      go_wp2
      go_ret
      exact ⟨rfl, hI⟩
theorem rowT_get (s : ByteArray) : ∀ (ts : List TokD) (k j : Nat) (h : k < ts.length), j < 4 → (rowT s ts)[k * 4 + j]? = (tokC s ts[k])[j]?
  | [], k, j, h, _ => by simp at h
  | t :: ts, 0, j, h, hj => by
    rw [rowT, List.flatMap_cons, List.getElem?_append_left (by simp [tokC]; omega)]; simp
  | t :: ts, k + 1, j, h, hj => by
    have := rowT_get s ts k j (by simpa using h) hj
    rw [rowT, List.flatMap_cons, List.getElem?_append_right (by simp [tokC]; omega)]
    rw [show (k + 1) * 4 + j - (tokC s t).length = k * 4 + j by simp [tokC]; omega]
    simpa [rowT] using this
theorem tokAt_own {w : World} {B n c : Nat} {A : Option Addr} {s : ByteArray} {ts : List TokD} (h : OwnT w B (.slice A n c) s ts) : n = ts.length ∧ TokAt w A s ts := by
  rcases h with ⟨hl, ⟨e, h0⟩ | ⟨g, cap, cur, e, hb, hh, hnc, hm, hs, ht⟩⟩
  · cases e; exact ⟨h0.symm, fun hp => by omega⟩
  · cases e
    refine ⟨rfl, fun hp => ⟨g, 0, rfl, ?_, fun k hk => ?_⟩⟩
    · rcases Nat.lt_or_ge g w.heap.size with h1 | h1
      · exact h1
      · rw [Array.getElem?_eq_none h1] at hh; cases hh
    · have hc : ∀ j, j < 4 → w.cell? ⟨g, 0 + k * 4 + j, none⟩ = (tokC s ts[k])[j]? := fun j hj => by
        rw [cell_of_row w g (0 + k * 4 + j) cur _ (0, 0) hh, ← rowT_get s ts k j hk hj, ← ht, List.getElem?_take, if_pos (by omega), Nat.zero_add]
        simp
      exact ⟨hc 0 (by omega), hc 1 (by omega), hc 2 (by omega), hc 3 (by omega)⟩
end Go.Proofs.YtihfllkgoolkhaaDoor
