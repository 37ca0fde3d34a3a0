/-
  Layer 11 (pack): Encode and the reference's, for every module.
-/
import Derived.Test.YtjacfeohpofhpaaDoorEncR
namespace Go.Proofs.YtjacfeohpofhpaaDoor
open Go.RowKit
set_option linter.unusedSimpArgs false
set_option linter.unusedVariables false
theorem may_zero {m : ModD} (h : (mayD m).e = 0) : mayD m = ⟨0, 0, 0⟩ := by
  unfold mayD at h ⊢
  split at h
  · simp at h
  split at h
  · simp at h
  split at h
  · simp at h
  split at h
  · rename_i hw
    rcases badFrom_cases (okWhole m) m.funcs.length 0 with ⟨h1, -⟩ | ⟨j, -, -, h3, h4⟩
    · exact absurd h1 hw
    · exfalso
      have e : wholeD m = j := h3
      rw [e] at h
      simp only [Int.toNat_natCast] at h
      simp [okWhole, h] at h4
  split at h
  · rename_i hw
    rcases badFrom_cases (okCode m) m.funcs.length 0 with ⟨h1, -⟩ | ⟨j, -, -, h3, h4⟩
    · exact absurd h1 hw
    · exfalso
      have e : codeD m = j := h3
      rw [e] at h
      simp only [Int.toNat_natCast] at h
      simp [okCode, h] at h4
  · rename_i h1 h2 h3 h4 h5
    rw [if_neg h1, if_neg h2, if_neg h3, if_neg h4, if_neg h5]
/-- A module's bytes, none where it may not be. -/
def encL (m : ModD) : List UInt8 := if (mayD m).e = 0 then encM m else []
abbrev faultV (d : FaultD) : Value := .agg #[.int .i64 d.e, .int .i64 d.f, .int .i64 d.a]
theorem own_nil (w : World) (B : Nat) : OwnB w B (.slice none 0 0) [] := ⟨rfl, .inl ⟨rfl, rfl⟩⟩
set_option maxHeartbeats 4000000 in
theorem encFailP (m : ModD) (w : World) (wm : m.Wf) (hm : ModOk w w.heap.size m) (ht : TabOk w) (hmay : (mayD m).e ≠ 0) : Calls Tryd.prog 8 #[m.val] w fun e w' =>
    e = .returned (.tuple #[.slice none 0 0, faultV (mayD m)]) ∧ Below w.heap.size w w' := by
  have HP := Lib.hid (show ∀ W, TabOk W → ModOk W W.heap.size m → Calls Tryd.prog 16 #[m.val] W fun e w' => e = .returned (faultV (mayD m)) ∧ Below W.heap.size W w' from fun W ht hm => mayP m W wm hm ht)
  have HM := Lib.hid hm
  have HT := Lib.hid ht
  clear hm ht
  generalize mayD m = d at *
  unfold ModD.val at HP ⊢
  have B0 : Below w.heap.size w ((w.alloc (.cells #[.slice m.ta m.ths.length m.tc, .slice m.fa m.funcs.length m.fc] 25)).alloc (.cells #[.int .i64 0, .int .i64 0, .int .i64 0] 30)) := below_alloc (below_alloc (Below.refl _ _) _) _
  go_enter Tryd.func8, Tryd.ntmps8
  go_wp2_with (go_at_call 16; with_reducible refine (HP.out _ (HT.out.below B0 HT.out.size) ((HM.out.below B0 (Nat.le_refl _)).more B0.size)).mono ?_; rintro e w1 ⟨rfl, hb1⟩; have R2 := (Whl.new1 w (.cells #[.slice m.ta m.ths.length m.tc, .slice m.fa m.funcs.length m.fc] 25) 30 #[.int .i64 0, .int .i64 0, .int .i64 0]).below' hb1; have B1 := below_step B0 hb1; have l2 := R2.lt; have c0 := R2.cell 0; have c1 := R2.cell 1; have c2 := R2.cell 2; have s0 := R2.frozen 0; have s1 := R2.frozen 1; have s2 := R2.frozen 2)
  have Y := Whl.new w1 30 #[.int .i64 d.e, .int .i64 d.f, .int .i64 d.a]
  have ly := Y.lt
  have y0 := Y.cell 0
  have y1 := Y.cell 1
  have y2 := Y.cell 2
  go_region
  go_wp2
  refine ret_of ?_ rfl
  refine ⟨_, ?_, rfl, ?_⟩
  rotate_left
  · exact ((below_alloc (((B1.setCell (by simp) _).setCell (by simp) _).setCell (by simp) _) _)).drew
  · simp [results, Tryd.results8, go_sem, c0, c1, c2, s0, s1, s2, l2]
set_option maxHeartbeats 4000000 in
theorem encFailR (m : ModD) (w : World) (wm : m.Wf) (hm : ModOk w w.heap.size m) (hmay : (mayD m).e ≠ 0) : Calls Tryd.prog 9 #[m.val] w fun e w' =>
    e = .returned (.tuple #[.slice none 0 0, faultV (mayD m)]) ∧ Below w.heap.size w w' := by
  have HP := Lib.hid (show ∀ W, ModOk W W.heap.size m → Calls Tryd.prog 18 #[m.val] W fun e w' => e = .returned (faultV (mayD m)) ∧ Below W.heap.size W w' from fun W hm => mayR m W wm hm)
  have HM := Lib.hid hm
  clear hm
  generalize mayD m = d at *
  unfold ModD.val at HP ⊢
  have B0 : Below w.heap.size w ((w.alloc (.cells #[.slice m.ta m.ths.length m.tc, .slice m.fa m.funcs.length m.fc] 25)).alloc (.cells #[.int .i64 0, .int .i64 0, .int .i64 0] 30)) := below_alloc (below_alloc (Below.refl _ _) _) _
  go_enter Tryd.func9, Tryd.ntmps9
  go_wp2_with (go_at_call 18; with_reducible refine (HP.out _ ((HM.out.below B0 (Nat.le_refl _)).more B0.size)).mono ?_; rintro e w1 ⟨rfl, hb1⟩; have R2 := (Whl.new1 w (.cells #[.slice m.ta m.ths.length m.tc, .slice m.fa m.funcs.length m.fc] 25) 30 #[.int .i64 0, .int .i64 0, .int .i64 0]).below' hb1; have B1 := below_step B0 hb1; have l2 := R2.lt; have c0 := R2.cell 0; have c1 := R2.cell 1; have c2 := R2.cell 2; have s0 := R2.frozen 0; have s1 := R2.frozen 1; have s2 := R2.frozen 2)
  have Y := Whl.new w1 30 #[.int .i64 d.e, .int .i64 d.f, .int .i64 d.a]
  have ly := Y.lt
  have y0 := Y.cell 0
  have y1 := Y.cell 1
  have y2 := Y.cell 2
  go_region
  go_wp2
  refine ret_of ?_ rfl
  refine ⟨_, ?_, rfl, ?_⟩
  rotate_left
  · exact ((below_alloc (((B1.setCell (by simp) _).setCell (by simp) _).setCell (by simp) _) _)).drew
  · simp [results, Tryd.results9, go_sem, c0, c1, c2, s0, s1, s2, l2]
theorem encP (m : ModD) (w : World) (wm : m.Wf) (hm : ModOk w w.heap.size m) (ht : TabOk w) : Calls Tryd.prog 8 #[m.val] w fun e w' =>
    (∃ v, e = .returned (.tuple #[v, faultV (mayD m)]) ∧ OwnB w' w.heap.size v (encL m)) ∧ Below w.heap.size w w' := by
  by_cases h : (mayD m).e = 0
  · rw [encL, if_pos h, may_zero h]
    exact encodeP m w wm hm ht (may_zero h)
  · rw [encL, if_neg h]
    refine (encFailP m w wm hm ht h).mono ?_
    rintro e w1 ⟨he, hb⟩
    exact ⟨⟨_, he, own_nil _ _⟩, hb⟩
theorem encR (m : ModD) (w : World) (wm : m.Wf) (hm : ModOk w w.heap.size m) : Calls Tryd.prog 9 #[m.val] w fun e w' =>
    (∃ v, e = .returned (.tuple #[v, faultV (mayD m)]) ∧ OwnB w' w.heap.size v (encL m)) ∧ Below w.heap.size w w' := by
  by_cases h : (mayD m).e = 0
  · rw [encL, if_pos h, may_zero h]
    exact encodeR m w wm hm (may_zero h)
  · rw [encL, if_neg h]
    refine (encFailR m w wm hm h).mono ?_
    rintro e w1 ⟨he, hb⟩
    exact ⟨⟨_, he, own_nil _ _⟩, hb⟩
end Go.Proofs.YtjacfeohpofhpaaDoor
