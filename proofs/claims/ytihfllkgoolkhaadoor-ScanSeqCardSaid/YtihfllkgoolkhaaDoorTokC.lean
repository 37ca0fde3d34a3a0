/-
  Layer 1 (scan): the calls of awake answer as they should.
-/
import Derived.Test.YtihfllkgoolkhaaDoorTokB
namespace Go.Proofs.YtihfllkgoolkhaaDoor
open Go.RowKit
set_option linter.unusedSimpArgs false
set_option linter.unusedVariables false
theorem allAt {s : ByteArray} {R : AheadR} (hR : allD (bytesOf s) = R) (hs : s.size ≤ maxLen) (w : World) (hv : RangeVar w) : Calls Tryd.prog 11 #[.string s] w (AllOk s w R) := by
  subst hR; exact allP s hs w hv
theorem RowT.cells {w : World} {B : Nat} {A : Option Addr} {s : ByteArray} {ts : List TokD} (h : RowT w B A s ts) (hp : 0 < ts.length) :
    ∃ g, A = some ⟨g, 0, none⟩ ∧ B ≤ g ∧ g < w.heap.size ∧ ∀ k (hk : k < ts.length), w.cell? ⟨g, k * 4, none⟩ = some (.int .i64 (ts[k]).kind) ∧ w.cell? ⟨g, k * 4 + 1, none⟩ = some (.int .i64 ((ts[k]).at_ : Int)) ∧
      w.cell? ⟨g, k * 4 + 2, none⟩ = some (.string (s.extract (ts[k]).at_ ((ts[k]).at_ + (ts[k]).len))) ∧ w.cell? ⟨g, k * 4 + 3, none⟩ = some (.int .i64 (ts[k]).n) := by
  have hB : ∃ g, A = some ⟨g, 0, none⟩ ∧ B ≤ g := by
    rcases h with ⟨rfl, _⟩ | ⟨g, cur, rfl, hb, _⟩
    · simp at hp
    · exact ⟨g, rfl, hb⟩
  obtain ⟨g, rfl, hb⟩ := hB
  obtain ⟨b, off, e, hlt, hc⟩ := h.tokAt hp
  cases e
  refine ⟨g, rfl, hb, hlt, fun k hk => ?_⟩
  have := hc k hk
  simpa using this
def src1 : ByteArray := { data := #[102, 111, 114, 32, 105, 32, 105, 110, 32, 48, 46, 46, 110] }
def src2 : ByteArray := { data := #[120, 32, 61, 32, 48, 48, 55, 59] }
theorem all1 : allD (bytesOf src1) = ⟨[⟨3, 0, 3, 0⟩, ⟨1, 4, 1, 0⟩, ⟨3, 6, 2, 0⟩, ⟨2, 9, 1, 0⟩, ⟨4, 10, 2, 0⟩, ⟨1, 12, 1, 0⟩], 0, 0⟩ := by kernel_rfl
theorem all2 : allD (bytesOf src2) = ⟨[], 11, 4⟩ := by kernel_rfl
set_option maxHeartbeats 2000000 in
theorem awakeP (w : World) (hv : RangeVar w) : Calls Tryd.prog 10 #[] w fun e w' => e = .returned (.bool true) ∧ Below w.heap.size w w' := by
  have e9 : src1.extract 9 10 = { data := #[48] } := by kernel_rfl
  have e10 : src1.extract 10 12 = { data := #[46, 46] } := by kernel_rfl
  have NI : ∀ w, Calls Tryd.prog 17 #[.string { data := #[105] }] w fun e w' => e = .returned (.bool true) ∧ w = w' := fun w => by
    have := nameP { data := #[105] } (by decide) w
    rwa [show nameB (bytesOf { data := #[105] }) = true by kernel_rfl] at this
  have NN : ∀ w, Calls Tryd.prog 17 #[.string { data := #[105, 110] }] w fun e w' => e = .returned (.bool false) ∧ w = w' := fun w => by
    have := nameP { data := #[105, 110] } (by decide) w
    rwa [show nameB (bytesOf { data := #[105, 110] }) = false by kernel_rfl] at this
  have WI : ∀ w, Calls Tryd.prog 15 #[.string { data := #[105, 110] }] w fun e w' => e = .returned (.bool true) ∧ w = w' := fun w => by
    have := wordP { data := #[105, 110] } w
    rwa [show wordB (bytesOf { data := #[105, 110] }) = true by kernel_rfl] at this
  have H1 : ∀ w1 : World, ∀ A, RowT w1 w.heap.size A src1 [⟨3, 0, 3, 0⟩, ⟨1, 4, 1, 0⟩, ⟨3, 6, 2, 0⟩, ⟨2, 9, 1, 0⟩, ⟨4, 10, 2, 0⟩, ⟨1, 12, 1, 0⟩] → ∃ g, A = some ⟨g, 0, none⟩ ∧ g < w1.heap.size ∧
      w1.cell? ⟨g, 12, none⟩ = some (.int .i64 2) ∧ w1.cell? ⟨g, 13, none⟩ = some (.int .i64 9) ∧ w1.cell? ⟨g, 14, none⟩ = some (.string { data := #[48] }) ∧ w1.cell? ⟨g, 15, none⟩ = some (.int .i64 0) ∧
      w1.cell? ⟨g, 16, none⟩ = some (.int .i64 4) ∧ w1.cell? ⟨g, 17, none⟩ = some (.int .i64 10) ∧ w1.cell? ⟨g, 18, none⟩ = some (.string { data := #[46, 46] }) ∧ w1.cell? ⟨g, 19, none⟩ = some (.int .i64 0) := fun w1 A h => by
    obtain ⟨g, rfl, _, lg, hc⟩ := h.cells (by decide)
    obtain ⟨a0, a1, a2, a3⟩ := hc 3 (by decide)
    obtain ⟨b0, b1, b2, b3⟩ := hc 4 (by decide)
    exact ⟨g, rfl, lg, a0, a1, by rw [← e9]; exact a2, a3, b0, b1, by rw [← e10]; exact b2, b3⟩
  have A1 : Calls Tryd.prog 11 #[.string { data := #[102, 111, 114, 32, 105, 32, 105, 110, 32, 48, 46, 46, 110] }] w fun e w' => (∃ A, e = .returned (.tuple #[.slice A 6 6, .int .i64 0, .int .i64 0]) ∧ RowT w' w.heap.size A src1 [⟨3, 0, 3, 0⟩, ⟨1, 4, 1, 0⟩, ⟨3, 6, 2, 0⟩, ⟨2, 9, 1, 0⟩, ⟨4, 10, 2, 0⟩, ⟨1, 12, 1, 0⟩]) ∧ Below w.heap.size w w' := allAt all1 (by decide) w hv
  have A2 : ∀ w1, RangeVar w1 → Calls Tryd.prog 11 #[.string { data := #[120, 32, 61, 32, 48, 48, 55, 59] }] w1 fun e w' => (∃ A, e = .returned (.tuple #[.slice A 0 0, .int .i64 11, .int .i64 4]) ∧ RowT w' w1.heap.size A src2 []) ∧ Below w1.heap.size w1 w' := fun w1 hv1 => allAt all2 (by decide) w1 hv1
  have HP := Lib.hid H1
  clear H1 e9 e10
  go_enter Tryd.func10, Tryd.ntmps10
  go_wp2_with (first
    | (go_at_call 11; (with_reducible refine A1.mono ?_); rintro e w1 ⟨⟨A, rfl, hrow⟩, hb1⟩; have hv1 := hv.below hb1; obtain ⟨g, rfl, lg, c12, c13, c14, c15, c16, c17, c18, c19⟩ := HP.out w1 A hrow; clear hrow A1)
    | (go_at_call 11; (with_reducible refine (A2 _ hv1).mono ?_); rintro e w2 ⟨⟨A, rfl, hrow⟩, hb2⟩; obtain ⟨hcc2, hff2⟩ := bcell hb2; clear A2)
    | (go_at_call 17; (with_reducible refine (NI _).mono ?_); rintro e w' ⟨rfl, rfl⟩)
    | (go_at_call 17; (with_reducible refine (NN _).mono ?_); rintro e w' ⟨rfl, rfl⟩)
    | (go_at_call 15; (with_reducible refine (WI _).mono ?_); rintro e w' ⟨rfl, rfl⟩))
  go_ret
  exact ⟨rfl, below_step hb1 hb2⟩
end Go.Proofs.YtihfllkgoolkhaaDoor
