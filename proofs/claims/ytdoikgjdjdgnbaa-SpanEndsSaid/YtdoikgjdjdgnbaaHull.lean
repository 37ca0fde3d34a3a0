/-
  Layer 8 (span): hull: a loop over the numbers; the hull of what has come so far stands in a box of the call's own.
-/
import Derived.Test.YtdoikgjdjdgnbaaSpanA
import Derived.Test.YtdoikgjdjdgnbaaKitB
import Derived.Test.YtdoikgjdjdgnbaaPlainW
namespace Go.Proofs.Ytdoikgjdjdgnbaa
open Go.RowKit
set_option linter.unusedSimpArgs false
set_option linter.unusedVariables false
attribute [local go_sem ↓] Go.wp_at_zero Go.wp_at_succ


/-- What lies in memory while the hull is made. -/
structure HullMem (w : World) (zs : List Int) (k : Nat) (wr : World) : Prop where
  below : Below w.heap.size w wr
  out : Whl wr w.heap.size 23 #[.int .i64 0, .int .i64 0]
  acc : Whl wr (w.heap.size + 1) 23 #[.int .i64 (hullTo zs k).lo, .int .i64 (hullTo zs k).hi]

set_option maxHeartbeats 400000 in
theorem hullP (b off c : Nat) (zs : List Int) (w : World) (hb : b < w.heap.size) (h0 : 0 < zs.length) (hm : zs.length ≤ 9223372036854775807)
    (hc : ∀ k, k < zs.length → w.cell? ⟨b, off + k, none⟩ = some (.int .i64 (nthI zs k))) :
    Calls Try.prog 36 #[.slice (some ⟨b, off, none⟩) zs.length c, .bool true] w fun e w' => e = .returned (.agg #[.int .i64 (hullTo zs zs.length).lo, .int .i64 (hullTo zs zs.length).hi]) ∧ Below w.heap.size w w' := by
  have hc0 : w.cell? ⟨b, off, none⟩ = some (.int .i64 (nthI zs 0)) := hc 0 h0
  have HC := Lib.hid hc; clear hc
  go_enter Try.func36, Try.ntmps36
  go_wp2
  go_region
  go_wp2
  go_loopw [20] (fun i wr => ∃ k : Nat, k ≤ zs.length ∧ i = .int .i64 k ∧ HullMem w zs k wr) (fun i wr => zs.length - (intOf i).toNat)
  case atStart =>
    refine ⟨0, Nat.zero_le _, rfl, ?_, ?_, ?_⟩
    · repeat (first | exact Below.refl _ _ | apply Below.drew | refine Below.alloc ?_ (by simp <;> omega) _)
    · exact ((Whl.new _ _ _).alloc _).drew
    · have := Whl.new (w.alloc (.cells #[.int .i64 0, .int .i64 0] 23)) 23 #[.int .i64 (nthI zs 0), .int .i64 (nthI zs 0)]
      rw [World.size_alloc] at this
      exact this.drew
  case round =>
    obtain ⟨k, hk, rfl, hB, hO, hA⟩ := hrel
    have c1 : wr.cell? ⟨w.heap.size + 1, 0, none⟩ = some (.int .i64 (hullTo zs k).lo) := hA.cell 0
    have c2 : wr.cell? ⟨w.heap.size + 1, 1, none⟩ = some (.int .i64 (hullTo zs k).hi) := hA.cell 1
    have f1 := hA.frozen 0
    have f2 := hA.frozen 1
    have c3 : wr.cell? ⟨w.heap.size, 0, none⟩ = some (.int .i64 0) := hO.cell 0
    have c4 : wr.cell? ⟨w.heap.size, 1, none⟩ = some (.int .i64 0) := hO.cell 1
    have f3 := hO.frozen 0
    have f4 := hO.frozen 1
    have z1 := hA.lt
    by_cases hlt : k < zs.length
    · have hck : wr.cell? ⟨b, off + k, none⟩ = some (.int .i64 (nthI zs k)) := (hB.cell (p := ⟨b, off + k, none⟩) hb).trans (HC.out k hlt)
      go_wp2_with (go_at_call 18; refine (joinP (hullTo zs k) ⟨nthI zs k, nthI zs k⟩ _).mono ?_; rintro e w1 ⟨rfl, hb1⟩; obtain ⟨hcc, hff⟩ := bcell hb1; have hs1 := hb1.size)
      go_roundw
      case rel =>
        go_light
        refine ⟨k + 1, by omega, by go_num, ?_, ?_, ?_⟩
        · exact ((hB.trans (hb1.mono hB.size)).setCell (by simp) _).setCell (by simp) _
        · exact ((hO.below' hb1).far (by simp) _).far (by simp) _
        · exact ((hA.below' hb1).put 0 _).put 1 _
      case measure => simp [intOf]; omega
    · have : k = zs.length := by omega
      subst this
      go_wp2
      all_goals (try simp only [Exit.inBlock, Exit.then])
      all_goals refine ret_of ?_ rfl
      all_goals simp [results, Try.results36, go_sem, c1, c2, c3, c4]
      exact (hB.setCell (by simp) _).setCell (by simp) _

set_option maxHeartbeats 400000 in
theorem hullP_no (A : Option Addr) (n c : Nat) (w : World) :
    Calls Try.prog 36 #[.slice A n c, .bool false] w fun e w' => e = .returned (.agg #[.int .i64 Sp.all.lo, .int .i64 Sp.all.hi]) ∧ Below w.heap.size w w' := by
  go_enter Try.func36, Try.ntmps36
  go_wp2_with (go_at_call 14; refine (allP _).mono ?_; rintro e w1 ⟨rfl, hb1⟩; have hW := (Whl.new w 23 #[.int .i64 0, .int .i64 0]).below' hb1; have c1 : w1.cell? ⟨w.heap.size, 0, none⟩ = some (.int .i64 0) := hW.cell 0; have c2 : w1.cell? ⟨w.heap.size, 1, none⟩ = some (.int .i64 0) := hW.cell 1; have f1 := hW.frozen 0; have f2 := hW.frozen 1)
  all_goals (try simp only [Exit.inBlock, Exit.then])
  all_goals refine ret_of ?_ rfl
  all_goals simp [results, Try.results36, go_sem, c1, c2]
  exact ((((Below.refl _ _).alloc (Nat.le_refl _) _).trans (hb1.mono (by simp))).setCell (by simp) _).setCell (by simp) _
end Go.Proofs.Ytdoikgjdjdgnbaa
