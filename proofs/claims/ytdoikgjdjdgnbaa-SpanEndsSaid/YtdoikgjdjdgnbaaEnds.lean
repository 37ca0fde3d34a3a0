/-
  Layer 8 (span): the reference's ends: a loop over the numbers behind the first.
-/
import Derived.Test.YtdoikgjdjdgnbaaArR
import Derived.Test.YtdoikgjdjdgnbaaHull
import Derived.Deep.RegionLaw
namespace Go.Proofs.Ytdoikgjdjdgnbaa
open Go.RowKit
set_option linter.unusedSimpArgs false
set_option linter.unusedVariables false
attribute [local go_sem ↓] Go.wp_at_zero Go.wp_at_succ

theorem hullTo_one (zs : List Int) : hullTo zs 1 = ⟨nthI zs 0, nthI zs 0⟩ := by simp [hullTo, Sp.join, Sp.none, Sp.mn, Sp.mx]
theorem hullTo_wf (zs : List Int) : ∀ k, (hullTo zs k).lo ≤ (hullTo zs k).hi
  | 0 => Int.le_refl _
  | k + 1 => by
    have := hullTo_wf zs k
    simp only [hullTo, Sp.join, Sp.none, Sp.mn, Sp.mx]
    (repeat' split) <;> simp_all <;> (repeat' split) <;> omega
theorem hullTo_next (zs : List Int) (k : Nat) : hullTo zs (k + 1) = ⟨Sp.mn (hullTo zs k).lo (nthI zs k), Sp.mx (hullTo zs k).hi (nthI zs k)⟩ := by
  have := hullTo_wf zs k
  have h1 : (hullTo zs k).none = false := by simp [Sp.none]; omega
  have h2 : (Sp.mk (nthI zs k) (nthI zs k)).none = false := by simp [Sp.none]
  rw [hullTo, Sp.join, h1, h2]
  simp
theorem hullTo_lo (zs : List Int) (k : Nat) : (hullTo zs (k + 1)).lo = Sp.mn (hullTo zs k).lo (nthI zs k) := by rw [hullTo_next]
theorem hullTo_hi (zs : List Int) (k : Nat) : (hullTo zs (k + 1)).hi = Sp.mx (hullTo zs k).hi (nthI zs k) := by rw [hullTo_next]

set_option maxHeartbeats 1000000 in
theorem endsR (b off c : Nat) (zs : List Int) (w : World) (hb : b < w.heap.size) (h0 : 0 < zs.length) (hm : zs.length ≤ 9223372036854775807)
    (hc : ∀ k, k < zs.length → w.cell? ⟨b, off + k, none⟩ = some (.int .i64 (nthI zs k))) :
    Calls Try.prog 44 #[.slice (some ⟨b, off, none⟩) zs.length c, .bool true] w fun e w' => e = .returned (.agg #[.int .i64 (hullTo zs zs.length).lo, .int .i64 (hullTo zs zs.length).hi]) ∧ Below w.heap.size w w' := by
  have hc0 : w.cell? ⟨b, off, none⟩ = some (.int .i64 (nthI zs 0)) := hc 0 h0
  have HC := Lib.hid hc; clear hc
  go_enter Try.func44, Try.ntmps44
  go_wp2
  go_region
  go_wp2
  go_loopw [6] (fun i wr => ∃ k : Nat, 1 ≤ k ∧ k ≤ zs.length ∧ i = .int .i64 k ∧ HullMem w zs k wr) (fun i wr => zs.length - (intOf i).toNat)
  case atStart =>
    refine ⟨1, Nat.le_refl _, h0, rfl, ?_, ?_, ?_⟩
    · repeat (first | exact Below.refl _ _ | apply Below.drew | refine Below.alloc ?_ (by simp <;> omega) _)
    · exact ((Whl.new _ _ _).alloc _).drew
    · have := Whl.new (w.alloc (.cells #[.int .i64 0, .int .i64 0] 23)) 23 #[.int .i64 (nthI zs 0), .int .i64 (nthI zs 0)]
      rw [World.size_alloc] at this
      rw [hullTo_one]
      exact this.drew
  case round =>
    obtain ⟨k, hk1, hk, rfl, hB, hO, hA⟩ := hrel
    have c1 : wr.cell? ⟨w.heap.size + 1, 0, none⟩ = some (.int .i64 (hullTo zs k).lo) := hA.cell 0
    have c2 : wr.cell? ⟨w.heap.size + 1, 1, none⟩ = some (.int .i64 (hullTo zs k).hi) := hA.cell 1
    have f1 := hA.frozen 0
    have f2 := hA.frozen 1
    have c3 : wr.cell? ⟨w.heap.size, 0, none⟩ = some (.int .i64 0) := hO.cell 0
    have c4 : wr.cell? ⟨w.heap.size, 1, none⟩ = some (.int .i64 0) := hO.cell 1
    have f3 := hO.frozen 0
    have f4 := hO.frozen 1
    have z1 := hA.lt
    by_cases hlt : k < zs.length
    · have hck : wr.cell? ⟨b, off + k, none⟩ = some (.int .i64 (nthI zs k)) := (hB.cell (p := ⟨b, off + k, none⟩) hb).trans (HC.out k hlt)
      go_wp2
      go_region_law (first | (go_simp; go_at_call 33; refine (lesserR _ _ _).mono ?_; rintro e w' ⟨rfl, rfl⟩) | (go_simp; go_at_call 32; refine (greaterR _ _ _).mono ?_; rintro e w' ⟨rfl, rfl⟩))
      all_goals go_wp2
      all_goals go_region_law (first | (go_simp; go_at_call 33; refine (lesserR _ _ _).mono ?_; rintro e w' ⟨rfl, rfl⟩) | (go_simp; go_at_call 32; refine (greaterR _ _ _).mono ?_; rintro e w' ⟨rfl, rfl⟩))
      all_goals go_wp2
      all_goals go_roundw
      all_goals (try (simp only [intOf]; omega))
      all_goals go_light
      all_goals refine ⟨k + 1, by omega, by omega, by go_num, ?_, ?_, ?_⟩
      all_goals (first
        | exact ((hB.drew.setCell (by simp) _).drew.setCell (by simp) _)
        | exact ((hO.drew.far (by simp) _).drew.far (by simp) _)
        | (rw [hullTo_next]; exact ((hA.drew.put 0 _).drew.put 1 _)))
    · have : k = zs.length := by omega
      subst this
      go_wp2
      all_goals (try simp only [Exit.inBlock, Exit.then])
      all_goals refine ret_of ?_ rfl
      all_goals simp [results, Try.results44, go_sem, c1, c2, c3, c4]
      exact (hB.setCell (by simp) _).setCell (by simp) _

set_option maxHeartbeats 400000 in
theorem endsR_no (A : Option Addr) (n c : Nat) (w : World) :
    Calls Try.prog 44 #[.slice A n c, .bool false] w fun e w' => e = .returned (.agg #[.int .i64 Sp.all.lo, .int .i64 Sp.all.hi]) ∧ Below w.heap.size w w' := by
  go_enter Try.func44, Try.ntmps44
  go_wp2_with (go_at_call 15; refine (allR _).mono ?_; rintro e w1 ⟨rfl, hb1⟩; have hW := (Whl.new w 23 #[.int .i64 0, .int .i64 0]).below' hb1; have c1 : w1.cell? ⟨w.heap.size, 0, none⟩ = some (.int .i64 0) := hW.cell 0; have c2 : w1.cell? ⟨w.heap.size, 1, none⟩ = some (.int .i64 0) := hW.cell 1; have f1 := hW.frozen 0; have f2 := hW.frozen 1)
  all_goals (try simp only [Exit.inBlock, Exit.then])
  all_goals refine ret_of ?_ rfl
  all_goals simp [results, Try.results44, go_sem, c1, c2]
  exact ((((Below.refl _ _).alloc (Nat.le_refl _) _).trans (hb1.mono (by simp))).setCell (by simp) _).setCell (by simp) _
end Go.Proofs.Ytdoikgjdjdgnbaa

