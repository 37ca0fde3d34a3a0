/-
  Layer 16 (bounds): SpanP.
-/
import Derived.Test.YtddobhneplfddaaDoorV1
import Derived.BigRegion
namespace Go.Proofs.YtddobhneplfddaaDoor
set_option maxRecDepth 100000
open Go.RowKit
set_option linter.unusedSimpArgs false
set_option linter.unusedVariables false
attribute [local go_sem ↓] Go.wp_at_zero Go.wp_at_succ

set_option maxHeartbeats 4000000 in
theorem allP (w : World) : Calls Tryd.prog 58 #[] w fun e w' => e = .returned (.agg #[.int .i64 Sp.all.lo, .int .i64 Sp.all.hi]) ∧ Below w.heap.size w w' := by
  go_enter Tryd.func58, Tryd.ntmps58
  go_wp2
  all_goals (try simp only [Exit.inBlock, Exit.then])
  all_goals refine ret_of ?_ rfl
  all_goals simp [results, Tryd.results58, go_sem]
  all_goals refine ⟨?_, (by repeat (first | exact Below.refl _ _ | with_reducible apply Below.drew | refine Below.alloc ?_ (by simp <;> omega) _ | refine Below.setCell ?_ (by simp <;> omega) _))⟩
  all_goals go_light
  all_goals (first | (simp [Sp.all, Sp.least, Sp.greatest, *]; done) | (simp [Sp.all, Sp.least, Sp.greatest]; omega) | ((simp [Sp.all, Sp.least, Sp.greatest]; repeat' split) <;> (first | omega | (simp_all; done) | (simp_all; omega))))

set_option maxHeartbeats 4000000 in
theorem hasP (a : Sp) (n : Int) (w : World) : Calls Tryd.prog 90 #[.agg #[.int .i64 a.lo, .int .i64 a.hi], .int .i64 n] w fun e w' => e = .returned (.bool (a.has n)) ∧ Below w.heap.size w w' := by
  go_enter Tryd.func90, Tryd.ntmps90
  go_wp2
  all_goals go_ret
  all_goals refine ⟨?_, (by repeat (first | exact Below.refl _ _ | with_reducible apply Below.drew | refine Below.alloc ?_ (by simp <;> omega) _ | refine Below.setCell ?_ (by simp <;> omega) _))⟩
  all_goals go_light
  all_goals (first | (simp [Sp.has, *]; done) | (simp [Sp.has]; omega) | ((simp [Sp.has]; repeat' split) <;> (first | omega | (simp_all; done) | (simp_all; omega))))

set_option maxHeartbeats 4000000 in
theorem joinP (a b : Sp) (w : World) : Calls Tryd.prog 62 #[.agg #[.int .i64 a.lo, .int .i64 a.hi], .agg #[.int .i64 b.lo, .int .i64 b.hi]] w fun e w' => e = .returned (.agg #[.int .i64 (a.join b).lo, .int .i64 (a.join b).hi]) ∧ Below w.heap.size w w' := by
  go_enter Tryd.func62, Tryd.ntmps62
  go_wp2
  all_goals (try simp only [Exit.inBlock, Exit.then])
  all_goals refine ret_of ?_ rfl
  all_goals simp [results, Tryd.results62, go_sem]
  all_goals refine ⟨?_, (by repeat (first | exact Below.refl _ _ | with_reducible apply Below.drew | refine Below.alloc ?_ (by simp <;> omega) _ | refine Below.setCell ?_ (by simp <;> omega) _))⟩
  all_goals go_light
  all_goals (first | (simp [Sp.join, Sp.none, Sp.mn, Sp.mx, *]; done) | (simp [Sp.join, Sp.none, Sp.mn, Sp.mx]; omega) | ((simp [Sp.join, Sp.none, Sp.mn, Sp.mx]; repeat' split) <;> (first | omega | (simp_all; done) | (simp_all; omega))))

set_option maxHeartbeats 4000000 in
theorem meetP (a b : Sp) (w : World) : Calls Tryd.prog 54 #[.agg #[.int .i64 a.lo, .int .i64 a.hi], .agg #[.int .i64 b.lo, .int .i64 b.hi]] w fun e w' => e = .returned (.tuple #[.agg #[.int .i64 (a.meet b).lo, .int .i64 (a.meet b).hi], .bool (a.meetOk b)]) ∧ Below w.heap.size w w' := by
  go_enter Tryd.func54, Tryd.ntmps54
  go_wp2
  all_goals (try simp only [Exit.inBlock, Exit.then])
  all_goals refine ret_of ?_ rfl
  all_goals simp [results, Tryd.results54, go_sem]
  all_goals refine ⟨?_, (by repeat (first | exact Below.refl _ _ | with_reducible apply Below.drew | refine Below.alloc ?_ (by simp <;> omega) _ | refine Below.setCell ?_ (by simp <;> omega) _))⟩
  all_goals go_light
  all_goals (first | (simp [Sp.meet, Sp.meetOk, Sp.meetS, Sp.none, Sp.mn, Sp.mx, *]; done) | (simp [Sp.meet, Sp.meetOk, Sp.meetS, Sp.none, Sp.mn, Sp.mx]; omega) | ((simp [Sp.meet, Sp.meetOk, Sp.meetS, Sp.none, Sp.mn, Sp.mx]; repeat' split) <;> (first | omega | (simp_all; done) | (simp_all; omega))))

set_option maxHeartbeats 4000000 in
theorem truthP (y n : Bool) (w : World) : Calls Tryd.prog 89 #[.bool y, .bool n] w fun e w' => e = .returned (.agg #[.int .i64 (Sp.truth y n).lo, .int .i64 (Sp.truth y n).hi]) ∧ Below w.heap.size w w' := by
  go_enter Tryd.func89, Tryd.ntmps89
  go_wp2
  all_goals (try simp only [Exit.inBlock, Exit.then])
  all_goals refine ret_of ?_ rfl
  all_goals simp [results, Tryd.results89, go_sem]
  all_goals refine ⟨?_, (by repeat (first | exact Below.refl _ _ | with_reducible apply Below.drew | refine Below.alloc ?_ (by simp <;> omega) _ | refine Below.setCell ?_ (by simp <;> omega) _))⟩
  all_goals go_light
  all_goals (first | (simp [Sp.truth, *]; done) | (simp [Sp.truth]; omega) | ((simp [Sp.truth]; repeat' split) <;> (first | omega | (simp_all; done) | (simp_all; omega))))

set_option maxHeartbeats 4000000 in
theorem belowP1 (a b : Sp) (ha : a.Wf) (hb : b.Wf) (h1 : a.hi < a.lo) (w : World) : Calls Tryd.prog 59 #[.agg #[.int .i64 a.lo, .int .i64 a.hi], .agg #[.int .i64 b.lo, .int .i64 b.hi]] w fun e w' => e = .returned (.tuple #[.agg #[.int .i64 (a.belowA b).lo, .int .i64 (a.belowA b).hi], .agg #[.int .i64 (a.belowB b).lo, .int .i64 (a.belowB b).hi], .bool (a.belowOk b)]) ∧ Below w.heap.size w w' := by
  obtain ⟨⟨_, _⟩, _, _⟩ := ha
  obtain ⟨⟨_, _⟩, _, _⟩ := hb
  go_enter Tryd.func59, Tryd.ntmps59
  go_wp2
  all_goals (try simp only [Exit.inBlock, Exit.then])
  all_goals refine ret_of ?_ rfl
  all_goals simp [results, Tryd.results59, go_sem]
  all_goals refine ⟨?_, (by repeat (first | exact Below.refl _ _ | with_reducible apply Below.drew | refine Below.alloc ?_ (by simp <;> omega) _ | refine Below.setCell ?_ (by simp <;> omega) _))⟩
  all_goals go_light
  all_goals (first | (simp [Sp.belowA, Sp.belowB, Sp.belowOk, Sp.none, Sp.mn, Sp.mx, *]; done) | (simp [Sp.belowA, Sp.belowB, Sp.belowOk, Sp.none, Sp.mn, Sp.mx]; omega) | ((simp [Sp.belowA, Sp.belowB, Sp.belowOk, Sp.none, Sp.mn, Sp.mx]; repeat' split) <;> (first | omega | (simp_all; done) | (simp_all; omega))))

set_option maxHeartbeats 4000000 in
theorem belowP2 (a b : Sp) (ha : a.Wf) (hb : b.Wf) (h1 : a.lo ≤ a.hi) (h2 : b.hi < b.lo) (w : World) : Calls Tryd.prog 59 #[.agg #[.int .i64 a.lo, .int .i64 a.hi], .agg #[.int .i64 b.lo, .int .i64 b.hi]] w fun e w' => e = .returned (.tuple #[.agg #[.int .i64 (a.belowA b).lo, .int .i64 (a.belowA b).hi], .agg #[.int .i64 (a.belowB b).lo, .int .i64 (a.belowB b).hi], .bool (a.belowOk b)]) ∧ Below w.heap.size w w' := by
  obtain ⟨⟨_, _⟩, _, _⟩ := ha
  obtain ⟨⟨_, _⟩, _, _⟩ := hb
  go_enter Tryd.func59, Tryd.ntmps59
  go_wp2
  all_goals (try simp only [Exit.inBlock, Exit.then])
  all_goals refine ret_of ?_ rfl
  all_goals simp [results, Tryd.results59, go_sem]
  all_goals refine ⟨?_, (by repeat (first | exact Below.refl _ _ | with_reducible apply Below.drew | refine Below.alloc ?_ (by simp <;> omega) _ | refine Below.setCell ?_ (by simp <;> omega) _))⟩
  all_goals go_light
  all_goals (first | (simp [Sp.belowA, Sp.belowB, Sp.belowOk, Sp.none, Sp.mn, Sp.mx, *]; done) | (simp [Sp.belowA, Sp.belowB, Sp.belowOk, Sp.none, Sp.mn, Sp.mx]; omega) | ((simp [Sp.belowA, Sp.belowB, Sp.belowOk, Sp.none, Sp.mn, Sp.mx]; repeat' split) <;> (first | omega | (simp_all; done) | (simp_all; omega))))

set_option maxHeartbeats 4000000 in
theorem belowP3 (a b : Sp) (ha : a.Wf) (hb : b.Wf) (h1 : a.lo ≤ a.hi) (h2 : b.lo ≤ b.hi) (h3 : b.hi ≤ a.lo) (w : World) : Calls Tryd.prog 59 #[.agg #[.int .i64 a.lo, .int .i64 a.hi], .agg #[.int .i64 b.lo, .int .i64 b.hi]] w fun e w' => e = .returned (.tuple #[.agg #[.int .i64 (a.belowA b).lo, .int .i64 (a.belowA b).hi], .agg #[.int .i64 (a.belowB b).lo, .int .i64 (a.belowB b).hi], .bool (a.belowOk b)]) ∧ Below w.heap.size w w' := by
  obtain ⟨⟨_, _⟩, _, _⟩ := ha
  obtain ⟨⟨_, _⟩, _, _⟩ := hb
  go_enter Tryd.func59, Tryd.ntmps59
  go_wp2
  all_goals (try simp only [Exit.inBlock, Exit.then])
  all_goals refine ret_of ?_ rfl
  all_goals simp [results, Tryd.results59, go_sem]
  all_goals refine ⟨?_, (by repeat (first | exact Below.refl _ _ | with_reducible apply Below.drew | refine Below.alloc ?_ (by simp <;> omega) _ | refine Below.setCell ?_ (by simp <;> omega) _))⟩
  all_goals go_light
  all_goals (first | (simp [Sp.belowA, Sp.belowB, Sp.belowOk, Sp.none, Sp.mn, Sp.mx, *]; done) | (simp [Sp.belowA, Sp.belowB, Sp.belowOk, Sp.none, Sp.mn, Sp.mx]; omega) | ((simp [Sp.belowA, Sp.belowB, Sp.belowOk, Sp.none, Sp.mn, Sp.mx]; repeat' split) <;> (first | omega | (simp_all; done) | (simp_all; omega))))

set_option maxHeartbeats 4000000 in
theorem belowP4 (a b : Sp) (ha : a.Wf) (hb : b.Wf) (h1 : a.lo ≤ a.hi) (h2 : b.lo ≤ b.hi) (h3 : a.lo < b.hi) (w : World) : Calls Tryd.prog 59 #[.agg #[.int .i64 a.lo, .int .i64 a.hi], .agg #[.int .i64 b.lo, .int .i64 b.hi]] w fun e w' => e = .returned (.tuple #[.agg #[.int .i64 (a.belowA b).lo, .int .i64 (a.belowA b).hi], .agg #[.int .i64 (a.belowB b).lo, .int .i64 (a.belowB b).hi], .bool (a.belowOk b)]) ∧ Below w.heap.size w w' := by
  obtain ⟨⟨_, _⟩, _, _⟩ := ha
  obtain ⟨⟨_, _⟩, _, _⟩ := hb
  have e1 : IntKind.i64.wrap (b.hi - 1) = b.hi - 1 := IntWalk.i64_in _ (by omega)
  have e2 : IntKind.i64.wrap (a.lo + 1) = a.lo + 1 := IntWalk.i64_in _ (by omega)
  go_enter Tryd.func59, Tryd.ntmps59
  go_wp2
  go_region_held3 (fun w' => w'.cell? ⟨w.heap.size, 0, none⟩ = some (.int .i64 a.lo) ∧ w'.cell? ⟨w.heap.size, 1, none⟩ = some (.int .i64 a.hi) ∧ w'.cell? ⟨w.heap.size + 1, 0, none⟩ = some (.int .i64 b.lo) ∧ w'.cell? ⟨w.heap.size + 1, 1, none⟩ = some (.int .i64 b.hi)) (go_simp) (fail)
  go_wp2
  all_goals (try simp only [Exit.inBlock, Exit.then])
  all_goals refine ret_of ?_ rfl
  all_goals simp [results, Tryd.results59, go_sem]
  all_goals refine ⟨?_, (by repeat (first | exact Below.refl _ _ | with_reducible apply Below.drew | refine Below.alloc ?_ (by simp <;> omega) _ | refine Below.setCell ?_ (by simp <;> omega) _))⟩
  all_goals go_light
  all_goals (first | (simp [Sp.belowA, Sp.belowB, Sp.belowOk, Sp.none, Sp.mn, Sp.mx, *]; done) | (simp [Sp.belowA, Sp.belowB, Sp.belowOk, Sp.none, Sp.mn, Sp.mx]; omega) | ((simp [Sp.belowA, Sp.belowB, Sp.belowOk, Sp.none, Sp.mn, Sp.mx]; repeat' split) <;> (first | omega | (simp_all; done) | (simp_all; omega))))

theorem belowP (a b : Sp) (ha : a.Wf) (hb : b.Wf) (w : World) : Calls Tryd.prog 59 #[.agg #[.int .i64 a.lo, .int .i64 a.hi], .agg #[.int .i64 b.lo, .int .i64 b.hi]] w fun e w' => e = .returned (.tuple #[.agg #[.int .i64 (a.belowA b).lo, .int .i64 (a.belowA b).hi], .agg #[.int .i64 (a.belowB b).lo, .int .i64 (a.belowB b).hi], .bool (a.belowOk b)]) ∧ Below w.heap.size w w' := by
  by_cases h1 : a.hi < a.lo
  · exact belowP1 a b ha hb h1 w
  · by_cases h2 : b.hi < b.lo
    · exact belowP2 a b ha hb (by omega) h2 w
    · by_cases h3 : b.hi ≤ a.lo
      · exact belowP3 a b ha hb (by omega) (by omega) h3 w
      · exact belowP4 a b ha hb (by omega) (by omega) (by omega) w

end Go.Proofs.YtddobhneplfddaaDoor


/-
  Layer 8 (span): hull: a loop over the numbers; the hull of what has come so far stands in a box of the call's own.
-/
namespace Go.Proofs.YtddobhneplfddaaDoor
open Go.RowKit
set_option linter.unusedSimpArgs false
set_option linter.unusedVariables false
attribute [local go_sem ↓] Go.wp_at_zero Go.wp_at_succ


/-- What lies in memory while the hull is made. -/
structure HullMem (w : World) (zs : List Int) (k : Nat) (wr : World) : Prop where
  below : Below w.heap.size w wr
  out : Whl wr w.heap.size 34 #[.int .i64 0, .int .i64 0]
  acc : Whl wr (w.heap.size + 1) 34 #[.int .i64 (hullTo zs k).lo, .int .i64 (hullTo zs k).hi]

set_option maxHeartbeats 4000000 in
theorem hullP (b off c : Nat) (zs : List Int) (w : World) (hb : b < w.heap.size) (h0 : 0 < zs.length) (hm : zs.length ≤ 9223372036854775807)
    (hc : ∀ k, k < zs.length → w.cell? ⟨b, off + k, none⟩ = some (.int .i64 (nthI zs k))) :
    Calls Tryd.prog 84 #[.slice (some ⟨b, off, none⟩) zs.length c, .bool true] w fun e w' => e = .returned (.agg #[.int .i64 (hullTo zs zs.length).lo, .int .i64 (hullTo zs zs.length).hi]) ∧ Below w.heap.size w w' := by
  have hc0 : w.cell? ⟨b, off, none⟩ = some (.int .i64 (nthI zs 0)) := hc 0 h0
  have HC := Lib.hid hc; clear hc
  go_enter Tryd.func84, Tryd.ntmps84
  go_wp2
  go_region
  go_wp2
  go_loopw [20] (fun i wr => ∃ k : Nat, k ≤ zs.length ∧ i = .int .i64 k ∧ HullMem w zs k wr) (fun i wr => zs.length - (intOf i).toNat)
  case atStart =>
    refine ⟨0, Nat.zero_le _, rfl, ?_, ?_, ?_⟩
    · repeat (first | exact Below.refl _ _ | with_reducible apply Below.drew | refine Below.alloc ?_ (by simp <;> omega) _)
    · exact ((Whl.new _ _ _).alloc _).drew
    · have := Whl.new (w.alloc (.cells #[.int .i64 0, .int .i64 0] 34)) 34 #[.int .i64 (nthI zs 0), .int .i64 (nthI zs 0)]
      rw [World.size_alloc] at this
      exact this.drew
  case round =>
    obtain ⟨k, hk, rfl, hB, hO, hA⟩ := hrel
    have c1 : wr.cell? ⟨w.heap.size + 1, 0, none⟩ = some (.int .i64 (hullTo zs k).lo) := hA.cell 0
    have c2 : wr.cell? ⟨w.heap.size + 1, 1, none⟩ = some (.int .i64 (hullTo zs k).hi) := hA.cell 1
    have f1 := hA.frozen 0
    have f2 := hA.frozen 1
    have c3 : wr.cell? ⟨w.heap.size, 0, none⟩ = some (.int .i64 0) := hO.cell 0
    have c4 : wr.cell? ⟨w.heap.size, 1, none⟩ = some (.int .i64 0) := hO.cell 1
    have f3 := hO.frozen 0
    have f4 := hO.frozen 1
    have z1 := hA.lt
    by_cases hlt : k < zs.length
    · have hck : wr.cell? ⟨b, off + k, none⟩ = some (.int .i64 (nthI zs k)) := (hB.cell (p := ⟨b, off + k, none⟩) hb).trans (HC.out k hlt)
      go_wp2_with (go_at_call 62; refine (joinP (hullTo zs k) ⟨nthI zs k, nthI zs k⟩ _).mono ?_; rintro e w1 ⟨rfl, hb1⟩; obtain ⟨hcc, hff⟩ := bcell hb1; have hs1 := hb1.size)
      go_roundw
      case rel =>
        go_light
        refine ⟨k + 1, by omega, by go_num, ?_, ?_, ?_⟩
        · exact ((hB.trans (hb1.mono hB.size)).setCell (by simp) _).setCell (by simp) _
        · exact ((hO.below' hb1).far (by simp) _).far (by simp) _
        · exact ((hA.below' hb1).put 0 _).put 1 _
      case measure => simp [intOf]; omega
    · have : k = zs.length := by omega
      subst this
      go_wp2
      all_goals (try simp only [Exit.inBlock, Exit.then])
      all_goals refine ret_of ?_ rfl
      all_goals simp [results, Tryd.results84, go_sem, c1, c2, c3, c4]
      exact (hB.setCell (by simp) _).setCell (by simp) _

set_option maxHeartbeats 4000000 in
theorem hullP_no (A : Option Addr) (n c : Nat) (w : World) :
    Calls Tryd.prog 84 #[.slice A n c, .bool false] w fun e w' => e = .returned (.agg #[.int .i64 Sp.all.lo, .int .i64 Sp.all.hi]) ∧ Below w.heap.size w w' := by
  go_enter Tryd.func84, Tryd.ntmps84
  go_wp2_with (go_at_call 58; refine (allP _).mono ?_; rintro e w1 ⟨rfl, hb1⟩; have hW := (Whl.new w 34 #[.int .i64 0, .int .i64 0]).below' hb1; have c1 : w1.cell? ⟨w.heap.size, 0, none⟩ = some (.int .i64 0) := hW.cell 0; have c2 : w1.cell? ⟨w.heap.size, 1, none⟩ = some (.int .i64 0) := hW.cell 1; have f1 := hW.frozen 0; have f2 := hW.frozen 1)
  all_goals (try simp only [Exit.inBlock, Exit.then])
  all_goals refine ret_of ?_ rfl
  all_goals simp [results, Tryd.results84, go_sem, c1, c2]
  exact ((((Below.refl _ _).alloc (Nat.le_refl _) _).trans (hb1.mono (by simp))).setCell (by simp) _).setCell (by simp) _
end Go.Proofs.YtddobhneplfddaaDoor

/-
  Layer 8 (span): the walk of Widen: two loops over the thresholds.
-/
namespace Go.Proofs.YtddobhneplfddaaDoor
open Go.RowKit
set_option linter.unusedSimpArgs false
set_option linter.unusedVariables false

/-- What lies in memory while a span is widened: the two spans, the result's place, the join (block J) and what has been found so far (block O). -/
structure WidMem (w : World) (a b : Sp) (J O : Nat) (lo hi : Int) (wr : World) : Prop where
  below : Below w.heap.size w wr
  pa : Whl wr w.heap.size 34 #[.int .i64 a.lo, .int .i64 a.hi]
  pb : Whl wr (w.heap.size + 1) 34 #[.int .i64 b.lo, .int .i64 b.hi]
  po : Whl wr (w.heap.size + 1 + 1) 34 #[.int .i64 0, .int .i64 0]
  pj : Whl wr J 34 #[.int .i64 (Sp.mn a.lo b.lo), .int .i64 (Sp.mx a.hi b.hi)]
  pr : Whl wr O 34 #[.int .i64 lo, .int .i64 hi]
  far : w.heap.size + 1 + 1 < J ∧ J < O

theorem WidMem.put {w wr : World} {a b : Sp} {J O : Nat} {lo hi : Int} (h : WidMem w a b J O lo hi wr) (i : Nat) (u : Int) (lo' hi' : Int) (e : (#[.int .i64 lo, .int .i64 hi] : Array Value).setIfInBounds i (.int .i64 u) = #[.int .i64 lo', .int .i64 hi']) :
    WidMem w a b J O lo' hi' (wr.setCell ⟨O, i, none⟩ (.int .i64 u)) := by
  obtain ⟨h1, h2, h3, h4, h5, h6, h7, h8⟩ := h
  exact ⟨h1.setCell (by show _ ≤ O; omega) _, h2.far (by show _ ≠ O; omega) _, h3.far (by show _ ≠ O; omega) _, h4.far (by show _ ≠ O; omega) _, h5.far (by show _ ≠ O; omega) _, by have := h6.put i (.int .i64 u); rwa [e] at this, h7, h8⟩

set_option maxHeartbeats 4000000 in
theorem widenP_TT (a b : Sp) (A : Option Addr) (c : Nat) (ts : List Int) (w : World) (h1 : a.lo ≤ a.hi) (h2 : b.lo ≤ b.hi) (h3 : b.lo < a.lo) (h4 : a.hi < b.hi) (hm : ts.length ≤ 9223372036854775807) (ht : IntsAt w w.heap.size A ts) :
    Calls Tryd.prog 63 #[.agg #[.int .i64 a.lo, .int .i64 a.hi], .agg #[.int .i64 b.lo, .int .i64 b.hi], .slice A ts.length c] w fun e w' => e = .returned (.agg #[.int .i64 (wLo ts (Sp.mn a.lo b.lo) ts.length), .int .i64 (wHi ts (Sp.mx a.hi b.hi) ts.length)]) ∧ Below w.heap.size w w' := by
  have hj1 : (a.join b).lo = Sp.mn a.lo b.lo := join_lo h1 h2
  have hj2 : (a.join b).hi = Sp.mx a.hi b.hi := join_hi h1 h2
  have hj3 : Sp.mn a.lo b.lo < a.lo := by unfold Sp.mn; omega
  have hj4 : a.hi < Sp.mx a.hi b.hi := by unfold Sp.mx; omega
  have HT := Lib.hid ht; clear ht
  go_enter Tryd.func63, Tryd.ntmps63
  go_wp2_with (first | go_at_call 82; go_in | (
    go_at_call 62
    refine (joinP a b _).mono ?_
    rintro e w1 ⟨rfl, hb1⟩
    have hA := (((Whl.new w 34 #[.int .i64 a.lo, .int .i64 a.hi]).alloc (.cells #[.int .i64 b.lo, .int .i64 b.hi] 34)).alloc (.cells #[.int .i64 0, .int .i64 0] 34)).below' hb1
    have hB := ((Whl.new1 w (.cells #[.int .i64 a.lo, .int .i64 a.hi] 34) 34 #[.int .i64 b.lo, .int .i64 b.hi]).alloc (.cells #[.int .i64 0, .int .i64 0] 34)).below' hb1
    have hO := (Whl.new2 w (.cells #[.int .i64 a.lo, .int .i64 a.hi] 34) (.cells #[.int .i64 b.lo, .int .i64 b.hi] 34) 34 #[.int .i64 0, .int .i64 0]).below' hb1
    have c1 : w1.cell? ⟨w.heap.size, 0, none⟩ = some (.int .i64 a.lo) := hA.cell 0
    have c2 : w1.cell? ⟨w.heap.size, 1, none⟩ = some (.int .i64 a.hi) := hA.cell 1
    have c3 : w1.cell? ⟨w.heap.size + 1, 0, none⟩ = some (.int .i64 b.lo) := hB.cell 0
    have c4 : w1.cell? ⟨w.heap.size + 1, 1, none⟩ = some (.int .i64 b.hi) := hB.cell 1
    have c5 : w1.cell? ⟨w.heap.size + 1 + 1, 0, none⟩ = some (.int .i64 0) := hO.cell 0
    have c6 : w1.cell? ⟨w.heap.size + 1 + 1, 1, none⟩ = some (.int .i64 0) := hO.cell 1
    have f5 := hO.frozen 0
    have f6 := hO.frozen 1
    have z1 := hA.lt
    have z2 := hB.lt
    have z3 := hO.lt))
  go_loopw [32] (fun i wr => ∃ k : Nat, k ≤ ts.length ∧ i = .int .i64 k ∧ WidMem w a b w1.heap.size (w1.heap.size + 1 + 1 + 1) (wLo ts (Sp.mn a.lo b.lo) k) a.hi wr) (fun i _ => ts.length - (intOf i).toNat)
  case atStart =>
    refine ⟨0, Nat.zero_le _, rfl, ?_, ?_, ?_, ?_, ?_, ?_, ?_⟩
    · exact (((((((Below.refl _ _).alloc (Nat.le_refl _) _).alloc (by simp) _).alloc (by simp <;> omega) _).trans (hb1.mono (by simp <;> omega))).alloc (by omega) _).alloc (by simp; omega) _ |>.alloc (by simp; omega) _).alloc (by simp; omega) _
    · exact (((hA.alloc _).alloc _).alloc _).alloc _
    · exact (((hB.alloc _).alloc _).alloc _).alloc _
    · exact (((hO.alloc _).alloc _).alloc _).alloc _
    · exact (((Whl.new w1 34 _).alloc _).alloc _).alloc _
    · exact Whl.new3 w1 _ _ _ 34 _
    · exact ⟨by omega, by omega⟩
  case round =>
    obtain ⟨k, hk, rfl, hM⟩ := hrel
    have d1 : wr.cell? ⟨w1.heap.size, 0, none⟩ = some (.int .i64 (Sp.mn a.lo b.lo)) := hM.pj.cell 0
    have d2 : wr.cell? ⟨w1.heap.size, 1, none⟩ = some (.int .i64 (Sp.mx a.hi b.hi)) := hM.pj.cell 1
    have d3 : wr.cell? ⟨w1.heap.size + 1 + 1 + 1, 0, none⟩ = some (.int .i64 (wLo ts (Sp.mn a.lo b.lo) k)) := hM.pr.cell 0
    have d4 : wr.cell? ⟨w1.heap.size + 1 + 1 + 1, 1, none⟩ = some (.int .i64 a.hi) := hM.pr.cell 1
    have g3 := hM.pr.frozen 0
    have g4 := hM.pr.frozen 1
    have e1 : wr.cell? ⟨w.heap.size, 0, none⟩ = some (.int .i64 a.lo) := hM.pa.cell 0
    have e2 : wr.cell? ⟨w.heap.size, 1, none⟩ = some (.int .i64 a.hi) := hM.pa.cell 1
    have e3 : wr.cell? ⟨w.heap.size + 1 + 1, 0, none⟩ = some (.int .i64 0) := hM.po.cell 0
    have e4 : wr.cell? ⟨w.heap.size + 1 + 1, 1, none⟩ = some (.int .i64 0) := hM.po.cell 1
    have g5 := hM.po.frozen 0
    have g6 := hM.po.frozen 1
    by_cases hlt : k < ts.length
    · obtain ⟨bt, off, rfl, hbt, hct⟩ := HT.out (by omega)
      have hck : wr.cell? ⟨bt, off + k, none⟩ = some (.int .i64 (nthI ts k)) := (hM.below.cell (p := ⟨bt, off + k, none⟩) hbt).trans (hct k hlt)
      clear hct
      by_cases hle : nthI ts k ≤ Sp.mn a.lo b.lo
      · by_cases hx : nthI ts k ≤ wLo ts (Sp.mn a.lo b.lo) k
        all_goals
          go_wp2
          go_roundw
          case rel =>
            go_light
            refine ⟨k + 1, by omega, by go_num, hM.put 0 _ _ _ ?_⟩
            rw [wLo_yes hle]; simp [Sp.mx]; try (first | omega | (split <;> omega))
          case measure => simp [intOf]; omega
      · have hle' : Sp.mn a.lo b.lo < nthI ts k := by omega
        go_wp2
        go_roundw
        case rel =>
          go_light
          exact ⟨k + 1, by omega, by go_num, by rw [wLo_no hle']; exact hM⟩
        case measure => simp [intOf]; omega
    · have hkk : k = ts.length := by omega
      have HK := Lib.hid hkk; clear hkk
      go_wp2
      obtain ⟨wo, rfl⟩ : ∃ wo : World, wo = wr := ⟨_, rfl⟩
      go_loopw [54] (fun i wr => ∃ k2 : Nat, k2 ≤ ts.length ∧ i = .int .i64 k2 ∧ WidMem w a b w1.heap.size (w1.heap.size + 1 + 1 + 1) (wLo ts (Sp.mn a.lo b.lo) ts.length) (wHi ts (Sp.mx a.hi b.hi) k2) wr) (fun i _ => ts.length - (intOf i).toNat)
      case atStart =>
        obtain rfl := HK.out; exact ⟨0, Nat.zero_le _, rfl, hM.put 1 _ _ _ (by simp [wHi, Sp.greatest])⟩
      case round =>
        obtain ⟨k2, hk2, rfl, hM2⟩ := hrel
        have d1 : wr.cell? ⟨w1.heap.size, 0, none⟩ = some (.int .i64 (Sp.mn a.lo b.lo)) := hM2.pj.cell 0
        have d2 : wr.cell? ⟨w1.heap.size, 1, none⟩ = some (.int .i64 (Sp.mx a.hi b.hi)) := hM2.pj.cell 1
        have d3 : wr.cell? ⟨w1.heap.size + 1 + 1 + 1, 0, none⟩ = some (.int .i64 (wLo ts (Sp.mn a.lo b.lo) ts.length)) := hM2.pr.cell 0
        have d4 : wr.cell? ⟨w1.heap.size + 1 + 1 + 1, 1, none⟩ = some (.int .i64 (wHi ts (Sp.mx a.hi b.hi) k2)) := hM2.pr.cell 1
        have g3 := hM2.pr.frozen 0
        have g4 := hM2.pr.frozen 1
        have e1 : wr.cell? ⟨w.heap.size, 0, none⟩ = some (.int .i64 a.lo) := hM2.pa.cell 0
        have e2 : wr.cell? ⟨w.heap.size, 1, none⟩ = some (.int .i64 a.hi) := hM2.pa.cell 1
        have e3 : wr.cell? ⟨w.heap.size + 1 + 1, 0, none⟩ = some (.int .i64 0) := hM2.po.cell 0
        have e4 : wr.cell? ⟨w.heap.size + 1 + 1, 1, none⟩ = some (.int .i64 0) := hM2.po.cell 1
        have g5 := hM2.po.frozen 0
        have g6 := hM2.po.frozen 1
        by_cases hlt2 : k2 < ts.length
        · obtain ⟨bt2, off2, rfl, hbt2, hct2⟩ := HT.out (by omega)
          have hck2 : wr.cell? ⟨bt2, off2 + k2, none⟩ = some (.int .i64 (nthI ts k2)) := (hM2.below.cell (p := ⟨bt2, off2 + k2, none⟩) hbt2).trans (hct2 k2 hlt2)
          clear hct2
          by_cases hle2 : Sp.mx a.hi b.hi ≤ nthI ts k2
          · by_cases hx2 : wHi ts (Sp.mx a.hi b.hi) k2 ≤ nthI ts k2
            all_goals
              go_wp2
              go_roundw
              case rel =>
                go_light
                refine ⟨k2 + 1, by omega, by go_num, hM2.put 1 _ _ _ ?_⟩
                rw [wHi_yes hle2]; simp [Sp.mn]; try (first | omega | (split <;> omega))
              case measure => simp [intOf]; omega
          · have hle2' : nthI ts k2 < Sp.mx a.hi b.hi := by omega
            go_wp2
            go_roundw
            case rel =>
              go_light
              exact ⟨k2 + 1, by omega, by go_num, by rw [wHi_no hle2']; exact hM2⟩
            case measure => simp [intOf]; omega
        · have hkk2 : k2 = ts.length := by omega
          have HK2 := Lib.hid hkk2; clear hkk2
          go_wp2
          all_goals (try simp only [Exit.inBlock, Exit.then])
          all_goals refine ret_of ?_ rfl
          all_goals simp [results, Tryd.results63, go_sem, e3, e4, c5, c6]
          all_goals go_light
          exact ⟨by rw [HK2.out], (hM2.below.setCell (by dsimp only; omega) _).setCell (by dsimp only; omega) _⟩

set_option maxHeartbeats 4000000 in
theorem widenP_TF (a b : Sp) (A : Option Addr) (c : Nat) (ts : List Int) (w : World) (h1 : a.lo ≤ a.hi) (h2 : b.lo ≤ b.hi) (h3 : b.lo < a.lo) (h4 : b.hi ≤ a.hi) (hm : ts.length ≤ 9223372036854775807) (ht : IntsAt w w.heap.size A ts) :
    Calls Tryd.prog 63 #[.agg #[.int .i64 a.lo, .int .i64 a.hi], .agg #[.int .i64 b.lo, .int .i64 b.hi], .slice A ts.length c] w fun e w' => e = .returned (.agg #[.int .i64 (wLo ts (Sp.mn a.lo b.lo) ts.length), .int .i64 a.hi]) ∧ Below w.heap.size w w' := by
  have hj1 : (a.join b).lo = Sp.mn a.lo b.lo := join_lo h1 h2
  have hj2 : (a.join b).hi = Sp.mx a.hi b.hi := join_hi h1 h2
  have hj3 : Sp.mn a.lo b.lo < a.lo := by unfold Sp.mn; omega
  have hj4 : Sp.mx a.hi b.hi ≤ a.hi := by unfold Sp.mx; omega
  have HT := Lib.hid ht; clear ht
  go_enter Tryd.func63, Tryd.ntmps63
  go_wp2_with (first | go_at_call 82; go_in | (
    go_at_call 62
    refine (joinP a b _).mono ?_
    rintro e w1 ⟨rfl, hb1⟩
    have hA := (((Whl.new w 34 #[.int .i64 a.lo, .int .i64 a.hi]).alloc (.cells #[.int .i64 b.lo, .int .i64 b.hi] 34)).alloc (.cells #[.int .i64 0, .int .i64 0] 34)).below' hb1
    have hB := ((Whl.new1 w (.cells #[.int .i64 a.lo, .int .i64 a.hi] 34) 34 #[.int .i64 b.lo, .int .i64 b.hi]).alloc (.cells #[.int .i64 0, .int .i64 0] 34)).below' hb1
    have hO := (Whl.new2 w (.cells #[.int .i64 a.lo, .int .i64 a.hi] 34) (.cells #[.int .i64 b.lo, .int .i64 b.hi] 34) 34 #[.int .i64 0, .int .i64 0]).below' hb1
    have c1 : w1.cell? ⟨w.heap.size, 0, none⟩ = some (.int .i64 a.lo) := hA.cell 0
    have c2 : w1.cell? ⟨w.heap.size, 1, none⟩ = some (.int .i64 a.hi) := hA.cell 1
    have c3 : w1.cell? ⟨w.heap.size + 1, 0, none⟩ = some (.int .i64 b.lo) := hB.cell 0
    have c4 : w1.cell? ⟨w.heap.size + 1, 1, none⟩ = some (.int .i64 b.hi) := hB.cell 1
    have c5 : w1.cell? ⟨w.heap.size + 1 + 1, 0, none⟩ = some (.int .i64 0) := hO.cell 0
    have c6 : w1.cell? ⟨w.heap.size + 1 + 1, 1, none⟩ = some (.int .i64 0) := hO.cell 1
    have f5 := hO.frozen 0
    have f6 := hO.frozen 1
    have z1 := hA.lt
    have z2 := hB.lt
    have z3 := hO.lt))
  go_loopw [32] (fun i wr => ∃ k : Nat, k ≤ ts.length ∧ i = .int .i64 k ∧ WidMem w a b w1.heap.size (w1.heap.size + 1 + 1 + 1) (wLo ts (Sp.mn a.lo b.lo) k) a.hi wr) (fun i _ => ts.length - (intOf i).toNat)
  case atStart =>
    refine ⟨0, Nat.zero_le _, rfl, ?_, ?_, ?_, ?_, ?_, ?_, ?_⟩
    · exact (((((((Below.refl _ _).alloc (Nat.le_refl _) _).alloc (by simp) _).alloc (by simp <;> omega) _).trans (hb1.mono (by simp <;> omega))).alloc (by omega) _).alloc (by simp; omega) _ |>.alloc (by simp; omega) _).alloc (by simp; omega) _
    · exact (((hA.alloc _).alloc _).alloc _).alloc _
    · exact (((hB.alloc _).alloc _).alloc _).alloc _
    · exact (((hO.alloc _).alloc _).alloc _).alloc _
    · exact (((Whl.new w1 34 _).alloc _).alloc _).alloc _
    · exact Whl.new3 w1 _ _ _ 34 _
    · exact ⟨by omega, by omega⟩
  case round =>
    obtain ⟨k, hk, rfl, hM⟩ := hrel
    have d1 : wr.cell? ⟨w1.heap.size, 0, none⟩ = some (.int .i64 (Sp.mn a.lo b.lo)) := hM.pj.cell 0
    have d2 : wr.cell? ⟨w1.heap.size, 1, none⟩ = some (.int .i64 (Sp.mx a.hi b.hi)) := hM.pj.cell 1
    have d3 : wr.cell? ⟨w1.heap.size + 1 + 1 + 1, 0, none⟩ = some (.int .i64 (wLo ts (Sp.mn a.lo b.lo) k)) := hM.pr.cell 0
    have d4 : wr.cell? ⟨w1.heap.size + 1 + 1 + 1, 1, none⟩ = some (.int .i64 a.hi) := hM.pr.cell 1
    have g3 := hM.pr.frozen 0
    have g4 := hM.pr.frozen 1
    have e1 : wr.cell? ⟨w.heap.size, 0, none⟩ = some (.int .i64 a.lo) := hM.pa.cell 0
    have e2 : wr.cell? ⟨w.heap.size, 1, none⟩ = some (.int .i64 a.hi) := hM.pa.cell 1
    have e3 : wr.cell? ⟨w.heap.size + 1 + 1, 0, none⟩ = some (.int .i64 0) := hM.po.cell 0
    have e4 : wr.cell? ⟨w.heap.size + 1 + 1, 1, none⟩ = some (.int .i64 0) := hM.po.cell 1
    have g5 := hM.po.frozen 0
    have g6 := hM.po.frozen 1
    by_cases hlt : k < ts.length
    · obtain ⟨bt, off, rfl, hbt, hct⟩ := HT.out (by omega)
      have hck : wr.cell? ⟨bt, off + k, none⟩ = some (.int .i64 (nthI ts k)) := (hM.below.cell (p := ⟨bt, off + k, none⟩) hbt).trans (hct k hlt)
      clear hct
      by_cases hle : nthI ts k ≤ Sp.mn a.lo b.lo
      · by_cases hx : nthI ts k ≤ wLo ts (Sp.mn a.lo b.lo) k
        all_goals
          go_wp2
          go_roundw
          case rel =>
            go_light
            refine ⟨k + 1, by omega, by go_num, hM.put 0 _ _ _ ?_⟩
            rw [wLo_yes hle]; simp [Sp.mx]; try (first | omega | (split <;> omega))
          case measure => simp [intOf]; omega
      · have hle' : Sp.mn a.lo b.lo < nthI ts k := by omega
        go_wp2
        go_roundw
        case rel =>
          go_light
          exact ⟨k + 1, by omega, by go_num, by rw [wLo_no hle']; exact hM⟩
        case measure => simp [intOf]; omega
    · have hkk : k = ts.length := by omega
      have HK := Lib.hid hkk; clear hkk
      go_wp2
      all_goals (try simp only [Exit.inBlock, Exit.then])
      all_goals refine ret_of ?_ rfl
      all_goals simp [results, Tryd.results63, go_sem, e3, e4, c5, c6]
      all_goals go_light
      exact ⟨by rw [HK.out], (hM.below.setCell (by dsimp only; omega) _).setCell (by dsimp only; omega) _⟩

set_option maxHeartbeats 4000000 in
theorem widenP_FT (a b : Sp) (A : Option Addr) (c : Nat) (ts : List Int) (w : World) (h1 : a.lo ≤ a.hi) (h2 : b.lo ≤ b.hi) (h3 : a.lo ≤ b.lo) (h4 : a.hi < b.hi) (hm : ts.length ≤ 9223372036854775807) (ht : IntsAt w w.heap.size A ts) :
    Calls Tryd.prog 63 #[.agg #[.int .i64 a.lo, .int .i64 a.hi], .agg #[.int .i64 b.lo, .int .i64 b.hi], .slice A ts.length c] w fun e w' => e = .returned (.agg #[.int .i64 a.lo, .int .i64 (wHi ts (Sp.mx a.hi b.hi) ts.length)]) ∧ Below w.heap.size w w' := by
  have hj1 : (a.join b).lo = Sp.mn a.lo b.lo := join_lo h1 h2
  have hj2 : (a.join b).hi = Sp.mx a.hi b.hi := join_hi h1 h2
  have hj3 : a.lo ≤ Sp.mn a.lo b.lo := by unfold Sp.mn; omega
  have hj4 : a.hi < Sp.mx a.hi b.hi := by unfold Sp.mx; omega
  have HT := Lib.hid ht; clear ht
  go_enter Tryd.func63, Tryd.ntmps63
  go_wp2_with (first | go_at_call 82; go_in | (
    go_at_call 62
    refine (joinP a b _).mono ?_
    rintro e w1 ⟨rfl, hb1⟩
    have hA := (((Whl.new w 34 #[.int .i64 a.lo, .int .i64 a.hi]).alloc (.cells #[.int .i64 b.lo, .int .i64 b.hi] 34)).alloc (.cells #[.int .i64 0, .int .i64 0] 34)).below' hb1
    have hB := ((Whl.new1 w (.cells #[.int .i64 a.lo, .int .i64 a.hi] 34) 34 #[.int .i64 b.lo, .int .i64 b.hi]).alloc (.cells #[.int .i64 0, .int .i64 0] 34)).below' hb1
    have hO := (Whl.new2 w (.cells #[.int .i64 a.lo, .int .i64 a.hi] 34) (.cells #[.int .i64 b.lo, .int .i64 b.hi] 34) 34 #[.int .i64 0, .int .i64 0]).below' hb1
    have c1 : w1.cell? ⟨w.heap.size, 0, none⟩ = some (.int .i64 a.lo) := hA.cell 0
    have c2 : w1.cell? ⟨w.heap.size, 1, none⟩ = some (.int .i64 a.hi) := hA.cell 1
    have c3 : w1.cell? ⟨w.heap.size + 1, 0, none⟩ = some (.int .i64 b.lo) := hB.cell 0
    have c4 : w1.cell? ⟨w.heap.size + 1, 1, none⟩ = some (.int .i64 b.hi) := hB.cell 1
    have c5 : w1.cell? ⟨w.heap.size + 1 + 1, 0, none⟩ = some (.int .i64 0) := hO.cell 0
    have c6 : w1.cell? ⟨w.heap.size + 1 + 1, 1, none⟩ = some (.int .i64 0) := hO.cell 1
    have f5 := hO.frozen 0
    have f6 := hO.frozen 1
    have z1 := hA.lt
    have z2 := hB.lt
    have z3 := hO.lt))
  go_loopw [54] (fun i wr => ∃ k : Nat, k ≤ ts.length ∧ i = .int .i64 k ∧ WidMem w a b w1.heap.size (w1.heap.size + 1 + 1 + 1) a.lo (wHi ts (Sp.mx a.hi b.hi) k) wr) (fun i _ => ts.length - (intOf i).toNat)
  case atStart =>
    refine ⟨0, Nat.zero_le _, rfl, ?_, ?_, ?_, ?_, ?_, ?_, ?_⟩
    · exact (((((((Below.refl _ _).alloc (Nat.le_refl _) _).alloc (by simp) _).alloc (by simp <;> omega) _).trans (hb1.mono (by simp <;> omega))).alloc (by omega) _).alloc (by simp; omega) _ |>.alloc (by simp; omega) _).alloc (by simp; omega) _
    · exact (((hA.alloc _).alloc _).alloc _).alloc _
    · exact (((hB.alloc _).alloc _).alloc _).alloc _
    · exact (((hO.alloc _).alloc _).alloc _).alloc _
    · exact (((Whl.new w1 34 _).alloc _).alloc _).alloc _
    · exact Whl.new3 w1 _ _ _ 34 _
    · exact ⟨by omega, by omega⟩
  case round =>
    obtain ⟨k, hk, rfl, hM⟩ := hrel
    have d1 : wr.cell? ⟨w1.heap.size, 0, none⟩ = some (.int .i64 (Sp.mn a.lo b.lo)) := hM.pj.cell 0
    have d2 : wr.cell? ⟨w1.heap.size, 1, none⟩ = some (.int .i64 (Sp.mx a.hi b.hi)) := hM.pj.cell 1
    have d3 : wr.cell? ⟨w1.heap.size + 1 + 1 + 1, 0, none⟩ = some (.int .i64 a.lo) := hM.pr.cell 0
    have d4 : wr.cell? ⟨w1.heap.size + 1 + 1 + 1, 1, none⟩ = some (.int .i64 (wHi ts (Sp.mx a.hi b.hi) k)) := hM.pr.cell 1
    have g3 := hM.pr.frozen 0
    have g4 := hM.pr.frozen 1
    have e1 : wr.cell? ⟨w.heap.size, 0, none⟩ = some (.int .i64 a.lo) := hM.pa.cell 0
    have e2 : wr.cell? ⟨w.heap.size, 1, none⟩ = some (.int .i64 a.hi) := hM.pa.cell 1
    have e3 : wr.cell? ⟨w.heap.size + 1 + 1, 0, none⟩ = some (.int .i64 0) := hM.po.cell 0
    have e4 : wr.cell? ⟨w.heap.size + 1 + 1, 1, none⟩ = some (.int .i64 0) := hM.po.cell 1
    have g5 := hM.po.frozen 0
    have g6 := hM.po.frozen 1
    by_cases hlt : k < ts.length
    · obtain ⟨bt, off, rfl, hbt, hct⟩ := HT.out (by omega)
      have hck : wr.cell? ⟨bt, off + k, none⟩ = some (.int .i64 (nthI ts k)) := (hM.below.cell (p := ⟨bt, off + k, none⟩) hbt).trans (hct k hlt)
      clear hct
      by_cases hle : Sp.mx a.hi b.hi ≤ nthI ts k
      · by_cases hx : wHi ts (Sp.mx a.hi b.hi) k ≤ nthI ts k
        all_goals
          go_wp2
          go_roundw
          case rel =>
            go_light
            refine ⟨k + 1, by omega, by go_num, hM.put 1 _ _ _ ?_⟩
            rw [wHi_yes hle]; simp [Sp.mn]; try (first | omega | (split <;> omega))
          case measure => simp [intOf]; omega
      · have hle' : nthI ts k < Sp.mx a.hi b.hi := by omega
        go_wp2
        go_roundw
        case rel =>
          go_light
          exact ⟨k + 1, by omega, by go_num, by rw [wHi_no hle']; exact hM⟩
        case measure => simp [intOf]; omega
    · have hkk : k = ts.length := by omega
      have HK := Lib.hid hkk; clear hkk
      go_wp2
      all_goals (try simp only [Exit.inBlock, Exit.then])
      all_goals refine ret_of ?_ rfl
      all_goals simp [results, Tryd.results63, go_sem, e3, e4, c5, c6]
      all_goals go_light
      exact ⟨by rw [HK.out], (hM.below.setCell (by dsimp only; omega) _).setCell (by dsimp only; omega) _⟩

set_option maxHeartbeats 4000000 in
theorem widenP_FF (a b : Sp) (A : Option Addr) (c : Nat) (ts : List Int) (w : World) (h1 : a.lo ≤ a.hi) (h2 : b.lo ≤ b.hi) (h3 : a.lo ≤ b.lo) (h4 : b.hi ≤ a.hi) (hm : ts.length ≤ 9223372036854775807) (ht : IntsAt w w.heap.size A ts) :
    Calls Tryd.prog 63 #[.agg #[.int .i64 a.lo, .int .i64 a.hi], .agg #[.int .i64 b.lo, .int .i64 b.hi], .slice A ts.length c] w fun e w' => e = .returned (.agg #[.int .i64 a.lo, .int .i64 a.hi]) ∧ Below w.heap.size w w' := by
  have hj1 : (a.join b).lo = Sp.mn a.lo b.lo := join_lo h1 h2
  have hj2 : (a.join b).hi = Sp.mx a.hi b.hi := join_hi h1 h2
  have hj3 : a.lo ≤ Sp.mn a.lo b.lo := by unfold Sp.mn; omega
  have hj4 : Sp.mx a.hi b.hi ≤ a.hi := by unfold Sp.mx; omega
  have HT := Lib.hid ht; clear ht
  go_enter Tryd.func63, Tryd.ntmps63
  go_wp2_with (first | go_at_call 82; go_in | (
    go_at_call 62
    refine (joinP a b _).mono ?_
    rintro e w1 ⟨rfl, hb1⟩
    have hA := (((Whl.new w 34 #[.int .i64 a.lo, .int .i64 a.hi]).alloc (.cells #[.int .i64 b.lo, .int .i64 b.hi] 34)).alloc (.cells #[.int .i64 0, .int .i64 0] 34)).below' hb1
    have hB := ((Whl.new1 w (.cells #[.int .i64 a.lo, .int .i64 a.hi] 34) 34 #[.int .i64 b.lo, .int .i64 b.hi]).alloc (.cells #[.int .i64 0, .int .i64 0] 34)).below' hb1
    have hO := (Whl.new2 w (.cells #[.int .i64 a.lo, .int .i64 a.hi] 34) (.cells #[.int .i64 b.lo, .int .i64 b.hi] 34) 34 #[.int .i64 0, .int .i64 0]).below' hb1
    have c1 : w1.cell? ⟨w.heap.size, 0, none⟩ = some (.int .i64 a.lo) := hA.cell 0
    have c2 : w1.cell? ⟨w.heap.size, 1, none⟩ = some (.int .i64 a.hi) := hA.cell 1
    have c3 : w1.cell? ⟨w.heap.size + 1, 0, none⟩ = some (.int .i64 b.lo) := hB.cell 0
    have c4 : w1.cell? ⟨w.heap.size + 1, 1, none⟩ = some (.int .i64 b.hi) := hB.cell 1
    have c5 : w1.cell? ⟨w.heap.size + 1 + 1, 0, none⟩ = some (.int .i64 0) := hO.cell 0
    have c6 : w1.cell? ⟨w.heap.size + 1 + 1, 1, none⟩ = some (.int .i64 0) := hO.cell 1
    have f5 := hO.frozen 0
    have f6 := hO.frozen 1
    have z1 := hA.lt
    have z2 := hB.lt
    have z3 := hO.lt))
  all_goals (try simp only [Exit.inBlock, Exit.then])
  all_goals refine ret_of ?_ rfl
  all_goals simp [results, Tryd.results63, go_sem, c5, c6, *]
  all_goals go_light
  have hch := (((Below.refl w.heap.size w).alloc (Nat.le_refl _) (.cells #[.int .i64 a.lo, .int .i64 a.hi] 34)).alloc (by simp) (.cells #[.int .i64 b.lo, .int .i64 b.hi] 34)).alloc (by simp; omega) (.cells #[.int .i64 0, .int .i64 0] 34)
  have hch2 := hch.trans (hb1.mono (by simp; omega))
  repeat (first | exact hch2 | refine Below.setCell ?_ (by dsimp only; omega) _ | refine Below.alloc ?_ (by simp <;> omega) _)

set_option maxHeartbeats 4000000 in
theorem widenP_N1 (a b : Sp) (A : Option Addr) (c : Nat) (ts : List Int) (w : World) (h1 : a.hi < a.lo) (hm : ts.length ≤ 9223372036854775807) (ht : IntsAt w w.heap.size A ts) :
    Calls Tryd.prog 63 #[.agg #[.int .i64 a.lo, .int .i64 a.hi], .agg #[.int .i64 b.lo, .int .i64 b.hi], .slice A ts.length c] w fun e w' => e = .returned (.agg #[.int .i64 b.lo, .int .i64 b.hi]) ∧ Below w.heap.size w w' := by
  have hj1 : (a.join b).lo = b.lo := by simp [Sp.join, Sp.none, h1]
  have hj2 : (a.join b).hi = b.hi := by simp [Sp.join, Sp.none, h1]
  have HT := Lib.hid ht; clear ht
  go_enter Tryd.func63, Tryd.ntmps63
  go_wp2_with (first | go_at_call 82; go_in | (
    go_at_call 62
    refine (joinP a b _).mono ?_
    rintro e w1 ⟨rfl, hb1⟩
    have hA := (((Whl.new w 34 #[.int .i64 a.lo, .int .i64 a.hi]).alloc (.cells #[.int .i64 b.lo, .int .i64 b.hi] 34)).alloc (.cells #[.int .i64 0, .int .i64 0] 34)).below' hb1
    have hB := ((Whl.new1 w (.cells #[.int .i64 a.lo, .int .i64 a.hi] 34) 34 #[.int .i64 b.lo, .int .i64 b.hi]).alloc (.cells #[.int .i64 0, .int .i64 0] 34)).below' hb1
    have hO := (Whl.new2 w (.cells #[.int .i64 a.lo, .int .i64 a.hi] 34) (.cells #[.int .i64 b.lo, .int .i64 b.hi] 34) 34 #[.int .i64 0, .int .i64 0]).below' hb1
    have c1 : w1.cell? ⟨w.heap.size, 0, none⟩ = some (.int .i64 a.lo) := hA.cell 0
    have c2 : w1.cell? ⟨w.heap.size, 1, none⟩ = some (.int .i64 a.hi) := hA.cell 1
    have c3 : w1.cell? ⟨w.heap.size + 1, 0, none⟩ = some (.int .i64 b.lo) := hB.cell 0
    have c4 : w1.cell? ⟨w.heap.size + 1, 1, none⟩ = some (.int .i64 b.hi) := hB.cell 1
    have c5 : w1.cell? ⟨w.heap.size + 1 + 1, 0, none⟩ = some (.int .i64 0) := hO.cell 0
    have c6 : w1.cell? ⟨w.heap.size + 1 + 1, 1, none⟩ = some (.int .i64 0) := hO.cell 1
    have f5 := hO.frozen 0
    have f6 := hO.frozen 1
    have z1 := hA.lt
    have z2 := hB.lt
    have z3 := hO.lt))
  all_goals (try simp only [Exit.inBlock, Exit.then])
  all_goals refine ret_of ?_ rfl
  all_goals simp [results, Tryd.results63, go_sem, c5, c6, *]
  all_goals go_light
  have hch := (((Below.refl w.heap.size w).alloc (Nat.le_refl _) (.cells #[.int .i64 a.lo, .int .i64 a.hi] 34)).alloc (by simp) (.cells #[.int .i64 b.lo, .int .i64 b.hi] 34)).alloc (by simp; omega) (.cells #[.int .i64 0, .int .i64 0] 34)
  have hch2 := hch.trans (hb1.mono (by simp; omega))
  repeat (first | exact hch2 | refine Below.setCell ?_ (by dsimp only; omega) _ | refine Below.alloc ?_ (by simp <;> omega) _)

set_option maxHeartbeats 4000000 in
theorem widenP_N2 (a b : Sp) (A : Option Addr) (c : Nat) (ts : List Int) (w : World) (h1 : a.lo ≤ a.hi) (h2 : b.hi < b.lo) (hm : ts.length ≤ 9223372036854775807) (ht : IntsAt w w.heap.size A ts) :
    Calls Tryd.prog 63 #[.agg #[.int .i64 a.lo, .int .i64 a.hi], .agg #[.int .i64 b.lo, .int .i64 b.hi], .slice A ts.length c] w fun e w' => e = .returned (.agg #[.int .i64 a.lo, .int .i64 a.hi]) ∧ Below w.heap.size w w' := by
  have hj1 : (a.join b).lo = a.lo := by simp [Sp.join, Sp.none, Int.not_lt.2 h1, h2]
  have hj2 : (a.join b).hi = a.hi := by simp [Sp.join, Sp.none, Int.not_lt.2 h1, h2]
  have HT := Lib.hid ht; clear ht
  go_enter Tryd.func63, Tryd.ntmps63
  go_wp2_with (first | go_at_call 82; go_in | (
    go_at_call 62
    refine (joinP a b _).mono ?_
    rintro e w1 ⟨rfl, hb1⟩
    have hA := (((Whl.new w 34 #[.int .i64 a.lo, .int .i64 a.hi]).alloc (.cells #[.int .i64 b.lo, .int .i64 b.hi] 34)).alloc (.cells #[.int .i64 0, .int .i64 0] 34)).below' hb1
    have hB := ((Whl.new1 w (.cells #[.int .i64 a.lo, .int .i64 a.hi] 34) 34 #[.int .i64 b.lo, .int .i64 b.hi]).alloc (.cells #[.int .i64 0, .int .i64 0] 34)).below' hb1
    have hO := (Whl.new2 w (.cells #[.int .i64 a.lo, .int .i64 a.hi] 34) (.cells #[.int .i64 b.lo, .int .i64 b.hi] 34) 34 #[.int .i64 0, .int .i64 0]).below' hb1
    have c1 : w1.cell? ⟨w.heap.size, 0, none⟩ = some (.int .i64 a.lo) := hA.cell 0
    have c2 : w1.cell? ⟨w.heap.size, 1, none⟩ = some (.int .i64 a.hi) := hA.cell 1
    have c3 : w1.cell? ⟨w.heap.size + 1, 0, none⟩ = some (.int .i64 b.lo) := hB.cell 0
    have c4 : w1.cell? ⟨w.heap.size + 1, 1, none⟩ = some (.int .i64 b.hi) := hB.cell 1
    have c5 : w1.cell? ⟨w.heap.size + 1 + 1, 0, none⟩ = some (.int .i64 0) := hO.cell 0
    have c6 : w1.cell? ⟨w.heap.size + 1 + 1, 1, none⟩ = some (.int .i64 0) := hO.cell 1
    have f5 := hO.frozen 0
    have f6 := hO.frozen 1
    have z1 := hA.lt
    have z2 := hB.lt
    have z3 := hO.lt))
  all_goals (try simp only [Exit.inBlock, Exit.then])
  all_goals refine ret_of ?_ rfl
  all_goals simp [results, Tryd.results63, go_sem, c5, c6, *]
  all_goals go_light
  have hch := (((Below.refl w.heap.size w).alloc (Nat.le_refl _) (.cells #[.int .i64 a.lo, .int .i64 a.hi] 34)).alloc (by simp) (.cells #[.int .i64 b.lo, .int .i64 b.hi] 34)).alloc (by simp; omega) (.cells #[.int .i64 0, .int .i64 0] 34)
  have hch2 := hch.trans (hb1.mono (by simp; omega))
  repeat (first | exact hch2 | refine Below.setCell ?_ (by dsimp only; omega) _ | refine Below.alloc ?_ (by simp <;> omega) _)

/-- Widen, of all spans. -/
theorem widenP (a b : Sp) (A : Option Addr) (c : Nat) (ts : List Int) (w : World) (hm : ts.length ≤ 9223372036854775807) (ht : IntsAt w w.heap.size A ts) :
    Calls Tryd.prog 63 #[.agg #[.int .i64 a.lo, .int .i64 a.hi], .agg #[.int .i64 b.lo, .int .i64 b.hi], .slice A ts.length c] w fun e w' => e = .returned (.agg #[.int .i64 (widen a b ts).lo, .int .i64 (widen a b ts).hi]) ∧ Below w.heap.size w w' := by
  by_cases h1 : a.hi < a.lo
  · have e : widen a b ts = b := by simp [widen, Sp.none, h1]
    rw [e]; exact widenP_N1 a b A c ts w h1 hm ht
  · by_cases h2 : b.hi < b.lo
    · have e : widen a b ts = a := by simp [widen, Sp.none, h1, h2]
      rw [e]; exact widenP_N2 a b A c ts w (by omega) h2 hm ht
    · have e : widen a b ts = ⟨if b.lo < a.lo then wLo ts b.lo ts.length else a.lo, if a.hi < b.hi then wHi ts b.hi ts.length else a.hi⟩ := by simp [widen, Sp.none, h1, h2]
      rw [e]
      by_cases h3 : b.lo < a.lo
      · have e1 : Sp.mn a.lo b.lo = b.lo := by unfold Sp.mn; omega
        by_cases h4 : a.hi < b.hi
        · have e2 : Sp.mx a.hi b.hi = b.hi := by unfold Sp.mx; omega
          have := widenP_TT a b A c ts w (by omega) (by omega) h3 h4 hm ht
          rw [e1, e2] at this; simpa [h3, h4] using this
        · have := widenP_TF a b A c ts w (by omega) (by omega) h3 (by omega) hm ht
          rw [e1] at this; simpa [h3, h4] using this
      · by_cases h4 : a.hi < b.hi
        · have e2 : Sp.mx a.hi b.hi = b.hi := by unfold Sp.mx; omega
          have := widenP_FT a b A c ts w (by omega) (by omega) (by omega) h4 hm ht
          rw [e2] at this; simpa [h3, h4] using this
        · have := widenP_FF a b A c ts w (by omega) (by omega) (by omega) (by omega) hm ht
          simpa [h3, h4] using this

end Go.Proofs.YtddobhneplfddaaDoor
