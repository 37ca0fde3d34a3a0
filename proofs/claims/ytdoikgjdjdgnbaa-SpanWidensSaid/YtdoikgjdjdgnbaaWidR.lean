/-
  Layer 8 (span): the walk of the reference's Widen: two loops over the thresholds, whose tests draw their order.
-/
import Derived.Test.YtdoikgjdjdgnbaaPlainW
import Derived.Deep.QuietTactic
import Derived.BigQuiet
namespace Go.Proofs.Ytdoikgjdjdgnbaa
open Go.RowKit
set_option linter.unusedSimpArgs false
set_option linter.unusedVariables false

theorem Whl.new5 (w : World) (o p q r s : Obj) (t : TypeId) (cs : Array Value) : Whl ((((((w.alloc o).alloc p).alloc q).alloc r).alloc s).alloc (.cells cs t)) (w.heap.size + 1 + 1 + 1 + 1 + 1) t cs := by
  have := Whl.new4 (w.alloc o) p q r s t cs
  rwa [World.size_alloc] at this
theorem below_drewN {B : Nat} {a w : World} (h : Below B a w) (n : Nat) : Below B a (w.drewN n) := ⟨h.os, h.tape, h.output, h.size, h.block⟩

/-- What lies in memory while a span is widened: the two spans, the result's place, and what has been found so far (block O). -/
structure WidMemR (w : World) (a b : Sp) (O : Nat) (lo hi : Int) (wr : World) : Prop where
  below : Below w.heap.size w wr
  pa : Whl wr w.heap.size 23 #[.int .i64 a.lo, .int .i64 a.hi]
  pb : Whl wr (w.heap.size + 1) 23 #[.int .i64 b.lo, .int .i64 b.hi]
  po : Whl wr (w.heap.size + 1 + 1) 23 #[.int .i64 0, .int .i64 0]
  pr : Whl wr O 23 #[.int .i64 lo, .int .i64 hi]
  far : w.heap.size + 1 + 1 < O

theorem WidMemR.put {w wr : World} {a b : Sp} {O : Nat} {lo hi : Int} (h : WidMemR w a b O lo hi wr) (i : Nat) (u : Int) (lo' hi' : Int) (e : (#[.int .i64 lo, .int .i64 hi] : Array Value).setIfInBounds i (.int .i64 u) = #[.int .i64 lo', .int .i64 hi']) :
    WidMemR w a b O lo' hi' (wr.setCell ⟨O, i, none⟩ (.int .i64 u)) := by
  obtain ⟨h1, h2, h3, h4, h6, h7⟩ := h
  exact ⟨h1.setCell (by show _ ≤ O; omega) _, h2.far (by show _ ≠ O; omega) _, h3.far (by show _ ≠ O; omega) _, h4.far (by show _ ≠ O; omega) _, by have := h6.put i (.int .i64 u); rwa [e] at this, h7⟩
theorem WidMemR.drewN {w wr : World} {a b : Sp} {O : Nat} {lo hi : Int} (h : WidMemR w a b O lo hi wr) (n : Nat) : WidMemR w a b O lo hi (wr.drewN n) :=
  ⟨below_drewN h.below n, h.pa.drewN n, h.pb.drewN n, h.po.drewN n, h.pr.drewN n, h.far⟩

set_option maxHeartbeats 1000000 in
theorem widenR_TT (a b : Sp) (A : Option Addr) (c : Nat) (ts : List Int) (w : World) (h1 : a.lo ≤ a.hi) (h2 : b.lo ≤ b.hi) (h3 : b.lo < a.lo) (h4 : a.hi < b.hi) (hm : ts.length ≤ 9223372036854775807) (ht : IntsAt w w.heap.size A ts) :
    Calls Try.prog 27 #[.agg #[.int .i64 a.lo, .int .i64 a.hi], .agg #[.int .i64 b.lo, .int .i64 b.hi], .slice A ts.length c] w fun e w' => e = .returned (.agg #[.int .i64 (wLo ts b.lo ts.length), .int .i64 (wHi ts b.hi ts.length)]) ∧ Below w.heap.size w w' := by
  have HT := Lib.hid ht; clear ht
  go_enter Try.func27, Try.ntmps27
  go_wp2
  go_loopw [8] (fun i wr => ∃ k : Nat, k ≤ ts.length ∧ i = .int .i64 k ∧ WidMemR w a b (w.heap.size + 1 + 1 + 1 + 1 + 1) (wLo ts b.lo k) a.hi wr) (fun i _ => ts.length - (intOf i).toNat)
  case atStart =>
    refine ⟨0, Nat.zero_le _, rfl, ?_, ?_, ?_, ?_, ?_, ?_⟩
    · repeat (first | exact Below.refl _ _ | refine Below.alloc ?_ (by simp <;> omega) _)
    · exact (((((Whl.new w 23 _).alloc _).alloc _).alloc _).alloc _).alloc _
    · exact ((((Whl.new1 w _ 23 _).alloc _).alloc _).alloc _).alloc _
    · exact (((Whl.new2 w _ _ 23 _).alloc _).alloc _).alloc _
    · exact Whl.new5 w _ _ _ _ _ 23 _
    · omega
  case round =>
    obtain ⟨k, hk, rfl, hM⟩ := hrel
    have d3 : wr.cell? ⟨w.heap.size + 1 + 1 + 1 + 1 + 1, 0, none⟩ = some (.int .i64 (wLo ts b.lo k)) := hM.pr.cell 0
    have d4 : wr.cell? ⟨w.heap.size + 1 + 1 + 1 + 1 + 1, 1, none⟩ = some (.int .i64 a.hi) := hM.pr.cell 1
    have g3 := hM.pr.frozen 0
    have g4 := hM.pr.frozen 1
    have e1 : wr.cell? ⟨w.heap.size, 0, none⟩ = some (.int .i64 a.lo) := hM.pa.cell 0
    have e2 : wr.cell? ⟨w.heap.size, 1, none⟩ = some (.int .i64 a.hi) := hM.pa.cell 1
    have e5 : wr.cell? ⟨w.heap.size + 1, 0, none⟩ = some (.int .i64 b.lo) := hM.pb.cell 0
    have e6 : wr.cell? ⟨w.heap.size + 1, 1, none⟩ = some (.int .i64 b.hi) := hM.pb.cell 1
    have e3 : wr.cell? ⟨w.heap.size + 1 + 1, 0, none⟩ = some (.int .i64 0) := hM.po.cell 0
    have e4 : wr.cell? ⟨w.heap.size + 1 + 1, 1, none⟩ = some (.int .i64 0) := hM.po.cell 1
    have g5 := hM.po.frozen 0
    have g6 := hM.po.frozen 1
    by_cases hlt : k < ts.length
    · obtain ⟨bt, off, rfl, hbt, hct⟩ := HT.out (by omega)
      have hck : wr.cell? ⟨bt, off + k, none⟩ = some (.int .i64 (nthI ts k)) := (hM.below.cell (p := ⟨bt, off + k, none⟩) hbt).trans (hct k hlt)
      clear hct
      by_cases hle : nthI ts k ≤ b.lo
      · by_cases hx : wLo ts b.lo k < nthI ts k
        · go_wp2
          go_quiet (fail)
          go_wp2
          go_roundw
          case rel =>
            go_light
            refine ⟨k + 1, by omega, by go_num, (hM.drewN _).put 0 _ _ _ ?_⟩
            rw [wLo_yes hle]; simp [Sp.mx]; try (first | omega | (split <;> omega))
          case measure => simp [intOf]; omega
        · have hx' : decide (wLo ts b.lo k < nthI ts k) = false := by simpa using hx
          go_wp2
          go_quiet (fail)
          go_wp2
          go_roundw
          case rel =>
            go_light
            refine ⟨k + 1, by omega, by go_num, ?_⟩
            rw [wLo_yes hle, show Sp.mx (wLo ts b.lo k) (nthI ts k) = wLo ts b.lo k from by unfold Sp.mx; omega]
            exact hM.drewN _
          case measure => simp [intOf]; omega
      · have hle' : b.lo < nthI ts k := by omega
        have hle2 : decide (nthI ts k ≤ b.lo) = false := by simpa using hle
        go_wp2
        go_quiet (fail)
        go_wp2
        go_roundw
        case rel =>
          go_light
          exact ⟨k + 1, by omega, by go_num, by rw [wLo_no hle']; exact hM.drewN _⟩
        case measure => simp [intOf]; omega
    · have hkk : k = ts.length := by omega
      have HK := Lib.hid hkk; clear hkk
      go_wp2
      obtain ⟨wo, rfl⟩ : ∃ wo : World, wo = wr := ⟨_, rfl⟩
      go_loopw [9] (fun i wr => ∃ k2 : Nat, k2 ≤ ts.length ∧ i = .int .i64 k2 ∧ WidMemR w a b (w.heap.size + 1 + 1 + 1 + 1 + 1) (wLo ts b.lo ts.length) (wHi ts b.hi k2) wr) (fun i _ => ts.length - (intOf i).toNat)
      case atStart =>
        obtain rfl := HK.out; exact ⟨0, Nat.zero_le _, rfl, hM.put 1 _ _ _ (by simp [wHi, Sp.greatest])⟩
      case round =>
        obtain ⟨k2, hk2, rfl, hM2⟩ := hrel
        have d3 : wr.cell? ⟨w.heap.size + 1 + 1 + 1 + 1 + 1, 0, none⟩ = some (.int .i64 (wLo ts b.lo ts.length)) := hM2.pr.cell 0
        have d4 : wr.cell? ⟨w.heap.size + 1 + 1 + 1 + 1 + 1, 1, none⟩ = some (.int .i64 (wHi ts b.hi k2)) := hM2.pr.cell 1
        have g3 := hM2.pr.frozen 0
        have g4 := hM2.pr.frozen 1
        have e1 : wr.cell? ⟨w.heap.size, 0, none⟩ = some (.int .i64 a.lo) := hM2.pa.cell 0
        have e2 : wr.cell? ⟨w.heap.size, 1, none⟩ = some (.int .i64 a.hi) := hM2.pa.cell 1
        have e5 : wr.cell? ⟨w.heap.size + 1, 0, none⟩ = some (.int .i64 b.lo) := hM2.pb.cell 0
        have e6 : wr.cell? ⟨w.heap.size + 1, 1, none⟩ = some (.int .i64 b.hi) := hM2.pb.cell 1
        have e3 : wr.cell? ⟨w.heap.size + 1 + 1, 0, none⟩ = some (.int .i64 0) := hM2.po.cell 0
        have e4 : wr.cell? ⟨w.heap.size + 1 + 1, 1, none⟩ = some (.int .i64 0) := hM2.po.cell 1
        have g5 := hM2.po.frozen 0
        have g6 := hM2.po.frozen 1
        by_cases hlt2 : k2 < ts.length
        · obtain ⟨bt2, off2, rfl, hbt2, hct2⟩ := HT.out (by omega)
          have hck2 : wr.cell? ⟨bt2, off2 + k2, none⟩ = some (.int .i64 (nthI ts k2)) := (hM2.below.cell (p := ⟨bt2, off2 + k2, none⟩) hbt2).trans (hct2 k2 hlt2)
          clear hct2
          by_cases hle22 : b.hi ≤ nthI ts k2
          · by_cases hx2 : nthI ts k2 < wHi ts b.hi k2
            · go_wp2
              go_quiet (fail)
              go_wp2
              go_roundw
              case rel =>
                go_light
                refine ⟨k2 + 1, by omega, by go_num, (hM2.drewN _).put 1 _ _ _ ?_⟩
                rw [wHi_yes hle22]; simp [Sp.mn]; try (first | omega | (split <;> omega))
              case measure => simp [intOf]; omega
            · have hx2' : decide (nthI ts k2 < wHi ts b.hi k2) = false := by simpa using hx2
              go_wp2
              go_quiet (fail)
              go_wp2
              go_roundw
              case rel =>
                go_light
                refine ⟨k2 + 1, by omega, by go_num, ?_⟩
                rw [wHi_yes hle22, show Sp.mn (wHi ts b.hi k2) (nthI ts k2) = wHi ts b.hi k2 from by unfold Sp.mn; omega]
                exact hM2.drewN _
              case measure => simp [intOf]; omega
          · have hle22' : nthI ts k2 < b.hi := by omega
            have hle22 : decide (b.hi ≤ nthI ts k2) = false := by simpa using hle22
            go_wp2
            go_quiet (fail)
            go_wp2
            go_roundw
            case rel =>
              go_light
              exact ⟨k2 + 1, by omega, by go_num, by rw [wHi_no hle22']; exact hM2.drewN _⟩
            case measure => simp [intOf]; omega
        · have hkk2 : k2 = ts.length := by omega
          have HK2 := Lib.hid hkk2; clear hkk2
          go_wp2
          all_goals (try simp only [Exit.inBlock, Exit.then])
          all_goals refine ret_of ?_ rfl
          all_goals simp [results, Try.results27, go_sem, *]
          all_goals go_light
          exact ⟨by rw [HK2.out], (hM2.below.setCell (by dsimp only; omega) _).setCell (by dsimp only; omega) _⟩

set_option maxHeartbeats 1000000 in
theorem widenR_TF (a b : Sp) (A : Option Addr) (c : Nat) (ts : List Int) (w : World) (h1 : a.lo ≤ a.hi) (h2 : b.lo ≤ b.hi) (h3 : b.lo < a.lo) (h4 : b.hi ≤ a.hi) (hm : ts.length ≤ 9223372036854775807) (ht : IntsAt w w.heap.size A ts) :
    Calls Try.prog 27 #[.agg #[.int .i64 a.lo, .int .i64 a.hi], .agg #[.int .i64 b.lo, .int .i64 b.hi], .slice A ts.length c] w fun e w' => e = .returned (.agg #[.int .i64 (wLo ts b.lo ts.length), .int .i64 a.hi]) ∧ Below w.heap.size w w' := by
  have HT := Lib.hid ht; clear ht
  go_enter Try.func27, Try.ntmps27
  go_wp2
  go_loopw [8] (fun i wr => ∃ k : Nat, k ≤ ts.length ∧ i = .int .i64 k ∧ WidMemR w a b (w.heap.size + 1 + 1 + 1 + 1 + 1) (wLo ts b.lo k) a.hi wr) (fun i _ => ts.length - (intOf i).toNat)
  case atStart =>
    refine ⟨0, Nat.zero_le _, rfl, ?_, ?_, ?_, ?_, ?_, ?_⟩
    · repeat (first | exact Below.refl _ _ | refine Below.alloc ?_ (by simp <;> omega) _)
    · exact (((((Whl.new w 23 _).alloc _).alloc _).alloc _).alloc _).alloc _
    · exact ((((Whl.new1 w _ 23 _).alloc _).alloc _).alloc _).alloc _
    · exact (((Whl.new2 w _ _ 23 _).alloc _).alloc _).alloc _
    · exact Whl.new5 w _ _ _ _ _ 23 _
    · omega
  case round =>
    obtain ⟨k, hk, rfl, hM⟩ := hrel
    have d3 : wr.cell? ⟨w.heap.size + 1 + 1 + 1 + 1 + 1, 0, none⟩ = some (.int .i64 (wLo ts b.lo k)) := hM.pr.cell 0
    have d4 : wr.cell? ⟨w.heap.size + 1 + 1 + 1 + 1 + 1, 1, none⟩ = some (.int .i64 a.hi) := hM.pr.cell 1
    have g3 := hM.pr.frozen 0
    have g4 := hM.pr.frozen 1
    have e1 : wr.cell? ⟨w.heap.size, 0, none⟩ = some (.int .i64 a.lo) := hM.pa.cell 0
    have e2 : wr.cell? ⟨w.heap.size, 1, none⟩ = some (.int .i64 a.hi) := hM.pa.cell 1
    have e5 : wr.cell? ⟨w.heap.size + 1, 0, none⟩ = some (.int .i64 b.lo) := hM.pb.cell 0
    have e6 : wr.cell? ⟨w.heap.size + 1, 1, none⟩ = some (.int .i64 b.hi) := hM.pb.cell 1
    have e3 : wr.cell? ⟨w.heap.size + 1 + 1, 0, none⟩ = some (.int .i64 0) := hM.po.cell 0
    have e4 : wr.cell? ⟨w.heap.size + 1 + 1, 1, none⟩ = some (.int .i64 0) := hM.po.cell 1
    have g5 := hM.po.frozen 0
    have g6 := hM.po.frozen 1
    by_cases hlt : k < ts.length
    · obtain ⟨bt, off, rfl, hbt, hct⟩ := HT.out (by omega)
      have hck : wr.cell? ⟨bt, off + k, none⟩ = some (.int .i64 (nthI ts k)) := (hM.below.cell (p := ⟨bt, off + k, none⟩) hbt).trans (hct k hlt)
      clear hct
      by_cases hle : nthI ts k ≤ b.lo
      · by_cases hx : wLo ts b.lo k < nthI ts k
        · go_wp2
          go_quiet (fail)
          go_wp2
          go_roundw
          case rel =>
            go_light
            refine ⟨k + 1, by omega, by go_num, (hM.drewN _).put 0 _ _ _ ?_⟩
            rw [wLo_yes hle]; simp [Sp.mx]; try (first | omega | (split <;> omega))
          case measure => simp [intOf]; omega
        · have hx' : decide (wLo ts b.lo k < nthI ts k) = false := by simpa using hx
          go_wp2
          go_quiet (fail)
          go_wp2
          go_roundw
          case rel =>
            go_light
            refine ⟨k + 1, by omega, by go_num, ?_⟩
            rw [wLo_yes hle, show Sp.mx (wLo ts b.lo k) (nthI ts k) = wLo ts b.lo k from by unfold Sp.mx; omega]
            exact hM.drewN _
          case measure => simp [intOf]; omega
      · have hle' : b.lo < nthI ts k := by omega
        have hle2 : decide (nthI ts k ≤ b.lo) = false := by simpa using hle
        go_wp2
        go_quiet (fail)
        go_wp2
        go_roundw
        case rel =>
          go_light
          exact ⟨k + 1, by omega, by go_num, by rw [wLo_no hle']; exact hM.drewN _⟩
        case measure => simp [intOf]; omega
    · have hkk : k = ts.length := by omega
      have HK := Lib.hid hkk; clear hkk
      go_wp2
      all_goals (try simp only [Exit.inBlock, Exit.then])
      all_goals refine ret_of ?_ rfl
      all_goals simp [results, Try.results27, go_sem, *]
      all_goals go_light
      exact ⟨by rw [HK.out], (hM.below.setCell (by dsimp only; omega) _).setCell (by dsimp only; omega) _⟩

set_option maxHeartbeats 1000000 in
theorem widenR_FT (a b : Sp) (A : Option Addr) (c : Nat) (ts : List Int) (w : World) (h1 : a.lo ≤ a.hi) (h2 : b.lo ≤ b.hi) (h3 : a.lo ≤ b.lo) (h4 : a.hi < b.hi) (hm : ts.length ≤ 9223372036854775807) (ht : IntsAt w w.heap.size A ts) :
    Calls Try.prog 27 #[.agg #[.int .i64 a.lo, .int .i64 a.hi], .agg #[.int .i64 b.lo, .int .i64 b.hi], .slice A ts.length c] w fun e w' => e = .returned (.agg #[.int .i64 a.lo, .int .i64 (wHi ts b.hi ts.length)]) ∧ Below w.heap.size w w' := by
  have HT := Lib.hid ht; clear ht
  go_enter Try.func27, Try.ntmps27
  go_wp2
  go_loopw [9] (fun i wr => ∃ k : Nat, k ≤ ts.length ∧ i = .int .i64 k ∧ WidMemR w a b (w.heap.size + 1 + 1 + 1 + 1 + 1) a.lo (wHi ts b.hi k) wr) (fun i _ => ts.length - (intOf i).toNat)
  case atStart =>
    refine ⟨0, Nat.zero_le _, rfl, ?_, ?_, ?_, ?_, ?_, ?_⟩
    · repeat (first | exact Below.refl _ _ | refine Below.alloc ?_ (by simp <;> omega) _)
    · exact (((((Whl.new w 23 _).alloc _).alloc _).alloc _).alloc _).alloc _
    · exact ((((Whl.new1 w _ 23 _).alloc _).alloc _).alloc _).alloc _
    · exact (((Whl.new2 w _ _ 23 _).alloc _).alloc _).alloc _
    · exact Whl.new5 w _ _ _ _ _ 23 _
    · omega
  case round =>
    obtain ⟨k, hk, rfl, hM⟩ := hrel
    have d3 : wr.cell? ⟨w.heap.size + 1 + 1 + 1 + 1 + 1, 0, none⟩ = some (.int .i64 a.lo) := hM.pr.cell 0
    have d4 : wr.cell? ⟨w.heap.size + 1 + 1 + 1 + 1 + 1, 1, none⟩ = some (.int .i64 (wHi ts b.hi k)) := hM.pr.cell 1
    have g3 := hM.pr.frozen 0
    have g4 := hM.pr.frozen 1
    have e1 : wr.cell? ⟨w.heap.size, 0, none⟩ = some (.int .i64 a.lo) := hM.pa.cell 0
    have e2 : wr.cell? ⟨w.heap.size, 1, none⟩ = some (.int .i64 a.hi) := hM.pa.cell 1
    have e5 : wr.cell? ⟨w.heap.size + 1, 0, none⟩ = some (.int .i64 b.lo) := hM.pb.cell 0
    have e6 : wr.cell? ⟨w.heap.size + 1, 1, none⟩ = some (.int .i64 b.hi) := hM.pb.cell 1
    have e3 : wr.cell? ⟨w.heap.size + 1 + 1, 0, none⟩ = some (.int .i64 0) := hM.po.cell 0
    have e4 : wr.cell? ⟨w.heap.size + 1 + 1, 1, none⟩ = some (.int .i64 0) := hM.po.cell 1
    have g5 := hM.po.frozen 0
    have g6 := hM.po.frozen 1
    by_cases hlt : k < ts.length
    · obtain ⟨bt, off, rfl, hbt, hct⟩ := HT.out (by omega)
      have hck : wr.cell? ⟨bt, off + k, none⟩ = some (.int .i64 (nthI ts k)) := (hM.below.cell (p := ⟨bt, off + k, none⟩) hbt).trans (hct k hlt)
      clear hct
      by_cases hle : b.hi ≤ nthI ts k
      · by_cases hx : nthI ts k < wHi ts b.hi k
        · go_wp2
          go_quiet (fail)
          go_wp2
          go_roundw
          case rel =>
            go_light
            refine ⟨k + 1, by omega, by go_num, (hM.drewN _).put 1 _ _ _ ?_⟩
            rw [wHi_yes hle]; simp [Sp.mn]; try (first | omega | (split <;> omega))
          case measure => simp [intOf]; omega
        · have hx' : decide (nthI ts k < wHi ts b.hi k) = false := by simpa using hx
          go_wp2
          go_quiet (fail)
          go_wp2
          go_roundw
          case rel =>
            go_light
            refine ⟨k + 1, by omega, by go_num, ?_⟩
            rw [wHi_yes hle, show Sp.mn (wHi ts b.hi k) (nthI ts k) = wHi ts b.hi k from by unfold Sp.mn; omega]
            exact hM.drewN _
          case measure => simp [intOf]; omega
      · have hle' : nthI ts k < b.hi := by omega
        have hle2 : decide (b.hi ≤ nthI ts k) = false := by simpa using hle
        go_wp2
        go_quiet (fail)
        go_wp2
        go_roundw
        case rel =>
          go_light
          exact ⟨k + 1, by omega, by go_num, by rw [wHi_no hle']; exact hM.drewN _⟩
        case measure => simp [intOf]; omega
    · have hkk : k = ts.length := by omega
      have HK := Lib.hid hkk; clear hkk
      go_wp2
      all_goals (try simp only [Exit.inBlock, Exit.then])
      all_goals refine ret_of ?_ rfl
      all_goals simp [results, Try.results27, go_sem, *]
      all_goals go_light
      exact ⟨by rw [HK.out], (hM.below.setCell (by dsimp only; omega) _).setCell (by dsimp only; omega) _⟩

set_option maxHeartbeats 1000000 in
theorem widenR_FF (a b : Sp) (A : Option Addr) (c : Nat) (ts : List Int) (w : World) (h1 : a.lo ≤ a.hi) (h2 : b.lo ≤ b.hi) (h3 : a.lo ≤ b.lo) (h4 : b.hi ≤ a.hi) (hm : ts.length ≤ 9223372036854775807) (ht : IntsAt w w.heap.size A ts) :
    Calls Try.prog 27 #[.agg #[.int .i64 a.lo, .int .i64 a.hi], .agg #[.int .i64 b.lo, .int .i64 b.hi], .slice A ts.length c] w fun e w' => e = .returned (.agg #[.int .i64 a.lo, .int .i64 a.hi]) ∧ Below w.heap.size w w' := by
  have HT := Lib.hid ht; clear ht
  go_enter Try.func27, Try.ntmps27
  go_wp2
  all_goals (try simp only [Exit.inBlock, Exit.then])
  all_goals refine ret_of ?_ rfl
  all_goals simp [results, Try.results27, go_sem, *]
  all_goals go_light
  repeat (first | exact Below.refl _ _ | refine Below.setCell ?_ (by dsimp only; omega) _ | refine Below.alloc ?_ (by simp <;> omega) _)

set_option maxHeartbeats 1000000 in
theorem widenR_N1 (a b : Sp) (A : Option Addr) (c : Nat) (ts : List Int) (w : World) (h1 : a.hi < a.lo) (hm : ts.length ≤ 9223372036854775807) (ht : IntsAt w w.heap.size A ts) :
    Calls Try.prog 27 #[.agg #[.int .i64 a.lo, .int .i64 a.hi], .agg #[.int .i64 b.lo, .int .i64 b.hi], .slice A ts.length c] w fun e w' => e = .returned (.agg #[.int .i64 b.lo, .int .i64 b.hi]) ∧ Below w.heap.size w w' := by
  have HT := Lib.hid ht; clear ht
  go_enter Try.func27, Try.ntmps27
  go_wp2
  all_goals (try simp only [Exit.inBlock, Exit.then])
  all_goals refine ret_of ?_ rfl
  all_goals simp [results, Try.results27, go_sem, *]
  all_goals go_light
  repeat (first | exact Below.refl _ _ | refine Below.setCell ?_ (by dsimp only; omega) _ | refine Below.alloc ?_ (by simp <;> omega) _)

set_option maxHeartbeats 1000000 in
theorem widenR_N2 (a b : Sp) (A : Option Addr) (c : Nat) (ts : List Int) (w : World) (h1 : a.lo ≤ a.hi) (h2 : b.hi < b.lo) (hm : ts.length ≤ 9223372036854775807) (ht : IntsAt w w.heap.size A ts) :
    Calls Try.prog 27 #[.agg #[.int .i64 a.lo, .int .i64 a.hi], .agg #[.int .i64 b.lo, .int .i64 b.hi], .slice A ts.length c] w fun e w' => e = .returned (.agg #[.int .i64 a.lo, .int .i64 a.hi]) ∧ Below w.heap.size w w' := by
  have HT := Lib.hid ht; clear ht
  go_enter Try.func27, Try.ntmps27
  go_wp2
  all_goals (try simp only [Exit.inBlock, Exit.then])
  all_goals refine ret_of ?_ rfl
  all_goals simp [results, Try.results27, go_sem, *]
  all_goals go_light
  repeat (first | exact Below.refl _ _ | refine Below.setCell ?_ (by dsimp only; omega) _ | refine Below.alloc ?_ (by simp <;> omega) _)

/-- Widen, of all spans. -/
theorem widenR (a b : Sp) (A : Option Addr) (c : Nat) (ts : List Int) (w : World) (hm : ts.length ≤ 9223372036854775807) (ht : IntsAt w w.heap.size A ts) :
    Calls Try.prog 27 #[.agg #[.int .i64 a.lo, .int .i64 a.hi], .agg #[.int .i64 b.lo, .int .i64 b.hi], .slice A ts.length c] w fun e w' => e = .returned (.agg #[.int .i64 (widen a b ts).lo, .int .i64 (widen a b ts).hi]) ∧ Below w.heap.size w w' := by
  by_cases h1 : a.hi < a.lo
  · have e : widen a b ts = b := by simp [widen, Sp.none, h1]
    rw [e]; exact widenR_N1 a b A c ts w h1 hm ht
  · by_cases h2 : b.hi < b.lo
    · have e : widen a b ts = a := by simp [widen, Sp.none, h1, h2]
      rw [e]; exact widenR_N2 a b A c ts w (by omega) h2 hm ht
    · have e : widen a b ts = ⟨if b.lo < a.lo then wLo ts b.lo ts.length else a.lo, if a.hi < b.hi then wHi ts b.hi ts.length else a.hi⟩ := by simp [widen, Sp.none, h1, h2]
      rw [e]
      by_cases h3 : b.lo < a.lo
      · have e1 : Sp.mn a.lo b.lo = b.lo := by unfold Sp.mn; omega
        by_cases h4 : a.hi < b.hi
        · have e2 : Sp.mx a.hi b.hi = b.hi := by unfold Sp.mx; omega
          have := widenR_TT a b A c ts w (by omega) (by omega) h3 h4 hm ht
          simpa [h3, h4] using this
        · have := widenR_TF a b A c ts w (by omega) (by omega) h3 (by omega) hm ht
          simpa [h3, h4] using this
      · by_cases h4 : a.hi < b.hi
        · have e2 : Sp.mx a.hi b.hi = b.hi := by unfold Sp.mx; omega
          have := widenR_FT a b A c ts w (by omega) (by omega) (by omega) h4 hm ht
          simpa [h3, h4] using this
        · have := widenR_FF a b A c ts w (by omega) (by omega) (by omega) (by omega) hm ht
          simpa [h3, h4] using this

end Go.Proofs.Ytdoikgjdjdgnbaa

