/-
  Layer 16 (bounds): SameA, Code9, Laid, BndA, KeepB.
-/
import Derived.Test.YtddobhneplfddaaDoorV3
import Derived.Deep.QuietTactic
import Derived.LaidHandle
import Derived.LaidLaws
import Derived.LaidMore
import Derived.LoopTactic
import Derived.MakeChecks
namespace Go.Proofs.YtddobhneplfddaaDoor
set_option maxRecDepth 100000
open Go.RowKit
set_option linter.unusedSimpArgs false
set_option linter.unusedVariables false
set_option maxHeartbeats 4000000 in
theorem sameSpansT (A A2 : Option Addr) (c c2 : Nat) (l : List Sp) (hl : l.length ≤ maxLen) (w : World) (h1 : RowsAt w w.heap.size A l.length 2 fun k => spV (nthS l k)) (h2 : RowsAt w w.heap.size A2 l.length 2 fun k => spV (nthS l k)) :
    Calls Tryd.prog 31 #[.slice A l.length c, .slice A2 l.length c2] w fun e w' => e = .returned (.bool true) ∧ Below w.heap.size w w' := by
  unfold maxLen at hl
  have H1 := Lib.hid h1
  have H2 := Lib.hid h2
  clear h1 h2
  have k5 : ((l.length : Int) != (l.length : Int)) = false := by simp
  have k4 : ((l.length : Int) == (l.length : Int)) = true := by simp
  go_enter Tryd.func31, Tryd.ntmps31
  go_wp2
  go_loopw [5] (fun i wr => ∃ k : Nat, k ≤ l.length ∧ i = .int .i64 k ∧ Below w.heap.size w wr) (fun i _ => l.length - (intOf i).toNat)
  case atStart => exact ⟨0, Nat.zero_le _, rfl, Below.refl _ _⟩
  case round =>
    obtain ⟨k, hk, rfl, hB⟩ := hrel
    by_cases hlt : k < l.length
    · obtain ⟨b1, o1, hA1, hb1, hc1⟩ := (H1.out.below hB (Nat.le_refl _)) (by omega)
      obtain ⟨b2, o2, hA2, hb2, hc2⟩ := (H2.out.below hB (Nat.le_refl _)) (by omega)
      have p0 : wr.cell? ⟨b1, o1 + k * 2, none⟩ = some (.int .i64 (nthS l k).lo) := hc1 k (by omega) 0 (by omega)
      have p1 : wr.cell? ⟨b1, o1 + k * 2 + 1, none⟩ = some (.int .i64 (nthS l k).hi) := hc1 k (by omega) 1 (by omega)
      have q0 : wr.cell? ⟨b2, o2 + k * 2, none⟩ = some (.int .i64 (nthS l k).lo) := hc2 k (by omega) 0 (by omega)
      have q1 : wr.cell? ⟨b2, o2 + k * 2 + 1, none⟩ = some (.int .i64 (nthS l k).hi) := hc2 k (by omega) 1 (by omega)
      subst hA1 hA2
      have u0 : ((nthS l k).lo == (nthS l k).lo) = true := by simp
      have u1 : ((nthS l k).hi == (nthS l k).hi) = true := by simp
      have hki : (k : Int) < (l.length : Int) := by omega
      clear hc1 hc2
      go_wp2
      go_quiet (fail)
      go_wp2
      go_roundw
      case rel => exact ⟨k + 1, by omega, by go_num, below_drewN hB _⟩
      case measure => simp only [intOf]; omega
    · obtain rfl : k = l.length := by omega
      go_wp2
      go_ret
      exact ⟨rfl, hB⟩
theorem sameSpansS (A A2 : Option Addr) (c c2 : Nat) (l : List Sp) (hl : l.length ≤ maxLen) (w : World) (h1 : RowsAt w w.heap.size A l.length 2 fun k => spV (nthS l k)) (h2 : RowsAt w w.heap.size A2 l.length 2 fun k => spV (nthS l k)) :
    Calls Tryd.prog 14 #[.slice A l.length c, .slice A2 l.length c2] w fun e w' => e = .returned (.bool true) ∧ Below w.heap.size w w' := by
  have H := Lib.hid (sameSpansT A A2 c c2 l hl w h1 h2)
  clear h1 h2
  go_enter Tryd.func14, Tryd.ntmps14
  go_wp2_with (go_at_call 31; refine H.out.mono ?_; rintro e w1 ⟨rfl, hb1⟩)
  go_ret
  exact ⟨rfl, hb1⟩
/-- A row of rows of spans. -/
def RowsOf (w : World) (B : Nat) (A : Option Addr) (ls : List (List Sp)) : Prop :=
  0 < ls.length → ∃ b off, A = some ⟨b, off, none⟩ ∧ b < B ∧ ∀ k, k < ls.length → (ls.getD k []).length ≤ maxLen ∧ ∃ A2 c2, w.cell? ⟨b, off + k, none⟩ = some (.slice A2 (ls.getD k []).length c2) ∧ RowsAt w B A2 (ls.getD k []).length 2 fun j => spV (nthS (ls.getD k []) j)
/-- A row of rows of numbers. -/
def CntsOf (w : World) (B : Nat) (A : Option Addr) (ls : List (List Nat)) : Prop :=
  0 < ls.length → ∃ b off, A = some ⟨b, off, none⟩ ∧ b < B ∧ ∀ k, k < ls.length → (ls.getD k []).length ≤ maxLen ∧ ∃ A2 c2, w.cell? ⟨b, off + k, none⟩ = some (.slice A2 (ls.getD k []).length c2) ∧
    (0 < (ls.getD k []).length → ∃ b2 o2, A2 = some ⟨b2, o2, none⟩ ∧ b2 < B ∧ ∀ j, j < (ls.getD k []).length → w.cell? ⟨b2, o2 + j, none⟩ = some (.int .i64 ((ls.getD k []).getD j 0 : Nat)))
theorem RowsOf.below {w w' : World} {B B' : Nat} {A : Option Addr} {ls : List (List Sp)} (h : RowsOf w B A ls) (hb : Below B' w w') (hB : B ≤ B') : RowsOf w' B A ls := fun h0 => by
  obtain ⟨b, off, e, hlt, hc⟩ := h h0
  refine ⟨b, off, e, hlt, fun k hk => ?_⟩
  obtain ⟨hm, A2, c2, h1, h2⟩ := hc k hk
  exact ⟨hm, A2, c2, (hb.cell (p := ⟨b, off + k, none⟩) (Nat.lt_of_lt_of_le hlt hB)).trans h1, h2.below hb hB⟩
theorem CntsOf.below {w w' : World} {B B' : Nat} {A : Option Addr} {ls : List (List Nat)} (h : CntsOf w B A ls) (hb : Below B' w w') (hB : B ≤ B') : CntsOf w' B A ls := fun h0 => by
  obtain ⟨b, off, e, hlt, hc⟩ := h h0
  refine ⟨b, off, e, hlt, fun k hk => ?_⟩
  obtain ⟨hm, A2, c2, h1, h2⟩ := hc k hk
  refine ⟨hm, A2, c2, (hb.cell (p := ⟨b, off + k, none⟩) (Nat.lt_of_lt_of_le hlt hB)).trans h1, fun h3 => ?_⟩
  obtain ⟨b2, o2, e2, hl2, hc2⟩ := h2 h3
  exact ⟨b2, o2, e2, hl2, fun j hj => (hb.cell (p := ⟨b2, o2 + j, none⟩) (Nat.lt_of_lt_of_le hl2 hB)).trans (hc2 j hj)⟩
theorem RowsOf.more {w : World} {B B' : Nat} {A : Option Addr} {ls : List (List Sp)} (h : RowsOf w B A ls) (hB : B ≤ B') : RowsOf w B' A ls := fun h0 => by
  obtain ⟨b, off, e, hlt, hc⟩ := h h0
  refine ⟨b, off, e, Nat.lt_of_lt_of_le hlt hB, fun k hk => ?_⟩
  obtain ⟨hm, A2, c2, h1, h2⟩ := hc k hk
  exact ⟨hm, A2, c2, h1, h2.more hB⟩
theorem CntsOf.more {w : World} {B B' : Nat} {A : Option Addr} {ls : List (List Nat)} (h : CntsOf w B A ls) (hB : B ≤ B') : CntsOf w B' A ls := fun h0 => by
  obtain ⟨b, off, e, hlt, hc⟩ := h h0
  refine ⟨b, off, e, Nat.lt_of_lt_of_le hlt hB, fun k hk => ?_⟩
  obtain ⟨hm, A2, c2, h1, h2⟩ := hc k hk
  refine ⟨hm, A2, c2, h1, fun h3 => ?_⟩
  obtain ⟨b2, o2, e2, hl2, hc2⟩ := h2 h3
  exact ⟨b2, o2, e2, Nat.lt_of_lt_of_le hl2 hB, hc2⟩
/-- An analysis in memory. -/
structure AnAt (w : World) (B : Nat) (iA cA : Option Addr) (ins : List (List Sp)) (chs : List (List Nat)) : Prop where
  i : RowsOf w B iA ins
  c : CntsOf w B cA chs
theorem AnAt.below {w w' : World} {B B' : Nat} {iA cA : Option Addr} {ins : List (List Sp)} {chs : List (List Nat)} (h : AnAt w B iA cA ins chs) (hb : Below B' w w') (hB : B ≤ B') : AnAt w' B iA cA ins chs := ⟨h.i.below hb hB, h.c.below hb hB⟩
theorem AnAt.more {w : World} {B B' : Nat} {iA cA : Option Addr} {ins : List (List Sp)} {chs : List (List Nat)} (h : AnAt w B iA cA ins chs) (hB : B ≤ B') : AnAt w B' iA cA ins chs := ⟨h.i.more hB, h.c.more hB⟩
theorem AnAt.step {w w' : World} {iA cA : Option Addr} {ins : List (List Sp)} {chs : List (List Nat)} (h : AnAt w w.heap.size iA cA ins chs) (hb : Below w.heap.size w w') : AnAt w' w'.heap.size iA cA ins chs := (h.below hb (Nat.le_refl _)).more hb.size
structure SaM (w : World) (a b c d : Value) (wr : World) : Prop where
  below : Below w.heap.size w wr
  pf : Whl wr w.heap.size 39 #[a, b]
  pg : Whl wr (w.heap.size + 1) 39 #[c, d]
theorem SaM.drewN {w wr : World} {a b c d : Value} (h : SaM w a b c d wr) (n : Nat) : SaM w a b c d (wr.drewN n) := ⟨below_drewN h.below n, h.pf, h.pg⟩
theorem SaM.drew {w wr : World} {a b c d : Value} (h : SaM w a b c d wr) : SaM w a b c d wr.drew := ⟨Below.drew h.below, h.pf, h.pg⟩
theorem SaM.go {w wr wr' : World} {a b c d : Value} (h : SaM w a b c d wr) (hb : Below wr.heap.size wr wr') : SaM w a b c d wr' := ⟨below_step h.below hb, h.pf.below' hb, h.pg.below' hb⟩
theorem SaM.start (w : World) (a b c d : Value) : SaM w a b c d ((w.alloc (.cells #[a, b] 39)).alloc (.cells #[c, d] 39)) :=
  ⟨below_alloc (below_alloc (Below.refl _ _) _) _, (Whl.new _ _ _).alloc _, Whl.new1 _ _ _ _⟩
theorem sa_row {w wr w' : World} {a b c d : Value} (hM : SaM w a b c d wr) {P : Prop} {n : Nat} {A : Option Addr} {val : Nat → Nat → Value} (h : SaM w a b c d w' ∧ Below wr.heap.size wr w' ∧ P) (hr : RowsAt wr w.heap.size A n 2 val) : RowsAt w' w'.heap.size A n 2 val :=
  (hr.below h.2.1 hM.below.size).more h.1.below.size
theorem sa_keep {w wr w' w'' : World} {a b c d : Value} {i1 i2 b3 i3 b4 i4 : Nat} {v1 v2 v3 v4 : Value} (hb : Below w'.heap.size w' w'') (h : SaM w a b c d w' ∧ Below wr.heap.size wr w' ∧ w'.cell? ⟨w.heap.size, i1, none⟩ = some v1 ∧ w'.cell? ⟨w.heap.size + 1, i2, none⟩ = some v2 ∧ w'.cell? ⟨b3, i3, none⟩ = some v3 ∧ w'.cell? ⟨b4, i4, none⟩ = some v4)
    (hbs : w.heap.size ≤ wr.heap.size) (h3 : b3 < w.heap.size) (h4 : b4 < w.heap.size) : SaM w a b c d w'' ∧ Below wr.heap.size wr w'' ∧ w''.cell? ⟨w.heap.size, i1, none⟩ = some v1 ∧ w''.cell? ⟨w.heap.size + 1, i2, none⟩ = some v2 ∧ w''.cell? ⟨b3, i3, none⟩ = some v3 ∧ w''.cell? ⟨b4, i4, none⟩ = some v4 := by
  obtain ⟨hs, hB, e1, e2, e3, e4⟩ := h
  have k1 := hs.pf.lt
  have k2 := hs.pg.lt
  have k3 := hs.below.size
  exact ⟨hs.go hb, hB.trans (hb.mono hB.size), (hb.cell (p := ⟨w.heap.size, i1, none⟩) k1).trans e1, (hb.cell (p := ⟨w.heap.size + 1, i2, none⟩) k2).trans e2, (hb.cell (p := ⟨b3, i3, none⟩) (by show b3 < _; omega)).trans e3, (hb.cell (p := ⟨b4, i4, none⟩) (by show b4 < _; omega)).trans e4⟩
set_option maxHeartbeats 8000000 in
theorem sameAT (iA cA jA dA : Option Addr) (ic cc jc dc : Nat) (ins : List (List Sp)) (chs : List (List Nat)) (hi : ins.length ≤ maxLen) (hc : chs.length ≤ maxLen) (w : World) (h1 : AnAt w w.heap.size iA cA ins chs) (h2 : AnAt w w.heap.size jA dA ins chs) :
    Calls Tryd.prog 17 #[.agg #[.slice iA ins.length ic, .slice cA chs.length cc], .agg #[.slice jA ins.length jc, .slice dA chs.length dc]] w fun e w' => e = .returned (.bool true) ∧ Below w.heap.size w w' := by
  unfold maxLen at hi hc
  have H1 := Lib.hid h1
  have H2 := Lib.hid h2
  clear h1 h2
  have k5 : ((ins.length : Int) != (ins.length : Int)) = false := by simp
  have k4 : ((ins.length : Int) == (ins.length : Int)) = true := by simp
  have k7 : ((chs.length : Int) != (chs.length : Int)) = false := by simp
  have k6 : ((chs.length : Int) == (chs.length : Int)) = true := by simp
  have S0 := SaM.start w (.slice iA ins.length ic) (.slice cA chs.length cc) (.slice jA ins.length jc) (.slice dA chs.length dc)
  go_enter Tryd.func17, Tryd.ntmps17
  go_wp2
  go_loopw [5] (fun i wr => ∃ k : Nat, k ≤ ins.length ∧ i = .int .i64 k ∧ SaM w (.slice iA ins.length ic) (.slice cA chs.length cc) (.slice jA ins.length jc) (.slice dA chs.length dc) wr) (fun i _ => ins.length - (intOf i).toNat)
  case atStart => exact ⟨0, Nat.zero_le _, rfl, S0⟩
  case round =>
    obtain ⟨k, hk, rfl, hM⟩ := hrel
    clear S0
    have d0 := hM.pf.cell 0
    have d1 := hM.pg.cell 0
    have lw := hM.pg.lt
    simp only [List.getElem?_toArray, List.getElem?_cons_zero, List.getElem?_cons_succ] at d0 d1
    by_cases hlt : k < ins.length
    · obtain ⟨b1, o1, hA1, hb1, hc1⟩ := (H1.out.i.below hM.below (Nat.le_refl _)) (by omega)
      obtain ⟨b2, o2, hA2, hb2, hc2⟩ := (H2.out.i.below hM.below (Nat.le_refl _)) (by omega)
      obtain ⟨lk, hlk⟩ : ∃ lk, ins.getD k [] = lk := ⟨_, rfl⟩
      obtain ⟨m1, A3, c3, e3, r3⟩ := hc1 k hlt
      obtain ⟨m2, A4, c4, e4, r4⟩ := hc2 k hlt
      rw [hlk] at m1 e3 r3 m2 e4 r4
      subst hA1 hA2
      have hki : (k : Int) < (ins.length : Int) := by omega
      have R3 := Lib.hid r3
      have R4 := Lib.hid r4
      have ML := Lib.hid m1
      have hbs := hM.below.size
      clear hc1 hc2 r3 r4 m1 m2 hlk
      go_wp2
      go_region_held3 (fun w' => SaM w (.slice (some ⟨b1, o1, none⟩) ins.length ic) (.slice cA chs.length cc) (.slice (some ⟨b2, o2, none⟩) ins.length jc) (.slice dA chs.length dc) w' ∧ Below wr.heap.size wr w' ∧ w'.cell? ⟨w.heap.size, 0, none⟩ = some (.slice (some ⟨b1, o1, none⟩) ins.length ic) ∧ w'.cell? ⟨w.heap.size + 1, 0, none⟩ = some (.slice (some ⟨b2, o2, none⟩) ins.length jc) ∧ w'.cell? ⟨b1, o1 + k, none⟩ = some (.slice A3 lk.length c3) ∧ w'.cell? ⟨b2, o2 + k, none⟩ = some (.slice A4 lk.length c4))
        (first | exact ⟨hM.drew, Below.drew (Below.refl _ _), d0, d1, e3, e4⟩ | exact sa_keep (by assumption) (by assumption) hbs hb1 hb2 | go_simp)
        ((go_at_call 31; refine (sameSpansT A3 A4 c3 c4 lk ML.out _ (sa_row hM (by assumption) R3.out) (sa_row hM (by assumption) R4.out)).mono ?_; rintro e w2 ⟨rfl, hb3⟩))
      obtain ⟨hS2, _⟩ : SaM w (.slice (some ⟨b1, o1, none⟩) ins.length ic) (.slice cA chs.length cc) (.slice (some ⟨b2, o2, none⟩) ins.length jc) (.slice dA chs.length dc) w2 ∧ Below wr.heap.size wr w2 ∧ w2.cell? ⟨w.heap.size, 0, none⟩ = some (.slice (some ⟨b1, o1, none⟩) ins.length ic) ∧ w2.cell? ⟨w.heap.size + 1, 0, none⟩ = some (.slice (some ⟨b2, o2, none⟩) ins.length jc) ∧ w2.cell? ⟨b1, o1 + k, none⟩ = some (.slice A3 lk.length c3) ∧ w2.cell? ⟨b2, o2 + k, none⟩ = some (.slice A4 lk.length c4) := by assumption
      go_wp2
      go_roundw
      case rel => exact ⟨k + 1, by omega, by go_num, hS2⟩
      case measure => simp only [intOf]; omega
    · obtain rfl : k = ins.length := by omega
      clear hlt
      go_wp2
      go_loopw [7] (fun i wr => ∃ k : Nat, k ≤ chs.length ∧ i = .int .i64 k ∧ SaM w (.slice iA ins.length ic) (.slice cA chs.length cc) (.slice jA ins.length jc) (.slice dA chs.length dc) wr) (fun i _ => chs.length - (intOf i).toNat)
      case atStart => exact ⟨0, Nat.zero_le _, rfl, hM⟩
      case round =>
        clear hM d0 d1 lw hk
        obtain ⟨k, hk, rfl, hM⟩ := hrel
        have d0 := hM.pf.cell 1
        have d1 := hM.pg.cell 1
        have lw := hM.pg.lt
        simp only [List.getElem?_toArray, List.getElem?_cons_zero, List.getElem?_cons_succ] at d0 d1
        by_cases hlt : k < chs.length
        · obtain ⟨b1, o1, hA1, hb1, hc1⟩ := (H1.out.c.below hM.below (Nat.le_refl _)) (by omega)
          obtain ⟨b2, o2, hA2, hb2, hc2⟩ := (H2.out.c.below hM.below (Nat.le_refl _)) (by omega)
          obtain ⟨lk, hlk⟩ : ∃ lk, chs.getD k [] = lk := ⟨_, rfl⟩
          obtain ⟨m1, A3, c3, e3, r3⟩ := hc1 k hlt
          obtain ⟨m2, A4, c4, e4, r4⟩ := hc2 k hlt
          rw [hlk] at m1 e3 r3 m2 e4 r4
          subst hA1 hA2
          have hki : (k : Int) < (chs.length : Int) := by omega
          have R3 := Lib.hid r3
          have R4 := Lib.hid r4
          have hbs := hM.below.size
          have E3 := Lib.hid e3
          have E4 := Lib.hid e4
          unfold maxLen at m1
          have n7 : ((lk.length : Int) != (lk.length : Int)) = false := by simp
          have n6 : ((lk.length : Int) == (lk.length : Int)) = true := by simp
          clear hc1 hc2 r3 r4 m2 hlk
          go_wp2
          go_quiet (fail)
          go_wp2
          go_loopw [8] (fun i wx => ∃ j : Nat, j ≤ lk.length ∧ i = .int .i64 j ∧ Below wr.heap.size wr wx ∧ SaM w (.slice iA ins.length ic) (.slice (some ⟨b1, o1, none⟩) chs.length cc) (.slice jA ins.length jc) (.slice (some ⟨b2, o2, none⟩) chs.length dc) wx) (fun i _ => lk.length - (intOf i).toNat)
          case atStart => exact ⟨0, Nat.zero_le _, rfl, below_drewN (Below.refl _ _) _, hM.drewN _⟩
          case round =>
            obtain ⟨j, hj, rfl, hBx, hX⟩ := hrel
            have f0 := hX.pf.cell 1
            have f1 := hX.pg.cell 1
            have lx := hX.pg.lt
            simp only [List.getElem?_toArray, List.getElem?_cons_zero, List.getElem?_cons_succ] at f0 f1
            have g3 := E3.out
            have g4 := E4.out
            rw [← hBx.cell (p := ⟨b1, o1 + k, none⟩) (by show b1 < _; omega)] at g3
            rw [← hBx.cell (p := ⟨b2, o2 + k, none⟩) (by show b2 < _; omega)] at g4
            have gk : (k : Int) < (chs.length : Int) := hki
            by_cases hjl : j < lk.length
            · obtain ⟨b3, o3, hA3, hb3, hc3⟩ := R3.out (by omega)
              obtain ⟨b4, o4, hA4, hb4, hc4⟩ := R4.out (by omega)
              have p3 := hc3 j hjl
              have p4 := hc4 j hjl
              rw [← hBx.cell (p := ⟨b3, o3 + j, none⟩) (by show b3 < _; omega)] at p3
              rw [← hBx.cell (p := ⟨b4, o4 + j, none⟩) (by show b4 < _; omega)] at p4
              generalize lk.getD j 0 = z at p3 p4
              have v7 : ((z : Int) != (z : Int)) = false := by simp
              have v6 : ((z : Int) == (z : Int)) = true := by simp
              subst hA3 hA4
              have hji : (j : Int) < (lk.length : Int) := by omega
              clear hc3 hc4 d0 d1
              go_wp2
              go_quiet (fail)
              go_wp2
              go_roundw
              case rel => exact ⟨j + 1, by omega, by go_num, below_drewN hBx _, hX.drewN _⟩
              case measure => simp only [intOf]; omega
            · obtain rfl : j = lk.length := by omega
              clear d0 d1
              go_wp2
              go_roundw
              case rel => exact ⟨k + 1, by omega, by go_num, hX⟩
              case measure => simp only [intOf]; omega
        · obtain rfl : k = chs.length := by omega
          go_wp2
          go_ret
          exact ⟨rfl, hM.below⟩
end Go.Proofs.YtddobhneplfddaaDoor

namespace Go.Proofs.YtddobhneplfddaaDoor
set_option maxRecDepth 100000
open Go.RowKit

theorem known_yes {op : Int} (h : known op = true) : 0 ≤ op ∧ op < 20 := by simpa [known] using h
set_option maxHeartbeats 4000000 in
theorem knownP (op : Int) (w : World) :
    Calls Tryd.prog 52 #[.int .i64 op] w fun e w' => e = .returned (.bool (known op)) ∧ w = w' := by
  rcases (by omega : op < 0 ∨ (0 ≤ op ∧ op < 20) ∨ 20 ≤ op) with h | ⟨h, h'⟩ | h
  all_goals
    go_enter Tryd.func52, Tryd.ntmps52
    go_wp2
    go_ret
    exact ⟨by simp [known] <;> omega, rfl⟩

set_option maxHeartbeats 4000000 in
theorem knownR (op : Int) (w : World) :
    Calls Tryd.prog 37 #[.int .i64 op] w fun e w' => e = .returned (.bool (known op)) ∧ w = w' := by
  rcases (by omega : op < 0 ∨ (0 ≤ op ∧ op < 20) ∨ 20 ≤ op) with h | ⟨h, h'⟩ | h
  all_goals
    go_enter Tryd.func37, Tryd.ntmps37
    go_wp2
    go_ret
    exact ⟨by simp [known]; (try (rw [Bool.eq_iff_iff]; simp)); omega, rfl⟩

end Go.Proofs.YtddobhneplfddaaDoor

/-
  Layer 9 (code): what instruction says of an instruction.
-/
namespace Go.Proofs.YtddobhneplfddaaDoor
open Go.RowKit
set_option linter.unusedSimpArgs false
set_option linter.unusedVariables false
attribute [local go_sem ↓] Go.wp_at_zero Go.wp_at_succ

theorem row_n (k : Nat) : (row k).n = 0 ∨ (row k).n = 1 ∨ (row k).n = 2 ∨ (row k).n = 3 ∨ (row k).n = 4 := by
  rcases Nat.lt_or_ge k 20 with h | h
  · have : ∀ j, j < 20 → (row j).n = 0 ∨ (row j).n = 1 ∨ (row j).n = 2 ∨ (row j).n = 3 ∨ (row j).n = 4 := by decide
    exact this k h
  · left
    unfold row
    rw [List.getD_eq_getElem?_getD, List.getElem?_eq_none (by simpa [tab] using h)]; rfl
structure IMem (w : World) (m : ModD) (f : FuncD) (x : InsD) (wr : World) : Prop where
  below : Below w.heap.size w wr
  bm : Whl wr w.heap.size 25 #[.slice m.ta m.ths.length m.tc, .slice m.fa m.funcs.length m.fc]
  bf : Whl wr (w.heap.size + 1) 48 #[.string f.name, .slice f.pa f.params.length f.pc, .int .i64 f.regs, .int .i64 f.words, .slice f.ca f.code.length f.cc]
  bx : Whl wr (w.heap.size + 1 + 1) 65 #[.int .i64 x.op, .int .i64 x.a, .int .i64 x.b, .int .i64 x.c, .int .i64 x.n]
  br : Whl wr (w.heap.size + 1 + 1 + 1) 113 #[.string (strOf (row x.op.toNat).word), .int .i64 (row x.op.toNat).weight, .bool (row x.op.toNat).a, .bool (row x.op.toNat).b, .bool (row x.op.toNat).c, .int .i64 (row x.op.toNat).n, .bool (row x.op.toNat).wr]
theorem IMem.alloc {w wr : World} {m : ModD} {f : FuncD} {x : InsD} (h : IMem w m f x wr) (o : Obj) : IMem w m f x (wr.alloc o) := ⟨below_alloc h.below _, h.bm.alloc _, h.bf.alloc _, h.bx.alloc _, h.br.alloc _⟩
theorem whl_n1 (w : World) (o : Obj) (t : TypeId) (cs : Array Value) : Whl ((w.alloc o).alloc (.cells cs t)) (w.heap.size + 1) t cs := by
  have := Whl.new (w.alloc o) t cs
  rwa [World.size_alloc] at this
theorem IMem.start (w : World) (m : ModD) (f : FuncD) (x : InsD) : IMem w m f x ((((w.alloc (.cells #[.slice m.ta m.ths.length m.tc, .slice m.fa m.funcs.length m.fc] 25)).alloc (.cells #[.string f.name, .slice f.pa f.params.length f.pc, .int .i64 f.regs, .int .i64 f.words, .slice f.ca f.code.length f.cc] 48)).alloc (.cells #[.int .i64 x.op, .int .i64 x.a, .int .i64 x.b, .int .i64 x.c, .int .i64 x.n] 65)).alloc (.cells #[.string (strOf (row x.op.toNat).word), .int .i64 (row x.op.toNat).weight, .bool (row x.op.toNat).a, .bool (row x.op.toNat).b, .bool (row x.op.toNat).c, .int .i64 (row x.op.toNat).n, .bool (row x.op.toNat).wr] 113)) :=
  ⟨below_alloc (below_alloc (below_alloc (below_alloc (Below.refl _ _) _) _) _) _, (((Whl.new _ _ _).alloc _).alloc _).alloc _, ((whl_n1 _ _ _ _).alloc _).alloc _,
    (by have := whl_n1 (w.alloc (.cells #[.slice m.ta m.ths.length m.tc, .slice m.fa m.funcs.length m.fc] 25)) (.cells #[.string f.name, .slice f.pa f.params.length f.pc, .int .i64 f.regs, .int .i64 f.words, .slice f.ca f.code.length f.cc] 48) 65 #[.int .i64 x.op, .int .i64 x.a, .int .i64 x.b, .int .i64 x.c, .int .i64 x.n]; rw [World.size_alloc] at this; exact this.alloc _),
    (by have := whl_n1 ((w.alloc (.cells #[.slice m.ta m.ths.length m.tc, .slice m.fa m.funcs.length m.fc] 25)).alloc (.cells #[.string f.name, .slice f.pa f.params.length f.pc, .int .i64 f.regs, .int .i64 f.words, .slice f.ca f.code.length f.cc] 48)) (.cells #[.int .i64 x.op, .int .i64 x.a, .int .i64 x.b, .int .i64 x.c, .int .i64 x.n] 65) 113 #[.string (strOf (row x.op.toNat).word), .int .i64 (row x.op.toNat).weight, .bool (row x.op.toNat).a, .bool (row x.op.toNat).b, .bool (row x.op.toNat).c, .int .i64 (row x.op.toNat).n, .bool (row x.op.toNat).wr]; rw [World.size_alloc, World.size_alloc] at this; exact this)⟩

set_option maxHeartbeats 4000000 in
theorem insP_no (m : ModD) (f : FuncD) (x : InsD) (w : World) (wm : m.Wf) (wf : f.Wf) (wx : x.Wf) (hm : ModOk w w.heap.size m) (ht : TabOk w) (hk : known x.op = false) : Calls Tryd.prog 50 #[m.val, f.val, x.val] w fun e w' => e = .returned (.int .i64 (insErr m f x)) ∧ Below w.heap.size w w' := by
  go_enter Tryd.func50, Tryd.ntmps50
  go_wp2_with (go_at_call 52; refine (knownP _ _).mono ?_; rintro e w' ⟨rfl, rfl⟩)
  go_ret
  exact ⟨by rw [insErr, if_neg (by rw [hk]; decide)]; rfl, below_alloc (below_alloc (below_alloc (Below.refl _ _) _) _) _⟩

set_option maxHeartbeats 4000000 in
theorem insP_yes (m : ModD) (f : FuncD) (x : InsD) (w : World) (wm : m.Wf) (wf : f.Wf) (wx : x.Wf) (hm : ModOk w w.heap.size m) (ht : TabOk w) (hk : known x.op = true) : Calls Tryd.prog 50 #[m.val, f.val, x.val] w fun e w' => e = .returned (.int .i64 (insErr m f x)) ∧ Below w.heap.size w w' := by
  obtain ⟨k0, k1⟩ := known_yes hk
  have t1 := ht.word x.op.toNat (by omega)
  have t2 := ht.weight x.op.toNat (by omega)
  have t3 := ht.a x.op.toNat (by omega)
  have t4 := ht.b x.op.toNat (by omega)
  have t5 := ht.c x.op.toNat (by omega)
  have t6 := ht.n x.op.toNat (by omega)
  have t7 := ht.wr x.op.toNat (by omega)
  have hs := ht.size
  have HK := Lib.hid hk
  have HM := Lib.hid hm; clear hm
  have ii : ∀ k : Nat, k < 3 → ∀ w, (Instr.index 116 (.agg #[.bool (row x.op.toNat).a, .int .i64 x.a, .bool (row x.op.toNat).b, .int .i64 x.b, .bool (row x.op.toNat).c, .int .i64 x.c]) (.int .i64 k)).run Tryd.prog w = .ok (.agg #[.bool (hasK (row x.op.toNat) k), .int .i64 (regK x k)]) w := by
    intro k hk w
    have hk5 : k = 0 ∨ k = 1 ∨ k = 2 := by omega
    rcases hk5 with rfl | rfl | rfl
    · exact (show ∀ w, (Instr.index 116 (.agg #[.bool (row x.op.toNat).a, .int .i64 x.a, .bool (row x.op.toNat).b, .int .i64 x.b, .bool (row x.op.toNat).c, .int .i64 x.c]) (.int .i64 0)).run Tryd.prog w = .ok (.agg #[.bool (row x.op.toNat).a, .int .i64 x.a]) w from fun _ => by kernel_rfl) w
    · exact (show ∀ w, (Instr.index 116 (.agg #[.bool (row x.op.toNat).a, .int .i64 x.a, .bool (row x.op.toNat).b, .int .i64 x.b, .bool (row x.op.toNat).c, .int .i64 x.c]) (.int .i64 1)).run Tryd.prog w = .ok (.agg #[.bool (row x.op.toNat).b, .int .i64 x.b]) w from fun _ => by kernel_rfl) w
    · exact (show ∀ w, (Instr.index 116 (.agg #[.bool (row x.op.toNat).a, .int .i64 x.a, .bool (row x.op.toNat).b, .int .i64 x.b, .bool (row x.op.toNat).c, .int .i64 x.c]) (.int .i64 2)).run Tryd.prog w = .ok (.agg #[.bool (row x.op.toNat).c, .int .i64 x.c]) w from fun _ => by kernel_rfl) w
  have II := Lib.hid ii; clear ii
  go_enter Tryd.func50, Tryd.ntmps50
  go_wp2_with (go_at_call 52; refine (knownP _ _).mono ?_; rintro e w' ⟨rfl, rfl⟩)
  clear t1 t2 t3 t4 t5 t6 t7 hs
  go_loopw [34] (fun i wr => ∃ k : Nat, k ≤ 3 ∧ i = .int .i64 k ∧ fldsErr (row x.op.toNat) x f.regs k = 0 ∧ IMem w m f x wr) (fun i _ => 3 - (intOf i).toNat)
  case atStart => exact ⟨0, by omega, rfl, rfl, IMem.start w m f x⟩
  case round =>
    obtain ⟨k, hk3, rfl, hE, hM⟩ := hrel
    have HE := Lib.hid hE; clear hE
    have cbm1 : wr.cell? ⟨w.heap.size, 1, none⟩ = some (.slice m.fa m.funcs.length m.fc) := hM.bm.cell 1
    have cbf2 : wr.cell? ⟨w.heap.size + 1, 2, none⟩ = some (.int .i64 f.regs) := hM.bf.cell 2
    have cbf4 : wr.cell? ⟨w.heap.size + 1, 4, none⟩ = some (.slice f.ca f.code.length f.cc) := hM.bf.cell 4
    have cbx0 : wr.cell? ⟨w.heap.size + 1 + 1, 0, none⟩ = some (.int .i64 x.op) := hM.bx.cell 0
    have cbx1 : wr.cell? ⟨w.heap.size + 1 + 1, 1, none⟩ = some (.int .i64 x.a) := hM.bx.cell 1
    have cbx2 : wr.cell? ⟨w.heap.size + 1 + 1, 2, none⟩ = some (.int .i64 x.b) := hM.bx.cell 2
    have cbx3 : wr.cell? ⟨w.heap.size + 1 + 1, 3, none⟩ = some (.int .i64 x.c) := hM.bx.cell 3
    have cbx4 : wr.cell? ⟨w.heap.size + 1 + 1, 4, none⟩ = some (.int .i64 x.n) := hM.bx.cell 4
    have cbr5 : wr.cell? ⟨w.heap.size + 1 + 1 + 1, 5, none⟩ = some (.int .i64 (row x.op.toNat).n) := hM.br.cell 5
    by_cases hlt : k < 3
    · have ik := II.out k hlt
      have lf := hM.bf.lt
      rcases fldErr_cases (hasK (row x.op.toNat) k) (regK x k) f.regs with ⟨g1, g2, g0⟩ | ⟨g1, g2, g0⟩ | ⟨g1, g2, g0⟩ | ⟨g1, g2, g3, g0⟩ | ⟨g1, g2, g3, g0⟩
      · have hz : fldErr (hasK (row x.op.toNat) k) (regK x k) f.regs = 0 := g0
        have u1 : (regK x k != 0) = false := by simp [g2]
        go_wp2
        go_roundw
        case rel => exact ⟨k + 1, by omega, by go_num, by rw [fldsErr_next HE.out]; exact hz, hM.alloc _⟩
        case measure => simp only [intOf]; omega
      · have hz : fldErr (hasK (row x.op.toNat) k) (regK x k) f.regs = 62 := g0
        have u1 : (regK x k != 0) = true := by simpa using g2
        go_wp2
        go_ret
        exact ⟨by rw [insErr_fld HK.out hlt HE.out hz (by decide)]; rfl, below_alloc hM.below _⟩
      · have hz : fldErr (hasK (row x.op.toNat) k) (regK x k) f.regs = 61 := g0
        have v1 : decide (regK x k < 0) = true := by simp; omega
        go_wp2
        go_ret
        exact ⟨by rw [insErr_fld HK.out hlt HE.out hz (by decide)]; rfl, below_alloc hM.below _⟩
      · have hz : fldErr (hasK (row x.op.toNat) k) (regK x k) f.regs = 61 := g0
        have v1 : decide (regK x k < 0) = false := by simp; omega
        have v2 : decide (f.regs ≤ regK x k) = true := by simp; omega
        go_wp2
        go_ret
        exact ⟨by rw [insErr_fld HK.out hlt HE.out hz (by decide)]; rfl, below_alloc hM.below _⟩
      · have hz : fldErr (hasK (row x.op.toNat) k) (regK x k) f.regs = 0 := g0
        have v1 : decide (regK x k < 0) = false := by simp; omega
        have v2 : decide (f.regs ≤ regK x k) = false := by simp; omega
        go_wp2
        go_roundw
        case rel => exact ⟨k + 1, by omega, by go_num, by rw [fldsErr_next HE.out]; exact hz, hM.alloc _⟩
        case measure => simp only [intOf]; omega
    · obtain rfl : k = 3 := by omega
      have hfin : insErr m f x = nErr (row x.op.toNat) m f x := insErr_n HK.out HE.out
      have hcn := cbr5
      have hk4 : (row x.op.toNat).n = 0 ∨ (row x.op.toNat).n = 1 ∨ (row x.op.toNat).n = 2 ∨ (row x.op.toNat).n = 3 ∨ (row x.op.toNat).n = 4 := row_n x.op.toNat
      have HF := Lib.hid hfin; clear hfin
      have hflen := wm.flen
      have hclen := wf.clen
      clear cbr5
      rcases hk4 with hn | hn | hn | hn | hn <;> rw [hn] at hcn
      · by_cases h : x.n = 0
        · skip
          have u1 : (x.n != 0) = false := by simp [h]
          have hv : nErr (row x.op.toNat) m f x = 0 := by simp [nErr, hn, h]
          go_wp2
          go_ret
          exact ⟨by rw [HF.out, hv]; rfl, hM.below⟩
        · skip
          have u1 : (x.n != 0) = true := by simpa using h
          have hv : nErr (row x.op.toNat) m f x = 62 := by simp [nErr, hn, h]
          go_wp2
          go_ret
          exact ⟨by rw [HF.out, hv]; rfl, hM.below⟩
      · skip
        have hv : nErr (row x.op.toNat) m f x = 0 := by simp [nErr, hn]
        go_wp2
        go_ret
        exact ⟨by rw [HF.out, hv]; rfl, hM.below⟩
      · by_cases h : x.n < 0
        · skip
          have u1 : decide (x.n < 0) = true := by simp; omega
          have hv : nErr (row x.op.toNat) m f x = 63 := by simp [nErr, hn, h]
          go_wp2
          go_ret
          exact ⟨by rw [HF.out, hv]; rfl, hM.below⟩
        · by_cases h2 : (f.code.length : Int) ≤ x.n
          · skip
            have u1 : decide (x.n < 0) = false := by simp; omega
            have u2 : decide ((f.code.length : Int) ≤ x.n) = true := by simp; omega
            have hv : nErr (row x.op.toNat) m f x = 63 := by simp [nErr, hn, h2]
            go_wp2
            go_ret
            exact ⟨by rw [HF.out, hv]; rfl, hM.below⟩
          · skip
            have u1 : decide (x.n < 0) = false := by simp; omega
            have u2 : decide ((f.code.length : Int) ≤ x.n) = false := by simp; omega
            have hv : nErr (row x.op.toNat) m f x = 0 := by simp [nErr, hn]; omega
            go_wp2
            go_ret
            exact ⟨by rw [HF.out, hv]; rfl, hM.below⟩
      · by_cases h : x.n < 1
        · skip
          have u1 : decide (x.n < 1) = true := by simp; omega
          have hv : nErr (row x.op.toNat) m f x = 2 := by simp [nErr, hn, h]
          go_wp2
          go_ret
          exact ⟨by rw [HF.out, hv]; rfl, hM.below⟩
        · by_cases h2 : 4096 < x.n
          · skip
            have u1 : decide (x.n < 1) = false := by simp; omega
            have u2 : decide (4096 < x.n) = true := by simp; omega
            have hv : nErr (row x.op.toNat) m f x = 2 := by simp [nErr, hn, h2]
            go_wp2
            go_ret
            exact ⟨by rw [HF.out, hv]; rfl, hM.below⟩
          · skip
            have u1 : decide (x.n < 1) = false := by simp; omega
            have u2 : decide (4096 < x.n) = false := by simp; omega
            have hv : nErr (row x.op.toNat) m f x = 0 := by simp [nErr, hn]; omega
            go_wp2
            go_ret
            exact ⟨by rw [HF.out, hv]; rfl, hM.below⟩
      · by_cases h : x.n < 0
        · skip
          have u1 : decide (x.n < 0) = true := by simp; omega
          have hv : nErr (row x.op.toNat) m f x = 65 := by simp [nErr, hn, h]
          go_wp2
          go_quiet (fail)
          go_wp2
          go_ret
          exact ⟨by rw [HF.out, hv]; rfl, below_drewN hM.below _⟩
        · by_cases h2 : (m.funcs.length : Int) ≤ x.n
          · skip
            have u1 : decide (x.n < 0) = false := by simp; omega
            have u2 : decide ((m.funcs.length : Int) ≤ x.n) = true := by simp; omega
            have hv : nErr (row x.op.toNat) m f x = 65 := by simp [nErr, hn, h2]
            go_wp2
            go_quiet (fail)
            go_wp2
            go_ret
            exact ⟨by rw [HF.out, hv]; rfl, below_drewN hM.below _⟩
          · have hi : x.n.toNat < m.funcs.length := by omega
            obtain ⟨fb, fo, hfa, hfb, z0, z1, z2, z3, z4⟩ := funcs_cells (HM.out.funcs.below hM.below (Nat.le_refl _)) hi
            rw [hfa] at cbm1
            by_cases h3 : f.regs < wrap64 (x.b + (nthF m.funcs x.n.toNat).params.length)
            · skip
              have u1 : decide (x.n < 0) = false := by simp; omega
              have u2 : decide ((m.funcs.length : Int) ≤ x.n) = false := by simp; omega
              have u3 : decide (f.regs < wrap64 (x.b + (nthF m.funcs x.n.toNat).params.length)) = true := by simpa using h3
              have hv : nErr (row x.op.toNat) m f x = 65 := by simp [nErr, hn, h3]
              go_wp2
              go_quiet (fail)
              go_wp2
              go_ret
              exact ⟨by rw [HF.out, hv]; rfl, below_drewN hM.below _⟩
            · skip
              have u1 : decide (x.n < 0) = false := by simp; omega
              have u2 : decide ((m.funcs.length : Int) ≤ x.n) = false := by simp; omega
              have u3 : decide (f.regs < wrap64 (x.b + (nthF m.funcs x.n.toNat).params.length)) = false := by simpa using h3
              have hv : nErr (row x.op.toNat) m f x = 0 := by rw [nErr, if_neg (by omega), if_neg (by omega), if_neg (by omega), if_pos hn, if_neg (by omega)]
              go_wp2
              go_quiet (fail)
              go_wp2
              go_ret
              exact ⟨by rw [HF.out, hv]; rfl, below_drewN hM.below _⟩

theorem insP (m : ModD) (f : FuncD) (x : InsD) (w : World) (wm : m.Wf) (wf : f.Wf) (wx : x.Wf) (hm : ModOk w w.heap.size m) (ht : TabOk w) : Calls Tryd.prog 50 #[m.val, f.val, x.val] w fun e w' => e = .returned (.int .i64 (insErr m f x)) ∧ Below w.heap.size w w' := by
  cases hk : known x.op
  · exact insP_no m f x w wm wf wx hm ht hk
  · exact insP_yes m f x w wm wf wx hm ht hk
end Go.Proofs.YtddobhneplfddaaDoor

namespace Go.Proofs.YtddobhneplfddaaDoor
set_option maxRecDepth 100000
open Go.ChangeShapes Go.WideShapes Go.ChangeAt Go.RowKit
set_option linter.unusedSimpArgs false
set_option linter.unusedVariables false

def rowData {H : Type} (r : Row) : DataW H := .agg [.lit (.string r.word), .lit (.int .i64 r.weight), .lit (.bool r.a), .lit (.bool r.b), .lit (.bool r.c), .lit (.int .i64 r.n), .lit (.bool r.wr)]
theorem laid_is : (Rows.laid_soffit_code_rows : DataW Unit) = .agg (tab.map rowData) := rfl
theorem gRows : Tryd.prog.globalNamed "soffit/code.rows" = some 0 := by kernel_rfl
theorem tRows : (Tryd.prog.globals[0]?).map (·.type) = some 114 := by kernel_rfl
theorem c20 : Tryd.prog.cellsOf 114 = 140 := by kernel_rfl
theorem c7 : Tryd.prog.cellsOf 113 = 7 := by kernel_rfl
theorem cInt : Tryd.prog.cellsOf 3 = 1 := by kernel_rfl
theorem cI64 : Tryd.prog.cellsOf 2 = 1 := by kernel_rfl
theorem cBool : Tryd.prog.cellsOf 4 = 1 := by kernel_rfl
theorem cStr : Tryd.prog.cellsOf 9 = 1 := by kernel_rfl
theorem take_at {α : Type} {l : List α} {a i : Nat} {v : α} (hi : i < 7) (h : (((l.drop a).take 7).drop i).take 1 = [v]) : l[a + i]? = some v := by
  have := congrArg (·[0]?) h
  simp only [List.getElem?_take, List.getElem?_drop] at this
  rw [if_pos (by omega), if_pos (by omega)] at this
  simpa using this
theorem cells_rowed {W : World} {fuel : Nat} {l : List Value} {a : Nat} {r : Row} {p : List MemPlace}
    (h : DataW.trod (fun _ => ()) Tryd.prog W 0 (fun _ => true) false fuel 113 ((l.drop a).take 7) = some (rowData r, p)) :
    l[a]? = some (.string (strOf r.word)) ∧ l[a + 1]? = some (.int .i64 r.weight) ∧ l[a + 2]? = some (.bool r.a) ∧ l[a + 3]? = some (.bool r.b) ∧ l[a + 4]? = some (.bool r.c) ∧ l[a + 5]? = some (.int .i64 r.n) ∧ l[a + 6]? = some (.bool r.wr) := by
  obtain ⟨xs, n, rfl, hx, _, _, hf⟩ := DataW.trod_struct Tryd.underlying113 h
  simp only [Prod.mk.injEq, rowData, DataW.agg.injEq] at hx
  match xs, hx.1, hf with
  | [x0, x1, x2, x3, x4, x5, x6], hx1, hf =>
    simp only [List.map_cons, List.map_nil, List.cons.injEq, and_true] at hx1
    obtain ⟨e0, e1, e2, e3, e4, e5, e6⟩ := hx1
    have f0 := hf 0 _ rfl
    have f1 := hf 1 _ rfl
    have f2 := hf 2 _ rfl
    have f3 := hf 3 _ rfl
    have f4 := hf 4 _ rfl
    have f5 := hf 5 _ rfl
    have f6 := hf 6 _ rfl
    simp only [List.getElem_toArray, List.getElem_cons_zero, List.getElem_cons_succ, List.getElem?_cons_zero, List.getElem?_cons_succ, cInt, cI64, cBool, cStr] at f0 f1 f2 f3 f4 f5 f6
    obtain ⟨s, c0, y0, _⟩ := DataW.trod_string Tryd.underlying9 f0
    obtain ⟨i1, c1, y1, _⟩ := DataW.trod_int Tryd.underlying2 f1
    obtain ⟨b2, c2, y2⟩ := DataW.trod_bool Tryd.underlying4 f2
    obtain ⟨b3, c3, y3⟩ := DataW.trod_bool Tryd.underlying4 f3
    obtain ⟨b4, c4, y4⟩ := DataW.trod_bool Tryd.underlying4 f4
    obtain ⟨i5, c5, y5, _⟩ := DataW.trod_int Tryd.underlying3 f5
    obtain ⟨b6, c6, y6⟩ := DataW.trod_bool Tryd.underlying4 f6
    subst y0; subst y1; subst y2; subst y3; subst y4; subst y5; subst y6
    simp only [DataW.lit.injEq, Lit.string.injEq, Lit.int.injEq, Lit.bool.injEq, true_and] at e0 e1 e2 e3 e4 e5 e6
    have k0 := take_at (by omega) c0
    have k1 := take_at (by omega) c1
    have k2 := take_at (by omega) c2
    have k3 := take_at (by omega) c3
    have k4 := take_at (by omega) c4
    have k5 := take_at (by omega) c5
    have k6 := take_at (by omega) c6
    have es : s = strOf r.word := by
      obtain ⟨⟨q⟩⟩ := s
      show _ = (⟨r.word.toArray⟩ : ByteArray)
      rw [e0]
    rw [es] at k0
    rw [← e1] at k1; rw [← e2] at k2; rw [← e3] at k3; rw [← e4] at k4; rw [← e5] at k5; rw [← e6] at k6
    exact ⟨k0, k1, k2, k3, k4, k5, k6⟩

abbrev laidRows : List (String × DataW Unit) := [("soffit/code.rows", Rows.laid_soffit_code_rows)]
theorem tab_of_laid {W : World} (h : laidMetH Tryd.prog laidRows W) : TabOk W := by
  rw [MakeChecks.laidMetH_plain _ _ _ (by kernel_rfl)] at h
  obtain ⟨ps, ⟨g, t, cs, f, p, q, hg, ht, hv, hd, _, _⟩, _, _⟩ := h
  obtain rfl := Option.some.inj (gRows.symm.trans hg)
  obtain rfl := Option.some.inj (tRows.symm.trans ht)
  have cell : ∀ o, W.cell? ⟨0, o, none⟩ = cs[o]? := fun o => World.var?_cell hg hv o
  rw [laid_is] at hd
  obtain ⟨xs, m, rfl, hx, hlen, hn, hel⟩ := DataW.trod_array Tryd.underlying114 hd
  simp only [Prod.mk.injEq, DataW.agg.injEq] at hx
  rw [c7] at hel
  rw [c20] at hlen
  have each : ∀ k, k < 20 → _ := fun k hk => by
    have hr : xs[k]?.map (·.1) = some (rowData (row k)) := by
      have := congrArg (·[k]?) hx.1
      simp only [List.getElem?_map] at this
      rw [← this]
      have : tab[k]? = some (row k) := by
        have hk' : k < tab.length := hk
        simp [row, List.getD, List.getElem?_eq_getElem hk']
      rw [this]; rfl
    have he := hel k hk
    cases hxk : xs[k]? with
    | none => rw [hxk] at hr; cases hr
    | some y =>
      rw [hxk] at hr he
      simp only [Option.map_some, Option.some.injEq] at hr
      obtain ⟨y1, y2⟩ := y
      simp only at hr
      subst hr
      exact cells_rowed he
  refine ⟨?_, fun k hk => ?_, fun k hk => ?_, fun k hk => ?_, fun k hk => ?_, fun k hk => ?_, fun k hk => ?_, fun k hk => ?_⟩
  · have h0 := (each 0 (by omega)).1
    exact World.block_lt_of_cell? W ⟨0, 0, none⟩ ((cell 0).trans (by simpa using h0))
  all_goals rw [cell]
  · simpa using (each k hk).1
  · simpa using (each k hk).2.1
  · simpa using (each k hk).2.2.1
  · simpa using (each k hk).2.2.2.1
  · simpa using (each k hk).2.2.2.2.1
  · simpa using (each k hk).2.2.2.2.2.1
  · simpa using (each k hk).2.2.2.2.2.2

/-- The door's own heap meets the condition. -/
theorem door_met (os : Os) (args : Array Value) : laidMetH Tryd.prog laidRows ((World.doorLaid Tryd.prog 400 os).forCall (fun _ _ => 0) ⟨#[], args, []⟩).memory :=
  laidMetH_of_parts (laidMet_of_run' 8 (by kernel_rfl) (by kernel_rfl)) (by kernel_rfl)
theorem door_shaped (os : Os) (args : Array Value) : ((World.doorLaid Tryd.prog 400 os).forCall (fun _ _ => 0) ⟨#[], args, []⟩).Shaped Tryd.prog :=
  World.shaped_of_RefB (by kernel_rfl) (by kernel_rfl)
end Go.Proofs.YtddobhneplfddaaDoor

namespace Go.Proofs.YtddobhneplfddaaDoor
set_option maxRecDepth 100000
open Go.RowKit
set_option linter.unusedSimpArgs false
set_option linter.unusedVariables false
def atS (r : List Sp) (i : Int) : Sp := r.getD i.toNat ⟨0, 0⟩
def setS (r : List Sp) (i : Int) (a : Sp) : List Sp := r.set i.toNat a
/-- A span without an end that is 0. -/
def wo0 (a : Sp) : Sp := ⟨if a.lo = 0 then 1 else a.lo, if a.hi = 0 then -1 else a.hi⟩
def wo0Ok (a : Sp) : Bool := decide ((wo0 a).lo ≤ (wo0 a).hi)
/-- The numbers that hit a word, n away. -/
def wordsHi (n many : Int) : Int := if n < 0 ∧ wrap64 (many - 1 - n) < -n ∧ 0 < many then 9223372036854775807 else wrap64 (many - 1 - n)
def wordsOk (n many : Int) : Bool := !(n == -9223372036854775808) && decide (-n ≤ wordsHi n many)
def wordsS (n many : Int) : Sp := ⟨-n, wordsHi n many⟩
/-- The arguments of a call: each meets its declared range. -/
def callD : List Sp → Int → List Sp → Option (List Sp)
  | r, _, [] => some r
  | r, b, p :: ps => if (atS r b).meetOk p then callD (setS r b ((atS r b).meet p)) (b + 1) ps else none
/-- What registers may hold behind an instruction, on the way to another one; none: that way isn't gone. -/
def awayD (m : ModD) (f : FuncD) (frm to : Int) (x : InsD) (r : List Sp) : Option (List Sp) :=
  if x.op = 1 then some (setS r x.a ⟨x.n, x.n⟩)
  else if x.op = 2 then some (setS r x.a (atS r x.b))
  else if x.op = 6 ∨ x.op = 7 then if doOk x.op (atS r x.b) (atS r x.c) then some (setS (setS r x.c (wo0 (atS r x.c))) x.a (doSp x.op (atS r x.b) (atS r x.c))) else none
  else if 3 ≤ x.op ∧ x.op ≤ 10 then if doOk x.op (atS r x.b) (atS r x.c) then some (setS r x.a (doSp x.op (atS r x.b) (atS r x.c))) else none
  else if x.op = 11 then if wordsOk x.n f.words && (atS r x.b).meetOk (wordsS x.n f.words) then some (setS (setS r x.b ((atS r x.b).meet (wordsS x.n f.words))) x.a Sp.all) else none
  else if x.op = 12 then if wordsOk x.n f.words && (atS r x.b).meetOk (wordsS x.n f.words) then some (setS r x.b ((atS r x.b).meet (wordsS x.n f.words))) else none
  else if x.op = 13 then if (atS r x.a).meetOk ⟨0, wrap64 (x.n - 1)⟩ then some (setS r x.a ((atS r x.a).meet ⟨0, wrap64 (x.n - 1)⟩)) else none
  else if x.op = 15 ∨ x.op = 16 then
    if x.n = frm + 1 then some r
    else if (decide (to = x.n)) = (decide (x.op = 16)) then if (atS r x.a).meetOk ⟨0, 0⟩ then some (setS r x.a ((atS r x.a).meet ⟨0, 0⟩)) else none
    else if wo0Ok (atS r x.a) then some (setS r x.a (wo0 (atS r x.a))) else none
  else if x.op = 17 then
    if x.n = frm + 1 then some r
    else if x.a = x.b then if to = x.n then some r else none
    else if to = x.n then if (atS r x.b).lo ≤ (atS r x.a).hi then some (setS r x.a ⟨Sp.mx (atS r x.a).lo (atS r x.b).lo, (atS r x.a).hi⟩) else none
    else if (atS r x.a).belowOk (atS r x.b) then some (setS r x.a ((atS r x.a).belowA (atS r x.b))) else none
  else if x.op = 18 then some (setS r x.a (doSp 3 (atS r x.a) ⟨1, 1⟩))
  else if x.op = 19 then (callD r x.b (nthF m.funcs x.n.toNat).params).map fun r' => setS r' x.a Sp.all
  else some r
/-! ### Where an instruction leads -/
def inCode (f : FuncD) (n : Int) : Bool := decide (0 ≤ n) && decide (n < f.code.length)
def nextL (at_ : Int) (x : InsD) : List Int :=
  if x.op = 0 then [] else if x.op = 14 ∨ x.op = 18 then [x.n] else if x.op = 15 ∨ x.op = 16 ∨ x.op = 17 then (if x.n = at_ + 1 then [x.n] else [at_ + 1, x.n])
  else if known x.op then [at_ + 1] else []
def nextD (f : FuncD) (at_ : Int) : List Int := if inCode f at_ then (nextL at_ (nthX f.code at_.toNat)).filter (inCode f) else []
/-! ### The analysis -/
structure StD where
  ins : List (Option (List Sp))
  marked : List Bool
  joined : List Nat
  changes : List (List Nat)
def sameSp (a b : Sp) : Bool := a.lo == b.lo && a.hi == b.hi
def growS (wide : Bool) (ths : List Int) (a b : Sp) : Sp := if wide then widen a b ths else a.join b
def mergeD (s : StD) (to : Nat) (next : List Sp) (ths : List Int) : StD :=
  match s.ins.getD to none with
  | none => { s with ins := s.ins.set to (some next), marked := s.marked.set to true }
  | some old =>
    if List.zipWith (fun a b => sameSp (a.join b) a) old next |>.all id then s
    else { ins := s.ins.set to (some (List.zipWith (growS (decide (4 < s.joined.getD to 0 + 1)) ths) old next)), marked := s.marked.set to true, joined := s.joined.set to (s.joined.getD to 0 + 1),
           changes := s.changes.set to (List.zipWith (fun (c : Nat) (ab : Sp × Sp) => if sameSp (ab.1.join ab.2) ab.1 then c else c + 1) (s.changes.getD to []) (old.zip next)) }
def stepD (m : ModD) (f : FuncD) (frm : Nat) (inn : List Sp) : List Int → StD → StD
  | [], s => s
  | to :: l, s => stepD m f frm inn l (match awayD m f frm to (nthX f.code frm) inn with | none => s | some out => mergeD s to.toNat out m.ths)
def visitD (m : ModD) (f : FuncD) (s : StD) (at_ : Nat) : StD :=
  if s.marked.getD at_ false then stepD m f at_ ((s.ins.getD at_ none).getD []) (nextD f at_) { s with marked := s.marked.set at_ false } else s
def beginD (f : FuncD) : List Sp := f.params ++ List.replicate (f.regs.toNat - f.params.length) ⟨0, 0⟩
def startD (f : FuncD) : StD :=
  { ins := (List.replicate f.code.length none).set 0 (some (beginD f)), marked := (List.replicate f.code.length false).set 0 true, joined := List.replicate f.code.length 0, changes := List.replicate f.code.length (List.replicate f.regs.toNat 0) }
end Go.Proofs.YtddobhneplfddaaDoor

namespace Go.Proofs.YtddobhneplfddaaDoor
set_option maxRecDepth 100000
open Go.RowKit
theorem cellA' {w : World} {o : Obj} {p : Addr} {v : Value} (c : w.cell? p = some v) : (w.alloc o).cell? p = some v := cellK ((Below.refl w.heap.size w).alloc (Nat.le_refl _) o) c
theorem keepB7 {w w1 w2 : World} (hb : Below w1.heap.size w1 w2) {p0 p1 p2 p3 p4 p5 p6 : Addr} {v0 v1 v2 v3 v4 v5 v6 : Value} : (Below w.heap.size w w1 ∧ w1.cell? p0 = some v0 ∧ w1.cell? p1 = some v1 ∧ w1.cell? p2 = some v2 ∧ w1.cell? p3 = some v3 ∧ w1.cell? p4 = some v4 ∧ w1.cell? p5 = some v5 ∧ w1.cell? p6 = some v6) → (Below w.heap.size w w2 ∧ w2.cell? p0 = some v0 ∧ w2.cell? p1 = some v1 ∧ w2.cell? p2 = some v2 ∧ w2.cell? p3 = some v3 ∧ w2.cell? p4 = some v4 ∧ w2.cell? p5 = some v5 ∧ w2.cell? p6 = some v6) := fun ⟨hB, h⟩ => ⟨below_step hB hb, keep7 hb h⟩
end Go.Proofs.YtddobhneplfddaaDoor
