/-
  SpanWidens: of all spans, by any thresholds, Widen of the program answers as the reference does, and the thresholds stay as they are. No condition but the form's own reach.
-/
import Derived.Test.YtdoikgjdjdgnbaaFixed
import Derived.Test.YtdoikgjdjdgnbaaSpanR
import Derived.Test.YtdoikgjdjdgnbaaKeep
import Derived.Test.YtdoikgjdjdgnbaaOpen
import Derived.Test.YtdoikgjdjdgnbaaWidR
import Derived.Maps.AppendAt
import Derived.OwnWalk
import Derived.Laws.AppendOwnNone
import Derived.Deep.CondSized
namespace Go.Proofs.Ytdoikgjdjdgnbaa
open Go.RowKit
set_option linter.unusedSimpArgs false
set_option linter.unusedVariables false
attribute [local go_sem ↓] Go.wp_at_zero Go.wp_at_succ

theorem info2 : (Try.prog.info? 2).map (fun i => (i.zero, i.size, i.bytes)) = some (some (.int .i64 0), 1, 8) := by kernel_rfl

/-- An owned row of integers is a slice of integers that can be read. -/
theorem ints_of_own {w : World} {base : Nat} {e : TypeId} {v : Value} {ts : List Int} {n : Nat} (hn : n = ts.length) (h : w.ownsRow base e 1 v n (ts.map (Value.int .i64))) :
    ∃ A c, v = .slice A ts.length c ∧ IntsAt w w.heap.size A ts := by
  subst hn
  have hlt := h.lt
  rcases h with ⟨hl, ⟨rfl, h0⟩ | ⟨g, cap, cur, rfl, hb, hh, hnc, hm, hs, ht⟩⟩
  · refine ⟨none, 0, by rw [h0], fun hp => by omega⟩
  · refine ⟨some ⟨g, 0, none⟩, cap, rfl, fun hp => ⟨g, 0, rfl, (hlt g rfl).2, fun k hk => ?_⟩⟩
    have hc : w.cell? ⟨g, 0 + k, none⟩ = cur[k]? := by simp [World.cell?, hh]
    rw [hc]
    have h1 : (cur.toList.take (ts.length * 1))[k]? = (ts.map (Value.int .i64))[k]? := by rw [ht]
    rw [List.getElem?_take_of_lt (by omega), Array.getElem?_toList] at h1
    rw [h1]
    simp [nthI, hk]
theorem ownsRow_made2 (w : World) (o p : Obj) (e : TypeId) : (((w.alloc o).alloc p).alloc (.cells #[] e)).ownsRow w.heap.size e 1 (.slice (some ⟨w.heap.size + 1 + 1, 0, none⟩) 0 0) 0 [] := by
  have := World.ownsRow_made (base := w.heap.size) (e := e) (size := 1) ((w.alloc o).alloc p) #[] 0 (by simp; omega) (by decide) rfl
  rwa [World.size_alloc, World.size_alloc] at this
/-- What is known behind 'append([]int64{}, ts...)': the copy reads as the slice did, the two boxes stand, nothing below has turned. -/
theorem own_after {w w1 : World} {a b : Sp} {v1 : Value} {ts : List Int} {n : Nat} {row : Option Nat} (hn : n = ts.length) (hrow : row = some (w.heap.size + 1 + 1))
    (hown : w1.ownsRow w.heap.size 2 1 v1 n (ts.map (Value.int .i64)))
    (hg : (((w.alloc (.cells #[.int .i64 a.lo, .int .i64 a.hi] 23)).alloc (.cells #[.int .i64 b.lo, .int .i64 b.hi] 23)).alloc (.cells #[] 2)).grownBy w1 row) :
    ∃ A c, v1 = .slice A ts.length c ∧ IntsAt w1 w1.heap.size A ts ∧ Below w.heap.size w w1 ∧ Whl w1 w.heap.size 23 #[.int .i64 a.lo, .int .i64 a.hi] ∧ Whl w1 (w.heap.size + 1) 23 #[.int .i64 b.lo, .int .i64 b.hi] := by
  subst hrow
  obtain ⟨A, c, hv, hI⟩ := ints_of_own hn hown
  refine ⟨A, c, hv, hI, ?_, ?_, ?_⟩
  · refine Below.grown ?x hg ?s (fun k hk => by injection hk; omega)
    case x => repeat (first | exact Below.refl _ _ | apply below_alloc)
    case s => simp; omega
  · exact (((Whl.new w _ _).alloc _).alloc _).grown hg (by intro h; injection h; omega)
  · exact ((Whl.new1 w _ _ _).alloc _).grown hg (by intro h; injection h; omega)
theorem ints_S {w w' : World} {A : Option Addr} {ts : List Int} {R : Prop} (h : Below w.heap.size w w' ∧ R) (ht : IntsAt w w.heap.size A ts) : IntsAt w' w'.heap.size A ts :=
  (ht.below h.1 (Nat.le_refl _)).more h.1.size
theorem keepS6 {w w1 w2 : World} (hb : Below w1.heap.size w1 w2) {p0 p1 p2 p3 p4 p5 : Addr} {v0 v1 v2 v3 v4 v5 : Value} : (Below w.heap.size w w1 ∧ w1.cell? p0 = some v0 ∧ w1.cell? p1 = some v1 ∧ w1.cell? p2 = some v2 ∧ w1.cell? p3 = some v3 ∧ w1.cell? p4 = some v4 ∧ w1.cell? p5 = some v5) →
    (Below w.heap.size w w2 ∧ w2.cell? p0 = some v0 ∧ w2.cell? p1 = some v1 ∧ w2.cell? p2 = some v2 ∧ w2.cell? p3 = some v3 ∧ w2.cell? p4 = some v4 ∧ w2.cell? p5 = some v5) := fun ⟨hB, h⟩ => ⟨below_step hB hb, keep6 hb h⟩

set_option maxRecDepth 100000 in
set_option maxHeartbeats 1000000 in
theorem spanWidensW (a b : Sp) (ad : Addr) (c : Nat) (ts : List Int) (w : World) (hm : ts.length * 8 ≤ 140737488351232) (hp : 0 < ts.length) (ht : IntsAt w w.heap.size (some ad) ts) : Calls Try.prog 6 #[.agg #[.int .i64 a.lo, .int .i64 a.hi], .agg #[.int .i64 b.lo, .int .i64 b.hi], .slice (some ad) ts.length c] w fun e w' => e = .returned (.bool true) ∧ Below w.heap.size w w' := by
  obtain ⟨i0, hi, hz0, hz1, hz2⟩ := info_parts info2
  have hsc := ht hp
  obtain ⟨bt, off, hadq, hbt, hct⟩ := hsc
  obtain rfl : ad = ⟨bt, off, none⟩ := by injection hadq
  clear hadq
  have HC := Lib.hid hct; clear hct
  go_enter Try.func6, Try.ntmps6
  go_wp2_with (first
    | (at_builtin
       refine wpList_append_own _ rfl _ _ _ rfl w.heap.size 2 i0 (.int .i64 0) 1 8 Try.underlying38 hi hz0 hz1 hz2 rfl (by decide) _ 0 [] rfl (ownsRow_made2 w _ _ 2) ⟨bt, off, none⟩ ts.length c (ts.map (Value.int .i64)) rfl ?c1 ?c2 ?c3 ?c4 ?c5 ?c6 ?_
       case c1 => simp
       case c2 =>
         intro j u hu
         obtain ⟨hj, rfl⟩ := List.getElem?_eq_some_iff.1 hu
         have hj' : j < ts.length := by simpa using hj
         have h1 : w.cell? ⟨bt, off + j, none⟩ = some (.int .i64 (nthI ts j)) := HC.out j hj'
         have e : (⟨bt, off, none⟩ : Addr).add j = ⟨bt, off + j, none⟩ := by unfold Addr.add; split <;> simp_all
         rw [e]
         refine (Below.cell (w := w) (B := w.heap.size) (p := ⟨bt, off + j, none⟩) (by repeat (first | exact Below.refl _ _ | apply below_alloc)) hbt).trans ?_
         rw [h1]; simp [nthI, hj']
       case c3 => intro u hu; obtain ⟨x, _, rfl⟩ := List.mem_map.1 hu; rfl
       case c4 => unfold maxLen; omega
       case c5 => omega
       case c6 => simp; omega
       intro v1 w1 hown hgrow hnil
       obtain ⟨A1, c1, hv1, hI1, hB1, hA, hB⟩ := own_after (a := a) (b := b) (Nat.zero_add _) rfl (by simpa using hown) hgrow
       rw [hv1]
       have d1 : w1.cell? ⟨w.heap.size, 0, none⟩ = some (.int .i64 a.lo) := hA.cell 0
       have d2 : w1.cell? ⟨w.heap.size, 1, none⟩ = some (.int .i64 a.hi) := hA.cell 1
       have d3 : w1.cell? ⟨w.heap.size + 1, 0, none⟩ = some (.int .i64 b.lo) := hB.cell 0
       have d4 : w1.cell? ⟨w.heap.size + 1, 1, none⟩ = some (.int .i64 b.hi) := hB.cell 1
       have l0 := hA.lt
       have l1 := hB.lt
       clear hgrow hown hv1 hnil)
    | (go_at_call 26
       refine (widenP a b A1 c1 ts _ (by omega) hI1).mono ?_
       rintro e w2 ⟨rfl, hb2⟩
       have hI2 := (hI1.below hb2 (Nat.le_refl _)).more hb2.size
       have hB2 : Below w.heap.size w w2 := below_step hB1 hb2
       have hT2 : IntsAt w2 w2.heap.size (some ⟨bt, off, none⟩) ts := (ht.below hB2 (Nat.le_refl _)).more hB2.size
       have d5 : w2.cell? ⟨w.heap.size, 0, none⟩ = some (.int .i64 a.lo) := cellK hb2 d1
       have d6 : w2.cell? ⟨w.heap.size, 1, none⟩ = some (.int .i64 a.hi) := cellK hb2 d2
       have d7 : w2.cell? ⟨w.heap.size + 1, 0, none⟩ = some (.int .i64 b.lo) := cellK hb2 d3
       have d8 : w2.cell? ⟨w.heap.size + 1, 1, none⟩ = some (.int .i64 b.hi) := cellK hb2 d4
       have l3 : w.heap.size < w2.heap.size := Nat.lt_of_lt_of_le l0 hb2.size
       have l4 : w.heap.size + 1 < w2.heap.size := Nat.lt_of_lt_of_le l1 hb2.size))
  go_region_held3 (fun w' => Below w2.heap.size w2 w' ∧ w'.cell? ⟨w.heap.size, 0, none⟩ = some (.int .i64 a.lo) ∧ w'.cell? ⟨w.heap.size, 1, none⟩ = some (.int .i64 a.hi) ∧ w'.cell? ⟨w.heap.size + 1, 0, none⟩ = some (.int .i64 b.lo) ∧ w'.cell? ⟨w.heap.size + 1, 1, none⟩ = some (.int .i64 b.hi) ∧ w'.cell? ⟨w2.heap.size, 0, none⟩ = some (.int .i64 (widen a b ts).lo) ∧ w'.cell? ⟨w2.heap.size, 1, none⟩ = some (.int .i64 (widen a b ts).hi))
    (first | exact keepS6 (by assumption) (by assumption) | (go_split_ands; refine ⟨(by assumption : Below _ _ _).drew, ?_⟩; go_simp) | (refine ⟨Below.drew (below_alloc (Below.refl _ _) _), ?_⟩; go_simp))
    (first
      | (go_at_call 13; refine (fixedL _).mono ?_; rintro e w3 ⟨rfl, hb3⟩)
      | (go_at_call 27; refine (widenR a b _ c ts _ (by omega) (ints_S (by assumption) hT2)).mono ?_; rintro e w4 ⟨rfl, hb4⟩))
  go_wp2
  have hS : Below w2.heap.size w2 w4 := (by assumption : _ ∧ _).1
  have H1 := Lib.hid hI2
  have H2 := Lib.hid hT2
  clear hI2 hT2 hI1 ht
  go_loopw [9] (fun i wr => ∃ k : Nat, k ≤ ts.length ∧ i = .int .i64 k ∧ Below w2.heap.size w2 wr) (fun i _ => ts.length - (intOf i).toNat)
  case atStart => exact ⟨0, Nat.zero_le _, rfl, hS⟩
  case round =>
    obtain ⟨k, hk, rfl, hM⟩ := hrel
    by_cases hlt : k < ts.length
    · obtain ⟨b1, o1, rfl, hb1, hc1⟩ := (H1.out.below hM (Nat.le_refl _)) (by omega)
      obtain ⟨b2', o2, he2, hb2', hc2⟩ := (H2.out.below hM (Nat.le_refl _)) (by omega)
      have e1 : wr.cell? ⟨b1, o1 + k, none⟩ = some (.int .i64 (nthI ts k)) := hc1 k hlt
      have e2 : wr.cell? ⟨bt, off + k, none⟩ = some (.int .i64 (nthI ts k)) := by
        have := hc2 k hlt
        injection he2 with he2; injection he2 with x1 x2
        rw [x1, x2]; exact this
      clear hc1 hc2 he2
      go_wp2
      go_quiet (fail)
      go_wp2
      go_roundw
      case rel => exact ⟨k + 1, by omega, by go_num, ⟨hM.os, hM.tape, hM.output, hM.size, hM.block⟩⟩
      case measure => simp [intOf]; omega
    · go_wp2
      go_ret
      refine ⟨rfl, ?_⟩
      go_light
      exact below_step hB2 hM
set_option maxRecDepth 100000 in
set_option maxHeartbeats 1000000 in
theorem spanWidensE (a b : Sp) (ad : Addr) (c : Nat) (ts : List Int) (w : World) (hm : ts.length * 8 ≤ 140737488351232) (hp : ts = []) (ht : IntsAt w w.heap.size (some ad) ts) : Calls Try.prog 6 #[.agg #[.int .i64 a.lo, .int .i64 a.hi], .agg #[.int .i64 b.lo, .int .i64 b.hi], .slice (some ad) ts.length c] w fun e w' => e = .returned (.bool true) ∧ Below w.heap.size w w' := by
  obtain ⟨i0, hi, hz0, hz1, hz2⟩ := info_parts info2
  have hp0 : ts.length = 0 := by rw [hp]; rfl
  have HP := Lib.hid hp0; clear hp0
  have HE := Lib.hid hp; clear hp
  go_enter Try.func6, Try.ntmps6
  go_wp2_with (first
    | (at_builtin
       refine wpList_append_own _ rfl _ _ _ rfl w.heap.size 2 i0 (.int .i64 0) 1 8 Try.underlying38 hi hz0 hz1 hz2 rfl (by decide) _ 0 [] rfl (ownsRow_made2 w _ _ 2) ad ts.length c (ts.map (Value.int .i64)) rfl ?c1 ?c2 ?c3 ?c4 ?c5 ?c6 ?_
       case c1 => simp
       case c2 =>
         intro j u hu
         rw [HE.out] at hu; simp at hu
       case c3 => intro u hu; obtain ⟨x, _, rfl⟩ := List.mem_map.1 hu; rfl
       case c4 => unfold maxLen; omega
       case c5 => omega
       case c6 => simp; omega
       intro v1 w1 hown hgrow hnil
       obtain ⟨A1, c1, hv1, hI1, hB1, hA, hB⟩ := own_after (a := a) (b := b) (Nat.zero_add _) rfl (by simpa using hown) hgrow
       rw [hv1]
       have d1 : w1.cell? ⟨w.heap.size, 0, none⟩ = some (.int .i64 a.lo) := hA.cell 0
       have d2 : w1.cell? ⟨w.heap.size, 1, none⟩ = some (.int .i64 a.hi) := hA.cell 1
       have d3 : w1.cell? ⟨w.heap.size + 1, 0, none⟩ = some (.int .i64 b.lo) := hB.cell 0
       have d4 : w1.cell? ⟨w.heap.size + 1, 1, none⟩ = some (.int .i64 b.hi) := hB.cell 1
       have l0 := hA.lt
       have l1 := hB.lt
       clear hgrow hown hv1 hnil)
    | (go_at_call 26
       refine (widenP a b A1 c1 ts _ (by omega) hI1).mono ?_
       rintro e w2 ⟨rfl, hb2⟩
       have hI2 := (hI1.below hb2 (Nat.le_refl _)).more hb2.size
       have hB2 : Below w.heap.size w w2 := below_step hB1 hb2
       have hT2 : IntsAt w2 w2.heap.size (some ad) ts := (ht.below hB2 (Nat.le_refl _)).more hB2.size
       have d5 : w2.cell? ⟨w.heap.size, 0, none⟩ = some (.int .i64 a.lo) := cellK hb2 d1
       have d6 : w2.cell? ⟨w.heap.size, 1, none⟩ = some (.int .i64 a.hi) := cellK hb2 d2
       have d7 : w2.cell? ⟨w.heap.size + 1, 0, none⟩ = some (.int .i64 b.lo) := cellK hb2 d3
       have d8 : w2.cell? ⟨w.heap.size + 1, 1, none⟩ = some (.int .i64 b.hi) := cellK hb2 d4
       have l3 : w.heap.size < w2.heap.size := Nat.lt_of_lt_of_le l0 hb2.size
       have l4 : w.heap.size + 1 < w2.heap.size := Nat.lt_of_lt_of_le l1 hb2.size))
  go_region_held3 (fun w' => Below w2.heap.size w2 w' ∧ w'.cell? ⟨w.heap.size, 0, none⟩ = some (.int .i64 a.lo) ∧ w'.cell? ⟨w.heap.size, 1, none⟩ = some (.int .i64 a.hi) ∧ w'.cell? ⟨w.heap.size + 1, 0, none⟩ = some (.int .i64 b.lo) ∧ w'.cell? ⟨w.heap.size + 1, 1, none⟩ = some (.int .i64 b.hi) ∧ w'.cell? ⟨w2.heap.size, 0, none⟩ = some (.int .i64 (widen a b ts).lo) ∧ w'.cell? ⟨w2.heap.size, 1, none⟩ = some (.int .i64 (widen a b ts).hi))
    (first | exact keepS6 (by assumption) (by assumption) | (go_split_ands; refine ⟨(by assumption : Below _ _ _).drew, ?_⟩; go_simp) | (refine ⟨Below.drew (below_alloc (Below.refl _ _) _), ?_⟩; go_simp))
    (first
      | (go_at_call 13; refine (fixedL _).mono ?_; rintro e w3 ⟨rfl, hb3⟩)
      | (go_at_call 27; refine (widenR a b _ c ts _ (by omega) (ints_S (by assumption) hT2)).mono ?_; rintro e w4 ⟨rfl, hb4⟩))
  go_wp2
  have hS : Below w2.heap.size w2 w4 := (by assumption : _ ∧ _).1
  have H1 := Lib.hid hI2
  have H2 := Lib.hid hT2
  clear hI2 hT2 hI1 ht
  go_loopw [9] (fun i wr => ∃ k : Nat, k ≤ ts.length ∧ i = .int .i64 k ∧ Below w2.heap.size w2 wr) (fun i _ => ts.length - (intOf i).toNat)
  case atStart => exact ⟨0, Nat.zero_le _, rfl, hS⟩
  case round =>
    obtain ⟨k, hk, rfl, hM⟩ := hrel
    have hlt : ¬ k < ts.length := by have := HP.out; omega
    · go_wp2
      go_ret
      refine ⟨rfl, ?_⟩
      go_light
      exact below_step hB2 hM
set_option maxRecDepth 100000 in
set_option maxHeartbeats 1000000 in
theorem spanWidensN (a b : Sp) (w : World) (ht : IntsAt w w.heap.size none []) : Calls Try.prog 6 #[.agg #[.int .i64 a.lo, .int .i64 a.hi], .agg #[.int .i64 b.lo, .int .i64 b.hi], .slice none 0 0] w fun e w' => e = .returned (.bool true) ∧ Below w.heap.size w w' := by
  obtain ⟨i0, hi, hz0, hz1, hz2⟩ := info_parts info2
  go_enter Try.func6, Try.ntmps6
  go_wp2_with (first
    | (at_builtin
       refine wpList_append_own_none rfl _ _ _ rfl w.heap.size 2 i0 1 Try.underlying38 hi _ 0 [] rfl (ownsRow_made2 w _ _ 2) ?cx ?_
       case cx => rfl
       have hB1 : Below w.heap.size w (((w.alloc (.cells #[.int .i64 a.lo, .int .i64 a.hi] 23)).alloc (.cells #[.int .i64 b.lo, .int .i64 b.hi] 23)).alloc (.cells #[] 2)) := by repeat (first | exact Below.refl _ _ | apply below_alloc)
       have d1 : (((w.alloc (.cells #[.int .i64 a.lo, .int .i64 a.hi] 23)).alloc (.cells #[.int .i64 b.lo, .int .i64 b.hi] 23)).alloc (.cells #[] 2)).cell? ⟨w.heap.size, 0, none⟩ = some (.int .i64 a.lo) := by go_simp
       have d2 : (((w.alloc (.cells #[.int .i64 a.lo, .int .i64 a.hi] 23)).alloc (.cells #[.int .i64 b.lo, .int .i64 b.hi] 23)).alloc (.cells #[] 2)).cell? ⟨w.heap.size, 1, none⟩ = some (.int .i64 a.hi) := by go_simp
       have d3 : (((w.alloc (.cells #[.int .i64 a.lo, .int .i64 a.hi] 23)).alloc (.cells #[.int .i64 b.lo, .int .i64 b.hi] 23)).alloc (.cells #[] 2)).cell? ⟨w.heap.size + 1, 0, none⟩ = some (.int .i64 b.lo) := by go_simp
       have d4 : (((w.alloc (.cells #[.int .i64 a.lo, .int .i64 a.hi] 23)).alloc (.cells #[.int .i64 b.lo, .int .i64 b.hi] 23)).alloc (.cells #[] 2)).cell? ⟨w.heap.size + 1, 1, none⟩ = some (.int .i64 b.hi) := by go_simp
       have l0 : w.heap.size < (((w.alloc (.cells #[.int .i64 a.lo, .int .i64 a.hi] 23)).alloc (.cells #[.int .i64 b.lo, .int .i64 b.hi] 23)).alloc (.cells #[] 2)).heap.size := by simp; omega
       have l1 : w.heap.size + 1 < (((w.alloc (.cells #[.int .i64 a.lo, .int .i64 a.hi] 23)).alloc (.cells #[.int .i64 b.lo, .int .i64 b.hi] 23)).alloc (.cells #[] 2)).heap.size := by simp)
    | (go_at_call 26
       have hI1 : IntsAt (((w.alloc (.cells #[.int .i64 a.lo, .int .i64 a.hi] 23)).alloc (.cells #[.int .i64 b.lo, .int .i64 b.hi] 23)).alloc (.cells #[] 2)) (((w.alloc (.cells #[.int .i64 a.lo, .int .i64 a.hi] 23)).alloc (.cells #[.int .i64 b.lo, .int .i64 b.hi] 23)).alloc (.cells #[] 2)).heap.size (some ⟨w.heap.size + 1 + 1, 0, none⟩) [] := fun h => by simp at h
       refine (widenP a b (some ⟨w.heap.size + 1 + 1, 0, none⟩) 0 [] _ (by decide) hI1).mono ?_
       rintro e w2 ⟨rfl, hb2⟩
       have hI2 := (hI1.below hb2 (Nat.le_refl _)).more hb2.size
       have hB2 : Below w.heap.size w w2 := below_step hB1 hb2
       have hT2 : IntsAt w2 w2.heap.size none [] := (ht.below hB2 (Nat.le_refl _)).more hB2.size
       have d5 : w2.cell? ⟨w.heap.size, 0, none⟩ = some (.int .i64 a.lo) := cellK hb2 d1
       have d6 : w2.cell? ⟨w.heap.size, 1, none⟩ = some (.int .i64 a.hi) := cellK hb2 d2
       have d7 : w2.cell? ⟨w.heap.size + 1, 0, none⟩ = some (.int .i64 b.lo) := cellK hb2 d3
       have d8 : w2.cell? ⟨w.heap.size + 1, 1, none⟩ = some (.int .i64 b.hi) := cellK hb2 d4
       have l3 : w.heap.size < w2.heap.size := Nat.lt_of_lt_of_le l0 hb2.size
       have l4 : w.heap.size + 1 < w2.heap.size := Nat.lt_of_lt_of_le l1 hb2.size))
  go_region_held3 (fun w' => Below w2.heap.size w2 w' ∧ w'.cell? ⟨w.heap.size, 0, none⟩ = some (.int .i64 a.lo) ∧ w'.cell? ⟨w.heap.size, 1, none⟩ = some (.int .i64 a.hi) ∧ w'.cell? ⟨w.heap.size + 1, 0, none⟩ = some (.int .i64 b.lo) ∧ w'.cell? ⟨w.heap.size + 1, 1, none⟩ = some (.int .i64 b.hi) ∧ w'.cell? ⟨w2.heap.size, 0, none⟩ = some (.int .i64 (widen a b []).lo) ∧ w'.cell? ⟨w2.heap.size, 1, none⟩ = some (.int .i64 (widen a b []).hi))
    (first | exact keepS6 (by assumption) (by assumption) | (go_split_ands; refine ⟨(by assumption : Below _ _ _).drew, ?_⟩; go_simp) | (refine ⟨Below.drew (below_alloc (Below.refl _ _) _), ?_⟩; go_simp))
    (first
      | (go_at_call 13; refine (fixedL _).mono ?_; rintro e w3 ⟨rfl, hb3⟩)
      | (go_at_call 27; refine (widenR a b _ 0 [] _ (by decide) (ints_S (by assumption) hT2)).mono ?_; rintro e w4 ⟨rfl, hb4⟩))
  go_wp2
  have hS : Below w2.heap.size w2 w4 := (by assumption : _ ∧ _).1
  have H1 := Lib.hid hI2
  have H2 := Lib.hid hT2
  clear hI2 hT2 hI1 ht
  go_loopw [9] (fun i wr => ∃ k : Nat, k ≤ 0 ∧ i = .int .i64 k ∧ Below w2.heap.size w2 wr) (fun i _ => 0 - (intOf i).toNat)
  case atStart => exact ⟨0, Nat.zero_le _, rfl, hS⟩
  case round =>
    obtain ⟨k, hk, rfl, hM⟩ := hrel
    · go_wp2
      go_ret
      refine ⟨rfl, ?_⟩
      go_light
      exact below_step hB2 hM
theorem spanWidensA (a b : Sp) (A : Option Addr) (c : Nat) (ts : List Int) (w : World) (hm : ts.length * 8 ≤ 140737488351232) (hA : A = none → c = 0 ∧ ts = []) (ht : IntsAt w w.heap.size A ts) : Calls Try.prog 6 #[.agg #[.int .i64 a.lo, .int .i64 a.hi], .agg #[.int .i64 b.lo, .int .i64 b.hi], .slice A ts.length c] w fun e w' => e = .returned (.bool true) ∧ Below w.heap.size w w' := by
  rcases A with _ | ad
  · obtain ⟨rfl, h⟩ := hA rfl
    subst h
    exact spanWidensN a b w ht
  · by_cases h : ts = []
    · exact spanWidensE a b ad c ts w hm h ht
    · exact spanWidensW a b ad c ts w hm (List.length_pos_iff.2 h) ht
end Go.Proofs.Ytdoikgjdjdgnbaa

set_option linter.unusedVariables false
namespace Go.Proofs.Ytdoikgjdjdgnbaa.spanWidens
open Go.ChangeShapes Go.WideShapes Go.ChangeAt Go.RowKit
set_option maxRecDepth 100000 in
theorem lifted (os : Os) (started : os.Started) (H : Type) (enc : TypeId × Value → H) :
    ReturnsInHanded {} Try.checked os 6 .any (Rows.spanWidensSpec.pre6 enc Try.prog Try.f6 Rows.spanWidensRow.domain false) (Rows.spanWidensSpec.post enc Try.prog Try.f6 false true false false) := by
  refine returnsInHanded_of_change_sized (C := Try.checked) own started (by kernel_rfl) Try.func6
    (ChangeSpec.witness6 (enc := enc) (C := Try.checked) false ⟨#[], #[.agg #[.int .i64 0, .int .i64 0], .agg #[.int .i64 0, .int .i64 0], .slice none 0 0], []⟩ 8 (by kernel_rfl) (by kernel_rfl) (by kernel_rfl) (by kernel_rfl)) ?_
  intro W base args ds gs before hval0 hW hcnd hsz0 _
  have hsz : (DataW.weightsEach Try.prog (Try.f6.params.toList ++ Rows.spanWidensSpec.plain.varTypes Try.prog) (ds ++ gs)).all (· ≤ reachBytes) = true := hsz0
  have hval : ∀ (j : Nat) t v, Try.f6.params[j]? = some t → args[j]? = some v → Value.okWide Try.prog W .any base t v := hval0
  have hW' := hW
  obtain ⟨p, q, hA0, hV, rfl, hfz, hnd⟩ := hW
  have hA : DataW.TrodAll enc Try.prog W 0 (fun _ => true) true Try.f6.params.toList args.toList ds p := hA0
  rw [Try.params6] at hA hval hsz
  obtain ⟨v0, vs0, d0, ds0, p0, q0, hargs, rfl, rfl, h0, r0⟩ := trodAll_cons hA
  obtain ⟨v1, vs1, d1, ds1, p1, q1, rfl, rfl, rfl, h1, r1⟩ := trodAll_cons r0
  obtain ⟨v2, vs2, d2, ds2, p2, q2, rfl, rfl, rfl, h2, r2⟩ := trodAll_cons r1
  obtain ⟨rfl, rfl, rfl⟩ := trodAll_nil r2
  obtain rfl : args = #[v0, v1, v2] := by cases args; simp_all
  obtain ⟨rfl, rfl⟩ := trodVars_none hV
  obtain ⟨s0, rfl, wf0⟩ := open_span (hval 0 23 v0 rfl rfl) h0
  obtain ⟨s1, rfl, wf1⟩ := open_span (hval 1 23 v1 rfl rfl) h1
  obtain ⟨A2, s2, c2, rfl, hA2, hl2, hI2⟩ := open_ints_all (hval 2 38 v2 rfl rfl) h2 (fun e s he => sized_slice hsz (j := 2) (t := 38) (e := 2) rfl (by rw [he]; rfl) Try.underlying38)
  clear hA0 hval0
  refine (spanWidensA s0 s1 A2 c2 s2 W hl2 hA2 hI2).mono fun e W' ⟨he, hb⟩ => ?_
  subst he
  exact ⟨_, rfl, law_post laidOut (by kernel_rfl) (by kernel_rfl) rfl Try.underlying4 hW' rfl rfl rfl hb⟩

theorem holds : Rows.SpanWidensSaid :=
  OpenClaim.holds_of_wide 6 Try.f6 rfl rfl rfl rfl rfl rfl rfl ⟨rfl, rfl, rfl, rfl, rfl⟩ rfl rfl rfl rfl rfl (by kernel_rfl) Try.func6 (by kernel_rfl)
    (of_decide_eq_true (by kernel_rfl)) (by unfold Func.isWrapper; first | (rw [if_pos (by decide +kernel)]; kernel_rfl) | (rw [if_neg (by decide +kernel)]; exact ⟨rfl, rfl⟩))
    (fun os started H enc _ => lifted os started H enc)
end Go.Proofs.Ytdoikgjdjdgnbaa.spanWidens

