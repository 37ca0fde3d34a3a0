/-
  Layer 8 (span): the reference's quotients: a loop over four divisors, which appends the quotients to a row of its own.
-/
import Derived.Test.YtdoikgjdjdgnbaaEnds
import Derived.Test.YtdoikgjdjdgnbaaDivP
import Derived.Maps.AppendAt
import Derived.Deep.AppendLies
namespace Go.Proofs.Ytdoikgjdjdgnbaa
open Go.RowKit
set_option linter.unusedSimpArgs false
set_option linter.unusedVariables false
attribute [local go_sem ↓] Go.wp_at_zero Go.wp_at_succ

def candL (b : Sp) : Array Value := #[.int .i64 b.lo, .int .i64 b.hi, .int .i64 (-1), .int .i64 1]
theorem candL_get (b : Sp) : ∀ k, k < 4 → (candL b)[k]? = some (.int .i64 (cand b k))
  | 0, _ => rfl
  | 1, _ => rfl
  | 2, _ => rfl
  | 3, _ => rfl
  | n + 4, h => by omega
/-- What lies in memory while the quotients are gathered: the two spans, the result's place, the divisors, the row of the quotients. -/
structure QuotMem (w : World) (a b : Sp) (g : Nat) (v : Value) (L : List Int) (wr : World) : Prop where
  below : Below w.heap.size w wr
  pa : Whl wr w.heap.size 23 #[.int .i64 a.lo, .int .i64 a.hi]
  pb : Whl wr (w.heap.size + 1) 23 #[.int .i64 b.lo, .int .i64 b.hi]
  po : Whl wr (w.heap.size + 1 + 1) 23 #[.int .i64 0, .int .i64 0]
  pl : Whl wr g 2 (candL b)
  own : wr.ownsRow (g + 1) 2 1 v L.length (L.map (Value.int .i64))
  base : w.heap.size + 1 + 1 + 1 ≤ g
  size : g + 1 ≤ wr.heap.size
theorem QuotMem.go {w wr W : World} {a b : Sp} {g : Nat} {v : Value} {L : List Int} (h : QuotMem w a b g v L wr) (hW : Below wr.heap.size wr W) : QuotMem w a b g v L W :=
  ⟨below_step h.below hW, h.pa.below' hW, h.pb.below' hW, h.po.below' hW, h.pl.below' hW, h.own.kept (grown_of_below hW none) (by cases v.ownBlock <;> simp), h.base, Nat.le_trans h.size hW.size⟩
theorem QuotMem.app {w wr W w2 : World} {a b : Sp} {g : Nat} {v v2 : Value} {L L2 : List Int} {n2 : Nat} {xs : List Value} (h : QuotMem w a b g v L wr) (hW : Below wr.heap.size wr W) (hg : W.grownBy w2 v.ownBlock)
    (hn : n2 = L2.length) (hx : xs = L2.map (Value.int .i64)) (hown : w2.ownsRow (g + 1) 2 1 v2 n2 xs) : QuotMem w a b g v2 L2 w2 := by
  subst hn hx
  have hbase := h.base
  have hr : ∀ i, i < g + 1 → some i ≠ v.ownBlock := fun i hlt e => by have := (h.own.lt i e.symm).1; omega
  have h' := h.go hW
  exact ⟨h'.below.grown hg h'.below.size (fun k hk => by have := (h.own.lt k hk).1; omega), h'.pa.grown hg (hr _ (by omega)), h'.pb.grown hg (hr _ (by omega)), h'.po.grown hg (hr _ (by omega)), h'.pl.grown hg (hr _ (by omega)), hown, h.base, Nat.le_trans h'.size hg.size⟩
theorem QuotMem.paGrow {w wr W w2 : World} {a b : Sp} {g : Nat} {v : Value} {L : List Int} (h : QuotMem w a b g v L wr) (hW : Below wr.heap.size wr W) (hg : W.grownBy w2 v.ownBlock) (k : Nat) (hk : k < 4) :
    w2.cell? ⟨w.heap.size, 0, none⟩ = some (.int .i64 a.lo) ∧ w2.cell? ⟨w.heap.size, 1, none⟩ = some (.int .i64 a.hi) ∧ w2.cell? ⟨g, k, none⟩ = some (.int .i64 (cand b k)) := by
  have hbase := h.base
  have hr : some w.heap.size ≠ v.ownBlock := fun e => by have := (h.own.lt _ e.symm).1; omega
  have hr2 : some g ≠ v.ownBlock := fun e => by have := (h.own.lt _ e.symm).1; omega
  have := (h.go hW).pa.grown hg hr
  have h2 := (h.go hW).pl.grown hg hr2
  exact ⟨this.cell 0, this.cell 1, (h2.cell k).trans (candL_get b k hk)⟩
/-- At the beginning: three boxes, the divisors, no quotient. -/
theorem QuotMem.start {w w1 : World} {a b : Sp} (hb : Below w.heap.size w w1) (h1 : Whl w1 w.heap.size 23 #[.int .i64 a.lo, .int .i64 a.hi]) (h2 : Whl w1 (w.heap.size + 1) 23 #[.int .i64 b.lo, .int .i64 b.hi])
    (h3 : Whl w1 (w.heap.size + 1 + 1) 23 #[.int .i64 0, .int .i64 0]) : QuotMem w a b w1.heap.size (.slice (some ⟨w1.heap.size + 1, 0, none⟩) 0 0) [] ((w1.alloc (.cells (candL b) 2)).alloc (.cells #[] 2)) := by
  refine ⟨by repeat (first | exact hb | apply below_alloc), (h1.alloc _).alloc _, (h2.alloc _).alloc _, (h3.alloc _).alloc _, (Whl.new w1 _ _).alloc _, ?_, Nat.succ_le_of_lt h3.lt, by simp⟩
  have := World.ownsRow_made (base := w1.heap.size + 1) (e := 2) (size := 1) (w1.alloc (.cells (candL b) 2)) #[] 0 (by simp) (by decide) rfl
  rwa [World.size_alloc] at this

theorem drewN_below (w : World) (n : Nat) : Below w.heap.size w (w.drewN n) := ⟨rfl, rfl, rfl, Nat.le_refl _, fun _ _ => rfl⟩
theorem hasR_is {a : Sp} {n : Int} {x : Bool} (h : a.has n = x) (w : World) : Calls Try.prog 17 #[.agg #[.int .i64 a.lo, .int .i64 a.hi], .int .i64 n] w fun e w' => e = .returned (.bool x) ∧ Below w.heap.size w w' := h ▸ hasR a n w
set_option maxHeartbeats 1000000 in
theorem quotR_all (a b : Sp) (w : World) (HA : Hid (a.has (-9223372036854775808) = true)) (HB : Hid (b.has (-1) = true)) : Calls Try.prog 47 #[.agg #[.int .i64 a.lo, .int .i64 a.hi], .agg #[.int .i64 b.lo, .int .i64 b.hi]] w fun e w' => e = .returned (.agg #[.int .i64 Sp.all.lo, .int .i64 Sp.all.hi]) ∧ Below w.heap.size w w' := by
  go_enter Try.func47, Try.ntmps47
  go_wp2_with (first
    | (go_at_call 17
       with_reducible refine (hasR_is HA.out _).mono ?_
       rintro e w1 ⟨rfl, hb1⟩
       have hB1 : Below w.heap.size w w1 := below_step (by repeat (first | exact Below.refl _ _ | apply below_alloc)) hb1
       have hA1 : Whl w1 w.heap.size 23 #[.int .i64 a.lo, .int .i64 a.hi] := (((Whl.new w 23 _).alloc _).alloc _).below' hb1
       have hP1 : Whl w1 (w.heap.size + 1) 23 #[.int .i64 b.lo, .int .i64 b.hi] := ((Whl.new1 w _ 23 _).alloc _).below' hb1
       have hO1 : Whl w1 (w.heap.size + 1 + 1) 23 #[.int .i64 0, .int .i64 0] := (Whl.new2 w _ _ 23 _).below' hb1
       have p1 : w1.cell? ⟨w.heap.size + 1, 0, none⟩ = some (.int .i64 b.lo) := hP1.cell 0
       have p2 : w1.cell? ⟨w.heap.size + 1, 1, none⟩ = some (.int .i64 b.hi) := hP1.cell 1
       have s1 := hO1.lt
       clear hb1)
    | (go_at_call 17
       with_reducible refine (hasR_is HB.out _).mono ?_
       rintro e w2 ⟨rfl, hb2⟩
       have hB2 := below_step hB1 hb2
       have hA2 := hA1.below' hb2
       have hP2 := hP1.below' hb2
       have hO2 := hO1.below' hb2
       have q1 : w2.cell? ⟨w.heap.size + 1, 0, none⟩ = some (.int .i64 b.lo) := hP2.cell 0
       have q2 : w2.cell? ⟨w.heap.size + 1, 1, none⟩ = some (.int .i64 b.hi) := hP2.cell 1
       have s2 := hO2.lt
       clear hb2)
    | (go_at_call 15
       refine (allR _).mono ?_
       rintro e w3 ⟨rfl, hb3⟩
       have hB3 := below_step hB2 hb3
       have hO3 := hO2.below' hb3
       have d1 : w3.cell? ⟨w.heap.size + 1 + 1, 0, none⟩ = some (.int .i64 0) := hO3.cell 0
       have d2 : w3.cell? ⟨w.heap.size + 1 + 1, 1, none⟩ = some (.int .i64 0) := hO3.cell 1
       have d3 := hO3.frozen 0
       have d4 := hO3.frozen 1))
  all_goals (try simp only [Exit.inBlock, Exit.then])
  all_goals refine ret_of ?_ rfl
  all_goals simp [results, Try.results47, go_sem, d1, d2, d3, d4]
  exact (hB3.setCell (by dsimp only; omega) _).setCell (by dsimp only; omega) _

set_option maxHeartbeats 2000000 in
theorem quotR_l2 (a b : Sp) (w : World) (HA : Hid (a.has (-9223372036854775808) = true)) (HB : Hid (b.has (-1) = false)) (h2 : b.lo ≤ b.hi) (h3 : b.lo ≠ 0 ∨ b.hi ≠ 0) : Calls Try.prog 47 #[.agg #[.int .i64 a.lo, .int .i64 a.hi], .agg #[.int .i64 b.lo, .int .i64 b.hi]] w fun e w' => e = .returned (.agg #[.int .i64 (hullTo (quots a b 4) (quots a b 4).length).lo, .int .i64 (hullTo (quots a b 4) (quots a b 4).length).hi]) ∧ Below w.heap.size w w' := by
  obtain ⟨i0, hi, hz0, hz1, hz2⟩ := info_parts infoInt
  have hpos := quots_some (a := a) h2 h3
  clear h2 h3
  go_enter Try.func47, Try.ntmps47
  go_wp2_with (first
    | (go_at_call 17
       with_reducible refine (hasR_is HA.out _).mono ?_
       rintro e w1 ⟨rfl, hb1⟩
       have hB1 : Below w.heap.size w w1 := below_step (by repeat (first | exact Below.refl _ _ | apply below_alloc)) hb1
       have hA1 : Whl w1 w.heap.size 23 #[.int .i64 a.lo, .int .i64 a.hi] := (((Whl.new w 23 _).alloc _).alloc _).below' hb1
       have hP1 : Whl w1 (w.heap.size + 1) 23 #[.int .i64 b.lo, .int .i64 b.hi] := ((Whl.new1 w _ 23 _).alloc _).below' hb1
       have hO1 : Whl w1 (w.heap.size + 1 + 1) 23 #[.int .i64 0, .int .i64 0] := (Whl.new2 w _ _ 23 _).below' hb1
       have p1 : w1.cell? ⟨w.heap.size + 1, 0, none⟩ = some (.int .i64 b.lo) := hP1.cell 0
       have p2 : w1.cell? ⟨w.heap.size + 1, 1, none⟩ = some (.int .i64 b.hi) := hP1.cell 1
       have s1 := hO1.lt
       clear hb1)
    | (go_at_call 17
       with_reducible refine (hasR_is HB.out _).mono ?_
       rintro e w2 ⟨rfl, hb2⟩
       have hB2 := below_step hB1 hb2
       have hA2 := hA1.below' hb2
       have hP2 := hP1.below' hb2
       have hO2 := hO1.below' hb2
       have q1 : w2.cell? ⟨w.heap.size + 1, 0, none⟩ = some (.int .i64 b.lo) := hP2.cell 0
       have q2 : w2.cell? ⟨w.heap.size + 1, 1, none⟩ = some (.int .i64 b.hi) := hP2.cell 1
       have s2 := hO2.lt
       clear hb2))
  go_loopw [6, 7] (fun v i wr => ∃ k : Nat, k ≤ 4 ∧ i = .int .i64 k ∧ QuotMem w a b w2.heap.size v (quots a b k) wr) (fun _ i _ => 4 - (intOf i).toNat)
  case atStart => exact ⟨0, by omega, rfl, QuotMem.start hB2 hA2 hP2 hO2⟩
  case round =>
    obtain ⟨k, hk, rfl, hM⟩ := hrel
    generalize hgg : w2.heap.size = g at *
    have hlen := quots_len a b k
    have d1 : wr.cell? ⟨w.heap.size, 0, none⟩ = some (.int .i64 a.lo) := hM.pa.cell 0
    have d2 : wr.cell? ⟨w.heap.size, 1, none⟩ = some (.int .i64 a.hi) := hM.pa.cell 1
    have d3 : wr.cell? ⟨w.heap.size + 1, 0, none⟩ = some (.int .i64 b.lo) := hM.pb.cell 0
    have d4 : wr.cell? ⟨w.heap.size + 1, 1, none⟩ = some (.int .i64 b.hi) := hM.pb.cell 1
    have hsz := hM.size
    have hbs := hM.base
    by_cases hlt : k < 4
    · have dk : wr.cell? ⟨g, k, none⟩ = some (.int .i64 (cand b k)) := (hM.pl.cell k).trans (candL_get b k hlt)
      cases hz : (cand b k == 0)
      · have hz' : (cand b k != 0) = true := by rw [bne, hz]; rfl
        cases hh : b.has (cand b k)
        · go_wp2
          go_region_held3 (fun w' => w'.cell? ⟨g, k, none⟩ = some (.int .i64 (cand b k)) ∧ w'.cell? ⟨w.heap.size + 1, 0, none⟩ = some (.int .i64 b.lo) ∧ w'.cell? ⟨w.heap.size + 1, 1, none⟩ = some (.int .i64 b.hi)) (first | exact keep3 (by assumption) (by assumption) | (go_simp; done)) (first | (go_at_call 17; refine (hasR b (cand b k) _).mono ?_; rintro e w3 ⟨rfl, hb3⟩))
          have hb3' : Below wr.heap.size wr w3 := ((Below.refl _ _).drew).trans hb3
          have hM3 := hM.go hb3'
          go_wp2
          go_roundw
          case rel =>
            go_light
            exact ⟨k + 1, by omega, by go_num, by rw [quots_no (candOk_out hh)]; exact hM3⟩
          case measure => simp [intOf]; omega
        · have hne : ¬ cand b k = 0 := by simpa using hz
          go_wp2
          go_region_held3 (fun w' => w'.cell? ⟨g, k, none⟩ = some (.int .i64 (cand b k)) ∧ w'.cell? ⟨w.heap.size + 1, 0, none⟩ = some (.int .i64 b.lo) ∧ w'.cell? ⟨w.heap.size + 1, 1, none⟩ = some (.int .i64 b.hi)) (first | exact keep3 (by assumption) (by assumption) | (go_simp; done)) (first | (go_at_call 17; refine (hasR b (cand b k) _).mono ?_; rintro e w3 ⟨rfl, hb3⟩))
          have hb3' : Below wr.heap.size wr w3 := ((Below.refl _ _).drew).trans hb3
          have hM3 := hM.go hb3'
          clear hb3
          have d11 : w3.cell? ⟨w.heap.size, 0, none⟩ = some (.int .i64 a.lo) := hM3.pa.cell 0
          have d12 : w3.cell? ⟨w.heap.size, 1, none⟩ = some (.int .i64 a.hi) := hM3.pa.cell 1
          have d13 : w3.cell? ⟨g, k, none⟩ = some (.int .i64 (cand b k)) := (hM3.pl.cell k).trans (candL_get b k hlt)
          have l10 := hM3.pa.lt
          have l11 := hM3.pl.lt
          have hsz3 := hM3.size
          go_wp2
          go_region_held3 (fun w' => w'.cell? ⟨w.heap.size, 0, none⟩ = some (.int .i64 a.lo) ∧ w'.cell? ⟨w.heap.size, 1, none⟩ = some (.int .i64 a.hi) ∧ w'.cell? ⟨g, k, none⟩ = some (.int .i64 (cand b k))) (first | exact hM.paGrow (below_alloc hb3' _).drew hgrow k hlt | (go_simp; done))
            ((refine step_append_lies _ (by rfl) _ _ _ (by rfl) (g + 1) 2 i0 _ 1 8 Try.underlying38 hi hz0 hz1 hz2 rfl (by omega) _ _ _ (by rfl) ((hM3.own.alloc _).drew) ⟨w3.heap.size, 0, none⟩ 2 2 [.int .i64 (IntKind.i64.wrap (a.lo.tdiv (cand b k))), .int .i64 (IntKind.i64.wrap (a.hi.tdiv (cand b k)))] (by rfl) (by rfl) (World.news_of_block (cs := #[.int .i64 (IntKind.i64.wrap (a.lo.tdiv (cand b k))), .int .i64 (IntKind.i64.wrap (a.hi.tdiv (cand b k)))]) (t := 2) (fr := (0, 0)) (heap_alloc_new w3 _)) (by simp [Value.oneCell']) (by omega) (by unfold maxLen; omega) (by omega) (by simp; omega) (w3.heap.size + 1) (by simp) ?_; intro g2 cap w4 hown2 hgrow hat hlt2))
          go_wp2
          go_roundw
          case rel =>
            go_light
            refine ⟨k + 1, by omega, by go_num, hM.app (L2 := quots a b (k + 1)) ?hW hgrow ?hn ?hx hown2⟩
            case hW => exact (below_alloc hb3' _).drew
            case hn => rw [quots_yes (candOk_in hz hh)]; simp
            case hx => rw [quots_yes (candOk_in hz hh)]; simp [IntWalk.i64_left]
          case measure => simp [intOf]; omega
      · have hz' : (cand b k != 0) = false := by rw [bne, hz]; rfl
        go_wp2
        go_quiet (fail)
        go_wp2
        go_roundw
        case rel =>
          go_light
          exact ⟨k + 1, by omega, by go_num, by rw [quots_no (candOk_zero hz)]; exact hM.go (drewN_below _ _)⟩
        case measure => simp [intOf]; omega
    · obtain rfl : k = 4 := by omega
      obtain ⟨g2, cap, hv, _, _⟩ := hM.own.form hpos
      subst hv
      have hcell : ∀ j, j < (quots a b 4).length → wr.cell? ⟨g2, 0 + j, none⟩ = some (.int .i64 (nthI (quots a b 4) j)) := fun j hj => by
        rw [Nat.zero_add, hM.own.cellAt j (by omega)]
        simp [nthI, hj]
      have hlg := (hM.own.lt g2 rfl).2
      have HC := Lib.hid hcell; clear hcell
      go_wp2_with (go_at_call 44; refine (endsR g2 0 cap (quots a b 4) _ hlg hpos (by omega) HC.out).mono ?_; rintro e w2 ⟨rfl, hb2⟩; have hM2 := hM.go hb2; have d7 : w2.cell? ⟨w.heap.size + 1 + 1, 0, none⟩ = some (.int .i64 0) := hM2.po.cell 0; have d8 : w2.cell? ⟨w.heap.size + 1 + 1, 1, none⟩ = some (.int .i64 0) := hM2.po.cell 1; have f7 := hM2.po.frozen 0; have f8 := hM2.po.frozen 1)
      all_goals (try simp only [Exit.inBlock, Exit.then])
      all_goals refine ret_of ?_ rfl
      all_goals simp [results, Try.results47, go_sem, d7, d8, f7, f8]
      exact (hM2.below.setCell (by dsimp only; omega) _).setCell (by dsimp only; omega) _

set_option maxHeartbeats 2000000 in
theorem quotR_l1 (a b : Sp) (w : World) (HA : Hid (a.has (-9223372036854775808) = false)) (h2 : b.lo ≤ b.hi) (h3 : b.lo ≠ 0 ∨ b.hi ≠ 0) : Calls Try.prog 47 #[.agg #[.int .i64 a.lo, .int .i64 a.hi], .agg #[.int .i64 b.lo, .int .i64 b.hi]] w fun e w' => e = .returned (.agg #[.int .i64 (hullTo (quots a b 4) (quots a b 4).length).lo, .int .i64 (hullTo (quots a b 4) (quots a b 4).length).hi]) ∧ Below w.heap.size w w' := by
  obtain ⟨i0, hi, hz0, hz1, hz2⟩ := info_parts infoInt
  have hpos := quots_some (a := a) h2 h3
  clear h2 h3
  go_enter Try.func47, Try.ntmps47
  go_wp2_with (first
    | (go_at_call 17
       with_reducible refine (hasR_is HA.out _).mono ?_
       rintro e w1 ⟨rfl, hb1⟩
       have hB1 : Below w.heap.size w w1 := below_step (by repeat (first | exact Below.refl _ _ | apply below_alloc)) hb1
       have hA1 : Whl w1 w.heap.size 23 #[.int .i64 a.lo, .int .i64 a.hi] := (((Whl.new w 23 _).alloc _).alloc _).below' hb1
       have hP1 : Whl w1 (w.heap.size + 1) 23 #[.int .i64 b.lo, .int .i64 b.hi] := ((Whl.new1 w _ 23 _).alloc _).below' hb1
       have hO1 : Whl w1 (w.heap.size + 1 + 1) 23 #[.int .i64 0, .int .i64 0] := (Whl.new2 w _ _ 23 _).below' hb1
       have p1 : w1.cell? ⟨w.heap.size + 1, 0, none⟩ = some (.int .i64 b.lo) := hP1.cell 0
       have p2 : w1.cell? ⟨w.heap.size + 1, 1, none⟩ = some (.int .i64 b.hi) := hP1.cell 1
       have s1 := hO1.lt
       clear hb1))
  go_loopw [6, 7] (fun v i wr => ∃ k : Nat, k ≤ 4 ∧ i = .int .i64 k ∧ QuotMem w a b w1.heap.size v (quots a b k) wr) (fun _ i _ => 4 - (intOf i).toNat)
  case atStart => exact ⟨0, by omega, rfl, QuotMem.start hB1 hA1 hP1 hO1⟩
  case round =>
    obtain ⟨k, hk, rfl, hM⟩ := hrel
    generalize hgg : w1.heap.size = g at *
    have hlen := quots_len a b k
    have d1 : wr.cell? ⟨w.heap.size, 0, none⟩ = some (.int .i64 a.lo) := hM.pa.cell 0
    have d2 : wr.cell? ⟨w.heap.size, 1, none⟩ = some (.int .i64 a.hi) := hM.pa.cell 1
    have d3 : wr.cell? ⟨w.heap.size + 1, 0, none⟩ = some (.int .i64 b.lo) := hM.pb.cell 0
    have d4 : wr.cell? ⟨w.heap.size + 1, 1, none⟩ = some (.int .i64 b.hi) := hM.pb.cell 1
    have hsz := hM.size
    have hbs := hM.base
    by_cases hlt : k < 4
    · have dk : wr.cell? ⟨g, k, none⟩ = some (.int .i64 (cand b k)) := (hM.pl.cell k).trans (candL_get b k hlt)
      cases hz : (cand b k == 0)
      · have hz' : (cand b k != 0) = true := by rw [bne, hz]; rfl
        cases hh : b.has (cand b k)
        · go_wp2
          go_region_held3 (fun w' => w'.cell? ⟨g, k, none⟩ = some (.int .i64 (cand b k)) ∧ w'.cell? ⟨w.heap.size + 1, 0, none⟩ = some (.int .i64 b.lo) ∧ w'.cell? ⟨w.heap.size + 1, 1, none⟩ = some (.int .i64 b.hi)) (first | exact keep3 (by assumption) (by assumption) | (go_simp; done)) (first | (go_at_call 17; refine (hasR b (cand b k) _).mono ?_; rintro e w3 ⟨rfl, hb3⟩))
          have hb3' : Below wr.heap.size wr w3 := ((Below.refl _ _).drew).trans hb3
          have hM3 := hM.go hb3'
          go_wp2
          go_roundw
          case rel =>
            go_light
            exact ⟨k + 1, by omega, by go_num, by rw [quots_no (candOk_out hh)]; exact hM3⟩
          case measure => simp [intOf]; omega
        · have hne : ¬ cand b k = 0 := by simpa using hz
          go_wp2
          go_region_held3 (fun w' => w'.cell? ⟨g, k, none⟩ = some (.int .i64 (cand b k)) ∧ w'.cell? ⟨w.heap.size + 1, 0, none⟩ = some (.int .i64 b.lo) ∧ w'.cell? ⟨w.heap.size + 1, 1, none⟩ = some (.int .i64 b.hi)) (first | exact keep3 (by assumption) (by assumption) | (go_simp; done)) (first | (go_at_call 17; refine (hasR b (cand b k) _).mono ?_; rintro e w3 ⟨rfl, hb3⟩))
          have hb3' : Below wr.heap.size wr w3 := ((Below.refl _ _).drew).trans hb3
          have hM3 := hM.go hb3'
          clear hb3
          have d11 : w3.cell? ⟨w.heap.size, 0, none⟩ = some (.int .i64 a.lo) := hM3.pa.cell 0
          have d12 : w3.cell? ⟨w.heap.size, 1, none⟩ = some (.int .i64 a.hi) := hM3.pa.cell 1
          have d13 : w3.cell? ⟨g, k, none⟩ = some (.int .i64 (cand b k)) := (hM3.pl.cell k).trans (candL_get b k hlt)
          have l10 := hM3.pa.lt
          have l11 := hM3.pl.lt
          have hsz3 := hM3.size
          go_wp2
          go_region_held3 (fun w' => w'.cell? ⟨w.heap.size, 0, none⟩ = some (.int .i64 a.lo) ∧ w'.cell? ⟨w.heap.size, 1, none⟩ = some (.int .i64 a.hi) ∧ w'.cell? ⟨g, k, none⟩ = some (.int .i64 (cand b k))) (first | exact hM.paGrow (below_alloc hb3' _).drew hgrow k hlt | (go_simp; done))
            ((refine step_append_lies _ (by rfl) _ _ _ (by rfl) (g + 1) 2 i0 _ 1 8 Try.underlying38 hi hz0 hz1 hz2 rfl (by omega) _ _ _ (by rfl) ((hM3.own.alloc _).drew) ⟨w3.heap.size, 0, none⟩ 2 2 [.int .i64 (IntKind.i64.wrap (a.lo.tdiv (cand b k))), .int .i64 (IntKind.i64.wrap (a.hi.tdiv (cand b k)))] (by rfl) (by rfl) (World.news_of_block (cs := #[.int .i64 (IntKind.i64.wrap (a.lo.tdiv (cand b k))), .int .i64 (IntKind.i64.wrap (a.hi.tdiv (cand b k)))]) (t := 2) (fr := (0, 0)) (heap_alloc_new w3 _)) (by simp [Value.oneCell']) (by omega) (by unfold maxLen; omega) (by omega) (by simp; omega) (w3.heap.size + 1) (by simp) ?_; intro g2 cap w4 hown2 hgrow hat hlt2))
          go_wp2
          go_roundw
          case rel =>
            go_light
            refine ⟨k + 1, by omega, by go_num, hM.app (L2 := quots a b (k + 1)) ?hW hgrow ?hn ?hx hown2⟩
            case hW => exact (below_alloc hb3' _).drew
            case hn => rw [quots_yes (candOk_in hz hh)]; simp
            case hx => rw [quots_yes (candOk_in hz hh)]; simp [IntWalk.i64_left]
          case measure => simp [intOf]; omega
      · have hz' : (cand b k != 0) = false := by rw [bne, hz]; rfl
        go_wp2
        go_quiet (fail)
        go_wp2
        go_roundw
        case rel =>
          go_light
          exact ⟨k + 1, by omega, by go_num, by rw [quots_no (candOk_zero hz)]; exact hM.go (drewN_below _ _)⟩
        case measure => simp [intOf]; omega
    · obtain rfl : k = 4 := by omega
      obtain ⟨g2, cap, hv, _, _⟩ := hM.own.form hpos
      subst hv
      have hcell : ∀ j, j < (quots a b 4).length → wr.cell? ⟨g2, 0 + j, none⟩ = some (.int .i64 (nthI (quots a b 4) j)) := fun j hj => by
        rw [Nat.zero_add, hM.own.cellAt j (by omega)]
        simp [nthI, hj]
      have hlg := (hM.own.lt g2 rfl).2
      have HC := Lib.hid hcell; clear hcell
      go_wp2_with (go_at_call 44; refine (endsR g2 0 cap (quots a b 4) _ hlg hpos (by omega) HC.out).mono ?_; rintro e w2 ⟨rfl, hb2⟩; have hM2 := hM.go hb2; have d7 : w2.cell? ⟨w.heap.size + 1 + 1, 0, none⟩ = some (.int .i64 0) := hM2.po.cell 0; have d8 : w2.cell? ⟨w.heap.size + 1 + 1, 1, none⟩ = some (.int .i64 0) := hM2.po.cell 1; have f7 := hM2.po.frozen 0; have f8 := hM2.po.frozen 1)
      all_goals (try simp only [Exit.inBlock, Exit.then])
      all_goals refine ret_of ?_ rfl
      all_goals simp [results, Try.results47, go_sem, d7, d8, f7, f8]
      exact (hM2.below.setCell (by dsimp only; omega) _).setCell (by dsimp only; omega) _

theorem quotR (a b : Sp) (ha : a.Wf) (hale : a.lo ≤ a.hi) (w : World) (h2 : b.lo ≤ b.hi) (h3 : b.lo ≠ 0 ∨ b.hi ≠ 0) : Calls Try.prog 47 #[.agg #[.int .i64 a.lo, .int .i64 a.hi], .agg #[.int .i64 b.lo, .int .i64 b.hi]] w fun e w' => e = .returned (.agg #[.int .i64 (divS a b).lo, .int .i64 (divS a b).hi]) ∧ Below w.heap.size w w' := by
  have hl : a.has (-9223372036854775808) = decide (a.lo = -9223372036854775808) := by
    obtain ⟨⟨_, _⟩, _, _⟩ := ha
    rw [Bool.eq_iff_iff]
    simp [Sp.has]
    omega
  by_cases h : a.lo = -9223372036854775808 ∧ b.has (-1) = true
  · have e : divS a b = Sp.all := by simp [divS, Sp.least, h.1, h.2]
    rw [e]
    exact quotR_all a b w (show a.has _ = true by rw [hl]; simp [h.1]) h.2
  · have e : divS a b = hullTo (quots a b 4) (quots a b 4).length := by unfold divS Sp.least; rw [if_neg h]
    rw [e]
    cases h1 : a.has (-9223372036854775808)
    · exact quotR_l1 a b w h1 h2 h3
    · cases h4 : b.has (-1)
      · exact quotR_l2 a b w h1 h4 h2 h3
      · rw [hl] at h1
        exact absurd ⟨by simpa using h1, h4⟩ h
end Go.Proofs.Ytdoikgjdjdgnbaa
