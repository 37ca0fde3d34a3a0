/-
  Layer 16 (bounds): DivP, DoPb.
-/
import Derived.Test.YtddobhneplfddaaDoorV8
namespace Go.Proofs.YtddobhneplfddaaDoor
set_option maxRecDepth 100000
open Go.RowKit
set_option linter.unusedSimpArgs false
set_option linter.unusedVariables false
attribute [local go_sem ↓] Go.wp_at_zero Go.wp_at_succ
theorem infoInt : (Tryd.prog.info? 2).map (fun i => (i.zero, i.size, i.bytes)) = some (some (.int .i64 0), 1, 8) := by kernel_rfl
theorem grown_of_below {w w' : World} (h : Below w.heap.size w w') (row : Option Nat) : w.grownBy w' row := ⟨h.os, h.tape, h.output, h.size, fun i hi _ => h.block i hi⟩

/-- What lies in memory while the quotients are gathered: the two spans, the result's place, the row of the quotients. -/
structure DivMem (w : World) (a b : Sp) (v : Value) (L : List Int) (wr : World) : Prop where
  below : Below w.heap.size w wr
  pa : Whl wr w.heap.size 34 #[.int .i64 a.lo, .int .i64 a.hi]
  pb : Whl wr (w.heap.size + 1) 34 #[.int .i64 b.lo, .int .i64 b.hi]
  po : Whl wr (w.heap.size + 1 + 1) 34 #[.int .i64 0, .int .i64 0]
  own : wr.ownsRow (w.heap.size + 1 + 1 + 1) 2 1 v L.length (L.map (Value.int .i64))
  size : w.heap.size + 1 + 1 + 1 ≤ wr.heap.size
theorem DivMem.go {w wr W : World} {a b : Sp} {v : Value} {L : List Int} (h : DivMem w a b v L wr) (hW : Below wr.heap.size wr W) : DivMem w a b v L W :=
  ⟨below_step h.below hW, h.pa.below' hW, h.pb.below' hW, h.po.below' hW, h.own.kept (grown_of_below hW none) (by cases v.ownBlock <;> simp), Nat.le_trans h.size hW.size⟩
theorem DivMem.app {w wr W w2 : World} {a b : Sp} {v v2 : Value} {L L2 : List Int} {n2 : Nat} {xs : List Value} (h : DivMem w a b v L wr) (hW : Below wr.heap.size wr W) (hg : W.grownBy w2 v.ownBlock)
    (hn : n2 = L2.length) (hx : xs = L2.map (Value.int .i64)) (hown : w2.ownsRow (w.heap.size + 1 + 1 + 1) 2 1 v2 n2 xs) : DivMem w a b v2 L2 w2 := by
  subst hn hx
  have hr : ∀ g, g < w.heap.size + 1 + 1 + 1 → some g ≠ v.ownBlock := fun g hlt e => by have := (h.own.lt g e.symm).1; omega
  have h' := h.go hW
  exact ⟨h'.below.grown hg h'.below.size (fun k hk => by have := (h.own.lt k hk).1; omega), h'.pa.grown hg (hr _ (by omega)), h'.pb.grown hg (hr _ (by omega)), h'.po.grown hg (hr _ (by omega)), hown, Nat.le_trans h'.size hg.size⟩

theorem DivMem.paGrow {w wr W w2 : World} {a b : Sp} {v : Value} {L : List Int} (h : DivMem w a b v L wr) (hW : Below wr.heap.size wr W) (hg : W.grownBy w2 v.ownBlock) :
    w2.cell? ⟨w.heap.size, 0, none⟩ = some (.int .i64 a.lo) ∧ w2.cell? ⟨w.heap.size, 1, none⟩ = some (.int .i64 a.hi) := by
  have hr : some w.heap.size ≠ v.ownBlock := fun e => by have := (h.own.lt _ e.symm).1; omega
  have := (h.go hW).pa.grown hg hr
  exact ⟨this.cell 0, this.cell 1⟩
/-- At the beginning: three new boxes, no quotient. -/
theorem DivMem.start (w : World) (a b : Sp) : DivMem w a b (.slice none 0 0) [] (((w.alloc (.cells #[.int .i64 a.lo, .int .i64 a.hi] 34)).alloc (.cells #[.int .i64 b.lo, .int .i64 b.hi] 34)).alloc (.cells #[.int .i64 0, .int .i64 0] 34)) :=
  ⟨by repeat (first | exact Below.refl _ _ | apply below_alloc), ((Whl.new w 34 _).alloc _).alloc _, (Whl.new1 w _ 34 _).alloc _, Whl.new2 w _ _ 34 _, World.ownsRow_nil _ _ _ _, by simp⟩

set_option maxHeartbeats 4000000 in
theorem dividedP_all (a b : Sp) (w : World) (h1 : a.lo = -9223372036854775808) (h2 : b.lo ≤ -1) (h3 : -1 ≤ b.hi) : Calls Tryd.prog 88 #[.agg #[.int .i64 a.lo, .int .i64 a.hi], .agg #[.int .i64 b.lo, .int .i64 b.hi]] w fun e w' => e = .returned (.agg #[.int .i64 Sp.all.lo, .int .i64 Sp.all.hi]) ∧ Below w.heap.size w w' := by
  have hd : (a.lo == -9223372036854775808) = true := by simp [h1]
  have H1 := Lib.hid h1; clear h1
  go_enter Tryd.func88, Tryd.ntmps88
  go_wp2_with (first
    | (go_at_call 90; go_in)
    | (go_at_call 58
       refine (allP _).mono ?_
       rintro e w1 ⟨rfl, hb1⟩
       obtain ⟨hcc1, hff1⟩ := bcell hb1
       have hs1 := hb1.size
       simp at hs1
       have l1 : w.heap.size + 1 + 1 < w1.heap.size := (by omega)))
  all_goals (try simp only [Exit.inBlock, Exit.then])
  all_goals refine ret_of ?_ rfl
  all_goals simp [results, Tryd.results88, go_sem, *]
  all_goals go_light
  repeat (first | exact Below.refl _ _ | with_reducible apply Below.drew | apply below_alloc | refine Below.setCell ?_ (by dsimp only; omega) _ | refine below_step ?_ hb1)

set_option maxHeartbeats 4000000 in
theorem dividedP_l1 (a b : Sp) (w : World) (hca : (a.lo == -9223372036854775808) = false) (h2 : b.lo ≤ b.hi) (h3 : b.lo ≠ 0 ∨ b.hi ≠ 0) : Calls Tryd.prog 88 #[.agg #[.int .i64 a.lo, .int .i64 a.hi], .agg #[.int .i64 b.lo, .int .i64 b.hi]] w fun e w' => e = .returned (.agg #[.int .i64 (hullTo (quots a b 4) (quots a b 4).length).lo, .int .i64 (hullTo (quots a b 4) (quots a b 4).length).hi]) ∧ Below w.heap.size w w' := by
  obtain ⟨i0, hi, hz0, hz1, hz2⟩ := info_parts infoInt
  have ii : ∀ k : Nat, k < 4 → ∀ w, (Instr.index 126 (.agg #[.int .i64 b.lo, .int .i64 b.hi, .int .i64 (-1), .int .i64 1]) (.int .i64 k)).run Tryd.prog w = .ok (.int .i64 (cand b k)) w := by
    intro k hk w
    have hk5 : k = 0 ∨ k = 1 ∨ k = 2 ∨ k = 3 := by omega
    rcases hk5 with rfl | rfl | rfl | rfl
    · exact (show ∀ w, (Instr.index 126 (.agg #[.int .i64 b.lo, .int .i64 b.hi, .int .i64 (-1), .int .i64 1]) (.int .i64 0)).run Tryd.prog w = .ok (.int .i64 b.lo) w from fun _ => by kernel_rfl) w
    · exact (show ∀ w, (Instr.index 126 (.agg #[.int .i64 b.lo, .int .i64 b.hi, .int .i64 (-1), .int .i64 1]) (.int .i64 1)).run Tryd.prog w = .ok (.int .i64 b.hi) w from fun _ => by kernel_rfl) w
    · exact (show ∀ w, (Instr.index 126 (.agg #[.int .i64 b.lo, .int .i64 b.hi, .int .i64 (-1), .int .i64 1]) (.int .i64 2)).run Tryd.prog w = .ok (.int .i64 (-1)) w from fun _ => by kernel_rfl) w
    · exact (show ∀ w, (Instr.index 126 (.agg #[.int .i64 b.lo, .int .i64 b.hi, .int .i64 (-1), .int .i64 1]) (.int .i64 3)).run Tryd.prog w = .ok (.int .i64 1) w from fun _ => by kernel_rfl) w
  have II := Lib.hid ii; clear ii
  have hpos := quots_some (a := a) h2 h3
  clear h2 h3
  go_enter Tryd.func88, Tryd.ntmps88
  go_wp2
  go_loopw [5, 21] (fun v i wr => ∃ k : Nat, k ≤ 4 ∧ i = .int .i64 k ∧ DivMem w a b v (quots a b k) wr) (fun _ i _ => 4 - (intOf i).toNat)
  case atStart => exact ⟨0, by omega, rfl, (by repeat (first | exact Below.refl _ _ | with_reducible apply Below.drew | apply below_alloc)), ((Whl.new w 34 _).alloc _).alloc _, (Whl.new1 w _ 34 _).alloc _, Whl.new2 w _ _ 34 _, World.ownsRow_nil _ _ _ _, by simp⟩
  case round =>
    obtain ⟨k, hk, rfl, hM⟩ := hrel
    clear hca
    have hlen := quots_len a b k
    have d1 : wr.cell? ⟨w.heap.size, 0, none⟩ = some (.int .i64 a.lo) := hM.pa.cell 0
    have d2 : wr.cell? ⟨w.heap.size, 1, none⟩ = some (.int .i64 a.hi) := hM.pa.cell 1
    have d3 : wr.cell? ⟨w.heap.size + 1, 0, none⟩ = some (.int .i64 b.lo) := hM.pb.cell 0
    have d4 : wr.cell? ⟨w.heap.size + 1, 1, none⟩ = some (.int .i64 b.hi) := hM.pb.cell 1
    have hsz := hM.size
    by_cases hlt : k < 4
    · have ik := II.out k hlt
      cases hz : (cand b k == 0)
      · have hz' : (cand b k != 0) = true := by rw [bne, hz]; rfl
        cases hh : b.has (cand b k)
        · go_wp2_with (go_at_call 90; refine (hasP b (cand b k) _).mono ?_; rintro e w3 ⟨rfl, hb3⟩; have hM3 := hM.go hb3; have d11 : w3.cell? ⟨w.heap.size, 0, none⟩ = some (.int .i64 a.lo) := hM3.pa.cell 0; have d12 : w3.cell? ⟨w.heap.size, 1, none⟩ = some (.int .i64 a.hi) := hM3.pa.cell 1; have l10 := hM3.pa.lt; have l11 := hM3.pb.lt; have hsz3 := hM3.size)
          go_roundw
          case rel =>
            go_light
            exact ⟨k + 1, by omega, by go_num, by rw [quots_no (candOk_out hh)]; exact hM3⟩
          case measure => simp [intOf]; omega
        · have hne : ¬ cand b k = 0 := by simpa using hz
          go_wp2_with (go_at_call 90; refine (hasP b (cand b k) _).mono ?_; rintro e w3 ⟨rfl, hb3⟩; have hM3 := hM.go hb3; have d11 : w3.cell? ⟨w.heap.size, 0, none⟩ = some (.int .i64 a.lo) := hM3.pa.cell 0; have d12 : w3.cell? ⟨w.heap.size, 1, none⟩ = some (.int .i64 a.hi) := hM3.pa.cell 1; have l10 := hM3.pa.lt; have l11 := hM3.pb.lt; have hsz3 := hM3.size)
          go_region_held3 (fun w' => w'.cell? ⟨w.heap.size, 0, none⟩ = some (.int .i64 a.lo) ∧ w'.cell? ⟨w.heap.size, 1, none⟩ = some (.int .i64 a.hi)) (first | exact hM.paGrow (below_alloc hb3 _).drew hgrow | (go_simp; done))
            ((refine step_append_lies _ (by rfl) _ _ _ (by rfl) (w.heap.size + 1 + 1 + 1) 2 i0 _ 1 8 Tryd.underlying22 hi hz0 hz1 hz2 rfl (by omega) _ _ _ (by rfl) ((hM3.own.alloc _).drew) ⟨w3.heap.size, 0, none⟩ 2 2 [.int .i64 (IntKind.i64.wrap (a.lo.tdiv (cand b k))), .int .i64 (IntKind.i64.wrap (a.hi.tdiv (cand b k)))] (by rfl) (by rfl) (World.news_of_block (cs := #[.int .i64 (IntKind.i64.wrap (a.lo.tdiv (cand b k))), .int .i64 (IntKind.i64.wrap (a.hi.tdiv (cand b k)))]) (t := 2) (fr := (0, 0)) (heap_alloc_new w3 _)) (by simp [Value.oneCell']) (by omega) (by unfold maxLen; omega) (by omega) (by simp; omega) (w3.heap.size + 1) (by simp) ?_; intro g cap w2 hown2 hgrow hat hlt2))
          go_wp2
          go_roundw
          case rel =>
            go_light
            refine ⟨k + 1, by omega, by go_num, hM.app (L2 := quots a b (k + 1)) ?hW hgrow ?hn ?hx hown2⟩
            case hW => exact (below_alloc hb3 _).drew
            case hn => rw [quots_yes (candOk_in hz hh)]; simp
            case hx => rw [quots_yes (candOk_in hz hh)]; simp [IntWalk.i64_left]
          case measure => simp [intOf]; omega
      · have hz' : (cand b k != 0) = false := by rw [bne, hz]; rfl
        go_wp2
        go_roundw
        case rel =>
          go_light
          exact ⟨k + 1, by omega, by go_num, by rw [quots_no (candOk_zero hz)]; exact hM⟩
        case measure => simp [intOf]; omega
    · obtain rfl : k = 4 := by omega
      obtain ⟨g, cap, hv, _, _⟩ := hM.own.form hpos
      subst hv
      have hcell : ∀ j, j < (quots a b 4).length → wr.cell? ⟨g, 0 + j, none⟩ = some (.int .i64 (nthI (quots a b 4) j)) := fun j hj => by
        rw [Nat.zero_add, hM.own.cellAt j (by omega)]
        simp [nthI, hj]
      have hlg := (hM.own.lt g rfl).2
      have HC := Lib.hid hcell; clear hcell
      have d5 : wr.cell? ⟨w.heap.size + 1 + 1, 0, none⟩ = some (.int .i64 0) := hM.po.cell 0
      have d6 : wr.cell? ⟨w.heap.size + 1 + 1, 1, none⟩ = some (.int .i64 0) := hM.po.cell 1
      have f5 := hM.po.frozen 0
      have f6 := hM.po.frozen 1
      go_wp2_with (go_at_call 84; refine (hullP g 0 cap (quots a b 4) _ hlg hpos (by omega) HC.out).mono ?_; rintro e w2 ⟨rfl, hb2⟩; have hM2 := hM.go hb2; have d7 : w2.cell? ⟨w.heap.size + 1 + 1, 0, none⟩ = some (.int .i64 0) := hM2.po.cell 0; have d8 : w2.cell? ⟨w.heap.size + 1 + 1, 1, none⟩ = some (.int .i64 0) := hM2.po.cell 1; have f7 := hM2.po.frozen 0; have f8 := hM2.po.frozen 1)
      all_goals (try simp only [Exit.inBlock, Exit.then])
      all_goals refine ret_of ?_ rfl
      all_goals simp [results, Tryd.results88, go_sem, d7, d8, f7, f8]
      exact (hM2.below.setCell (by dsimp only; omega) _).setCell (by dsimp only; omega) _

set_option maxHeartbeats 4000000 in
theorem dividedP_l2 (a b : Sp) (w : World) (hca : (a.lo == -9223372036854775808) = true) (hh1 : b.has (-1) = false) (h2 : b.lo ≤ b.hi) (h3 : b.lo ≠ 0 ∨ b.hi ≠ 0) : Calls Tryd.prog 88 #[.agg #[.int .i64 a.lo, .int .i64 a.hi], .agg #[.int .i64 b.lo, .int .i64 b.hi]] w fun e w' => e = .returned (.agg #[.int .i64 (hullTo (quots a b 4) (quots a b 4).length).lo, .int .i64 (hullTo (quots a b 4) (quots a b 4).length).hi]) ∧ Below w.heap.size w w' := by
  obtain ⟨i0, hi, hz0, hz1, hz2⟩ := info_parts infoInt
  have ii : ∀ k : Nat, k < 4 → ∀ w, (Instr.index 126 (.agg #[.int .i64 b.lo, .int .i64 b.hi, .int .i64 (-1), .int .i64 1]) (.int .i64 k)).run Tryd.prog w = .ok (.int .i64 (cand b k)) w := by
    intro k hk w
    have hk5 : k = 0 ∨ k = 1 ∨ k = 2 ∨ k = 3 := by omega
    rcases hk5 with rfl | rfl | rfl | rfl
    · exact (show ∀ w, (Instr.index 126 (.agg #[.int .i64 b.lo, .int .i64 b.hi, .int .i64 (-1), .int .i64 1]) (.int .i64 0)).run Tryd.prog w = .ok (.int .i64 b.lo) w from fun _ => by kernel_rfl) w
    · exact (show ∀ w, (Instr.index 126 (.agg #[.int .i64 b.lo, .int .i64 b.hi, .int .i64 (-1), .int .i64 1]) (.int .i64 1)).run Tryd.prog w = .ok (.int .i64 b.hi) w from fun _ => by kernel_rfl) w
    · exact (show ∀ w, (Instr.index 126 (.agg #[.int .i64 b.lo, .int .i64 b.hi, .int .i64 (-1), .int .i64 1]) (.int .i64 2)).run Tryd.prog w = .ok (.int .i64 (-1)) w from fun _ => by kernel_rfl) w
    · exact (show ∀ w, (Instr.index 126 (.agg #[.int .i64 b.lo, .int .i64 b.hi, .int .i64 (-1), .int .i64 1]) (.int .i64 3)).run Tryd.prog w = .ok (.int .i64 1) w from fun _ => by kernel_rfl) w
  have II := Lib.hid ii; clear ii
  have hpos := quots_some (a := a) h2 h3
  clear h2 h3
  go_enter Tryd.func88, Tryd.ntmps88
  go_wp2_with (go_at_call 90; refine (hasP b (-1) _).mono ?_; rintro e w4 ⟨rfl, hb4⟩; have hM4 := (DivMem.start w a b).go hb4; have q1 : w4.cell? ⟨w.heap.size + 1, 0, none⟩ = some (.int .i64 b.lo) := hM4.pb.cell 0; have q2 : w4.cell? ⟨w.heap.size + 1, 1, none⟩ = some (.int .i64 b.hi) := hM4.pb.cell 1)
  go_loopw [5, 21] (fun v i wr => ∃ k : Nat, k ≤ 4 ∧ i = .int .i64 k ∧ DivMem w a b v (quots a b k) wr) (fun _ i _ => 4 - (intOf i).toNat)
  case atStart => exact ⟨0, by omega, rfl, hM4⟩
  case round =>
    obtain ⟨k, hk, rfl, hM⟩ := hrel
    clear hca
    have hlen := quots_len a b k
    have d1 : wr.cell? ⟨w.heap.size, 0, none⟩ = some (.int .i64 a.lo) := hM.pa.cell 0
    have d2 : wr.cell? ⟨w.heap.size, 1, none⟩ = some (.int .i64 a.hi) := hM.pa.cell 1
    have d3 : wr.cell? ⟨w.heap.size + 1, 0, none⟩ = some (.int .i64 b.lo) := hM.pb.cell 0
    have d4 : wr.cell? ⟨w.heap.size + 1, 1, none⟩ = some (.int .i64 b.hi) := hM.pb.cell 1
    have hsz := hM.size
    by_cases hlt : k < 4
    · have ik := II.out k hlt
      cases hz : (cand b k == 0)
      · have hz' : (cand b k != 0) = true := by rw [bne, hz]; rfl
        cases hh : b.has (cand b k)
        · go_wp2_with (go_at_call 90; refine (hasP b (cand b k) _).mono ?_; rintro e w3 ⟨rfl, hb3⟩; have hM3 := hM.go hb3; have d11 : w3.cell? ⟨w.heap.size, 0, none⟩ = some (.int .i64 a.lo) := hM3.pa.cell 0; have d12 : w3.cell? ⟨w.heap.size, 1, none⟩ = some (.int .i64 a.hi) := hM3.pa.cell 1; have l10 := hM3.pa.lt; have l11 := hM3.pb.lt; have hsz3 := hM3.size)
          go_roundw
          case rel =>
            go_light
            exact ⟨k + 1, by omega, by go_num, by rw [quots_no (candOk_out hh)]; exact hM3⟩
          case measure => simp [intOf]; omega
        · have hne : ¬ cand b k = 0 := by simpa using hz
          go_wp2_with (go_at_call 90; refine (hasP b (cand b k) _).mono ?_; rintro e w3 ⟨rfl, hb3⟩; have hM3 := hM.go hb3; have d11 : w3.cell? ⟨w.heap.size, 0, none⟩ = some (.int .i64 a.lo) := hM3.pa.cell 0; have d12 : w3.cell? ⟨w.heap.size, 1, none⟩ = some (.int .i64 a.hi) := hM3.pa.cell 1; have l10 := hM3.pa.lt; have l11 := hM3.pb.lt; have hsz3 := hM3.size)
          go_region_held3 (fun w' => w'.cell? ⟨w.heap.size, 0, none⟩ = some (.int .i64 a.lo) ∧ w'.cell? ⟨w.heap.size, 1, none⟩ = some (.int .i64 a.hi)) (first | exact hM.paGrow (below_alloc hb3 _).drew hgrow | (go_simp; done))
            ((refine step_append_lies _ (by rfl) _ _ _ (by rfl) (w.heap.size + 1 + 1 + 1) 2 i0 _ 1 8 Tryd.underlying22 hi hz0 hz1 hz2 rfl (by omega) _ _ _ (by rfl) ((hM3.own.alloc _).drew) ⟨w3.heap.size, 0, none⟩ 2 2 [.int .i64 (IntKind.i64.wrap (a.lo.tdiv (cand b k))), .int .i64 (IntKind.i64.wrap (a.hi.tdiv (cand b k)))] (by rfl) (by rfl) (World.news_of_block (cs := #[.int .i64 (IntKind.i64.wrap (a.lo.tdiv (cand b k))), .int .i64 (IntKind.i64.wrap (a.hi.tdiv (cand b k)))]) (t := 2) (fr := (0, 0)) (heap_alloc_new w3 _)) (by simp [Value.oneCell']) (by omega) (by unfold maxLen; omega) (by omega) (by simp; omega) (w3.heap.size + 1) (by simp) ?_; intro g cap w2 hown2 hgrow hat hlt2))
          go_wp2
          go_roundw
          case rel =>
            go_light
            refine ⟨k + 1, by omega, by go_num, hM.app (L2 := quots a b (k + 1)) ?hW hgrow ?hn ?hx hown2⟩
            case hW => exact (below_alloc hb3 _).drew
            case hn => rw [quots_yes (candOk_in hz hh)]; simp
            case hx => rw [quots_yes (candOk_in hz hh)]; simp [IntWalk.i64_left]
          case measure => simp [intOf]; omega
      · have hz' : (cand b k != 0) = false := by rw [bne, hz]; rfl
        go_wp2
        go_roundw
        case rel =>
          go_light
          exact ⟨k + 1, by omega, by go_num, by rw [quots_no (candOk_zero hz)]; exact hM⟩
        case measure => simp [intOf]; omega
    · obtain rfl : k = 4 := by omega
      obtain ⟨g, cap, hv, _, _⟩ := hM.own.form hpos
      subst hv
      have hcell : ∀ j, j < (quots a b 4).length → wr.cell? ⟨g, 0 + j, none⟩ = some (.int .i64 (nthI (quots a b 4) j)) := fun j hj => by
        rw [Nat.zero_add, hM.own.cellAt j (by omega)]
        simp [nthI, hj]
      have hlg := (hM.own.lt g rfl).2
      have HC := Lib.hid hcell; clear hcell
      have d5 : wr.cell? ⟨w.heap.size + 1 + 1, 0, none⟩ = some (.int .i64 0) := hM.po.cell 0
      have d6 : wr.cell? ⟨w.heap.size + 1 + 1, 1, none⟩ = some (.int .i64 0) := hM.po.cell 1
      have f5 := hM.po.frozen 0
      have f6 := hM.po.frozen 1
      go_wp2_with (go_at_call 84; refine (hullP g 0 cap (quots a b 4) _ hlg hpos (by omega) HC.out).mono ?_; rintro e w2 ⟨rfl, hb2⟩; have hM2 := hM.go hb2; have d7 : w2.cell? ⟨w.heap.size + 1 + 1, 0, none⟩ = some (.int .i64 0) := hM2.po.cell 0; have d8 : w2.cell? ⟨w.heap.size + 1 + 1, 1, none⟩ = some (.int .i64 0) := hM2.po.cell 1; have f7 := hM2.po.frozen 0; have f8 := hM2.po.frozen 1)
      all_goals (try simp only [Exit.inBlock, Exit.then])
      all_goals refine ret_of ?_ rfl
      all_goals simp [results, Tryd.results88, go_sem, d7, d8, f7, f8]
      exact (hM2.below.setCell (by dsimp only; omega) _).setCell (by dsimp only; omega) _

set_option maxHeartbeats 4000000 in
theorem dividedP_list (a b : Sp) (w : World) (h1 : ¬ (a.lo = -9223372036854775808 ∧ b.has (-1) = true)) (h2 : b.lo ≤ b.hi) (h3 : b.lo ≠ 0 ∨ b.hi ≠ 0) : Calls Tryd.prog 88 #[.agg #[.int .i64 a.lo, .int .i64 a.hi], .agg #[.int .i64 b.lo, .int .i64 b.hi]] w fun e w' => e = .returned (.agg #[.int .i64 (hullTo (quots a b 4) (quots a b 4).length).lo, .int .i64 (hullTo (quots a b 4) (quots a b 4).length).hi]) ∧ Below w.heap.size w w' := by
  cases hca : (a.lo == -9223372036854775808)
  · exact dividedP_l1 a b w hca h2 h3
  · have hh : b.has (-1) = false := by
      cases x : b.has (-1)
      · rfl
      · exact absurd ⟨by simpa using hca, x⟩ h1
    exact dividedP_l2 a b w hca hh h2 h3
theorem dividedP (a b : Sp) (w : World) (h2 : b.lo ≤ b.hi) (h3 : b.lo ≠ 0 ∨ b.hi ≠ 0) : Calls Tryd.prog 88 #[.agg #[.int .i64 a.lo, .int .i64 a.hi], .agg #[.int .i64 b.lo, .int .i64 b.hi]] w fun e w' => e = .returned (.agg #[.int .i64 (divS a b).lo, .int .i64 (divS a b).hi]) ∧ Below w.heap.size w w' := by
  by_cases h : a.lo = -9223372036854775808 ∧ b.has (-1) = true
  · have e : divS a b = Sp.all := by simp [divS, Sp.least, h.1, h.2]
    rw [e]
    have hb : b.lo ≤ -1 ∧ -1 ≤ b.hi := by simpa [Sp.has] using h.2
    exact dividedP_all a b w h.1 hb.1 hb.2
  · have e : divS a b = hullTo (quots a b 4) (quots a b 4).length := by unfold divS Sp.least; rw [if_neg h]
    rw [e]
    exact dividedP_list a b w h h2 h3
end Go.Proofs.YtddobhneplfddaaDoor

namespace Go.Proofs.YtddobhneplfddaaDoor
set_option maxRecDepth 100000
open Go.RowKit
set_option linter.unusedSimpArgs false
set_option linter.unusedVariables false
set_option maxRecDepth 100000
attribute [local go_sem ↓] Go.wp_at_zero Go.wp_at_succ

set_option maxHeartbeats 4000000 in
theorem doDiv_pz (a b : Sp) (n1 : a.lo ≤ a.hi) (n2 : b.lo ≤ b.hi) (hc : (a.lo == a.hi) = true) (hd : (b.lo == b.hi) = true) (z1 : (b.lo == 0) = true) (z2 : (b.hi == 0) = true) (w : World) : Calls Tryd.prog 55 #[.int .i64 6, .agg #[.int .i64 a.lo, .int .i64 a.hi], .agg #[.int .i64 b.lo, .int .i64 b.hi]] w fun e w' => e = .returned (.tuple #[.agg #[.int .i64 (Sp.mk 0 0).lo, .int .i64 (Sp.mk 0 0).hi], .bool false]) ∧ Below w.heap.size w w' := by
  go_enter Tryd.func55, Tryd.ntmps55
  go_wp2_with (first
  | (go_at_call 82; go_in))
  all_goals (try simp only [Exit.inBlock, Exit.then])
  all_goals refine ret_of ?_ rfl
  all_goals simp [results, Tryd.results55, go_sem, ltS, notS, *]
  all_goals go_light
  all_goals (repeat (first | exact Below.refl _ _ | with_reducible apply below_alloc | with_reducible apply Below.drew | with_reducible refine Below.setCell ?_ (by dsimp only; omega) _ | with_reducible refine below_step ?_ hb1))

set_option maxHeartbeats 4000000 in
theorem doDiv_pc (a b : Sp) (n1 : a.lo ≤ a.hi) (n2 : b.lo ≤ b.hi) (hc : (a.lo == a.hi) = true) (hd : (b.lo == b.hi) = true) (z1 : (b.lo == 0) = false) (w : World) : Calls Tryd.prog 55 #[.int .i64 6, .agg #[.int .i64 a.lo, .int .i64 a.hi], .agg #[.int .i64 b.lo, .int .i64 b.hi]] w fun e w' => e = .returned (.tuple #[.agg #[.int .i64 (divS a b).lo, .int .i64 (divS a b).hi], .bool true]) ∧ Below w.heap.size w w' := by
  have z : b.lo ≠ 0 ∨ b.hi ≠ 0 := .inl (by simpa using z1)
  have Z := Lib.hid z; clear z
  go_enter Tryd.func55, Tryd.ntmps55
  go_wp2_with (first
  | (go_at_call 82; go_in)
  | (
    go_at_call 88
    refine (dividedP a b _ (by assumption) Z.out).mono ?_
    rintro e w1 ⟨rfl, hb1⟩
    obtain ⟨hcc1, hff1⟩ := bcell hb1
    have hs1 := hb1.size
    simp at hs1
    have l1 : w.heap.size + 1 + 1 < w1.heap.size := (by omega)
    have m1 : w.heap.size + 1 < w1.heap.size := (by omega)
    have k1 : w.heap.size < w1.heap.size := (by omega)))
  all_goals (try simp only [Exit.inBlock, Exit.then])
  all_goals refine ret_of ?_ rfl
  all_goals simp [results, Tryd.results55, go_sem, ltS, notS, *]
  all_goals go_light
  all_goals (repeat (first | exact Below.refl _ _ | with_reducible apply below_alloc | with_reducible apply Below.drew | with_reducible refine Below.setCell ?_ (by dsimp only; omega) _ | with_reducible refine below_step ?_ hb1))

set_option maxHeartbeats 4000000 in
theorem doDiv_pd (a b : Sp) (n1 : a.lo ≤ a.hi) (n2 : b.lo ≤ b.hi) (hc : (a.lo == a.hi) = true) (hd : (b.lo == b.hi) = true) (z1 : (b.lo == 0) = true) (z2 : (b.hi == 0) = false) (w : World) : Calls Tryd.prog 55 #[.int .i64 6, .agg #[.int .i64 a.lo, .int .i64 a.hi], .agg #[.int .i64 b.lo, .int .i64 b.hi]] w fun e w' => e = .returned (.tuple #[.agg #[.int .i64 (divS a b).lo, .int .i64 (divS a b).hi], .bool true]) ∧ Below w.heap.size w w' := by
  have z : b.lo ≠ 0 ∨ b.hi ≠ 0 := .inr (by simpa using z2)
  have Z := Lib.hid z; clear z
  go_enter Tryd.func55, Tryd.ntmps55
  go_wp2_with (first
  | (go_at_call 82; go_in)
  | (
    go_at_call 88
    refine (dividedP a b _ (by assumption) Z.out).mono ?_
    rintro e w1 ⟨rfl, hb1⟩
    obtain ⟨hcc1, hff1⟩ := bcell hb1
    have hs1 := hb1.size
    simp at hs1
    have l1 : w.heap.size + 1 + 1 < w1.heap.size := (by omega)
    have m1 : w.heap.size + 1 < w1.heap.size := (by omega)
    have k1 : w.heap.size < w1.heap.size := (by omega)))
  all_goals (try simp only [Exit.inBlock, Exit.then])
  all_goals refine ret_of ?_ rfl
  all_goals simp [results, Tryd.results55, go_sem, ltS, notS, *]
  all_goals go_light
  all_goals (repeat (first | exact Below.refl _ _ | with_reducible apply below_alloc | with_reducible apply Below.drew | with_reducible refine Below.setCell ?_ (by dsimp only; omega) _ | with_reducible refine below_step ?_ hb1))

set_option maxHeartbeats 4000000 in
theorem doDiv_qz (a b : Sp) (n1 : a.lo ≤ a.hi) (n2 : b.lo ≤ b.hi) (hc : (a.lo == a.hi) = true) (hd : (b.lo == b.hi) = false) (z1 : (b.lo == 0) = true) (z2 : (b.hi == 0) = true) (w : World) : Calls Tryd.prog 55 #[.int .i64 6, .agg #[.int .i64 a.lo, .int .i64 a.hi], .agg #[.int .i64 b.lo, .int .i64 b.hi]] w fun e w' => e = .returned (.tuple #[.agg #[.int .i64 (Sp.mk 0 0).lo, .int .i64 (Sp.mk 0 0).hi], .bool false]) ∧ Below w.heap.size w w' := by
  go_enter Tryd.func55, Tryd.ntmps55
  go_wp2_with (first
  | (go_at_call 82; go_in))
  all_goals (try simp only [Exit.inBlock, Exit.then])
  all_goals refine ret_of ?_ rfl
  all_goals simp [results, Tryd.results55, go_sem, ltS, notS, *]
  all_goals go_light
  all_goals (repeat (first | exact Below.refl _ _ | with_reducible apply below_alloc | with_reducible apply Below.drew | with_reducible refine Below.setCell ?_ (by dsimp only; omega) _ | with_reducible refine below_step ?_ hb1))

set_option maxHeartbeats 4000000 in
theorem doDiv_qc (a b : Sp) (n1 : a.lo ≤ a.hi) (n2 : b.lo ≤ b.hi) (hc : (a.lo == a.hi) = true) (hd : (b.lo == b.hi) = false) (z1 : (b.lo == 0) = false) (w : World) : Calls Tryd.prog 55 #[.int .i64 6, .agg #[.int .i64 a.lo, .int .i64 a.hi], .agg #[.int .i64 b.lo, .int .i64 b.hi]] w fun e w' => e = .returned (.tuple #[.agg #[.int .i64 (divS a b).lo, .int .i64 (divS a b).hi], .bool true]) ∧ Below w.heap.size w w' := by
  have z : b.lo ≠ 0 ∨ b.hi ≠ 0 := .inl (by simpa using z1)
  have Z := Lib.hid z; clear z
  go_enter Tryd.func55, Tryd.ntmps55
  go_wp2_with (first
  | (go_at_call 82; go_in)
  | (
    go_at_call 88
    refine (dividedP a b _ (by assumption) Z.out).mono ?_
    rintro e w1 ⟨rfl, hb1⟩
    obtain ⟨hcc1, hff1⟩ := bcell hb1
    have hs1 := hb1.size
    simp at hs1
    have l1 : w.heap.size + 1 + 1 < w1.heap.size := (by omega)
    have m1 : w.heap.size + 1 < w1.heap.size := (by omega)
    have k1 : w.heap.size < w1.heap.size := (by omega)))
  all_goals (try simp only [Exit.inBlock, Exit.then])
  all_goals refine ret_of ?_ rfl
  all_goals simp [results, Tryd.results55, go_sem, ltS, notS, *]
  all_goals go_light
  all_goals (repeat (first | exact Below.refl _ _ | with_reducible apply below_alloc | with_reducible apply Below.drew | with_reducible refine Below.setCell ?_ (by dsimp only; omega) _ | with_reducible refine below_step ?_ hb1))

set_option maxHeartbeats 4000000 in
theorem doDiv_qd (a b : Sp) (n1 : a.lo ≤ a.hi) (n2 : b.lo ≤ b.hi) (hc : (a.lo == a.hi) = true) (hd : (b.lo == b.hi) = false) (z1 : (b.lo == 0) = true) (z2 : (b.hi == 0) = false) (w : World) : Calls Tryd.prog 55 #[.int .i64 6, .agg #[.int .i64 a.lo, .int .i64 a.hi], .agg #[.int .i64 b.lo, .int .i64 b.hi]] w fun e w' => e = .returned (.tuple #[.agg #[.int .i64 (divS a b).lo, .int .i64 (divS a b).hi], .bool true]) ∧ Below w.heap.size w w' := by
  have z : b.lo ≠ 0 ∨ b.hi ≠ 0 := .inr (by simpa using z2)
  have Z := Lib.hid z; clear z
  go_enter Tryd.func55, Tryd.ntmps55
  go_wp2_with (first
  | (go_at_call 82; go_in)
  | (
    go_at_call 88
    refine (dividedP a b _ (by assumption) Z.out).mono ?_
    rintro e w1 ⟨rfl, hb1⟩
    obtain ⟨hcc1, hff1⟩ := bcell hb1
    have hs1 := hb1.size
    simp at hs1
    have l1 : w.heap.size + 1 + 1 < w1.heap.size := (by omega)
    have m1 : w.heap.size + 1 < w1.heap.size := (by omega)
    have k1 : w.heap.size < w1.heap.size := (by omega)))
  all_goals (try simp only [Exit.inBlock, Exit.then])
  all_goals refine ret_of ?_ rfl
  all_goals simp [results, Tryd.results55, go_sem, ltS, notS, *]
  all_goals go_light
  all_goals (repeat (first | exact Below.refl _ _ | with_reducible apply below_alloc | with_reducible apply Below.drew | with_reducible refine Below.setCell ?_ (by dsimp only; omega) _ | with_reducible refine below_step ?_ hb1))

set_option maxHeartbeats 4000000 in
theorem doDiv_rz (a b : Sp) (n1 : a.lo ≤ a.hi) (n2 : b.lo ≤ b.hi) (hc : (a.lo == a.hi) = false) (z1 : (b.lo == 0) = true) (z2 : (b.hi == 0) = true) (w : World) : Calls Tryd.prog 55 #[.int .i64 6, .agg #[.int .i64 a.lo, .int .i64 a.hi], .agg #[.int .i64 b.lo, .int .i64 b.hi]] w fun e w' => e = .returned (.tuple #[.agg #[.int .i64 (Sp.mk 0 0).lo, .int .i64 (Sp.mk 0 0).hi], .bool false]) ∧ Below w.heap.size w w' := by
  go_enter Tryd.func55, Tryd.ntmps55
  go_wp2_with (first
  | (go_at_call 82; go_in))
  all_goals (try simp only [Exit.inBlock, Exit.then])
  all_goals refine ret_of ?_ rfl
  all_goals simp [results, Tryd.results55, go_sem, ltS, notS, *]
  all_goals go_light
  all_goals (repeat (first | exact Below.refl _ _ | with_reducible apply below_alloc | with_reducible apply Below.drew | with_reducible refine Below.setCell ?_ (by dsimp only; omega) _ | with_reducible refine below_step ?_ hb1))

set_option maxHeartbeats 4000000 in
theorem doDiv_rc (a b : Sp) (n1 : a.lo ≤ a.hi) (n2 : b.lo ≤ b.hi) (hc : (a.lo == a.hi) = false) (z1 : (b.lo == 0) = false) (w : World) : Calls Tryd.prog 55 #[.int .i64 6, .agg #[.int .i64 a.lo, .int .i64 a.hi], .agg #[.int .i64 b.lo, .int .i64 b.hi]] w fun e w' => e = .returned (.tuple #[.agg #[.int .i64 (divS a b).lo, .int .i64 (divS a b).hi], .bool true]) ∧ Below w.heap.size w w' := by
  have z : b.lo ≠ 0 ∨ b.hi ≠ 0 := .inl (by simpa using z1)
  have Z := Lib.hid z; clear z
  go_enter Tryd.func55, Tryd.ntmps55
  go_wp2_with (first
  | (go_at_call 82; go_in)
  | (
    go_at_call 88
    refine (dividedP a b _ (by assumption) Z.out).mono ?_
    rintro e w1 ⟨rfl, hb1⟩
    obtain ⟨hcc1, hff1⟩ := bcell hb1
    have hs1 := hb1.size
    simp at hs1
    have l1 : w.heap.size + 1 + 1 < w1.heap.size := (by omega)
    have m1 : w.heap.size + 1 < w1.heap.size := (by omega)
    have k1 : w.heap.size < w1.heap.size := (by omega)))
  all_goals (try simp only [Exit.inBlock, Exit.then])
  all_goals refine ret_of ?_ rfl
  all_goals simp [results, Tryd.results55, go_sem, ltS, notS, *]
  all_goals go_light
  all_goals (repeat (first | exact Below.refl _ _ | with_reducible apply below_alloc | with_reducible apply Below.drew | with_reducible refine Below.setCell ?_ (by dsimp only; omega) _ | with_reducible refine below_step ?_ hb1))

set_option maxHeartbeats 4000000 in
theorem doDiv_rd (a b : Sp) (n1 : a.lo ≤ a.hi) (n2 : b.lo ≤ b.hi) (hc : (a.lo == a.hi) = false) (z1 : (b.lo == 0) = true) (z2 : (b.hi == 0) = false) (w : World) : Calls Tryd.prog 55 #[.int .i64 6, .agg #[.int .i64 a.lo, .int .i64 a.hi], .agg #[.int .i64 b.lo, .int .i64 b.hi]] w fun e w' => e = .returned (.tuple #[.agg #[.int .i64 (divS a b).lo, .int .i64 (divS a b).hi], .bool true]) ∧ Below w.heap.size w w' := by
  have z : b.lo ≠ 0 ∨ b.hi ≠ 0 := .inr (by simpa using z2)
  have Z := Lib.hid z; clear z
  go_enter Tryd.func55, Tryd.ntmps55
  go_wp2_with (first
  | (go_at_call 82; go_in)
  | (
    go_at_call 88
    refine (dividedP a b _ (by assumption) Z.out).mono ?_
    rintro e w1 ⟨rfl, hb1⟩
    obtain ⟨hcc1, hff1⟩ := bcell hb1
    have hs1 := hb1.size
    simp at hs1
    have l1 : w.heap.size + 1 + 1 < w1.heap.size := (by omega)
    have m1 : w.heap.size + 1 < w1.heap.size := (by omega)
    have k1 : w.heap.size < w1.heap.size := (by omega)))
  all_goals (try simp only [Exit.inBlock, Exit.then])
  all_goals refine ret_of ?_ rfl
  all_goals simp [results, Tryd.results55, go_sem, ltS, notS, *]
  all_goals go_light
  all_goals (repeat (first | exact Below.refl _ _ | with_reducible apply below_alloc | with_reducible apply Below.drew | with_reducible refine Below.setCell ?_ (by dsimp only; omega) _ | with_reducible refine below_step ?_ hb1))

end Go.Proofs.YtddobhneplfddaaDoor

/-
  Layer 8 (span): the walks of span.Do, one for each operation and case.
-/
namespace Go.Proofs.YtddobhneplfddaaDoor
set_option maxRecDepth 100000
open Go.RowKit
set_option linter.unusedSimpArgs false
set_option linter.unusedVariables false
set_option maxRecDepth 100000
attribute [local go_sem ↓] Go.wp_at_zero Go.wp_at_succ

set_option maxHeartbeats 4000000 in
theorem doRem_pz (a b : Sp) (n1 : a.lo ≤ a.hi) (n2 : b.lo ≤ b.hi) (hc : (a.lo == a.hi) = true) (hd : (b.lo == b.hi) = true) (z1 : (b.lo == 0) = true) (z2 : (b.hi == 0) = true) (w : World) : Calls Tryd.prog 55 #[.int .i64 7, .agg #[.int .i64 a.lo, .int .i64 a.hi], .agg #[.int .i64 b.lo, .int .i64 b.hi]] w fun e w' => e = .returned (.tuple #[.agg #[.int .i64 (Sp.mk 0 0).lo, .int .i64 (Sp.mk 0 0).hi], .bool false]) ∧ Below w.heap.size w w' := by
  go_enter Tryd.func55, Tryd.ntmps55
  go_wp2_with (first
  | (go_at_call 82; go_in))
  all_goals (try simp only [Exit.inBlock, Exit.then])
  all_goals refine ret_of ?_ rfl
  all_goals simp [results, Tryd.results55, go_sem, ltS, notS, *]
  all_goals go_light
  all_goals (repeat (first | exact Below.refl _ _ | with_reducible apply below_alloc | with_reducible apply Below.drew | with_reducible refine Below.setCell ?_ (by dsimp only; omega) _ | with_reducible refine below_step ?_ hb1))

set_option maxHeartbeats 4000000 in
theorem doRem_pc (a b : Sp) (n1 : a.lo ≤ a.hi) (n2 : b.lo ≤ b.hi) (ha : a.Wf) (hb : b.Wf) (hc : (a.lo == a.hi) = true) (hd : (b.lo == b.hi) = true) (z1 : (b.lo == 0) = false) (w : World) : Calls Tryd.prog 55 #[.int .i64 7, .agg #[.int .i64 a.lo, .int .i64 a.hi], .agg #[.int .i64 b.lo, .int .i64 b.hi]] w fun e w' => e = .returned (.tuple #[.agg #[.int .i64 (leftS a b).lo, .int .i64 (leftS a b).hi], .bool true]) ∧ Below w.heap.size w w' := by
  have z : b.lo ≠ 0 ∨ b.hi ≠ 0 := .inl (by simpa using z1)
  have Z := Lib.hid z; clear z
  go_enter Tryd.func55, Tryd.ntmps55
  go_wp2_with (first
  | (go_at_call 82; go_in)
  | (
    go_at_call 87
    refine (leftP a b ha hb Z.out _).mono ?_
    rintro e w1 ⟨rfl, hb1⟩
    obtain ⟨hcc1, hff1⟩ := bcell hb1
    have hs1 := hb1.size
    simp at hs1
    have l1 : w.heap.size + 1 + 1 < w1.heap.size := (by omega)
    have m1 : w.heap.size + 1 < w1.heap.size := (by omega)
    have k1 : w.heap.size < w1.heap.size := (by omega)))
  all_goals (try simp only [Exit.inBlock, Exit.then])
  all_goals refine ret_of ?_ rfl
  all_goals simp [results, Tryd.results55, go_sem, ltS, notS, *]
  all_goals go_light
  all_goals (repeat (first | exact Below.refl _ _ | with_reducible apply below_alloc | with_reducible apply Below.drew | with_reducible refine Below.setCell ?_ (by dsimp only; omega) _ | with_reducible refine below_step ?_ hb1))

set_option maxHeartbeats 4000000 in
theorem doRem_pd (a b : Sp) (n1 : a.lo ≤ a.hi) (n2 : b.lo ≤ b.hi) (ha : a.Wf) (hb : b.Wf) (hc : (a.lo == a.hi) = true) (hd : (b.lo == b.hi) = true) (z1 : (b.lo == 0) = true) (z2 : (b.hi == 0) = false) (w : World) : Calls Tryd.prog 55 #[.int .i64 7, .agg #[.int .i64 a.lo, .int .i64 a.hi], .agg #[.int .i64 b.lo, .int .i64 b.hi]] w fun e w' => e = .returned (.tuple #[.agg #[.int .i64 (leftS a b).lo, .int .i64 (leftS a b).hi], .bool true]) ∧ Below w.heap.size w w' := by
  have z : b.lo ≠ 0 ∨ b.hi ≠ 0 := .inr (by simpa using z2)
  have Z := Lib.hid z; clear z
  go_enter Tryd.func55, Tryd.ntmps55
  go_wp2_with (first
  | (go_at_call 82; go_in)
  | (
    go_at_call 87
    refine (leftP a b ha hb Z.out _).mono ?_
    rintro e w1 ⟨rfl, hb1⟩
    obtain ⟨hcc1, hff1⟩ := bcell hb1
    have hs1 := hb1.size
    simp at hs1
    have l1 : w.heap.size + 1 + 1 < w1.heap.size := (by omega)
    have m1 : w.heap.size + 1 < w1.heap.size := (by omega)
    have k1 : w.heap.size < w1.heap.size := (by omega)))
  all_goals (try simp only [Exit.inBlock, Exit.then])
  all_goals refine ret_of ?_ rfl
  all_goals simp [results, Tryd.results55, go_sem, ltS, notS, *]
  all_goals go_light
  all_goals (repeat (first | exact Below.refl _ _ | with_reducible apply below_alloc | with_reducible apply Below.drew | with_reducible refine Below.setCell ?_ (by dsimp only; omega) _ | with_reducible refine below_step ?_ hb1))

set_option maxHeartbeats 4000000 in
theorem doRem_qz (a b : Sp) (n1 : a.lo ≤ a.hi) (n2 : b.lo ≤ b.hi) (hc : (a.lo == a.hi) = true) (hd : (b.lo == b.hi) = false) (z1 : (b.lo == 0) = true) (z2 : (b.hi == 0) = true) (w : World) : Calls Tryd.prog 55 #[.int .i64 7, .agg #[.int .i64 a.lo, .int .i64 a.hi], .agg #[.int .i64 b.lo, .int .i64 b.hi]] w fun e w' => e = .returned (.tuple #[.agg #[.int .i64 (Sp.mk 0 0).lo, .int .i64 (Sp.mk 0 0).hi], .bool false]) ∧ Below w.heap.size w w' := by
  go_enter Tryd.func55, Tryd.ntmps55
  go_wp2_with (first
  | (go_at_call 82; go_in))
  all_goals (try simp only [Exit.inBlock, Exit.then])
  all_goals refine ret_of ?_ rfl
  all_goals simp [results, Tryd.results55, go_sem, ltS, notS, *]
  all_goals go_light
  all_goals (repeat (first | exact Below.refl _ _ | with_reducible apply below_alloc | with_reducible apply Below.drew | with_reducible refine Below.setCell ?_ (by dsimp only; omega) _ | with_reducible refine below_step ?_ hb1))

set_option maxHeartbeats 4000000 in
theorem doRem_qc (a b : Sp) (n1 : a.lo ≤ a.hi) (n2 : b.lo ≤ b.hi) (ha : a.Wf) (hb : b.Wf) (hc : (a.lo == a.hi) = true) (hd : (b.lo == b.hi) = false) (z1 : (b.lo == 0) = false) (w : World) : Calls Tryd.prog 55 #[.int .i64 7, .agg #[.int .i64 a.lo, .int .i64 a.hi], .agg #[.int .i64 b.lo, .int .i64 b.hi]] w fun e w' => e = .returned (.tuple #[.agg #[.int .i64 (leftS a b).lo, .int .i64 (leftS a b).hi], .bool true]) ∧ Below w.heap.size w w' := by
  have z : b.lo ≠ 0 ∨ b.hi ≠ 0 := .inl (by simpa using z1)
  have Z := Lib.hid z; clear z
  go_enter Tryd.func55, Tryd.ntmps55
  go_wp2_with (first
  | (go_at_call 82; go_in)
  | (
    go_at_call 87
    refine (leftP a b ha hb Z.out _).mono ?_
    rintro e w1 ⟨rfl, hb1⟩
    obtain ⟨hcc1, hff1⟩ := bcell hb1
    have hs1 := hb1.size
    simp at hs1
    have l1 : w.heap.size + 1 + 1 < w1.heap.size := (by omega)
    have m1 : w.heap.size + 1 < w1.heap.size := (by omega)
    have k1 : w.heap.size < w1.heap.size := (by omega)))
  all_goals (try simp only [Exit.inBlock, Exit.then])
  all_goals refine ret_of ?_ rfl
  all_goals simp [results, Tryd.results55, go_sem, ltS, notS, *]
  all_goals go_light
  all_goals (repeat (first | exact Below.refl _ _ | with_reducible apply below_alloc | with_reducible apply Below.drew | with_reducible refine Below.setCell ?_ (by dsimp only; omega) _ | with_reducible refine below_step ?_ hb1))

set_option maxHeartbeats 4000000 in
theorem doRem_qd (a b : Sp) (n1 : a.lo ≤ a.hi) (n2 : b.lo ≤ b.hi) (ha : a.Wf) (hb : b.Wf) (hc : (a.lo == a.hi) = true) (hd : (b.lo == b.hi) = false) (z1 : (b.lo == 0) = true) (z2 : (b.hi == 0) = false) (w : World) : Calls Tryd.prog 55 #[.int .i64 7, .agg #[.int .i64 a.lo, .int .i64 a.hi], .agg #[.int .i64 b.lo, .int .i64 b.hi]] w fun e w' => e = .returned (.tuple #[.agg #[.int .i64 (leftS a b).lo, .int .i64 (leftS a b).hi], .bool true]) ∧ Below w.heap.size w w' := by
  have z : b.lo ≠ 0 ∨ b.hi ≠ 0 := .inr (by simpa using z2)
  have Z := Lib.hid z; clear z
  go_enter Tryd.func55, Tryd.ntmps55
  go_wp2_with (first
  | (go_at_call 82; go_in)
  | (
    go_at_call 87
    refine (leftP a b ha hb Z.out _).mono ?_
    rintro e w1 ⟨rfl, hb1⟩
    obtain ⟨hcc1, hff1⟩ := bcell hb1
    have hs1 := hb1.size
    simp at hs1
    have l1 : w.heap.size + 1 + 1 < w1.heap.size := (by omega)
    have m1 : w.heap.size + 1 < w1.heap.size := (by omega)
    have k1 : w.heap.size < w1.heap.size := (by omega)))
  all_goals (try simp only [Exit.inBlock, Exit.then])
  all_goals refine ret_of ?_ rfl
  all_goals simp [results, Tryd.results55, go_sem, ltS, notS, *]
  all_goals go_light
  all_goals (repeat (first | exact Below.refl _ _ | with_reducible apply below_alloc | with_reducible apply Below.drew | with_reducible refine Below.setCell ?_ (by dsimp only; omega) _ | with_reducible refine below_step ?_ hb1))

set_option maxHeartbeats 4000000 in
theorem doRem_rz (a b : Sp) (n1 : a.lo ≤ a.hi) (n2 : b.lo ≤ b.hi) (hc : (a.lo == a.hi) = false) (z1 : (b.lo == 0) = true) (z2 : (b.hi == 0) = true) (w : World) : Calls Tryd.prog 55 #[.int .i64 7, .agg #[.int .i64 a.lo, .int .i64 a.hi], .agg #[.int .i64 b.lo, .int .i64 b.hi]] w fun e w' => e = .returned (.tuple #[.agg #[.int .i64 (Sp.mk 0 0).lo, .int .i64 (Sp.mk 0 0).hi], .bool false]) ∧ Below w.heap.size w w' := by
  go_enter Tryd.func55, Tryd.ntmps55
  go_wp2_with (first
  | (go_at_call 82; go_in))
  all_goals (try simp only [Exit.inBlock, Exit.then])
  all_goals refine ret_of ?_ rfl
  all_goals simp [results, Tryd.results55, go_sem, ltS, notS, *]
  all_goals go_light
  all_goals (repeat (first | exact Below.refl _ _ | with_reducible apply below_alloc | with_reducible apply Below.drew | with_reducible refine Below.setCell ?_ (by dsimp only; omega) _ | with_reducible refine below_step ?_ hb1))

set_option maxHeartbeats 4000000 in
theorem doRem_rc (a b : Sp) (n1 : a.lo ≤ a.hi) (n2 : b.lo ≤ b.hi) (ha : a.Wf) (hb : b.Wf) (hc : (a.lo == a.hi) = false) (z1 : (b.lo == 0) = false) (w : World) : Calls Tryd.prog 55 #[.int .i64 7, .agg #[.int .i64 a.lo, .int .i64 a.hi], .agg #[.int .i64 b.lo, .int .i64 b.hi]] w fun e w' => e = .returned (.tuple #[.agg #[.int .i64 (leftS a b).lo, .int .i64 (leftS a b).hi], .bool true]) ∧ Below w.heap.size w w' := by
  have z : b.lo ≠ 0 ∨ b.hi ≠ 0 := .inl (by simpa using z1)
  have Z := Lib.hid z; clear z
  go_enter Tryd.func55, Tryd.ntmps55
  go_wp2_with (first
  | (go_at_call 82; go_in)
  | (
    go_at_call 87
    refine (leftP a b ha hb Z.out _).mono ?_
    rintro e w1 ⟨rfl, hb1⟩
    obtain ⟨hcc1, hff1⟩ := bcell hb1
    have hs1 := hb1.size
    simp at hs1
    have l1 : w.heap.size + 1 + 1 < w1.heap.size := (by omega)
    have m1 : w.heap.size + 1 < w1.heap.size := (by omega)
    have k1 : w.heap.size < w1.heap.size := (by omega)))
  all_goals (try simp only [Exit.inBlock, Exit.then])
  all_goals refine ret_of ?_ rfl
  all_goals simp [results, Tryd.results55, go_sem, ltS, notS, *]
  all_goals go_light
  all_goals (repeat (first | exact Below.refl _ _ | with_reducible apply below_alloc | with_reducible apply Below.drew | with_reducible refine Below.setCell ?_ (by dsimp only; omega) _ | with_reducible refine below_step ?_ hb1))

set_option maxHeartbeats 4000000 in
theorem doRem_rd (a b : Sp) (n1 : a.lo ≤ a.hi) (n2 : b.lo ≤ b.hi) (ha : a.Wf) (hb : b.Wf) (hc : (a.lo == a.hi) = false) (z1 : (b.lo == 0) = true) (z2 : (b.hi == 0) = false) (w : World) : Calls Tryd.prog 55 #[.int .i64 7, .agg #[.int .i64 a.lo, .int .i64 a.hi], .agg #[.int .i64 b.lo, .int .i64 b.hi]] w fun e w' => e = .returned (.tuple #[.agg #[.int .i64 (leftS a b).lo, .int .i64 (leftS a b).hi], .bool true]) ∧ Below w.heap.size w w' := by
  have z : b.lo ≠ 0 ∨ b.hi ≠ 0 := .inr (by simpa using z2)
  have Z := Lib.hid z; clear z
  go_enter Tryd.func55, Tryd.ntmps55
  go_wp2_with (first
  | (go_at_call 82; go_in)
  | (
    go_at_call 87
    refine (leftP a b ha hb Z.out _).mono ?_
    rintro e w1 ⟨rfl, hb1⟩
    obtain ⟨hcc1, hff1⟩ := bcell hb1
    have hs1 := hb1.size
    simp at hs1
    have l1 : w.heap.size + 1 + 1 < w1.heap.size := (by omega)
    have m1 : w.heap.size + 1 < w1.heap.size := (by omega)
    have k1 : w.heap.size < w1.heap.size := (by omega)))
  all_goals (try simp only [Exit.inBlock, Exit.then])
  all_goals refine ret_of ?_ rfl
  all_goals simp [results, Tryd.results55, go_sem, ltS, notS, *]
  all_goals go_light
  all_goals (repeat (first | exact Below.refl _ _ | with_reducible apply below_alloc | with_reducible apply Below.drew | with_reducible refine Below.setCell ?_ (by dsimp only; omega) _ | with_reducible refine below_step ?_ hb1))

end Go.Proofs.YtddobhneplfddaaDoor
