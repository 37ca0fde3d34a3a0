/-
  Layer 16 (bounds): AwayO, AwayN.
-/
import Derived.Test.YtddobhneplfddaaDoorV25
namespace Go.Proofs.YtddobhneplfddaaDoor
set_option maxRecDepth 100000
open Go.RowKit
set_option linter.unusedSimpArgs false
set_option linter.unusedVariables false
set_option maxHeartbeats 4000000 in
theorem away_17_below_t (m : ModD) (f : FuncD) (frm ka kb : Nat) (too c n : Int) (hf : frm < f.code.length) (hx : nthX f.code frm = ⟨17, ((ka : Nat) : Int), ((kb : Nat) : Int), c, n⟩) (hl : f.code.length * 40 ≤ 140737488351232) (g nr cp : Nat) (r : List Sp) (hr : r.length = nr) (hc : nr ≤ cp) (hcp : cp ≤ maxLen) (sa : Sp) (ha : r[ka]? = some sa) (sb : Sp) (hb : r[kb]? = some sb) (hone : (n == (frm : Int) + 1) = false) (hone' : (n != (frm : Int) + 1) = true) (hab : ((ka : Int) == (kb : Int)) = false) (hto : (too == n) = false) (wa : sa.Wf) (wb : sb.Wf) (hmk : sa.belowOk sb = true) (w : World) (hI : InsAt w w.heap.size f.ca f.code) (hR : RowS w g cp r) :
    Calls Tryd.prog 29 #[m.val, f.val, .int .i64 frm, .int .i64 too, .slice (some ⟨g, 0, none⟩) nr cp] w (AwayOk g cp nr (some (r.set ka (sa.belowA sb))) w) := by
  obtain ⟨cb, co, hca, hcb, hcc⟩ := hI (by omega)
  have x0 := hcc frm hf 0 (by omega)
  have x1 := hcc frm hf 1 (by omega)
  have x2 := hcc frm hf 2 (by omega)
  have x3 := hcc frm hf 3 (by omega)
  have x4 := hcc frm hf 4 (by omega)
  simp only [hx, insV, Nat.add_zero] at x0 x1 x2 x3 x4
  obtain ⟨nm, pa, pc, ps, rg, wd, ca, cc, cd⟩ := f
  simp only at hca hf hl hx ⊢
  subst hca
  obtain ⟨hka, ya0, ya1, fa0, fa1⟩ := hR.cells4 ha
  have hna : ((ka : Nat) : Int) < (nr : Int) := by omega
  obtain ⟨hkb, yb0, yb1, fb0, fb1⟩ := hR.cells4 hb
  have hnb : ((kb : Nat) : Int) < (nr : Int) := by omega
  have lg := hR.lt
  have hfr : ((frm : Nat) : Int) < (cd.length : Int) := by omega
  unfold maxLen at hcp
  have HR := Lib.hid hR
  clear hcc hx hR
  go_enter Tryd.func29, Tryd.ntmps29
  go_upto_region 51 with fail
  generalize hW : ((((w.alloc (.cells #[.slice m.ta m.ths.length m.tc, .slice m.fa m.funcs.length m.fc] 25)).alloc (.cells #[.string nm, .slice pa ps.length pc, .int .i64 rg, .int .i64 wd, .slice (some ⟨cb, co, none⟩) cd.length cc] 48)).alloc (.cells #[.slice (some ⟨g, 0, none⟩) nr cp] 26)).alloc (.cells #[.int .i64 17, .int .i64 ((ka : Nat) : Int), .int .i64 ((kb : Nat) : Int), .int .i64 c, .int .i64 n] 65)) = W
  have aw : AwW w W g nr cp r ⟨17, ka, kb, c, n⟩ wd (.slice m.fa m.funcs.length m.fc) := by
    rw [← hW]; exact AwW.new (x := ⟨17, ka, kb, c, n⟩) HR.out _ _ _ _ _ _ _ _ _
  clear hW x0 x1 x2 x3 x4
  have hsz := aw.size
  have HS : ∀ w', AwW w w' g nr cp r ⟨17, ka, kb, c, n⟩ wd (.slice m.fa m.funcs.length m.fc) → (w'.cell? ⟨w.heap.size + 1 + 1 + 1, 1, none⟩ = some (.int .i64 ka) ∧ w'.cell? ⟨w.heap.size + 1 + 1 + 1, 2, none⟩ = some (.int .i64 kb) ∧ w'.cell? ⟨w.heap.size + 1 + 1, 0, none⟩ = some (.slice (some ⟨g, 0, none⟩) nr cp) ∧ w'.cell? ⟨g, ka * 2, none⟩ = some (.int .i64 sa.lo) ∧ w'.cell? ⟨g, ka * 2 + 1, none⟩ = some (.int .i64 sa.hi) ∧ w'.cell? ⟨g, kb * 2, none⟩ = some (.int .i64 sb.lo) ∧ w'.cell? ⟨g, kb * 2 + 1, none⟩ = some (.int .i64 sb.hi)) ∧ AwW w w' g nr cp r ⟨17, ka, kb, c, n⟩ wd (.slice m.fa m.funcs.length m.fc) := fun w' h => by
    obtain ⟨_, a0, a1, _, _⟩ := h.row.cells4 ha
    obtain ⟨_, b0, b1, _, _⟩ := h.row.cells4 hb
    exact ⟨⟨h.x1, h.x2, h.rb, a0, a1, b0, b1⟩, h⟩
  go_cut [21, 22] (fun s21 s22 V => Cut17 w g nr cp r ⟨17, ka, kb, c, n⟩ wd (.slice m.fa m.funcs.length m.fc) sa sb s21 s22 V)
  case first =>
    go_region_held3 (fun w' => (w'.cell? ⟨w.heap.size + 1 + 1 + 1, 1, none⟩ = some (.int .i64 ka) ∧ w'.cell? ⟨w.heap.size + 1 + 1 + 1, 2, none⟩ = some (.int .i64 kb) ∧ w'.cell? ⟨w.heap.size + 1 + 1, 0, none⟩ = some (.slice (some ⟨g, 0, none⟩) nr cp) ∧ w'.cell? ⟨g, ka * 2, none⟩ = some (.int .i64 sa.lo) ∧ w'.cell? ⟨g, ka * 2 + 1, none⟩ = some (.int .i64 sa.hi) ∧ w'.cell? ⟨g, kb * 2, none⟩ = some (.int .i64 sb.lo) ∧ w'.cell? ⟨g, kb * 2 + 1, none⟩ = some (.int .i64 sb.hi)) ∧ AwW w w' g nr cp r ⟨17, ka, kb, c, n⟩ wd (.slice m.fa m.funcs.length m.fc)) (first | exact HS _ aw.drew | (refine HS _ ?_; repeat (first | exact aw | with_reducible refine AwW.drew ?_ | with_reducible refine AwW.alloc ?_ _ | (with_reducible refine AwW.far ?_ ?_ _; rotate_left; (· first | (simp; done) | (simp; omega)))))) (fail)
    all_goals
      rename_i hS2
      have aw2 := hS2.2
      clear hS2
      go_wp2_with fail
      go_meet
      unfold Cut17
      refine ⟨_, _, rfl, rfl, aw2, ?_, ?_, ?_, ?_⟩
      any_goals (first | omega | (simp; done) | (simp; omega))
      all_goals repeat (first | with_reducible exact Whl.new _ _ _ | with_reducible exact whlNew1 _ _ _ _ | with_reducible refine Whl.drew ?_ | with_reducible refine Whl.alloc ?_ _)
  case rest =>
    rename_i hcut
    obtain ⟨p, q, rfl, rfl, aw3, hp, hq, lp, lq⟩ := hcut
    clear aw HS hsz
    have c1 := aw3.x1
    have c2 := aw3.x2
    have c4 := aw3.x4
    have cb := aw3.rb
    have a0 := hp.cell 0
    have a1 := hp.cell 1
    have b0 := hq.cell 0
    have b1 := hq.cell 1
    simp at c1 c2 c4 a0 a1 b0 b1
    have HS : ∀ w', (∃ r', AwW w w' g nr cp r' ⟨17, ka, kb, c, n⟩ wd (.slice m.fa m.funcs.length m.fc) ∧ Whl w' p 34 #[.int .i64 sa.lo, .int .i64 sa.hi] ∧ Whl w' q 34 #[.int .i64 sb.lo, .int .i64 sb.hi]) → (w'.cell? ⟨w.heap.size + 1 + 1 + 1, 1, none⟩ = some (.int .i64 ka) ∧ w'.cell? ⟨w.heap.size + 1 + 1, 0, none⟩ = some (.slice (some ⟨g, 0, none⟩) nr cp) ∧ w'.cell? ⟨p, 0, none⟩ = some (.int .i64 sa.lo) ∧ w'.cell? ⟨p, 1, none⟩ = some (.int .i64 sa.hi) ∧ w'.cell? ⟨q, 0, none⟩ = some (.int .i64 sb.lo) ∧ w'.cell? ⟨q, 1, none⟩ = some (.int .i64 sb.hi)) ∧ ∃ r', AwW w w' g nr cp r' ⟨17, ka, kb, c, n⟩ wd (.slice m.fa m.funcs.length m.fc) ∧ Whl w' p 34 #[.int .i64 sa.lo, .int .i64 sa.hi] ∧ Whl w' q 34 #[.int .i64 sb.lo, .int .i64 sb.hi] := fun w' ⟨r', h, h2, h3⟩ => ⟨⟨h.x1, h.rb, h2.cell 0, h2.cell 1, h3.cell 0, h3.cell 1⟩, r', h, h2, h3⟩
    have lgp := aw3.lg
    go_wp2
    refine wp_region_held_drew (S := (fun w' => (w'.cell? ⟨w.heap.size + 1 + 1 + 1, 1, none⟩ = some (.int .i64 ka) ∧ w'.cell? ⟨w.heap.size + 1 + 1, 0, none⟩ = some (.slice (some ⟨g, 0, none⟩) nr cp) ∧ w'.cell? ⟨p, 0, none⟩ = some (.int .i64 sa.lo) ∧ w'.cell? ⟨p, 1, none⟩ = some (.int .i64 sa.hi) ∧ w'.cell? ⟨q, 0, none⟩ = some (.int .i64 sb.lo) ∧ w'.cell? ⟨q, 1, none⟩ = some (.int .i64 sb.hi)) ∧ ∃ r', AwW w w' g nr cp r' ⟨17, ka, kb, c, n⟩ wd (.slice m.fa m.funcs.length m.fc) ∧ Whl w' p 34 #[.int .i64 sa.lo, .int .i64 sa.hi] ∧ Whl w' q 34 #[.int .i64 sb.lo, .int .i64 sb.hi])) (by kernel_rfl) ?_ (fun hHeld => ?_)
    · (exact HS _ ⟨_, aw3.drew, hp.drew, hq.drew⟩)
    iterate 5
      refine wpAnyH_nx (v := ?_) rfl rfl (by kernel_rfl) (by kernel_rfl) (by kernel_rfl) (fun _ _ _ h => h) (Or.inl ⟨by rfl, ?_⟩) (by assumption) ?_
      rotate_left
      · (intro w' hSw; (try dsimp only at hSw); go_simp <;> with_reducible rfl)
      (try simp only [Act.put, List.setIfInBounds_toArray, List.set_cons_zero, List.set_cons_succ])
    refine wpAnyH_ready (rs := [5]) (by kernel_rfl) (by simp) ?_
    refine AllReadyH.cons rfl (fun K hK => ?_) AllReadyH.nil
    go_simp; go_at_call 59; refine (belowP sa sb wa wb _).mono ?_; rintro e w4 ⟨rfl, hb4⟩; go_wp2_with fail; have aw4 := AwW.below aw3.drew hb4; have hp4 := Whl.below' hp.drew hb4; have hq4 := Whl.below' hq.drew hb4; obtain ⟨hka4, g0, g1, h0, h1⟩ := aw4.row.cells4 ha
    refine hK.out _ _ ?_ (fun hHeld => ?_)
    · (exact HS _ ⟨_, aw4, hp4, hq4⟩)
    clear hK K
    (try simp only [Act.put, List.setIfInBounds_toArray, List.set_cons_zero, List.set_cons_succ])
    iterate 5
      refine wpAnyH_nx (v := ?_) rfl rfl (by kernel_rfl) (by kernel_rfl) (by kernel_rfl) (fun _ _ _ h => h) (Or.inl ⟨by rfl, ?_⟩) (by assumption) ?_
      rotate_left
      · (intro w' hSw; (try dsimp only at hSw); go_simp <;> with_reducible rfl)
      (try simp only [Act.put, List.setIfInBounds_toArray, List.set_cons_zero, List.set_cons_succ])
    refine wpAnyH_ready (rs := [11]) (by kernel_rfl) (by simp) ?_
    refine AllReadyH.cons rfl (fun K hK => ?_) AllReadyH.nil
    go_simp
    refine hK.out _ _ ?_ (fun hHeld => ?_)
    · (exact HS _ ⟨_, AwW.put aw4 hka4 (sa.belowA sb), (hp4.far (p := ⟨g, ka * 2, none⟩) (by simp; omega) _).far (p := ⟨g, ka * 2 + 1, none⟩) (by simp; omega) _, (hq4.far (p := ⟨g, ka * 2, none⟩) (by simp; omega) _).far (p := ⟨g, ka * 2 + 1, none⟩) (by simp; omega) _⟩)
    clear hK K
    (try simp only [Act.put, List.setIfInBounds_toArray, List.set_cons_zero, List.set_cons_succ])
    refine wpAnyH_take (i := 12) (v := ?_) rfl (by kernel_rfl) (by kernel_rfl) (by kernel_rfl) (fun _ _ _ h => h) (Or.inl ⟨by rfl, ?_⟩) (by assumption) ?_
    rotate_left
    · (intro w' hSw; (try dsimp only at hSw); go_simp <;> with_reducible rfl)
    (try simp only [Act.put, List.setIfInBounds_toArray, List.set_cons_zero, List.set_cons_succ])
    refine wpAnyH_done (by kernel_rfl) ?_ _
    have fin := aw4.put hka4 (sa.belowA sb)
    go_wp2
    refine ret_of ?_ rfl
    refine ⟨_, by simp [results, Tryd.results29, go_sem] <;> rfl, rfl, ⟨_, fin.row, by simp [hr], fun _ h => Option.some.inj h⟩, fin.gr⟩
set_option maxHeartbeats 4000000 in
theorem away_17_below_f (m : ModD) (f : FuncD) (frm ka kb : Nat) (too c n : Int) (hf : frm < f.code.length) (hx : nthX f.code frm = ⟨17, ((ka : Nat) : Int), ((kb : Nat) : Int), c, n⟩) (hl : f.code.length * 40 ≤ 140737488351232) (g nr cp : Nat) (r : List Sp) (hr : r.length = nr) (hc : nr ≤ cp) (hcp : cp ≤ maxLen) (sa : Sp) (ha : r[ka]? = some sa) (sb : Sp) (hb : r[kb]? = some sb) (hone : (n == (frm : Int) + 1) = false) (hone' : (n != (frm : Int) + 1) = true) (hab : ((ka : Int) == (kb : Int)) = false) (hto : (too == n) = false) (wa : sa.Wf) (wb : sb.Wf) (hmk : sa.belowOk sb = false) (w : World) (hI : InsAt w w.heap.size f.ca f.code) (hR : RowS w g cp r) :
    Calls Tryd.prog 29 #[m.val, f.val, .int .i64 frm, .int .i64 too, .slice (some ⟨g, 0, none⟩) nr cp] w (AwayOk g cp nr none w) := by
  obtain ⟨cb, co, hca, hcb, hcc⟩ := hI (by omega)
  have x0 := hcc frm hf 0 (by omega)
  have x1 := hcc frm hf 1 (by omega)
  have x2 := hcc frm hf 2 (by omega)
  have x3 := hcc frm hf 3 (by omega)
  have x4 := hcc frm hf 4 (by omega)
  simp only [hx, insV, Nat.add_zero] at x0 x1 x2 x3 x4
  obtain ⟨nm, pa, pc, ps, rg, wd, ca, cc, cd⟩ := f
  simp only at hca hf hl hx ⊢
  subst hca
  obtain ⟨hka, ya0, ya1, fa0, fa1⟩ := hR.cells4 ha
  have hna : ((ka : Nat) : Int) < (nr : Int) := by omega
  obtain ⟨hkb, yb0, yb1, fb0, fb1⟩ := hR.cells4 hb
  have hnb : ((kb : Nat) : Int) < (nr : Int) := by omega
  have lg := hR.lt
  have hfr : ((frm : Nat) : Int) < (cd.length : Int) := by omega
  unfold maxLen at hcp
  have HR := Lib.hid hR
  clear hcc hx hR
  go_enter Tryd.func29, Tryd.ntmps29
  go_upto_region 51 with fail
  generalize hW : ((((w.alloc (.cells #[.slice m.ta m.ths.length m.tc, .slice m.fa m.funcs.length m.fc] 25)).alloc (.cells #[.string nm, .slice pa ps.length pc, .int .i64 rg, .int .i64 wd, .slice (some ⟨cb, co, none⟩) cd.length cc] 48)).alloc (.cells #[.slice (some ⟨g, 0, none⟩) nr cp] 26)).alloc (.cells #[.int .i64 17, .int .i64 ((ka : Nat) : Int), .int .i64 ((kb : Nat) : Int), .int .i64 c, .int .i64 n] 65)) = W
  have aw : AwW w W g nr cp r ⟨17, ka, kb, c, n⟩ wd (.slice m.fa m.funcs.length m.fc) := by
    rw [← hW]; exact AwW.new (x := ⟨17, ka, kb, c, n⟩) HR.out _ _ _ _ _ _ _ _ _
  clear hW x0 x1 x2 x3 x4
  have hsz := aw.size
  have HS : ∀ w', AwW w w' g nr cp r ⟨17, ka, kb, c, n⟩ wd (.slice m.fa m.funcs.length m.fc) → (w'.cell? ⟨w.heap.size + 1 + 1 + 1, 1, none⟩ = some (.int .i64 ka) ∧ w'.cell? ⟨w.heap.size + 1 + 1 + 1, 2, none⟩ = some (.int .i64 kb) ∧ w'.cell? ⟨w.heap.size + 1 + 1, 0, none⟩ = some (.slice (some ⟨g, 0, none⟩) nr cp) ∧ w'.cell? ⟨g, ka * 2, none⟩ = some (.int .i64 sa.lo) ∧ w'.cell? ⟨g, ka * 2 + 1, none⟩ = some (.int .i64 sa.hi) ∧ w'.cell? ⟨g, kb * 2, none⟩ = some (.int .i64 sb.lo) ∧ w'.cell? ⟨g, kb * 2 + 1, none⟩ = some (.int .i64 sb.hi)) ∧ AwW w w' g nr cp r ⟨17, ka, kb, c, n⟩ wd (.slice m.fa m.funcs.length m.fc) := fun w' h => by
    obtain ⟨_, a0, a1, _, _⟩ := h.row.cells4 ha
    obtain ⟨_, b0, b1, _, _⟩ := h.row.cells4 hb
    exact ⟨⟨h.x1, h.x2, h.rb, a0, a1, b0, b1⟩, h⟩
  go_cut [21, 22] (fun s21 s22 V => Cut17 w g nr cp r ⟨17, ka, kb, c, n⟩ wd (.slice m.fa m.funcs.length m.fc) sa sb s21 s22 V)
  case first =>
    go_region_held3 (fun w' => (w'.cell? ⟨w.heap.size + 1 + 1 + 1, 1, none⟩ = some (.int .i64 ka) ∧ w'.cell? ⟨w.heap.size + 1 + 1 + 1, 2, none⟩ = some (.int .i64 kb) ∧ w'.cell? ⟨w.heap.size + 1 + 1, 0, none⟩ = some (.slice (some ⟨g, 0, none⟩) nr cp) ∧ w'.cell? ⟨g, ka * 2, none⟩ = some (.int .i64 sa.lo) ∧ w'.cell? ⟨g, ka * 2 + 1, none⟩ = some (.int .i64 sa.hi) ∧ w'.cell? ⟨g, kb * 2, none⟩ = some (.int .i64 sb.lo) ∧ w'.cell? ⟨g, kb * 2 + 1, none⟩ = some (.int .i64 sb.hi)) ∧ AwW w w' g nr cp r ⟨17, ka, kb, c, n⟩ wd (.slice m.fa m.funcs.length m.fc)) (first | exact HS _ aw.drew | (refine HS _ ?_; repeat (first | exact aw | with_reducible refine AwW.drew ?_ | with_reducible refine AwW.alloc ?_ _ | (with_reducible refine AwW.far ?_ ?_ _; rotate_left; (· first | (simp; done) | (simp; omega)))))) (fail)
    all_goals
      rename_i hS2
      have aw2 := hS2.2
      clear hS2
      go_wp2_with fail
      go_meet
      unfold Cut17
      refine ⟨_, _, rfl, rfl, aw2, ?_, ?_, ?_, ?_⟩
      any_goals (first | omega | (simp; done) | (simp; omega))
      all_goals repeat (first | with_reducible exact Whl.new _ _ _ | with_reducible exact whlNew1 _ _ _ _ | with_reducible refine Whl.drew ?_ | with_reducible refine Whl.alloc ?_ _)
  case rest =>
    rename_i hcut
    obtain ⟨p, q, rfl, rfl, aw3, hp, hq, lp, lq⟩ := hcut
    clear aw HS hsz
    have c1 := aw3.x1
    have c2 := aw3.x2
    have c4 := aw3.x4
    have cb := aw3.rb
    have a0 := hp.cell 0
    have a1 := hp.cell 1
    have b0 := hq.cell 0
    have b1 := hq.cell 1
    simp at c1 c2 c4 a0 a1 b0 b1
    have HS : ∀ w', (∃ r', AwW w w' g nr cp r' ⟨17, ka, kb, c, n⟩ wd (.slice m.fa m.funcs.length m.fc) ∧ Whl w' p 34 #[.int .i64 sa.lo, .int .i64 sa.hi] ∧ Whl w' q 34 #[.int .i64 sb.lo, .int .i64 sb.hi]) → (w'.cell? ⟨w.heap.size + 1 + 1 + 1, 1, none⟩ = some (.int .i64 ka) ∧ w'.cell? ⟨w.heap.size + 1 + 1, 0, none⟩ = some (.slice (some ⟨g, 0, none⟩) nr cp) ∧ w'.cell? ⟨p, 0, none⟩ = some (.int .i64 sa.lo) ∧ w'.cell? ⟨p, 1, none⟩ = some (.int .i64 sa.hi) ∧ w'.cell? ⟨q, 0, none⟩ = some (.int .i64 sb.lo) ∧ w'.cell? ⟨q, 1, none⟩ = some (.int .i64 sb.hi)) ∧ ∃ r', AwW w w' g nr cp r' ⟨17, ka, kb, c, n⟩ wd (.slice m.fa m.funcs.length m.fc) ∧ Whl w' p 34 #[.int .i64 sa.lo, .int .i64 sa.hi] ∧ Whl w' q 34 #[.int .i64 sb.lo, .int .i64 sb.hi] := fun w' ⟨r', h, h2, h3⟩ => ⟨⟨h.x1, h.rb, h2.cell 0, h2.cell 1, h3.cell 0, h3.cell 1⟩, r', h, h2, h3⟩
    have lgp := aw3.lg
    go_wp2
    refine wp_region_held_drew (S := (fun w' => (w'.cell? ⟨w.heap.size + 1 + 1 + 1, 1, none⟩ = some (.int .i64 ka) ∧ w'.cell? ⟨w.heap.size + 1 + 1, 0, none⟩ = some (.slice (some ⟨g, 0, none⟩) nr cp) ∧ w'.cell? ⟨p, 0, none⟩ = some (.int .i64 sa.lo) ∧ w'.cell? ⟨p, 1, none⟩ = some (.int .i64 sa.hi) ∧ w'.cell? ⟨q, 0, none⟩ = some (.int .i64 sb.lo) ∧ w'.cell? ⟨q, 1, none⟩ = some (.int .i64 sb.hi)) ∧ ∃ r', AwW w w' g nr cp r' ⟨17, ka, kb, c, n⟩ wd (.slice m.fa m.funcs.length m.fc) ∧ Whl w' p 34 #[.int .i64 sa.lo, .int .i64 sa.hi] ∧ Whl w' q 34 #[.int .i64 sb.lo, .int .i64 sb.hi])) (by kernel_rfl) ?_ (fun hHeld => ?_)
    · (exact HS _ ⟨_, aw3.drew, hp.drew, hq.drew⟩)
    iterate 5
      refine wpAnyH_nx (v := ?_) rfl rfl (by kernel_rfl) (by kernel_rfl) (by kernel_rfl) (fun _ _ _ h => h) (Or.inl ⟨by rfl, ?_⟩) (by assumption) ?_
      rotate_left
      · (intro w' hSw; (try dsimp only at hSw); go_simp <;> with_reducible rfl)
      (try simp only [Act.put, List.setIfInBounds_toArray, List.set_cons_zero, List.set_cons_succ])
    refine wpAnyH_ready (rs := [5]) (by kernel_rfl) (by simp) ?_
    refine AllReadyH.cons rfl (fun K hK => ?_) AllReadyH.nil
    go_simp; go_at_call 59; refine (belowP sa sb wa wb _).mono ?_; rintro e w4 ⟨rfl, hb4⟩; go_wp2_with fail; have aw4 := AwW.below aw3.drew hb4; have hp4 := Whl.below' hp.drew hb4; have hq4 := Whl.below' hq.drew hb4; obtain ⟨hka4, g0, g1, h0, h1⟩ := aw4.row.cells4 ha
    refine hK.out _ _ ?_ (fun hHeld => ?_)
    · (exact HS _ ⟨_, aw4, hp4, hq4⟩)
    clear hK K
    (try simp only [Act.put, List.setIfInBounds_toArray, List.set_cons_zero, List.set_cons_succ])
    iterate 5
      refine wpAnyH_nx (v := ?_) rfl rfl (by kernel_rfl) (by kernel_rfl) (by kernel_rfl) (fun _ _ _ h => h) (Or.inl ⟨by rfl, ?_⟩) (by assumption) ?_
      rotate_left
      · (intro w' hSw; (try dsimp only at hSw); go_simp <;> with_reducible rfl)
      (try simp only [Act.put, List.setIfInBounds_toArray, List.set_cons_zero, List.set_cons_succ])
    refine wpAnyH_ready (rs := [11]) (by kernel_rfl) (by simp) ?_
    refine AllReadyH.cons rfl (fun K hK => ?_) AllReadyH.nil
    go_simp
    refine hK.out _ _ ?_ (fun hHeld => ?_)
    · (exact HS _ ⟨_, AwW.put aw4 hka4 (sa.belowA sb), (hp4.far (p := ⟨g, ka * 2, none⟩) (by simp; omega) _).far (p := ⟨g, ka * 2 + 1, none⟩) (by simp; omega) _, (hq4.far (p := ⟨g, ka * 2, none⟩) (by simp; omega) _).far (p := ⟨g, ka * 2 + 1, none⟩) (by simp; omega) _⟩)
    clear hK K
    (try simp only [Act.put, List.setIfInBounds_toArray, List.set_cons_zero, List.set_cons_succ])
    refine wpAnyH_take (i := 12) (v := ?_) rfl (by kernel_rfl) (by kernel_rfl) (by kernel_rfl) (fun _ _ _ h => h) (Or.inl ⟨by rfl, ?_⟩) (by assumption) ?_
    rotate_left
    · (intro w' hSw; (try dsimp only at hSw); go_simp <;> with_reducible rfl)
    (try simp only [Act.put, List.setIfInBounds_toArray, List.set_cons_zero, List.set_cons_succ])
    refine wpAnyH_done (by kernel_rfl) ?_ _
    have fin := aw4.put hka4 (sa.belowA sb)
    go_wp2
    refine ret_of ?_ rfl
    refine ⟨_, by simp [results, Tryd.results29, go_sem] <;> rfl, rfl, ⟨_, fin.row, by simp [hr], fun _ h => by cases h⟩, fin.gr⟩
end Go.Proofs.YtddobhneplfddaaDoor

namespace Go.Proofs.YtddobhneplfddaaDoor
set_option maxRecDepth 100000
open Go.RowKit
set_option linter.unusedSimpArgs false
set_option linter.unusedVariables false
set_option maxHeartbeats 4000000 in
theorem away_17_far_t (m : ModD) (f : FuncD) (frm ka kb : Nat) (too c n : Int) (hf : frm < f.code.length) (hx : nthX f.code frm = ⟨17, ((ka : Nat) : Int), ((kb : Nat) : Int), c, n⟩) (hl : f.code.length * 40 ≤ 140737488351232) (g nr cp : Nat) (r : List Sp) (hr : r.length = nr) (hc : nr ≤ cp) (hcp : cp ≤ maxLen) (sa : Sp) (ha : r[ka]? = some sa) (sb : Sp) (hb : r[kb]? = some sb) (hone : (n == (frm : Int) + 1) = false) (hone' : (n != (frm : Int) + 1) = true) (hab : ((ka : Int) == (kb : Int)) = false) (hto : (too == n) = true) (hge : decide (sb.lo ≤ sa.hi) = true) (w : World) (hI : InsAt w w.heap.size f.ca f.code) (hR : RowS w g cp r) :
    Calls Tryd.prog 29 #[m.val, f.val, .int .i64 frm, .int .i64 too, .slice (some ⟨g, 0, none⟩) nr cp] w (AwayOk g cp nr (some (r.set ka ⟨Sp.mx sa.lo sb.lo, sa.hi⟩)) w) := by
  obtain ⟨cb, co, hca, hcb, hcc⟩ := hI (by omega)
  have x0 := hcc frm hf 0 (by omega)
  have x1 := hcc frm hf 1 (by omega)
  have x2 := hcc frm hf 2 (by omega)
  have x3 := hcc frm hf 3 (by omega)
  have x4 := hcc frm hf 4 (by omega)
  simp only [hx, insV, Nat.add_zero] at x0 x1 x2 x3 x4
  obtain ⟨nm, pa, pc, ps, rg, wd, ca, cc, cd⟩ := f
  simp only at hca hf hl hx ⊢
  subst hca
  obtain ⟨hka, ya0, ya1, fa0, fa1⟩ := hR.cells4 ha
  have hna : ((ka : Nat) : Int) < (nr : Int) := by omega
  obtain ⟨hkb, yb0, yb1, fb0, fb1⟩ := hR.cells4 hb
  have hnb : ((kb : Nat) : Int) < (nr : Int) := by omega
  have lg := hR.lt
  have hfr : ((frm : Nat) : Int) < (cd.length : Int) := by omega
  unfold maxLen at hcp
  have HR := Lib.hid hR
  clear hcc hx hR
  go_enter Tryd.func29, Tryd.ntmps29
  go_upto_region 51 with fail
  generalize hW : ((((w.alloc (.cells #[.slice m.ta m.ths.length m.tc, .slice m.fa m.funcs.length m.fc] 25)).alloc (.cells #[.string nm, .slice pa ps.length pc, .int .i64 rg, .int .i64 wd, .slice (some ⟨cb, co, none⟩) cd.length cc] 48)).alloc (.cells #[.slice (some ⟨g, 0, none⟩) nr cp] 26)).alloc (.cells #[.int .i64 17, .int .i64 ((ka : Nat) : Int), .int .i64 ((kb : Nat) : Int), .int .i64 c, .int .i64 n] 65)) = W
  have aw : AwW w W g nr cp r ⟨17, ka, kb, c, n⟩ wd (.slice m.fa m.funcs.length m.fc) := by
    rw [← hW]; exact AwW.new (x := ⟨17, ka, kb, c, n⟩) HR.out _ _ _ _ _ _ _ _ _
  clear hW x0 x1 x2 x3 x4
  have hsz := aw.size
  have HS : ∀ w', AwW w w' g nr cp r ⟨17, ka, kb, c, n⟩ wd (.slice m.fa m.funcs.length m.fc) → (w'.cell? ⟨w.heap.size + 1 + 1 + 1, 1, none⟩ = some (.int .i64 ka) ∧ w'.cell? ⟨w.heap.size + 1 + 1 + 1, 2, none⟩ = some (.int .i64 kb) ∧ w'.cell? ⟨w.heap.size + 1 + 1, 0, none⟩ = some (.slice (some ⟨g, 0, none⟩) nr cp) ∧ w'.cell? ⟨g, ka * 2, none⟩ = some (.int .i64 sa.lo) ∧ w'.cell? ⟨g, ka * 2 + 1, none⟩ = some (.int .i64 sa.hi) ∧ w'.cell? ⟨g, kb * 2, none⟩ = some (.int .i64 sb.lo) ∧ w'.cell? ⟨g, kb * 2 + 1, none⟩ = some (.int .i64 sb.hi)) ∧ AwW w w' g nr cp r ⟨17, ka, kb, c, n⟩ wd (.slice m.fa m.funcs.length m.fc) := fun w' h => by
    obtain ⟨_, a0, a1, _, _⟩ := h.row.cells4 ha
    obtain ⟨_, b0, b1, _, _⟩ := h.row.cells4 hb
    exact ⟨⟨h.x1, h.x2, h.rb, a0, a1, b0, b1⟩, h⟩
  go_cut [21, 22] (fun s21 s22 V => Cut17 w g nr cp r ⟨17, ka, kb, c, n⟩ wd (.slice m.fa m.funcs.length m.fc) sa sb s21 s22 V)
  case first =>
    go_region_held3 (fun w' => (w'.cell? ⟨w.heap.size + 1 + 1 + 1, 1, none⟩ = some (.int .i64 ka) ∧ w'.cell? ⟨w.heap.size + 1 + 1 + 1, 2, none⟩ = some (.int .i64 kb) ∧ w'.cell? ⟨w.heap.size + 1 + 1, 0, none⟩ = some (.slice (some ⟨g, 0, none⟩) nr cp) ∧ w'.cell? ⟨g, ka * 2, none⟩ = some (.int .i64 sa.lo) ∧ w'.cell? ⟨g, ka * 2 + 1, none⟩ = some (.int .i64 sa.hi) ∧ w'.cell? ⟨g, kb * 2, none⟩ = some (.int .i64 sb.lo) ∧ w'.cell? ⟨g, kb * 2 + 1, none⟩ = some (.int .i64 sb.hi)) ∧ AwW w w' g nr cp r ⟨17, ka, kb, c, n⟩ wd (.slice m.fa m.funcs.length m.fc)) (first | exact HS _ aw.drew | (refine HS _ ?_; repeat (first | exact aw | with_reducible refine AwW.drew ?_ | with_reducible refine AwW.alloc ?_ _ | (with_reducible refine AwW.far ?_ ?_ _; rotate_left; (· first | (simp; done) | (simp; omega)))))) (fail)
    all_goals
      rename_i hS2
      have aw2 := hS2.2
      clear hS2
      go_wp2_with fail
      go_meet
      unfold Cut17
      refine ⟨_, _, rfl, rfl, aw2, ?_, ?_, ?_, ?_⟩
      any_goals (first | omega | (simp; done) | (simp; omega))
      all_goals repeat (first | with_reducible exact Whl.new _ _ _ | with_reducible exact whlNew1 _ _ _ _ | with_reducible refine Whl.drew ?_ | with_reducible refine Whl.alloc ?_ _)
  case rest =>
    rename_i hcut
    obtain ⟨p, q, rfl, rfl, aw3, hp, hq, lp, lq⟩ := hcut
    clear aw HS hsz
    have c1 := aw3.x1
    have c2 := aw3.x2
    have c4 := aw3.x4
    have cb := aw3.rb
    have a0 := hp.cell 0
    have a1 := hp.cell 1
    have b0 := hq.cell 0
    have b1 := hq.cell 1
    simp at c1 c2 c4 a0 a1 b0 b1
    obtain ⟨_, g0, g1, h0, h1⟩ := aw3.row.cells4 ha
    go_wp2
    all_goals
      first
      | (have fin := aw3.putLo ha sa.lo; refine ret_of ?_ rfl; refine ⟨_, by simp [results, Tryd.results29, go_sem] <;> rfl, rfl, ⟨_, fin.row, by simp [hr], fun _ h => ?_⟩, fin.gr⟩; have em : Sp.mx sa.lo sb.lo = sa.lo := (by unfold Sp.mx; split <;> omega); rw [em] at h; exact Option.some.inj h)
      | (have fin := aw3.putLo ha sb.lo; refine ret_of ?_ rfl; refine ⟨_, by simp [results, Tryd.results29, go_sem] <;> rfl, rfl, ⟨_, fin.row, by simp [hr], fun _ h => ?_⟩, fin.gr⟩; have em : Sp.mx sa.lo sb.lo = sb.lo := (by unfold Sp.mx; split <;> omega); rw [em] at h; exact Option.some.inj h)
set_option maxHeartbeats 4000000 in
theorem away_17_far_f (m : ModD) (f : FuncD) (frm ka kb : Nat) (too c n : Int) (hf : frm < f.code.length) (hx : nthX f.code frm = ⟨17, ((ka : Nat) : Int), ((kb : Nat) : Int), c, n⟩) (hl : f.code.length * 40 ≤ 140737488351232) (g nr cp : Nat) (r : List Sp) (hr : r.length = nr) (hc : nr ≤ cp) (hcp : cp ≤ maxLen) (sa : Sp) (ha : r[ka]? = some sa) (sb : Sp) (hb : r[kb]? = some sb) (hone : (n == (frm : Int) + 1) = false) (hone' : (n != (frm : Int) + 1) = true) (hab : ((ka : Int) == (kb : Int)) = false) (hto : (too == n) = true) (hge : decide (sb.lo ≤ sa.hi) = false) (w : World) (hI : InsAt w w.heap.size f.ca f.code) (hR : RowS w g cp r) :
    Calls Tryd.prog 29 #[m.val, f.val, .int .i64 frm, .int .i64 too, .slice (some ⟨g, 0, none⟩) nr cp] w (AwayOk g cp nr none w) := by
  obtain ⟨cb, co, hca, hcb, hcc⟩ := hI (by omega)
  have x0 := hcc frm hf 0 (by omega)
  have x1 := hcc frm hf 1 (by omega)
  have x2 := hcc frm hf 2 (by omega)
  have x3 := hcc frm hf 3 (by omega)
  have x4 := hcc frm hf 4 (by omega)
  simp only [hx, insV, Nat.add_zero] at x0 x1 x2 x3 x4
  obtain ⟨nm, pa, pc, ps, rg, wd, ca, cc, cd⟩ := f
  simp only at hca hf hl hx ⊢
  subst hca
  obtain ⟨hka, ya0, ya1, fa0, fa1⟩ := hR.cells4 ha
  have hna : ((ka : Nat) : Int) < (nr : Int) := by omega
  obtain ⟨hkb, yb0, yb1, fb0, fb1⟩ := hR.cells4 hb
  have hnb : ((kb : Nat) : Int) < (nr : Int) := by omega
  have lg := hR.lt
  have hfr : ((frm : Nat) : Int) < (cd.length : Int) := by omega
  unfold maxLen at hcp
  have HR := Lib.hid hR
  clear hcc hx hR
  go_enter Tryd.func29, Tryd.ntmps29
  go_upto_region 51 with fail
  generalize hW : ((((w.alloc (.cells #[.slice m.ta m.ths.length m.tc, .slice m.fa m.funcs.length m.fc] 25)).alloc (.cells #[.string nm, .slice pa ps.length pc, .int .i64 rg, .int .i64 wd, .slice (some ⟨cb, co, none⟩) cd.length cc] 48)).alloc (.cells #[.slice (some ⟨g, 0, none⟩) nr cp] 26)).alloc (.cells #[.int .i64 17, .int .i64 ((ka : Nat) : Int), .int .i64 ((kb : Nat) : Int), .int .i64 c, .int .i64 n] 65)) = W
  have aw : AwW w W g nr cp r ⟨17, ka, kb, c, n⟩ wd (.slice m.fa m.funcs.length m.fc) := by
    rw [← hW]; exact AwW.new (x := ⟨17, ka, kb, c, n⟩) HR.out _ _ _ _ _ _ _ _ _
  clear hW x0 x1 x2 x3 x4
  have hsz := aw.size
  have HS : ∀ w', AwW w w' g nr cp r ⟨17, ka, kb, c, n⟩ wd (.slice m.fa m.funcs.length m.fc) → (w'.cell? ⟨w.heap.size + 1 + 1 + 1, 1, none⟩ = some (.int .i64 ka) ∧ w'.cell? ⟨w.heap.size + 1 + 1 + 1, 2, none⟩ = some (.int .i64 kb) ∧ w'.cell? ⟨w.heap.size + 1 + 1, 0, none⟩ = some (.slice (some ⟨g, 0, none⟩) nr cp) ∧ w'.cell? ⟨g, ka * 2, none⟩ = some (.int .i64 sa.lo) ∧ w'.cell? ⟨g, ka * 2 + 1, none⟩ = some (.int .i64 sa.hi) ∧ w'.cell? ⟨g, kb * 2, none⟩ = some (.int .i64 sb.lo) ∧ w'.cell? ⟨g, kb * 2 + 1, none⟩ = some (.int .i64 sb.hi)) ∧ AwW w w' g nr cp r ⟨17, ka, kb, c, n⟩ wd (.slice m.fa m.funcs.length m.fc) := fun w' h => by
    obtain ⟨_, a0, a1, _, _⟩ := h.row.cells4 ha
    obtain ⟨_, b0, b1, _, _⟩ := h.row.cells4 hb
    exact ⟨⟨h.x1, h.x2, h.rb, a0, a1, b0, b1⟩, h⟩
  go_cut [21, 22] (fun s21 s22 V => Cut17 w g nr cp r ⟨17, ka, kb, c, n⟩ wd (.slice m.fa m.funcs.length m.fc) sa sb s21 s22 V)
  case first =>
    go_region_held3 (fun w' => (w'.cell? ⟨w.heap.size + 1 + 1 + 1, 1, none⟩ = some (.int .i64 ka) ∧ w'.cell? ⟨w.heap.size + 1 + 1 + 1, 2, none⟩ = some (.int .i64 kb) ∧ w'.cell? ⟨w.heap.size + 1 + 1, 0, none⟩ = some (.slice (some ⟨g, 0, none⟩) nr cp) ∧ w'.cell? ⟨g, ka * 2, none⟩ = some (.int .i64 sa.lo) ∧ w'.cell? ⟨g, ka * 2 + 1, none⟩ = some (.int .i64 sa.hi) ∧ w'.cell? ⟨g, kb * 2, none⟩ = some (.int .i64 sb.lo) ∧ w'.cell? ⟨g, kb * 2 + 1, none⟩ = some (.int .i64 sb.hi)) ∧ AwW w w' g nr cp r ⟨17, ka, kb, c, n⟩ wd (.slice m.fa m.funcs.length m.fc)) (first | exact HS _ aw.drew | (refine HS _ ?_; repeat (first | exact aw | with_reducible refine AwW.drew ?_ | with_reducible refine AwW.alloc ?_ _ | (with_reducible refine AwW.far ?_ ?_ _; rotate_left; (· first | (simp; done) | (simp; omega)))))) (fail)
    all_goals
      rename_i hS2
      have aw2 := hS2.2
      clear hS2
      go_wp2_with fail
      go_meet
      unfold Cut17
      refine ⟨_, _, rfl, rfl, aw2, ?_, ?_, ?_, ?_⟩
      any_goals (first | omega | (simp; done) | (simp; omega))
      all_goals repeat (first | with_reducible exact Whl.new _ _ _ | with_reducible exact whlNew1 _ _ _ _ | with_reducible refine Whl.drew ?_ | with_reducible refine Whl.alloc ?_ _)
  case rest =>
    rename_i hcut
    obtain ⟨p, q, rfl, rfl, aw3, hp, hq, lp, lq⟩ := hcut
    clear aw HS hsz
    have c1 := aw3.x1
    have c2 := aw3.x2
    have c4 := aw3.x4
    have cb := aw3.rb
    have a0 := hp.cell 0
    have a1 := hp.cell 1
    have b0 := hq.cell 0
    have b1 := hq.cell 1
    simp at c1 c2 c4 a0 a1 b0 b1
    obtain ⟨_, g0, g1, h0, h1⟩ := aw3.row.cells4 ha
    go_wp2
    all_goals
      first
      | (have fin := aw3.putLo ha sa.lo; refine ret_of ?_ rfl; refine ⟨_, by simp [results, Tryd.results29, go_sem] <;> rfl, rfl, ⟨_, fin.row, by simp [hr], fun _ h => ?_⟩, fin.gr⟩; cases h)
      | (have fin := aw3.putLo ha sb.lo; refine ret_of ?_ rfl; refine ⟨_, by simp [results, Tryd.results29, go_sem] <;> rfl, rfl, ⟨_, fin.row, by simp [hr], fun _ h => ?_⟩, fin.gr⟩; cases h)
end Go.Proofs.YtddobhneplfddaaDoor
