/-
  Layer 16 (bounds): AwayK.
-/
import Derived.Test.YtddobhneplfddaaDoorV13
namespace Go.Proofs.YtddobhneplfddaaDoor
set_option maxRecDepth 100000
open Go.RowKit
set_option linter.unusedSimpArgs false
set_option linter.unusedVariables false
set_option maxHeartbeats 4000000 in
theorem away_15_wo_t (m : ModD) (f : FuncD) (frm ka : Nat) (to b c n : Int) (hf : frm < f.code.length) (hx : nthX f.code frm = ⟨15, ((ka : Nat) : Int), b, c, n⟩) (hl : f.code.length * 40 ≤ 140737488351232) (g nr cp : Nat) (r : List Sp) (hr : r.length = nr) (hc : nr ≤ cp) (hcp : cp ≤ maxLen) (sa : Sp) (ha : r[ka]? = some sa) (hone : (n == (frm : Int) + 1) = false) (hone' : (n != (frm : Int) + 1) = true) (hmk : wo0Ok sa = true) (hto : (to == n) = true) (w : World) (hI : InsAt w w.heap.size f.ca f.code) (hR : RowS w g cp r) :
    Calls Tryd.prog 29 #[m.val, f.val, .int .i64 frm, .int .i64 to, .slice (some ⟨g, 0, none⟩) nr cp] w (AwayOk g cp nr (some (r.set ka (wo0 sa))) w) := by
  obtain ⟨cb, co, hca, hcb, hcc⟩ := hI (by omega)
  have x0 := hcc frm hf 0 (by omega)
  have x1 := hcc frm hf 1 (by omega)
  have x2 := hcc frm hf 2 (by omega)
  have x3 := hcc frm hf 3 (by omega)
  have x4 := hcc frm hf 4 (by omega)
  simp only [hx, insV, Nat.add_zero] at x0 x1 x2 x3 x4
  obtain ⟨nm, pa, pc, ps, rg, wd, ca, cc, cd⟩ := f
  simp only at hca hf hl hx ⊢
  subst hca
  obtain ⟨hka, ya0, ya1, fa0, fa1⟩ := hR.cells4 ha
  have hna : ((ka : Nat) : Int) < (nr : Int) := by omega
  have lg := hR.lt
  have hfr : ((frm : Nat) : Int) < (cd.length : Int) := by omega
  unfold maxLen at hcp
  have HR := Lib.hid hR
  clear hcc hx hR
  go_enter Tryd.func29, Tryd.ntmps29
  go_wp2
  generalize hW : ((((w.alloc (.cells #[.slice m.ta m.ths.length m.tc, .slice m.fa m.funcs.length m.fc] 25)).alloc (.cells #[.string nm, .slice pa ps.length pc, .int .i64 rg, .int .i64 wd, .slice (some ⟨cb, co, none⟩) cd.length cc] 48)).alloc (.cells #[.slice (some ⟨g, 0, none⟩) nr cp] 26)).alloc (.cells #[.int .i64 15, .int .i64 ((ka : Nat) : Int), .int .i64 b, .int .i64 c, .int .i64 n] 65)) = W
  have aw : AwW w W g nr cp r ⟨15, ka, b, c, n⟩ wd (.slice m.fa m.funcs.length m.fc) := by
    rw [← hW]; exact AwW.new (x := ⟨15, ka, b, c, n⟩) HR.out _ _ _ _ _ _ _ _ _
  clear hW x0 x1 x2 x3 x4
  have hsz := aw.size
  have HS : ∀ w', (∃ r', AwW w w' g nr cp r' ⟨15, ka, b, c, n⟩ wd (.slice m.fa m.funcs.length m.fc)) → (w'.cell? ⟨w.heap.size + 1 + 1 + 1, 1, none⟩ = some (.int .i64 ka) ∧ w'.cell? ⟨w.heap.size + 1 + 1, 0, none⟩ = some (.slice (some ⟨g, 0, none⟩) nr cp)) ∧ ∃ r', AwW w w' g nr cp r' ⟨15, ka, b, c, n⟩ wd (.slice m.fa m.funcs.length m.fc) := fun w' ⟨r', h⟩ => ⟨⟨h.x1, h.rb⟩, r', h⟩
  obtain ⟨_, a0, a1, i0, i1⟩ := aw.row.cells4 ha
  refine wp_region_held_drew (S := (fun w' => (w'.cell? ⟨w.heap.size + 1 + 1 + 1, 1, none⟩ = some (.int .i64 ka) ∧ w'.cell? ⟨w.heap.size + 1 + 1, 0, none⟩ = some (.slice (some ⟨g, 0, none⟩) nr cp)) ∧ ∃ r', AwW w w' g nr cp r' ⟨15, ka, b, c, n⟩ wd (.slice m.fa m.funcs.length m.fc))) (by kernel_rfl) ?_ (fun hHeld => ?_)
  · (exact HS _ ⟨_, aw.drew⟩)
  iterate 7
    refine wpAnyH_nx (v := ?_) rfl rfl (by kernel_rfl) (by kernel_rfl) (by kernel_rfl) (fun _ _ _ h => h) (Or.inl ⟨by rfl, ?_⟩) (by assumption) ?_
    rotate_left
    · (intro w' hSw; (try dsimp only at hSw); go_simp <;> with_reducible rfl)
    (try simp only [Act.put, List.setIfInBounds_toArray, List.set_cons_zero, List.set_cons_succ])
  refine wpAnyH_ready (rs := [7]) (by kernel_rfl) (by simp) ?_
  refine AllReadyH.cons rfl (fun K hK => ?_) AllReadyH.nil
  go_simp
  refine hK.out _ _ ?_ (fun hHeld => ?_)
  · (exact HS _ ⟨_, aw.drew⟩)
  clear hK K
  (try simp only [Act.put, List.setIfInBounds_toArray, List.set_cons_zero, List.set_cons_succ])
  refine wpAnyH_ready (rs := [8]) (by kernel_rfl) (by simp) ?_
  refine AllReadyH.cons rfl (fun K hK => ?_) AllReadyH.nil
  go_simp; go_at_call 56; refine (without0P sa _).mono ?_; rintro e w1 ⟨rfl, hb1⟩; go_wp2_with fail; have hs1 := hb1.size; have aw1 := AwW.below aw.drew hb1; obtain ⟨_, g0, g1, h0, h1⟩ := aw1.row.cells4 ha
  refine hK.out _ _ ?_ (fun hHeld => ?_)
  · (exact HS _ ⟨_, aw1⟩)
  clear hK K
  (try simp only [Act.put, List.setIfInBounds_toArray, List.set_cons_zero, List.set_cons_succ])
  iterate 4
    refine wpAnyH_nx (v := ?_) rfl rfl (by kernel_rfl) (by kernel_rfl) (by kernel_rfl) (fun _ _ _ h => h) (Or.inl ⟨by rfl, ?_⟩) (by assumption) ?_
    rotate_left
    · (intro w' hSw; (try dsimp only at hSw); go_simp <;> with_reducible rfl)
    (try simp only [Act.put, List.setIfInBounds_toArray, List.set_cons_zero, List.set_cons_succ])
  refine wpAnyH_ready (rs := [13]) (by kernel_rfl) (by simp) ?_
  refine AllReadyH.cons rfl (fun K hK => ?_) AllReadyH.nil
  go_simp
  refine hK.out _ _ ?_ (fun hHeld => ?_)
  · (exact HS _ ⟨_, AwW.put aw1 hka (wo0 sa)⟩)
  clear hK K
  (try simp only [Act.put, List.setIfInBounds_toArray, List.set_cons_zero, List.set_cons_succ])
  refine wpAnyH_take (i := 14) (v := ?_) rfl (by kernel_rfl) (by kernel_rfl) (by kernel_rfl) (fun _ _ _ h => h) (Or.inl ⟨by rfl, ?_⟩) (by assumption) ?_
  rotate_left
  · (intro w' hSw; (try dsimp only at hSw); go_simp <;> with_reducible rfl)
  (try simp only [Act.put, List.setIfInBounds_toArray, List.set_cons_zero, List.set_cons_succ])
  refine wpAnyH_done (by kernel_rfl) ?_ _
  have fin := (AwW.below aw.drew hb1).put hka (wo0 sa)
  go_wp2
  refine ret_of ?_ rfl
  refine ⟨_, by simp [results, Tryd.results29, go_sem] <;> rfl, rfl, ⟨_, fin.row, by simp [hr], fun _ h => Option.some.inj h⟩, fin.gr⟩
set_option maxHeartbeats 4000000 in
theorem away_15_wo_f (m : ModD) (f : FuncD) (frm ka : Nat) (to b c n : Int) (hf : frm < f.code.length) (hx : nthX f.code frm = ⟨15, ((ka : Nat) : Int), b, c, n⟩) (hl : f.code.length * 40 ≤ 140737488351232) (g nr cp : Nat) (r : List Sp) (hr : r.length = nr) (hc : nr ≤ cp) (hcp : cp ≤ maxLen) (sa : Sp) (ha : r[ka]? = some sa) (hone : (n == (frm : Int) + 1) = false) (hone' : (n != (frm : Int) + 1) = true) (hmk : wo0Ok sa = false) (hto : (to == n) = true) (w : World) (hI : InsAt w w.heap.size f.ca f.code) (hR : RowS w g cp r) :
    Calls Tryd.prog 29 #[m.val, f.val, .int .i64 frm, .int .i64 to, .slice (some ⟨g, 0, none⟩) nr cp] w (AwayOk g cp nr none w) := by
  obtain ⟨cb, co, hca, hcb, hcc⟩ := hI (by omega)
  have x0 := hcc frm hf 0 (by omega)
  have x1 := hcc frm hf 1 (by omega)
  have x2 := hcc frm hf 2 (by omega)
  have x3 := hcc frm hf 3 (by omega)
  have x4 := hcc frm hf 4 (by omega)
  simp only [hx, insV, Nat.add_zero] at x0 x1 x2 x3 x4
  obtain ⟨nm, pa, pc, ps, rg, wd, ca, cc, cd⟩ := f
  simp only at hca hf hl hx ⊢
  subst hca
  obtain ⟨hka, ya0, ya1, fa0, fa1⟩ := hR.cells4 ha
  have hna : ((ka : Nat) : Int) < (nr : Int) := by omega
  have lg := hR.lt
  have hfr : ((frm : Nat) : Int) < (cd.length : Int) := by omega
  unfold maxLen at hcp
  have HR := Lib.hid hR
  clear hcc hx hR
  go_enter Tryd.func29, Tryd.ntmps29
  go_wp2
  generalize hW : ((((w.alloc (.cells #[.slice m.ta m.ths.length m.tc, .slice m.fa m.funcs.length m.fc] 25)).alloc (.cells #[.string nm, .slice pa ps.length pc, .int .i64 rg, .int .i64 wd, .slice (some ⟨cb, co, none⟩) cd.length cc] 48)).alloc (.cells #[.slice (some ⟨g, 0, none⟩) nr cp] 26)).alloc (.cells #[.int .i64 15, .int .i64 ((ka : Nat) : Int), .int .i64 b, .int .i64 c, .int .i64 n] 65)) = W
  have aw : AwW w W g nr cp r ⟨15, ka, b, c, n⟩ wd (.slice m.fa m.funcs.length m.fc) := by
    rw [← hW]; exact AwW.new (x := ⟨15, ka, b, c, n⟩) HR.out _ _ _ _ _ _ _ _ _
  clear hW x0 x1 x2 x3 x4
  have hsz := aw.size
  have HS : ∀ w', (∃ r', AwW w w' g nr cp r' ⟨15, ka, b, c, n⟩ wd (.slice m.fa m.funcs.length m.fc)) → (w'.cell? ⟨w.heap.size + 1 + 1 + 1, 1, none⟩ = some (.int .i64 ka) ∧ w'.cell? ⟨w.heap.size + 1 + 1, 0, none⟩ = some (.slice (some ⟨g, 0, none⟩) nr cp)) ∧ ∃ r', AwW w w' g nr cp r' ⟨15, ka, b, c, n⟩ wd (.slice m.fa m.funcs.length m.fc) := fun w' ⟨r', h⟩ => ⟨⟨h.x1, h.rb⟩, r', h⟩
  obtain ⟨_, a0, a1, i0, i1⟩ := aw.row.cells4 ha
  refine wp_region_held_drew (S := (fun w' => (w'.cell? ⟨w.heap.size + 1 + 1 + 1, 1, none⟩ = some (.int .i64 ka) ∧ w'.cell? ⟨w.heap.size + 1 + 1, 0, none⟩ = some (.slice (some ⟨g, 0, none⟩) nr cp)) ∧ ∃ r', AwW w w' g nr cp r' ⟨15, ka, b, c, n⟩ wd (.slice m.fa m.funcs.length m.fc))) (by kernel_rfl) ?_ (fun hHeld => ?_)
  · (exact HS _ ⟨_, aw.drew⟩)
  iterate 7
    refine wpAnyH_nx (v := ?_) rfl rfl (by kernel_rfl) (by kernel_rfl) (by kernel_rfl) (fun _ _ _ h => h) (Or.inl ⟨by rfl, ?_⟩) (by assumption) ?_
    rotate_left
    · (intro w' hSw; (try dsimp only at hSw); go_simp <;> with_reducible rfl)
    (try simp only [Act.put, List.setIfInBounds_toArray, List.set_cons_zero, List.set_cons_succ])
  refine wpAnyH_ready (rs := [7]) (by kernel_rfl) (by simp) ?_
  refine AllReadyH.cons rfl (fun K hK => ?_) AllReadyH.nil
  go_simp
  refine hK.out _ _ ?_ (fun hHeld => ?_)
  · (exact HS _ ⟨_, aw.drew⟩)
  clear hK K
  (try simp only [Act.put, List.setIfInBounds_toArray, List.set_cons_zero, List.set_cons_succ])
  refine wpAnyH_ready (rs := [8]) (by kernel_rfl) (by simp) ?_
  refine AllReadyH.cons rfl (fun K hK => ?_) AllReadyH.nil
  go_simp; go_at_call 56; refine (without0P sa _).mono ?_; rintro e w1 ⟨rfl, hb1⟩; go_wp2_with fail; have hs1 := hb1.size; have aw1 := AwW.below aw.drew hb1; obtain ⟨_, g0, g1, h0, h1⟩ := aw1.row.cells4 ha
  refine hK.out _ _ ?_ (fun hHeld => ?_)
  · (exact HS _ ⟨_, aw1⟩)
  clear hK K
  (try simp only [Act.put, List.setIfInBounds_toArray, List.set_cons_zero, List.set_cons_succ])
  iterate 4
    refine wpAnyH_nx (v := ?_) rfl rfl (by kernel_rfl) (by kernel_rfl) (by kernel_rfl) (fun _ _ _ h => h) (Or.inl ⟨by rfl, ?_⟩) (by assumption) ?_
    rotate_left
    · (intro w' hSw; (try dsimp only at hSw); go_simp <;> with_reducible rfl)
    (try simp only [Act.put, List.setIfInBounds_toArray, List.set_cons_zero, List.set_cons_succ])
  refine wpAnyH_ready (rs := [13]) (by kernel_rfl) (by simp) ?_
  refine AllReadyH.cons rfl (fun K hK => ?_) AllReadyH.nil
  go_simp
  refine hK.out _ _ ?_ (fun hHeld => ?_)
  · (exact HS _ ⟨_, AwW.put aw1 hka (wo0 sa)⟩)
  clear hK K
  (try simp only [Act.put, List.setIfInBounds_toArray, List.set_cons_zero, List.set_cons_succ])
  refine wpAnyH_take (i := 14) (v := ?_) rfl (by kernel_rfl) (by kernel_rfl) (by kernel_rfl) (fun _ _ _ h => h) (Or.inl ⟨by rfl, ?_⟩) (by assumption) ?_
  rotate_left
  · (intro w' hSw; (try dsimp only at hSw); go_simp <;> with_reducible rfl)
  (try simp only [Act.put, List.setIfInBounds_toArray, List.set_cons_zero, List.set_cons_succ])
  refine wpAnyH_done (by kernel_rfl) ?_ _
  have fin := (AwW.below aw.drew hb1).put hka (wo0 sa)
  go_wp2
  refine ret_of ?_ rfl
  refine ⟨_, by simp [results, Tryd.results29, go_sem] <;> rfl, rfl, ⟨_, fin.row, by simp [hr], fun _ h => by cases h⟩, fin.gr⟩
set_option maxHeartbeats 4000000 in
theorem away_16_wo_t (m : ModD) (f : FuncD) (frm ka : Nat) (to b c n : Int) (hf : frm < f.code.length) (hx : nthX f.code frm = ⟨16, ((ka : Nat) : Int), b, c, n⟩) (hl : f.code.length * 40 ≤ 140737488351232) (g nr cp : Nat) (r : List Sp) (hr : r.length = nr) (hc : nr ≤ cp) (hcp : cp ≤ maxLen) (sa : Sp) (ha : r[ka]? = some sa) (hone : (n == (frm : Int) + 1) = false) (hone' : (n != (frm : Int) + 1) = true) (hmk : wo0Ok sa = true) (hto : (to == n) = false) (w : World) (hI : InsAt w w.heap.size f.ca f.code) (hR : RowS w g cp r) :
    Calls Tryd.prog 29 #[m.val, f.val, .int .i64 frm, .int .i64 to, .slice (some ⟨g, 0, none⟩) nr cp] w (AwayOk g cp nr (some (r.set ka (wo0 sa))) w) := by
  obtain ⟨cb, co, hca, hcb, hcc⟩ := hI (by omega)
  have x0 := hcc frm hf 0 (by omega)
  have x1 := hcc frm hf 1 (by omega)
  have x2 := hcc frm hf 2 (by omega)
  have x3 := hcc frm hf 3 (by omega)
  have x4 := hcc frm hf 4 (by omega)
  simp only [hx, insV, Nat.add_zero] at x0 x1 x2 x3 x4
  obtain ⟨nm, pa, pc, ps, rg, wd, ca, cc, cd⟩ := f
  simp only at hca hf hl hx ⊢
  subst hca
  obtain ⟨hka, ya0, ya1, fa0, fa1⟩ := hR.cells4 ha
  have hna : ((ka : Nat) : Int) < (nr : Int) := by omega
  have lg := hR.lt
  have hfr : ((frm : Nat) : Int) < (cd.length : Int) := by omega
  unfold maxLen at hcp
  have HR := Lib.hid hR
  clear hcc hx hR
  go_enter Tryd.func29, Tryd.ntmps29
  go_wp2
  generalize hW : ((((w.alloc (.cells #[.slice m.ta m.ths.length m.tc, .slice m.fa m.funcs.length m.fc] 25)).alloc (.cells #[.string nm, .slice pa ps.length pc, .int .i64 rg, .int .i64 wd, .slice (some ⟨cb, co, none⟩) cd.length cc] 48)).alloc (.cells #[.slice (some ⟨g, 0, none⟩) nr cp] 26)).alloc (.cells #[.int .i64 16, .int .i64 ((ka : Nat) : Int), .int .i64 b, .int .i64 c, .int .i64 n] 65)) = W
  have aw : AwW w W g nr cp r ⟨16, ka, b, c, n⟩ wd (.slice m.fa m.funcs.length m.fc) := by
    rw [← hW]; exact AwW.new (x := ⟨16, ka, b, c, n⟩) HR.out _ _ _ _ _ _ _ _ _
  clear hW x0 x1 x2 x3 x4
  have hsz := aw.size
  have HS : ∀ w', (∃ r', AwW w w' g nr cp r' ⟨16, ka, b, c, n⟩ wd (.slice m.fa m.funcs.length m.fc)) → (w'.cell? ⟨w.heap.size + 1 + 1 + 1, 1, none⟩ = some (.int .i64 ka) ∧ w'.cell? ⟨w.heap.size + 1 + 1, 0, none⟩ = some (.slice (some ⟨g, 0, none⟩) nr cp)) ∧ ∃ r', AwW w w' g nr cp r' ⟨16, ka, b, c, n⟩ wd (.slice m.fa m.funcs.length m.fc) := fun w' ⟨r', h⟩ => ⟨⟨h.x1, h.rb⟩, r', h⟩
  obtain ⟨_, a0, a1, i0, i1⟩ := aw.row.cells4 ha
  refine wp_region_held_drew (S := (fun w' => (w'.cell? ⟨w.heap.size + 1 + 1 + 1, 1, none⟩ = some (.int .i64 ka) ∧ w'.cell? ⟨w.heap.size + 1 + 1, 0, none⟩ = some (.slice (some ⟨g, 0, none⟩) nr cp)) ∧ ∃ r', AwW w w' g nr cp r' ⟨16, ka, b, c, n⟩ wd (.slice m.fa m.funcs.length m.fc))) (by kernel_rfl) ?_ (fun hHeld => ?_)
  · (exact HS _ ⟨_, aw.drew⟩)
  iterate 7
    refine wpAnyH_nx (v := ?_) rfl rfl (by kernel_rfl) (by kernel_rfl) (by kernel_rfl) (fun _ _ _ h => h) (Or.inl ⟨by rfl, ?_⟩) (by assumption) ?_
    rotate_left
    · (intro w' hSw; (try dsimp only at hSw); go_simp <;> with_reducible rfl)
    (try simp only [Act.put, List.setIfInBounds_toArray, List.set_cons_zero, List.set_cons_succ])
  refine wpAnyH_ready (rs := [7]) (by kernel_rfl) (by simp) ?_
  refine AllReadyH.cons rfl (fun K hK => ?_) AllReadyH.nil
  go_simp
  refine hK.out _ _ ?_ (fun hHeld => ?_)
  · (exact HS _ ⟨_, aw.drew⟩)
  clear hK K
  (try simp only [Act.put, List.setIfInBounds_toArray, List.set_cons_zero, List.set_cons_succ])
  refine wpAnyH_ready (rs := [8]) (by kernel_rfl) (by simp) ?_
  refine AllReadyH.cons rfl (fun K hK => ?_) AllReadyH.nil
  go_simp; go_at_call 56; refine (without0P sa _).mono ?_; rintro e w1 ⟨rfl, hb1⟩; go_wp2_with fail; have hs1 := hb1.size; have aw1 := AwW.below aw.drew hb1; obtain ⟨_, g0, g1, h0, h1⟩ := aw1.row.cells4 ha
  refine hK.out _ _ ?_ (fun hHeld => ?_)
  · (exact HS _ ⟨_, aw1⟩)
  clear hK K
  (try simp only [Act.put, List.setIfInBounds_toArray, List.set_cons_zero, List.set_cons_succ])
  iterate 4
    refine wpAnyH_nx (v := ?_) rfl rfl (by kernel_rfl) (by kernel_rfl) (by kernel_rfl) (fun _ _ _ h => h) (Or.inl ⟨by rfl, ?_⟩) (by assumption) ?_
    rotate_left
    · (intro w' hSw; (try dsimp only at hSw); go_simp <;> with_reducible rfl)
    (try simp only [Act.put, List.setIfInBounds_toArray, List.set_cons_zero, List.set_cons_succ])
  refine wpAnyH_ready (rs := [13]) (by kernel_rfl) (by simp) ?_
  refine AllReadyH.cons rfl (fun K hK => ?_) AllReadyH.nil
  go_simp
  refine hK.out _ _ ?_ (fun hHeld => ?_)
  · (exact HS _ ⟨_, AwW.put aw1 hka (wo0 sa)⟩)
  clear hK K
  (try simp only [Act.put, List.setIfInBounds_toArray, List.set_cons_zero, List.set_cons_succ])
  refine wpAnyH_take (i := 14) (v := ?_) rfl (by kernel_rfl) (by kernel_rfl) (by kernel_rfl) (fun _ _ _ h => h) (Or.inl ⟨by rfl, ?_⟩) (by assumption) ?_
  rotate_left
  · (intro w' hSw; (try dsimp only at hSw); go_simp <;> with_reducible rfl)
  (try simp only [Act.put, List.setIfInBounds_toArray, List.set_cons_zero, List.set_cons_succ])
  refine wpAnyH_done (by kernel_rfl) ?_ _
  have fin := (AwW.below aw.drew hb1).put hka (wo0 sa)
  go_wp2
  refine ret_of ?_ rfl
  refine ⟨_, by simp [results, Tryd.results29, go_sem] <;> rfl, rfl, ⟨_, fin.row, by simp [hr], fun _ h => Option.some.inj h⟩, fin.gr⟩
set_option maxHeartbeats 4000000 in
theorem away_16_wo_f (m : ModD) (f : FuncD) (frm ka : Nat) (to b c n : Int) (hf : frm < f.code.length) (hx : nthX f.code frm = ⟨16, ((ka : Nat) : Int), b, c, n⟩) (hl : f.code.length * 40 ≤ 140737488351232) (g nr cp : Nat) (r : List Sp) (hr : r.length = nr) (hc : nr ≤ cp) (hcp : cp ≤ maxLen) (sa : Sp) (ha : r[ka]? = some sa) (hone : (n == (frm : Int) + 1) = false) (hone' : (n != (frm : Int) + 1) = true) (hmk : wo0Ok sa = false) (hto : (to == n) = false) (w : World) (hI : InsAt w w.heap.size f.ca f.code) (hR : RowS w g cp r) :
    Calls Tryd.prog 29 #[m.val, f.val, .int .i64 frm, .int .i64 to, .slice (some ⟨g, 0, none⟩) nr cp] w (AwayOk g cp nr none w) := by
  obtain ⟨cb, co, hca, hcb, hcc⟩ := hI (by omega)
  have x0 := hcc frm hf 0 (by omega)
  have x1 := hcc frm hf 1 (by omega)
  have x2 := hcc frm hf 2 (by omega)
  have x3 := hcc frm hf 3 (by omega)
  have x4 := hcc frm hf 4 (by omega)
  simp only [hx, insV, Nat.add_zero] at x0 x1 x2 x3 x4
  obtain ⟨nm, pa, pc, ps, rg, wd, ca, cc, cd⟩ := f
  simp only at hca hf hl hx ⊢
  subst hca
  obtain ⟨hka, ya0, ya1, fa0, fa1⟩ := hR.cells4 ha
  have hna : ((ka : Nat) : Int) < (nr : Int) := by omega
  have lg := hR.lt
  have hfr : ((frm : Nat) : Int) < (cd.length : Int) := by omega
  unfold maxLen at hcp
  have HR := Lib.hid hR
  clear hcc hx hR
  go_enter Tryd.func29, Tryd.ntmps29
  go_wp2
  generalize hW : ((((w.alloc (.cells #[.slice m.ta m.ths.length m.tc, .slice m.fa m.funcs.length m.fc] 25)).alloc (.cells #[.string nm, .slice pa ps.length pc, .int .i64 rg, .int .i64 wd, .slice (some ⟨cb, co, none⟩) cd.length cc] 48)).alloc (.cells #[.slice (some ⟨g, 0, none⟩) nr cp] 26)).alloc (.cells #[.int .i64 16, .int .i64 ((ka : Nat) : Int), .int .i64 b, .int .i64 c, .int .i64 n] 65)) = W
  have aw : AwW w W g nr cp r ⟨16, ka, b, c, n⟩ wd (.slice m.fa m.funcs.length m.fc) := by
    rw [← hW]; exact AwW.new (x := ⟨16, ka, b, c, n⟩) HR.out _ _ _ _ _ _ _ _ _
  clear hW x0 x1 x2 x3 x4
  have hsz := aw.size
  have HS : ∀ w', (∃ r', AwW w w' g nr cp r' ⟨16, ka, b, c, n⟩ wd (.slice m.fa m.funcs.length m.fc)) → (w'.cell? ⟨w.heap.size + 1 + 1 + 1, 1, none⟩ = some (.int .i64 ka) ∧ w'.cell? ⟨w.heap.size + 1 + 1, 0, none⟩ = some (.slice (some ⟨g, 0, none⟩) nr cp)) ∧ ∃ r', AwW w w' g nr cp r' ⟨16, ka, b, c, n⟩ wd (.slice m.fa m.funcs.length m.fc) := fun w' ⟨r', h⟩ => ⟨⟨h.x1, h.rb⟩, r', h⟩
  obtain ⟨_, a0, a1, i0, i1⟩ := aw.row.cells4 ha
  refine wp_region_held_drew (S := (fun w' => (w'.cell? ⟨w.heap.size + 1 + 1 + 1, 1, none⟩ = some (.int .i64 ka) ∧ w'.cell? ⟨w.heap.size + 1 + 1, 0, none⟩ = some (.slice (some ⟨g, 0, none⟩) nr cp)) ∧ ∃ r', AwW w w' g nr cp r' ⟨16, ka, b, c, n⟩ wd (.slice m.fa m.funcs.length m.fc))) (by kernel_rfl) ?_ (fun hHeld => ?_)
  · (exact HS _ ⟨_, aw.drew⟩)
  iterate 7
    refine wpAnyH_nx (v := ?_) rfl rfl (by kernel_rfl) (by kernel_rfl) (by kernel_rfl) (fun _ _ _ h => h) (Or.inl ⟨by rfl, ?_⟩) (by assumption) ?_
    rotate_left
    · (intro w' hSw; (try dsimp only at hSw); go_simp <;> with_reducible rfl)
    (try simp only [Act.put, List.setIfInBounds_toArray, List.set_cons_zero, List.set_cons_succ])
  refine wpAnyH_ready (rs := [7]) (by kernel_rfl) (by simp) ?_
  refine AllReadyH.cons rfl (fun K hK => ?_) AllReadyH.nil
  go_simp
  refine hK.out _ _ ?_ (fun hHeld => ?_)
  · (exact HS _ ⟨_, aw.drew⟩)
  clear hK K
  (try simp only [Act.put, List.setIfInBounds_toArray, List.set_cons_zero, List.set_cons_succ])
  refine wpAnyH_ready (rs := [8]) (by kernel_rfl) (by simp) ?_
  refine AllReadyH.cons rfl (fun K hK => ?_) AllReadyH.nil
  go_simp; go_at_call 56; refine (without0P sa _).mono ?_; rintro e w1 ⟨rfl, hb1⟩; go_wp2_with fail; have hs1 := hb1.size; have aw1 := AwW.below aw.drew hb1; obtain ⟨_, g0, g1, h0, h1⟩ := aw1.row.cells4 ha
  refine hK.out _ _ ?_ (fun hHeld => ?_)
  · (exact HS _ ⟨_, aw1⟩)
  clear hK K
  (try simp only [Act.put, List.setIfInBounds_toArray, List.set_cons_zero, List.set_cons_succ])
  iterate 4
    refine wpAnyH_nx (v := ?_) rfl rfl (by kernel_rfl) (by kernel_rfl) (by kernel_rfl) (fun _ _ _ h => h) (Or.inl ⟨by rfl, ?_⟩) (by assumption) ?_
    rotate_left
    · (intro w' hSw; (try dsimp only at hSw); go_simp <;> with_reducible rfl)
    (try simp only [Act.put, List.setIfInBounds_toArray, List.set_cons_zero, List.set_cons_succ])
  refine wpAnyH_ready (rs := [13]) (by kernel_rfl) (by simp) ?_
  refine AllReadyH.cons rfl (fun K hK => ?_) AllReadyH.nil
  go_simp
  refine hK.out _ _ ?_ (fun hHeld => ?_)
  · (exact HS _ ⟨_, AwW.put aw1 hka (wo0 sa)⟩)
  clear hK K
  (try simp only [Act.put, List.setIfInBounds_toArray, List.set_cons_zero, List.set_cons_succ])
  refine wpAnyH_take (i := 14) (v := ?_) rfl (by kernel_rfl) (by kernel_rfl) (by kernel_rfl) (fun _ _ _ h => h) (Or.inl ⟨by rfl, ?_⟩) (by assumption) ?_
  rotate_left
  · (intro w' hSw; (try dsimp only at hSw); go_simp <;> with_reducible rfl)
  (try simp only [Act.put, List.setIfInBounds_toArray, List.set_cons_zero, List.set_cons_succ])
  refine wpAnyH_done (by kernel_rfl) ?_ _
  have fin := (AwW.below aw.drew hb1).put hka (wo0 sa)
  go_wp2
  refine ret_of ?_ rfl
  refine ⟨_, by simp [results, Tryd.results29, go_sem] <;> rfl, rfl, ⟨_, fin.row, by simp [hr], fun _ h => by cases h⟩, fin.gr⟩
end Go.Proofs.YtddobhneplfddaaDoor
