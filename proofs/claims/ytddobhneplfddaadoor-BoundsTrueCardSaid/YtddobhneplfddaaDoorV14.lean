/-
  Layer 16 (bounds): AwayI, Merge, BndD.
-/
import Derived.Test.YtddobhneplfddaaDoorV10
import Derived.Test.YtddobhneplfddaaDoorV13
namespace Go.Proofs.YtddobhneplfddaaDoor
set_option maxRecDepth 100000
open Go.RowKit
set_option linter.unusedSimpArgs false
set_option linter.unusedVariables false
set_option maxHeartbeats 4000000 in
theorem away_13_tt (m : ModD) (f : FuncD) (frm ka : Nat) (to b c n : Int) (hf : frm < f.code.length) (hx : nthX f.code frm = ⟨13, ((ka : Nat) : Int), b, c, n⟩) (hl : f.code.length * 40 ≤ 140737488351232) (g nr cp : Nat) (r : List Sp) (hr : r.length = nr) (hc : nr ≤ cp) (hcp : cp ≤ maxLen) (sa : Sp) (ha : r[ka]? = some sa) (hn1 : 1 ≤ n) (hn2 : n ≤ 4096) (hmk : sa.meetOk ⟨0, n - 1⟩ = true) (hto : (to == n) = true) (w : World) (hI : InsAt w w.heap.size f.ca f.code) (hR : RowS w g cp r) :
    Calls Tryd.prog 29 #[m.val, f.val, .int .i64 frm, .int .i64 to, .slice (some ⟨g, 0, none⟩) nr cp] w (AwayOk g cp nr (some (r.set ka (sa.meet ⟨0, n - 1⟩))) w) := by
  obtain ⟨cb, co, hca, hcb, hcc⟩ := hI (by omega)
  have x0 := hcc frm hf 0 (by omega)
  have x1 := hcc frm hf 1 (by omega)
  have x2 := hcc frm hf 2 (by omega)
  have x3 := hcc frm hf 3 (by omega)
  have x4 := hcc frm hf 4 (by omega)
  simp only [hx, insV, Nat.add_zero] at x0 x1 x2 x3 x4
  obtain ⟨nm, pa, pc, ps, rg, wd, ca, cc, cd⟩ := f
  simp only at hca hf hl hx ⊢
  subst hca
  obtain ⟨hka, ya0, ya1, fa0, fa1⟩ := hR.cells4 ha
  have hna : ((ka : Nat) : Int) < (nr : Int) := by omega
  have lg := hR.lt
  have hfr : ((frm : Nat) : Int) < (cd.length : Int) := by omega
  unfold maxLen at hcp
  have HR := Lib.hid hR
  clear hcc hx hR
  go_enter Tryd.func29, Tryd.ntmps29
  go_wp2_with fail
  generalize hW : ((((w.alloc (.cells #[.slice m.ta m.ths.length m.tc, .slice m.fa m.funcs.length m.fc] 25)).alloc (.cells #[.string nm, .slice pa ps.length pc, .int .i64 rg, .int .i64 wd, .slice (some ⟨cb, co, none⟩) cd.length cc] 48)).alloc (.cells #[.slice (some ⟨g, 0, none⟩) nr cp] 26)).alloc (.cells #[.int .i64 13, .int .i64 ((ka : Nat) : Int), .int .i64 b, .int .i64 c, .int .i64 n] 65)) = W
  have aw : AwW w W g nr cp r ⟨13, ka, b, c, n⟩ wd (.slice m.fa m.funcs.length m.fc) := by
    rw [← hW]; exact AwW.new (x := ⟨13, ka, b, c, n⟩) HR.out _ _ _ _ _ _ _ _ _
  clear hW x0 x1 x2 x3 x4
  have hsz := aw.size
  go_at_call 53
  refine (meetAw ⟨0, n - 1⟩ sa ka g nr cp r hr (by unfold maxLen; omega) hc ha w _ _ _ _ aw).mono ?_
  rintro e w2 ⟨rfl, aw1⟩
  rw [hmk]
  go_wp2
  refine ret_of ?_ rfl
  refine ⟨_, by simp [results, Tryd.results29, go_sem] <;> rfl, rfl, ⟨_, aw1.row, by simp [hr], fun _ h => Option.some.inj h⟩, aw1.gr⟩
set_option maxHeartbeats 4000000 in
theorem away_13_tf (m : ModD) (f : FuncD) (frm ka : Nat) (to b c n : Int) (hf : frm < f.code.length) (hx : nthX f.code frm = ⟨13, ((ka : Nat) : Int), b, c, n⟩) (hl : f.code.length * 40 ≤ 140737488351232) (g nr cp : Nat) (r : List Sp) (hr : r.length = nr) (hc : nr ≤ cp) (hcp : cp ≤ maxLen) (sa : Sp) (ha : r[ka]? = some sa) (hn1 : 1 ≤ n) (hn2 : n ≤ 4096) (hmk : sa.meetOk ⟨0, n - 1⟩ = true) (hto : (to == n) = false) (w : World) (hI : InsAt w w.heap.size f.ca f.code) (hR : RowS w g cp r) :
    Calls Tryd.prog 29 #[m.val, f.val, .int .i64 frm, .int .i64 to, .slice (some ⟨g, 0, none⟩) nr cp] w (AwayOk g cp nr (some (r.set ka (sa.meet ⟨0, n - 1⟩))) w) := by
  obtain ⟨cb, co, hca, hcb, hcc⟩ := hI (by omega)
  have x0 := hcc frm hf 0 (by omega)
  have x1 := hcc frm hf 1 (by omega)
  have x2 := hcc frm hf 2 (by omega)
  have x3 := hcc frm hf 3 (by omega)
  have x4 := hcc frm hf 4 (by omega)
  simp only [hx, insV, Nat.add_zero] at x0 x1 x2 x3 x4
  obtain ⟨nm, pa, pc, ps, rg, wd, ca, cc, cd⟩ := f
  simp only at hca hf hl hx ⊢
  subst hca
  obtain ⟨hka, ya0, ya1, fa0, fa1⟩ := hR.cells4 ha
  have hna : ((ka : Nat) : Int) < (nr : Int) := by omega
  have lg := hR.lt
  have hfr : ((frm : Nat) : Int) < (cd.length : Int) := by omega
  unfold maxLen at hcp
  have HR := Lib.hid hR
  clear hcc hx hR
  go_enter Tryd.func29, Tryd.ntmps29
  go_wp2_with fail
  generalize hW : ((((w.alloc (.cells #[.slice m.ta m.ths.length m.tc, .slice m.fa m.funcs.length m.fc] 25)).alloc (.cells #[.string nm, .slice pa ps.length pc, .int .i64 rg, .int .i64 wd, .slice (some ⟨cb, co, none⟩) cd.length cc] 48)).alloc (.cells #[.slice (some ⟨g, 0, none⟩) nr cp] 26)).alloc (.cells #[.int .i64 13, .int .i64 ((ka : Nat) : Int), .int .i64 b, .int .i64 c, .int .i64 n] 65)) = W
  have aw : AwW w W g nr cp r ⟨13, ka, b, c, n⟩ wd (.slice m.fa m.funcs.length m.fc) := by
    rw [← hW]; exact AwW.new (x := ⟨13, ka, b, c, n⟩) HR.out _ _ _ _ _ _ _ _ _
  clear hW x0 x1 x2 x3 x4
  have hsz := aw.size
  go_at_call 53
  refine (meetAw ⟨0, n - 1⟩ sa ka g nr cp r hr (by unfold maxLen; omega) hc ha w _ _ _ _ aw).mono ?_
  rintro e w2 ⟨rfl, aw1⟩
  rw [hmk]
  go_wp2
  refine ret_of ?_ rfl
  refine ⟨_, by simp [results, Tryd.results29, go_sem] <;> rfl, rfl, ⟨_, aw1.row, by simp [hr], fun _ h => Option.some.inj h⟩, aw1.gr⟩
set_option maxHeartbeats 4000000 in
theorem away_13_ft (m : ModD) (f : FuncD) (frm ka : Nat) (to b c n : Int) (hf : frm < f.code.length) (hx : nthX f.code frm = ⟨13, ((ka : Nat) : Int), b, c, n⟩) (hl : f.code.length * 40 ≤ 140737488351232) (g nr cp : Nat) (r : List Sp) (hr : r.length = nr) (hc : nr ≤ cp) (hcp : cp ≤ maxLen) (sa : Sp) (ha : r[ka]? = some sa) (hn1 : 1 ≤ n) (hn2 : n ≤ 4096) (hmk : sa.meetOk ⟨0, n - 1⟩ = false) (hto : (to == n) = true) (w : World) (hI : InsAt w w.heap.size f.ca f.code) (hR : RowS w g cp r) :
    Calls Tryd.prog 29 #[m.val, f.val, .int .i64 frm, .int .i64 to, .slice (some ⟨g, 0, none⟩) nr cp] w (AwayOk g cp nr none w) := by
  obtain ⟨cb, co, hca, hcb, hcc⟩ := hI (by omega)
  have x0 := hcc frm hf 0 (by omega)
  have x1 := hcc frm hf 1 (by omega)
  have x2 := hcc frm hf 2 (by omega)
  have x3 := hcc frm hf 3 (by omega)
  have x4 := hcc frm hf 4 (by omega)
  simp only [hx, insV, Nat.add_zero] at x0 x1 x2 x3 x4
  obtain ⟨nm, pa, pc, ps, rg, wd, ca, cc, cd⟩ := f
  simp only at hca hf hl hx ⊢
  subst hca
  obtain ⟨hka, ya0, ya1, fa0, fa1⟩ := hR.cells4 ha
  have hna : ((ka : Nat) : Int) < (nr : Int) := by omega
  have lg := hR.lt
  have hfr : ((frm : Nat) : Int) < (cd.length : Int) := by omega
  unfold maxLen at hcp
  have HR := Lib.hid hR
  clear hcc hx hR
  go_enter Tryd.func29, Tryd.ntmps29
  go_wp2_with fail
  generalize hW : ((((w.alloc (.cells #[.slice m.ta m.ths.length m.tc, .slice m.fa m.funcs.length m.fc] 25)).alloc (.cells #[.string nm, .slice pa ps.length pc, .int .i64 rg, .int .i64 wd, .slice (some ⟨cb, co, none⟩) cd.length cc] 48)).alloc (.cells #[.slice (some ⟨g, 0, none⟩) nr cp] 26)).alloc (.cells #[.int .i64 13, .int .i64 ((ka : Nat) : Int), .int .i64 b, .int .i64 c, .int .i64 n] 65)) = W
  have aw : AwW w W g nr cp r ⟨13, ka, b, c, n⟩ wd (.slice m.fa m.funcs.length m.fc) := by
    rw [← hW]; exact AwW.new (x := ⟨13, ka, b, c, n⟩) HR.out _ _ _ _ _ _ _ _ _
  clear hW x0 x1 x2 x3 x4
  have hsz := aw.size
  go_at_call 53
  refine (meetAw ⟨0, n - 1⟩ sa ka g nr cp r hr (by unfold maxLen; omega) hc ha w _ _ _ _ aw).mono ?_
  rintro e w2 ⟨rfl, aw1⟩
  rw [hmk]
  go_wp2
  refine ret_of ?_ rfl
  refine ⟨_, by simp [results, Tryd.results29, go_sem] <;> rfl, rfl, ⟨_, aw1.row, by simp [hr], fun _ h => by cases h⟩, aw1.gr⟩
set_option maxHeartbeats 4000000 in
theorem away_13_ff (m : ModD) (f : FuncD) (frm ka : Nat) (to b c n : Int) (hf : frm < f.code.length) (hx : nthX f.code frm = ⟨13, ((ka : Nat) : Int), b, c, n⟩) (hl : f.code.length * 40 ≤ 140737488351232) (g nr cp : Nat) (r : List Sp) (hr : r.length = nr) (hc : nr ≤ cp) (hcp : cp ≤ maxLen) (sa : Sp) (ha : r[ka]? = some sa) (hn1 : 1 ≤ n) (hn2 : n ≤ 4096) (hmk : sa.meetOk ⟨0, n - 1⟩ = false) (hto : (to == n) = false) (w : World) (hI : InsAt w w.heap.size f.ca f.code) (hR : RowS w g cp r) :
    Calls Tryd.prog 29 #[m.val, f.val, .int .i64 frm, .int .i64 to, .slice (some ⟨g, 0, none⟩) nr cp] w (AwayOk g cp nr none w) := by
  obtain ⟨cb, co, hca, hcb, hcc⟩ := hI (by omega)
  have x0 := hcc frm hf 0 (by omega)
  have x1 := hcc frm hf 1 (by omega)
  have x2 := hcc frm hf 2 (by omega)
  have x3 := hcc frm hf 3 (by omega)
  have x4 := hcc frm hf 4 (by omega)
  simp only [hx, insV, Nat.add_zero] at x0 x1 x2 x3 x4
  obtain ⟨nm, pa, pc, ps, rg, wd, ca, cc, cd⟩ := f
  simp only at hca hf hl hx ⊢
  subst hca
  obtain ⟨hka, ya0, ya1, fa0, fa1⟩ := hR.cells4 ha
  have hna : ((ka : Nat) : Int) < (nr : Int) := by omega
  have lg := hR.lt
  have hfr : ((frm : Nat) : Int) < (cd.length : Int) := by omega
  unfold maxLen at hcp
  have HR := Lib.hid hR
  clear hcc hx hR
  go_enter Tryd.func29, Tryd.ntmps29
  go_wp2_with fail
  generalize hW : ((((w.alloc (.cells #[.slice m.ta m.ths.length m.tc, .slice m.fa m.funcs.length m.fc] 25)).alloc (.cells #[.string nm, .slice pa ps.length pc, .int .i64 rg, .int .i64 wd, .slice (some ⟨cb, co, none⟩) cd.length cc] 48)).alloc (.cells #[.slice (some ⟨g, 0, none⟩) nr cp] 26)).alloc (.cells #[.int .i64 13, .int .i64 ((ka : Nat) : Int), .int .i64 b, .int .i64 c, .int .i64 n] 65)) = W
  have aw : AwW w W g nr cp r ⟨13, ka, b, c, n⟩ wd (.slice m.fa m.funcs.length m.fc) := by
    rw [← hW]; exact AwW.new (x := ⟨13, ka, b, c, n⟩) HR.out _ _ _ _ _ _ _ _ _
  clear hW x0 x1 x2 x3 x4
  have hsz := aw.size
  go_at_call 53
  refine (meetAw ⟨0, n - 1⟩ sa ka g nr cp r hr (by unfold maxLen; omega) hc ha w _ _ _ _ aw).mono ?_
  rintro e w2 ⟨rfl, aw1⟩
  rw [hmk]
  go_wp2
  refine ret_of ?_ rfl
  refine ⟨_, by simp [results, Tryd.results29, go_sem] <;> rfl, rfl, ⟨_, aw1.row, by simp [hr], fun _ h => by cases h⟩, aw1.gr⟩
end Go.Proofs.YtddobhneplfddaaDoor

namespace Go.Proofs.YtddobhneplfddaaDoor
set_option maxRecDepth 100000
open Go.RowKit
set_option linter.unusedSimpArgs false
set_option linter.unusedVariables false
/-- What merge leaves. -/
def MergeOk (B n R sb : Nat) (L : Lay) (s s' : StD) (g : Nat) (W : World) (e : Ending) (W' : World) : Prop :=
  (∃ v, e = .returned v) ∧ Below B W W' ∧ ∃ L', StP W' B n R sb L' s' ∧ (∀ k, k < W.heap.size → ¬ L.has sb n s k → W'.heap[k]? = W.heap[k]?) ∧ ∀ k, L'.has sb n s' k → L.has sb n s k ∨ k = g
theorem mergeD_none {s : StD} {tw : Nat} (nx : List Sp) (ths : List Int) (h : s.ins.getD tw none = none) : mergeD s tw nx ths = { s with ins := s.ins.set tw (some nx), marked := s.marked.set tw true } := by
  unfold mergeD; rw [h]
theorem has_lay {L : Lay} {sb n i g c : Nat} {s t : StD} {nx : List Sp} (hli : s.ins.length = n) (hi : i < n) (ht : t.ins = s.ins.set i (some nx)) {k : Nat} (hk : (StP.lay' L i g c).has sb n t k) : L.has sb n s k ∨ k = g := by
  rcases hk with q | q | q | q | q | q | ⟨j, m, hm, e⟩
  · exact .inl (.inl q)
  · exact .inl (.inr (.inl q))
  · exact .inl (.inr (.inr (.inl q)))
  · exact .inl (.inr (.inr (.inr (.inl q))))
  · exact .inl (.inr (.inr (.inr (.inr (.inl q)))))
  · exact .inl (.inr (.inr (.inr (.inr (.inr (.inl q))))))
  · rw [ht, getD_set] at hm
    by_cases e2 : i = j
    · subst e2
      exact .inr (e.trans (if_pos rfl))
    · rw [if_neg (fun q => e2 q.1)] at hm
      exact .inl (.inr (.inr (.inr (.inr (.inr (.inr ⟨j, m, hm, e.trans (if_neg (fun q => e2 q.symm))⟩))))))
set_option maxHeartbeats 2000000 in
theorem mergeP1 (B n R sb : Nat) (L : Lay) (s : StD) (tw g cp tc : Nat) (A : Option Addr) (nx : List Sp) (ths : List Int) (W : World) (h : StP W B n R sb L s) (hB : B ≤ W.heap.size) (hn : n ≤ maxLen) (hok : StOk n R ths s) (htw : tw < n) (hno : s.ins.getD tw none = none) (hr : RowS W g cp nx) (hc : R ≤ cp) (ht : cp ≤ maxLen) (hg : ¬ L.has sb n s g) (hBg : B ≤ g) :
    Calls Tryd.prog 35 #[.pointer (some ⟨sb, 0, none⟩), .int .i64 tw, .slice (some ⟨g, 0, none⟩) R cp, .slice A ths.length tc] W (MergeOk B n R sb L s (mergeD s tw nx ths) g W) := by
  rw [mergeD_none nx ths hno]
  have c0 := h.c0
  have c1 := h.c1
  have c2 := h.c2
  have c3 := h.c3
  have c4 := h.insC htw
  simp only [inV, hno] at c4
  have hti : (tw : Int) < (n : Int) := by omega
  unfold maxLen at hn
  have HS : ∀ w', (∃ L' t, StP w' B n R sb L' t ∧ L'.inb = L.inb ∧ L'.chb = L.chb ∧ L'.mkb = L.mkb ∧ L'.jnb = L.jnb) → (w'.cell? ⟨sb, 0, none⟩ = some (.slice (some ⟨L.inb, 0, none⟩) n n) ∧ w'.cell? ⟨sb, 2, none⟩ = some (.slice (some ⟨L.mkb, 0, none⟩) n n)) ∧ ∃ L' t, StP w' B n R sb L' t ∧ L'.inb = L.inb ∧ L'.chb = L.chb ∧ L'.mkb = L.mkb ∧ L'.jnb = L.jnb := fun w' ⟨L', t, h, e1, e2, e3, e4⟩ => ⟨⟨by rw [← e1]; exact h.c0, by rw [← e3]; exact h.c2⟩, L', t, h, e1, e2, e3, e4⟩
  have H := Lib.hid h
  have f1 := h.ins.frozen tw
  have f2 := h.mks.frozen tw
  have c5 := h.mksC (i := tw) (by rw [hok.lm]; exact htw)
  have S1 := Lib.hid (h.drew.setIns hok.li htw hno hr.toE.drew hc ht hg hBg)
  have S2 := Lib.hid (S1.out.setMark tw true)
  have Z := h.setIns hok.li htw hno hr.toE hc ht hg hBg
  have c6 := Z.mksC (i := tw) (by rw [show ({ s with ins := s.ins.set tw (some nx) } : StD).marked = s.marked from rfl, hok.lm]; exact htw)
  have f6 := Z.mks.frozen tw
  have e6 : (StP.lay' L tw g cp).mkb = L.mkb := rfl
  rw [e6] at c6 f6
  clear Z e6
  have HOK := Lib.hid hok
  have HNO := Lib.hid (And.intro hno hg)
  clear h hok hno hg
  have hnil := fun (w : World) (a : Option Addr) (p q : Nat) => Lib.run_eql_slice_nil (P := Tryd.prog) w 26 34 a p q 0 0 Tryd.underlying26
  go_enter Tryd.func35, Tryd.ntmps35
  go_wp2
  refine wp_region_held_drew (S := (fun w' => (w'.cell? ⟨sb, 0, none⟩ = some (.slice (some ⟨L.inb, 0, none⟩) n n) ∧ w'.cell? ⟨sb, 2, none⟩ = some (.slice (some ⟨L.mkb, 0, none⟩) n n)) ∧ ∃ L' t, StP w' B n R sb L' t ∧ L'.inb = L.inb ∧ L'.chb = L.chb ∧ L'.mkb = L.mkb ∧ L'.jnb = L.jnb)) (by kernel_rfl) ?_ (fun hHeld => ?_)
  · (exact HS _ ⟨L, s, H.out.drew, rfl, rfl, rfl, rfl⟩)
  iterate 13
    refine wpAnyH_nx (v := ?_) rfl rfl (by kernel_rfl) (by kernel_rfl) (by kernel_rfl) (fun _ _ _ h => h) (Or.inl ⟨by rfl, ?_⟩) (by assumption) ?_
    rotate_left
    · (intro w' hSw; (try dsimp only at hSw); go_simp <;> with_reducible rfl)
    (try simp only [Act.put, List.setIfInBounds_toArray, List.set_cons_zero, List.set_cons_succ])
  refine wpAnyH_ready (rs := [13]) (by kernel_rfl) (by simp) ?_
  refine AllReadyH.cons rfl (fun K hK => ?_) AllReadyH.nil
  go_simp
  refine hK.out _ _ ?_ (fun hHeld => ?_)
  · (exact HS _ ⟨_, _, S1.out, rfl, rfl, rfl, rfl⟩)
  clear hK K
  (try simp only [Act.put, List.setIfInBounds_toArray, List.set_cons_zero, List.set_cons_succ])
  refine wpAnyH_take (i := 14) (v := ?_) rfl (by kernel_rfl) (by kernel_rfl) (by kernel_rfl) (fun _ _ _ h => h) (Or.inl ⟨by rfl, ?_⟩) (by assumption) ?_
  rotate_left
  · (intro w' hSw; (try dsimp only at hSw); go_simp <;> with_reducible rfl)
  (try simp only [Act.put, List.setIfInBounds_toArray, List.set_cons_zero, List.set_cons_succ])
  refine wpAnyH_ready (rs := [15]) (by kernel_rfl) (by simp) ?_
  refine AllReadyH.cons rfl (fun K hK => ?_) AllReadyH.nil
  go_simp
  refine hK.out _ _ ?_ (fun hHeld => ?_)
  · (exact HS _ ⟨_, _, S2.out, rfl, rfl, rfl, rfl⟩)
  clear hK K
  (try simp only [Act.put, List.setIfInBounds_toArray, List.set_cons_zero, List.set_cons_succ])
  refine wpAnyH_done (by kernel_rfl) ?_ _
  go_wp2
  refine ret_of ?_ rfl
  refine ⟨_, results_none rfl _ _ _, ⟨_, rfl⟩, ?_, StP.lay' L tw g cp, S2.out, fun k hk hh => ?_, fun k hk => has_lay (t := { s with ins := s.ins.set tw (some nx), marked := s.marked.set tw true }) HOK.out.li htw rfl hk⟩
  · exact (((Below.refl B W).setCell (p := ⟨L.inb, tw, none⟩) (H.out.old _ (.inr (.inl rfl))) _).setCell (p := ⟨L.mkb, tw, none⟩) (H.out.old _ (.inr (.inr (.inr (.inl rfl))))) _).drew
  · show ((W.setCell _ _).setCell _ _).heap[k]? = _
    rw [Below.heap_setCell _ _ _ k (fun e => hh (.inr (.inr (.inr (.inl e))))), Below.heap_setCell _ _ _ k (fun e => hh (.inr (.inl e)))]
/-! ### Where something stands -/
def diffB (old nx : List Sp) (k : Nat) : Bool := !sameSp ((old.getD k z0).join (nx.getD k z0)) (old.getD k z0)
def incTo (c : List Nat) (old nx : List Sp) : Nat → List Nat
  | 0 => c
  | k + 1 => if diffB old nx k then (incTo c old nx k).set k (c.getD k 0 + 1) else incTo c old nx k
def anyTo (old nx : List Sp) : Nat → Bool
  | 0 => false
  | k + 1 => anyTo old nx k || diffB old nx k
def grTo (wide : Bool) (ths : List Int) (old nx : List Sp) : Nat → List Sp
  | 0 => old
  | k + 1 => (grTo wide ths old nx k).set k (growS wide ths (old.getD k z0) (nx.getD k z0))
theorem incTo_len (c : List Nat) (old nx : List Sp) : ∀ k, (incTo c old nx k).length = c.length
  | 0 => rfl
  | k + 1 => by rw [incTo]; split <;> (try rw [List.length_set]) <;> exact incTo_len c old nx k
theorem incTo_get (c : List Nat) (old nx : List Sp) : ∀ k j, k ≤ c.length → (incTo c old nx k).getD j 0 = if j < k ∧ diffB old nx j = true then c.getD j 0 + 1 else c.getD j 0
  | 0, j, _ => by simp [incTo]
  | k + 1, j, h => by
    have ih := incTo_get c old nx k j (by omega)
    have hl := incTo_len c old nx k
    rw [incTo]
    cases hd : diffB old nx k
    · simp only [Bool.false_eq_true, if_false]
      rw [ih]
      by_cases e : j = k
      · subst e; simp [hd]
      · have : (j < k + 1) ↔ (j < k) := by omega
        simp only [this]
    · simp only [if_true]
      rw [getD_set]
      by_cases e : k = j
      · subst e; rw [if_pos ⟨rfl, by omega⟩]; simp [hd]
      · rw [if_neg (fun q => e q.1), ih]
        have : (j < k + 1) ↔ (j < k) := by omega
        simp only [this]
theorem grTo_len (wide : Bool) (ths : List Int) (old nx : List Sp) : ∀ k, (grTo wide ths old nx k).length = old.length
  | 0 => rfl
  | k + 1 => by rw [grTo, List.length_set]; exact grTo_len wide ths old nx k
theorem grTo_get (wide : Bool) (ths : List Int) (old nx : List Sp) : ∀ k j, k ≤ old.length → (grTo wide ths old nx k).getD j z0 = if j < k then growS wide ths (old.getD j z0) (nx.getD j z0) else old.getD j z0
  | 0, j, _ => by simp [grTo]
  | k + 1, j, h => by
    have ih := grTo_get wide ths old nx k j (by omega)
    have hl := grTo_len wide ths old nx k
    rw [grTo, getD_set]
    by_cases e : k = j
    · subst e; rw [if_pos ⟨rfl, by omega⟩, if_pos (by omega)]
    · rw [if_neg (fun q => e q.1), ih]
      have : (j < k + 1) ↔ (j < k) := by omega
      simp only [this]
theorem list_ext {α : Type} (d : α) {l m : List α} (h : l.length = m.length) (hh : ∀ j, j < l.length → l.getD j d = m.getD j d) : l = m := by
  apply List.ext_getElem? ; intro j
  rcases Nat.lt_or_ge j l.length with q | q
  · have := hh j q
    rw [List.getD_eq_getElem?_getD, List.getD_eq_getElem?_getD, List.getElem?_eq_getElem q, List.getElem?_eq_getElem (by omega)] at this
    rw [List.getElem?_eq_getElem q, List.getElem?_eq_getElem (by omega)]
    exact congrArg some this
  · rw [List.getElem?_eq_none q, List.getElem?_eq_none (by omega)]
theorem anyTo_iff (old nx : List Sp) : ∀ k, anyTo old nx k = true ↔ ∃ j, j < k ∧ diffB old nx j = true
  | 0 => by simp [anyTo]
  | k + 1 => by
    rw [anyTo, Bool.or_eq_true, anyTo_iff old nx k]
    constructor
    · rintro (⟨j, h1, h2⟩ | h)
      · exact ⟨j, by omega, h2⟩
      · exact ⟨k, by omega, h⟩
    · rintro ⟨j, h1, h2⟩
      rcases Nat.lt_or_ge j k with q | q
      · exact .inl ⟨j, q, h2⟩
      · obtain rfl : j = k := by omega
        exact .inr h2
theorem anyTo_all {old nx : List Sp} {R : Nat} (h1 : old.length = R) (h2 : nx.length = R) : (List.zipWith (fun a b => sameSp (a.join b) a) old nx).all id = !anyTo old nx R := by
  rw [Bool.eq_iff_iff]
  rw [Bool.not_eq_true', ← Bool.not_eq_true, anyTo_iff, List.all_eq_true]
  constructor
  · rintro h ⟨j, hj, hd⟩
    have e := getD_zip (fun a b => sameSp (a.join b) a) old nx z0 z0 true j (by omega) (by omega)
    have hk : j < (List.zipWith (fun a b => sameSp (a.join b) a) old nx).length := by simp; omega
    have := h _ (List.getElem_mem hk)
    rw [List.getD_eq_getElem?_getD, List.getElem?_eq_getElem hk] at e
    simp only [Option.getD_some] at e
    simp only [id, e] at this
    rw [diffB, this] at hd
    cases hd
  · intro h x hx
    obtain ⟨j, hj, e⟩ := List.getElem_of_mem hx
    have hj2 : j < R := by simp at hj; omega
    have e2 := getD_zip (fun a b => sameSp (a.join b) a) old nx z0 z0 true j (by omega) (by omega)
    rw [List.getD_eq_getElem?_getD, List.getElem?_eq_getElem hj] at e2
    simp only [Option.getD_some] at e2
    rw [← e, id, e2]
    cases hq : sameSp ((old.getD j z0).join (nx.getD j z0)) (old.getD j z0)
    · exact absurd ⟨j, hj2, by rw [diffB, hq]; rfl⟩ h
    · rfl
theorem incTo_all {c : List Nat} {old nx : List Sp} {R : Nat} (h0 : c.length = R) (h1 : old.length = R) (h2 : nx.length = R) : List.zipWith (fun (c : Nat) (ab : Sp × Sp) => if sameSp (ab.1.join ab.2) ab.1 then c else c + 1) c (old.zip nx) = incTo c old nx R := by
  refine list_ext 0 (by rw [incTo_len]; simp; omega) fun j hj => ?_
  have hj2 : j < R := by simp at hj; omega
  rw [incTo_get c old nx R j (by omega), getD_zip _ _ _ 0 (z0, z0) 0 j (by omega) (by simp; omega)]
  have : (old.zip nx).getD j (z0, z0) = (old.getD j z0, nx.getD j z0) := by
    simp only [List.getD_eq_getElem?_getD]
    rw [List.getElem?_eq_getElem (by simp; omega), List.getElem?_eq_getElem (by omega), List.getElem?_eq_getElem (by omega)]
    simp
  rw [this]
  dsimp only
  by_cases hq : sameSp ((old.getD j z0).join (nx.getD j z0)) (old.getD j z0) = true
  · rw [if_pos hq, if_neg (fun q => by have := q.2; rw [diffB, hq] at this; cases this)]
  · rw [if_neg hq, if_pos ⟨hj2, by rw [diffB, Bool.not_eq_true']; exact Bool.not_eq_true _ ▸ hq⟩]
theorem grTo_all {wide : Bool} {ths : List Int} {old nx : List Sp} {R : Nat} (h1 : old.length = R) (h2 : nx.length = R) : List.zipWith (growS wide ths) old nx = grTo wide ths old nx R := by
  refine list_ext z0 (by rw [grTo_len]; simp; omega) fun j hj => ?_
  have hj2 : j < R := by simp at hj; omega
  rw [grTo_get wide ths old nx R j (by omega), getD_zip _ _ _ z0 z0 z0 j (by omega) (by omega), if_pos hj2]
theorem mergeD_some {s : StD} {tw R : Nat} {nx old : List Sp} (ths : List Int) (h : s.ins.getD tw none = some old) (h0 : (s.changes.getD tw []).length = R) (h1 : old.length = R) (h2 : nx.length = R) :
    mergeD s tw nx ths = if anyTo old nx R then { ins := s.ins.set tw (some (grTo (decide (4 < s.joined.getD tw 0 + 1)) ths old nx R)), marked := s.marked.set tw true, joined := s.joined.set tw (s.joined.getD tw 0 + 1), changes := s.changes.set tw (incTo (s.changes.getD tw []) old nx R) } else s := by
  unfold mergeD
  rw [h]
  simp only
  rw [anyTo_all h1 h2, incTo_all h0 h1 h2, grTo_all h1 h2]
  cases anyTo old nx R <;> rfl
end Go.Proofs.YtddobhneplfddaaDoor

namespace Go.Proofs.YtddobhneplfddaaDoor
set_option maxRecDepth 100000
open Go.RowKit
set_option linter.unusedSimpArgs false
set_option linter.unusedVariables false
def GdR (r : List Sp) : Prop := ∀ k, Gd (r.getD k z0)
theorem gd_z0 : Gd z0 := by unfold Gd z0 Sp.Wf; simp
theorem GdR.of {r : List Sp} {n : Nat} (hl : r.length = n) (h : ∀ k, k < n → Gd (r.getD k z0)) : GdR r := fun k => by
  rcases Nat.lt_or_ge k n with q | q
  · exact h k q
  · rw [List.getD_eq_getElem?_getD, List.getElem?_eq_none (by omega)]; exact gd_z0
theorem GdR.atS {r : List Sp} (h : GdR r) (i : Int) : Gd (atS r i) := h i.toNat
theorem GdR.setS {r : List Sp} (h : GdR r) (i : Int) {a : Sp} (ha : Gd a) : GdR (setS r i a) := fun k => by
  unfold Go.Proofs.YtddobhneplfddaaDoor.setS
  rw [getD_set]
  split
  · exact ha
  · exact h k
theorem setS_len (r : List Sp) (i : Int) (a : Sp) : (setS r i a).length = r.length := List.length_set ..
theorem meet_good {a b : Sp} (ha : Gd a) (h : a.meetOk b = true) : Gd (a.meet b) := by
  obtain ⟨h1, h2, h3⟩ := ha
  have hn : (Sp.meetS a b).none = false := by simpa [Sp.meetOk] using h
  have e : a.meet b = Sp.meetS a b := by rw [Sp.meet, hn]; rfl
  rw [e]
  have hn2 : ¬ (Sp.meetS a b).hi < (Sp.meetS a b).lo := by simpa [Sp.none] using hn
  unfold Gd Sp.Wf
  simp only [Sp.meetS, Sp.mx, Sp.mn] at hn2 ⊢
  (repeat' split at hn2) <;> (repeat' split) <;> omega
theorem wo0_good {a : Sp} (ha : Gd a) (h : (wo0 a).lo ≤ (wo0 a).hi) : Gd (wo0 a) := by
  obtain ⟨h1, h2, h3⟩ := ha
  refine ⟨h, ?_⟩
  unfold wo0 Sp.Wf at *
  simp only at *
  (repeat' split) <;> omega
theorem all_good : Gd Sp.all := by unfold Gd Sp.all Sp.Wf Sp.least Sp.greatest; simp
theorem doAll_good (op : Int) (h : op = 3 ∨ op = 4 ∨ op = 5 ∨ op = 6 ∨ op = 7 ∨ op = 8 ∨ op = 9 ∨ op = 10) : (doSp op Sp.all Sp.all).Wf := by
  rcases h with rfl | rfl | rfl | rfl | rfl | rfl | rfl | rfl <;> (refine ⟨⟨?_, ?_⟩, ?_, ?_⟩ <;> decide)
theorem do_ops {op : Int} {a b : Sp} (h : doOk op a b = true) : op = 3 ∨ op = 4 ∨ op = 5 ∨ op = 6 ∨ op = 7 ∨ op = 8 ∨ op = 9 ∨ op = 10 := by
  simp [doOk] at h; omega
theorem do_good {op : Int} {a b : Sp} (ha : Gd a) (hb : Gd b) (h : doOk op a b = true) : Gd (doSp op a b) := by
  have hop := do_ops h
  obtain ⟨h1, w1⟩ := ha
  obtain ⟨h2, w2⟩ := hb
  have hy : ∃ y, b.In y ∧ opOk op y = true := by
    by_cases e : b.lo = 0
    · refine ⟨b.hi, ⟨h2, Int.le_refl _⟩, ?_⟩
      simp only [doOk, Sp.zero, Sp.none] at h
      simp only [opOk]
      simp at h ⊢
      omega
    · refine ⟨b.lo, ⟨Int.le_refl _, h2⟩, ?_⟩
      simp only [opOk]
      simp
      omega
  obtain ⟨y, hy1, hy2⟩ := hy
  obtain ⟨_, hin⟩ := do_true w1 w2 (show a.In a.lo from ⟨Int.le_refl _, h1⟩) (fun _ => hy1) hy2
  have hle : (doSp op a b).lo ≤ (doSp op a b).hi := Int.le_trans hin.1 hin.2
  obtain ⟨_, hw⟩ := do_grows (c := Sp.all) (d := Sp.all) all_good.2 all_good.2 (within_iff.2 fun _ => ⟨w1.1.1, w1.2.2⟩) (within_iff.2 fun _ => ⟨w2.1.1, w2.2.2⟩) h
  have hh := within_iff.1 hw hle
  have wA := doAll_good op hop
  refine ⟨hle, ?_⟩
  unfold Sp.Wf at *
  omega
theorem callD_good : ∀ (ps : List Sp) (r : List Sp) (b : Int) (q : List Sp), GdR r → callD r b ps = some q → q.length = r.length ∧ GdR q
  | [], r, b, q, hr, h => by cases h; exact ⟨rfl, hr⟩
  | p :: ps, r, b, q, hr, h => by
    rw [callD] at h
    split at h
    · rename_i hm
      obtain ⟨h1, h2⟩ := callD_good ps _ _ q (hr.setS b (meet_good (hr.atS b) hm)) h
      exact ⟨h1.trans (setS_len _ _ _), h2⟩
    · cases h
theorem away_good {m : ModD} {f : FuncD} {frm to : Int} {x : InsD} {r q : List Sp} (wx : In64 x.n) (hr : GdR r) (h : awayD m f frm to x r = some q) : q.length = r.length ∧ GdR q := by
  unfold awayD at h
  by_cases c0 : x.op = 1
  · rw [if_pos c0] at h
    cases h
    exact ⟨setS_len _ _ _, hr.setS _ ⟨Int.le_refl _, wx, wx⟩⟩
  rw [if_neg c0] at h
  by_cases c1 : x.op = 2
  · rw [if_pos c1] at h
    cases h
    exact ⟨setS_len _ _ _, hr.setS _ (hr.atS _)⟩
  rw [if_neg c1] at h
  by_cases c2 : x.op = 6 ∨ x.op = 7
  · rw [if_pos c2] at h
    split at h
    · rename_i hd
      cases h
      refine ⟨by rw [setS_len, setS_len], (hr.setS _ (wo0_good (hr.atS _) ?_)).setS _ (do_good (hr.atS _) (hr.atS _) hd)⟩
      have hc := (hr.atS x.c).1
      have hz : ¬ ((atS r x.c).lo = 0 ∧ (atS r x.c).hi = 0) := by
        simp [doOk, Sp.zero] at hd
        omega
      unfold wo0
      simp only
      (repeat' split) <;> omega
    · cases h
  rw [if_neg c2] at h
  by_cases c3 : 3 ≤ x.op ∧ x.op ≤ 10
  · rw [if_pos c3] at h
    split at h
    · rename_i hd
      cases h
      exact ⟨setS_len _ _ _, hr.setS _ (do_good (hr.atS _) (hr.atS _) hd)⟩
    · cases h
  rw [if_neg c3] at h
  by_cases c4 : x.op = 11
  · rw [if_pos c4] at h
    split at h
    · rename_i hd
      cases h
      rw [Bool.and_eq_true] at hd
      exact ⟨by rw [setS_len, setS_len], (hr.setS _ (meet_good (hr.atS _) hd.2)).setS _ all_good⟩
    · cases h
  rw [if_neg c4] at h
  by_cases c5 : x.op = 12
  · rw [if_pos c5] at h
    split at h
    · rename_i hd
      cases h
      rw [Bool.and_eq_true] at hd
      exact ⟨setS_len _ _ _, hr.setS _ (meet_good (hr.atS _) hd.2)⟩
    · cases h
  rw [if_neg c5] at h
  by_cases c6 : x.op = 13
  · rw [if_pos c6] at h
    split at h
    · rename_i hd
      cases h
      exact ⟨setS_len _ _ _, hr.setS _ (meet_good (hr.atS _) hd)⟩
    · cases h
  rw [if_neg c6] at h
  by_cases c7 : x.op = 15 ∨ x.op = 16
  · rw [if_pos c7] at h
    split at h
    · cases h; exact ⟨rfl, hr⟩
    split at h
    · split at h
      · rename_i hd
        cases h
        exact ⟨setS_len _ _ _, hr.setS _ (meet_good (hr.atS _) hd)⟩
      · cases h
    · split at h
      · rename_i hd
        cases h
        exact ⟨setS_len _ _ _, hr.setS _ (wo0_good (hr.atS _) (by simpa [wo0Ok] using hd))⟩
      · cases h
  rw [if_neg c7] at h
  by_cases c8 : x.op = 17
  · rw [if_pos c8] at h
    split at h
    · cases h; exact ⟨rfl, hr⟩
    split at h
    · split at h
      · cases h; exact ⟨rfl, hr⟩
      · cases h
    split at h
    · split at h
      · rename_i hd
        cases h
        refine ⟨setS_len _ _ _, hr.setS _ ?_⟩
        obtain ⟨a1, a2, a3⟩ := hr.atS x.a
        obtain ⟨b1, b2, b3⟩ := hr.atS x.b
        unfold Gd Sp.Wf
        simp only [Sp.mx]
        split <;> omega
      · cases h
    · split at h
      · rename_i hd
        cases h
        refine ⟨setS_len _ _ _, hr.setS _ ?_⟩
        obtain ⟨a1, a2, a3⟩ := hr.atS x.a
        obtain ⟨b1, b2, b3⟩ := hr.atS x.b
        have hn : ((atS r x.a).none || (atS r x.b).none || decide ((atS r x.b).hi ≤ (atS r x.a).lo)) = false := by simpa [Sp.belowOk] using hd
        rw [Sp.belowA, hn]
        simp at hn
        unfold Gd Sp.Wf
        simp only [Sp.mn, Bool.false_eq_true, if_false]
        split <;> omega
      · cases h
  rw [if_neg c8] at h
  by_cases c9 : x.op = 18
  · rw [if_pos c9] at h
    cases h
    refine ⟨setS_len _ _ _, hr.setS _ (do_good (hr.atS _) ⟨by simp, by unfold Sp.Wf; simp⟩ ?_)⟩
    have := (hr.atS x.a).1
    simp [doOk, Sp.none]; omega
  rw [if_neg c9] at h
  by_cases c10 : x.op = 19
  · rw [if_pos c10] at h
    rw [Option.map_eq_some_iff] at h
    obtain ⟨r', h1, rfl⟩ := h
    obtain ⟨h2, h3⟩ := callD_good _ _ _ _ hr h1
    exact ⟨by rw [setS_len, h2], h3.setS _ all_good⟩
  rw [if_neg c10] at h
  cases h; exact ⟨rfl, hr⟩
end Go.Proofs.YtddobhneplfddaaDoor
