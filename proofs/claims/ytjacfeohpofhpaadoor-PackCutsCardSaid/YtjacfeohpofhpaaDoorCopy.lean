/-
  Layer 9 (code): Copy of the reference: a module made anew, which says the same.
-/
import Derived.Test.YtjacfeohpofhpaaDoorCopyF
namespace Go.Proofs.YtjacfeohpofhpaaDoor
open Go.RowKit
set_option linter.unusedSimpArgs false
set_option linter.unusedVariables false
theorem OwnF.kept {W W' : World} {base k : Nat} {f : FuncD} {v : Value} {xs : List Value} (h : OwnF W base f) (hg : W.grownBy W' v.ownBlock) (hv : W.ownsRow base 45 5 v k xs) : OwnF W' base f :=
  ⟨h.params.kept hg (own_apart h.params hv (by decide)), h.code.kept hg (own_apart h.code hv (by decide))⟩
theorem OwnF.alloc {W : World} {base : Nat} {f : FuncD} (h : OwnF W base f) (o : Obj) : OwnF (W.alloc o) base f := ⟨h.params.alloc _, h.code.alloc _⟩
theorem OwnF.far {W : World} {base g : Nat} {f : FuncD} {cs : Array Value} (h : OwnF W base f) (hw : Whl W g 25 cs) (i : Nat) (u : Value) : OwnF (W.setCell ⟨g, i, none⟩ u) base f :=
  ⟨own_far h.params u (fun e => own_whl h.params hw (by decide) e.symm), own_far h.code u (fun e => own_whl h.code hw (by decide) e.symm)⟩
/-- What lies in memory while Copy runs: the module's box, the result's, and out's. -/
structure CM (w : World) (m : ModD) (g : Nat) (v0 v : Value) (W : World) : Prop where
  below : Below w.heap.size w W
  bm : Whl W w.heap.size 25 #[.slice m.ta m.ths.length m.tc, .slice m.fa m.funcs.length m.fc]
  br : Whl W (w.heap.size + 1) 25 #[.slice none 0 0, .slice none 0 0]
  bo : Whl W g 25 #[v0, v]
  lo : w.heap.size + 2 ≤ g
/-- Ahead of out. -/
structure CM0 (w : World) (m : ModD) (W : World) : Prop where
  below : Below w.heap.size w W
  bm : Whl W w.heap.size 25 #[.slice m.ta m.ths.length m.tc, .slice m.fa m.funcs.length m.fc]
  br : Whl W (w.heap.size + 1) 25 #[.slice none 0 0, .slice none 0 0]
theorem CM0.start (w : World) (m : ModD) : CM0 w m ((w.alloc (.cells #[.slice m.ta m.ths.length m.tc, .slice m.fa m.funcs.length m.fc] 25)).alloc (.cells #[.slice none 0 0, .slice none 0 0] 25)) := by
  refine ⟨below_alloc (below_alloc (Below.refl _ _) _) _, (Whl.new _ _ _).alloc _, ?_⟩
  have := Whl.new (w.alloc (.cells #[.slice m.ta m.ths.length m.tc, .slice m.fa m.funcs.length m.fc] 25)) 25 #[.slice none 0 0, .slice none 0 0]
  rwa [World.size_alloc] at this
theorem CM0.alloc {w W : World} {m : ModD} (h : CM0 w m W) (o : Obj) : CM0 w m (W.alloc o) := ⟨below_alloc h.below _, h.bm.alloc _, h.br.alloc _⟩
theorem CM0.grown {w W W' : World} {m : ModD} {row : Option Nat} (h : CM0 w m W) (hg : W.grownBy W' row) (hr : ∀ r, row = some r → w.heap.size + 2 ≤ r) : CM0 w m W' :=
  ⟨h.below.grown hg h.below.size (fun k hk => by have := hr k hk; omega), h.bm.grown hg (fun e => by have := hr _ e.symm; omega), h.br.grown hg (fun e => by have := hr _ e.symm; omega)⟩
theorem CM0.out {w W : World} {m : ModD} (h : CM0 w m W) (v0 v : Value) : CM w m W.heap.size v0 v (W.alloc (.cells #[v0, v] 25)) :=
  ⟨below_alloc h.below _, h.bm.alloc _, h.br.alloc _, Whl.new _ _ _, by have := h.br.lt; omega⟩
variable {w W W' : World} {m : ModD} {g : Nat} {v0 v : Value}
theorem CM.alloc (h : CM w m g v0 v W) (o : Obj) : CM w m g v0 v (W.alloc o) := ⟨below_alloc h.below _, h.bm.alloc _, h.br.alloc _, h.bo.alloc _, h.lo⟩
theorem CM.go (h : CM w m g v0 v W) (hb : Below W.heap.size W W') : CM w m g v0 v W' := ⟨below_step h.below hb, h.bm.below' hb, h.br.below' hb, h.bo.below' hb, h.lo⟩
theorem CM.grown {k : Nat} {xs : List Value} {u : Value} (h : CM w m g v0 v W) (hv : W.ownsRow w.heap.size 45 5 u k xs) (hg : W.grownBy W' u.ownBlock) : CM w m g v0 v W' :=
  ⟨h.below.grown hg h.below.size (fun k hk => (hv.lt k hk).1), h.bm.grown hg (own_whl hv h.bm (by decide)), h.br.grown hg (own_whl hv h.br (by decide)), h.bo.grown hg (own_whl hv h.bo (by decide)), h.lo⟩
theorem CM.put {v2 : Value} (h : CM w m g v0 v W) : CM w m g v0 v2 (W.setCell ⟨g, 1, none⟩ v2) := by
  have := h.lo
  exact ⟨h.below.setCell (by simp; omega) _, h.bm.far (by simp; omega) _, h.br.far (by simp; omega) _, by simpa using h.bo.put 1 v2, h.lo⟩
theorem CM.cells (h : CM w m g v0 v W) : W.cell? ⟨w.heap.size, 1, none⟩ = some (.slice m.fa m.funcs.length m.fc) ∧ W.cell? ⟨g, 0, none⟩ = some v0 ∧ W.cell? ⟨g, 1, none⟩ = some v ∧ W.frozen? ⟨g, 1, none⟩ = false :=
  ⟨h.bm.cell 1, h.bo.cell 0, h.bo.cell 1, h.bo.frozen 1⟩
/-- What has been copied so far. -/
structure CD (w : World) (m : ModD) (v0 v : Value) (fs : List FuncD) (W : World) : Prop where
  own0 : W.ownsRow w.heap.size 2 1 v0 m.ths.length (rowsL m.ths.length 1 fun k _ => .int .i64 (nthI m.ths k))
  own : W.ownsRow w.heap.size 45 5 v fs.length (rowsL fs.length 5 fun k => funcV (nthF fs k))
  each : ∀ k, k < fs.length → OwnF W w.heap.size (nthF fs k) ∧ bare (nthF fs k) = bare (nthF m.funcs k)
theorem CD.go {fs : List FuncD} (h : CD w m v0 v fs W) (hb : Below W.heap.size W W') : CD w m v0 v fs W' := ⟨own_below h.own0 hb, own_below h.own hb, fun k hk => ⟨((h.each k hk).1).below hb, (h.each k hk).2⟩⟩
theorem CD.alloc {fs : List FuncD} (h : CD w m v0 v fs W) (o : Obj) : CD w m v0 v fs (W.alloc o) := h.go ((Below.refl _ _).alloc (Nat.le_refl _) _)
theorem nthF_app1 (fs : List FuncD) (x : FuncD) {k : Nat} (hk : k < fs.length) : nthF (fs ++ [x]) k = nthF fs k := by
  simp only [nthF, List.getD_eq_getElem?_getD, List.getElem?_append_left hk]
theorem nthF_app2 (fs : List FuncD) (x : FuncD) : nthF (fs ++ [x]) fs.length = x := by simp [nthF]
/-- One function more. -/
theorem CD.more {fs : List FuncD} {x : FuncD} {v2 : Value} {g : Nat} {cs : Array Value} (h : CD w m v0 v fs W) (hx : OwnF W w.heap.size x) (hb : bare x = bare (nthF m.funcs fs.length)) (hg : W.grownBy W' v.ownBlock)
    (ho : W'.ownsRow w.heap.size 45 5 v2 (fs.length + 1) (rowsL fs.length 5 (fun k => funcV (nthF fs k)) ++ (List.range 5).map (funcV x))) (hw : Whl W' g 25 cs) (i : Nat) (u : Value) :
    CD w m v0 v2 (fs ++ [x]) (W'.setCell ⟨g, i, none⟩ u) := by
  have e : rowsL (fs ++ [x]).length 5 (fun k => funcV (nthF (fs ++ [x]) k)) = rowsL fs.length 5 (fun k => funcV (nthF fs k)) ++ (List.range 5).map (funcV x) := by
    rw [List.length_append, List.length_singleton, rowsL_succ (by omega), nthF_app2]
    congr 1
    exact rowsL_congr (by omega) (fun k hk => by rw [nthF_app1 fs x hk])
  refine ⟨own_far (h.own0.kept hg (own_apart h.own0 h.own (by decide))) u (fun e => own_whl (h.own0.kept hg (own_apart h.own0 h.own (by decide))) hw (by decide) e.symm), ?_, fun k hk => ?_⟩
  · rw [e, List.length_append, List.length_singleton]
    exact own_far ho u (fun e => own_whl ho hw (by decide) e.symm)
  · rcases Nat.lt_or_ge k fs.length with q | q
    · rw [nthF_app1 fs x q]
      exact ⟨((h.each k q).1.kept hg h.own).far hw i u, (h.each k q).2⟩
    · have hk' : k < fs.length + 1 := by simpa using hk
      obtain rfl : k = fs.length := by omega
      rw [nthF_app2]
      exact ⟨(hx.kept hg h.own).far hw i u, hb⟩
theorem cell_five_new {w : World} (b : Nat) (t : TypeId) (x : FuncD) (hb : w.heap.size = b) : ∀ (j : Nat) (y : Value), ((List.range 5).map (funcV x))[j]? = some y → (w.alloc (.cells #[.string x.name, .slice x.pa x.params.length x.pc, .int .i64 x.regs, .int .i64 x.words, .slice x.ca x.code.length x.cc] t)).cell? ((⟨b, 0, none⟩ : Addr).add j) = some y := by
  subst hb
  intro j y h
  have hj : j < 5 := by
    rcases Nat.lt_or_ge j 5 with h1 | h1
    · exact h1
    · rw [List.getElem?_eq_none (by simpa using h1)] at h; cases h
  rw [Go.WideShapes.add_plain]
  have hW := Whl.new w t #[.string x.name, .slice x.pa x.params.length x.pc, .int .i64 x.regs, .int .i64 x.words, .slice x.ca x.code.length x.cc]
  rw [show (0 : Nat) + j = j by omega, hW.cell j]
  obtain rfl | rfl | rfl | rfl | rfl : j = 0 ∨ j = 1 ∨ j = 2 ∨ j = 3 ∨ j = 4 := by omega
  all_goals (rw [← h]; rfl)
theorem nthF_mem {fs : List FuncD} {k : Nat} (hk : k < fs.length) : nthF fs k ∈ fs := by
  simp [nthF, List.getD, hk]
theorem OwnF.low {W : World} {base base' : Nat} {f : FuncD} (h : OwnF W base f) (hb : base' ≤ base) : OwnF W base' f := ⟨Joins.ownsRow_le h.params hb, Joins.ownsRow_le h.code hb⟩
abbrev FBox (x : FuncD) : Obj := .cells #[.string x.name, .slice x.pa x.params.length x.pc, .int .i64 x.regs, .int .i64 x.words, .slice x.ca x.code.length x.cc] 45
set_option maxRecDepth 100000 in
set_option maxHeartbeats 4000000 in
theorem copyR (m : ModD) (w : World) (wm : m.Wf) (nm : m.Nils) (hm : ModOk w w.heap.size m) :
    Calls Tryd.prog 7 #[m.val] w fun e w' => (∃ c : ModD, e = .returned c.val ∧ SameM m c ∧ OwnM w' w.heap.size c) ∧ Below w.heap.size w w' := by
  obtain ⟨i6, hi6, z60, z61, z62⟩ := info_parts info64
  obtain ⟨iF, hiF, zF0, zF1, zF2⟩ := info_parts infoF
  have HM := Lib.hid hm; clear hm
  have htl := wm.tlen
  have hfl := wm.flen
  have H0 := CM0.start w m
  have hT : RowsAt w w.heap.size m.ta m.ths.length 1 (fun k _ => .int .i64 (nthI m.ths k)) := fun h0 => by
    obtain ⟨b, off, e, hb, hc⟩ := HM.out.ths h0
    exact ⟨b, off, e, hb, fun k hk j hj => by obtain rfl : j = 0 := by omega
                                              simpa using hc k hk⟩
  have h00 : (((w.alloc (.cells #[.slice m.ta m.ths.length m.tc, .slice m.fa m.funcs.length m.fc] 25)).alloc (.cells #[.slice none 0 0, .slice none 0 0] 25)).alloc (.cells #[] 2)).ownsRow w.heap.size 2 1 (.slice (some ⟨w.heap.size + 1 + 1, 0, none⟩) 0 0) 0 [] := own_made0 _ _ _ H0.below.size (by simp)
  have HT := Lib.hid hT; clear hT
  go_enter Tryd.func7, Tryd.ntmps7
  go_wp2_with (
    at_builtin
    refine wpList_append_any rfl _ _ _ rfl w.heap.size 2 i6 (.int .i64 0) 1 8 Tryd.underlying22 hi6 z60 z61 z62 rfl (by decide) _ 0 [] rfl h00 m.ta m.ths.length m.tc (fun k _ => .int .i64 (nthI m.ths k)) rfl ((HT.out.below (below_alloc H0.below _) (Nat.le_refl _)).more (below_alloc H0.below _).size) nm.t (fun k j => rfl) (by unfold maxLen; omega) (by omega) (below_alloc H0.below _).size ?_
    intro v1 w1 own1 hg1
    rw [Nat.zero_add, List.nil_append] at own1
    obtain ⟨A1, c1, rfl, nl1⟩ := own_slice own1
    have H1 := (H0.alloc (.cells #[] 2)).grown hg1 (fun r hr => by cases hr; first | (simp; done) | (simp; omega)))
  have H2 := H1.out (.slice A1 m.ths.length c1) (.slice none 0 0)
  have D2 : CD w m (.slice A1 m.ths.length c1) (.slice none 0 0) [] (w1.alloc (.cells #[.slice A1 m.ths.length c1, .slice none 0 0] 25)) := ⟨own1.alloc _, by simpa [rowsL] using World.ownsRow_nil _ _ _ _, fun k hk => by simp at hk⟩
  go_loopw [4] (fun i wr => ∃ (fs : List FuncD) (v : Value), fs.length ≤ m.funcs.length ∧ i = .int .i64 fs.length ∧ CM w m w1.heap.size (.slice A1 m.ths.length c1) v wr ∧ CD w m (.slice A1 m.ths.length c1) v fs wr) (fun i _ => m.funcs.length - (intOf i).toNat)
  case atStart => exact ⟨[], _, Nat.zero_le _, rfl, H2, D2⟩
  case round =>
    obtain ⟨fs, v, hk, rfl, hM, hD⟩ := hrel
    obtain ⟨A2, c2, rfl, nl2⟩ := own_slice hD.own
    obtain ⟨d1, d2, d3, d4⟩ := hM.cells
    have lg := hM.bo.lt
    by_cases hlt : fs.length < m.funcs.length
    · obtain ⟨fb, fo, hfe, hfb, y0, y1, y2, y3, y4⟩ := funcs_cells (HM.out.funcs.below hM.below (Nat.le_refl _)) hlt
      rw [hfe] at d1
      clear hfe
      have wf := wm.funcs _ (nthF_mem hlt)
      have nf := nm.each _ (nthF_mem hlt)
      have HF := Lib.hid (((HM.out.each _ hlt).below hM.below (Nat.le_refl _)).more hM.below.size)
      have HMr := Lib.hid hM
      have HDr := Lib.hid hD
      clear hM hD
      go_wp2_with (first
        | (go_at_call 15
           refine (copyFuncR (nthF m.funcs fs.length) _ wf nf HF.out).mono ?_
           rintro e w3 ⟨⟨x, rfl, hbx, hox⟩, hb3⟩
           have hM3 := HMr.out.go hb3
           have hD3 := HDr.out.go hb3
           have hox3 := hox.low HMr.out.below.size
           obtain ⟨e1, e2, e3, e4⟩ := hM3.cells
           have lg3 := hM3.bo.lt
           have hO := ((hD3.alloc (FBox x)).alloc (FBox x)).own)
        | (at_builtin
           refine wpList_append_own _ rfl _ _ _ rfl w.heap.size 45 iF (.agg #[.string .empty, .slice none 0 0, .int .i64 0, .int .i64 0, .slice none 0 0]) 5 80 Tryd.underlying23 hiF zF0 zF1 zF2 rfl (by decide) _ fs.length (rowsL fs.length 5 fun k => funcV (nthF fs k)) rfl hO ⟨w3.heap.size + 1, 0, none⟩ 1 1 ((List.range 5).map (funcV x)) rfl (by simp) (cell_five_new _ _ _ (by simp)) (fun u hu => by obtain ⟨i, _, rfl⟩ := List.mem_map.1 hu; exact funcV_one _ _) (by unfold maxLen; omega) (by omega) (below_alloc (below_alloc hM3.below _) _).size ?_
           intro v2 w4 own4 hg4 hnil
           obtain ⟨A3, c3, rfl, nl3⟩ := own_slice own4
           have hM4 := ((hM3.alloc (FBox x)).alloc (FBox x)).grown hO hg4
           obtain ⟨g1, g2, g3, g4⟩ := hM4.cells
           have lg4 := hM4.bo.lt))
      refine ⟨⟨fs ++ [x], _, by simp; omega, by simp, hM4.put, ?_⟩, by simp only [intOf]; omega⟩
      exact CD.more ((hD3.alloc (FBox x)).alloc (FBox x)) ((hox3.alloc _).alloc _) hbx hg4 own4 hM4.bo 1 _
    · have hfl2 : fs.length = m.funcs.length := by omega
      have HL := Lib.hid hfl2
      clear hfl2
      have r1 : wr.cell? ⟨w.heap.size + 1, 0, none⟩ = some (.slice none 0 0) := hM.br.cell 0
      have r2 : wr.cell? ⟨w.heap.size + 1, 1, none⟩ = some (.slice none 0 0) := hM.br.cell 1
      have s1 := hM.br.frozen 0
      have s2 := hM.br.frozen 1
      have lr := hM.br.lt
      have u0 : decide ((fs.length : Int) < (m.funcs.length : Int)) = false := by simp; omega
      go_wp2
      refine ret_of ?_ rfl
      refine ⟨(⟨A1, c1, m.ths, A2, c2, fs⟩ : ModD).val, ?_, ⟨⟨A1, c1, m.ths, A2, c2, fs⟩, rfl, ⟨rfl, HL.out, fun k => ?_⟩, ⟨?_, ?_, fun k hk => ?_⟩⟩, ?_⟩
      · simp [results, Tryd.results7, go_sem, r1, r2, s1, s2]
      · rcases Nat.lt_or_ge k fs.length with q | q
        · exact (hD.each k q).2
        · have h1 := HL.out
          have q2 : m.funcs.length ≤ k := by omega
          show bare (nthF fs k) = bare (nthF m.funcs k)
          simp only [nthF, List.getD_eq_getElem?_getD, List.getElem?_eq_none q, List.getElem?_eq_none q2]
      · exact own_far (own_far hD.own0 _ (fun q => own_whl hD.own0 hM.br (by decide) q.symm)) _ (fun q => own_whl hD.own0 hM.br (by decide) q.symm)
      · exact own_far (own_far hD.own _ (fun q => own_whl hD.own hM.br (by decide) q.symm)) _ (fun q => own_whl hD.own hM.br (by decide) q.symm)
      · exact ((hD.each k hk).1.far hM.br 0 _).far (hM.br.put 0 _) 1 _
      · exact (hM.below.setCell (by simp) _).setCell (by simp) _
end Go.Proofs.YtjacfeohpofhpaaDoor
