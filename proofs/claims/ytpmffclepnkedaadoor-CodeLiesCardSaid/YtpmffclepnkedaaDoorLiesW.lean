/-
  Layer 9 (code): the walk of CodeLies, where the module may be.
-/
import Derived.Test.YtpmffclepnkedaaDoorLiesA
namespace Go.Proofs.YtpmffclepnkedaaDoor
open Go.RowKit Go.Shelf
set_option linter.unusedSimpArgs false
set_option linter.unusedVariables false
attribute [local go_sem] Oper.semAt_some
set_option maxRecDepth 100000 in
set_option maxHeartbeats 60000000 in
theorem liesYes (m : ModD) (w : World) (ht : TabOk w) (wm : m.Wf) (hm : ModOk w w.heap.size m) (h : mayD m = ⟨0, 0, 0⟩) : Calls Tryd.prog 8 #[m.val] w fun e w' => e = .returned (.bool true) ∧ Below w.heap.size w w' := by
  have HM := Lib.hid hm; clear hm
  have hfl := wm.flen
  have H0 := LM.start w m
  refine (callsIn_wide (n := 9)).1 ?_
  refine callsIn_of_wp_marks Tryd.func8 rfl trivial ?_ rfl
  simp only [Tryd.ntmps8, List.size_toArray, List.length_cons, List.length_nil, Nat.reduceAdd, Nat.reduceSub, Array.replicate_succ, Array.replicate_zero, List.push_toArray, List.append_toArray, List.nil_append, List.cons_append]
  have hmay : ∀ W : World, LM w m W → Calls Tryd.prog 20 #[.agg #[.slice m.ta m.ths.length m.tc, .slice m.fa m.funcs.length m.fc]] W fun e w' => e = .returned (.agg #[.int .i64 0, .int .i64 0, .int .i64 0]) ∧ Below W.heap.size W w' := fun W hW => by
    have := mayP m W wm (hW.ok HM.out) (hW.tab ht)
    rw [h] at this
    exact this
  gi_wp2_with (first
    | (refine ⟨trivial, ?_⟩; gi_at_call 9; refine (callsIn_wide.2 (fixedL _ (H0.tab ht))).mono ?_; rintro e w1 ⟨rfl, hb1⟩; have H1 := H0.go hb1; obtain ⟨d1, d2, d3, d4⟩ := H1.cells; have l1 := H1.bm.lt; have l2 := H1.br.lt)
    | (refine ⟨trivial, ?_⟩; gi_at_call 20; refine (callsIn_wide.2 (hmay _ H1)).mono ?_; rintro e w2 ⟨rfl, hb2⟩; have H2 := H1.go hb2; obtain ⟨e1, e2, e3, e4⟩ := H2.cells; have l3 := H2.bm.lt; have l4 := H2.br.lt))
  refine wpIn_loop (OutInv w m) (OutMu m) ?_ ?_
  · exact ⟨0, Nat.zero_le _, H2, trivial, rfl, rfl, rfl, rfl, rfl⟩
  · clear d1 d2 d3 d4 e1 e2 e3 e4 l1 l2 l3 l4 H1 H2 hb1 hb2
    rintro a W ⟨i, hi, hL, hmk, hsz, g0, g1, g2, g3⟩
    obtain ⟨t, ha, hta⟩ := tmps_out a hsz
    show Code.wpIn _ _ _ _ (Exit.then (fun a' w' => OutInv w m a' w' ∧ OutMu m a' w' < OutMu m a W) _) _ _
    rw [show OutMu m a W = m.funcs.length - (intOf (.int .i64 i)).toNat by unfold OutMu; rw [g3]]
    rw [hta] at g0 g1 g2 g3
    rw [g0, g1, g2, g3] at ha
    obtain ⟨ds, hds⟩ : ∃ ds, a.defers = ds := ⟨_, rfl⟩
    rw [hds] at ha hmk
    rw [ha]
    clear ha hsz hds hta g0 g1 g2 g3
    obtain ⟨d1, d2, d3, d4⟩ := hL.cells
    have l1 := hL.bm.lt
    have l2 := hL.br.lt
    by_cases hlt : i < m.funcs.length
    · have hF := f_ok h hlt
      obtain ⟨fb, fo, hfe, hfb, y0, y1, y2, y3, y4⟩ := funcs_cells (HM.out.funcs.below hL.below (Nat.le_refl _)) hlt
      have FK := Lib.hid (((HM.out.each i hlt).below hL.below (Nat.le_refl _)).more hL.below.size)
      have wf := wm.funcs _ (nthF_mem' hlt)
      have hfind : ∀ W : World, LM w m W → Calls Tryd.prog 23 #[.agg #[.slice m.ta m.ths.length m.tc, .slice m.fa m.funcs.length m.fc], .string (nthF m.funcs i).name] W fun e w' => e = .returned (.int .i64 i) ∧ Below W.heap.size W w' := fun W hW => by
        have := findP m (nthF m.funcs i).name W (by omega) (hW.ok HM.out)
        rw [hF.find] at this
        exact this
      rw [hfe] at d2 hfind
      have HFE := Lib.hid hfe
      clear hfe
      have hLA := Lib.hid hL
      clear hL
      have u0 : decide (((nthF m.funcs i).regs : Int) < ((nthF m.funcs i).params.length : Int)) = false := by have := hF.regs; simp; omega
      have FW0 := Whl.new W 46 #[.string (nthF m.funcs i).name, .slice (nthF m.funcs i).pa (nthF m.funcs i).params.length (nthF m.funcs i).pc, .int .i64 (nthF m.funcs i).regs, .int .i64 (nthF m.funcs i).words, .slice (nthF m.funcs i).ca (nthF m.funcs i).code.length (nthF m.funcs i).cc]
      gi_wp2_with (refine ⟨trivial, ?_⟩; gi_at_call 23; refine (callsIn_wide.2 (hfind _ (hLA.out.alloc _))).mono ?_; rintro e w3 ⟨rfl, hb3⟩; have H3 := (hLA.out.alloc (.cells #[.string (nthF m.funcs i).name, .slice (nthF m.funcs i).pa (nthF m.funcs i).params.length (nthF m.funcs i).pc, .int .i64 (nthF m.funcs i).regs, .int .i64 (nthF m.funcs i).words, .slice (nthF m.funcs i).ca (nthF m.funcs i).code.length (nthF m.funcs i).cc] 46)).go hb3; have F3 := FW0.below' hb3; obtain ⟨a1, a2, a3, a4⟩ := H3.cells; obtain ⟨b0, b1, b2, b3, b4⟩ := fcells F3; have l3 := H3.bm.lt; have l4 := H3.br.lt; have l5 := F3.lt)
      have M3 := (hmk.go ((Below.refl _ _).alloc (Nat.le_refl _) _)).go hb3
      have hgf : w.heap.size + 2 ≤ W.heap.size := by omega
      refine wpIn_loop (InnInv w m i W.heap.size) (InnMu m i) ?_ ?_
      · exact ⟨0, Nat.zero_le _, H3, F3, M3, rfl, rfl, rfl, rfl, rfl, rfl, rfl⟩
      · clear a1 a2 a3 a4 b0 b1 b2 b3 b4 l3 l4 l5 H3 F3 M3 hb3 FW0 d1 d2 d3 d4 l1 l2 hmk y0 y1 y2 y3 y4 u0
        obtain ⟨gf, hgfe⟩ : ∃ gf, W.heap.size = gf := ⟨_, rfl⟩
        rw [hgfe] at hgf ⊢
        clear hgfe
        rintro a W1 ⟨k, hk, hL1, hF1, hmk, hsz, g0, g1, g2, g3, g4, g5⟩
        obtain ⟨s, ha, hta⟩ := tmps_out a hsz
        show Code.wpIn _ _ _ _ (Exit.then (fun a' w' => InnInv w m i gf a' w' ∧ InnMu m i a' w' < InnMu m i a W1) _) _ _
        rw [show InnMu m i a W1 = (nthF m.funcs i).code.length - (intOf (.int .i64 k)).toNat by unfold InnMu; rw [g5]]
        rw [hta] at g0 g1 g2 g3 g4 g5
        rw [g0, g1, g2, g3, g4, g5] at ha
        obtain ⟨ds, hds⟩ : ∃ ds, a.defers = ds := ⟨_, rfl⟩
        rw [hds] at ha hmk
        rw [ha]
        clear ha hsz hds hta g0 g1 g2 g3 g4 g5
        obtain ⟨d1, d2, d3, d4⟩ := hL1.cells
        obtain ⟨b0, b1, b2, b3, b4⟩ := fcells hF1
        have l1 := hL1.bm.lt
        have l2 := hL1.br.lt
        have l3 := hF1.lt
        have hcl := wf.clen
        by_cases hlt2 : k < (nthF m.funcs i).code.length
        · have lok := l_ok h hlt hlt2
          have hreg := hF.regs
          obtain ⟨cb, co, hca, hcb, hcc⟩ := ((HM.out.each i hlt).code.below hL1.below (Nat.le_refl _)) (by omega)
          have i0 : W1.cell? ⟨cb, co + k * 5, none⟩ = some (.int .i64 (nthX (nthF m.funcs i).code k).op) := hcc k hlt2 0 (by omega)
          have i1 : W1.cell? ⟨cb, co + k * 5 + 1, none⟩ = some (.int .i64 (nthX (nthF m.funcs i).code k).a) := hcc k hlt2 1 (by omega)
          have i2 : W1.cell? ⟨cb, co + k * 5 + 2, none⟩ = some (.int .i64 (nthX (nthF m.funcs i).code k).b) := hcc k hlt2 2 (by omega)
          have i3 : W1.cell? ⟨cb, co + k * 5 + 3, none⟩ = some (.int .i64 (nthX (nthF m.funcs i).code k).c) := hcc k hlt2 3 (by omega)
          have i4 : W1.cell? ⟨cb, co + k * 5 + 4, none⟩ = some (.int .i64 (nthX (nthF m.funcs i).code k).n) := hcc k hlt2 4 (by omega)
          rw [hca] at b4
          clear hcc
          have wx := nthX_wfL' wf.code hlt2
          obtain ⟨x, hx⟩ : ∃ x, nthX (nthF m.funcs i).code k = x := ⟨_, rfl⟩
          rw [hx] at i0 i1 i2 i3 i4 lok wx
          clear hx
          rw [HFE.out] at d2
          obtain ⟨w0, w1', w2', w3', w4'⟩ := wx
          have X0 := Whl.new W1 27 #[.int .i64 x.op, .int .i64 x.a, .int .i64 x.b, .int .i64 x.c, .int .i64 x.n]
          by_cases h19 : x.op = 19
          · obtain ⟨n0, n1⟩ := lok.call h19
            obtain ⟨fb2, fo2, hfe2, hfb2, y0, y1, y2, y3, y4⟩ := funcs_cells (k := x.n.toNat) (HM.out.funcs.below hL1.below (Nat.le_refl _)) (by omega)
            rw [HFE.out] at hfe2
            cases hfe2
            have lfb : fb < W1.heap.size := by omega
            have p19 : (x.op == 19) = true := by simpa using h19
            have HX := Lib.hid h19
            clear h19
            gi_wp2_with (refine ⟨trivial, ?_⟩; gi_at_call 26; refine (callsIn_wide.2 (readsP x _ _)).mono ?_; rintro e w2 ⟨rfl, rfl⟩)
            have ex : ∀ r, r ∈ readsD x ((nthF m.funcs x.n.toNat).params.length : Int) → 0 ≤ r ∧ r < (nthF m.funcs i).regs := by
              have := lok.reads
              unfold calledN at this
              rwa [if_pos HX.out] at this
            have WD : Below W1.heap.size W1 (((W1.alloc (.cells #[.int .i64 x.op, .int .i64 x.a, .int .i64 x.b, .int .i64 x.c, .int .i64 x.n] 27)).alloc (.cells #[.int .i64 x.op, .int .i64 x.a, .int .i64 x.b, .int .i64 x.c, .int .i64 x.n] 27)).alloc (.cells #[.int .i64 ((nthF m.funcs x.n.toNat).params.length : Int)] 3)) := below_alloc (below_alloc (below_alloc (Below.refl _ _) _) _) _
            have X2 := (X0.alloc (.cells #[.int .i64 x.op, .int .i64 x.a, .int .i64 x.b, .int .i64 x.c, .int .i64 x.n] 27)).alloc (.cells #[.int .i64 ((nthF m.funcs x.n.toNat).params.length : Int)] 3)
            have k2 : Whl (((W1.alloc (.cells #[.int .i64 x.op, .int .i64 x.a, .int .i64 x.b, .int .i64 x.c, .int .i64 x.n] 27)).alloc (.cells #[.int .i64 x.op, .int .i64 x.a, .int .i64 x.b, .int .i64 x.c, .int .i64 x.n] 27)).alloc (.cells #[.int .i64 ((nthF m.funcs x.n.toNat).params.length : Int)] 3)) (W1.heap.size + 1) 27 #[.int .i64 x.op, .int .i64 x.a, .int .i64 x.b, .int .i64 x.c, .int .i64 x.n] := by
              have := Whl.new (W1.alloc (.cells #[.int .i64 x.op, .int .i64 x.a, .int .i64 x.b, .int .i64 x.c, .int .i64 x.n] 27)) 27 #[.int .i64 x.op, .int .i64 x.a, .int .i64 x.b, .int .i64 x.c, .int .i64 x.n]
              rw [World.size_alloc] at this; exact this.alloc _
            have k3 : Whl (((W1.alloc (.cells #[.int .i64 x.op, .int .i64 x.a, .int .i64 x.b, .int .i64 x.c, .int .i64 x.n] 27)).alloc (.cells #[.int .i64 x.op, .int .i64 x.a, .int .i64 x.b, .int .i64 x.c, .int .i64 x.n] 27)).alloc (.cells #[.int .i64 ((nthF m.funcs x.n.toNat).params.length : Int)] 3)) (W1.heap.size + 1 + 1) 3 #[.int .i64 ((nthF m.funcs x.n.toNat).params.length : Int)] := by
              have := Whl.new ((W1.alloc (.cells #[.int .i64 x.op, .int .i64 x.a, .int .i64 x.b, .int .i64 x.c, .int .i64 x.n] 27)).alloc (.cells #[.int .i64 x.op, .int .i64 x.a, .int .i64 x.b, .int .i64 x.c, .int .i64 x.n] 27)) 3 #[.int .i64 ((nthF m.funcs x.n.toNat).params.length : Int)]
              rw [World.size_alloc, World.size_alloc] at this; exact this
            have hsz2 : (((W1.alloc (.cells #[.int .i64 x.op, .int .i64 x.a, .int .i64 x.b, .int .i64 x.c, .int .i64 x.n] 27)).alloc (.cells #[.int .i64 x.op, .int .i64 x.a, .int .i64 x.b, .int .i64 x.c, .int .i64 x.n] 27)).alloc (.cells #[.int .i64 ((nthF m.funcs x.n.toNat).params.length : Int)] 3)).heap.size = W1.heap.size + 1 + 1 + 1 := by simp
            change Code.wpIn _ _ _ _ _ _ (((W1.alloc (.cells #[.int .i64 x.op, .int .i64 x.a, .int .i64 x.b, .int .i64 x.c, .int .i64 x.n] 27)).alloc (.cells #[.int .i64 x.op, .int .i64 x.a, .int .i64 x.b, .int .i64 x.c, .int .i64 x.n] 27)).alloc (.cells #[.int .i64 ((nthF m.funcs x.n.toNat).params.length : Int)] 3))
            generalize (((W1.alloc (.cells #[.int .i64 x.op, .int .i64 x.a, .int .i64 x.b, .int .i64 x.c, .int .i64 x.n] 27)).alloc (.cells #[.int .i64 x.op, .int .i64 x.a, .int .i64 x.b, .int .i64 x.c, .int .i64 x.n] 27)).alloc (.cells #[.int .i64 ((nthF m.funcs x.n.toNat).params.length : Int)] 3)) = W2 at WD X2 k2 k3 hsz2 ⊢
            have hL2 := hL1.go WD
            have hF2 := hF1.below' WD
            have M2 := hmk.go WD
            refine wpIn_rangeFunc_ownF (F := Fence.wide) rfl (by omega) (gf := 43) (lb := #[.pointer (some ⟨W1.heap.size + 1, 0, none⟩), .pointer (some ⟨W1.heap.size + 1 + 1, 0, none⟩)]) rfl trivial (enters_of Tryd.func43 (by kernel_rfl) rfl)
              (reads_stops 8 (by omega) (W1.heap.size + 1) (W1.heap.size + 1 + 1) W2.heap.size W2.heap.size x ((nthF m.funcs x.n.toNat).params.length : Int) W2 k2 k3 (.inl (by omega)) (Nat.le_refl _) (Nat.le_refl _) (hL2.tab ht)) keepI_t (keepI_b (Nat.le_refl _)) (Below.refl _ _) (fun _ => rfl)
              (fun pre W => (∀ r ∈ pre, 0 ≤ r ∧ r < (nthF m.funcs i).regs) ∧ Below W2.heap.size W2 W)
              (fun c pre W => c = .ret ∧ ∃ r ∈ pre, ¬ (0 ≤ r ∧ r < (nthF m.funcs i).regs))
              (fun s A B row hs hg hr => ⟨hs.1, hs.2.grown hg hs.2.size (fun k hk => (hr k hk).1)⟩)
              (fun c s A B row hs hg hr => hs) ⟨by simp, Below.refl _ _⟩ ?fr1 ?assign ?body ?done ?stop
            case assign =>
              intro l y W K hK
              gi_wp2
              exact hK
            case body =>
              rintro l pre y W ⟨hpre, hB⟩ hlen
              have hL3 := hL2.go hB
              have hF3 := hF2.below' hB
              obtain ⟨a1, a2, a3, a4⟩ := hL3.cells
              obtain ⟨c0, c1, c2, c3, c4⟩ := fcells hF3
              by_cases hy : 0 ≤ y ∧ y < (nthF m.funcs i).regs
              · gi_wp2_with (refine ⟨trivial, ?_⟩; gi_at_call 27; refine (CallsIn.inRound l (callsIn_wide.2 (withinT y _ _ hy))).mono ?_; rintro e w5 ⟨rfl, rfl⟩)
                exact ⟨KeepsOthers.refl _, ⟨Below.refl _ _, fun k o _ h _ => h⟩, fun r hr => by
                  rcases List.mem_append.1 hr with h | h
                  · exact hpre r h
                  · rw [List.mem_singleton.1 h]; exact hy, hB⟩
              · gi_wp2_with (refine ⟨trivial, ?_⟩; gi_at_call 27; refine (CallsIn.inRound l (callsIn_wide.2 (withinF y _ _ hy))).mono ?_; rintro e w5 ⟨rfl, rfl⟩)
                exact ⟨KeepsOthers.setCell _ _ _, rfl, y, by simp, hy⟩
            case done =>
              rintro D ys W hD rfl ⟨_, hB⟩ hK
              have hL3 := hL2.go hB
              have hF3 := hF2.below' hB
              have X3 := X2.below' hB
              have M3 := M2.more hB hD (by omega) hK
              obtain ⟨a1, a2, a3, a4⟩ := hL3.cells
              obtain ⟨c0, c1, c2, c3, c4⟩ := fcells hF3
              rw [hca] at c4
              obtain ⟨e0, e1, e2, e3, e4⟩ := fcells X3
              have q1 := hL3.bm.lt
              have q2 := hF3.lt
              have q3 := X3.lt
              clear d1 d2 d3 d4 b0 b1 b2 b3 b4 k2 k3 l1 l2 l3 X0 X2 hB hL2 hF2 M2 WD hsz2 hK hD lfb
              obtain ⟨v, hv⟩ : ∃ v, writes x.op x.a = v := ⟨_, rfl⟩
              have hWr : ∀ W : World, LM w m W → Calls Tryd.prog 16 #[.agg #[.int .i64 x.op, .int .i64 x.a, .int .i64 x.b, .int .i64 x.c, .int .i64 x.n]] W fun e w' => e = .returned (.int .i64 v) ∧ Below W.heap.size W w' := fun W hW => by
                have := writesP x.op x.a x.b x.c x.n W (hW.tab ht)
                rw [hv] at this
                exact this
              have hKn : ∀ W : World, Calls Tryd.prog 10 #[.int .i64 x.op] W fun e w' => e = .returned (.bool true) ∧ W = w' := fun W => by
                have := knownP x.op W
                rw [lok.known] at this
                exact this
              have hwr := lok.writes
              rw [hv] at hwr
              have hjm := Lib.hid lok.jumps
              have hen := Lib.hid lok.ends
              clear lok hv
              have hlast : k + 1 ≠ (nthF m.funcs i).code.length := fun q => by
                have h1 := hen.out q
                have h2 := HX.out
                omega
              have hj : 18 < x.op := by have := HX.out; omega
              have j1 : decide (14 ≤ x.op) = true := by simp; omega
              have j2 : decide (x.op ≤ 18) = false := by simp; omega
              rcases hwr with rfl | hwr
              · skip
                have u3 : ((k : Int) + 1 == ((nthF m.funcs i).code.length : Int)) = false := by simp; omega
                gi_wp2_with (first
                  | (refine ⟨trivial, ?_⟩; gi_at_call 16; refine (callsIn_wide.2 (hWr _ hL3)).mono ?_; rintro e w5 ⟨rfl, hb5⟩; have hL5 := hL3.go hb5; have hF5 := hF3.below' hb5; have X5 := X3.below' hb5; have M5 := M3.go hb5; obtain ⟨a1', a2', a3', a4'⟩ := hL5.cells; obtain ⟨c0', c1', c2', c3', c4'⟩ := fcells hF5; rw [hca] at c4'; obtain ⟨e0', e1', e2', e3', e4'⟩ := fcells X5; have q1' := hL5.bm.lt; have q2' := hF5.lt; have q3' := X5.lt)
                  | (refine ⟨trivial, ?_⟩; gi_at_call 10; refine (callsIn_wide.2 (hKn _)).mono ?_; rintro e w6 ⟨rfl, rfl⟩)
                  | (refine ⟨trivial, ?_⟩; gi_at_call 27; refine (callsIn_wide.2 (withinT v _ _ hwr)).mono ?_; rintro e w7 ⟨rfl, rfl⟩)
                            | (refine ⟨(trivial : Fence.wide.fn 27), ?_⟩)
                            | (refine wpListIn_skip (o := { dst := some 121, op := .call { callee := .builtin .len, args := #[.tmp 120], argTypes := #[44] }, type := 3, pos := _, after := _, guard := some (5, false) }) rfl rfl ?_; simp only [Act.put, List.setIfInBounds_toArray, List.set_cons_succ, List.set_cons_zero]))
                refine ⟨⟨k + 1, by omega, hL5, hF5, M5, rfl, rfl, rfl, rfl, rfl, rfl, rfl⟩, ?_⟩
                show (nthF m.funcs i).code.length - (intOf (.int .i64 ((k : Int) + 1))).toNat < _
                simp only [intOf]; omega
              · have hw1 : (v != -1) = true := by have := hwr.1; simp; omega
                have hw2 : (v == -1) = false := by have := hwr.1; simp; omega
                have u3 : ((k : Int) + 1 == ((nthF m.funcs i).code.length : Int)) = false := by simp; omega
                gi_wp2_with (first
                  | (refine ⟨trivial, ?_⟩; gi_at_call 16; refine (callsIn_wide.2 (hWr _ hL3)).mono ?_; rintro e w5 ⟨rfl, hb5⟩; have hL5 := hL3.go hb5; have hF5 := hF3.below' hb5; have X5 := X3.below' hb5; have M5 := M3.go hb5; obtain ⟨a1', a2', a3', a4'⟩ := hL5.cells; obtain ⟨c0', c1', c2', c3', c4'⟩ := fcells hF5; rw [hca] at c4'; obtain ⟨e0', e1', e2', e3', e4'⟩ := fcells X5; have q1' := hL5.bm.lt; have q2' := hF5.lt; have q3' := X5.lt)
                  | (refine ⟨trivial, ?_⟩; gi_at_call 10; refine (callsIn_wide.2 (hKn _)).mono ?_; rintro e w6 ⟨rfl, rfl⟩)
                  | (refine ⟨trivial, ?_⟩; gi_at_call 27; refine (callsIn_wide.2 (withinT v _ _ hwr)).mono ?_; rintro e w7 ⟨rfl, rfl⟩)
                            | (refine ⟨(trivial : Fence.wide.fn 27), ?_⟩)
                            | (refine wpListIn_skip (o := { dst := some 121, op := .call { callee := .builtin .len, args := #[.tmp 120], argTypes := #[44] }, type := 3, pos := _, after := _, guard := some (5, false) }) rfl rfl ?_; simp only [Act.put, List.setIfInBounds_toArray, List.set_cons_succ, List.set_cons_zero]))
                refine ⟨⟨k + 1, by omega, hL5, hF5, M5, rfl, rfl, rfl, rfl, rfl, rfl, rfl⟩, ?_⟩
                show (nthF m.funcs i).code.length - (intOf (.int .i64 ((k : Int) + 1))).toNat < _
                simp only [intOf]; omega
            case stop =>
              rintro D c pre W hD hpre ⟨_, r, hr, hno⟩ hK
              exact absurd (ex r (hpre.subset hr)) hno
          · have p19 : (x.op == 19) = false := by simpa using h19
            gi_wp2_with (refine ⟨trivial, ?_⟩; gi_at_call 26; refine (callsIn_wide.2 (readsP x _ _)).mono ?_; rintro e w2 ⟨rfl, rfl⟩)
            have ex : ∀ r, r ∈ readsD x (0 : Int) → 0 ≤ r ∧ r < (nthF m.funcs i).regs := by
              have := lok.reads
              unfold calledN at this
              rwa [if_neg h19] at this
            have WD : Below W1.heap.size W1 (((W1.alloc (.cells #[.int .i64 x.op, .int .i64 x.a, .int .i64 x.b, .int .i64 x.c, .int .i64 x.n] 27)).alloc (.cells #[.int .i64 x.op, .int .i64 x.a, .int .i64 x.b, .int .i64 x.c, .int .i64 x.n] 27)).alloc (.cells #[.int .i64 (0 : Int)] 3)) := below_alloc (below_alloc (below_alloc (Below.refl _ _) _) _) _
            have X2 := (X0.alloc (.cells #[.int .i64 x.op, .int .i64 x.a, .int .i64 x.b, .int .i64 x.c, .int .i64 x.n] 27)).alloc (.cells #[.int .i64 (0 : Int)] 3)
            have k2 : Whl (((W1.alloc (.cells #[.int .i64 x.op, .int .i64 x.a, .int .i64 x.b, .int .i64 x.c, .int .i64 x.n] 27)).alloc (.cells #[.int .i64 x.op, .int .i64 x.a, .int .i64 x.b, .int .i64 x.c, .int .i64 x.n] 27)).alloc (.cells #[.int .i64 (0 : Int)] 3)) (W1.heap.size + 1) 27 #[.int .i64 x.op, .int .i64 x.a, .int .i64 x.b, .int .i64 x.c, .int .i64 x.n] := by
              have := Whl.new (W1.alloc (.cells #[.int .i64 x.op, .int .i64 x.a, .int .i64 x.b, .int .i64 x.c, .int .i64 x.n] 27)) 27 #[.int .i64 x.op, .int .i64 x.a, .int .i64 x.b, .int .i64 x.c, .int .i64 x.n]
              rw [World.size_alloc] at this; exact this.alloc _
            have k3 : Whl (((W1.alloc (.cells #[.int .i64 x.op, .int .i64 x.a, .int .i64 x.b, .int .i64 x.c, .int .i64 x.n] 27)).alloc (.cells #[.int .i64 x.op, .int .i64 x.a, .int .i64 x.b, .int .i64 x.c, .int .i64 x.n] 27)).alloc (.cells #[.int .i64 (0 : Int)] 3)) (W1.heap.size + 1 + 1) 3 #[.int .i64 (0 : Int)] := by
              have := Whl.new ((W1.alloc (.cells #[.int .i64 x.op, .int .i64 x.a, .int .i64 x.b, .int .i64 x.c, .int .i64 x.n] 27)).alloc (.cells #[.int .i64 x.op, .int .i64 x.a, .int .i64 x.b, .int .i64 x.c, .int .i64 x.n] 27)) 3 #[.int .i64 (0 : Int)]
              rw [World.size_alloc, World.size_alloc] at this; exact this
            have hsz2 : (((W1.alloc (.cells #[.int .i64 x.op, .int .i64 x.a, .int .i64 x.b, .int .i64 x.c, .int .i64 x.n] 27)).alloc (.cells #[.int .i64 x.op, .int .i64 x.a, .int .i64 x.b, .int .i64 x.c, .int .i64 x.n] 27)).alloc (.cells #[.int .i64 (0 : Int)] 3)).heap.size = W1.heap.size + 1 + 1 + 1 := by simp
            change Code.wpIn _ _ _ _ _ _ (((W1.alloc (.cells #[.int .i64 x.op, .int .i64 x.a, .int .i64 x.b, .int .i64 x.c, .int .i64 x.n] 27)).alloc (.cells #[.int .i64 x.op, .int .i64 x.a, .int .i64 x.b, .int .i64 x.c, .int .i64 x.n] 27)).alloc (.cells #[.int .i64 (0 : Int)] 3))
            generalize (((W1.alloc (.cells #[.int .i64 x.op, .int .i64 x.a, .int .i64 x.b, .int .i64 x.c, .int .i64 x.n] 27)).alloc (.cells #[.int .i64 x.op, .int .i64 x.a, .int .i64 x.b, .int .i64 x.c, .int .i64 x.n] 27)).alloc (.cells #[.int .i64 (0 : Int)] 3)) = W2 at WD X2 k2 k3 hsz2 ⊢
            have hL2 := hL1.go WD
            have hF2 := hF1.below' WD
            have M2 := hmk.go WD
            refine wpIn_rangeFunc_ownF (F := Fence.wide) rfl (by omega) (gf := 43) (lb := #[.pointer (some ⟨W1.heap.size + 1, 0, none⟩), .pointer (some ⟨W1.heap.size + 1 + 1, 0, none⟩)]) rfl trivial (enters_of Tryd.func43 (by kernel_rfl) rfl)
              (reads_stops 8 (by omega) (W1.heap.size + 1) (W1.heap.size + 1 + 1) W2.heap.size W2.heap.size x (0 : Int) W2 k2 k3 (.inl (by omega)) (Nat.le_refl _) (Nat.le_refl _) (hL2.tab ht)) keepI_t (keepI_b (Nat.le_refl _)) (Below.refl _ _) (fun _ => rfl)
              (fun pre W => (∀ r ∈ pre, 0 ≤ r ∧ r < (nthF m.funcs i).regs) ∧ Below W2.heap.size W2 W)
              (fun c pre W => c = .ret ∧ ∃ r ∈ pre, ¬ (0 ≤ r ∧ r < (nthF m.funcs i).regs))
              (fun s A B row hs hg hr => ⟨hs.1, hs.2.grown hg hs.2.size (fun k hk => (hr k hk).1)⟩)
              (fun c s A B row hs hg hr => hs) ⟨by simp, Below.refl _ _⟩ ?fr2 ?assign ?body ?done ?stop
            case assign =>
              intro l y W K hK
              gi_wp2
              exact hK
            case body =>
              rintro l pre y W ⟨hpre, hB⟩ hlen
              have hL3 := hL2.go hB
              have hF3 := hF2.below' hB
              obtain ⟨a1, a2, a3, a4⟩ := hL3.cells
              obtain ⟨c0, c1, c2, c3, c4⟩ := fcells hF3
              by_cases hy : 0 ≤ y ∧ y < (nthF m.funcs i).regs
              · gi_wp2_with (refine ⟨trivial, ?_⟩; gi_at_call 27; refine (CallsIn.inRound l (callsIn_wide.2 (withinT y _ _ hy))).mono ?_; rintro e w5 ⟨rfl, rfl⟩)
                exact ⟨KeepsOthers.refl _, ⟨Below.refl _ _, fun k o _ h _ => h⟩, fun r hr => by
                  rcases List.mem_append.1 hr with h | h
                  · exact hpre r h
                  · rw [List.mem_singleton.1 h]; exact hy, hB⟩
              · gi_wp2_with (refine ⟨trivial, ?_⟩; gi_at_call 27; refine (CallsIn.inRound l (callsIn_wide.2 (withinF y _ _ hy))).mono ?_; rintro e w5 ⟨rfl, rfl⟩)
                exact ⟨KeepsOthers.setCell _ _ _, rfl, y, by simp, hy⟩
            case done =>
              rintro D ys W hD rfl ⟨_, hB⟩ hK
              have hL3 := hL2.go hB
              have hF3 := hF2.below' hB
              have X3 := X2.below' hB
              have M3 := M2.more hB hD (by omega) hK
              obtain ⟨a1, a2, a3, a4⟩ := hL3.cells
              obtain ⟨c0, c1, c2, c3, c4⟩ := fcells hF3
              rw [hca] at c4
              obtain ⟨e0, e1, e2, e3, e4⟩ := fcells X3
              have q1 := hL3.bm.lt
              have q2 := hF3.lt
              have q3 := X3.lt
              clear d1 d2 d3 d4 b0 b1 b2 b3 b4 k2 k3 l1 l2 l3 X0 X2 hB hL2 hF2 M2 WD hsz2 hK hD
              obtain ⟨v, hv⟩ : ∃ v, writes x.op x.a = v := ⟨_, rfl⟩
              have hWr : ∀ W : World, LM w m W → Calls Tryd.prog 16 #[.agg #[.int .i64 x.op, .int .i64 x.a, .int .i64 x.b, .int .i64 x.c, .int .i64 x.n]] W fun e w' => e = .returned (.int .i64 v) ∧ Below W.heap.size W w' := fun W hW => by
                have := writesP x.op x.a x.b x.c x.n W (hW.tab ht)
                rw [hv] at this
                exact this
              have hKn : ∀ W : World, Calls Tryd.prog 10 #[.int .i64 x.op] W fun e w' => e = .returned (.bool true) ∧ W = w' := fun W => by
                have := knownP x.op W
                rw [lok.known] at this
                exact this
              have HKN := Lib.hid lok.known
              have hwr := lok.writes
              rw [hv] at hwr
              have hjm := Lib.hid lok.jumps
              have hen := Lib.hid lok.ends
              clear lok hv
              have kn20 : x.op < 20 := by
                have : known x.op = true := HKN.out
                simp [known] at this; exact this.2
              have HP19 : x.op ≠ 19 := h19
              rcases hwr with rfl | hwr
              · skip
                rcases (by omega : x.op < 14 ∨ (14 ≤ x.op ∧ x.op ≤ 18) ∨ 18 < x.op) with hj | hj | hj
                · have j1 : decide (14 ≤ x.op) = false := by simp; omega
                  by_cases hlast : k + 1 = (nthF m.funcs i).code.length
                  · have u3 : ((k : Int) + 1 == ((nthF m.funcs i).code.length : Int)) = true := by simp; omega
                    have HLA := Lib.hid hlast
                    have hen2 := hen.out hlast
                    clear hlast
                    have hop : x.op = 0 := by omega
                    have o1 : (x.op != 0) = false := by simp [hop]
                    have o2 : (x.op == 0) = true := by simp [hop]
                    have p0a : (x.op != 14) = true := by simp [hop]
                    have p0b : (x.op == 14) = false := by simp [hop]
                    have p1a : (x.op != 18) = true := by simp [hop]
                    have p1b : (x.op == 18) = false := by simp [hop]
                    have HOP := Lib.hid hop
                    have HEN := Lib.hid hen2
                    clear hop hen2
                    gi_wp2_with (first
                      | (refine ⟨trivial, ?_⟩; gi_at_call 16; refine (callsIn_wide.2 (hWr _ hL3)).mono ?_; rintro e w5 ⟨rfl, hb5⟩; have hL5 := hL3.go hb5; have hF5 := hF3.below' hb5; have X5 := X3.below' hb5; have M5 := M3.go hb5; obtain ⟨a1', a2', a3', a4'⟩ := hL5.cells; obtain ⟨c0', c1', c2', c3', c4'⟩ := fcells hF5; rw [hca] at c4'; obtain ⟨e0', e1', e2', e3', e4'⟩ := fcells X5; have q1' := hL5.bm.lt; have q2' := hF5.lt; have q3' := X5.lt)
                      | (refine ⟨trivial, ?_⟩; gi_at_call 10; refine (callsIn_wide.2 (hKn _)).mono ?_; rintro e w6 ⟨rfl, rfl⟩)
                      | (refine ⟨trivial, ?_⟩; gi_at_call 27; refine (callsIn_wide.2 (withinT v _ _ hwr)).mono ?_; rintro e w7 ⟨rfl, rfl⟩)
                            | (refine ⟨(trivial : Fence.wide.fn 27), ?_⟩)
                            | (refine wpListIn_skip (o := { dst := some 121, op := .call { callee := .builtin .len, args := #[.tmp 120], argTypes := #[44] }, type := 3, pos := _, after := _, guard := some (5, false) }) rfl rfl ?_; simp only [Act.put, List.setIfInBounds_toArray, List.set_cons_succ, List.set_cons_zero]))
                    have hlast := HLA.out
                    refine ⟨⟨k + 1, by omega, hL5, hF5, M5, rfl, rfl, rfl, rfl, rfl, rfl, rfl⟩, ?_⟩
                    show (nthF m.funcs i).code.length - (intOf (.int .i64 ((k : Int) + 1))).toNat < _
                    simp only [intOf]; omega
                  · have u3 : ((k : Int) + 1 == ((nthF m.funcs i).code.length : Int)) = false := by simp; omega
                    gi_wp2_with (first
                      | (refine ⟨trivial, ?_⟩; gi_at_call 16; refine (callsIn_wide.2 (hWr _ hL3)).mono ?_; rintro e w5 ⟨rfl, hb5⟩; have hL5 := hL3.go hb5; have hF5 := hF3.below' hb5; have X5 := X3.below' hb5; have M5 := M3.go hb5; obtain ⟨a1', a2', a3', a4'⟩ := hL5.cells; obtain ⟨c0', c1', c2', c3', c4'⟩ := fcells hF5; rw [hca] at c4'; obtain ⟨e0', e1', e2', e3', e4'⟩ := fcells X5; have q1' := hL5.bm.lt; have q2' := hF5.lt; have q3' := X5.lt)
                      | (refine ⟨trivial, ?_⟩; gi_at_call 10; refine (callsIn_wide.2 (hKn _)).mono ?_; rintro e w6 ⟨rfl, rfl⟩)
                      | (refine ⟨trivial, ?_⟩; gi_at_call 27; refine (callsIn_wide.2 (withinT v _ _ hwr)).mono ?_; rintro e w7 ⟨rfl, rfl⟩)
                            | (refine ⟨(trivial : Fence.wide.fn 27), ?_⟩)
                            | (refine wpListIn_skip (o := { dst := some 121, op := .call { callee := .builtin .len, args := #[.tmp 120], argTypes := #[44] }, type := 3, pos := _, after := _, guard := some (5, false) }) rfl rfl ?_; simp only [Act.put, List.setIfInBounds_toArray, List.set_cons_succ, List.set_cons_zero]))
                    refine ⟨⟨k + 1, by omega, hL5, hF5, M5, rfl, rfl, rfl, rfl, rfl, rfl, rfl⟩, ?_⟩
                    show (nthF m.funcs i).code.length - (intOf (.int .i64 ((k : Int) + 1))).toNat < _
                    simp only [intOf]; omega
                · obtain ⟨hj1, hj2⟩ := hj
                  obtain ⟨n0, n1⟩ := hjm.out hj1 hj2
                  have j1 : decide (14 ≤ x.op) = true := by simp; omega
                  have j2 : decide (x.op ≤ 18) = true := by simp; omega
                  have j3 : decide (x.n < 0) = false := by simp; omega
                  have j4 : decide (((nthF m.funcs i).code.length : Int) ≤ x.n) = false := by simp; omega
                  by_cases hlast : k + 1 = (nthF m.funcs i).code.length
                  · have u3 : ((k : Int) + 1 == ((nthF m.funcs i).code.length : Int)) = true := by simp; omega
                    have HLA := Lib.hid hlast
                    have hen2 := hen.out hlast
                    clear hlast
                    rcases (by omega : x.op = 14 ∨ x.op = 18) with hop | hop
                    · have o1 : (x.op != 14) = false := by simp [hop]
                      have o2 : (x.op == 14) = true := by simp [hop]
                      have p0a : (x.op != 0) = true := by simp [hop]
                      have p0b : (x.op == 0) = false := by simp [hop]
                      have p1a : (x.op != 18) = true := by simp [hop]
                      have p1b : (x.op == 18) = false := by simp [hop]
                      have HOP := Lib.hid hop
                      have HEN := Lib.hid hen2
                      clear hop hen2
                      gi_wp2_with (first
                        | (refine ⟨trivial, ?_⟩; gi_at_call 16; refine (callsIn_wide.2 (hWr _ hL3)).mono ?_; rintro e w5 ⟨rfl, hb5⟩; have hL5 := hL3.go hb5; have hF5 := hF3.below' hb5; have X5 := X3.below' hb5; have M5 := M3.go hb5; obtain ⟨a1', a2', a3', a4'⟩ := hL5.cells; obtain ⟨c0', c1', c2', c3', c4'⟩ := fcells hF5; rw [hca] at c4'; obtain ⟨e0', e1', e2', e3', e4'⟩ := fcells X5; have q1' := hL5.bm.lt; have q2' := hF5.lt; have q3' := X5.lt)
                        | (refine ⟨trivial, ?_⟩; gi_at_call 10; refine (callsIn_wide.2 (hKn _)).mono ?_; rintro e w6 ⟨rfl, rfl⟩)
                        | (refine ⟨trivial, ?_⟩; gi_at_call 27; refine (callsIn_wide.2 (withinT v _ _ hwr)).mono ?_; rintro e w7 ⟨rfl, rfl⟩)
                            | (refine ⟨(trivial : Fence.wide.fn 27), ?_⟩)
                            | (refine wpListIn_skip (o := { dst := some 121, op := .call { callee := .builtin .len, args := #[.tmp 120], argTypes := #[44] }, type := 3, pos := _, after := _, guard := some (5, false) }) rfl rfl ?_; simp only [Act.put, List.setIfInBounds_toArray, List.set_cons_succ, List.set_cons_zero]))
                      have hlast := HLA.out
                      refine ⟨⟨k + 1, by omega, hL5, hF5, M5, rfl, rfl, rfl, rfl, rfl, rfl, rfl⟩, ?_⟩
                      show (nthF m.funcs i).code.length - (intOf (.int .i64 ((k : Int) + 1))).toNat < _
                      simp only [intOf]; omega
                    · have o1 : (x.op != 18) = false := by simp [hop]
                      have o2 : (x.op == 18) = true := by simp [hop]
                      have p0a : (x.op != 0) = true := by simp [hop]
                      have p0b : (x.op == 0) = false := by simp [hop]
                      have p1a : (x.op != 14) = true := by simp [hop]
                      have p1b : (x.op == 14) = false := by simp [hop]
                      have HOP := Lib.hid hop
                      have HEN := Lib.hid hen2
                      clear hop hen2
                      gi_wp2_with (first
                        | (refine ⟨trivial, ?_⟩; gi_at_call 16; refine (callsIn_wide.2 (hWr _ hL3)).mono ?_; rintro e w5 ⟨rfl, hb5⟩; have hL5 := hL3.go hb5; have hF5 := hF3.below' hb5; have X5 := X3.below' hb5; have M5 := M3.go hb5; obtain ⟨a1', a2', a3', a4'⟩ := hL5.cells; obtain ⟨c0', c1', c2', c3', c4'⟩ := fcells hF5; rw [hca] at c4'; obtain ⟨e0', e1', e2', e3', e4'⟩ := fcells X5; have q1' := hL5.bm.lt; have q2' := hF5.lt; have q3' := X5.lt)
                        | (refine ⟨trivial, ?_⟩; gi_at_call 10; refine (callsIn_wide.2 (hKn _)).mono ?_; rintro e w6 ⟨rfl, rfl⟩)
                        | (refine ⟨trivial, ?_⟩; gi_at_call 27; refine (callsIn_wide.2 (withinT v _ _ hwr)).mono ?_; rintro e w7 ⟨rfl, rfl⟩)
                            | (refine ⟨(trivial : Fence.wide.fn 27), ?_⟩)
                            | (refine wpListIn_skip (o := { dst := some 121, op := .call { callee := .builtin .len, args := #[.tmp 120], argTypes := #[44] }, type := 3, pos := _, after := _, guard := some (5, false) }) rfl rfl ?_; simp only [Act.put, List.setIfInBounds_toArray, List.set_cons_succ, List.set_cons_zero]))
                      have hlast := HLA.out
                      refine ⟨⟨k + 1, by omega, hL5, hF5, M5, rfl, rfl, rfl, rfl, rfl, rfl, rfl⟩, ?_⟩
                      show (nthF m.funcs i).code.length - (intOf (.int .i64 ((k : Int) + 1))).toNat < _
                      simp only [intOf]; omega
                  · have u3 : ((k : Int) + 1 == ((nthF m.funcs i).code.length : Int)) = false := by simp; omega
                    gi_wp2_with (first
                      | (refine ⟨trivial, ?_⟩; gi_at_call 16; refine (callsIn_wide.2 (hWr _ hL3)).mono ?_; rintro e w5 ⟨rfl, hb5⟩; have hL5 := hL3.go hb5; have hF5 := hF3.below' hb5; have X5 := X3.below' hb5; have M5 := M3.go hb5; obtain ⟨a1', a2', a3', a4'⟩ := hL5.cells; obtain ⟨c0', c1', c2', c3', c4'⟩ := fcells hF5; rw [hca] at c4'; obtain ⟨e0', e1', e2', e3', e4'⟩ := fcells X5; have q1' := hL5.bm.lt; have q2' := hF5.lt; have q3' := X5.lt)
                      | (refine ⟨trivial, ?_⟩; gi_at_call 10; refine (callsIn_wide.2 (hKn _)).mono ?_; rintro e w6 ⟨rfl, rfl⟩)
                      | (refine ⟨trivial, ?_⟩; gi_at_call 27; refine (callsIn_wide.2 (withinT v _ _ hwr)).mono ?_; rintro e w7 ⟨rfl, rfl⟩)
                            | (refine ⟨(trivial : Fence.wide.fn 27), ?_⟩)
                            | (refine wpListIn_skip (o := { dst := some 121, op := .call { callee := .builtin .len, args := #[.tmp 120], argTypes := #[44] }, type := 3, pos := _, after := _, guard := some (5, false) }) rfl rfl ?_; simp only [Act.put, List.setIfInBounds_toArray, List.set_cons_succ, List.set_cons_zero]))
                    refine ⟨⟨k + 1, by omega, hL5, hF5, M5, rfl, rfl, rfl, rfl, rfl, rfl, rfl⟩, ?_⟩
                    show (nthF m.funcs i).code.length - (intOf (.int .i64 ((k : Int) + 1))).toNat < _
                    simp only [intOf]; omega
                · skip
                  have hk20 := kn20
                  exfalso; omega
              · have hw1 : (v != -1) = true := by have := hwr.1; simp; omega
                have hw2 : (v == -1) = false := by have := hwr.1; simp; omega
                rcases (by omega : x.op < 14 ∨ (14 ≤ x.op ∧ x.op ≤ 18) ∨ 18 < x.op) with hj | hj | hj
                · have j1 : decide (14 ≤ x.op) = false := by simp; omega
                  by_cases hlast : k + 1 = (nthF m.funcs i).code.length
                  · have u3 : ((k : Int) + 1 == ((nthF m.funcs i).code.length : Int)) = true := by simp; omega
                    have HLA := Lib.hid hlast
                    have hen2 := hen.out hlast
                    clear hlast
                    have hop : x.op = 0 := by omega
                    have o1 : (x.op != 0) = false := by simp [hop]
                    have o2 : (x.op == 0) = true := by simp [hop]
                    have p0a : (x.op != 14) = true := by simp [hop]
                    have p0b : (x.op == 14) = false := by simp [hop]
                    have p1a : (x.op != 18) = true := by simp [hop]
                    have p1b : (x.op == 18) = false := by simp [hop]
                    have HOP := Lib.hid hop
                    have HEN := Lib.hid hen2
                    clear hop hen2
                    gi_wp2_with (first
                      | (refine ⟨trivial, ?_⟩; gi_at_call 16; refine (callsIn_wide.2 (hWr _ hL3)).mono ?_; rintro e w5 ⟨rfl, hb5⟩; have hL5 := hL3.go hb5; have hF5 := hF3.below' hb5; have X5 := X3.below' hb5; have M5 := M3.go hb5; obtain ⟨a1', a2', a3', a4'⟩ := hL5.cells; obtain ⟨c0', c1', c2', c3', c4'⟩ := fcells hF5; rw [hca] at c4'; obtain ⟨e0', e1', e2', e3', e4'⟩ := fcells X5; have q1' := hL5.bm.lt; have q2' := hF5.lt; have q3' := X5.lt)
                      | (refine ⟨trivial, ?_⟩; gi_at_call 10; refine (callsIn_wide.2 (hKn _)).mono ?_; rintro e w6 ⟨rfl, rfl⟩)
                      | (refine ⟨trivial, ?_⟩; gi_at_call 27; refine (callsIn_wide.2 (withinT v _ _ hwr)).mono ?_; rintro e w7 ⟨rfl, rfl⟩)
                            | (refine ⟨(trivial : Fence.wide.fn 27), ?_⟩)
                            | (refine wpListIn_skip (o := { dst := some 121, op := .call { callee := .builtin .len, args := #[.tmp 120], argTypes := #[44] }, type := 3, pos := _, after := _, guard := some (5, false) }) rfl rfl ?_; simp only [Act.put, List.setIfInBounds_toArray, List.set_cons_succ, List.set_cons_zero]))
                    have hlast := HLA.out
                    refine ⟨⟨k + 1, by omega, hL5, hF5, M5, rfl, rfl, rfl, rfl, rfl, rfl, rfl⟩, ?_⟩
                    show (nthF m.funcs i).code.length - (intOf (.int .i64 ((k : Int) + 1))).toNat < _
                    simp only [intOf]; omega
                  · have u3 : ((k : Int) + 1 == ((nthF m.funcs i).code.length : Int)) = false := by simp; omega
                    gi_wp2_with (first
                      | (refine ⟨trivial, ?_⟩; gi_at_call 16; refine (callsIn_wide.2 (hWr _ hL3)).mono ?_; rintro e w5 ⟨rfl, hb5⟩; have hL5 := hL3.go hb5; have hF5 := hF3.below' hb5; have X5 := X3.below' hb5; have M5 := M3.go hb5; obtain ⟨a1', a2', a3', a4'⟩ := hL5.cells; obtain ⟨c0', c1', c2', c3', c4'⟩ := fcells hF5; rw [hca] at c4'; obtain ⟨e0', e1', e2', e3', e4'⟩ := fcells X5; have q1' := hL5.bm.lt; have q2' := hF5.lt; have q3' := X5.lt)
                      | (refine ⟨trivial, ?_⟩; gi_at_call 10; refine (callsIn_wide.2 (hKn _)).mono ?_; rintro e w6 ⟨rfl, rfl⟩)
                      | (refine ⟨trivial, ?_⟩; gi_at_call 27; refine (callsIn_wide.2 (withinT v _ _ hwr)).mono ?_; rintro e w7 ⟨rfl, rfl⟩)
                            | (refine ⟨(trivial : Fence.wide.fn 27), ?_⟩)
                            | (refine wpListIn_skip (o := { dst := some 121, op := .call { callee := .builtin .len, args := #[.tmp 120], argTypes := #[44] }, type := 3, pos := _, after := _, guard := some (5, false) }) rfl rfl ?_; simp only [Act.put, List.setIfInBounds_toArray, List.set_cons_succ, List.set_cons_zero]))
                    refine ⟨⟨k + 1, by omega, hL5, hF5, M5, rfl, rfl, rfl, rfl, rfl, rfl, rfl⟩, ?_⟩
                    show (nthF m.funcs i).code.length - (intOf (.int .i64 ((k : Int) + 1))).toNat < _
                    simp only [intOf]; omega
                · obtain ⟨hj1, hj2⟩ := hj
                  obtain ⟨n0, n1⟩ := hjm.out hj1 hj2
                  have j1 : decide (14 ≤ x.op) = true := by simp; omega
                  have j2 : decide (x.op ≤ 18) = true := by simp; omega
                  have j3 : decide (x.n < 0) = false := by simp; omega
                  have j4 : decide (((nthF m.funcs i).code.length : Int) ≤ x.n) = false := by simp; omega
                  by_cases hlast : k + 1 = (nthF m.funcs i).code.length
                  · have u3 : ((k : Int) + 1 == ((nthF m.funcs i).code.length : Int)) = true := by simp; omega
                    have HLA := Lib.hid hlast
                    have hen2 := hen.out hlast
                    clear hlast
                    rcases (by omega : x.op = 14 ∨ x.op = 18) with hop | hop
                    · have o1 : (x.op != 14) = false := by simp [hop]
                      have o2 : (x.op == 14) = true := by simp [hop]
                      have p0a : (x.op != 0) = true := by simp [hop]
                      have p0b : (x.op == 0) = false := by simp [hop]
                      have p1a : (x.op != 18) = true := by simp [hop]
                      have p1b : (x.op == 18) = false := by simp [hop]
                      have HOP := Lib.hid hop
                      have HEN := Lib.hid hen2
                      clear hop hen2
                      gi_wp2_with (first
                        | (refine ⟨trivial, ?_⟩; gi_at_call 16; refine (callsIn_wide.2 (hWr _ hL3)).mono ?_; rintro e w5 ⟨rfl, hb5⟩; have hL5 := hL3.go hb5; have hF5 := hF3.below' hb5; have X5 := X3.below' hb5; have M5 := M3.go hb5; obtain ⟨a1', a2', a3', a4'⟩ := hL5.cells; obtain ⟨c0', c1', c2', c3', c4'⟩ := fcells hF5; rw [hca] at c4'; obtain ⟨e0', e1', e2', e3', e4'⟩ := fcells X5; have q1' := hL5.bm.lt; have q2' := hF5.lt; have q3' := X5.lt)
                        | (refine ⟨trivial, ?_⟩; gi_at_call 10; refine (callsIn_wide.2 (hKn _)).mono ?_; rintro e w6 ⟨rfl, rfl⟩)
                        | (refine ⟨trivial, ?_⟩; gi_at_call 27; refine (callsIn_wide.2 (withinT v _ _ hwr)).mono ?_; rintro e w7 ⟨rfl, rfl⟩)
                            | (refine ⟨(trivial : Fence.wide.fn 27), ?_⟩)
                            | (refine wpListIn_skip (o := { dst := some 121, op := .call { callee := .builtin .len, args := #[.tmp 120], argTypes := #[44] }, type := 3, pos := _, after := _, guard := some (5, false) }) rfl rfl ?_; simp only [Act.put, List.setIfInBounds_toArray, List.set_cons_succ, List.set_cons_zero]))
                      have hlast := HLA.out
                      refine ⟨⟨k + 1, by omega, hL5, hF5, M5, rfl, rfl, rfl, rfl, rfl, rfl, rfl⟩, ?_⟩
                      show (nthF m.funcs i).code.length - (intOf (.int .i64 ((k : Int) + 1))).toNat < _
                      simp only [intOf]; omega
                    · have o1 : (x.op != 18) = false := by simp [hop]
                      have o2 : (x.op == 18) = true := by simp [hop]
                      have p0a : (x.op != 0) = true := by simp [hop]
                      have p0b : (x.op == 0) = false := by simp [hop]
                      have p1a : (x.op != 14) = true := by simp [hop]
                      have p1b : (x.op == 14) = false := by simp [hop]
                      have HOP := Lib.hid hop
                      have HEN := Lib.hid hen2
                      clear hop hen2
                      gi_wp2_with (first
                        | (refine ⟨trivial, ?_⟩; gi_at_call 16; refine (callsIn_wide.2 (hWr _ hL3)).mono ?_; rintro e w5 ⟨rfl, hb5⟩; have hL5 := hL3.go hb5; have hF5 := hF3.below' hb5; have X5 := X3.below' hb5; have M5 := M3.go hb5; obtain ⟨a1', a2', a3', a4'⟩ := hL5.cells; obtain ⟨c0', c1', c2', c3', c4'⟩ := fcells hF5; rw [hca] at c4'; obtain ⟨e0', e1', e2', e3', e4'⟩ := fcells X5; have q1' := hL5.bm.lt; have q2' := hF5.lt; have q3' := X5.lt)
                        | (refine ⟨trivial, ?_⟩; gi_at_call 10; refine (callsIn_wide.2 (hKn _)).mono ?_; rintro e w6 ⟨rfl, rfl⟩)
                        | (refine ⟨trivial, ?_⟩; gi_at_call 27; refine (callsIn_wide.2 (withinT v _ _ hwr)).mono ?_; rintro e w7 ⟨rfl, rfl⟩)
                            | (refine ⟨(trivial : Fence.wide.fn 27), ?_⟩)
                            | (refine wpListIn_skip (o := { dst := some 121, op := .call { callee := .builtin .len, args := #[.tmp 120], argTypes := #[44] }, type := 3, pos := _, after := _, guard := some (5, false) }) rfl rfl ?_; simp only [Act.put, List.setIfInBounds_toArray, List.set_cons_succ, List.set_cons_zero]))
                      have hlast := HLA.out
                      refine ⟨⟨k + 1, by omega, hL5, hF5, M5, rfl, rfl, rfl, rfl, rfl, rfl, rfl⟩, ?_⟩
                      show (nthF m.funcs i).code.length - (intOf (.int .i64 ((k : Int) + 1))).toNat < _
                      simp only [intOf]; omega
                  · have u3 : ((k : Int) + 1 == ((nthF m.funcs i).code.length : Int)) = false := by simp; omega
                    gi_wp2_with (first
                      | (refine ⟨trivial, ?_⟩; gi_at_call 16; refine (callsIn_wide.2 (hWr _ hL3)).mono ?_; rintro e w5 ⟨rfl, hb5⟩; have hL5 := hL3.go hb5; have hF5 := hF3.below' hb5; have X5 := X3.below' hb5; have M5 := M3.go hb5; obtain ⟨a1', a2', a3', a4'⟩ := hL5.cells; obtain ⟨c0', c1', c2', c3', c4'⟩ := fcells hF5; rw [hca] at c4'; obtain ⟨e0', e1', e2', e3', e4'⟩ := fcells X5; have q1' := hL5.bm.lt; have q2' := hF5.lt; have q3' := X5.lt)
                      | (refine ⟨trivial, ?_⟩; gi_at_call 10; refine (callsIn_wide.2 (hKn _)).mono ?_; rintro e w6 ⟨rfl, rfl⟩)
                      | (refine ⟨trivial, ?_⟩; gi_at_call 27; refine (callsIn_wide.2 (withinT v _ _ hwr)).mono ?_; rintro e w7 ⟨rfl, rfl⟩)
                            | (refine ⟨(trivial : Fence.wide.fn 27), ?_⟩)
                            | (refine wpListIn_skip (o := { dst := some 121, op := .call { callee := .builtin .len, args := #[.tmp 120], argTypes := #[44] }, type := 3, pos := _, after := _, guard := some (5, false) }) rfl rfl ?_; simp only [Act.put, List.setIfInBounds_toArray, List.set_cons_succ, List.set_cons_zero]))
                    refine ⟨⟨k + 1, by omega, hL5, hF5, M5, rfl, rfl, rfl, rfl, rfl, rfl, rfl⟩, ?_⟩
                    show (nthF m.funcs i).code.length - (intOf (.int .i64 ((k : Int) + 1))).toNat < _
                    simp only [intOf]; omega
                · skip
                  have hk20 := kn20
                  exfalso; omega
            case stop =>
              rintro D c pre W hD hpre ⟨_, r, hr, hno⟩ hK
              exact absurd (ex r (hpre.subset hr)) hno
        · have u1 : decide ((k : Int) < ((nthF m.funcs i).code.length : Int)) = false := by simp; omega
          gi_wp2
          refine ⟨⟨i + 1, by omega, hL1, hmk, rfl, rfl, rfl, rfl, rfl⟩, ?_⟩
          show m.funcs.length - (intOf (.int .i64 ((i : Int) + 1))).toNat < _
          simp only [intOf]; omega
    · have u0 : decide ((i : Int) < (m.funcs.length : Int)) = false := by simp; omega
      gi_wp2
      refine leaves_marks (by omega) (by omega) ?_ ds _ (hmk.setCell _ _) (hL.below.setCell (by simp) _) (hL.br.put 0 (.bool true))
      intro W' hb hw
      have c0 : W'.cell? ⟨w.heap.size + 1, 0, none⟩ = some (.bool true) := hw.cell 0
      refine ⟨.bool true, ?_, rfl, hb⟩
      simp [results, Tryd.f8, go_sem, c0]
end Go.Proofs.YtpmffclepnkedaaDoor
