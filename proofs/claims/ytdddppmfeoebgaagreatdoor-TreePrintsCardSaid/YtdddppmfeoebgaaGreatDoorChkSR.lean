/-
  Layer 2 (tree): the walks of the reference's stmt and all.
-/
import Derived.Test.YtdddppmfeoebgaaGreatDoorChkER
import Derived.Test.YtdddppmfeoebgaaGreatDoorChkP
import Derived.Deep.CutBlock
import Derived.Deep.DeepCutAuto
namespace Go.Proofs.YtdddppmfeoebgaaGreatDoor
open Go.RowKit
set_option linter.unusedSimpArgs false
set_option linter.unusedVariables false
/-- So many are met behind an error. -/
def stN (e : Int) (n : Nat) : Nat := if e ≠ 0 then 0 else n
theorem stN_le (e : Int) (n : Nat) : stN e n ≤ n := by unfold stN; split <;> omega
theorem st_on (e : Int) (p q : Met) : stN e p.n + stN (orI e p.e) q.n = stN e (p.on q).n ∧ orI (orI e p.e) q.e = orI e (p.on q).e := by
  by_cases h : e = 0 <;> by_cases k : p.e = 0 <;> simp [stN, orI, Met.on, h, k]
theorem on5 (a b c : Int) (p q r : Met) : Met.on ⟨1, a⟩ (Met.on ⟨0, b⟩ (Met.on ⟨0, c⟩ (p.on (q.on r)))) =
    ⟨1 + stN (orI (orI a b) c) p.n + stN (orI (orI (orI a b) c) p.e) q.n + stN (orI (orI (orI (orI a b) c) p.e) q.e) r.n, orI (orI (orI (orI (orI a b) c) p.e) q.e) r.e⟩ := by
  by_cases h1 : a = 0 <;> by_cases h2 : b = 0 <;> by_cases h3 : c = 0 <;> by_cases h4 : p.e = 0 <;> by_cases h5 : q.e = 0 <;> simp [stN, orI, Met.on, h1, h2, h3, h4, h5, Nat.add_assoc]
def own1 (x : StD) (lv : Nat) : Int := if 32 < lv then 20 else ownS x
def ifA (x : StD) (lv : Nat) : Int := if cA x.kind then chkE x.a (lv + 1) else 0
def ifB (x : StD) (lv : Nat) : Int := if cB x.kind then chkE x.b (lv + 1) else 0
theorem chkS_5 (x : StD) (lv : Nat) : chkS x lv = Met.on ⟨1, own1 x lv⟩ (Met.on ⟨0, ifA x lv⟩ (Met.on ⟨0, ifB x lv⟩ ((chkSs x.body (lv + 1)).on ((chkCs x.cases (lv + 1)).on (chkSs x.els (lv + 1)))))) := chkS_eq x lv
theorem own1_deep {x : StD} {lv : Nat} (h : 32 < lv) : own1 x lv = 20 := if_pos h
theorem own1_own {x : StD} {lv : Nat} (h : ¬ 32 < lv) : own1 x lv = ownS x := if_neg h
theorem own1_zero {x : StD} {lv : Nat} (h : own1 x lv = 0) : lv ≤ 32 := by
  rcases Nat.lt_or_ge 32 lv with q | q
  · rw [own1_deep q] at h; omega
  · exact q
def AllAt (N : Nat) : Prop := ∀ (l : List StD) (A : Option Addr) (c lv : Nat) (z n0 e0 : Int) (B g : Nat) (w : World), SizeOf.sizeOf l < N → StsAt w B A l → B ≤ g → lv ≤ 40 → z = (lv : Int) → (e0 = 0 → lv ≤ 33) → 0 ≤ n0 → n0 + cntSs l ≤ 1000000 → Whl w g 85 #[.int .i64 n0, .int .i64 e0] →
    Calls Tryz.prog 37 #[.pointer (some ⟨g, 0, none⟩), .slice A l.length c, .int .i64 z] w fun e w' => e = .returned (.tuple #[]) ∧ Whl w' g 85 #[.int .i64 (n0 + (stN e0 (chkSs l lv).n : Nat)), .int .i64 (orI e0 (chkSs l lv).e)] ∧ Turn B g w w'
set_option maxRecDepth 100000 in
set_option maxHeartbeats 16000000 in
theorem stmtR (N : Nat) (ih : AllAt N) (x : StD) (h : HdS) (q : Nat → Hd) (lv : Nat) (n0 : Int) (B g : Nat) (w : World) (hN : SizeOf.sizeOf x < N) (hin : StIn w B x h q) (hB : B ≤ g) (hlv : lv ≤ 33) (hn : 0 ≤ n0) (hcn : n0 + cntS x ≤ 1000000) (hg : Whl w g 85 #[.int .i64 n0, .int .i64 0]) :
    Calls Tryz.prog 60 #[.pointer (some ⟨g, 0, none⟩), .agg (stC x h), .int .i64 (lv : Int)] w fun e w' => e = .returned (.tuple #[]) ∧ Whl w' g 85 #[.int .i64 (n0 + ((chkS x lv).n : Nat)), .int .i64 (chkS x lv).e] ∧ Turn B g w w' := by
  have IH := Lib.hid ih
  have hin := Lib.hid hin
  clear ih
  have lg := hg.lt
  have hBw : B ≤ w.heap.size := by omega
  have f0 : w.cell? ⟨g, 0, none⟩ = some (.int .i64 n0) := hg.cell 0
  have f1 : w.cell? ⟨g, 1, none⟩ = some (.int .i64 0) := hg.cell 1
  have z0 : w.frozen? ⟨g, 0, none⟩ = false := hg.frozen 0
  have z1 : w.frozen? ⟨g, 1, none⟩ = false := hg.frozen 1
  have hcx := cntS_eq x
  have sb := body_size x
  have se := els_size x
  have sc := cases_size x
  go_enter Tryz.func60, Tryz.ntmps60
  go_upto_block 0 with (go_at_call 84; ((with_reducible refine (countsR x.kind _).mono ?_); rintro e w1 ⟨rfl, hb1⟩; have hg1 := ((hg.put 0 (.int .i64 (n0 + 1))).alloc (.cells (stC x h) 42)).below' hb1; have X1 := (Whl.newAt (w := w.setCell ⟨g, 0, none⟩ (.int .i64 (n0 + 1))) (b := w.heap.size) (by simp) 42 (stC x h)).below' hb1; have T1 := (((Turn.refl B g w).put hB 0 (.int .i64 (n0 + 1))).alloc hBw (.cells (stC x h) 42)).go hBw hb1; have lx1 := X1.lt; have lg1 := hg1.lt))
  have F1 := Whl.new w1 140 (fieldsC x.kind)
  have hgV := hg1.alloc (.cells (fieldsC x.kind) 140)
  have XV := X1.alloc (.cells (fieldsC x.kind) 140)
  have TV := T1.alloc hBw (.cells (fieldsC x.kind) 140)
  clear hg1 X1 T1 hb1 f0 f1 z0 z1
  generalize w1.alloc (.cells (fieldsC x.kind) 140) = V at F1 hgV XV TV ⊢
  generalize w1.heap.size = fb at F1 lx1 lg1 ⊢
  have HGV := Lib.hid hgV
  have HXV := Lib.hid XV
  have HFV := Lib.hid F1
  have HTV := Lib.hid TV
  have lgv := hgV.lt
  have lxv := XV.lt
  have lfv := F1.lt
  clear hgV XV F1 TV
  go_cut [] (fun W => Whl W g 85 #[.int .i64 (n0 + 1), .int .i64 (own1 x lv)] ∧ Whl W w.heap.size 42 (stC x h) ∧ Whl W fb 140 (fieldsC x.kind) ∧ Turn B g w W)
  case first =>
    obtain ⟨x0, x1, x2, x3, x4, x5, x6, x7, x8, x9, x10, x11, x12, x13⟩ := HXV.out.cSt
    obtain ⟨y0, y1, y2, y3, y4, y5, y6⟩ := HFV.out.c7
    have z1 := HGV.out.frozen 1
    obtain ⟨f0, f1⟩ := HGV.out.c2
    by_cases hd : 32 < lv
    · have hd' : decide ((32 : Int) < (lv : Int)) = true := by simp; omega
      have HO := Lib.hid (own1_deep (x := x) hd)
      clear hd
      go_wp2
      go_meet
      exact ⟨by rw [HO.out]; exact (HGV.out).put 1 _, (HXV.out).far (show w.heap.size ≠ g by omega) _, (HFV.out).far (show fb ≠ g by omega) _, (HTV.out).put hB 1 _⟩
    · have hd' : decide ((32 : Int) < (lv : Int)) = false := by simp; omega
      have HD := Lib.hid (own1_own (x := x) hd)
      clear hd
      cases fm : formS x
      · have HO := Lib.hid (HD.out.trans (show ownS x = _ by unfold ownS; simp only [fm]; rfl))
        go_wp2_with (first | (go_at_call 85; ((with_reducible refine (formedR x h q B _ (hin.out.turn HTV.out)).mono ?_); rintro e w2 ⟨rfl, hb2⟩; have G2 := (HGV.out).below' hb2; have X2 := (HXV.out).below' hb2; have F2 := (HFV.out).below' hb2; have T2 := (HTV.out).go hBw hb2; clear x0 x1 x2 x3 x4 x5 x6 x7 x8 x9 x10 x11 x12 x13 y0 y1 y2 y3 y4 y5 y6 z1 f0 f1; obtain ⟨x0, x1, x2, x3, x4, x5, x6, x7, x8, x9, x10, x11, x12, x13⟩ := X2.cSt; obtain ⟨y0, y1, y2, y3, y4, y5, y6⟩ := F2.c7; have z1 := G2.frozen 1; obtain ⟨f0, f1⟩ := G2.c2; have lg2 := G2.lt; have lx2 := X2.lt; have lf2 := F2.lt)))
        go_meet
        exact ⟨by rw [HO.out]; exact (G2).put 1 _, (X2).far (show w.heap.size ≠ g by omega) _, (F2).far (show fb ≠ g by omega) _, (T2).put hB 1 _⟩
      · cases cn : cName x.kind
        · skip
          cases ng : decide (x.n < 0)
          · cases lw : lowestD x.cases
            · cases k10 : (x.kind == 10)
              · have HO := Lib.hid (HD.out.trans (show ownS x = _ by unfold ownS; simp only [fm, cn, ng, lw, k10]; rfl))
                go_wp2_with (first | (go_at_call 85; ((with_reducible refine (formedR x h q B _ (hin.out.turn HTV.out)).mono ?_); rintro e w2 ⟨rfl, hb2⟩; have G2 := (HGV.out).below' hb2; have X2 := (HXV.out).below' hb2; have F2 := (HFV.out).below' hb2; have T2 := (HTV.out).go hBw hb2; clear x0 x1 x2 x3 x4 x5 x6 x7 x8 x9 x10 x11 x12 x13 y0 y1 y2 y3 y4 y5 y6 z1 f0 f1; obtain ⟨x0, x1, x2, x3, x4, x5, x6, x7, x8, x9, x10, x11, x12, x13⟩ := X2.cSt; obtain ⟨y0, y1, y2, y3, y4, y5, y6⟩ := F2.c7; have z1 := G2.frozen 1; obtain ⟨f0, f1⟩ := G2.c2; have lg2 := G2.lt; have lx2 := X2.lt; have lf2 := F2.lt)) | (go_at_call 86; ((with_reducible refine (lowestR x.cases h.cases.a h.cases.c B q _ hin.out.clen (hin.out.turn T2).crow).mono ?_); rintro e w' ⟨rfl, rfl⟩)))
                go_meet
                exact ⟨by rw [HO.out]; exact G2, X2, F2, T2⟩
              · cases a4 : (x.a.kind == 4)
                · have a5 : (x.a.kind != 4) = true := by rw [bne, a4]; rfl
                  have HO := Lib.hid (HD.out.trans (show ownS x = _ by unfold ownS; simp only [fm, cn, ng, lw, k10, a4]; rfl))
                  go_wp2_with (first | (go_at_call 85; ((with_reducible refine (formedR x h q B _ (hin.out.turn HTV.out)).mono ?_); rintro e w2 ⟨rfl, hb2⟩; have G2 := (HGV.out).below' hb2; have X2 := (HXV.out).below' hb2; have F2 := (HFV.out).below' hb2; have T2 := (HTV.out).go hBw hb2; clear x0 x1 x2 x3 x4 x5 x6 x7 x8 x9 x10 x11 x12 x13 y0 y1 y2 y3 y4 y5 y6 z1 f0 f1; obtain ⟨x0, x1, x2, x3, x4, x5, x6, x7, x8, x9, x10, x11, x12, x13⟩ := X2.cSt; obtain ⟨y0, y1, y2, y3, y4, y5, y6⟩ := F2.c7; have z1 := G2.frozen 1; obtain ⟨f0, f1⟩ := G2.c2; have lg2 := G2.lt; have lx2 := X2.lt; have lf2 := F2.lt)) | (go_at_call 86; ((with_reducible refine (lowestR x.cases h.cases.a h.cases.c B q _ hin.out.clen (hin.out.turn T2).crow).mono ?_); rintro e w' ⟨rfl, rfl⟩)))
                  go_meet
                  exact ⟨by rw [HO.out]; exact (G2).put 1 _, (X2).far (show w.heap.size ≠ g by omega) _, (F2).far (show fb ≠ g by omega) _, (T2).put hB 1 _⟩
                · have a5 : (x.a.kind != 4) = false := by rw [bne, a4]; rfl
                  have HO := Lib.hid (HD.out.trans (show ownS x = _ by unfold ownS; simp only [fm, cn, ng, lw, k10, a4]; rfl))
                  go_wp2_with (first | (go_at_call 85; ((with_reducible refine (formedR x h q B _ (hin.out.turn HTV.out)).mono ?_); rintro e w2 ⟨rfl, hb2⟩; have G2 := (HGV.out).below' hb2; have X2 := (HXV.out).below' hb2; have F2 := (HFV.out).below' hb2; have T2 := (HTV.out).go hBw hb2; clear x0 x1 x2 x3 x4 x5 x6 x7 x8 x9 x10 x11 x12 x13 y0 y1 y2 y3 y4 y5 y6 z1 f0 f1; obtain ⟨x0, x1, x2, x3, x4, x5, x6, x7, x8, x9, x10, x11, x12, x13⟩ := X2.cSt; obtain ⟨y0, y1, y2, y3, y4, y5, y6⟩ := F2.c7; have z1 := G2.frozen 1; obtain ⟨f0, f1⟩ := G2.c2; have lg2 := G2.lt; have lx2 := X2.lt; have lf2 := F2.lt)) | (go_at_call 86; ((with_reducible refine (lowestR x.cases h.cases.a h.cases.c B q _ hin.out.clen (hin.out.turn T2).crow).mono ?_); rintro e w' ⟨rfl, rfl⟩)))
                  go_meet
                  exact ⟨by rw [HO.out]; exact G2, X2, F2, T2⟩
            · have HO := Lib.hid (HD.out.trans (show ownS x = _ by unfold ownS; simp only [fm, cn, ng, lw]; rfl))
              go_wp2_with (first | (go_at_call 85; ((with_reducible refine (formedR x h q B _ (hin.out.turn HTV.out)).mono ?_); rintro e w2 ⟨rfl, hb2⟩; have G2 := (HGV.out).below' hb2; have X2 := (HXV.out).below' hb2; have F2 := (HFV.out).below' hb2; have T2 := (HTV.out).go hBw hb2; clear x0 x1 x2 x3 x4 x5 x6 x7 x8 x9 x10 x11 x12 x13 y0 y1 y2 y3 y4 y5 y6 z1 f0 f1; obtain ⟨x0, x1, x2, x3, x4, x5, x6, x7, x8, x9, x10, x11, x12, x13⟩ := X2.cSt; obtain ⟨y0, y1, y2, y3, y4, y5, y6⟩ := F2.c7; have z1 := G2.frozen 1; obtain ⟨f0, f1⟩ := G2.c2; have lg2 := G2.lt; have lx2 := X2.lt; have lf2 := F2.lt)) | (go_at_call 86; ((with_reducible refine (lowestR x.cases h.cases.a h.cases.c B q _ hin.out.clen (hin.out.turn T2).crow).mono ?_); rintro e w' ⟨rfl, rfl⟩)))
              go_meet
              exact ⟨by rw [HO.out]; exact (G2).put 1 _, (X2).far (show w.heap.size ≠ g by omega) _, (F2).far (show fb ≠ g by omega) _, (T2).put hB 1 _⟩
          · have HO := Lib.hid (HD.out.trans (show ownS x = _ by unfold ownS; simp only [fm, cn, ng]; rfl))
            go_wp2_with (first | (go_at_call 85; ((with_reducible refine (formedR x h q B _ (hin.out.turn HTV.out)).mono ?_); rintro e w2 ⟨rfl, hb2⟩; have G2 := (HGV.out).below' hb2; have X2 := (HXV.out).below' hb2; have F2 := (HFV.out).below' hb2; have T2 := (HTV.out).go hBw hb2; clear x0 x1 x2 x3 x4 x5 x6 x7 x8 x9 x10 x11 x12 x13 y0 y1 y2 y3 y4 y5 y6 z1 f0 f1; obtain ⟨x0, x1, x2, x3, x4, x5, x6, x7, x8, x9, x10, x11, x12, x13⟩ := X2.cSt; obtain ⟨y0, y1, y2, y3, y4, y5, y6⟩ := F2.c7; have z1 := G2.frozen 1; obtain ⟨f0, f1⟩ := G2.c2; have lg2 := G2.lt; have lx2 := X2.lt; have lf2 := F2.lt)))
            go_meet
            exact ⟨by rw [HO.out]; exact (G2).put 1 _, (X2).far (show w.heap.size ≠ g by omega) _, (F2).far (show fb ≠ g by omega) _, (T2).put hB 1 _⟩
        · cases ne : nameE x.name
          · have c2 : nameB (bytesOf x.name) = false := ne
            have HO := Lib.hid (HD.out.trans (show ownS x = _ by unfold ownS; simp only [fm, cn, ne]; rfl))
            go_wp2_with (first | (go_at_call 85; ((with_reducible refine (formedR x h q B _ (hin.out.turn HTV.out)).mono ?_); rintro e w2 ⟨rfl, hb2⟩; have G2 := (HGV.out).below' hb2; have X2 := (HXV.out).below' hb2; have F2 := (HFV.out).below' hb2; have T2 := (HTV.out).go hBw hb2; clear x0 x1 x2 x3 x4 x5 x6 x7 x8 x9 x10 x11 x12 x13 y0 y1 y2 y3 y4 y5 y6 z1 f0 f1; obtain ⟨x0, x1, x2, x3, x4, x5, x6, x7, x8, x9, x10, x11, x12, x13⟩ := X2.cSt; obtain ⟨y0, y1, y2, y3, y4, y5, y6⟩ := F2.c7; have z1 := G2.frozen 1; obtain ⟨f0, f1⟩ := G2.c2; have lg2 := G2.lt; have lx2 := X2.lt; have lf2 := F2.lt)) | (go_at_call 59; ((with_reducible refine (nameR x.name hin.out.wf.name _).mono ?_); rintro e w3 ⟨rfl, hb3⟩; have G3 := (G2).below' hb3; have X3 := (X2).below' hb3; have F3 := (F2).below' hb3; have T3 := (T2).go hBw hb3; clear x0 x1 x2 x3 x4 x5 x6 x7 x8 x9 x10 x11 x12 x13 y0 y1 y2 y3 y4 y5 y6 z1 f0 f1; obtain ⟨x0, x1, x2, x3, x4, x5, x6, x7, x8, x9, x10, x11, x12, x13⟩ := X3.cSt; obtain ⟨y0, y1, y2, y3, y4, y5, y6⟩ := F3.c7; have z1 := G3.frozen 1; obtain ⟨f0, f1⟩ := G3.c2; have lg3 := G3.lt; have lx3 := X3.lt; have lf3 := F3.lt)))
            go_meet
            exact ⟨by rw [HO.out]; exact (G3).put 1 _, (X3).far (show w.heap.size ≠ g by omega) _, (F3).far (show fb ≠ g by omega) _, (T3).put hB 1 _⟩
          · have c2 : nameB (bytesOf x.name) = true := ne
            cases ng : decide (x.n < 0)
            · cases lw : lowestD x.cases
              · cases k10 : (x.kind == 10)
                · have HO := Lib.hid (HD.out.trans (show ownS x = _ by unfold ownS; simp only [fm, cn, ne, ng, lw, k10]; rfl))
                  go_wp2_with (first | (go_at_call 85; ((with_reducible refine (formedR x h q B _ (hin.out.turn HTV.out)).mono ?_); rintro e w2 ⟨rfl, hb2⟩; have G2 := (HGV.out).below' hb2; have X2 := (HXV.out).below' hb2; have F2 := (HFV.out).below' hb2; have T2 := (HTV.out).go hBw hb2; clear x0 x1 x2 x3 x4 x5 x6 x7 x8 x9 x10 x11 x12 x13 y0 y1 y2 y3 y4 y5 y6 z1 f0 f1; obtain ⟨x0, x1, x2, x3, x4, x5, x6, x7, x8, x9, x10, x11, x12, x13⟩ := X2.cSt; obtain ⟨y0, y1, y2, y3, y4, y5, y6⟩ := F2.c7; have z1 := G2.frozen 1; obtain ⟨f0, f1⟩ := G2.c2; have lg2 := G2.lt; have lx2 := X2.lt; have lf2 := F2.lt)) | (go_at_call 59; ((with_reducible refine (nameR x.name hin.out.wf.name _).mono ?_); rintro e w3 ⟨rfl, hb3⟩; have G3 := (G2).below' hb3; have X3 := (X2).below' hb3; have F3 := (F2).below' hb3; have T3 := (T2).go hBw hb3; clear x0 x1 x2 x3 x4 x5 x6 x7 x8 x9 x10 x11 x12 x13 y0 y1 y2 y3 y4 y5 y6 z1 f0 f1; obtain ⟨x0, x1, x2, x3, x4, x5, x6, x7, x8, x9, x10, x11, x12, x13⟩ := X3.cSt; obtain ⟨y0, y1, y2, y3, y4, y5, y6⟩ := F3.c7; have z1 := G3.frozen 1; obtain ⟨f0, f1⟩ := G3.c2; have lg3 := G3.lt; have lx3 := X3.lt; have lf3 := F3.lt)) | (go_at_call 86; ((with_reducible refine (lowestR x.cases h.cases.a h.cases.c B q _ hin.out.clen (hin.out.turn T3).crow).mono ?_); rintro e w' ⟨rfl, rfl⟩)))
                  go_meet
                  exact ⟨by rw [HO.out]; exact G3, X3, F3, T3⟩
                · cases a4 : (x.a.kind == 4)
                  · have a5 : (x.a.kind != 4) = true := by rw [bne, a4]; rfl
                    have HO := Lib.hid (HD.out.trans (show ownS x = _ by unfold ownS; simp only [fm, cn, ne, ng, lw, k10, a4]; rfl))
                    go_wp2_with (first | (go_at_call 85; ((with_reducible refine (formedR x h q B _ (hin.out.turn HTV.out)).mono ?_); rintro e w2 ⟨rfl, hb2⟩; have G2 := (HGV.out).below' hb2; have X2 := (HXV.out).below' hb2; have F2 := (HFV.out).below' hb2; have T2 := (HTV.out).go hBw hb2; clear x0 x1 x2 x3 x4 x5 x6 x7 x8 x9 x10 x11 x12 x13 y0 y1 y2 y3 y4 y5 y6 z1 f0 f1; obtain ⟨x0, x1, x2, x3, x4, x5, x6, x7, x8, x9, x10, x11, x12, x13⟩ := X2.cSt; obtain ⟨y0, y1, y2, y3, y4, y5, y6⟩ := F2.c7; have z1 := G2.frozen 1; obtain ⟨f0, f1⟩ := G2.c2; have lg2 := G2.lt; have lx2 := X2.lt; have lf2 := F2.lt)) | (go_at_call 59; ((with_reducible refine (nameR x.name hin.out.wf.name _).mono ?_); rintro e w3 ⟨rfl, hb3⟩; have G3 := (G2).below' hb3; have X3 := (X2).below' hb3; have F3 := (F2).below' hb3; have T3 := (T2).go hBw hb3; clear x0 x1 x2 x3 x4 x5 x6 x7 x8 x9 x10 x11 x12 x13 y0 y1 y2 y3 y4 y5 y6 z1 f0 f1; obtain ⟨x0, x1, x2, x3, x4, x5, x6, x7, x8, x9, x10, x11, x12, x13⟩ := X3.cSt; obtain ⟨y0, y1, y2, y3, y4, y5, y6⟩ := F3.c7; have z1 := G3.frozen 1; obtain ⟨f0, f1⟩ := G3.c2; have lg3 := G3.lt; have lx3 := X3.lt; have lf3 := F3.lt)) | (go_at_call 86; ((with_reducible refine (lowestR x.cases h.cases.a h.cases.c B q _ hin.out.clen (hin.out.turn T3).crow).mono ?_); rintro e w' ⟨rfl, rfl⟩)))
                    go_meet
                    exact ⟨by rw [HO.out]; exact (G3).put 1 _, (X3).far (show w.heap.size ≠ g by omega) _, (F3).far (show fb ≠ g by omega) _, (T3).put hB 1 _⟩
                  · have a5 : (x.a.kind != 4) = false := by rw [bne, a4]; rfl
                    have HO := Lib.hid (HD.out.trans (show ownS x = _ by unfold ownS; simp only [fm, cn, ne, ng, lw, k10, a4]; rfl))
                    go_wp2_with (first | (go_at_call 85; ((with_reducible refine (formedR x h q B _ (hin.out.turn HTV.out)).mono ?_); rintro e w2 ⟨rfl, hb2⟩; have G2 := (HGV.out).below' hb2; have X2 := (HXV.out).below' hb2; have F2 := (HFV.out).below' hb2; have T2 := (HTV.out).go hBw hb2; clear x0 x1 x2 x3 x4 x5 x6 x7 x8 x9 x10 x11 x12 x13 y0 y1 y2 y3 y4 y5 y6 z1 f0 f1; obtain ⟨x0, x1, x2, x3, x4, x5, x6, x7, x8, x9, x10, x11, x12, x13⟩ := X2.cSt; obtain ⟨y0, y1, y2, y3, y4, y5, y6⟩ := F2.c7; have z1 := G2.frozen 1; obtain ⟨f0, f1⟩ := G2.c2; have lg2 := G2.lt; have lx2 := X2.lt; have lf2 := F2.lt)) | (go_at_call 59; ((with_reducible refine (nameR x.name hin.out.wf.name _).mono ?_); rintro e w3 ⟨rfl, hb3⟩; have G3 := (G2).below' hb3; have X3 := (X2).below' hb3; have F3 := (F2).below' hb3; have T3 := (T2).go hBw hb3; clear x0 x1 x2 x3 x4 x5 x6 x7 x8 x9 x10 x11 x12 x13 y0 y1 y2 y3 y4 y5 y6 z1 f0 f1; obtain ⟨x0, x1, x2, x3, x4, x5, x6, x7, x8, x9, x10, x11, x12, x13⟩ := X3.cSt; obtain ⟨y0, y1, y2, y3, y4, y5, y6⟩ := F3.c7; have z1 := G3.frozen 1; obtain ⟨f0, f1⟩ := G3.c2; have lg3 := G3.lt; have lx3 := X3.lt; have lf3 := F3.lt)) | (go_at_call 86; ((with_reducible refine (lowestR x.cases h.cases.a h.cases.c B q _ hin.out.clen (hin.out.turn T3).crow).mono ?_); rintro e w' ⟨rfl, rfl⟩)))
                    go_meet
                    exact ⟨by rw [HO.out]; exact G3, X3, F3, T3⟩
              · have HO := Lib.hid (HD.out.trans (show ownS x = _ by unfold ownS; simp only [fm, cn, ne, ng, lw]; rfl))
                go_wp2_with (first | (go_at_call 85; ((with_reducible refine (formedR x h q B _ (hin.out.turn HTV.out)).mono ?_); rintro e w2 ⟨rfl, hb2⟩; have G2 := (HGV.out).below' hb2; have X2 := (HXV.out).below' hb2; have F2 := (HFV.out).below' hb2; have T2 := (HTV.out).go hBw hb2; clear x0 x1 x2 x3 x4 x5 x6 x7 x8 x9 x10 x11 x12 x13 y0 y1 y2 y3 y4 y5 y6 z1 f0 f1; obtain ⟨x0, x1, x2, x3, x4, x5, x6, x7, x8, x9, x10, x11, x12, x13⟩ := X2.cSt; obtain ⟨y0, y1, y2, y3, y4, y5, y6⟩ := F2.c7; have z1 := G2.frozen 1; obtain ⟨f0, f1⟩ := G2.c2; have lg2 := G2.lt; have lx2 := X2.lt; have lf2 := F2.lt)) | (go_at_call 59; ((with_reducible refine (nameR x.name hin.out.wf.name _).mono ?_); rintro e w3 ⟨rfl, hb3⟩; have G3 := (G2).below' hb3; have X3 := (X2).below' hb3; have F3 := (F2).below' hb3; have T3 := (T2).go hBw hb3; clear x0 x1 x2 x3 x4 x5 x6 x7 x8 x9 x10 x11 x12 x13 y0 y1 y2 y3 y4 y5 y6 z1 f0 f1; obtain ⟨x0, x1, x2, x3, x4, x5, x6, x7, x8, x9, x10, x11, x12, x13⟩ := X3.cSt; obtain ⟨y0, y1, y2, y3, y4, y5, y6⟩ := F3.c7; have z1 := G3.frozen 1; obtain ⟨f0, f1⟩ := G3.c2; have lg3 := G3.lt; have lx3 := X3.lt; have lf3 := F3.lt)) | (go_at_call 86; ((with_reducible refine (lowestR x.cases h.cases.a h.cases.c B q _ hin.out.clen (hin.out.turn T3).crow).mono ?_); rintro e w' ⟨rfl, rfl⟩)))
                go_meet
                exact ⟨by rw [HO.out]; exact (G3).put 1 _, (X3).far (show w.heap.size ≠ g by omega) _, (F3).far (show fb ≠ g by omega) _, (T3).put hB 1 _⟩
            · have HO := Lib.hid (HD.out.trans (show ownS x = _ by unfold ownS; simp only [fm, cn, ne, ng]; rfl))
              go_wp2_with (first | (go_at_call 85; ((with_reducible refine (formedR x h q B _ (hin.out.turn HTV.out)).mono ?_); rintro e w2 ⟨rfl, hb2⟩; have G2 := (HGV.out).below' hb2; have X2 := (HXV.out).below' hb2; have F2 := (HFV.out).below' hb2; have T2 := (HTV.out).go hBw hb2; clear x0 x1 x2 x3 x4 x5 x6 x7 x8 x9 x10 x11 x12 x13 y0 y1 y2 y3 y4 y5 y6 z1 f0 f1; obtain ⟨x0, x1, x2, x3, x4, x5, x6, x7, x8, x9, x10, x11, x12, x13⟩ := X2.cSt; obtain ⟨y0, y1, y2, y3, y4, y5, y6⟩ := F2.c7; have z1 := G2.frozen 1; obtain ⟨f0, f1⟩ := G2.c2; have lg2 := G2.lt; have lx2 := X2.lt; have lf2 := F2.lt)) | (go_at_call 59; ((with_reducible refine (nameR x.name hin.out.wf.name _).mono ?_); rintro e w3 ⟨rfl, hb3⟩; have G3 := (G2).below' hb3; have X3 := (X2).below' hb3; have F3 := (F2).below' hb3; have T3 := (T2).go hBw hb3; clear x0 x1 x2 x3 x4 x5 x6 x7 x8 x9 x10 x11 x12 x13 y0 y1 y2 y3 y4 y5 y6 z1 f0 f1; obtain ⟨x0, x1, x2, x3, x4, x5, x6, x7, x8, x9, x10, x11, x12, x13⟩ := X3.cSt; obtain ⟨y0, y1, y2, y3, y4, y5, y6⟩ := F3.c7; have z1 := G3.frozen 1; obtain ⟨f0, f1⟩ := G3.c2; have lg3 := G3.lt; have lx3 := X3.lt; have lf3 := F3.lt)))
              go_meet
              exact ⟨by rw [HO.out]; exact (G3).put 1 _, (X3).far (show w.heap.size ≠ g by omega) _, (F3).far (show fb ≠ g by omega) _, (T3).put hB 1 _⟩
  case rest =>
    obtain ⟨hgc, hxc, hfc, htc⟩ := hcut
    have HF := Lib.hid ((chkS_5 x lv).trans (on5 _ _ _ _ _ _))
    have hle : Hid (own1 x lv = 0 → lv ≤ 32) := Lib.hid own1_zero
    clear HGV HXV HFV HTV lgv lxv lfv
    revert hgc HF hle
    generalize own1 x lv = e1
    intro hgc HF hle
    have lgc := hgc.lt
    have lxc := hxc.lt
    obtain ⟨x0, x1, x2, x3, x4, x5, x6, x7, x8, x9, x10, x11, x12, x13⟩ := hxc.cSt
    obtain ⟨y0, y1, y2, y3, y4, y5, y6⟩ := hfc.c7
    have lfc := hfc.lt
    have hgq := Lib.hid hgc
    have hxq := Lib.hid hxc
    have hfq := Lib.hid hfc
    have htq := Lib.hid htc
    clear hgc hxc hfc htc
    go_upto_if 69 with fail
    go_cut [] (fun W => Whl W g 85 #[.int .i64 (n0 + 1), .int .i64 (orI e1 (ifA x lv))] ∧ Whl W w.heap.size 42 (stC x h) ∧ Whl W fb 140 (fieldsC x.kind) ∧ Turn B g w W)
    case first =>
      cases ca : cA x.kind
      · have HZ := Lib.hid (show ifA x lv = 0 by unfold ifA; rw [ca]; rfl)
        go_wp2
        go_meet
        exact ⟨by rw [HZ.out, orI_r]; exact hgq.out, hxq.out, hfq.out, htq.out⟩
      · have HZ := Lib.hid (show ifA x lv = chkE x.a (lv + 1) by unfold ifA; rw [ca]; rfl)
        go_wp2_with (go_at_call 87; go_must (refine (exprR x.a h.a (lv + 1) _ (n0 + 1) e1 B g _ hin.out.wf.a (hin.out.turn htq.out).ea hB (by omega) (by omega) hgq.out (fun h0 => by have := hle.out h0; omega)).mono ?_; rintro e w2 ⟨rfl, hgA, hTA⟩))
        go_meet
        exact ⟨by rw [HZ.out]; exact hgA, hTA.keep _ _ _ (by omega) (by decide) hxq.out, hTA.keep _ _ _ (by omega) (by decide) hfq.out, htq.out.trans hTA⟩
    case rest =>
      obtain ⟨hgc, hxc, hfc, htc⟩ := hcut
      clear x0 x1 x2 x3 x4 x5 x6 x7 x8 x9 x10 x11 x12 x13 y0 y1 y2 y3 y4 y5 y6 hgq hxq hfq htq lgc lxc lfc
      have hle2 : Hid (orI e1 (ifA x lv) = 0 → lv ≤ 32) := Lib.hid fun h => hle.out (orI_zero2 h).1
      clear hle
      revert hgc HF hle2
      generalize orI e1 (ifA x lv) = e2
      intro HF hgc hle2
      have lgc := hgc.lt
      have lxc := hxc.lt
      have lfc := hfc.lt
      obtain ⟨x0, x1, x2, x3, x4, x5, x6, x7, x8, x9, x10, x11, x12, x13⟩ := hxc.cSt
      obtain ⟨y0, y1, y2, y3, y4, y5, y6⟩ := hfc.c7
      have hgq := Lib.hid hgc
      have hxq := Lib.hid hxc
      have hfq := Lib.hid hfc
      have htq := Lib.hid htc
      clear hgc hxc hfc htc
      go_upto_if 77 with fail
      go_cut [] (fun W => Whl W g 85 #[.int .i64 (n0 + 1), .int .i64 (orI e2 (ifB x lv))] ∧ Whl W w.heap.size 42 (stC x h) ∧ Turn B g w W)
      case first =>
        cases cb : cB x.kind
        · have HZ := Lib.hid (show ifB x lv = 0 by unfold ifB; rw [cb]; rfl)
          go_wp2
          go_meet
          exact ⟨by rw [HZ.out, orI_r]; exact hgq.out, hxq.out, htq.out⟩
        · have HZ := Lib.hid (show ifB x lv = chkE x.b (lv + 1) by unfold ifB; rw [cb]; rfl)
          go_wp2_with (go_at_call 87; go_must (refine (exprR x.b h.b (lv + 1) _ (n0 + 1) e2 B g _ hin.out.wf.b (hin.out.turn htq.out).eb hB (by omega) (by omega) hgq.out (fun h0 => by have := hle2.out h0; omega)).mono ?_; rintro e w2 ⟨rfl, hgA, hTA⟩))
          go_meet
          exact ⟨by rw [HZ.out]; exact hgA, hTA.keep _ _ _ (by omega) (by decide) hxq.out, htq.out.trans hTA⟩
      case rest =>
        obtain ⟨hgc, hxc, htc⟩ := hcut
        clear x0 x1 x2 x3 x4 x5 x6 x7 x8 x9 x10 x11 x12 x13 y0 y1 y2 y3 y4 y5 y6 hgq hxq hfq htq lgc lxc lfc
        have hle3 : Hid (orI e2 (ifB x lv) = 0 → lv ≤ 32) := Lib.hid fun h => hle2.out (orI_zero2 h).1
        clear hle2
        revert hgc HF hle3
        generalize orI e2 (ifB x lv) = e3
        intro HF hgc hle3
        have lgc := hgc.lt
        have lxc := hxc.lt
        obtain ⟨x0, x1, x2, x3, x4, x5, x6, x7, x8, x9, x10, x11, x12, x13⟩ := hxc.cSt
        have hgq := Lib.hid hgc
        have hxq := Lib.hid hxc
        have htq := Lib.hid htc
        clear hgc hxc htc
        have m1 := chkSs_le x.body (lv + 1)
        have m2 := chkCs_le x.cases (lv + 1)
        have m3 := chkSs_le x.els (lv + 1)
        have m4 := stN_le e3 (chkSs x.body (lv + 1)).n
        have m5 := stN_le (orI e3 (chkSs x.body (lv + 1)).e) (chkCs x.cases (lv + 1)).n
        go_upto_region 18 with (go_at_call 37; go_must (refine (IH.out x.body h.body.a h.body.c (lv + 1) _ (n0 + 1) e3 B g _ (by omega) (hin.out.turn htq.out).body hB (by omega) (by omega) (fun h0 => by have := hle3.out h0; omega) (by omega) (by omega) hgq.out).mono ?_; rintro e w2 ⟨rfl, hg2, hT2⟩; have hx2 := hT2.keep _ _ _ (by omega) (by decide) hxq.out; have ht2 := htq.out.trans hT2))
        have hle4 : Hid (orI e3 (chkSs x.body (lv + 1)).e = 0 → lv ≤ 32) := Lib.hid fun h => hle3.out (orI_zero2 h).1
        clear x0 x1 x2 x3 x4 x5 x6 x7 x8 x9 x10 x11 x12 x13 hgq hxq htq lgc lxc hle3 hT2
        revert hg2 HF hle4 m5 m4
        generalize stN e3 (chkSs x.body (lv + 1)).n = nb
        generalize orI e3 (chkSs x.body (lv + 1)).e = e4
        intro HF m4 m5 hg2 hle4
        go_wp2
        go_loopw [7] (fun i W => ∃ j : Nat, j ≤ x.cases.length ∧ i = .int .i64 j ∧ Whl W g 85 #[.int .i64 (n0 + 1 + nb + (stN e4 (chkCs (x.cases.take j) (lv + 1)).n : Nat)), .int .i64 (orI e4 (chkCs (x.cases.take j) (lv + 1)).e)] ∧ Whl W w.heap.size 42 (stC x h) ∧ Turn B g w W) (fun i _ => x.cases.length - (intOf i).toNat)
        case atStart => exact ⟨0, Nat.zero_le _, rfl, by simpa [chkCs, stN, orI_r] using hg2, hx2, ht2⟩
        case round =>
          obtain ⟨j, hj, rfl, hgk, hxk, htk⟩ := hrel
          have lgk := hgk.lt
          have lxk := hxk.lt
          have d12 : wr.cell? ⟨w.heap.size, 12, none⟩ = some (.slice h.els.a x.els.length h.els.c) := hxk.cell 12
          have d13 : wr.cell? ⟨w.heap.size, 13, none⟩ = some (.slice h.cases.a x.cases.length h.cases.c) := hxk.cell 13
          have hcl : x.cases.length * 32 ≤ 140737488351232 := hin.out.clen
          have m6 := stN_le e4 (chkCs (x.cases.take j) (lv + 1)).n
          have m7 := chkCs_le (x.cases.take j) (lv + 1)
          have m8 := cntCs_cut x.cases j
          have hgq := Lib.hid hgk
          have htq := Lib.hid htk
          clear hgk
          by_cases hlt : j < x.cases.length
          · obtain ⟨b2, off2, hca, c0, c1⟩ := (hin.out.turn htk).crow.ca hlt
            have lb2 : b2 < wr.heap.size := World.block_lt_of_cell? _ _ c0
            rw [hca] at d13
            clear hca
            have hcs2 := Lib.hid (chkCs_snoc (lv := lv + 1) hlt)
            have hso := Lib.hid (st_on e4 (chkCs (x.cases.take j) (lv + 1)) (chkSs (nthC x.cases j).body (lv + 1)))
            have s1 : SizeOf.sizeOf (nthC x.cases j) < SizeOf.sizeOf x.cases := getD_size _ hlt
            have s2 := cbody_size (nthC x.cases j)
            have m9 := cntCs_snoc hlt
            have m10 := cntCs_cut x.cases (j + 1)
            have m11 := cntC_eq (nthC x.cases j)
            go_wp2_with (go_at_call 37; go_must (refine (IH.out (nthC x.cases j).body (q j).a (q j).c (lv + 1) _ _ _ B g wr (by omega) ((hin.out.turn htk).cbody j hlt) hB (by omega) (by omega) (fun h0 => by have := hle4.out (orI_zero2 h0).1; omega) (by omega) (by omega) hgq.out).mono ?_; rintro e w3 ⟨rfl, hg3, hT3⟩))
            go_roundw
            case rel => exact ⟨j + 1, by omega, by go_num, by rw [hcs2.out, ← hso.out.1, ← hso.out.2]; rw [show n0 + 1 + (nb : Int) + ((stN e4 (chkCs (x.cases.take j) (lv + 1)).n + stN (orI e4 (chkCs (x.cases.take j) (lv + 1)).e) (chkSs (nthC x.cases j).body (lv + 1)).n : Nat) : Int) = n0 + 1 + (nb : Int) + (stN e4 (chkCs (x.cases.take j) (lv + 1)).n : Int) + (stN (orI e4 (chkCs (x.cases.take j) (lv + 1)).e) (chkSs (nthC x.cases j).body (lv + 1)).n : Int) by omega]; exact hg3, hT3.keep _ _ _ (by omega) (by decide) hxk, htk.trans hT3⟩
            case measure => simp [intOf]; omega
          · obtain rfl : j = x.cases.length := by omega
            rw [List.take_length] at m6 m7
            have hgz := hgq.out
            rw [List.take_length] at hgz
            have HGZ := Lib.hid hgz
            clear hgz
            go_wp2_with (go_at_call 37; go_must (refine (IH.out x.els h.els.a h.els.c (lv + 1) _ _ _ B g wr (by omega) (hin.out.turn htk).els hB (by omega) (by omega) (fun h0 => by have := hle4.out (orI_zero2 h0).1; omega) (by omega) (by omega) HGZ.out).mono ?_; rintro e w3 ⟨rfl, hg3, hT3⟩))
            refine end_of ?_ rfl
            refine ⟨_, by simp [results, Tryz.results60, go_sem], rfl, ?_, htk.trans hT3⟩
            rw [HF.out]
            simp only
            rw [show n0 + ((1 + nb + stN e4 (chkCs x.cases (lv + 1)).n + stN (orI e4 (chkCs x.cases (lv + 1)).e) (chkSs x.els (lv + 1)).n : Nat) : Int) = n0 + 1 + (nb : Int) + (stN e4 (chkCs x.cases (lv + 1)).n : Int) + (stN (orI e4 (chkCs x.cases (lv + 1)).e) (chkSs x.els (lv + 1)).n : Int) by omega]
            exact hg3
end Go.Proofs.YtdddppmfeoebgaaGreatDoor
