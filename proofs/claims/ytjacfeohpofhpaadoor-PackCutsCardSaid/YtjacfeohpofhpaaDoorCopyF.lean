/-
  Layer 9 (code): CopyFunc of the reference: a function of a module, its lists made anew.
-/
import Derived.Test.YtjacfeohpofhpaaDoorOwn
import Derived.Test.YtjacfeohpofhpaaDoorPlainC
namespace Go.Proofs.YtjacfeohpofhpaaDoor
open Go.RowKit
set_option linter.unusedSimpArgs false
set_option linter.unusedVariables false
theorem infoS : (Tryd.prog.info? 50).map (fun i => (i.zero, i.size, i.bytes)) = some (some (.agg #[.int .i64 0, .int .i64 0]), 2, 16) := by kernel_rfl
theorem infoX : (Tryd.prog.info? 52).map (fun i => (i.zero, i.size, i.bytes)) = some (some (.agg #[.int .i64 0, .int .i64 0, .int .i64 0, .int .i64 0, .int .i64 0]), 5, 40) := by kernel_rfl
theorem infoF : (Tryd.prog.info? 45).map (fun i => (i.zero, i.size, i.bytes)) = some (some (.agg #[.string .empty, .slice none 0 0, .int .i64 0, .int .i64 0, .slice none 0 0]), 5, 80) := by kernel_rfl
theorem info64 : (Tryd.prog.info? 2).map (fun i => (i.zero, i.size, i.bytes)) = some (some (.int .i64 0), 1, 8) := by kernel_rfl
/-- An empty row that has just been made. -/
theorem own_made0 {w : World} {base : Nat} (e : TypeId) (sz k : Nat) (hb : base ≤ w.heap.size) (hk : w.heap.size = k) : (w.alloc (.cells #[] e)).ownsRow base e sz (.slice (some ⟨k, 0, none⟩) 0 0) 0 [] := by
  subst hk
  have := World.ownsRow_made (base := base) (e := e) (size := sz) w #[] 0 hb (by decide) (by simp)
  simpa using this
/-- What lies in memory while CopyFunc runs: the function's box and the result's. -/
structure CF (w : World) (f : FuncD) (P C : Value) (W : World) : Prop where
  below : Below w.heap.size w W
  bx : Whl W w.heap.size 45 #[.string f.name, P, .int .i64 f.regs, .int .i64 f.words, C]
  br : Whl W (w.heap.size + 1) 45 #[.string { data := #[] }, .slice none 0 0, .int .i64 0, .int .i64 0, .slice none 0 0]
theorem CF.start (w : World) (f : FuncD) (P C : Value) : CF w f P C ((w.alloc (.cells #[.string f.name, P, .int .i64 f.regs, .int .i64 f.words, C] 45)).alloc (.cells #[.string { data := #[] }, .slice none 0 0, .int .i64 0, .int .i64 0, .slice none 0 0] 45)) := by
  refine ⟨below_alloc (below_alloc (Below.refl _ _) _) _, (Whl.new _ _ _).alloc _, ?_⟩
  have := Whl.new (w.alloc (.cells #[.string f.name, P, .int .i64 f.regs, .int .i64 f.words, C] 45)) 45 #[.string { data := #[] }, .slice none 0 0, .int .i64 0, .int .i64 0, .slice none 0 0]
  rwa [World.size_alloc] at this
theorem CF.alloc {w W : World} {f : FuncD} {P C : Value} (h : CF w f P C W) (o : Obj) : CF w f P C (W.alloc o) := ⟨below_alloc h.below _, h.bx.alloc _, h.br.alloc _⟩
theorem CF.grown {w W W' : World} {f : FuncD} {P C : Value} {row : Option Nat} (h : CF w f P C W) (hg : W.grownBy W' row) (hr : ∀ r, row = some r → w.heap.size + 2 ≤ r) : CF w f P C W' :=
  ⟨h.below.grown hg h.below.size (fun k hk => by have := hr k hk; omega), h.bx.grown hg (fun e => by have := hr _ e.symm; omega), h.br.grown hg (fun e => by have := hr _ e.symm; omega)⟩
theorem CF.putP {w W : World} {f : FuncD} {P C P2 : Value} (h : CF w f P C W) : CF w f P2 C (W.setCell ⟨w.heap.size, 1, none⟩ P2) :=
  ⟨h.below.setCell (by simp) _, by simpa using h.bx.put 1 P2, h.br.far (by simp) _⟩
theorem CF.putC {w W : World} {f : FuncD} {P C C2 : Value} (h : CF w f P C W) : CF w f P C2 (W.setCell ⟨w.heap.size, 4, none⟩ C2) :=
  ⟨h.below.setCell (by simp) _, by simpa using h.bx.put 4 C2, h.br.far (by simp) _⟩
theorem CF.cells {w W : World} {f : FuncD} {P C : Value} (h : CF w f P C W) : W.cell? ⟨w.heap.size, 0, none⟩ = some (.string f.name) ∧ W.cell? ⟨w.heap.size, 1, none⟩ = some P ∧ W.cell? ⟨w.heap.size, 2, none⟩ = some (.int .i64 f.regs) ∧
    W.cell? ⟨w.heap.size, 3, none⟩ = some (.int .i64 f.words) ∧ W.cell? ⟨w.heap.size, 4, none⟩ = some C := ⟨h.bx.cell 0, h.bx.cell 1, h.bx.cell 2, h.bx.cell 3, h.bx.cell 4⟩
theorem CF.fz {w W : World} {f : FuncD} {P C : Value} (h : CF w f P C W) : W.frozen? ⟨w.heap.size, 1, none⟩ = false ∧ W.frozen? ⟨w.heap.size, 4, none⟩ = false := ⟨h.bx.frozen 1, h.bx.frozen 4⟩
theorem CF.rcells {w W : World} {f : FuncD} {P C : Value} (h : CF w f P C W) : W.cell? ⟨w.heap.size + 1, 0, none⟩ = some (.string { data := #[] }) ∧ W.cell? ⟨w.heap.size + 1, 1, none⟩ = some (.slice none 0 0) ∧ W.cell? ⟨w.heap.size + 1, 2, none⟩ = some (.int .i64 0) ∧
    W.cell? ⟨w.heap.size + 1, 3, none⟩ = some (.int .i64 0) ∧ W.cell? ⟨w.heap.size + 1, 4, none⟩ = some (.slice none 0 0) := ⟨h.br.cell 0, h.br.cell 1, h.br.cell 2, h.br.cell 3, h.br.cell 4⟩
theorem CF.rfz {w W : World} {f : FuncD} {P C : Value} (h : CF w f P C W) : W.frozen? ⟨w.heap.size + 1, 0, none⟩ = false ∧ W.frozen? ⟨w.heap.size + 1, 1, none⟩ = false ∧ W.frozen? ⟨w.heap.size + 1, 2, none⟩ = false ∧ W.frozen? ⟨w.heap.size + 1, 3, none⟩ = false ∧ W.frozen? ⟨w.heap.size + 1, 4, none⟩ = false := ⟨h.br.frozen 0, h.br.frozen 1, h.br.frozen 2, h.br.frozen 3, h.br.frozen 4⟩
theorem spV_one (s : Sp) (j : Nat) : (spV s j).oneCell' = true := by unfold spV; split <;> rfl
theorem insV_one (x : InsD) (j : Nat) : (insV x j).oneCell' = true := by unfold insV; split <;> rfl
theorem funcV_one (f : FuncD) (j : Nat) : (funcV f j).oneCell' = true := by unfold funcV; split <;> rfl
set_option maxRecDepth 100000 in
set_option maxHeartbeats 4000000 in
theorem copyFuncR (f : FuncD) (w : World) (wf : f.Wf) (nf : f.Nils) (hf : FuncOk w w.heap.size f) :
    Calls Tryd.prog 15 #[f.val] w fun e w' => (∃ g : FuncD, e = .returned g.val ∧ bare g = bare f ∧ OwnF w' w.heap.size g) ∧ Below w.heap.size w w' := by
  obtain ⟨iS, hiS, zS0, zS1, zS2⟩ := info_parts infoS
  obtain ⟨iX, hiX, zX0, zX1, zX2⟩ := info_parts infoX
  have HF := Lib.hid hf; clear hf
  have hpl := wf.plen
  have hcl := wf.clen
  have H0 := CF.start w f (.slice f.pa f.params.length f.pc) (.slice f.ca f.code.length f.cc)
  have h00 : (((w.alloc (.cells #[.string f.name, .slice f.pa f.params.length f.pc, .int .i64 f.regs, .int .i64 f.words, .slice f.ca f.code.length f.cc] 45)).alloc (.cells #[.string { data := #[] }, .slice none 0 0, .int .i64 0, .int .i64 0, .slice none 0 0] 45)).alloc (.cells #[] 50)).ownsRow w.heap.size 50 2 (.slice (some ⟨w.heap.size + 1 + 1, 0, none⟩) 0 0) 0 [] := own_made0 _ _ _ H0.below.size (by simp)
  go_enter Tryd.func15, Tryd.ntmps15
  go_wp2_with (first
    | (at_builtin
       refine wpList_append_any rfl _ _ _ rfl w.heap.size 50 iS (.agg #[.int .i64 0, .int .i64 0]) 2 16 Tryd.underlying42 hiS zS0 zS1 zS2 rfl (by decide) _ 0 [] rfl h00 f.pa f.params.length f.pc (fun k => spV (nthS f.params k)) rfl ((HF.out.params.below (below_alloc H0.below _) (Nat.le_refl _)).more (below_alloc H0.below _).size) nf.p (fun k j => spV_one _ j) (by unfold maxLen; omega) (by omega) (below_alloc H0.below _).size ?_
       intro v1 w1 own1 hg1
       rw [Nat.zero_add, List.nil_append] at own1
       have H1 := (H0.alloc (.cells #[] 50)).grown hg1 (fun r hr => by cases hr; first | (simp; done) | (simp; omega))
       obtain ⟨A1, c1, rfl, nl1⟩ := own_slice own1
       obtain ⟨d0, d1, d2, d3, d4⟩ := H1.cells
       obtain ⟨z1, z4⟩ := H1.fz
       have l0 : w.heap.size < w1.heap.size := H1.bx.lt
       have l1 : w.heap.size + 1 < w1.heap.size := H1.br.lt
       have H1P := H1.putP (P2 := .slice A1 f.params.length c1)
       have H2 := H1P.alloc (.cells #[] 52))
    | (at_builtin
       refine wpList_append_any rfl _ _ _ rfl w.heap.size 52 iX (.agg #[.int .i64 0, .int .i64 0, .int .i64 0, .int .i64 0, .int .i64 0]) 5 40 Tryd.underlying43 hiX zX0 zX1 zX2 rfl (by decide) _ 0 [] rfl (own_made0 _ _ _ H1P.below.size (by simp)) f.ca f.code.length f.cc (fun k => insV (nthX f.code k)) rfl ((HF.out.code.below H2.below (Nat.le_refl _)).more H2.below.size) nf.c (fun k j => insV_one _ j) (by unfold maxLen; omega) (by omega) H2.below.size ?_
       intro v2 w2 own2 hg2
       rw [Nat.zero_add, List.nil_append] at own2
       have H3 := H2.grown hg2 (fun r hr => by cases hr; first | (simp; done) | (simp; omega))
       obtain ⟨A2, c2, rfl, nl2⟩ := own_slice own2
       obtain ⟨e0, e1, e2, e3, e4⟩ := H3.cells
       obtain ⟨y1, y4⟩ := H3.fz
       obtain ⟨r0, r1, r2, r3, r4⟩ := H3.rcells
       obtain ⟨q0, q1, q2, q3, q4⟩ := H3.rfz
       have l3 : w.heap.size < w2.heap.size := H3.bx.lt
       have l2 : w.heap.size + 1 < w2.heap.size := H3.br.lt))
  have a1 : Value.ownBlock (.slice A1 f.params.length c1) ≠ some w.heap.size := fun e => own_whl own1 H1.bx (by decide) e.symm
  have a2 : Value.ownBlock (.slice A1 f.params.length c1) ≠ some (w.heap.size + 1) := fun e => own_whl own1 H1.br (by decide) e.symm
  have b1 : Value.ownBlock (.slice A2 f.code.length c2) ≠ some w.heap.size := fun e => own_whl own2 H3.bx (by decide) e.symm
  have b2 : Value.ownBlock (.slice A2 f.code.length c2) ≠ some (w.heap.size + 1) := fun e => own_whl own2 H3.br (by decide) e.symm
  have o1 := ((own_far own1 (.slice A1 f.params.length c1) (p := ⟨w.heap.size, 1, none⟩) a1).alloc (.cells #[] 52)).kept hg2 (by
    cases h : Value.ownBlock (.slice A1 f.params.length c1) with
    | none => exact .inl rfl
    | some k =>
      refine .inr fun e => ?_
      have hk := (own1.lt k h).2
      have e' : some k = some w1.heap.size := e
      injection e' with e'
      omega)
  refine ret_of ?_ rfl
  refine ⟨(⟨f.name, A1, c1, f.params, f.regs, f.words, A2, c2, f.code⟩ : FuncD).val, ?_, ⟨⟨f.name, A1, c1, f.params, f.regs, f.words, A2, c2, f.code⟩, rfl, rfl, ?_, ?_⟩, ?_⟩
  · simp [results, Tryd.results15, go_sem, r0, r1, r2, r3, r4, q0, q1, q2, q3, q4]
  · exact own_far (own_far (own_far (own_far (own_far (own_far o1 _ a1) _ a2) _ a2) _ a2) _ a2) _ a2
  · exact own_far (own_far (own_far (own_far (own_far (own_far own2 _ b1) _ b2) _ b2) _ b2) _ b2) _ b2
  · exact (((((H3.below.setCell (by simp) _).setCell (by simp) _).setCell (by simp) _).setCell (by simp) _).setCell (by simp) _).setCell (by simp) _
end Go.Proofs.YtjacfeohpofhpaaDoor
