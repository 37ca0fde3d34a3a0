/-
  Layer 16 (bounds): StepB.
-/
import Derived.Test.YtddobhneplfddaaDoorV15
import Derived.Test.YtddobhneplfddaaDoorV30
namespace Go.Proofs.YtddobhneplfddaaDoor
set_option maxRecDepth 100000
open Go.RowKit
set_option linter.unusedSimpArgs false
set_option linter.unusedVariables false
theorem infoJ : (Tryd.prog.info? 2).map (fun i => (i.zero, i.size, i.bytes)) = some (some (.int .i64 0), 1, 8) := by kernel_rfl
theorem atI_nat (r : List Int) (k : Nat) : atI r (k : Int) = r.getD k 0 := by rw [atI, Int.toNat_natCast]
set_option maxHeartbeats 20000000 in
theorem stepR (m : ModD) (wm : m.Wf) (hmay : mayD m = ⟨0, 0, 0⟩) {kf frm : Nat} (hkm : kf < m.funcs.length) (hfrm : frm < (nthF m.funcs kf).code.length) (r : List Int) (hr : (r.length : Int) = (nthF m.funcs kf).regs) (hw64 : ∀ k, In64 (r.getD k 0)) (ans : Int) (A : Option Addr) (c0 : Nat) (w : World) (hM : ModOk w w.heap.size m) (hA : IntsAt w w.heap.size A r) :
    Calls Tryd.prog 24 #[m.val, (nthF m.funcs kf).val, .int .i64 frm, .slice A r.length c0, .int .i64 ans] w (StepOk w (stepM m (nthF m.funcs kf) frm (nthX (nthF m.funcs kf).code frm) r ans)) := by
  have hf := f_ok hmay hkm
  obtain ⟨hwords, hcode, _⟩ := f_ok2 hmay hkm
  have hi := i_ok (hf.ins frm hfrm)
  have hI : InsAt w w.heap.size (nthF m.funcs kf).ca (nthF m.funcs kf).code := (hM.each kf hkm).code
  have hreg := hf.regs
  have xw : (nthX (nthF m.funcs kf).code frm).Wf := (wm.funcs _ (nthF_mem hkm)).code _ (nthX_mem hfrm)
  have hnn : In64 (nthX (nthF m.funcs kf).code frm).n := xw.2.2.2.2
  have hnf := (may_few hmay).2
  have hcu := fun (a b c n : Int) => c_unused (m := m) (f := nthF m.funcs kf) (k := frm) (a := a) (b := b) (c := c) (n := n) (hf.ins frm hfrm)
  generalize hx : nthX (nthF m.funcs kf).code frm = x at hi hnn hcu
  obtain ⟨op, a, b, c, n⟩ := x
  have hk := op_cases hi.known
  simp only at hk hnn
  clear xw
  obtain ⟨cb, co, hca, hcb, hcc⟩ := hI (by omega)
  have x0 := hcc frm hfrm 0 (by omega)
  have x1 := hcc frm hfrm 1 (by omega)
  have x2 := hcc frm hfrm 2 (by omega)
  have x3 := hcc frm hfrm 3 (by omega)
  have x4 := hcc frm hfrm 4 (by omega)
  simp only [hx, insV, Nat.add_zero] at x0 x1 x2 x3 x4
  obtain ⟨iS, hiS, zS0, zS1, zS2⟩ := info_parts infoJ
  have HK := Lib.hid hk
  have HX := Lib.hid hi
  have HM := Lib.hid hM
  have HA := Lib.hid hA
  have HN := Lib.hid hnn
  have HCU := Lib.hid hcu
  have H64 := Lib.hid hw64
  have HRG := Lib.hid hr
  have HHX := Lib.hid hx
  have hlen : 1 ≤ r.length ∧ r.length ≤ 64 := by omega
  obtain ⟨F, hF⟩ : ∃ F, nthF m.funcs kf = F := ⟨_, rfl⟩
  rw [hF] at hca hwords hcode hfrm HX HRG ⊢
  have HF := Lib.hid hF
  clear hk hi hM hA hnn hcu hw64 hr hx hcc hI hf hF hreg
  have hfr : ((frm : Nat) : Int) < (F.code.length : Int) := by omega
  have h00 : ((((w.alloc (.cells #[.slice m.ta m.ths.length m.tc, .slice m.fa m.funcs.length m.fc] 25)).alloc (.cells #[.string F.name, .slice F.pa F.params.length F.pc, .int .i64 F.regs, .int .i64 F.words, .slice (some ⟨cb, co, none⟩) F.code.length F.cc] 48)).alloc (.cells #[.int .i64 op, .int .i64 a, .int .i64 b, .int .i64 c, .int .i64 n] 65)).alloc (.cells #[] 2)).ownsRow w.heap.size 2 1 (.slice (some ⟨w.heap.size + 1 + 1 + 1, 0, none⟩) 0 0) 0 [] := own_made0 _ _ _ (by simp; omega) (by simp)
  have hsrc : RowsAt ((((w.alloc (.cells #[.slice m.ta m.ths.length m.tc, .slice m.fa m.funcs.length m.fc] 25)).alloc (.cells #[.string F.name, .slice F.pa F.params.length F.pc, .int .i64 F.regs, .int .i64 F.words, .slice (some ⟨cb, co, none⟩) F.code.length F.cc] 48)).alloc (.cells #[.int .i64 op, .int .i64 a, .int .i64 b, .int .i64 c, .int .i64 n] 65)).alloc (.cells #[] 2)) ((((w.alloc (.cells #[.slice m.ta m.ths.length m.tc, .slice m.fa m.funcs.length m.fc] 25)).alloc (.cells #[.string F.name, .slice F.pa F.params.length F.pc, .int .i64 F.regs, .int .i64 F.words, .slice (some ⟨cb, co, none⟩) F.code.length F.cc] 48)).alloc (.cells #[.int .i64 op, .int .i64 a, .int .i64 b, .int .i64 c, .int .i64 n] 65)).alloc (.cells #[] 2)).heap.size A r.length 1 (fun k _ => .int .i64 (nthI r k)) := fun h0 => by
    obtain ⟨b1, o1, e1, hb1, hc1⟩ := HA.out h0
    refine ⟨b1, o1, e1, by simp only [World.size_alloc]; omega, fun k hk j hj => ?_⟩
    obtain rfl : j = 0 := by omega
    rw [show o1 + k * 1 + 0 = o1 + k by omega, (below_alloc (below_alloc (below_alloc (below_alloc (Below.refl w.heap.size w) _) _) _) _).cell (p := ⟨b1, o1 + k, none⟩) hb1]
    exact hc1 k hk
  have hnil : A = none → c0 = 0 := fun e => by obtain ⟨_, _, e2, _⟩ := HA.out (by omega); rw [e] at e2; cases e2
  go_enter Tryd.func24, Tryd.ntmps24
  go_upto_region 4 with (at_builtin; refine wpList_append_any rfl _ _ _ rfl w.heap.size 2 iS (.int .i64 0) 1 8 Tryd.underlying22 hiS zS0 zS1 zS2 rfl (by decide) _ 0 [] rfl h00 A r.length c0 (fun k _ => .int .i64 (nthI r k)) rfl hsrc hnil (fun _ _ => rfl) (by unfold maxLen; omega) (by omega) (by simp; omega) ?_; intro v1 w1 own1 hg1; obtain ⟨g, cp, rfl, ww⟩ := stepNew (x := ⟨op, a, b, c, n⟩) (by omega) rfl rfl rfl rfl rfl rfl own1 hg1; clear own1 hg1)
  have y0 := ww.x0
  have y1 := ww.x1
  have y2 := ww.x2
  have y3 := ww.x3
  have y4 := ww.x4
  have yw := ww.wd
  have yf := ww.fs
  have ls := ww.size
  have lg := ww.row.lt
  obtain ⟨ib, io, rfl, hib, hic⟩ := HA.out (by omega)
  have hin : ∀ k, k < r.length → w1.cell? ⟨ib, io + k, none⟩ = some (.int .i64 (r.getD k 0)) := fun k hk => by
    rw [ww.below.cell (p := ⟨ib, io + k, none⟩) hib]; exact hic k hk
  have HIN := Lib.hid hin
  simp only at y0 y1 y2 y3 y4
  clear hic hin hsrc h00 hnil hca x0 x1 x2 x3 x4
  have lib : ib < w1.heap.size := by have := ww.below.size; omega
  rcases HK.out with rfl | rfl | rfl | rfl | rfl | rfl | rfl | rfl | rfl | rfl | rfl | rfl | rfl | rfl | rfl | rfl | rfl | rfl | rfl | rfl
  · have e : stepM m F frm ⟨0, a, b, c, n⟩ r ans = none := by simp [stepM]
    have HE := Lib.hid e
    clear e
    go_wp2
    exact bodyPost_ret (v := .tuple #[.int .i64 0, .slice none 0 0, .bool false]) (by simp [results, Tryd.results24, go_sem]) rfl (by rw [HE.out]; exact ww.no)
  · skip
    obtain ⟨ka, rfl, la⟩ := nat_of (HX.out.a rfl)
    have ha : ka < r.length := by have := HRG.out; omega
    have na : ((ka : Nat) : Int) < (r.length : Int) := by omega
    obtain ⟨rca, rfa⟩ := ww.row.cell ha
    have e : stepM m F frm ⟨1, ((ka : Nat) : Int), b, c, n⟩ r ans = some ((frm : Int) + 1, setI r ka n) := by simp [stepM, atI_nat]
    have HE := Lib.hid e
    clear e
    go_wp2
    exact bodyPost_ret (v := .tuple #[.int .i64 ((frm : Int) + 1), .slice (some ⟨g, 0, none⟩) r.length cp, .bool true]) (by simp [results, Tryd.results24, go_sem]) rfl (by rw [HE.out]; exact ww.put _ ha _)
  · skip
    obtain ⟨ka, rfl, la⟩ := nat_of (HX.out.a rfl)
    have ha : ka < r.length := by have := HRG.out; omega
    have na : ((ka : Nat) : Int) < (r.length : Int) := by omega
    obtain ⟨rca, rfa⟩ := ww.row.cell ha
    obtain ⟨kb, rfl, lb⟩ := nat_of (HX.out.b rfl)
    have hb : kb < r.length := by have := HRG.out; omega
    have nb : ((kb : Nat) : Int) < (r.length : Int) := by omega
    have qb := HIN.out kb hb
    have e : stepM m F frm ⟨2, ((ka : Nat) : Int), ((kb : Nat) : Int), c, n⟩ r ans = some ((frm : Int) + 1, setI r ka (r.getD kb 0)) := by simp [stepM, atI_nat]
    have HE := Lib.hid e
    clear e
    generalize r.getD kb 0 = vb at *
    go_wp2
    go_region
    go_wp2
    exact bodyPost_ret (v := .tuple #[.int .i64 ((frm : Int) + 1), .slice (some ⟨g, 0, none⟩) r.length cp, .bool true]) (by simp [results, Tryd.results24, go_sem]) rfl (by rw [HE.out]; exact ww.drew.put _ ha _)
  · skip
    obtain ⟨ka, rfl, la⟩ := nat_of (HX.out.a rfl)
    have ha : ka < r.length := by have := HRG.out; omega
    have na : ((ka : Nat) : Int) < (r.length : Int) := by omega
    obtain ⟨rca, rfa⟩ := ww.row.cell ha
    obtain ⟨kb, rfl, lb⟩ := nat_of (HX.out.b rfl)
    have hb : kb < r.length := by have := HRG.out; omega
    have nb : ((kb : Nat) : Int) < (r.length : Int) := by omega
    have qb := HIN.out kb hb
    obtain ⟨kc, rfl, lc⟩ := nat_of (HX.out.c rfl)
    have hc : kc < r.length := by have := HRG.out; omega
    have nc : ((kc : Nat) : Int) < (r.length : Int) := by omega
    have qc := HIN.out kc hc
    have e : stepM m F frm ⟨3, ((ka : Nat) : Int), ((kb : Nat) : Int), ((kc : Nat) : Int), n⟩ r ans = if opOk 3 (r.getD kc 0) then some ((frm : Int) + 1, setI r ka (opV 3 (r.getD kb 0) (r.getD kc 0))) else none := by simp [stepM, atI_nat, atI]
    have HE := Lib.hid e
    clear e
    generalize r.getD kb 0 = vb at *
    generalize r.getD kc 0 = vc at *
    have hQ := fun w' => (opR 3 vb vc w').mono (R' := fun e w2 => e = .returned (.tuple #[.int .i64 (opV 3 vb vc), .bool (opOk 3 vc)]) ∧ w2 = w') fun _ _ ⟨h1, h2⟩ => ⟨h1, h2.symm⟩
    generalize opV 3 vb vc = ov at *
    have HQ := Lib.hid hQ
    clear hQ
    cases ho : opOk 3 vc
    all_goals
      rw [ho] at HQ HE
      clear ho
      go_wp2
      go_quiet ((go_at_call 47; exact Calls.quiet_of_same (HQ.out _)))
      go_wp2
    · exact bodyPost_ret (v := .tuple #[.int .i64 0, .slice none 0 0, .bool false]) (by simp [results, Tryd.results24, go_sem]) rfl (by rw [HE.out]; exact (ww.drewN _).no)
    · exact bodyPost_ret (v := .tuple #[.int .i64 ((frm : Int) + 1), .slice (some ⟨g, 0, none⟩) r.length cp, .bool true]) (by simp [results, Tryd.results24, go_sem]) rfl (by rw [HE.out]; exact (ww.drewN _).put _ ha _)
  · skip
    obtain ⟨ka, rfl, la⟩ := nat_of (HX.out.a rfl)
    have ha : ka < r.length := by have := HRG.out; omega
    have na : ((ka : Nat) : Int) < (r.length : Int) := by omega
    obtain ⟨rca, rfa⟩ := ww.row.cell ha
    obtain ⟨kb, rfl, lb⟩ := nat_of (HX.out.b rfl)
    have hb : kb < r.length := by have := HRG.out; omega
    have nb : ((kb : Nat) : Int) < (r.length : Int) := by omega
    have qb := HIN.out kb hb
    obtain ⟨kc, rfl, lc⟩ := nat_of (HX.out.c rfl)
    have hc : kc < r.length := by have := HRG.out; omega
    have nc : ((kc : Nat) : Int) < (r.length : Int) := by omega
    have qc := HIN.out kc hc
    have e : stepM m F frm ⟨4, ((ka : Nat) : Int), ((kb : Nat) : Int), ((kc : Nat) : Int), n⟩ r ans = if opOk 4 (r.getD kc 0) then some ((frm : Int) + 1, setI r ka (opV 4 (r.getD kb 0) (r.getD kc 0))) else none := by simp [stepM, atI_nat, atI]
    have HE := Lib.hid e
    clear e
    generalize r.getD kb 0 = vb at *
    generalize r.getD kc 0 = vc at *
    have hQ := fun w' => (opR 4 vb vc w').mono (R' := fun e w2 => e = .returned (.tuple #[.int .i64 (opV 4 vb vc), .bool (opOk 4 vc)]) ∧ w2 = w') fun _ _ ⟨h1, h2⟩ => ⟨h1, h2.symm⟩
    generalize opV 4 vb vc = ov at *
    have HQ := Lib.hid hQ
    clear hQ
    cases ho : opOk 4 vc
    all_goals
      rw [ho] at HQ HE
      clear ho
      go_wp2
      go_quiet ((go_at_call 47; exact Calls.quiet_of_same (HQ.out _)))
      go_wp2
    · exact bodyPost_ret (v := .tuple #[.int .i64 0, .slice none 0 0, .bool false]) (by simp [results, Tryd.results24, go_sem]) rfl (by rw [HE.out]; exact (ww.drewN _).no)
    · exact bodyPost_ret (v := .tuple #[.int .i64 ((frm : Int) + 1), .slice (some ⟨g, 0, none⟩) r.length cp, .bool true]) (by simp [results, Tryd.results24, go_sem]) rfl (by rw [HE.out]; exact (ww.drewN _).put _ ha _)
  · skip
    obtain ⟨ka, rfl, la⟩ := nat_of (HX.out.a rfl)
    have ha : ka < r.length := by have := HRG.out; omega
    have na : ((ka : Nat) : Int) < (r.length : Int) := by omega
    obtain ⟨rca, rfa⟩ := ww.row.cell ha
    obtain ⟨kb, rfl, lb⟩ := nat_of (HX.out.b rfl)
    have hb : kb < r.length := by have := HRG.out; omega
    have nb : ((kb : Nat) : Int) < (r.length : Int) := by omega
    have qb := HIN.out kb hb
    obtain ⟨kc, rfl, lc⟩ := nat_of (HX.out.c rfl)
    have hc : kc < r.length := by have := HRG.out; omega
    have nc : ((kc : Nat) : Int) < (r.length : Int) := by omega
    have qc := HIN.out kc hc
    have e : stepM m F frm ⟨5, ((ka : Nat) : Int), ((kb : Nat) : Int), ((kc : Nat) : Int), n⟩ r ans = if opOk 5 (r.getD kc 0) then some ((frm : Int) + 1, setI r ka (opV 5 (r.getD kb 0) (r.getD kc 0))) else none := by simp [stepM, atI_nat, atI]
    have HE := Lib.hid e
    clear e
    generalize r.getD kb 0 = vb at *
    generalize r.getD kc 0 = vc at *
    have hQ := fun w' => (opR 5 vb vc w').mono (R' := fun e w2 => e = .returned (.tuple #[.int .i64 (opV 5 vb vc), .bool (opOk 5 vc)]) ∧ w2 = w') fun _ _ ⟨h1, h2⟩ => ⟨h1, h2.symm⟩
    generalize opV 5 vb vc = ov at *
    have HQ := Lib.hid hQ
    clear hQ
    cases ho : opOk 5 vc
    all_goals
      rw [ho] at HQ HE
      clear ho
      go_wp2
      go_quiet ((go_at_call 47; exact Calls.quiet_of_same (HQ.out _)))
      go_wp2
    · exact bodyPost_ret (v := .tuple #[.int .i64 0, .slice none 0 0, .bool false]) (by simp [results, Tryd.results24, go_sem]) rfl (by rw [HE.out]; exact (ww.drewN _).no)
    · exact bodyPost_ret (v := .tuple #[.int .i64 ((frm : Int) + 1), .slice (some ⟨g, 0, none⟩) r.length cp, .bool true]) (by simp [results, Tryd.results24, go_sem]) rfl (by rw [HE.out]; exact (ww.drewN _).put _ ha _)
  · skip
    obtain ⟨ka, rfl, la⟩ := nat_of (HX.out.a rfl)
    have ha : ka < r.length := by have := HRG.out; omega
    have na : ((ka : Nat) : Int) < (r.length : Int) := by omega
    obtain ⟨rca, rfa⟩ := ww.row.cell ha
    obtain ⟨kb, rfl, lb⟩ := nat_of (HX.out.b rfl)
    have hb : kb < r.length := by have := HRG.out; omega
    have nb : ((kb : Nat) : Int) < (r.length : Int) := by omega
    have qb := HIN.out kb hb
    obtain ⟨kc, rfl, lc⟩ := nat_of (HX.out.c rfl)
    have hc : kc < r.length := by have := HRG.out; omega
    have nc : ((kc : Nat) : Int) < (r.length : Int) := by omega
    have qc := HIN.out kc hc
    have e : stepM m F frm ⟨6, ((ka : Nat) : Int), ((kb : Nat) : Int), ((kc : Nat) : Int), n⟩ r ans = if opOk 6 (r.getD kc 0) then some ((frm : Int) + 1, setI r ka (opV 6 (r.getD kb 0) (r.getD kc 0))) else none := by simp [stepM, atI_nat, atI]
    have HE := Lib.hid e
    clear e
    generalize r.getD kb 0 = vb at *
    generalize r.getD kc 0 = vc at *
    have hQ := fun w' => (opR 6 vb vc w').mono (R' := fun e w2 => e = .returned (.tuple #[.int .i64 (opV 6 vb vc), .bool (opOk 6 vc)]) ∧ w2 = w') fun _ _ ⟨h1, h2⟩ => ⟨h1, h2.symm⟩
    generalize opV 6 vb vc = ov at *
    have HQ := Lib.hid hQ
    clear hQ
    cases ho : opOk 6 vc
    all_goals
      rw [ho] at HQ HE
      clear ho
      go_wp2
      go_quiet ((go_at_call 47; exact Calls.quiet_of_same (HQ.out _)))
      go_wp2
    · exact bodyPost_ret (v := .tuple #[.int .i64 0, .slice none 0 0, .bool false]) (by simp [results, Tryd.results24, go_sem]) rfl (by rw [HE.out]; exact (ww.drewN _).no)
    · exact bodyPost_ret (v := .tuple #[.int .i64 ((frm : Int) + 1), .slice (some ⟨g, 0, none⟩) r.length cp, .bool true]) (by simp [results, Tryd.results24, go_sem]) rfl (by rw [HE.out]; exact (ww.drewN _).put _ ha _)
  · skip
    obtain ⟨ka, rfl, la⟩ := nat_of (HX.out.a rfl)
    have ha : ka < r.length := by have := HRG.out; omega
    have na : ((ka : Nat) : Int) < (r.length : Int) := by omega
    obtain ⟨rca, rfa⟩ := ww.row.cell ha
    obtain ⟨kb, rfl, lb⟩ := nat_of (HX.out.b rfl)
    have hb : kb < r.length := by have := HRG.out; omega
    have nb : ((kb : Nat) : Int) < (r.length : Int) := by omega
    have qb := HIN.out kb hb
    obtain ⟨kc, rfl, lc⟩ := nat_of (HX.out.c rfl)
    have hc : kc < r.length := by have := HRG.out; omega
    have nc : ((kc : Nat) : Int) < (r.length : Int) := by omega
    have qc := HIN.out kc hc
    have e : stepM m F frm ⟨7, ((ka : Nat) : Int), ((kb : Nat) : Int), ((kc : Nat) : Int), n⟩ r ans = if opOk 7 (r.getD kc 0) then some ((frm : Int) + 1, setI r ka (opV 7 (r.getD kb 0) (r.getD kc 0))) else none := by simp [stepM, atI_nat, atI]
    have HE := Lib.hid e
    clear e
    generalize r.getD kb 0 = vb at *
    generalize r.getD kc 0 = vc at *
    have hQ := fun w' => (opR 7 vb vc w').mono (R' := fun e w2 => e = .returned (.tuple #[.int .i64 (opV 7 vb vc), .bool (opOk 7 vc)]) ∧ w2 = w') fun _ _ ⟨h1, h2⟩ => ⟨h1, h2.symm⟩
    generalize opV 7 vb vc = ov at *
    have HQ := Lib.hid hQ
    clear hQ
    cases ho : opOk 7 vc
    all_goals
      rw [ho] at HQ HE
      clear ho
      go_wp2
      go_quiet ((go_at_call 47; exact Calls.quiet_of_same (HQ.out _)))
      go_wp2
    · exact bodyPost_ret (v := .tuple #[.int .i64 0, .slice none 0 0, .bool false]) (by simp [results, Tryd.results24, go_sem]) rfl (by rw [HE.out]; exact (ww.drewN _).no)
    · exact bodyPost_ret (v := .tuple #[.int .i64 ((frm : Int) + 1), .slice (some ⟨g, 0, none⟩) r.length cp, .bool true]) (by simp [results, Tryd.results24, go_sem]) rfl (by rw [HE.out]; exact (ww.drewN _).put _ ha _)
  · skip
    obtain ⟨ka, rfl, la⟩ := nat_of (HX.out.a rfl)
    have ha : ka < r.length := by have := HRG.out; omega
    have na : ((ka : Nat) : Int) < (r.length : Int) := by omega
    obtain ⟨rca, rfa⟩ := ww.row.cell ha
    obtain ⟨kb, rfl, lb⟩ := nat_of (HX.out.b rfl)
    have hb : kb < r.length := by have := HRG.out; omega
    have nb : ((kb : Nat) : Int) < (r.length : Int) := by omega
    have qb := HIN.out kb hb
    obtain ⟨kc, rfl, lc⟩ := nat_of (HX.out.c rfl)
    have hc : kc < r.length := by have := HRG.out; omega
    have nc : ((kc : Nat) : Int) < (r.length : Int) := by omega
    have qc := HIN.out kc hc
    have e : stepM m F frm ⟨8, ((ka : Nat) : Int), ((kb : Nat) : Int), ((kc : Nat) : Int), n⟩ r ans = if opOk 8 (r.getD kc 0) then some ((frm : Int) + 1, setI r ka (opV 8 (r.getD kb 0) (r.getD kc 0))) else none := by simp [stepM, atI_nat, atI]
    have HE := Lib.hid e
    clear e
    generalize r.getD kb 0 = vb at *
    generalize r.getD kc 0 = vc at *
    have hQ := fun w' => (opR 8 vb vc w').mono (R' := fun e w2 => e = .returned (.tuple #[.int .i64 (opV 8 vb vc), .bool (opOk 8 vc)]) ∧ w2 = w') fun _ _ ⟨h1, h2⟩ => ⟨h1, h2.symm⟩
    generalize opV 8 vb vc = ov at *
    have HQ := Lib.hid hQ
    clear hQ
    cases ho : opOk 8 vc
    all_goals
      rw [ho] at HQ HE
      clear ho
      go_wp2
      go_quiet ((go_at_call 47; exact Calls.quiet_of_same (HQ.out _)))
      go_wp2
    · exact bodyPost_ret (v := .tuple #[.int .i64 0, .slice none 0 0, .bool false]) (by simp [results, Tryd.results24, go_sem]) rfl (by rw [HE.out]; exact (ww.drewN _).no)
    · exact bodyPost_ret (v := .tuple #[.int .i64 ((frm : Int) + 1), .slice (some ⟨g, 0, none⟩) r.length cp, .bool true]) (by simp [results, Tryd.results24, go_sem]) rfl (by rw [HE.out]; exact (ww.drewN _).put _ ha _)
  · skip
    obtain ⟨ka, rfl, la⟩ := nat_of (HX.out.a rfl)
    have ha : ka < r.length := by have := HRG.out; omega
    have na : ((ka : Nat) : Int) < (r.length : Int) := by omega
    obtain ⟨rca, rfa⟩ := ww.row.cell ha
    obtain ⟨kb, rfl, lb⟩ := nat_of (HX.out.b rfl)
    have hb : kb < r.length := by have := HRG.out; omega
    have nb : ((kb : Nat) : Int) < (r.length : Int) := by omega
    have qb := HIN.out kb hb
    obtain ⟨kc, rfl, lc⟩ := nat_of (HX.out.c rfl)
    have hc : kc < r.length := by have := HRG.out; omega
    have nc : ((kc : Nat) : Int) < (r.length : Int) := by omega
    have qc := HIN.out kc hc
    have e : stepM m F frm ⟨9, ((ka : Nat) : Int), ((kb : Nat) : Int), ((kc : Nat) : Int), n⟩ r ans = if opOk 9 (r.getD kc 0) then some ((frm : Int) + 1, setI r ka (opV 9 (r.getD kb 0) (r.getD kc 0))) else none := by simp [stepM, atI_nat, atI]
    have HE := Lib.hid e
    clear e
    generalize r.getD kb 0 = vb at *
    generalize r.getD kc 0 = vc at *
    have hQ := fun w' => (opR 9 vb vc w').mono (R' := fun e w2 => e = .returned (.tuple #[.int .i64 (opV 9 vb vc), .bool (opOk 9 vc)]) ∧ w2 = w') fun _ _ ⟨h1, h2⟩ => ⟨h1, h2.symm⟩
    generalize opV 9 vb vc = ov at *
    have HQ := Lib.hid hQ
    clear hQ
    cases ho : opOk 9 vc
    all_goals
      rw [ho] at HQ HE
      clear ho
      go_wp2
      go_quiet ((go_at_call 47; exact Calls.quiet_of_same (HQ.out _)))
      go_wp2
    · exact bodyPost_ret (v := .tuple #[.int .i64 0, .slice none 0 0, .bool false]) (by simp [results, Tryd.results24, go_sem]) rfl (by rw [HE.out]; exact (ww.drewN _).no)
    · exact bodyPost_ret (v := .tuple #[.int .i64 ((frm : Int) + 1), .slice (some ⟨g, 0, none⟩) r.length cp, .bool true]) (by simp [results, Tryd.results24, go_sem]) rfl (by rw [HE.out]; exact (ww.drewN _).put _ ha _)
  · skip
    obtain ⟨ka, rfl, la⟩ := nat_of (HX.out.a rfl)
    have ha : ka < r.length := by have := HRG.out; omega
    have na : ((ka : Nat) : Int) < (r.length : Int) := by omega
    obtain ⟨rca, rfa⟩ := ww.row.cell ha
    obtain ⟨kb, rfl, lb⟩ := nat_of (HX.out.b rfl)
    have hb : kb < r.length := by have := HRG.out; omega
    have nb : ((kb : Nat) : Int) < (r.length : Int) := by omega
    have qb := HIN.out kb hb
    obtain rfl : c = 0 := HCU.out _ _ _ _ rfl
    have nc : (0 : Int) < (r.length : Int) := by omega
    have qc0 := HIN.out 0 (by omega)
    have qc : w1.cell? ⟨ib, io, none⟩ = some (.int .i64 (r.getD 0 0)) := qc0
    clear qc0
    have e : stepM m F frm ⟨10, ((ka : Nat) : Int), ((kb : Nat) : Int), 0, n⟩ r ans = if opOk 10 (r.getD 0 0) then some ((frm : Int) + 1, setI r ka (opV 10 (r.getD kb 0) (r.getD 0 0))) else none := by simp [stepM, atI_nat, atI]
    have HE := Lib.hid e
    clear e
    generalize r.getD kb 0 = vb at *
    generalize r.getD 0 0 = vc at *
    have hQ := fun w' => (opR 10 vb vc w').mono (R' := fun e w2 => e = .returned (.tuple #[.int .i64 (opV 10 vb vc), .bool (opOk 10 vc)]) ∧ w2 = w') fun _ _ ⟨h1, h2⟩ => ⟨h1, h2.symm⟩
    generalize opV 10 vb vc = ov at *
    have HQ := Lib.hid hQ
    clear hQ
    cases ho : opOk 10 vc
    all_goals
      rw [ho] at HQ HE
      clear ho
      go_wp2
      go_quiet ((go_at_call 47; exact Calls.quiet_of_same (HQ.out _)))
      go_wp2
    · exact bodyPost_ret (v := .tuple #[.int .i64 0, .slice none 0 0, .bool false]) (by simp [results, Tryd.results24, go_sem]) rfl (by rw [HE.out]; exact (ww.drewN _).no)
    · exact bodyPost_ret (v := .tuple #[.int .i64 ((frm : Int) + 1), .slice (some ⟨g, 0, none⟩) r.length cp, .bool true]) (by simp [results, Tryd.results24, go_sem]) rfl (by rw [HE.out]; exact (ww.drewN _).put _ ha _)
  · skip
    obtain ⟨ka, rfl, la⟩ := nat_of (HX.out.a rfl)
    have ha : ka < r.length := by have := HRG.out; omega
    have na : ((ka : Nat) : Int) < (r.length : Int) := by omega
    obtain ⟨rca, rfa⟩ := ww.row.cell ha
    obtain ⟨kb, rfl, lb⟩ := nat_of (HX.out.b rfl)
    have hb : kb < r.length := by have := HRG.out; omega
    have nb : ((kb : Nat) : Int) < (r.length : Int) := by omega
    have qb := HIN.out kb hb
    have e : stepM m F frm ⟨11, ((ka : Nat) : Int), ((kb : Nat) : Int), c, n⟩ r ans = if hitsB (r.getD kb 0) n F.words then some ((frm : Int) + 1, setI r ka ans) else none := by simp [stepM, atI_nat, atI]
    have HE := Lib.hid e
    clear e
    have hQ := fun w' => (hitsR (r.getD kb 0) n F.words (H64.out kb) HN.out w').mono (R' := fun e w2 => e = .returned (.bool (hitsB (r.getD kb 0) n F.words)) ∧ w2 = w') fun _ _ ⟨h1, h2⟩ => ⟨h1, h2.symm⟩
    generalize hvb : r.getD kb 0 = vb at *
    clear hvb
    have HQ := Lib.hid hQ
    clear hQ
    cases ho : hitsB vb n F.words
    all_goals
      rw [ho] at HQ HE
      clear ho
      go_wp2
      go_quiet ((go_at_call 48; exact Calls.quiet_of_same (HQ.out _)))
      go_wp2
    · exact bodyPost_ret (v := .tuple #[.int .i64 0, .slice none 0 0, .bool false]) (by simp [results, Tryd.results24, go_sem]) rfl (by rw [HE.out]; exact (ww.drewN _).no)
    · exact bodyPost_ret (v := .tuple #[.int .i64 ((frm : Int) + 1), .slice (some ⟨g, 0, none⟩) r.length cp, .bool true]) (by simp [results, Tryd.results24, go_sem]) rfl (by rw [HE.out]; exact (ww.drewN _).put _ ha _)
  · skip
    obtain ⟨kb, rfl, lb⟩ := nat_of (HX.out.b rfl)
    have hb : kb < r.length := by have := HRG.out; omega
    have nb : ((kb : Nat) : Int) < (r.length : Int) := by omega
    have qb := HIN.out kb hb
    have e : stepM m F frm ⟨12, a, ((kb : Nat) : Int), c, n⟩ r ans = if hitsB (r.getD kb 0) n F.words then some ((frm : Int) + 1, r) else none := by simp [stepM, atI_nat, atI]
    have HE := Lib.hid e
    clear e
    have hQ := fun w' => (hitsR (r.getD kb 0) n F.words (H64.out kb) HN.out w').mono (R' := fun e w2 => e = .returned (.bool (hitsB (r.getD kb 0) n F.words)) ∧ w2 = w') fun _ _ ⟨h1, h2⟩ => ⟨h1, h2.symm⟩
    generalize hvb : r.getD kb 0 = vb at *
    clear hvb
    have HQ := Lib.hid hQ
    clear hQ
    cases ho : hitsB vb n F.words
    all_goals
      rw [ho] at HQ HE
      clear ho
      go_wp2
      go_quiet ((go_at_call 48; exact Calls.quiet_of_same (HQ.out _)))
      go_wp2
    · exact bodyPost_ret (v := .tuple #[.int .i64 0, .slice none 0 0, .bool false]) (by simp [results, Tryd.results24, go_sem]) rfl (by rw [HE.out]; exact (ww.drewN _).no)
    · exact bodyPost_ret (v := .tuple #[.int .i64 ((frm : Int) + 1), .slice (some ⟨g, 0, none⟩) r.length cp, .bool true]) (by simp [results, Tryd.results24, go_sem]) rfl (by rw [HE.out]; exact (ww.drewN _).yes _)
  · skip
    obtain ⟨ka, rfl, la⟩ := nat_of (HX.out.a rfl)
    have ha : ka < r.length := by have := HRG.out; omega
    have na : ((ka : Nat) : Int) < (r.length : Int) := by omega
    have qa := HIN.out ka ha
    have e : stepM m F frm ⟨13, ((ka : Nat) : Int), b, c, n⟩ r ans = if r.getD ka 0 < 0 ∨ n ≤ r.getD ka 0 then none else some ((frm : Int) + 1, r) := by simp [stepM, atI_nat, atI]
    have HE := Lib.hid e
    clear e
    generalize r.getD ka 0 = va at *
    cases h1 : decide (va < 0)
    · cases h2 : decide (n ≤ va)
      · rw [if_neg (by simp at h1 h2; omega)] at HE
        go_wp2
        go_quiet (fail)
        go_wp2
        exact bodyPost_ret (v := .tuple #[.int .i64 ((frm : Int) + 1), .slice (some ⟨g, 0, none⟩) r.length cp, .bool true]) (by simp [results, Tryd.results24, go_sem]) rfl (by rw [HE.out]; exact (ww.drewN _).yes _)
      · rw [if_pos (by simp at h1 h2; omega)] at HE
        go_wp2
        go_quiet (fail)
        go_wp2
        exact bodyPost_ret (v := .tuple #[.int .i64 0, .slice none 0 0, .bool false]) (by simp [results, Tryd.results24, go_sem]) rfl (by rw [HE.out]; exact (ww.drewN _).no)
    · rw [if_pos (by simp at h1; omega)] at HE
      go_wp2
      go_quiet (fail)
      go_wp2
      exact bodyPost_ret (v := .tuple #[.int .i64 0, .slice none 0 0, .bool false]) (by simp [results, Tryd.results24, go_sem]) rfl (by rw [HE.out]; exact (ww.drewN _).no)
  · have e : stepM m F frm ⟨14, a, b, c, n⟩ r ans = some (n, r) := by simp [stepM]
    have HE := Lib.hid e
    clear e
    go_wp2
    exact bodyPost_ret (v := .tuple #[.int .i64 (n), .slice (some ⟨g, 0, none⟩) r.length cp, .bool true]) (by simp [results, Tryd.results24, go_sem]) rfl (by rw [HE.out]; exact ww.yes _)
  · skip
    obtain ⟨ka, rfl, la⟩ := nat_of (HX.out.a rfl)
    have ha : ka < r.length := by have := HRG.out; omega
    have na : ((ka : Nat) : Int) < (r.length : Int) := by omega
    have qa := HIN.out ka ha
    cases h1 : (r.getD ka 0 == 0)
    · have e : stepM m F frm ⟨15, ((ka : Nat) : Int), b, c, n⟩ r ans = some (n, r) := by (have h3 := h1; simp at h3; simp [stepM, atI_nat, h3])
      have HE := Lib.hid e
      clear e
      generalize r.getD ka 0 = va at *
      go_wp2
      go_quiet (fail)
      go_wp2
      exact bodyPost_ret (v := .tuple #[.int .i64 (n), .slice (some ⟨g, 0, none⟩) r.length cp, .bool true]) (by simp [results, Tryd.results24, go_sem]) rfl (by rw [HE.out]; exact (ww.drewN _).yes _)
    · have e : stepM m F frm ⟨15, ((ka : Nat) : Int), b, c, n⟩ r ans = some ((frm : Int) + 1, r) := by (have h3 := h1; simp at h3; simp [stepM, atI_nat, h3])
      have HE := Lib.hid e
      clear e
      generalize r.getD ka 0 = va at *
      go_wp2
      go_quiet (fail)
      go_wp2
      exact bodyPost_ret (v := .tuple #[.int .i64 ((frm : Int) + 1), .slice (some ⟨g, 0, none⟩) r.length cp, .bool true]) (by simp [results, Tryd.results24, go_sem]) rfl (by rw [HE.out]; exact (ww.drewN _).yes _)
  · skip
    obtain ⟨ka, rfl, la⟩ := nat_of (HX.out.a rfl)
    have ha : ka < r.length := by have := HRG.out; omega
    have na : ((ka : Nat) : Int) < (r.length : Int) := by omega
    have qa := HIN.out ka ha
    cases h1 : (r.getD ka 0 == 0)
    · have e : stepM m F frm ⟨16, ((ka : Nat) : Int), b, c, n⟩ r ans = some ((frm : Int) + 1, r) := by (have h3 := h1; simp at h3; simp [stepM, atI_nat, h3])
      have HE := Lib.hid e
      clear e
      generalize r.getD ka 0 = va at *
      go_wp2
      go_quiet (fail)
      go_wp2
      exact bodyPost_ret (v := .tuple #[.int .i64 ((frm : Int) + 1), .slice (some ⟨g, 0, none⟩) r.length cp, .bool true]) (by simp [results, Tryd.results24, go_sem]) rfl (by rw [HE.out]; exact (ww.drewN _).yes _)
    · have e : stepM m F frm ⟨16, ((ka : Nat) : Int), b, c, n⟩ r ans = some (n, r) := by (have h3 := h1; simp at h3; simp [stepM, atI_nat, h3])
      have HE := Lib.hid e
      clear e
      generalize r.getD ka 0 = va at *
      go_wp2
      go_quiet (fail)
      go_wp2
      exact bodyPost_ret (v := .tuple #[.int .i64 (n), .slice (some ⟨g, 0, none⟩) r.length cp, .bool true]) (by simp [results, Tryd.results24, go_sem]) rfl (by rw [HE.out]; exact (ww.drewN _).yes _)
  · skip
    obtain ⟨ka, rfl, la⟩ := nat_of (HX.out.a rfl)
    have ha : ka < r.length := by have := HRG.out; omega
    have na : ((ka : Nat) : Int) < (r.length : Int) := by omega
    have qa := HIN.out ka ha
    obtain ⟨kb, rfl, lb⟩ := nat_of (HX.out.b rfl)
    have hb : kb < r.length := by have := HRG.out; omega
    have nb : ((kb : Nat) : Int) < (r.length : Int) := by omega
    have qb := HIN.out kb hb
    have e : stepM m F frm ⟨17, ((ka : Nat) : Int), ((kb : Nat) : Int), c, n⟩ r ans = some (if r.getD kb 0 ≤ r.getD ka 0 then n else (frm : Int) + 1, r) := by simp [stepM, atI_nat, atI]
    have HE := Lib.hid e
    clear e
    generalize r.getD ka 0 = va at *
    generalize r.getD kb 0 = vb at *
    cases h1 : decide (vb ≤ va)
    · rw [if_neg (by simpa using h1)] at HE
      go_wp2
      go_quiet (fail)
      go_wp2
      exact bodyPost_ret (v := .tuple #[.int .i64 ((frm : Int) + 1), .slice (some ⟨g, 0, none⟩) r.length cp, .bool true]) (by simp [results, Tryd.results24, go_sem]) rfl (by rw [HE.out]; exact (ww.drewN _).yes _)
    · rw [if_pos (by simpa using h1)] at HE
      go_wp2
      go_quiet (fail)
      go_wp2
      exact bodyPost_ret (v := .tuple #[.int .i64 (n), .slice (some ⟨g, 0, none⟩) r.length cp, .bool true]) (by simp [results, Tryd.results24, go_sem]) rfl (by rw [HE.out]; exact (ww.drewN _).yes _)
  · skip
    obtain ⟨ka, rfl, la⟩ := nat_of (HX.out.a rfl)
    have ha : ka < r.length := by have := HRG.out; omega
    have na : ((ka : Nat) : Int) < (r.length : Int) := by omega
    obtain ⟨rca, rfa⟩ := ww.row.cell ha
    have qa := HIN.out ka ha
    have e : stepM m F frm ⟨18, ((ka : Nat) : Int), b, c, n⟩ r ans = some (n, setI r ka (wrap64 (r.getD ka 0 + 1))) := by simp [stepM, atI_nat]
    have HE := Lib.hid e
    clear e
    generalize r.getD ka 0 = va at *
    have gx : w.heap.size + 1 + 1 ≠ g := by have := ww.lg; omega
    have y5 : (w1.setCell ⟨g, ka, none⟩ (.int .i64 (wrap64 (va + 1)))).cell? ⟨w.heap.size + 1 + 1, 4, none⟩ = some (.int .i64 n) := by
      rw [World.cell?, Below.heap_setCell _ _ _ _ gx]; exact y4
    clear gx
    go_wp2
    go_region
    go_wp2
    exact bodyPost_ret (v := .tuple #[.int .i64 (n), .slice (some ⟨g, 0, none⟩) r.length cp, .bool true]) (by simp [results, Tryd.results24, go_sem]) rfl (by rw [HE.out]; exact ww.drew.put _ ha _)
  · obtain ⟨hn1, hn2⟩ := n_called hmay HX.out (by have := HRG.out; omega)
    obtain ⟨kn, rfl, ln⟩ := nat_of hn1
    rw [Int.toNat_natCast] at hn2
    obtain ⟨ka, rfl, la⟩ := nat_of (HX.out.a rfl)
    have ha : ka < r.length := by have := HRG.out; omega
    have na : ((ka : Nat) : Int) < (r.length : Int) := by omega
    obtain ⟨rca, rfa⟩ := ww.row.cell ha
    obtain ⟨kb, rfl, lb⟩ := nat_of (HX.out.b rfl)
    have hkn : kn < m.funcs.length := by omega
    have hkn2 : (kn : Int) < (m.funcs.length : Int) := ln
    have e : stepM m F frm ⟨19, ((ka : Nat) : Int), ((kb : Nat) : Int), c, ((kn : Nat) : Int)⟩ r ans = if argsIn r kb (nthF m.funcs kn).params then some ((frm : Int) + 1, setI r ka ans) else none := by simp [stepM]
    have HE := Lib.hid e
    obtain ⟨fb, fo, hfa, hfb, u0, u1, u2, u3, u4⟩ := funcs_cells HM.out.funcs hkn
    have hps := (HM.out.each kn hkn).params
    have hrl := HRG.out
    generalize nthF m.funcs kn = G at *
    have hGl : kb + G.params.length ≤ r.length := by omega
    have HPS := Lib.hid hps
    rw [hfa] at yf
    rw [← ww.below.cell (p := ⟨fb, fo + kn * 5 + 1, none⟩) hfb] at u1
    have lfb : fb < w1.heap.size := by have := ww.below.size; omega
    clear e u0 u2 u3 u4 hps hfa hn1 hn2 lb hrl
    go_wp2
    go_loopw [20] (fun ix wr => ∃ k : Nat, k ≤ G.params.length ∧ ix = .int .i64 k ∧ (∀ j, j < k → (nthS G.params j).lo ≤ r.getD (kb + j) 0 ∧ r.getD (kb + j) 0 ≤ (nthS G.params j).hi) ∧ Below w1.heap.size w1 wr) (fun ix _ => G.params.length - (intOf ix).toNat)
    case atStart => exact ⟨0, Nat.zero_le _, rfl, (fun j hj => absurd hj (by omega)), Below.refl _ _⟩
    case round =>
      obtain ⟨k, hk, rfl, hall, hbr⟩ := hrel
      have w2 := ww.step hbr
      have z1 := w2.x1
      have z2 := w2.x2
      have zr := w2.size
      simp only at z1 z2
      have HALL := Lib.hid hall
      clear hall y0 y1 y2 y3 y4 yw yf u1
      by_cases hlt : k < G.params.length
      · have hki : (k : Int) < (G.params.length : Int) := by omega
        obtain ⟨b1, o1, hA1, hb1, hc1⟩ := HPS.out (by omega)
        have p0 : wr.cell? ⟨b1, o1 + k * 2, none⟩ = some (.int .i64 (nthS G.params k).lo) := by
          rw [w2.below.cell (p := ⟨b1, o1 + k * 2, none⟩) hb1]; exact hc1 k hlt 0 (by omega)
        have p1 : wr.cell? ⟨b1, o1 + k * 2 + 1, none⟩ = some (.int .i64 (nthS G.params k).hi) := by
          rw [w2.below.cell (p := ⟨b1, o1 + k * 2 + 1, none⟩) hb1]; exact hc1 k hlt 1 (by omega)
        have q0 : wr.cell? ⟨ib, io + (kb + k), none⟩ = some (.int .i64 (r.getD (kb + k) 0)) := by
          rw [hbr.cell (p := ⟨ib, io + (kb + k), none⟩) lib]; exact HIN.out (kb + k) (by omega)
        have HGL := Lib.hid hGl
        have s1 : (kb : Int) + (k : Int) < (r.length : Int) := by omega
        have s3 : 0 ≤ (kb : Int) + (k : Int) := by omega
        have s4 : ((kb : Int) + (k : Int)).toNat = kb + k := by omega
        have s0 : IntKind.i64.wrap ((kb : Int) + (k : Int)) = (kb : Int) + (k : Int) := IntWalk.i64_in _ (by omega)
        have HKK := Lib.hid (fun (x : Int) (hx : r.getD (kb + k) 0 = x) (h1 : (nthS G.params k).lo ≤ x) (h2 : x ≤ (nthS G.params k).hi) => (fun j (hj : j < k + 1) => by
          rcases Nat.lt_or_ge j k with q | q
          · exact HALL.out j q
          · obtain rfl : j = k := by omega
            rw [hx]; exact ⟨h1, h2⟩ : ∀ j, j < k + 1 → (nthS G.params j).lo ≤ r.getD (kb + j) 0 ∧ r.getD (kb + j) 0 ≤ (nthS G.params j).hi))
        have HNO := Lib.hid (fun (x : Int) (hx : r.getD (kb + k) 0 = x) (h1 : x < (nthS G.params k).lo ∨ (nthS G.params k).hi < x) => args_no (r := r) (ps := G.params) kb k hlt (by rw [hx]; omega))
        generalize hlo : (nthS G.params k).lo = lo at *
        generalize hhi : (nthS G.params k).hi = hi2 at *
        generalize hxv : r.getD (kb + k) 0 = xv at *
        have HXV := Lib.hid hxv
        clear hc1 hlo hhi hxv
        have HHX := Lib.hid HXV.out
        cases h1 : decide (xv < lo)
        · cases h2 : decide (hi2 < xv)
          · have HD := Lib.hid (HKK.out xv rfl (by simpa using h1) (by simpa using h2))
            go_wp2
            go_quiet (fail)
            go_wp2
            go_roundw
            case rel => exact ⟨k + 1, by omega, by go_num, HD.out, below_drewN hbr _⟩
            case measure => simp only [intOf]; omega
          · have HD := Lib.hid (HNO.out xv rfl (.inr (by simpa using h2)))
            rw [HD.out] at HE
            go_wp2
            go_quiet (fail)
            go_wp2
            exact bodyPost_ret (v := .tuple #[.int .i64 0, .slice none 0 0, .bool false]) (by simp [results, Tryd.results24, go_sem]) rfl (by rw [HE.out]; exact (w2.drewN _).no)
        · have HD := Lib.hid (HNO.out xv rfl (.inl (by simpa using h1)))
          rw [HD.out] at HE
          go_wp2
          go_quiet (fail)
          go_wp2
          exact bodyPost_ret (v := .tuple #[.int .i64 0, .slice none 0 0, .bool false]) (by simp [results, Tryd.results24, go_sem]) rfl (by rw [HE.out]; exact (w2.drewN _).no)
      · obtain rfl : k = G.params.length := by omega
        rw [args_all kb HALL.out] at HE
        obtain ⟨rca2, rfa2⟩ := w2.row.cell ha
        go_wp2
        exact bodyPost_ret (v := .tuple #[.int .i64 ((frm : Int) + 1), .slice (some ⟨g, 0, none⟩) r.length cp, .bool true]) (by simp [results, Tryd.results24, go_sem]) rfl (by rw [HE.out]; exact w2.put _ ha _)
end Go.Proofs.YtddobhneplfddaaDoor
