/-
  Layer 16 (bounds): RunE, RunD, RunF, FixA.
-/
import Derived.Test.YtddobhneplfddaaDoorV36
namespace Go.Proofs.YtddobhneplfddaaDoor
set_option maxRecDepth 100000
open Go.RowKit Go.Shelf
set_option linter.unusedSimpArgs false
set_option linter.unusedVariables false
attribute [local go_sem] Oper.semAt_some
/-- The first range over a function. -/
def findG : Code → Option Code
  | .seq a b => match findG a with
    | some c => some c
    | none => findG b
  | .cond _ a b => match findG a with
    | some c => some c
    | none => findG b
  | .block _ c => findG c
  | .loop c => findG c
  | .scope c => findG c
  | .rangeFunc g p a b => some (.rangeFunc g p a b)
  | _ => none
theorem postM_mono {α β : Type} {b : Nat} {I : List α → World → Prop} {I' : List β → World → Prop} {xs : List α} {ys : List β} {W : World} (h : ∀ V, I xs V → I' ys V) : ∀ e a V, postM b I xs W e a V → postM b I' ys W e a V := fun e a V hp => by
  cases e with
  | normal => exact ⟨hp.1, h V hp.2⟩
  | ret => exact hp.elim
  | exit id => exact hp.elim
  | goto t => exact hp.elim
  | panic ch => exact hp.elim
  | outgrown => exact hp.elim
theorem below_putObj {B : Nat} {w w' : World} (h : Below B w w') {p : Nat} (hp : B ≤ p) (o : Obj) : Below B w (w'.putObj p o) :=
  ⟨h.os, h.tape, h.output, by simpa using h.size, fun k hk => (World.putObj_heap_other (by omega)).trans (h.block k hk)⟩
theorem RunI.putObj {w W : World} {n R bx f7 bp br b : Nat} {mcs fcs : Array Value} {s : StD} (h : RunI w n R bx f7 bp br b mcs fcs s W) (h0 : w.heap.size + 1 < b) (h1 : f7 < b) (h2 : bp < b) (h3 : br < b) (o : Obj) : RunI w n R bx f7 bp br b mcs fcs s (W.putObj (b + 1) o) := by
  have key : ∀ {q t cs}, q < b → Whl W q t cs → Whl (W.putObj (b + 1) o) q t cs := fun hq hw => (World.putObj_heap_other (by omega)).trans hw
  obtain ⟨L, hS, l1, l2⟩ := h.st
  exact ⟨⟨L, hS.keep fun k hk => World.putObj_heap_other (fun e => l2 (e ▸ hk)), l1, l2⟩, below_putObj h.bel (by omega) _, key (by omega) h.mb, key h0 h.rb, key h1 h.fb, key h2 h.pb, key h3 h.it⟩
theorem RunI.marks {w W : World} {m : ModD} {F : FuncD} {R bx f7 bp br b : Nat} {mcs fcs : Array Value} {ms : List Nat → List Bool} {pre : List Nat} {s : StD} (h : RunI w F.code.length R bx f7 bp br b mcs fcs s W) (hg : GoodS m F s) (hs : s.marked = ms pre) : MarksAt br bx F.code.length ms pre W := by
  obtain ⟨L, hS, _, _⟩ := h.st
  refine ⟨L.mkb, h.it.cell 0, hS.c2, hS.mks.lt, by rw [← hs]; exact hg.ok.lm, fun k hk => ?_⟩
  rw [← hs]
  exact hS.mksC (by rw [hg.ok.lm]; exact hk)
set_option maxHeartbeats 8000000 in
theorem rangeP {w W3 : World} {Q : Exit → Act → World → Prop} {R bx f7 bp br kf : Nat} {m : ModD} {F : FuncD} {x0 x1 x3 x4 x5 x6 x8 x10 x11 x12 x13 x14 x15 x16 x17 x18 x19 x20 x21 x22 x23 x24 x25 x26 x27 x28 x29 x30 x31 x32 x33 x34 x35 x36 x37 x38 x39 x40 x41 x42 x43 x44 x45 x46 x47 x48 x49 x50 x51 x52 x53 x54 x55 x56 x57 x58 x59 x60 x61 x62 x63 x64 x65 x66 x67 x68 x69 x70 x71 x72 x73 x74 x75 x76 x77 x78 x79 x80 x81 x82 x83 x84 x85 x86 x87 x88 x89 x90 x92 x93 x94 x95 x96 x97 x98 x99 x100 x101 x102 x103 x104 x105 x106 x107 x108 x109 x110 x111 x112 x113 x114 x115 x116 x117 x118 x119 x120 x121 x122 x123 x124 x125 x126 x127 x128 x129 x130 x131 x132 x133 x134 x135 x136 x137 x138 x139 x140 x141 x142 : Value} (wm : m.Wf) (hmay : mayD m = ⟨0, 0, 0⟩) (hkm : kf < m.funcs.length) (hF : nthF m.funcs kf = F) (hM : ModOk w w.heap.size m) (hRR : F.regs = (R : Int))
    (hS : ∃ L, StP W3 w.heap.size F.code.length R bx L (startD F)) (hG : GoodS m F (startD F)) (hB : Below w.heap.size w W3) (M3 : Whl W3 w.heap.size 25 #[.slice m.ta m.ths.length m.tc, .slice m.fa m.funcs.length m.fc]) (A3 : Whl W3 (w.heap.size + 1) 39 #[.slice none 0 0, .slice none 0 0]) (F3 : Whl W3 f7 48 #[.string F.name, .slice F.pa F.params.length F.pc, .int .i64 (R : Int), .int .i64 F.words, .slice F.ca F.code.length F.cc])
    (P3 : Whl W3 bp 66 #[.pointer (some ⟨bx, 0, none⟩)]) (I3 : Whl W3 br 66 #[.pointer (some ⟨bx, 0, none⟩)])
    (hQ : ∀ W L s, Final m F s → StP W w.heap.size F.code.length R bx L s → Below w.heap.size w W → W3.heap.size + 1 < W.heap.size → Whl W bp 66 #[.pointer (some ⟨bx, 0, none⟩)] → Whl W (w.heap.size + 1) 39 #[.slice none 0 0, .slice none 0 0] → ¬ L.has bx F.code.length s W3.heap.size → W.heap[W3.heap.size]? = some (.deferred (some [])) → Q .normal { tmps := #[x0, x1, .pointer (some ⟨w.heap.size, 0, none⟩), x3, x4, x5, x6, .pointer (some ⟨f7, 0, none⟩), x8, .pointer (some ⟨bp, 0, none⟩), x10, x11, x12, x13, x14, x15, x16, x17, x18, x19, x20, x21, x22, x23, x24, x25, x26, x27, x28, x29, x30, x31, x32, x33, x34, x35, x36, x37, x38, x39, x40, x41, x42, x43, x44, x45, x46, x47, x48, x49, x50, x51, x52, x53, x54, x55, x56, x57, x58, x59, x60, x61, x62, x63, x64, x65, x66, x67, x68, x69, x70, x71, x72, x73, x74, x75, x76, x77, x78, x79, x80, x81, x82, x83, x84, x85, x86, x87, x88, x89, x90, .func (.func 60) #[] #[.pointer (some ⟨br, 0, none⟩)], x92, x93, x94, x95, x96, x97, x98, x99, x100, x101, x102, x103, x104, x105, x106, x107, x108, x109, x110, x111, x112, x113, x114, x115, x116, x117, x118, x119, x120, x121, x122, x123, x124, x125, x126, x127, x128, x129, x130, x131, x132, x133, x134, x135, x136, x137, x138, x139, x140, x141, x142], defers := [{ target := .collected W3.heap.size, args := #[] }] } W) :
    ∃ c, findG (bodyOf Tryd.f15) = some c ∧ c.wp Tryd.prog Q { tmps := #[x0, x1, .pointer (some ⟨w.heap.size, 0, none⟩), x3, x4, x5, x6, .pointer (some ⟨f7, 0, none⟩), x8, .pointer (some ⟨bp, 0, none⟩), x10, x11, x12, x13, x14, x15, x16, x17, x18, x19, x20, x21, x22, x23, x24, x25, x26, x27, x28, x29, x30, x31, x32, x33, x34, x35, x36, x37, x38, x39, x40, x41, x42, x43, x44, x45, x46, x47, x48, x49, x50, x51, x52, x53, x54, x55, x56, x57, x58, x59, x60, x61, x62, x63, x64, x65, x66, x67, x68, x69, x70, x71, x72, x73, x74, x75, x76, x77, x78, x79, x80, x81, x82, x83, x84, x85, x86, x87, x88, x89, x90, .func (.func 60) #[] #[.pointer (some ⟨br, 0, none⟩)], x92, x93, x94, x95, x96, x97, x98, x99, x100, x101, x102, x103, x104, x105, x106, x107, x108, x109, x110, x111, x112, x113, x114, x115, x116, x117, x118, x119, x120, x121, x122, x123, x124, x125, x126, x127, x128, x129, x130, x131, x132, x133, x134, x135, x136, x137, x138, x139, x140, x141, x142], defers := [] } W3 := by
  refine ⟨_, rfl, ?_⟩
  have WF : F.Wf := hF ▸ wm.funcs _ (nthF_mem hkm)
  have hn1 := (f_ok2 hmay hkm).2.1
  rw [hF] at hn1
  obtain ⟨K, hK1, hK2, hK3⟩ := stops wm WF hG
  have b1 := M3.lt
  have b2 := A3.lt
  have b3 := F3.lt
  have b4 := P3.lt
  have b5 := I3.lt
  refine wpIn_wide.1 (wpIn_rangeFunc_M (gf := 60) (ra := #[]) (lb := #[.pointer (some ⟨br, 0, none⟩)]) rfl (enters_of Tryd.func60 (by kernel_rfl) rfl)
    (encs := fun k : Nat => #[.int .i64 k]) (xs := passes F.code.length K) (Ir := MarksAt br bx F.code.length fun pre => (afterD m F pre).marked)
    (fun o o' => roundsP br bx F.code.length K (fun pre => (afterD m F pre).marked) (by unfold maxLen; omega) hK1 hK2 _) (fun _ => rfl)
    (fun pre V => RunI w F.code.length R bx f7 bp br W3.heap.size #[.slice m.ta m.ths.length m.tc, .slice m.fa m.funcs.length m.fc] #[.string F.name, .slice F.pa F.params.length F.pc, .int .i64 (R : Int), .int .i64 F.words, .slice F.ca F.code.length F.cc] (afterD m F pre) V ∧ GoodS m F (afterD m F pre)) (fun pre V h => h.1.marks (ms := fun pre => (afterD m F pre).marked) h.2 rfl)
    (fun o o' => ?start) (fun pre V o h => ⟨h.1.putObj b2 b3 b4 b5 o, h.2⟩)
    (fun k => { tmps := #[x0, x1, .pointer (some ⟨w.heap.size, 0, none⟩), x3, x4, x5, x6, .pointer (some ⟨f7, 0, none⟩), x8, .pointer (some ⟨bp, 0, none⟩), x10, .int .i64 (k : Int), x12, x13, x14, x15, x16, x17, x18, x19, x20, x21, x22, x23, x24, x25, x26, x27, x28, x29, x30, x31, x32, x33, x34, x35, x36, x37, x38, x39, x40, x41, x42, x43, x44, x45, x46, x47, x48, x49, x50, x51, x52, x53, x54, x55, x56, x57, x58, x59, x60, x61, x62, x63, x64, x65, x66, x67, x68, x69, x70, x71, x72, x73, x74, x75, x76, x77, x78, x79, x80, x81, x82, x83, x84, x85, x86, x87, x88, x89, x90, .func (.func 60) #[] #[.pointer (some ⟨br, 0, none⟩)], .int .i64 (k : Int), x93, x94, x95, x96, x97, x98, x99, x100, x101, x102, x103, x104, x105, x106, x107, x108, x109, x110, x111, x112, x113, x114, x115, x116, x117, x118, x119, x120, x121, x122, x123, x124, x125, x126, x127, x128, x129, x130, x131, x132, x133, x134, x135, x136, x137, x138, x139, x140, x141, x142], defers := [] }) ?assign ?body ?done)
  case start =>
    obtain ⟨L, hL⟩ := hS
    refine ⟨⟨⟨L, (hL.alloc o).alloc o', fun q => ?_, fun q => ?_⟩, below_alloc (below_alloc hB _) _, (M3.alloc _).alloc _, (A3.alloc _).alloc _, (F3.alloc _).alloc _, (P3.alloc _).alloc _, (I3.alloc _).alloc _⟩, hG⟩
    · have := hL.lt q; omega
    · have := hL.lt q; omega
  case assign =>
    intro l k W K hK
    gi_wp2
    exact hK
  case body =>
    rintro l pre k W ⟨hI, hg⟩ hlt hpre
    have hk : k < F.code.length := passes_mem K (hpre.subset (by simp))
    have hv : afterD m F (pre ++ [k]) = visitD m F (afterD m F pre) k := by rw [after_app]; rfl
    have hg2 := (visit_ok wm WF hg hk).1
    cases hm : (afterD m F pre).marked.getD k false
    · refine wpIn_mono (use_found (visitP0 (m := m) (F := F) (pre := pre) hI (by omega) hk hg.ok.lm hm) (by kernel_rfl)) (postM_mono fun V h => ?_)
      rw [hv]
      exact ⟨h, hg2⟩
    · refine wpIn_mono (use_found (visitP1 (pre := pre) wm hmay hkm hF hM hRR hI hk hg hm hlt) (by kernel_rfl)) (postM_mono fun V h => ?_)
      rw [hv]
      exact ⟨h, hg2⟩
  case done =>
    rintro W ⟨hI, hg⟩ hlt hd
    obtain ⟨L, hL, l1, l2⟩ := hI.st
    exact hQ W L _ ⟨K, hK1, hK2, rfl⟩ hL hI.bel hlt hI.pb hI.rb l1 hd
end Go.Proofs.YtddobhneplfddaaDoor

namespace Go.Proofs.YtddobhneplfddaaDoor
set_option maxRecDepth 100000
open Go.RowKit Go.Shelf
set_option linter.unusedSimpArgs false
set_option linter.unusedVariables false
attribute [local go_sem] Oper.semAt_some
set_option maxHeartbeats 8000000 in
theorem runP3 (m : ModD) (kf : Nat) (wm : m.Wf) (hmay : mayD m = ⟨0, 0, 0⟩) (hkm : kf < m.funcs.length) (hpn : (nthF m.funcs kf).pa = none → (nthF m.funcs kf).pc = 0) (w : World) (hm : ModOk w w.heap.size m) (ht : TabOk w) :
    Calls Tryd.prog 15 #[m.val, .int .i64 kf] w (RunOk w m kf) := by
  have hme : ((mayD m).e != 0) = false := by rw [hmay]; rfl
  have hr1 := (f_ok hmay hkm).regs
  have hn1 := (f_ok2 hmay hkm).2.1
  obtain ⟨fb, fo, hfa, hfb, u0, u1, u2, u3, u4⟩ := funcs_cells hm.funcs hkm
  have H := Lib.hid (And.intro hm ht)
  obtain ⟨F, hF⟩ : ∃ F, nthF m.funcs kf = F := ⟨_, rfl⟩
  have hps := (hm.each kf hkm).params
  rw [hF] at u0 u1 u2 u3 u4 hr1 hn1 hpn hps
  obtain ⟨R, hRR⟩ : ∃ R : Nat, F.regs = (R : Int) := ⟨F.regs.toNat, by omega⟩
  rw [hRR] at u2 hr1
  have hkf : ((kf : Nat) : Int) < (m.funcs.length : Int) := by omega
  have hk0 : decide (((kf : Nat) : Int) < 0) = false := by simp
  have hk1 : decide (m.funcs.length ≤ kf) = false := by simp; omega
  have hk2 : decide ((m.funcs.length : Int) ≤ (kf : Int)) = false := by simp; omega
  have HFF := Lib.hid hF
  have HMY := Lib.hid hmay
  have HFA := Lib.hid hfa
  have HRR := Lib.hid hRR
  have HPS := Lib.hid hps
  have HPN := Lib.hid hpn
  clear hF hmay hm ht hfa hRR hps hpn
  have hfe := fieldE
  refine (callsIn_wide (n := 9)).1 ?_
  refine callsIn_of_wp_marks Tryd.func15 rfl trivial ?_ rfl
  simp only [Tryd.ntmps15, List.size_toArray, List.length_cons, List.length_nil, Nat.reduceAdd, Nat.reduceSub, Array.replicate_succ, Array.replicate_zero, List.push_toArray, List.append_toArray, List.nil_append, List.cons_append]
  refine wpIn_wide.2 ?_
  go_wp2
  go_step3
  go_wp2_with fail
  go_at_call 26
  refine (mayP m _ wm (H.out.1.below (below_alloc (below_alloc (Below.refl _ _) _) _) (Nat.le_refl _) |>.more (by simp; omega)) ((H.out.2.alloc _).alloc _)).mono ?_
  rintro e w1 ⟨rfl, hb1⟩
  have B1 : Below w.heap.size w w1 := below_step (below_alloc (below_alloc (Below.refl _ _) _) _) hb1
  have M4 := (Whl.new1 w (.cells #[.slice m.ta m.ths.length m.tc, .slice m.fa m.funcs.length m.fc] 25) 39 #[.slice none 0 0, .slice none 0 0]).below' hb1
  have M2 := ((Whl.new w 25 #[.slice m.ta m.ths.length m.tc, .slice m.fa m.funcs.length m.fc]).alloc (.cells #[.slice none 0 0, .slice none 0 0] 39)).below' hb1
  have x0 := M2.cell 0
  have x1 := M2.cell 1
  have l2 := M2.lt
  have l4 := M4.lt
  rw [← B1.cell (p := ⟨fb, fo + kf * 5, none⟩) hfb] at u0
  rw [← B1.cell (p := ⟨fb, fo + kf * 5 + 1, none⟩) hfb] at u1
  rw [← B1.cell (p := ⟨fb, fo + kf * 5 + 2, none⟩) hfb] at u2
  rw [← B1.cell (p := ⟨fb, fo + kf * 5 + 3, none⟩) hfb] at u3
  rw [← B1.cell (p := ⟨fb, fo + kf * 5 + 4, none⟩) hfb] at u4
  have lf : fb < w1.heap.size := by omega
  simp only [List.getElem?_toArray, List.getElem?_cons_zero, List.getElem?_cons_succ] at x0 x1
  rw [HFA.out] at x1
  clear hb1
  go_wp2
  have Ba : Below w.heap.size w ((w1.alloc (.cells #[.int .i64 (mayD m).e, .int .i64 (mayD m).f, .int .i64 (mayD m).a] 53)).alloc (.cells #[.string F.name, .slice F.pa F.params.length F.pc, .int .i64 (R : Int), .int .i64 F.words, .slice F.ca F.code.length F.cc] 48)) := below_alloc (below_alloc B1 _) _
  have Fa := Whl.new1 w1 (.cells #[.int .i64 (mayD m).e, .int .i64 (mayD m).f, .int .i64 (mayD m).a] 53) 48 #[.string F.name, .slice F.pa F.params.length F.pc, .int .i64 (R : Int), .int .i64 F.words, .slice F.ca F.code.length F.cc]
  have M2a := (M2.alloc (.cells #[.int .i64 (mayD m).e, .int .i64 (mayD m).f, .int .i64 (mayD m).a] 53)).alloc (.cells #[.string F.name, .slice F.pa F.params.length F.pc, .int .i64 (R : Int), .int .i64 F.words, .slice F.ca F.code.length F.cc] 48)
  have M4a := (M4.alloc (.cells #[.int .i64 (mayD m).e, .int .i64 (mayD m).f, .int .i64 (mayD m).a] 53)).alloc (.cells #[.string F.name, .slice F.pa F.params.length F.pc, .int .i64 (R : Int), .int .i64 F.words, .slice F.ca F.code.length F.cc] 48)
  obtain ⟨wa, hwa⟩ : ∃ wa, ((w1.alloc (.cells #[.int .i64 (mayD m).e, .int .i64 (mayD m).f, .int .i64 (mayD m).a] 53)).alloc (.cells #[.string F.name, .slice F.pa F.params.length F.pc, .int .i64 (R : Int), .int .i64 F.words, .slice F.ca F.code.length F.cc] 48)) = wa := ⟨_, rfl⟩
  rw [hwa] at Ba Fa M2a M4a ⊢
  clear hwa x0 x1 u0 u1 u2 u3 u4 M2 M4 B1
  generalize hn : F.code.length = n at *
  have HNN := Lib.hid hn
  clear hn
  refine wp_only ?_
  refine use_wp (region8 (n := n) (w0 := wa) hn1.2 (fun _ _ _ _ h => h) ?_) (by kernel_rfl)
  intro b1 b3 b6 b8 bx bp W BW f1 f3 f6 f8 fx fp
  have L0 : LayR wa n R (w1.heap.size + 1) b1 b3 b6 b8 bx bp #[.string F.name, .slice F.pa F.params.length F.pc, .int .i64 (R : Int), .int .i64 F.words, .slice F.ca n F.cc] 0 (fun _ => 0) W :=
    ⟨BW, Fa.below' BW, f1, ⟨f3.1, by have := f3.2; rw [chs0]; exact this⟩, f6, f8, fx, fp, fun _ h => absurd h (by omega), fun _ h => absurd h (by omega), fun _ _ h => absurd h (by omega)⟩
  have hmk := mkIn (n := R) (by omega)
  clear BW f1 f3 f6 f8 fx fp
  simp only [onlyN]
  go_wp2
  go_loopw [54] (fun i V => ∃ (k : Nat) (ca : Nat → Nat), k ≤ n ∧ i = .int .i64 k ∧ LayR wa n R (w1.heap.size + 1) b1 b3 b6 b8 bx bp #[.string F.name, .slice F.pa F.params.length F.pc, .int .i64 (R : Int), .int .i64 F.words, .slice F.ca n F.cc] k ca V) (fun i _ => n - (intOf i).toNat)
  case atStart => exact ⟨0, _, Nat.zero_le _, rfl, L0⟩
  case round =>
    obtain ⟨k, ca, hk, rfl, r2⟩ := hrel
    clear L0
    by_cases hlt : k < n
    · have hki : (k : Int) < (n : Int) := by omega
      have d0 := r2.pb.2.cell 0
      have d1 := r2.xb.2.cell 1
      have d2 := r2.fb.cell 2
      simp only [List.getElem?_toArray, List.getElem?_cons_zero, List.getElem?_cons_succ] at d0 d1 d2
      go_wp2
      refine wp_only ?_
      refine wp_region_held_drew (S := (fun (w' : World) => w'.cell? ⟨bp, 0, none⟩ = some (.pointer (some ⟨bx, 0, none⟩)) ∧ w'.cell? ⟨bx, 1, none⟩ = some (.slice (some ⟨b3, 0, none⟩) n n) ∧ w'.cell? ⟨w1.heap.size + 1, 2, none⟩ = some (.int .i64 (R : Int)))) (by kernel_rfl) ?_ (fun hHeld => ?_)
      · (exact ⟨d0, d1, d2⟩)
      iterate 8
        refine wpAnyH_nx (v := ?_) rfl rfl (by kernel_rfl) (by kernel_rfl) (by kernel_rfl) (fun _ _ _ h => h) (Or.inl ⟨by rfl, ?_⟩) (by assumption) ?_
        rotate_left
        · (intro w' hSw; (try dsimp only at hSw); go_simp <;> with_reducible rfl)
        (try simp only [Act.put, List.setIfInBounds_toArray, List.set_cons_zero, List.set_cons_succ])
      refine wpAnyH_ready (rs := [8]) (by kernel_rfl) (by simp) ?_
      refine AllReadyH.cons rfl (fun K hK => ?_) AllReadyH.nil
      go_simp
      refine hK.out _ _ ?_ (fun hHeld => ?_)
      · (exact ⟨((r2.pb.2.drew).alloc _).cell 0, ((r2.xb.2.drew).alloc _).cell 1, ((r2.fb.drew).alloc _).cell 2⟩)
      clear hK K
      (try simp only [Act.put, List.setIfInBounds_toArray, List.set_cons_zero, List.set_cons_succ])
      have r3 := r2.step hlt
      have z3 := (r2.chb.2.alloc (.cells (madeCells #[.int .i64 0] R) 3)).frozen k
      have y3 := (r2.chb.2.alloc (.cells (madeCells #[.int .i64 0] R) 3)).cell k
      simp [chsV, hlt] at y3
      refine wpAnyH_take (i := 9) (v := ?_) rfl (by kernel_rfl) (by kernel_rfl) (by kernel_rfl) (fun _ _ _ h => h) (Or.inl ⟨by rfl, ?_⟩) (by assumption) ?_
      rotate_left
      · (intro w' hSw; (try dsimp only at hSw); go_simp <;> with_reducible rfl)
      (try simp only [Act.put, List.setIfInBounds_toArray, List.set_cons_zero, List.set_cons_succ])
      refine wpAnyH_ready (rs := [10]) (by kernel_rfl) (by simp) ?_
      refine AllReadyH.cons rfl (fun K hK => ?_) AllReadyH.nil
      go_simp
      refine hK.out _ _ ?_ (fun hHeld => ?_)
      · (exact ⟨r3.pb.2.cell 0, r3.xb.2.cell 1, r3.fb.cell 2⟩)
      clear hK K
      (try simp only [Act.put, List.setIfInBounds_toArray, List.set_cons_zero, List.set_cons_succ])
      refine wpAnyH_done (by kernel_rfl) ?_ _
      simp only [onlyN]
      go_wp2
      go_roundw
      case rel => exact ⟨k + 1, _, by omega, by go_num, r3⟩
      case measure => simp [intOf]; omega
    · have hkn : k = n := by omega
      subst hkn
      clear hlt hk
      go_wp2
      have hnil : F.pa = none → F.pc = 0 ∧ F.params = [] := fun e => ⟨HPN.out e, by
        cases hl : F.params with
        | nil => rfl
        | cons a b =>
          obtain ⟨_, _, e2, _⟩ := HPS.out (by rw [hl]; simp)
          rw [e] at e2; cases e2⟩
      refine wp_only ?_
      refine use_wp (region14 (n := k) (R := R) (l := F.params) (fun _ _ _ _ h => h) (by omega) (by omega) (by omega) (by omega) (by omega) (by omega) hnil ((HPS.out.below (Ba.trans (r2.bel.mono Ba.size)) (Nat.le_refl _)).more (Nat.le_trans Ba.size r2.bel.size)) (r2.pb.2.cell 0) (r2.xb.2.cell 0) (r2.fb.cell 1) (r2.fb.cell 2) r2.pb.2.lt r2.xb.2.lt r2.fb.lt (whl_apart r2.pb.2 r2.ib.2 (by decide)) (whl_apart r2.xb.2 r2.ib.2 (by decide)) (whl_apart r2.fb r2.ib.2 (by decide)) r2.ib.2 (by rw [made1, List.getElem?_toArray, List.getElem?_replicate, if_pos (by omega)]) ?_) (by kernel_rfl)
      intro g cp W2 u68 u69 u70 u71 u72 u73 u74 u75 u76 u77 u78 u79 u80 u81 u82 u83 u84 hg hcR hcp hrow hB2
      simp only [onlyN]
      have n1 := whl_apart r2.pb.2 r2.ib.2 (by decide)
      have n2 := whl_apart r2.xb.2 r2.ib.2 (by decide)
      have n3 := whl_apart r2.mb.2 r2.ib.2 (by decide)
      have n4 := whl_apart r2.pb.2 r2.mb.2 (by decide)
      have P2 := (r2.pb.2.below' hB2).far (p := ⟨b1, 0, none⟩) n1 (.slice (some ⟨g, 0, none⟩) R cp)
      have X2 := (r2.xb.2.below' hB2).far (p := ⟨b1, 0, none⟩) n2 (.slice (some ⟨g, 0, none⟩) R cp)
      have K2 := (r2.mb.2.below' hB2).far (p := ⟨b1, 0, none⟩) n3 (.slice (some ⟨g, 0, none⟩) R cp)
      have d0 := P2.cell 0
      have d1 := X2.cell 2
      have d2 := K2.cell 0
      have d3 := K2.frozen 0
      rw [made1, List.getElem?_toArray, List.getElem?_replicate, if_pos (by omega)] at d2
      simp only [List.getElem?_toArray, List.getElem?_cons_zero, List.getElem?_cons_succ] at d0 d1
      have P3 := P2.far (p := ⟨b6, 0, none⟩) n4 (.bool true)
      have d4 := P3.cell 0
      simp only [List.getElem?_toArray, List.getElem?_cons_zero, List.getElem?_cons_succ] at d4
      have hk0' : (0 : Int) < (k : Int) := by omega
      have HS := Lib.hid (startP (B := w.heap.size) (F := F) r2 Ba.size (by omega) hB2 hg (by rw [beginD, HRR.out, Int.toNat_natCast]; exact hrow) hcR hcp HNN.out (by rw [HRR.out]; rfl))
      go_wp2
      go_step3
      go_wp2_with fail
      go_at_call 34
      refine (roundsF bx _).mono ?_
      rintro e w' ⟨rfl, rfl⟩
      go_wp2
      have fa1 : ∀ {q t cs}, Whl wa q t cs → t ≠ 26 → t ≠ 4 → Whl (((W2.setCell ⟨b1, 0, none⟩ (.slice (some ⟨g, 0, none⟩) R cp)).setCell ⟨b6, 0, none⟩ (.bool true)).alloc (.cells #[.pointer (some ⟨bx, 0, none⟩)] 66)) q t cs := fun hq h1 h2 => by
        have hv := hq.below' r2.bel
        exact (((hv.below' hB2).far (p := ⟨b1, 0, none⟩) (whl_apart hv r2.ib.2 h1) _).far (p := ⟨b6, 0, none⟩) (whl_apart hv r2.mb.2 h2) _).alloc _
      have M5 := fa1 M2a (by decide) (by decide)
      have A5 := fa1 M4a (by decide) (by decide)
      have F5 := fa1 Fa (by decide) (by decide)
      have P5 := P3.alloc (.cells #[.pointer (some ⟨bx, 0, none⟩)] 66)
      have I5 := Whl.new ((W2.setCell ⟨b1, 0, none⟩ (.slice (some ⟨g, 0, none⟩) R cp)).setCell ⟨b6, 0, none⟩ (.bool true)) 66 #[.pointer (some ⟨bx, 0, none⟩)]
      rw [show ((W2.setCell ⟨b1, 0, none⟩ (.slice (some ⟨g, 0, none⟩) R cp)).setCell ⟨b6, 0, none⟩ (.bool true)).heap.size = W2.heap.size by simp] at I5
      have B5 : Below w.heap.size w (((W2.setCell ⟨b1, 0, none⟩ (.slice (some ⟨g, 0, none⟩) R cp)).setCell ⟨b6, 0, none⟩ (.bool true)).alloc (.cells #[.pointer (some ⟨bx, 0, none⟩)] 66)) :=
        below_alloc ((((Ba.trans (r2.bel.mono Ba.size)).trans (hB2.mono (Nat.le_trans Ba.size r2.bel.size))).setCell (p := ⟨b1, 0, none⟩) (Nat.le_trans Ba.size r2.ib.1) _).setCell (p := ⟨b6, 0, none⟩) (Nat.le_trans Ba.size r2.mb.1) _) _
      have HS5 := HS.out.alloc (.cells #[.pointer (some ⟨bx, 0, none⟩)] 66)
      obtain rfl := HNN.out
      have hgd : GoodS m F (startD F) := by have := start_good wm HMY.out hkm; rw [HFF.out] at this; exact this
      obtain ⟨W3, hW3⟩ : ∃ W3, (((W2.setCell ⟨b1, 0, none⟩ (.slice (some ⟨g, 0, none⟩) R cp)).setCell ⟨b6, 0, none⟩ (.bool true)).alloc (.cells #[.pointer (some ⟨bx, 0, none⟩)] 66)) = W3 := ⟨_, rfl⟩
      rw [hW3] at M5 A5 F5 P5 I5 B5 HS5
      have HM5 := H.out.1
      clear fa1
      rw [hW3]
      refine use_wp (rangeP wm HMY.out hkm HFF.out HM5 HRR.out ⟨_, HS5⟩ hgd B5 M5 A5 F5 P5 I5 ?_) (by kernel_rfl)
      intro W6 L6 s6 hf6 hS6 hB6 hsz6 hP6 hA6 hnb6 hd6
      have c0 := hP6.cell 0
      have c1 := hS6.c0
      have c2 := hS6.c1
      have a0 := hA6.frozen 0
      have a1 := hA6.frozen 1
      have a2 := hA6.cell 0
      have a3 := hA6.cell 1
      have lA := hA6.lt
      simp only [List.getElem?_toArray, List.getElem?_cons_zero, List.getElem?_cons_succ] at c0 a2 a3
      have HS6 := Lib.hid hS6
      have HD6 := Lib.hid hd6
      have HN6 := Lib.hid hnb6
      have HF6 := Lib.hid hf6
      clear hS6 hd6 hnb6 hf6
      clear d0 d1 d2 d3 d4 n1 n2 n3 n4 hW3
      go_wp2
      have o1 : ∀ k, k ≠ w.heap.size + 1 → k ≠ W3.heap.size → (((W6.setCell ⟨w.heap.size + 1, 0, none⟩ (.slice (some ⟨L6.inb, 0, none⟩) F.code.length F.code.length)).setCell ⟨w.heap.size + 1, 1, none⟩ (.slice (some ⟨L6.chb, 0, none⟩) F.code.length F.code.length)).putObj W3.heap.size (.deferred none)).heap[k]? = W6.heap[k]? := fun k h1 h2 =>
        (World.putObj_heap_other h2).trans ((Below.heap_setCell _ _ _ k h1).trans (Below.heap_setCell _ _ _ k h1))
      have l5 := A5.lt
      have hK7 : ((W6.setCell ⟨w.heap.size + 1, 0, none⟩ (.slice (some ⟨L6.inb, 0, none⟩) F.code.length F.code.length)).setCell ⟨w.heap.size + 1, 1, none⟩ (.slice (some ⟨L6.chb, 0, none⟩) F.code.length F.code.length)).heap[W3.heap.size]? = some (.deferred (some [])) :=
        ((Below.heap_setCell _ _ _ W3.heap.size (by simp; omega)).trans (Below.heap_setCell _ _ _ W3.heap.size (by simp; omega))).trans HD6.out
      refine ⟨by simp, .inl ⟨_, _, rfl, run_takeDeferred hK7, ?_⟩⟩
      refine ⟨.tuple #[.agg #[.slice (some ⟨L6.inb, 0, none⟩) F.code.length F.code.length, .slice (some ⟨L6.chb, 0, none⟩) F.code.length F.code.length], .int .i64 0], ?_, ?_⟩
      · have e0 : (((W6.setCell ⟨w.heap.size + 1, 0, none⟩ (.slice (some ⟨L6.inb, 0, none⟩) F.code.length F.code.length)).setCell ⟨w.heap.size + 1, 1, none⟩ (.slice (some ⟨L6.chb, 0, none⟩) F.code.length F.code.length)).putObj W3.heap.size (.deferred none)).cell? ⟨w.heap.size + 1, 0, none⟩ = some (.slice (some ⟨L6.inb, 0, none⟩) F.code.length F.code.length) := by
          have := ((hA6.put 0 (.slice (some ⟨L6.inb, 0, none⟩) F.code.length F.code.length)).put 1 (.slice (some ⟨L6.chb, 0, none⟩) F.code.length F.code.length))
          have h2 : Whl (((W6.setCell ⟨w.heap.size + 1, 0, none⟩ (.slice (some ⟨L6.inb, 0, none⟩) F.code.length F.code.length)).setCell ⟨w.heap.size + 1, 1, none⟩ (.slice (some ⟨L6.chb, 0, none⟩) F.code.length F.code.length)).putObj W3.heap.size (.deferred none)) _ _ _ := (World.putObj_heap_other (by omega)).trans this
          have := h2.cell 0
          simpa using this
        have e1 : (((W6.setCell ⟨w.heap.size + 1, 0, none⟩ (.slice (some ⟨L6.inb, 0, none⟩) F.code.length F.code.length)).setCell ⟨w.heap.size + 1, 1, none⟩ (.slice (some ⟨L6.chb, 0, none⟩) F.code.length F.code.length)).putObj W3.heap.size (.deferred none)).cell? ⟨w.heap.size + 1, 1, none⟩ = some (.slice (some ⟨L6.chb, 0, none⟩) F.code.length F.code.length) := by
          have := ((hA6.put 0 (.slice (some ⟨L6.inb, 0, none⟩) F.code.length F.code.length)).put 1 (.slice (some ⟨L6.chb, 0, none⟩) F.code.length F.code.length))
          have h2 : Whl (((W6.setCell ⟨w.heap.size + 1, 0, none⟩ (.slice (some ⟨L6.inb, 0, none⟩) F.code.length F.code.length)).setCell ⟨w.heap.size + 1, 1, none⟩ (.slice (some ⟨L6.chb, 0, none⟩) F.code.length F.code.length)).putObj W3.heap.size (.deferred none)) _ _ _ := (World.putObj_heap_other (by omega)).trans this
          have := h2.cell 1
          simpa using this
        simp [results, Tryd.f15, go_sem, e0, e1]
      · have hS7 := HS6.out.keep (W' := ((W6.setCell ⟨w.heap.size + 1, 0, none⟩ (.slice (some ⟨L6.inb, 0, none⟩) F.code.length F.code.length)).setCell ⟨w.heap.size + 1, 1, none⟩ (.slice (some ⟨L6.chb, 0, none⟩) F.code.length F.code.length)).putObj W3.heap.size (.deferred none)) (fun q hq => o1 q (fun e => whl_out HS6.out hA6 (by decide) (by decide) (by decide) (by decide) (by decide) (by decide) (e ▸ hq)) (fun e => HN6.out (e ▸ hq)))
        refine ⟨below_putObj ((hB6.setCell (p := ⟨w.heap.size + 1, 0, none⟩) (by simp) _).setCell (p := ⟨w.heap.size + 1, 1, none⟩) (by simp) _) (by omega) _, .inr (.inr ⟨by rw [HMY.out], kf, rfl, hkm, ?_⟩)⟩
        rw [HFF.out]
        refine ⟨L6, bx, s6, HF6.out, rfl, ?_⟩
        rw [HRR.out, Int.toNat_natCast]
        exact hS7
end Go.Proofs.YtddobhneplfddaaDoor

namespace Go.Proofs.YtddobhneplfddaaDoor
set_option maxRecDepth 100000
open Go.RowKit
set_option linter.unusedSimpArgs false
set_option linter.unusedVariables false
theorem runP (m : ModD) (fn : Int) (wm : m.Wf) (nm : m.Nils) (w : World) (hm : ModOk w w.heap.size m) (ht : TabOk w) :
    Calls Tryd.prog 15 #[m.val, .int .i64 fn] w (RunOk w m fn) := by
  cases h : ((mayD m).e != 0)
  · have hmay : mayD m = ⟨0, 0, 0⟩ := may_e (by simpa using h)
    by_cases hf : fn < 0 ∨ (m.funcs.length : Int) ≤ fn
    · exact runP2 m fn wm h hf w hm ht
    · obtain ⟨kf, rfl, hkf⟩ := nat_of (show 0 ≤ fn ∧ fn < (m.funcs.length : Int) by omega)
      exact runP3 m kf wm hmay (by omega) ((nm.each (nthF m.funcs kf) (nthF_mem (by omega))).p) w hm ht
  · exact runP1 m fn wm h w hm ht
/-- What stands at last is in order, and closed. -/
theorem Final.good {m : ModD} (wm : m.Wf) (hmay : mayD m = ⟨0, 0, 0⟩) {kf : Nat} (hk : kf < m.funcs.length) {s : StD} (h : Final m (nthF m.funcs kf) s) : GoodS m (nthF m.funcs kf) s ∧ ClosI m (nthF m.funcs kf) s ∧ ∀ i, i < (nthF m.funcs kf).code.length → s.marked.getD i false = false := by
  have hg := start_good wm hmay hk
  have wf := wm.funcs _ (nthF_mem hk)
  obtain ⟨K, h1, h2, h3⟩ := stops wm wf hg
  have e : s = afterD m (nthF m.funcs kf) (passes (nthF m.funcs kf).code.length K) := Final.only h ⟨K, h1, h2, rfl⟩
  have g := h3 _ (List.prefix_refl _)
  rw [← e] at g h2
  refine ⟨g, e ▸ final_closed wm wf (by have := (f_ok2 hmay hk).2.1; omega) hg K, fun i hi => ?_⟩
  cases hm : s.marked.getD i false
  · rfl
  · exact absurd ((marked_iff g).2 ⟨i, hi, hm⟩) h2
end Go.Proofs.YtddobhneplfddaaDoor

namespace Go.Proofs.YtddobhneplfddaaDoor
set_option maxRecDepth 100000
open Go.RowKit
set_option linter.unusedSimpArgs false
set_option linter.unusedVariables false
/-- Blocks that are made one behind the other. -/
def allocs (w : World) : List (TypeId × Array Value) → World
  | [] => w
  | a :: l => allocs (w.alloc (.cells a.2 a.1)) l
theorem below_allocs {w0 : World} : ∀ (l : List (TypeId × Array Value)) (w : World), Below w0.heap.size w0 w → Below w0.heap.size w0 (allocs w l)
  | [], _, h => h
  | a :: l, w, h => below_allocs l _ (below_alloc h _)
theorem whl_keep {g : Nat} {t : TypeId} {cs : Array Value} : ∀ (l : List (TypeId × Array Value)) (w : World), Whl w g t cs → Whl (allocs w l) g t cs
  | [], _, h => h
  | a :: l, w, h => whl_keep l _ (h.alloc _)
theorem whl_allocs : ∀ (l : List (TypeId × Array Value)) (w : World) (i : Nat) (t : TypeId) (cs : Array Value), l[i]? = some (t, cs) → Whl (allocs w l) (w.heap.size + i) t cs
  | [], _, i, _, _, h => by simp at h
  | a :: l, w, 0, t, cs, h => by
    simp only [List.getElem?_cons_zero, Option.some.injEq] at h
    subst h
    exact whl_keep l _ (Whl.new w t cs)
  | a :: l, w, i + 1, t, cs, h => by
    rw [List.getElem?_cons_succ] at h
    have := whl_allocs l (w.alloc (.cells a.2 a.1)) i t cs h
    rw [World.size_alloc] at this
    rwa [show w.heap.size + (i + 1) = w.heap.size + 1 + i by omega]
def fixF (pb cb : Nat) : FuncD := ⟨strOf [102], some ⟨pb, 0, none⟩, 1, [⟨-3, 9⟩], 2, 0, some ⟨cb, 0, none⟩, 3, [⟨17, 1, 0, 0, 2⟩, ⟨18, 1, 0, 0, 0⟩, ⟨0, 1, 0, 0, 0⟩]⟩
def fixM (tb fb pb cb : Nat) : ModD := ⟨some ⟨tb, 0, none⟩, 1, [8], some ⟨fb, 0, none⟩, 1, [fixF pb cb]⟩
section
variable (tb fb pb cb : Nat)
theorem fix_find : findD (fixM tb fb pb cb).funcs (nthF (fixM tb fb pb cb).funcs 0).name = 0 := by
  have : eqN (nthF (fixM tb fb pb cb).funcs 0).name (nthF (fixM tb fb pb cb).funcs 0).name = true := by simp [eqN]
  simp only [fixM, findD, List.length_cons, List.length_nil, findFrom] at this ⊢
  simp only [this, if_true]; rfl
theorem fix_may : mayD (fixM tb fb pb cb) = ⟨0, 0, 0⟩ := by
  have h2 : isNameB (nthF (fixM tb fb pb cb).funcs 0).name = true := by rfl
  have hw : wholeD (fixM tb fb pb cb) = -1 := by
    have : okWhole (fixM tb fb pb cb) 0 = true := by
      rw [okWhole]
      unfold wholeE
      rw [fix_find, h2]; rfl
    show badFrom _ 0 1 = -1
    rw [badFrom, this]; rfl
  exact mayD_6 (show ¬ 16 < 1 by decide) rfl (show ¬ 32 < 1 by decide) hw rfl
theorem fix_wf : (fixM tb fb pb cb).Wf := by
  refine ⟨fun t ht => ?_, by simp [fixM], fun f hf => ?_, by simp [fixM]⟩
  · obtain rfl : t = 8 := by simpa [fixM] using ht
    exact ⟨by decide, by decide⟩
  obtain rfl : f = fixF pb cb := by simpa [fixM] using hf
  refine ⟨?_, fun s hs => ?_, by simp [fixF], ⟨by simp [fixF], by simp [fixF]⟩, ⟨by simp [fixF], by simp [fixF]⟩, fun y hy => ?_, by simp [fixF]⟩
  · show (strOf [102]).size ≤ maxLen
    unfold maxLen; decide
  · obtain rfl : s = ⟨-3, 9⟩ := by simpa [fixF] using hs
    exact ⟨⟨by decide, by decide⟩, ⟨by decide, by decide⟩⟩
  · have : y = ⟨17, 1, 0, 0, 2⟩ ∨ y = ⟨18, 1, 0, 0, 0⟩ ∨ y = ⟨0, 1, 0, 0, 0⟩ := by simpa [fixF] using hy
    rcases this with rfl | rfl | rfl <;> exact ⟨⟨by decide, by decide⟩, ⟨by decide, by decide⟩, ⟨by decide, by decide⟩, ⟨by decide, by decide⟩, ⟨by decide, by decide⟩⟩
theorem fix_nils : (fixM tb fb pb cb).Nils := by
  refine ⟨(fun h => by cases h), (fun h => by cases h), fun f hf => ?_⟩
  obtain rfl : f = fixF pb cb := by simpa [fixM] using hf
  exact ⟨(fun h => by cases h), (fun h => by cases h)⟩
def fixS : StD := ⟨[some [⟨-3, 9⟩, ⟨0, 9223372036854775807⟩], some [⟨-3, 9⟩, ⟨0, 8⟩], some [⟨-3, 9⟩, ⟨0, 9223372036854775807⟩]], [false, false, false], [6, 5, 6], [[0, 6], [0, 5], [0, 6]]⟩
theorem fix_marks : ∀ p, p < 7 → (afterD (fixM tb fb pb cb) (fixF pb cb) (passes 3 p)).marked = [true, false, false]
  | 0, _ => by kernel_rfl
  | 1, _ => by kernel_rfl
  | 2, _ => by kernel_rfl
  | 3, _ => by kernel_rfl
  | 4, _ => by kernel_rfl
  | 5, _ => by kernel_rfl
  | 6, _ => by kernel_rfl
  | p + 7, h => absurd h (by omega)
theorem fix_last : afterD (fixM tb fb pb cb) (fixF pb cb) (passes 3 7) = fixS := by kernel_rfl
theorem fix_final : Final (fixM tb fb pb cb) (fixF pb cb) fixS :=
  ⟨7, fun p hp => by rw [show (fixF pb cb).code.length = 3 from rfl, fix_marks tb fb pb cb p hp]; simp, by rw [show (fixF pb cb).code.length = 3 from rfl, fix_last]; simp [fixS], (fix_last tb fb pb cb).symm⟩
theorem fix_edge : edgeD (fixM tb fb pb cb) 0 0 1 [⟨3, 5⟩, ⟨0, 9⟩] = some [⟨3, 5⟩, ⟨0, 4⟩] := by
  have := edge_yes (m := fixM tb fb pb cb) (kf := 0) (k0 := 0) (tw := 1) (l := [⟨3, 5⟩, ⟨0, 9⟩]) (fix_may tb fb pb cb) (show 0 < 1 by decide) (by
    have : nextD (nthF (fixM tb fb pb cb).funcs 0) (0 : Nat) = [1, 2] := by kernel_rfl
    rw [this]; simp) rfl (fun j s hj hs => by
    have : s = ⟨3, 5⟩ ∨ s = ⟨0, 9⟩ := by have := List.mem_of_getElem? hs; simpa using this
    rcases this with rfl | rfl <;> decide)
  exact this.trans (by kernel_rfl)
end
/-- What lies in memory while fixed runs: the module. -/
structure FixMem (w : World) (W : World) : Prop where
  below : Below w.heap.size w W
  b0 : Whl W (w.heap.size) 2 #[.int .i64 8]
  b1 : Whl W (w.heap.size + 1) 34 #[.int .i64 (-3), .int .i64 9]
  b2 : Whl W (w.heap.size + 1 + 1) 65 #[.int .i64 17, .int .i64 1, .int .i64 0, .int .i64 0, .int .i64 2, .int .i64 18, .int .i64 1, .int .i64 0, .int .i64 0, .int .i64 0, .int .i64 0, .int .i64 1, .int .i64 0, .int .i64 0, .int .i64 0]
  b3 : Whl W (w.heap.size + 1 + 1 + 1) 48 #[.string (strOf [102]), .slice (some ⟨w.heap.size + 1, 0, none⟩) 1 1, .int .i64 2, .int .i64 0, .slice (some ⟨w.heap.size + 1 + 1, 0, none⟩) 3 3]
  b4 : Whl W (w.heap.size + 1 + 1 + 1 + 1) 25 #[.slice (some ⟨w.heap.size, 0, none⟩) 1 1, .slice (some ⟨w.heap.size + 1 + 1 + 1, 0, none⟩) 1 1]
theorem FixMem.go {w W W' : World} (h : FixMem w W) (hb : Below W.heap.size W W') : FixMem w W' := ⟨below_step h.below hb, h.b0.below' hb, h.b1.below' hb, h.b2.below' hb, h.b3.below' hb, h.b4.below' hb⟩
theorem FixMem.start (w : World) : FixMem w (((((w.alloc (.cells #[.int .i64 8] 2)).alloc (.cells #[.int .i64 (-3), .int .i64 9] 34)).alloc (.cells #[.int .i64 17, .int .i64 1, .int .i64 0, .int .i64 0, .int .i64 2, .int .i64 18, .int .i64 1, .int .i64 0, .int .i64 0, .int .i64 0, .int .i64 0, .int .i64 1, .int .i64 0, .int .i64 0, .int .i64 0] 65)).alloc (.cells #[.string (strOf [102]), .slice (some ⟨w.heap.size + 1, 0, none⟩) 1 1, .int .i64 2, .int .i64 0, .slice (some ⟨w.heap.size + 1 + 1, 0, none⟩) 3 3] 48)).alloc (.cells #[.slice (some ⟨w.heap.size, 0, none⟩) 1 1, .slice (some ⟨w.heap.size + 1 + 1 + 1, 0, none⟩) 1 1] 25)) := by
  have k := fun i t cs => whl_allocs [(2, #[.int .i64 8]), (34, #[.int .i64 (-3), .int .i64 9]), (65, #[.int .i64 17, .int .i64 1, .int .i64 0, .int .i64 0, .int .i64 2, .int .i64 18, .int .i64 1, .int .i64 0, .int .i64 0, .int .i64 0, .int .i64 0, .int .i64 1, .int .i64 0, .int .i64 0, .int .i64 0]), (48, #[.string (strOf [102]), .slice (some ⟨w.heap.size + 1, 0, none⟩) 1 1, .int .i64 2, .int .i64 0, .slice (some ⟨w.heap.size + 1 + 1, 0, none⟩) 3 3]), (25, #[.slice (some ⟨w.heap.size, 0, none⟩) 1 1, .slice (some ⟨w.heap.size + 1 + 1 + 1, 0, none⟩) 1 1])] w i t cs
  exact ⟨below_allocs [(2, #[.int .i64 8]), (34, #[.int .i64 (-3), .int .i64 9]), (65, #[.int .i64 17, .int .i64 1, .int .i64 0, .int .i64 0, .int .i64 2, .int .i64 18, .int .i64 1, .int .i64 0, .int .i64 0, .int .i64 0, .int .i64 0, .int .i64 1, .int .i64 0, .int .i64 0, .int .i64 0]), (48, #[.string (strOf [102]), .slice (some ⟨w.heap.size + 1, 0, none⟩) 1 1, .int .i64 2, .int .i64 0, .slice (some ⟨w.heap.size + 1 + 1, 0, none⟩) 3 3]), (25, #[.slice (some ⟨w.heap.size, 0, none⟩) 1 1, .slice (some ⟨w.heap.size + 1 + 1 + 1, 0, none⟩) 1 1])] w (Below.refl _ _), k 0 _ _ rfl, k 1 _ _ rfl, k 2 _ _ rfl, k 3 _ _ rfl, k 4 _ _ rfl⟩
theorem FixMem.ok {w W : World} (h : FixMem w W) : ModOk W W.heap.size (fixM w.heap.size (w.heap.size + 1 + 1 + 1) (w.heap.size + 1) (w.heap.size + 1 + 1)) := by
  refine ⟨fun _ => ⟨w.heap.size, 0, rfl, h.b0.lt, fun k hk => ?_⟩, fun _ => ⟨w.heap.size + 1 + 1 + 1, 0, rfl, h.b3.lt, fun k hk j hj => ?_⟩, fun k hk => ?_⟩
  · obtain rfl : k = 0 := by have : k < 1 := hk; omega
    exact h.b0.cell 0
  · obtain rfl : k = 0 := by have : k < 1 := hk; omega
    have hj' : j < 5 := hj
    obtain rfl | rfl | rfl | rfl | rfl : j = 0 ∨ j = 1 ∨ j = 2 ∨ j = 3 ∨ j = 4 := by omega
    · exact h.b3.cell 0
    · exact h.b3.cell 1
    · exact h.b3.cell 2
    · exact h.b3.cell 3
    · exact h.b3.cell 4
  · obtain rfl : k = 0 := by have : k < 1 := hk; omega
    refine ⟨fun _ => ⟨w.heap.size + 1, 0, rfl, h.b1.lt, fun k hk j hj => ?_⟩, fun _ => ⟨w.heap.size + 1 + 1, 0, rfl, h.b2.lt, fun k hk j hj => ?_⟩⟩
    · obtain rfl : k = 0 := by have : k < 1 := hk; omega
      have hj' : j < 2 := hj
      obtain rfl | rfl : j = 0 ∨ j = 1 := by omega
      · exact h.b1.cell 0
      · exact h.b1.cell 1
    · have hk' : k < 3 := hk
      have hj' : j < 5 := hj
      obtain rfl | rfl | rfl : k = 0 ∨ k = 1 ∨ k = 2 := by omega
      all_goals
        obtain rfl | rfl | rfl | rfl | rfl : j = 0 ∨ j = 1 ∨ j = 2 ∨ j = 3 ∨ j = 4 := by omega
        all_goals exact h.b2.cell _
/-- An analysis that Run has told, as a reader has it. -/
theorem anAt_of {W : World} {B n R sb : Nat} {L : Lay} {s : StD} {m : ModD} {f : FuncD} (h : StP W B n R sb L s) (hg : GoodS m f s) (hn : f.code.length = n) (hR : f.regs.toNat = R) (hR2 : R ≤ maxLen) : AnAt W W.heap.size (some ⟨L.inb, 0, none⟩) (some ⟨L.chb, 0, none⟩) (s.ins.map (·.getD [])) s.changes := by
  have hli : s.ins.length = n := by rw [← hn]; exact hg.ok.li
  have hlc : s.changes.length = n := by rw [← hn]; exact hg.ok.lc
  refine ⟨fun _ => ⟨L.inb, 0, rfl, h.ins.lt, fun k hk => ?_⟩, fun _ => ⟨L.chb, 0, rfl, h.chs.lt, fun k hk => ?_⟩⟩
  · rw [List.length_map, hli] at hk
    have e : (s.ins.map (·.getD [])).getD k [] = (s.ins.getD k none).getD [] := by
      simp only [List.getD_eq_getElem?_getD, List.getElem?_map]
      cases s.ins[k]? <;> rfl
    rw [e]
    have hc := h.insC hk
    cases ho : s.ins.getD k none with
    | none =>
      rw [inV, ho] at hc
      refine ⟨Nat.zero_le _, none, 0, ?_, fun h0 => absurd h0 (by simp)⟩
      rw [Nat.zero_add]; exact hc
    | some l =>
      rw [inV, ho] at hc
      have hl := (hg.ok.some k l ho).1
      simp only [Option.getD_some]
      have hr := (h.rows k l ho).1
      refine ⟨by omega, _, _, by rw [Nat.zero_add, hl, hR]; exact hc, hr.rowsAt hr.lt⟩
  · rw [hlc] at hk
    have hl := hg.ok.row k (by omega)
    refine ⟨by omega, _, _, by rw [Nat.zero_add, hl, hR]; exact h.chsC hk, fun _ => ⟨_, 0, rfl, (h.cnts k hk).lt, fun j hj => by rw [Nat.zero_add]; exact h.cntC hk hj⟩⟩
def wantI : List (List Sp) := [[⟨-3, 9⟩, ⟨0, 9223372036854775807⟩], [⟨-3, 9⟩, ⟨0, 8⟩], [⟨-3, 9⟩, ⟨0, 9223372036854775807⟩]]
def wantC : List (List Nat) := [[0, 6], [0, 5], [0, 6]]
theorem fix_Run {w W : World} (h : FixMem w W) (ht : TabOk w) : Calls Tryd.prog 15 #[.agg #[.slice (some ⟨w.heap.size, 0, none⟩) 1 1, .slice (some ⟨w.heap.size + 1 + 1 + 1, 0, none⟩) 1 1], .int .i64 0] W fun e w' =>
    ∃ ib cb, e = .returned (.tuple #[.agg #[.slice (some ⟨ib, 0, none⟩) 3 3, .slice (some ⟨cb, 0, none⟩) 3 3], .int .i64 0]) ∧ AnAt w' w'.heap.size (some ⟨ib, 0, none⟩) (some ⟨cb, 0, none⟩) wantI wantC ∧ Below W.heap.size W w' := by
  refine (runP (fixM w.heap.size (w.heap.size + 1 + 1 + 1) (w.heap.size + 1) (w.heap.size + 1 + 1)) 0 (fix_wf _ _ _ _) (fix_nils _ _ _ _) W h.ok (ht.below h.below ht.size)).mono ?_
  rintro e w' ⟨hb, h2⟩
  rw [fix_may] at h2
  rcases h2 with ⟨h0, _⟩ | ⟨_, h0, _⟩ | ⟨_, kf, e0, hk, L, sb, s, hf, he, hS⟩
  · exact absurd rfl h0
  · rcases h0 with h0 | h0
    · omega
    · have : (1 : Int) ≤ 0 := h0
      omega
  · obtain rfl : kf = 0 := by omega
    obtain rfl : s = fixS := hf.only (fix_final _ _ _ _)
    have hg := (hf.good (fix_wf _ _ _ _) (fix_may _ _ _ _) hk).1
    exact ⟨L.inb, L.chb, he, anAt_of hS hg rfl rfl (show (2 : Nat) ≤ maxLen by unfold maxLen; decide), hb⟩
theorem want_at (V : World) : AnAt (((((((((V.alloc (.cells #[.int .i64 (-3), .int .i64 9, .int .i64 0, .int .i64 9223372036854775807] 34)).alloc (.cells #[.int .i64 (-3), .int .i64 9, .int .i64 0, .int .i64 8] 34)).alloc (.cells #[.int .i64 (-3), .int .i64 9, .int .i64 0, .int .i64 9223372036854775807] 34)).alloc (.cells #[.slice (some ⟨V.heap.size, 0, none⟩) 2 2, .slice (some ⟨V.heap.size + 1, 0, none⟩) 2 2, .slice (some ⟨V.heap.size + 1 + 1, 0, none⟩) 2 2] 26)).alloc (.cells #[.int .i64 0, .int .i64 6] 3)).alloc (.cells #[.int .i64 0, .int .i64 5] 3)).alloc (.cells #[.int .i64 0, .int .i64 6] 3)).alloc (.cells #[.slice (some ⟨V.heap.size + 1 + 1 + 1 + 1, 0, none⟩) 2 2, .slice (some ⟨V.heap.size + 1 + 1 + 1 + 1 + 1, 0, none⟩) 2 2, .slice (some ⟨V.heap.size + 1 + 1 + 1 + 1 + 1 + 1, 0, none⟩) 2 2] 44)).alloc (.cells #[.slice (some ⟨V.heap.size + 1 + 1 + 1, 0, none⟩) 3 3, .slice (some ⟨V.heap.size + 1 + 1 + 1 + 1 + 1 + 1 + 1, 0, none⟩) 3 3] 39)) (((((((((V.alloc (.cells #[.int .i64 (-3), .int .i64 9, .int .i64 0, .int .i64 9223372036854775807] 34)).alloc (.cells #[.int .i64 (-3), .int .i64 9, .int .i64 0, .int .i64 8] 34)).alloc (.cells #[.int .i64 (-3), .int .i64 9, .int .i64 0, .int .i64 9223372036854775807] 34)).alloc (.cells #[.slice (some ⟨V.heap.size, 0, none⟩) 2 2, .slice (some ⟨V.heap.size + 1, 0, none⟩) 2 2, .slice (some ⟨V.heap.size + 1 + 1, 0, none⟩) 2 2] 26)).alloc (.cells #[.int .i64 0, .int .i64 6] 3)).alloc (.cells #[.int .i64 0, .int .i64 5] 3)).alloc (.cells #[.int .i64 0, .int .i64 6] 3)).alloc (.cells #[.slice (some ⟨V.heap.size + 1 + 1 + 1 + 1, 0, none⟩) 2 2, .slice (some ⟨V.heap.size + 1 + 1 + 1 + 1 + 1, 0, none⟩) 2 2, .slice (some ⟨V.heap.size + 1 + 1 + 1 + 1 + 1 + 1, 0, none⟩) 2 2] 44)).alloc (.cells #[.slice (some ⟨V.heap.size + 1 + 1 + 1, 0, none⟩) 3 3, .slice (some ⟨V.heap.size + 1 + 1 + 1 + 1 + 1 + 1 + 1, 0, none⟩) 3 3] 39)).heap.size (some ⟨V.heap.size + 1 + 1 + 1, 0, none⟩) (some ⟨V.heap.size + 1 + 1 + 1 + 1 + 1 + 1 + 1, 0, none⟩) wantI wantC ∧ Whl (((((((((V.alloc (.cells #[.int .i64 (-3), .int .i64 9, .int .i64 0, .int .i64 9223372036854775807] 34)).alloc (.cells #[.int .i64 (-3), .int .i64 9, .int .i64 0, .int .i64 8] 34)).alloc (.cells #[.int .i64 (-3), .int .i64 9, .int .i64 0, .int .i64 9223372036854775807] 34)).alloc (.cells #[.slice (some ⟨V.heap.size, 0, none⟩) 2 2, .slice (some ⟨V.heap.size + 1, 0, none⟩) 2 2, .slice (some ⟨V.heap.size + 1 + 1, 0, none⟩) 2 2] 26)).alloc (.cells #[.int .i64 0, .int .i64 6] 3)).alloc (.cells #[.int .i64 0, .int .i64 5] 3)).alloc (.cells #[.int .i64 0, .int .i64 6] 3)).alloc (.cells #[.slice (some ⟨V.heap.size + 1 + 1 + 1 + 1, 0, none⟩) 2 2, .slice (some ⟨V.heap.size + 1 + 1 + 1 + 1 + 1, 0, none⟩) 2 2, .slice (some ⟨V.heap.size + 1 + 1 + 1 + 1 + 1 + 1, 0, none⟩) 2 2] 44)).alloc (.cells #[.slice (some ⟨V.heap.size + 1 + 1 + 1, 0, none⟩) 3 3, .slice (some ⟨V.heap.size + 1 + 1 + 1 + 1 + 1 + 1 + 1, 0, none⟩) 3 3] 39)) (V.heap.size + 1 + 1 + 1 + 1 + 1 + 1 + 1 + 1) 39 #[.slice (some ⟨V.heap.size + 1 + 1 + 1, 0, none⟩) 3 3, .slice (some ⟨V.heap.size + 1 + 1 + 1 + 1 + 1 + 1 + 1, 0, none⟩) 3 3] ∧ Below V.heap.size V (((((((((V.alloc (.cells #[.int .i64 (-3), .int .i64 9, .int .i64 0, .int .i64 9223372036854775807] 34)).alloc (.cells #[.int .i64 (-3), .int .i64 9, .int .i64 0, .int .i64 8] 34)).alloc (.cells #[.int .i64 (-3), .int .i64 9, .int .i64 0, .int .i64 9223372036854775807] 34)).alloc (.cells #[.slice (some ⟨V.heap.size, 0, none⟩) 2 2, .slice (some ⟨V.heap.size + 1, 0, none⟩) 2 2, .slice (some ⟨V.heap.size + 1 + 1, 0, none⟩) 2 2] 26)).alloc (.cells #[.int .i64 0, .int .i64 6] 3)).alloc (.cells #[.int .i64 0, .int .i64 5] 3)).alloc (.cells #[.int .i64 0, .int .i64 6] 3)).alloc (.cells #[.slice (some ⟨V.heap.size + 1 + 1 + 1 + 1, 0, none⟩) 2 2, .slice (some ⟨V.heap.size + 1 + 1 + 1 + 1 + 1, 0, none⟩) 2 2, .slice (some ⟨V.heap.size + 1 + 1 + 1 + 1 + 1 + 1, 0, none⟩) 2 2] 44)).alloc (.cells #[.slice (some ⟨V.heap.size + 1 + 1 + 1, 0, none⟩) 3 3, .slice (some ⟨V.heap.size + 1 + 1 + 1 + 1 + 1 + 1 + 1, 0, none⟩) 3 3] 39)) := by
  have k := fun i t cs => whl_allocs [(34, #[.int .i64 (-3), .int .i64 9, .int .i64 0, .int .i64 9223372036854775807]), (34, #[.int .i64 (-3), .int .i64 9, .int .i64 0, .int .i64 8]), (34, #[.int .i64 (-3), .int .i64 9, .int .i64 0, .int .i64 9223372036854775807]), (26, #[.slice (some ⟨V.heap.size, 0, none⟩) 2 2, .slice (some ⟨V.heap.size + 1, 0, none⟩) 2 2, .slice (some ⟨V.heap.size + 1 + 1, 0, none⟩) 2 2]), (3, #[.int .i64 0, .int .i64 6]), (3, #[.int .i64 0, .int .i64 5]), (3, #[.int .i64 0, .int .i64 6]), (44, #[.slice (some ⟨V.heap.size + 1 + 1 + 1 + 1, 0, none⟩) 2 2, .slice (some ⟨V.heap.size + 1 + 1 + 1 + 1 + 1, 0, none⟩) 2 2, .slice (some ⟨V.heap.size + 1 + 1 + 1 + 1 + 1 + 1, 0, none⟩) 2 2]), (39, #[.slice (some ⟨V.heap.size + 1 + 1 + 1, 0, none⟩) 3 3, .slice (some ⟨V.heap.size + 1 + 1 + 1 + 1 + 1 + 1 + 1, 0, none⟩) 3 3])] V i t cs
  have k0 := k 0 _ _ rfl
  have k1 := k 1 _ _ rfl
  have k2 := k 2 _ _ rfl
  have k3 := k 3 _ _ rfl
  have k4 := k 4 _ _ rfl
  have k5 := k 5 _ _ rfl
  have k6 := k 6 _ _ rfl
  have k7 := k 7 _ _ rfl
  have k8 := k 8 _ _ rfl
  have hB := below_allocs [(34, #[.int .i64 (-3), .int .i64 9, .int .i64 0, .int .i64 9223372036854775807]), (34, #[.int .i64 (-3), .int .i64 9, .int .i64 0, .int .i64 8]), (34, #[.int .i64 (-3), .int .i64 9, .int .i64 0, .int .i64 9223372036854775807]), (26, #[.slice (some ⟨V.heap.size, 0, none⟩) 2 2, .slice (some ⟨V.heap.size + 1, 0, none⟩) 2 2, .slice (some ⟨V.heap.size + 1 + 1, 0, none⟩) 2 2]), (3, #[.int .i64 0, .int .i64 6]), (3, #[.int .i64 0, .int .i64 5]), (3, #[.int .i64 0, .int .i64 6]), (44, #[.slice (some ⟨V.heap.size + 1 + 1 + 1 + 1, 0, none⟩) 2 2, .slice (some ⟨V.heap.size + 1 + 1 + 1 + 1 + 1, 0, none⟩) 2 2, .slice (some ⟨V.heap.size + 1 + 1 + 1 + 1 + 1 + 1, 0, none⟩) 2 2]), (39, #[.slice (some ⟨V.heap.size + 1 + 1 + 1, 0, none⟩) 3 3, .slice (some ⟨V.heap.size + 1 + 1 + 1 + 1 + 1 + 1 + 1, 0, none⟩) 3 3])] V (Below.refl V.heap.size V)
  refine ⟨?_, k8, hB⟩
  change AnAt (allocs V [(34, #[.int .i64 (-3), .int .i64 9, .int .i64 0, .int .i64 9223372036854775807]), (34, #[.int .i64 (-3), .int .i64 9, .int .i64 0, .int .i64 8]), (34, #[.int .i64 (-3), .int .i64 9, .int .i64 0, .int .i64 9223372036854775807]), (26, #[.slice (some ⟨V.heap.size, 0, none⟩) 2 2, .slice (some ⟨V.heap.size + 1, 0, none⟩) 2 2, .slice (some ⟨V.heap.size + 1 + 1, 0, none⟩) 2 2]), (3, #[.int .i64 0, .int .i64 6]), (3, #[.int .i64 0, .int .i64 5]), (3, #[.int .i64 0, .int .i64 6]), (44, #[.slice (some ⟨V.heap.size + 1 + 1 + 1 + 1, 0, none⟩) 2 2, .slice (some ⟨V.heap.size + 1 + 1 + 1 + 1 + 1, 0, none⟩) 2 2, .slice (some ⟨V.heap.size + 1 + 1 + 1 + 1 + 1 + 1, 0, none⟩) 2 2]), (39, #[.slice (some ⟨V.heap.size + 1 + 1 + 1, 0, none⟩) 3 3, .slice (some ⟨V.heap.size + 1 + 1 + 1 + 1 + 1 + 1 + 1, 0, none⟩) 3 3])]) (allocs V [(34, #[.int .i64 (-3), .int .i64 9, .int .i64 0, .int .i64 9223372036854775807]), (34, #[.int .i64 (-3), .int .i64 9, .int .i64 0, .int .i64 8]), (34, #[.int .i64 (-3), .int .i64 9, .int .i64 0, .int .i64 9223372036854775807]), (26, #[.slice (some ⟨V.heap.size, 0, none⟩) 2 2, .slice (some ⟨V.heap.size + 1, 0, none⟩) 2 2, .slice (some ⟨V.heap.size + 1 + 1, 0, none⟩) 2 2]), (3, #[.int .i64 0, .int .i64 6]), (3, #[.int .i64 0, .int .i64 5]), (3, #[.int .i64 0, .int .i64 6]), (44, #[.slice (some ⟨V.heap.size + 1 + 1 + 1 + 1, 0, none⟩) 2 2, .slice (some ⟨V.heap.size + 1 + 1 + 1 + 1 + 1, 0, none⟩) 2 2, .slice (some ⟨V.heap.size + 1 + 1 + 1 + 1 + 1 + 1, 0, none⟩) 2 2]), (39, #[.slice (some ⟨V.heap.size + 1 + 1 + 1, 0, none⟩) 3 3, .slice (some ⟨V.heap.size + 1 + 1 + 1 + 1 + 1 + 1 + 1, 0, none⟩) 3 3])]).heap.size _ _ _ _
  generalize allocs V [(34, #[.int .i64 (-3), .int .i64 9, .int .i64 0, .int .i64 9223372036854775807]), (34, #[.int .i64 (-3), .int .i64 9, .int .i64 0, .int .i64 8]), (34, #[.int .i64 (-3), .int .i64 9, .int .i64 0, .int .i64 9223372036854775807]), (26, #[.slice (some ⟨V.heap.size, 0, none⟩) 2 2, .slice (some ⟨V.heap.size + 1, 0, none⟩) 2 2, .slice (some ⟨V.heap.size + 1 + 1, 0, none⟩) 2 2]), (3, #[.int .i64 0, .int .i64 6]), (3, #[.int .i64 0, .int .i64 5]), (3, #[.int .i64 0, .int .i64 6]), (44, #[.slice (some ⟨V.heap.size + 1 + 1 + 1 + 1, 0, none⟩) 2 2, .slice (some ⟨V.heap.size + 1 + 1 + 1 + 1 + 1, 0, none⟩) 2 2, .slice (some ⟨V.heap.size + 1 + 1 + 1 + 1 + 1 + 1, 0, none⟩) 2 2]), (39, #[.slice (some ⟨V.heap.size + 1 + 1 + 1, 0, none⟩) 3 3, .slice (some ⟨V.heap.size + 1 + 1 + 1 + 1 + 1 + 1 + 1, 0, none⟩) 3 3])] = W at *
  have rows : ∀ {g : Nat} {cs : Array Value} {l : List Sp}, Whl W g 34 cs → (∀ j, j < l.length → ∀ i, i < 2 → cs[j * 2 + i]? = some (spV (nthS l j) i)) → RowsAt W W.heap.size (some ⟨g, 0, none⟩) l.length 2 fun j => spV (nthS l j) := fun hw hc _ => ⟨_, 0, rfl, hw.lt, fun j hj i hi => by rw [hw.cell, Nat.zero_add]; exact hc j hj i hi⟩
  have two : ∀ {p : Nat → Prop}, p 0 → p 1 → ∀ j, j < 2 → p j := fun h0 h1 j hj => by
    obtain rfl | rfl : j = 0 ∨ j = 1 := by omega
    · exact h0
    · exact h1
  have three : ∀ {p : Nat → Prop}, p 0 → p 1 → p 2 → ∀ j, j < 3 → p j := fun h0 h1 h2 j hj => by
    obtain rfl | rfl | rfl : j = 0 ∨ j = 1 ∨ j = 2 := by omega
    · exact h0
    · exact h1
    · exact h2
  refine ⟨fun _ => ⟨_, 0, rfl, k3.lt, three ⟨by unfold maxLen; decide, _, _, k3.cell 0, rows k0 (two (two rfl rfl) (two rfl rfl))⟩ ⟨by unfold maxLen; decide, _, _, k3.cell 1, rows k1 (two (two rfl rfl) (two rfl rfl))⟩ ⟨by unfold maxLen; decide, _, _, k3.cell 2, rows k2 (two (two rfl rfl) (two rfl rfl))⟩⟩,
    fun _ => ⟨_, 0, rfl, k7.lt, three ⟨by unfold maxLen; decide, _, _, k7.cell 0, fun _ => ⟨_, 0, rfl, k4.lt, two (k4.cell 0) (k4.cell 1)⟩⟩ ⟨by unfold maxLen; decide, _, _, k7.cell 1, fun _ => ⟨_, 0, rfl, k5.lt, two (k5.cell 0) (k5.cell 1)⟩⟩ ⟨by unfold maxLen; decide, _, _, k7.cell 2, fun _ => ⟨_, 0, rfl, k6.lt, two (k6.cell 0) (k6.cell 1)⟩⟩⟩⟩
theorem fix_Edge {w W : World} (h : FixMem w W) (ht : TabOk w) : Calls Tryd.prog 10 #[.agg #[.slice (some ⟨w.heap.size, 0, none⟩) 1 1, .slice (some ⟨w.heap.size + 1 + 1 + 1, 0, none⟩) 1 1], .int .i64 0, .int .i64 0, .int .i64 1, .slice (some ⟨W.heap.size, 0, none⟩) 2 2] (W.alloc (.cells #[.int .i64 3, .int .i64 5, .int .i64 0, .int .i64 9] 34)) fun e w' =>
    ∃ g cp, e = .returned (.tuple #[.slice (some ⟨g, 0, none⟩) 2 cp, .bool true]) ∧ RowsAt w' w'.heap.size (some ⟨g, 0, none⟩) 2 2 (fun k => spV (nthS [⟨3, 5⟩, ⟨0, 4⟩] k)) ∧ Below W.heap.size W w' := by
  have hA := FixMem.go h (below_alloc (Below.refl _ _) (.cells #[.int .i64 3, .int .i64 5, .int .i64 0, .int .i64 9] 34))
  have hN := Whl.new W 34 #[.int .i64 3, .int .i64 5, .int .i64 0, .int .i64 9]
  have hr : RowsAt (W.alloc (.cells #[.int .i64 3, .int .i64 5, .int .i64 0, .int .i64 9] 34)) (W.alloc (.cells #[.int .i64 3, .int .i64 5, .int .i64 0, .int .i64 9] 34)).heap.size (some ⟨W.heap.size, 0, none⟩) 2 2 (fun k => spV (nthS [⟨3, 5⟩, ⟨0, 9⟩] k)) := fun _ => ⟨_, 0, rfl, hN.lt, fun k hk j hj => by
    rw [hN.cell]
    obtain rfl | rfl : k = 0 ∨ k = 1 := by omega
    all_goals
      obtain rfl | rfl : j = 0 ∨ j = 1 := by omega
      all_goals rfl⟩
  refine (edgeP (fixM w.heap.size (w.heap.size + 1 + 1 + 1) (w.heap.size + 1) (w.heap.size + 1 + 1)) 0 0 1 (some ⟨W.heap.size, 0, none⟩) 2 [⟨3, 5⟩, ⟨0, 9⟩] (fix_wf _ _ _ _) ⟨by decide, by decide⟩ (by unfold maxLen; decide) (fun k s hs => by
    have : s = ⟨3, 5⟩ ∨ s = ⟨0, 9⟩ := by have := List.mem_of_getElem? hs; simpa using this
    rcases this with rfl | rfl <;> exact ⟨⟨by decide, by decide⟩, ⟨by decide, by decide⟩⟩) _ hA.ok (ht.below hA.below ht.size) hr).mono ?_
  rintro e w' ⟨hb, v, he, hv⟩
  rw [fix_edge] at he hv
  obtain ⟨⟨g, cp, rfl, hgb, hcl, hcm, hR⟩, _⟩ := hv
  exact ⟨g, cp, he, hR.toE.rowsAt hR.lt, below_step (below_alloc (Below.refl _ _) _) hb⟩
end Go.Proofs.YtddobhneplfddaaDoor
