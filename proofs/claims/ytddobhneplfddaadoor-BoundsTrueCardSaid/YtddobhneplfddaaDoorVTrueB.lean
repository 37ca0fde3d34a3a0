/-
  Layer 16 (bounds): the walk of BoundsTrue.
-/
import Derived.Test.YtddobhneplfddaaDoorVTrueA
namespace Go.Proofs.YtddobhneplfddaaDoor
set_option maxRecDepth 100000
open Go.RowKit
set_option linter.unusedSimpArgs false
set_option linter.unusedVariables false
theorem params_wf {F : FuncD} (wf : F.Wf) {k : Nat} (hk : k < F.params.length) : (nthS F.params k).Wf := by
  have : nthS F.params k = F.params[k] := by simp [nthS, hk]
  rw [this]; exact wf.params _ (List.getElem_mem hk)
/-- What holds while the parameters are laid. -/
structure Reg1 (w : World) (m : ModD) (F : FuncD) (R sb ab fb gb : Nat) (L : Lay) (s : StD) (k : Nat) (rl : List Int) (V : World) : Prop where
  len : rl.length = R
  n64 : ∀ j, In64 (rl.getD j 0)
  done : ∀ j, j < k → (nthS F.params j).In (rl.getD j 0)
  rest : ∀ j, k ≤ j → rl.getD j 0 = 0
  mem : TrueM w m F R sb ab fb L s V
  row : RowJ V gb R rl
/-- The same, the k-th of them written, whatever it is. -/
structure Reg2 (w : World) (m : ModD) (F : FuncD) (R sb ab fb gb : Nat) (L : Lay) (s : StD) (k : Nat) (rl : List Int) (V : World) : Prop where
  len : rl.length = R
  n64 : ∀ j, In64 (rl.getD j 0)
  done : ∀ j, j < k → (nthS F.params j).In (rl.getD j 0)
  rest : ∀ j, k < j → rl.getD j 0 = 0
  mem : TrueM w m F R sb ab fb L s V
  row : RowJ V gb R rl
section
variable {w V : World} {m : ModD} {F : FuncD} {R sb ab fb gb k : Nat} {L : Lay} {s : StD} {rl : List Int}
theorem Reg1.keep (h : Reg1 w m F R sb ab fb gb L s k rl V) : Reg2 w m F R sb ab fb gb L s k rl V := ⟨h.len, h.n64, h.done, fun j hj => h.rest j (by omega), h.mem, h.row⟩
theorem Reg2.setv (h : Reg2 w m F R sb ab fb gb L s k rl V) (hk : k < R) (hg : w.heap.size ≤ gb) {x : Int} (hx : In64 x) : Reg2 w m F R sb ab fb gb L s k (rl.set k x) (V.setCell ⟨gb, k, none⟩ (.int .i64 x)) := by
  have hl : k < rl.length := by rw [h.len]; exact hk
  refine ⟨by rw [List.length_set]; exact h.len, fun j => ?_, fun j hj => ?_, fun j hj => ?_, h.mem.put h.row hg k _, h.row.set hl x⟩
  · rw [getD_set]; split
    · exact hx
    · exact h.n64 j
  · rw [getD_set, if_neg (by omega)]; exact h.done j hj
  · rw [getD_set, if_neg (by omega)]; exact h.rest j hj
theorem Reg1.setv (h : Reg1 w m F R sb ab fb gb L s k rl V) (hk : k < R) (hg : w.heap.size ≤ gb) {x : Int} (hx : In64 x) : Reg2 w m F R sb ab fb gb L s k (rl.set k x) (V.setCell ⟨gb, k, none⟩ (.int .i64 x)) := h.keep.setv hk hg hx
theorem Reg2.next (h : Reg2 w m F R sb ab fb gb L s k rl V) (hx : (nthS F.params k).In (rl.getD k 0)) : Reg1 w m F R sb ab fb gb L s (k + 1) rl V := ⟨h.len, h.n64, fun j hj => by
  rcases Nat.lt_or_ge j k with q | q
  · exact h.done j q
  · obtain rfl : j = k := by omega
    exact hx, fun j hj => h.rest j (by omega), h.mem, h.row⟩
theorem TrueM.drewN (h : TrueM w m F R sb ab fb L s V) (n : Nat) : TrueM w m F R sb ab fb L s (V.drewN n) := h.go (below_drewN (Below.refl _ _) n)
theorem Reg1.drewN (h : Reg1 w m F R sb ab fb gb L s k rl V) (n : Nat) : Reg1 w m F R sb ab fb gb L s k rl (V.drewN n) := ⟨h.len, h.n64, h.done, h.rest, h.mem.drewN n, h.row.below' (below_drewN (Below.refl _ _) n)⟩
theorem Reg2.drewN (h : Reg2 w m F R sb ab fb gb L s k rl V) (n : Nat) : Reg2 w m F R sb ab fb gb L s k rl (V.drewN n) := ⟨h.len, h.n64, h.done, h.rest, h.mem.drewN n, h.row.below' (below_drewN (Below.refl _ _) n)⟩
end
/-- What holds between the machine's steps. -/
structure TrI (w : World) (m : ModD) (F : FuncD) (R sb ab fb : Nat) (L : Lay) (s : StD) (k : Nat) (rl : List Int) (l : List Sp) (g cp : Nat) (V : World) : Prop where
  at_ : k < F.code.length
  row : s.ins.getD k none = some l
  has : HoldsL rl l
  len : rl.length = R
  n64 : ∀ j, In64 (rl.getD j 0)
  mem : TrueM w m F R sb ab fb L s V
  own : RowJ V g cp rl
set_option maxHeartbeats 16000000 in
theorem trueL1 (m : ModD) (kf : Nat) (aL bL : List Int) (A B : Option Addr) (ca cb : Nat) (w : World) (ht : TabOk w) (wm : m.Wf) (nm : m.Nils) (hm : ModOk w w.heap.size m) (hmay : mayD m = ⟨0, 0, 0⟩) (hkm : kf < m.funcs.length)
    (has : ∀ s, s ∈ aL → In64 s) (hasl : aL.length * 8 ≤ 140737488351232) (hA : IntsAt w w.heap.size A aL) (hbs : ∀ s, s ∈ bL → In64 s) (hbsl : bL.length * 8 ≤ 140737488351232) (hB : IntsAt w w.heap.size B bL) :
    Calls Tryd.prog 8 #[m.val, .int .i64 kf, .slice A aL.length ca, .slice B bL.length cb] w fun e w' => e = .returned (.bool true) ∧ Below w.heap.size w w' := by
  obtain ⟨fb, fo, hfa, hfb, u0, u1, u2, u3, u4⟩ := funcs_cells hm.funcs hkm
  have hr1 := (f_ok hmay hkm).regs
  have hn1 := (f_ok2 hmay hkm).2.1
  have hps := (hm.each kf hkm).params
  obtain ⟨F, hF⟩ : ∃ F, nthF m.funcs kf = F := ⟨_, rfl⟩
  have hgood := fun s (hs : Final m (nthF m.funcs kf) s) => hs.good wm hmay hkm
  rw [hF] at u0 u1 u2 u3 u4 hr1 hn1 hgood hps
  obtain ⟨R, hRR⟩ : ∃ R : Nat, F.regs = (R : Int) := ⟨F.regs.toNat, by omega⟩
  rw [hRR] at u2 hr1
  have HM := Lib.hid hm
  have HY := Lib.hid hmay
  have HF := Lib.hid hF
  have HR := Lib.hid hRR
  have HG := Lib.hid hgood
  have HFA := Lib.hid hfa
  have HPS := Lib.hid hps
  have HIA := Lib.hid hA
  have HIB := Lib.hid hB
  have HAW := Lib.hid has
  have HBW := Lib.hid hbs
  have hkf : ((kf : Nat) : Int) < (m.funcs.length : Int) := by omega
  have hk0 : decide (((kf : Nat) : Int) < 0) = false := by simp
  have hk1 : decide (m.funcs.length ≤ kf) = false := by simp; omega
  have hk2 : decide ((m.funcs.length : Int) ≤ (kf : Int)) = false := by simp; omega
  clear hm hmay hF hRR hgood hfa hps hA hB has hbs
  have B0 : Below w.heap.size w (w.alloc (.cells #[.slice m.ta m.ths.length m.tc, .slice m.fa m.funcs.length m.fc] 25)) := below_alloc (Below.refl _ _) _
  have P0 := Whl.new w 25 #[.slice m.ta m.ths.length m.tc, .slice m.fa m.funcs.length m.fc]
  go_enter Tryd.func8, Tryd.ntmps8
  go_wp2_with fail
  go_at_call 13
  refine (fixedL _ (ht.below B0 ht.size)).mono ?_
  rintro e w1 ⟨rfl, hb1⟩
  have B1 := below_step B0 hb1
  have P1 := P0.below' hb1
  have a0 := P1.cell 0
  have a1 := P1.cell 1
  simp only [List.getElem?_toArray, List.getElem?_cons_zero, List.getElem?_cons_succ] at a0 a1
  clear hb1
  go_wp2_with fail
  go_at_call 15
  refine (runP m kf wm nm _ ((HM.out.below B1 (Nat.le_refl _)).more B1.size) (ht.below B1 ht.size)).mono ?_
  rintro e w2 ⟨hb2, h2⟩
  have B2 := below_step B1 hb2
  have P2 := P1.below' hb2
  rw [HY.out] at h2
  obtain ⟨L, sb, s, hfin, rfl, hS⟩ : ∃ L sb s, Final m F s ∧ e = .returned (.tuple #[.agg #[.slice (some ⟨L.inb, 0, none⟩) F.code.length F.code.length, .slice (some ⟨L.chb, 0, none⟩) F.code.length F.code.length], .int .i64 0]) ∧ StP w2 w1.heap.size F.code.length R sb L s := by
    rcases h2 with ⟨h0, _⟩ | ⟨_, h0, _⟩ | ⟨_, k2, e0, hk, h3⟩
    · exact absurd rfl h0
    · exfalso; omega
    · obtain rfl : k2 = kf := by omega
      rw [HF.out, HR.out, Int.toNat_natCast] at h3
      exact h3
  have hS2 : StP w2 w.heap.size F.code.length R sb L s := ⟨hS.st, hS.ins, hS.chs, hS.mks, hS.jns, hS.rows, hS.cnts, hS.apart, hS.ca, hS.ga, fun k hk => Nat.le_trans B1.size (hS.old k hk)⟩
  have M2 : LawM w m F.code.length R sb w2.heap.size L s (w2.alloc (.cells #[.slice (some ⟨L.inb, 0, none⟩) F.code.length F.code.length, .slice (some ⟨L.chb, 0, none⟩) F.code.length F.code.length] 39)) :=
    ⟨below_alloc B2 _, P2.alloc _, Whl.new _ _ _, hS2.alloc _⟩
  have b0 := M2.mb.cell 0
  have b1 := M2.mb.cell 1
  simp only [List.getElem?_toArray, List.getElem?_cons_zero, List.getElem?_cons_succ] at b0 b1
  obtain ⟨hg, hcl, hmk⟩ := HG.out s hfin
  have HGS := Lib.hid hg
  have HCL := Lib.hid hcl
  have HMK := Lib.hid hmk
  clear h2 hb2 a0 a1 hS hS2 hfin hg hcl hmk B2 P2
  go_wp2_with fail
  go_at_call 22
  refine (mayR m _ wm ((HM.out.below M2.below (Nat.le_refl _)).more M2.below.size)).mono ?_
  rintro e w3 ⟨rfl, hb3⟩
  have M3 := (M2.go hb3).go (below_alloc (Below.refl _ _) (.cells #[.int .i64 (mayD m).e, .int .i64 (mayD m).f, .int .i64 (mayD m).a] 53))
  have Q3 := Whl.new w3 53 #[.int .i64 (mayD m).e, .int .i64 (mayD m).f, .int .i64 (mayD m).a]
  rw [HY.out] at M3 Q3 ⊢
  clear hb3 b0 b1 M2 P1 P0 B1 B0
  generalize w2.heap.size = ab at *
  go_upto_region 5 with (fail)
  obtain ⟨w4, hw4⟩ : ∃ w4, (w3.alloc (.cells #[.int .i64 0, .int .i64 0, .int .i64 0] 53)) = w4 := ⟨_, rfl⟩
  rw [hw4] at M3 Q3 ⊢
  clear hw4
  generalize w3.heap.size = qb at *
  have d0 := M3.mb.cell 0
  have d1 := M3.mb.cell 1
  have d2 := M3.ab.cell 0
  have d3 := Q3.cell 0
  have l0 := M3.mb.lt
  have l1 := M3.ab.lt
  have l2 := Q3.lt
  simp only [List.getElem?_toArray, List.getElem?_cons_zero, List.getElem?_cons_succ] at d0 d1 d2 d3
  rw [HFA.out] at d1
  rw [← M3.below.cell (p := ⟨fb, fo + kf * 5, none⟩) hfb] at u0
  rw [← M3.below.cell (p := ⟨fb, fo + kf * 5 + 1, none⟩) hfb] at u1
  rw [← M3.below.cell (p := ⟨fb, fo + kf * 5 + 2, none⟩) hfb] at u2
  rw [← M3.below.cell (p := ⟨fb, fo + kf * 5 + 3, none⟩) hfb] at u3
  rw [← M3.below.cell (p := ⟨fb, fo + kf * 5 + 4, none⟩) hfb] at u4
  have hnn : ((F.code.length : Int) != (F.code.length : Int)) = false := by simp
  have hne : ((F.code.length : Int) == (F.code.length : Int)) = true := by simp
  have hmk6 := mkI6 (n := R) (by omega)
  go_upto_region 11 with (fail)
  have J0 := rowJ_made (w4.alloc (.cells #[.string F.name, .slice F.pa F.params.length F.pc, .int .i64 (R : Int), .int .i64 F.words, .slice F.ca F.code.length F.cc] 48)) R
  have T0 : TrueM w m F R sb ab w4.heap.size L s ((w4.alloc (.cells #[.string F.name, .slice F.pa F.params.length F.pc, .int .i64 (R : Int), .int .i64 F.words, .slice F.ca F.code.length F.cc] 48)).alloc (.cells (madeCells #[.int .i64 0] R) 2)) :=
    ⟨(M3.go (below_alloc (Below.refl _ _) _)).go (below_alloc (Below.refl _ _) _), (Whl.new _ _ _).alloc _⟩
  rw [World.size_alloc] at J0
  have hgb : w.heap.size ≤ w4.heap.size + 1 := by have := M3.below.size; omega
  obtain ⟨V0, hV0⟩ : ∃ V0, ((w4.alloc (.cells #[.string F.name, .slice F.pa F.params.length F.pc, .int .i64 (R : Int), .int .i64 F.words, .slice F.ca F.code.length F.cc] 48)).alloc (.cells (madeCells #[.int .i64 0] R) 2)) = V0 := ⟨_, rfl⟩
  rw [hV0] at J0 T0 ⊢
  clear hV0 hmk6 hnn hne M3 Q3 d0 d1 d2 d3 l0 l1 l2 u0 u1 u2 u3 u4
  generalize w4.heap.size + 1 = gb at *
  generalize w4.heap.size = fx at *
  have wfF : F.Wf := HF.out ▸ wm.funcs _ (nthF_mem hkm)
  have hplo := (f_ok2 HY.out hkm).2.2
  rw [HF.out] at hplo
  have HPL := Lib.hid hplo
  clear hplo
  go_wp2
  go_loopw [14] (fun i V => ∃ (k : Nat) (rl : List Int), k ≤ F.params.length ∧ i = .int .i64 k ∧ Reg1 w m F R sb ab fx gb L s k rl V) (fun i _ => F.params.length - (intOf i).toNat)
  case atStart => exact ⟨0, List.replicate R 0, Nat.zero_le _, rfl, ⟨by simp, fun j => by rw [getD_repl]; split <;> exact ⟨by decide, by decide⟩, fun j hj => absurd hj (by omega), fun j _ => by rw [getD_repl]; split <;> rfl, T0, J0⟩⟩
  case round =>
    obtain ⟨k, rl, hk, rfl, hg⟩ := hrel
    clear T0 J0
    have f1 := hg.mem.fb.cell 1
    have f2 := hg.mem.fb.cell 2
    have lf := hg.mem.fb.lt
    have lg := hg.row.lt
    simp only [List.getElem?_toArray, List.getElem?_cons_zero, List.getElem?_cons_succ] at f1 f2
    by_cases hlt : k < F.params.length
    · have hki : (k : Int) < (F.params.length : Int) := by omega
      have hkR : k < R := by omega
      have hkRi : (k : Int) < (R : Int) := by omega
      obtain ⟨b1, o1, hA1, hb1, hc1⟩ := HPS.out (by omega)
      rw [hA1] at f1
      have HA1 := Lib.hid hA1
      clear hA1
      have HC1 := Lib.hid hc1
      clear hc1
      obtain ⟨c0, z0'⟩ := hg.row.cell (k := k) (by rw [hg.len]; exact hkR)
      by_cases hka : k < aL.length
      · have hkai : (k : Int) < (aL.length : Int) := by omega
        obtain ⟨b2, o2, hA2, hb2, hc2⟩ := HIA.out (by omega)
        have q2 := hc2 k hka
        rw [← hg.mem.law.below.cell (p := ⟨b2, o2 + k, none⟩) hb2] at q2
        subst hA2
        have hx64 : In64 (nthI aL k) := getD_64 HAW.out k
        generalize nthI aL k = x at q2 hx64
        have G1 := hg.setv hkR hgb hx64
        clear hc2
        go_upto_region 16 with (fail)
        clear hg q2
        generalize (wr.setCell ⟨gb, k, none⟩ (.int .i64 x)) = V1 at G1 ⊢
        generalize rl.set k x = rl1 at G1 ⊢
        have T1 := G1.mem
        have j1 := T1.fb.cell 1
        have lf1 := T1.fb.lt
        have lg1 := G1.row.lt
        simp only [List.getElem?_toArray, List.getElem?_cons_zero, List.getElem?_cons_succ] at j1
        rw [HA1.out] at j1
        obtain ⟨c1, z1'⟩ := G1.row.cell (k := k) (by rw [G1.len]; exact hkR)
        have p0 : V1.cell? ⟨b1, o1 + k * 2, none⟩ = some (.int .i64 (nthS F.params k).lo) := by
          rw [T1.law.below.cell (p := ⟨b1, o1 + k * 2, none⟩) hb1]; exact HC1.out k hlt 0 (by omega)
        have p1 : V1.cell? ⟨b1, o1 + k * 2 + 1, none⟩ = some (.int .i64 (nthS F.params k).hi) := by
          rw [T1.law.below.cell (p := ⟨b1, o1 + k * 2 + 1, none⟩) hb1]; exact HC1.out k hlt 1 (by omega)
        have hlh := HPL.out k hlt
        have hlo64 : In64 (nthS F.params k).lo := (params_wf wfF hlt).1
        have HN1 := Lib.hid (fun (x : Int) (hx : rl1.getD k 0 = x) (u1 : (nthS F.params k).lo ≤ x) (u2 : x ≤ (nthS F.params k).hi) => G1.next (by rw [hx]; exact ⟨u1, u2⟩))
        have HN2 := Lib.hid (fun (n : Nat) => ((G1.drewN n).setv hkR hgb hlo64).next (by rw [getD_set, if_pos ⟨rfl, by rw [G1.len]; exact hkR⟩]; exact ⟨Int.le_refl _, hlh⟩))
        generalize hlo' : (nthS F.params k).lo = lo at *
        generalize hhi' : (nthS F.params k).hi = hi at *
        generalize hxv : rl1.getD k 0 = xv at *
        clear hlh hlo64 hlo' hhi' hxv f1 f2 lf lg c0 z0'
        cases u1 : decide (xv < lo)
        · cases u2 : decide (hi < xv)
          · have HD := Lib.hid (HN1.out xv rfl (by simpa using u1) (by simpa using u2))
            clear T1 G1
            go_wp2
            go_quiet (fail)
            go_wp2
            go_roundw
            case rel => exact ⟨k + 1, _, by omega, by go_num, HD.out.drewN _⟩
            case measure => simp only [intOf]; omega
          · clear T1 G1
            have d0 := fun n => (HN2.out n).row.lt
            go_wp2
            go_quiet (fail)
            go_wp2
            go_roundw
            case rel => exact ⟨k + 1, _, by omega, by go_num, HN2.out _⟩
            case measure => simp only [intOf]; omega
        · clear T1 G1
          go_wp2
          go_quiet (fail)
          go_wp2
          go_roundw
          case rel => exact ⟨k + 1, _, by omega, by go_num, HN2.out _⟩
          case measure => simp only [intOf]; omega
      · have hkai : decide (k < aL.length) = false := by simpa using hka
        have hkai2 : decide ((k : Int) < (aL.length : Int)) = false := by simp; omega
        have G1 := hg.keep
        go_upto_region 16 with (fail)
        clear hg
        have T1 := G1.mem
        have j1 := T1.fb.cell 1
        have lf1 := T1.fb.lt
        have lg1 := G1.row.lt
        simp only [List.getElem?_toArray, List.getElem?_cons_zero, List.getElem?_cons_succ] at j1
        rw [HA1.out] at j1
        obtain ⟨c1, z1'⟩ := G1.row.cell (k := k) (by rw [G1.len]; exact hkR)
        have p0 : wr.cell? ⟨b1, o1 + k * 2, none⟩ = some (.int .i64 (nthS F.params k).lo) := by
          rw [T1.law.below.cell (p := ⟨b1, o1 + k * 2, none⟩) hb1]; exact HC1.out k hlt 0 (by omega)
        have p1 : wr.cell? ⟨b1, o1 + k * 2 + 1, none⟩ = some (.int .i64 (nthS F.params k).hi) := by
          rw [T1.law.below.cell (p := ⟨b1, o1 + k * 2 + 1, none⟩) hb1]; exact HC1.out k hlt 1 (by omega)
        have hlh := HPL.out k hlt
        have hlo64 : In64 (nthS F.params k).lo := (params_wf wfF hlt).1
        have HN1 := Lib.hid (fun (x : Int) (hx : rl.getD k 0 = x) (u1 : (nthS F.params k).lo ≤ x) (u2 : x ≤ (nthS F.params k).hi) => G1.next (by rw [hx]; exact ⟨u1, u2⟩))
        have HN2 := Lib.hid (fun (n : Nat) => ((G1.drewN n).setv hkR hgb hlo64).next (by rw [getD_set, if_pos ⟨rfl, by rw [G1.len]; exact hkR⟩]; exact ⟨Int.le_refl _, hlh⟩))
        generalize hlo' : (nthS F.params k).lo = lo at *
        generalize hhi' : (nthS F.params k).hi = hi at *
        generalize hxv : rl.getD k 0 = xv at *
        clear hlh hlo64 hlo' hhi' hxv f1 f2 lf lg c0 z0'
        cases u1 : decide (xv < lo)
        · cases u2 : decide (hi < xv)
          · have HD := Lib.hid (HN1.out xv rfl (by simpa using u1) (by simpa using u2))
            clear T1 G1
            go_wp2
            go_quiet (fail)
            go_wp2
            go_roundw
            case rel => exact ⟨k + 1, _, by omega, by go_num, HD.out.drewN _⟩
            case measure => simp only [intOf]; omega
          · clear T1 G1
            have d0 := fun n => (HN2.out n).row.lt
            go_wp2
            go_quiet (fail)
            go_wp2
            go_roundw
            case rel => exact ⟨k + 1, _, by omega, by go_num, HN2.out _⟩
            case measure => simp only [intOf]; omega
        · clear T1 G1
          go_wp2
          go_quiet (fail)
          go_wp2
          go_roundw
          case rel => exact ⟨k + 1, _, by omega, by go_num, HN2.out _⟩
          case measure => simp only [intOf]; omega
    · obtain rfl : k = F.params.length := by omega
      obtain ⟨l0, hl0, hle⟩ := HCL.out.first
      have hb0 : HoldsL rl l0 := (begin_holds (f := F) (by rw [hg.len, HR.out]) (by rw [HR.out]; exact hr1.2.2) hg.done (fun j hj => hg.rest j hj)).wide hle
      have I0 : TrI w m F R sb ab fx L s 0 rl l0 gb R wr := ⟨by omega, hl0, hb0, hg.len, hg.n64, hg.mem, hg.row⟩
      have hfv : F.val = .agg #[.string F.name, .slice F.pa F.params.length F.pc, .int .i64 (R : Int), .int .i64 F.words, .slice F.ca F.code.length F.cc] := by rw [FuncD.val, HR.out]
      have HSR := Lib.hid (fun (kk : Nat) (hkk : kk < F.code.length) (r : List Int) (hr : r.length = R) (h64 : ∀ j, In64 (r.getD j 0)) (ans : Int) (g cp : Nat) (W : World) (hB : Below w.heap.size w W) (hI : RowJ W g cp r) => stepR m wm HY.out hkm (frm := kk) (by rw [HF.out]; exact hkk) r (by rw [HF.out, HR.out, hr]) h64 ans (some ⟨g, 0, none⟩) cp W ((HM.out.below hB (Nat.le_refl _)).more hB.size) hI.ints)
      rw [HF.out] at HSR
      simp only [hfv] at HSR
      have HSO := Lib.hid (fun (kk : Nat) (hkk : kk < F.code.length) (r : List Int) (hr : r.length = R) (h64 : ∀ j, In64 (r.getD j 0)) (l : List Sp) (hl : s.ins.getD kk none = some l) (hh : HoldsL r l) (ans : Int) (ha : In64 ans) (tw : Int) (now : List Int) => step_sound wm HY.out hkm (at_ := kk) (by rw [HF.out]; exact hkk) (r := r) (l := l) (ans := ans) (tw := tw) (now := now) (by rw [HF.out, HR.out, hr]) hh (fun j => by
        have h2 := (HGS.out.ok.some kk l hl)
        exact (GdR.of h2.1 h2.2.1 j).2) h64 ha)
      rw [HF.out] at HSO
      clear hg hl0 hle hb0 hfv hlt
      go_wp2
      clear f1 f2 lf lg
      go_loopw [13, 15, 16] (fun vr va vn V => ∃ (n k : Nat) (rl : List Int) (l : List Sp) (g cp : Nat), n ≤ 400 ∧ vr = .slice (some ⟨g, 0, none⟩) R cp ∧ va = .int .i64 k ∧ vn = .int .i64 n ∧ TrI w m F R sb ab fx L s k rl l g cp V) (fun _ _ vn _ => 400 - (intOf vn).toNat)
      case atStart => exact ⟨0, 0, rl, l0, gb, R, by omega, rfl, rfl, rfl, I0⟩
      case round =>
        clear I0
        obtain ⟨n, k, r, l, g, cp, hn, rfl, rfl, rfl, I⟩ := hrel
        by_cases hn4 : n < 400
        · have hn4i : (n : Int) < 400 := by omega
          have hki : (k : Int) < (F.code.length : Int) := by have := I.at_; omega
          have d0 := I.mem.law.mb.cell 0
          have d1 := I.mem.law.mb.cell 1
          have d2 := I.mem.law.ab.cell 0
          have d3 := I.mem.law.st.insC I.at_
          have l0 := I.mem.law.mb.lt
          have l1 := I.mem.law.ab.lt
          have l2 := I.mem.fb.lt
          have l3 := I.mem.law.st.ins.lt
          simp only [inV, I.row] at d3
          simp only [List.getElem?_toArray, List.getElem?_cons_zero, List.getElem?_cons_succ] at d0 d1 d2
          have hll : l.length = R := by rw [← I.has.1]; exact I.len
          have hrow := (I.mem.law.st.rows k l I.row).1
          have HW := holdsW r l (some ⟨g, 0, none⟩) (some ⟨L.ga k, 0, none⟩) cp (L.cp k) (by rw [I.len]; unfold maxLen; omega) (by rw [hll]; unfold maxLen; omega) wr I.own.ints (hrow.rowsAt hrow.lt)
          rw [I.len, hll, holdsB_yes I.has] at HW
          have HHW := Lib.hid HW
          clear HW hll hrow
          go_wp2_with fail
          go_at_call 23
          refine HHW.out.mono ?_
          rintro e V1 ⟨rfl, hb1⟩
          have T1 := I.mem.go hb1
          have J1 := I.own.below' hb1
          have e0 := T1.law.mb.cell 0
          have e1 := T1.law.mb.cell 1
          have g0 := T1.fb.cell 0
          have g1 := T1.fb.cell 1
          have g2 := T1.fb.cell 2
          have g3 := T1.fb.cell 3
          have g4 := T1.fb.cell 4
          have k0 := T1.law.mb.lt
          have k2 := T1.fb.lt
          simp only [List.getElem?_toArray, List.getElem?_cons_zero, List.getElem?_cons_succ] at e0 e1 g0 g1 g2 g3 g4
          have HT1 := Lib.hid T1
          have HJ1 := Lib.hid J1
          have HII := Lib.hid I
          clear d0 d1 d2 d3 l0 l1 l2 l3 hb1 T1 J1 I
          by_cases hbl : 0 < bL.length
          · have hbli : (0 : Int) < (bL.length : Int) := by omega
            obtain ⟨b3, o3, hB3, hb3, hc3⟩ := HIB.out hbl
            have hnm : n % bL.length < bL.length := Nat.mod_lt _ hbl
            have q3 := hc3 (n % bL.length) hnm
            rw [← HT1.out.law.below.cell (p := ⟨b3, o3 + n % bL.length, none⟩) hb3] at q3
            subst hB3
            clear hc3
            go_wp2_with fail
            have hans : In64 (nthI bL (n % bL.length)) := getD_64 HBW.out _
            have HST := Lib.hid (HSR.out k HII.out.at_ r HII.out.len HII.out.n64 (nthI bL (n % bL.length)) g cp V1 HT1.out.law.below HJ1.out)
            rw [HII.out.len] at HST
            have HSQ := Lib.hid (fun tw now => HSO.out k HII.out.at_ r HII.out.len HII.out.n64 l HII.out.row HII.out.has (nthI bL (n % bL.length)) hans tw now)
            clear hans
            go_at_call 24
            refine HST.out.mono ?_
            rintro e V2 hst
            obtain ⟨tw, sv, b, rfl, hb2, hres⟩ := hst.any
            clear hst
            cases b
            · go_wp2
              go_ret
              exact ⟨rfl, (HT1.out.go hb2).law.below⟩
            · obtain ⟨now, gn, cpn, hst, rfl, hrow2, hgb2⟩ := hres
              obtain ⟨hin, ⟨out, ho, hh2⟩, hnl, h64⟩ := HSQ.out tw now hst
              have htw := nextD_lt hin
              obtain ⟨k2, rfl⟩ : ∃ k2 : Nat, tw = k2 := ⟨tw.toNat, by omega⟩
              obtain ⟨l2, hl2, hle2⟩ := HCL.out.all k l HII.out.row (HMK.out k HII.out.at_) (k2 : Int) hin out ho
              rw [Int.toNat_natCast] at hl2
              have hnR : now.length = R := by rw [hnl]; exact HII.out.len
              have I2 := Lib.hid (⟨by omega, hl2, hh2.wide hle2, hnR, h64, HT1.out.go hb2, hrow2⟩ : TrI w m F R sb ab fx L s k2 now l2 gn cpn V2)
              rw [hnR]
              clear hin ho hh2 hnl h64 hl2 hle2 hrow2 hnR hst hb2 e0 e1 g0 g1 g2 g3 g4
              go_wp2
              go_roundw
              case rel => exact ⟨n + 1, k2, now, l2, _, _, by omega, rfl, rfl, by go_num, I2.out⟩
              case measure => simp only [intOf]; omega
          · have hbz : bL.length = 0 := by omega
            have hbl2 : decide ((0 : Int) < (bL.length : Int)) = false := decide_eq_false (by omega)
            have hbl3 : decide (0 < bL.length) = false := decide_eq_false (by omega)
            clear hbz
            go_wp2_with fail
            have hans : In64 (0) := ⟨by decide, by decide⟩
            have HST := Lib.hid (HSR.out k HII.out.at_ r HII.out.len HII.out.n64 (0) g cp V1 HT1.out.law.below HJ1.out)
            rw [HII.out.len] at HST
            have HSQ := Lib.hid (fun tw now => HSO.out k HII.out.at_ r HII.out.len HII.out.n64 l HII.out.row HII.out.has (0) hans tw now)
            clear hans
            go_at_call 24
            refine HST.out.mono ?_
            rintro e V2 hst
            obtain ⟨tw, sv, b, rfl, hb2, hres⟩ := hst.any
            clear hst
            cases b
            · go_wp2
              go_ret
              exact ⟨rfl, (HT1.out.go hb2).law.below⟩
            · obtain ⟨now, gn, cpn, hst, rfl, hrow2, hgb2⟩ := hres
              obtain ⟨hin, ⟨out, ho, hh2⟩, hnl, h64⟩ := HSQ.out tw now hst
              have htw := nextD_lt hin
              obtain ⟨k2, rfl⟩ : ∃ k2 : Nat, tw = k2 := ⟨tw.toNat, by omega⟩
              obtain ⟨l2, hl2, hle2⟩ := HCL.out.all k l HII.out.row (HMK.out k HII.out.at_) (k2 : Int) hin out ho
              rw [Int.toNat_natCast] at hl2
              have hnR : now.length = R := by rw [hnl]; exact HII.out.len
              have I2 := Lib.hid (⟨by omega, hl2, hh2.wide hle2, hnR, h64, HT1.out.go hb2, hrow2⟩ : TrI w m F R sb ab fx L s k2 now l2 gn cpn V2)
              rw [hnR]
              clear hin ho hh2 hnl h64 hl2 hle2 hrow2 hnR hst hb2 e0 e1 g0 g1 g2 g3 g4
              go_wp2
              go_roundw
              case rel => exact ⟨n + 1, k2, now, l2, _, _, by omega, rfl, rfl, by go_num, I2.out⟩
              case measure => simp only [intOf]; omega
        · go_wp2
          go_ret
          exact ⟨rfl, I.mem.law.below⟩
theorem trueL (m : ModD) (fn : Int) (aL bL : List Int) (A B : Option Addr) (ca cb : Nat) (w : World) (ht : TabOk w) (wm : m.Wf) (nm : m.Nils) (hm : ModOk w w.heap.size m)
    (has : ∀ s, s ∈ aL → In64 s) (hasl : aL.length * 8 ≤ 140737488351232) (hA : IntsAt w w.heap.size A aL) (hbs : ∀ s, s ∈ bL → In64 s) (hbsl : bL.length * 8 ≤ 140737488351232) (hB : IntsAt w w.heap.size B bL) :
    Calls Tryd.prog 8 #[m.val, .int .i64 fn, .slice A aL.length ca, .slice B bL.length cb] w fun e w' => e = .returned (.bool true) ∧ Below w.heap.size w w' := by
  by_cases h : (mayD m).e ≠ 0 ∨ fn < 0 ∨ (m.funcs.length : Int) ≤ fn
  · exact trueL0 m fn _ _ w ht wm nm hm h
  · obtain ⟨kf, rfl, hkf⟩ := nat_of (show 0 ≤ fn ∧ fn < (m.funcs.length : Int) by omega)
    exact trueL1 m kf aL bL A B ca cb w ht wm nm hm (may_e (by omega)) (by omega) has hasl hA hbs hbsl hB
end Go.Proofs.YtddobhneplfddaaDoor
