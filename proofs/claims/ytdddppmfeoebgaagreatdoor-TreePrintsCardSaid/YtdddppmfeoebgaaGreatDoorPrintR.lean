/-
  Layer 2 (tree): the walks of the reference's top and Print.
-/
import Derived.Test.YtdddppmfeoebgaaGreatDoorStmtRB
import Derived.Test.YtdddppmfeoebgaaGreatDoorPrint
import Derived.Test.YtdddppmfeoebgaaGreatDoorCheckR
namespace Go.Proofs.YtdddppmfeoebgaaGreatDoor
open Go.RowKit Go.Sort
set_option linter.unusedSimpArgs false
set_option linter.unusedVariables false
def topT (f : FnD) : List UInt8 := [102, 110, 32] ++ (bytesOf' f.name ++ (40 :: (joinT (f.params.map paT) ++ [41, 32, 123])))
theorem pa_snoc {l : List PaD} {k : Nat} (h : k < l.length) : (l.take (k + 1)).map paT = (l.take k).map paT ++ [paT (nthP l k)] := by rw [take_snoc (⟨.empty, 0, 0⟩ : PaD) h, List.map_append]; rfl
theorem strV_app (a b : List UInt8) : (.string ((⟨a.toArray⟩ : ByteArray) ++ ⟨b.toArray⟩) : Value) = strV (a ++ b) := by rw [str_appR]
set_option maxRecDepth 100000 in
set_option maxHeartbeats 4000000 in
theorem topR (f : FnD) (h : HdF) (B : Nat) (w : World) (g : GoodF f) (hf : FnOk w B f h) (hB : B ≤ w.heap.size) :
    Calls Tryz.prog 19 #[.agg (fnC f h)] w fun e w' => e = .returned (strV (topT f)) ∧ Below w.heap.size w w' := by
  have X0 := Whl.new w 44 (fnC f h)
  have K0 := below_alloc (Below.refl w.heap.size w) (.cells (fnC f h) 44)
  have HPR := Lib.hid hf.params
  have hnm := g.name
  have hfew := g.few
  have HG := Lib.hid g
  clear g hf
  obtain ⟨x0, x1, x2⟩ := X0.c3
  obtain ⟨pre, hpre⟩ : ∃ t, bytesOf' (((⟨#[102, 110, 32]⟩ : ByteArray)) ++ f.name ++ ((⟨#[40]⟩ : ByteArray))) = t := ⟨_, rfl⟩
  have hpl : pre.length ≤ 20 := by
    rw [← hpre, show (bytesOf' (((⟨#[102, 110, 32]⟩ : ByteArray)) ++ f.name ++ ((⟨#[40]⟩ : ByteArray)))).length = (((⟨#[102, 110, 32]⟩ : ByteArray)) ++ f.name ++ ((⟨#[40]⟩ : ByteArray))).size from rfl]
    simp only [ByteArray.size_append, show ((⟨#[102, 110, 32]⟩ : ByteArray)).size = 3 from rfl, show ((⟨#[40]⟩ : ByteArray)).size = 1 from rfl]
    omega
  have HPRE := Lib.hid hpre
  have y0 : ¬ 9223372036854775807 < 3 + f.name.size := by omega
  have y1 : ¬ 9223372036854775807 < 3 + f.name.size + 1 := by omega
  go_enter Tryz.func19, Tryz.ntmps19
  go_wp2
  clear x0 x1 x2 y0 y1 hpre
  go_loopw [3, 4] (fun v i W => ∃ (k : Nat) (S : List UInt8), k ≤ f.params.length ∧ i = .int .i64 k ∧ v = strV S ∧ Hid (pre ++ joinT ((f.params.take k).map paT) = S) ∧ S.length ≤ 100 + 100 * k ∧ Below w.heap.size w W ∧ Whl W w.heap.size 44 (fnC f h)) (fun _ i _ => f.params.length - (intOf i).toNat)
  case atStart => exact ⟨0, pre, Nat.zero_le _, rfl, by rw [← HPRE.out]; exact str_bytes _, Lib.hid (by simp [joinT]), by omega, K0, X0⟩
  case round =>
    clear X0 K0
    obtain ⟨k, S, hk, rfl, rfl, HQ, hSl, hgr, XV⟩ := hrel
    have l1 := hgr.size
    have lx := XV.lt
    obtain ⟨x0, x1, x2⟩ := XV.c3
    by_cases hlt : k < f.params.length
    · obtain ⟨b, off, ha, c0, c1, c2⟩ := (HPR.out.below hgr hB).pa hlt
      have lb : b < wr.heap.size := World.block_lt_of_cell? _ _ c0
      rw [ha] at x1
      have pn := HG.out.pname k hlt
      have pm := HG.out.pnum k hlt
      have hsn := pa_snoc hlt
      have hpl2 := paT_len pn pm.1 pm.2
      have ltl : (numD (nthP f.params k).lo).length ≤ 20 := numD_len pm.1
      have lth : (numD (nthP f.params k).hi).length ≤ 20 := numD_len pm.2
      have hpv := paS (nthP f.params k)
      generalize nthP f.params k = y at c0 c1 c2 pn pm hsn hpl2 ltl lth hpv
      have Jl := Lib.hid (numRe (w := wr) pm.1 (rfl : numD y.lo = numD y.lo))
      have Jh := Lib.hid (numRe (w := wr) pm.2 (rfl : numD y.hi = numD y.hi))
      generalize numD y.lo = tl at ltl Jl hpv
      generalize numD y.hi = th at lth Jh hpv
      have y0 : ¬ 9223372036854775807 < y.name.size + 4 := by omega
      have y1 : ¬ 9223372036854775807 < y.name.size + 4 + tl.length := by omega
      have y2 : ¬ 9223372036854775807 < y.name.size + 4 + tl.length + 2 := by omega
      have y3 : ¬ 9223372036854775807 < y.name.size + 4 + tl.length + 2 + th.length := by omega
      have y4 : ¬ 9223372036854775807 < S.length + (y.name.size + 4 + tl.length + 2 + th.length) := by omega
      have y5 : ¬ 9223372036854775807 < S.length + 2 := by omega
      have y6 : ¬ 9223372036854775807 < S.length + 2 + (y.name.size + 4 + tl.length + 2 + th.length) := by omega
      obtain ⟨u, hu⟩ : ∃ u, paT y = u := ⟨_, rfl⟩
      rw [hu] at hsn hpl2 hpv
      have HSN := Lib.hid hsn
      have HPV := Lib.hid hpv
      have e0 := cell_regrown c0
      have e1 := cell_regrown c1
      have e2 := cell_regrown c2
      have k1 := cell_regrown x1
      clear hsn hu hpv pn pm ha
      rcases Nat.eq_zero_or_pos k with hz | hz
      · have hd0 : decide (0 < k) = false := decide_eq_false (by omega)
        have hd1 : ¬ 0 < k := by omega
        have HZ := Lib.hid hz
        clear hz
        go_upto_region 7 with fail
        clear x0 x1 x2 c0 c1 c2
        refine wp_region_quiet_below (by kernel_rfl) (by kernel_rfl) ?_
        repeat (go_big_quiet_step (first | with_reducible exact Jl.out _ _ | with_reducible exact Jh.out _ _))
        refine wpQuiet_nil ?_
        intro _ hw'
        obtain ⟨⟨dq, osq⟩, hw''⟩ := hw'
        subst hw''
        clear e0 e1 e2 k1
        have KV2 := below_step hgr (below_regrown wr dq osq)
        have XV2 := XV.below' (below_regrown wr dq osq)
        generalize grow (redrawn wr dq) osq = V at KV2 XV2 ⊢
        go_wp2
        have HF : Hid (pre ++ joinT ((f.params.take (k + 1)).map paT) = S ++ u) := Lib.hid (by
          rw [HSN.out, ← HQ.out, show k = 0 from HZ.out]; simp [joinT])
        have HV : Hid ((.string ((⟨S.toArray⟩ : ByteArray) ++ (y.name ++ { data := #[32, 105, 110, 32] } ++ { data := tl.toArray } ++ { data := #[46, 46] } ++ { data := th.toArray })) : Value) = strV (S ++ u)) := Lib.hid (by
          have := HPV.out
          rw [Value.string.injEq] at this
          rw [this, strV_app])
        go_roundw
        case rel => exact ⟨k + 1, S ++ u, by omega, by go_num, HV.out, HF, by rw [List.length_append]; omega, KV2, XV2⟩
        case measure => first | (simp [intOf]; done) | (simp [intOf]; omega)
      · have hd0 : decide (0 < k) = true := decide_eq_true hz
        go_upto_region 7 with fail
        clear x0 x1 x2 c0 c1 c2
        refine wp_region_quiet_below (by kernel_rfl) (by kernel_rfl) ?_
        repeat (go_big_quiet_step (first | with_reducible exact Jl.out _ _ | with_reducible exact Jh.out _ _))
        refine wpQuiet_nil ?_
        intro _ hw'
        obtain ⟨⟨dq, osq⟩, hw''⟩ := hw'
        subst hw''
        clear e0 e1 e2 k1
        have KV2 := below_step hgr (below_regrown wr dq osq)
        have XV2 := XV.below' (below_regrown wr dq osq)
        generalize grow (redrawn wr dq) osq = V at KV2 XV2 ⊢
        go_wp2
        have HF : Hid (pre ++ joinT ((f.params.take (k + 1)).map paT) = (S ++ [44, 32]) ++ u) := Lib.hid (by
          rw [HSN.out, ← HQ.out, joinT_snoc _ _ (fun e => by have := congrArg List.length e; rw [List.length_map, List.length_take, List.length_nil] at this; omega)]; simp)
        have HV : Hid ((.string ((⟨S.toArray⟩ : ByteArray) ++ ⟨#[44, 32]⟩ ++ (y.name ++ { data := #[32, 105, 110, 32] } ++ { data := tl.toArray } ++ { data := #[46, 46] } ++ { data := th.toArray })) : Value) = strV ((S ++ [44, 32]) ++ u)) := Lib.hid (by
          have := HPV.out
          rw [Value.string.injEq] at this
          rw [this, show (⟨#[44, 32]⟩ : ByteArray) = ⟨([44, 32] : List UInt8).toArray⟩ from rfl, str_appR, str_appR])
        go_roundw
        case rel => exact ⟨k + 1, (S ++ [44, 32]) ++ u, by omega, by go_num, HV.out, HF, by simp only [List.length_append, List.length_cons, List.length_nil]; omega, KV2, XV2⟩
        case measure => first | (simp [intOf]; done) | (simp [intOf]; omega)
    · obtain rfl : k = f.params.length := by omega
      have HQ2 := HQ.out
      rw [List.take_length] at HQ2
      have HF : Hid (topT f = S ++ [41, 32, 123]) := Lib.hid (by
        rw [← HQ2, ← HPRE.out, topT]; simp [bytesOf', ByteArray.data_append])
      have y0 : ¬ 9223372036854775807 < S.length + 3 := by omega
      clear HQ2 HQ
      go_wp2
      go_ret
      refine ⟨?_, hgr⟩
      rw [HF.out]
      exact congrArg Ending.returned (strV_app S [41, 32, 123])
set_option maxRecDepth 100000 in
set_option maxHeartbeats 4000000 in
theorem printR_bad (p : PrD) (wa fa : Option Addr) (uc vc B : Nat) (W : World) (hB : B ≤ W.heap.size) (hp : PrOk W B p wa fa) (hc : ((checkD p).e == 0) = false) :
    Calls Tryz.prog 6 #[prV p wa fa uc vc] W fun e w' => e = .returned (.tuple #[strV (printD p).1, faultV (printD p).2]) ∧ Below W.heap.size W w' := by
  have hc' : ((checkD p).e != 0) = true := by rw [bne, hc]; rfl
  have HE := Lib.hid (show printD p = ([], checkD p) by rw [printD, if_pos (by simpa using hc)])
  have HP := Lib.hid hp
  clear hp hc
  go_enter Tryz.func6, Tryz.ntmps6
  go_wp2_with (go_at_call 16; go_must (refine (checkRef p wa fa uc vc B _ (by simp; omega) (HP.out.keep (below_alloc (below_alloc (Below.refl _ _) _) _) hB)).mono ?_; rintro e w1 ⟨rfl, hb1⟩; have M1 := (CMem.start W p wa fa uc vc).go hb1; obtain ⟨r0, r1, r2⟩ := M1.br.c3; obtain ⟨p0, p1⟩ := M1.bm.c2; have s0 := M1.br.frozen 0; have s1 := M1.br.frozen 1; have s2 := M1.br.frozen 2; have lr := M1.br.lt; have lp := M1.bm.lt))
  go_region
  all_goals go_wp2
  all_goals (try simp only [Exit.inBlock, Exit.then])
  all_goals refine ret_of ?_ rfl
  all_goals simp [results, Tryz.results6, go_sem, HE.out, r0, r1, r2, s0, s1, s2, lr, lp]
  all_goals go_light
  all_goals exact (by repeat (first | exact M1.below | exact Below.refl _ _ | with_reducible apply below_alloc | with_reducible refine Below.drew ?_ | with_reducible refine Below.setCell ?_ (by dsimp only; omega) _))
set_option maxRecDepth 100000 in
set_option maxHeartbeats 8000000 in
theorem printR_ok (p : PrD) (wa fa : Option Addr) (uc vc B : Nat) (W : World) (hB : B ≤ W.heap.size) (hp : PrOk W B p wa fa) (hc : ((checkD p).e == 0) = true) :
    Calls Tryz.prog 6 #[prV p wa fa uc vc] W fun e w' => e = .returned (.tuple #[strV (printD p).1, faultV (printD p).2]) ∧ Below W.heap.size W w' := by
  have hc' : ((checkD p).e != 0) = false := by rw [bne, hc]; rfl
  have HG := Lib.hid (goodP_of hp (by simpa using hc))
  have hchk : Hid ((checkD p).e = 0) := Lib.hid (by simpa using hc)
  have HP := Lib.hid hp
  have hwl := hp.wlen
  have hpl := prT_len HG.out
  obtain ⟨hd, rows, each, flen⟩ := hp.funcs.open_
  have HR := Lib.hid rows
  have HE2 := Lib.hid each
  have HWR := Lib.hid hp.widen
  clear hp hc rows each
  go_enter Tryz.func6, Tryz.ntmps6
  go_upto_region 4 with (go_at_call 16; go_must (refine (checkRef p wa fa uc vc B _ (by simp; omega) (HP.out.keep (below_alloc (below_alloc (Below.refl _ _) _) _) hB)).mono ?_; rintro e w1 ⟨rfl, hb1⟩; have M1 := (CMem.start W p wa fa uc vc).go hb1; obtain ⟨r0, r1, r2⟩ := M1.br.c3; obtain ⟨p0, p1⟩ := M1.bm.c2; have s0 := M1.br.frozen 0; have s1 := M1.br.frozen 1; have s2 := M1.br.frozen 2; have lr := M1.br.lt; have lp := M1.bm.lt))
  have M2 := M1.alloc (.cells #[.int .i64 (checkD p).e, .int .i64 ((checkD p).fn : Int), .int .i64 ((checkD p).at_ : Int)] 29)
  generalize w1.alloc (.cells #[.int .i64 (checkD p).e, .int .i64 ((checkD p).fn : Int), .int .i64 ((checkD p).at_ : Int)] 29) = V at M2 ⊢
  clear M1 r0 r1 r2 p0 p1 s0 s1 s2 lr lp hb1 hc'
  go_wp2
  go_loopw [5, 6] (fun v i w' => ∃ (k : Nat) (S : List UInt8), k ≤ p.widen.length ∧ i = .int .i64 k ∧ v = strV S ∧ Hid ((if k = 0 then [] else [119, 105, 100, 101, 110, 32] ++ joinT ((p.widen.take k).map numD)) = S) ∧ S.length ≤ 100 + 100 * k ∧ CMem W p wa fa uc vc w') (fun _ i _ => p.widen.length - (intOf i).toNat)
  case atStart => exact ⟨0, [], Nat.zero_le _, rfl, rfl, Lib.hid rfl, by simp, M2⟩
  case round =>
    clear M2
    obtain ⟨k, S, hk, rfl, rfl, HQ, hSl, MM⟩ := hrel
    obtain ⟨p0, p1⟩ := MM.bm.c2
    have lp := MM.bm.lt
    have l1 := MM.below.size
    by_cases hlt : k < p.widen.length
    · obtain ⟨b, off, ha, hbb, hcb⟩ := (HWR.out.below MM.below hB) (by omega)
      have c0 : wr.cell? ⟨b, off + k, none⟩ = some (.int .i64 (nthI p.widen k)) := by have := hcb k hlt 0 (by omega); rw [Nat.mul_one, Nat.add_zero] at this; exact this
      have lb : b < wr.heap.size := World.block_lt_of_cell? _ _ c0
      rw [ha] at p0
      have gn : In64 (nthI p.widen k) := HG.out.wnum k hlt
      have ltn := numD_len gn
      have hsn := wid_snoc hlt
      generalize nthI p.widen k = y at c0 gn ltn hsn
      have HN := Lib.hid fun w => numR y w gn
      generalize numD y = t at ltn hsn HN
      have HSN := Lib.hid hsn
      have y0 : ¬ 9223372036854775807 < S.length + 2 := by omega
      have y1 : ¬ 9223372036854775807 < S.length + 2 + t.length := by omega
      have y2 : ¬ 9223372036854775807 < 6 + t.length := by omega
      clear hcb hsn gn ha
      rcases Nat.eq_zero_or_pos k with hz | hz
      · have hd0 : ((k : Int) == 0) = true := by rw [beq_iff_eq]; omega
        have HZ := Lib.hid hz
        clear hz
        go_wp2_with (go_at_call 17; go_must (refine (HN.out _).mono ?_; rintro e w2 ⟨rfl, hb2⟩))
        have HF : Hid ((if k + 1 = 0 then [] else [119, 105, 100, 101, 110, 32] ++ joinT ((p.widen.take (k + 1)).map numD)) = [119, 105, 100, 101, 110, 32] ++ t) := Lib.hid (by
          rw [if_neg (by omega), HSN.out, show k = 0 from HZ.out]; simp [joinT])
        go_roundw
        case rel => exact ⟨k + 1, [119, 105, 100, 101, 110, 32] ++ t, by omega, by go_num, strV_app [119, 105, 100, 101, 110, 32] t, HF, by simp only [List.length_append, List.length_cons, List.length_nil]; omega, MM.go hb2⟩
        case measure => first | (simp [intOf]; done) | (simp [intOf]; omega)
      · have hd0 : ((k : Int) == 0) = false := by rw [beq_eq_false_iff_ne]; omega
        go_wp2_with (go_at_call 17; go_must (refine (HN.out _).mono ?_; rintro e w2 ⟨rfl, hb2⟩))
        have HF : Hid ((if k + 1 = 0 then [] else [119, 105, 100, 101, 110, 32] ++ joinT ((p.widen.take (k + 1)).map numD)) = (S ++ [44, 32]) ++ t) := Lib.hid (by
          have hq := HQ.out
          rw [if_neg (by omega)] at hq
          rw [if_neg (by omega), HSN.out, ← hq, joinT_snoc _ _ (fun e => by have := congrArg List.length e; rw [List.length_map, List.length_take, List.length_nil] at this; omega)]; simp)
        go_roundw
        case rel => exact ⟨k + 1, (S ++ [44, 32]) ++ t, by omega, by go_num, by rw [show (⟨#[44, 32]⟩ : ByteArray) = ⟨([44, 32] : List UInt8).toArray⟩ from rfl, str_appR, str_appR], HF, by simp only [List.length_append, List.length_cons, List.length_nil]; omega, MM.go hb2⟩
        case measure => first | (simp [intOf]; done) | (simp [intOf]; omega)
    · obtain rfl : k = p.widen.length := by omega
      have hq := HQ.out
      rw [List.take_length] at hq
      have HQ2 := Lib.hid hq
      have y0 : ¬ 9223372036854775807 < S.length + 2 := by omega
      clear hq HQ
      go_upto_if 36 with fail
      generalize hdz : decide (0 < p.widen.length) = dz
      have HDZ := Lib.hid hdz
      clear hdz
      have HMM := Lib.hid MM
      clear MM p0 p1
      go_cut [5] (fun v w' => v = strV (widT p.widen) ∧ CMem W p wa fa uc vc w')
      case first =>
        cases dz
        · have he : p.widen.length = 0 := by simpa using HDZ.out
          have hs : S = widT p.widen := by rw [← HQ2.out, if_pos he, widT, if_pos he]
          have HS := Lib.hid hs
          clear he hs
          go_wp2
          go_meet
          exact ⟨by rw [HS.out], HMM.out⟩
        · have he : ¬ p.widen.length = 0 := by have := HDZ.out; simp at this; omega
          have hs : S ++ [59, 10] = widT p.widen := by rw [← HQ2.out, if_neg he, widT, if_neg he]; simp [lineT]
          have HS := Lib.hid hs
          clear he hs
          go_wp2
          go_meet
          exact ⟨by rw [← HS.out]; exact strV_app S [59, 10], HMM.out⟩
      case rest =>
        obtain ⟨rfl, M3⟩ := hcut
        clear HMM HQ2 y0 hSl
        have hwt := widT_len HG.out
        go_wp2
        go_loopw [5, 7] (fun v i w' => ∃ (k : Nat) (S : List UInt8), k ≤ p.funcs.length ∧ i = .int .i64 k ∧ v = strV S ∧ Hid (widT p.widen ++ fnTs (p.funcs.take k) = S) ∧ CMem W p wa fa uc vc w') (fun _ i _ => p.funcs.length - (intOf i).toNat)
        case atStart => exact ⟨0, widT p.widen, Nat.zero_le _, rfl, rfl, Lib.hid (by simp [fnTs]), M3⟩
        case round =>
          clear M3
          obtain ⟨k, S, hk, rfl, rfl, HQ, MM⟩ := hrel
          obtain ⟨p0, p1⟩ := MM.bm.c2
          have lp := MM.bm.lt
          have l1 := MM.below.size
          have hSl : S.length ≤ 5000000 := by
            have e1 := congrArg List.length (fnTs_cutG p.funcs k)
            have e2 := congrArg List.length HQ.out
            rw [List.length_append] at e1 e2
            rw [prT, List.length_append] at hpl
            omega
          by_cases hlt : k < p.funcs.length
          · obtain ⟨b, off, ha, c0, c1, c2⟩ := HR.out wr (MM.below.mono hB) k hlt
            have lb : b < wr.heap.size := World.block_lt_of_cell? _ _ c0
            rw [ha] at p1
            have hgf := HG.out.each k hlt
            have hfo := (HE2.out k hlt).keep MM.below hB
            have hsn := fnTs_snoc hlt
            have hcc : cntSs (nthF p.funcs k).body ≤ 4096 := by have := HG.out.cnt; have := cntF_le hlt; omega
            have hfl := fnT_len hgf
            have hfe : fnT (nthF p.funcs k) = lineT 0 (topT (nthF p.funcs k)) ++ (stTs (nthF p.funcs k).body 1 ++ lineT 0 [125]) := rfl
            generalize nthF p.funcs k = f at c0 c1 c2 hgf hfo hsn hcc hfl hfe
            generalize hd k = h at c1 c2 hfo
            obtain ⟨tt, htt⟩ : ∃ t, topT f = t := ⟨_, rfl⟩
            obtain ⟨l1', hl1⟩ : ∃ t, lineT 0 (bytesOf' (⟨tt.toArray⟩ : ByteArray)) = t := ⟨_, rfl⟩
            obtain ⟨tb, htb⟩ : ∃ t, stTs f.body 1 = t := ⟨_, rfl⟩
            obtain ⟨l2, hl2⟩ : ∃ t, lineT 0 (bytesOf' (⟨#[125]⟩ : ByteArray)) = t := ⟨_, rfl⟩
            have hfe2 : fnT f = l1' ++ (tb ++ l2) := by rw [hfe, htt, htb, ← hl1, ← hl2]; rfl
            have hll : l1'.length + tb.length + l2.length ≤ 5000000 := by
              have := congrArg List.length hfe2
              rw [List.length_append, List.length_append] at this
              omega
            have htl : tt.length ≤ 5000000 := by
              have : l1'.length = 2 * 0 + tt.length + 1 := by rw [← hl1, lineT_len]; rfl
              omega
            have Jt : Hid (∀ dd os, Calls Tryz.prog 19 #[.agg (fnC f h)] (grow (redrawn wr dd) os) fun e w'' => e = .returned (strV tt) ∧ ∃ q : Regrown, w'' = grow (redrawn wr q.d) q.os) := Lib.hid fun dd os => by
              subst htt
              exact Calls.regrown_of (topR f h B _ hgf (hfo.keep (below_regrown wr dd os) (by omega)) (Nat.le_trans (by omega) (below_regrown wr dd os).size))
            have J1 := Lib.hid (lineRe (⟨tt.toArray⟩ : ByteArray) 0 0 wr rfl (by omega) (by rw [show (⟨tt.toArray⟩ : ByteArray).size = tt.length from rfl]; omega) l1' hl1)
            have J2 := Lib.hid (lineRe (⟨#[125]⟩ : ByteArray) 0 0 wr rfl (by omega) (by rw [show ((⟨#[125]⟩ : ByteArray)).size = 1 from rfl]; omega) l2 hl2)
            have Jb := Lib.hid (BodyRAt.re (bodyAllR _).1 (w := wr) (l := f.body) (A := h.body.a) (c := h.body.c) (lv := 1) (n := 1) (z := 1) (Nat.lt_succ_self _) hgf.body hfo.body (by omega) rfl (by omega) (by omega) hcc htb)
            have y0 : ¬ 9223372036854775807 < l1'.length + tb.length := by omega
            have y1 : ¬ 9223372036854775807 < l1'.length + tb.length + l2.length := by omega
            have y2 : ¬ 9223372036854775807 < S.length + (l1'.length + tb.length + l2.length) := by omega
            have HF : Hid (widT p.widen ++ fnTs (p.funcs.take (k + 1)) = S ++ (l1' ++ tb ++ l2)) := Lib.hid (by rw [hsn, ← List.append_assoc, HQ.out, hfe2, List.append_assoc l1' tb l2])
            have k1 := cell_regrown p1
            have e0 := cell_regrown c0
            have e1 := cell_regrown c1
            have e2 := cell_regrown c2
            clear hsn hgf hfo hcc hfl hfe hfe2 htt hl1 htb hl2 hll htl ha
            go_upto_region 17 with fail
            clear p0 p1 c0 c1 c2
            refine wp_region_quiet_below (by kernel_rfl) (by kernel_rfl) ?_
            repeat (go_big_quiet_step (first | with_reducible exact Jt.out _ _ | with_reducible exact J1.out _ _ | with_reducible exact Jb.out _ _ | with_reducible exact J2.out _ _))
            refine wpQuiet_nil ?_
            intro _ hw'
            obtain ⟨⟨dq, osq⟩, hw''⟩ := hw'
            subst hw''
            clear e0 e1 e2 k1
            have M4 := MM.go (below_regrown wr dq osq)
            generalize grow (redrawn wr dq) osq = V2 at M4 ⊢
            go_wp2
            go_roundw
            case rel =>
              have hfin := (⟨k + 1, S ++ (l1' ++ tb ++ l2), by omega, by go_num, by rw [str_appR, str_appR, str_appR], HF, M4⟩ : ∃ (k' : Nat) (S' : List UInt8), k' ≤ p.funcs.length ∧ Value.int .i64 ((k : Int) + 1) = .int .i64 k' ∧ (.string ((⟨S.toArray⟩ : ByteArray) ++ ((⟨l1'.toArray⟩ : ByteArray) ++ ⟨tb.toArray⟩ ++ ⟨l2.toArray⟩)) : Value) = strV S' ∧ Hid (widT p.widen ++ fnTs (p.funcs.take k') = S') ∧ CMem W p wa fa uc vc V2)
              first | exact hfin | ((repeat apply Exists.intro); exact ⟨hfin, rfl⟩)
            case measure => first | (simp [intOf]; done) | (simp [intOf]; omega)
          · obtain rfl : k = p.funcs.length := by omega
            have hq := HQ.out
            rw [List.take_length] at hq
            have hq2 : prT p = S := hq
            obtain ⟨r0, r1, r2⟩ := MM.br.c3
            have s0 := MM.br.frozen 0
            have s1 := MM.br.frozen 1
            have s2 := MM.br.frozen 2
            have lr := MM.br.lt
            have HMM := Lib.hid MM
            by_cases hbig : 65536 < S.length
            · have h6 : decide ((65536 : Int) < (S.length : Int)) = true := by simp; omega
              have HE := Lib.hid (show printD p = ([], ⟨4, 0, 0⟩) by rw [printD, if_neg (by have := hchk.out; omega), if_pos (by rw [hq2]; exact hbig)])
              clear hq hq2 HQ MM
              go_wp2
              all_goals (try simp only [Exit.inBlock, Exit.then])
              refine ret_of ?_ rfl
              simp [results, Tryz.results6, go_sem, HE.out, r0, r1, r2, s0, s1, s2, lr]
              go_light
              exact (by repeat (first | exact HMM.out.below | exact Below.refl _ _ | with_reducible apply below_alloc | with_reducible refine Below.drew ?_ | with_reducible refine Below.setCell ?_ (by dsimp only; omega) _))
            · have h6 : decide ((65536 : Int) < (S.length : Int)) = false := by simp; omega
              have HE := Lib.hid (show printD p = (S, ⟨0, 0, 0⟩) by rw [printD, if_neg (by have := hchk.out; omega), if_neg (by rw [hq2]; exact hbig), hq2])
              clear hq hq2 HQ MM
              go_wp2
              all_goals (try simp only [Exit.inBlock, Exit.then])
              refine ret_of ?_ rfl
              simp [results, Tryz.results6, go_sem, HE.out, r0, r1, r2, s0, s1, s2, lr]
              go_light
              exact (by repeat (first | exact HMM.out.below | exact Below.refl _ _ | with_reducible apply below_alloc | with_reducible refine Below.drew ?_ | with_reducible refine Below.setCell ?_ (by dsimp only; omega) _))
theorem printRef (p : PrD) (wa fa : Option Addr) (uc vc B : Nat) (W : World) (hB : B ≤ W.heap.size) (hp : PrOk W B p wa fa) :
    Calls Tryz.prog 6 #[prV p wa fa uc vc] W fun e w' => e = .returned (.tuple #[strV (printD p).1, faultV (printD p).2]) ∧ Below W.heap.size W w' := by
  cases hc : ((checkD p).e == 0)
  · exact printR_bad p wa fa uc vc B W hB hp hc
  · exact printR_ok p wa fa uc vc B W hB hp hc
end Go.Proofs.YtdddppmfeoebgaaGreatDoor
