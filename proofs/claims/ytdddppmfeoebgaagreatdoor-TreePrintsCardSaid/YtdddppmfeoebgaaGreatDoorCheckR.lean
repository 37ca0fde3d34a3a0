/-
  Layer 2 (tree): the walks of the reference's all, face, head, Check.
-/
import Derived.Test.YtdddppmfeoebgaaGreatDoorChkSR
import Derived.Test.YtdddppmfeoebgaaGreatDoorCheck
import Derived.Deep.QuietTactic
import Derived.BigQuiet
namespace Go.Proofs.YtdddppmfeoebgaaGreatDoor
open Go.RowKit
set_option linter.unusedSimpArgs false
set_option linter.unusedVariables false
set_option maxRecDepth 100000 in
set_option maxHeartbeats 8000000 in
theorem allRN (N : Nat) : AllAt N := by
  induction N with
  | zero => intro l A c lv z n0 e0 B g w hN; omega
  | succ N ih =>
    intro l A c lv z n0 e0 B g w hN hk hB hlv hz hl0 hn0 hcnt hg
    subst hz
    obtain ⟨hd, hcs, rows, kids, len⟩ := hk.open_
    have HR := Lib.hid (rows g)
    have HK := Lib.hid kids
    have hBw : B ≤ w.heap.size := by have := hg.lt; omega
    have HL0 := Lib.hid hl0
    clear hk rows kids hl0
    go_enter Tryz.func37, Tryz.ntmps37
    go_wp2
    go_loopw [6] (fun i W => ∃ (k : Nat) (n1 e1 : Int), k ≤ l.length ∧ i = .int .i64 k ∧ Hid (n1 = n0 + (stN e0 (chkSs (l.take k) lv).n : Nat) ∧ e1 = orI e0 (chkSs (l.take k) lv).e) ∧ Whl W g 85 #[.int .i64 n1, .int .i64 e1] ∧ Turn B g w W) (fun i _ => l.length - (intOf i).toNat)
    case atStart => exact ⟨0, n0, e0, Nat.zero_le _, rfl, Lib.hid ⟨by simp [chkSs, stN], by simp only [List.take_zero, chkSs]; exact (orI_r e0).symm⟩, hg, Turn.refl _ _ _⟩
    case round =>
      obtain ⟨k, n1, e1, hk, rfl, HQ, hgk, htk⟩ := hrel
      obtain ⟨g0, g1⟩ := hgk.c2
      have lgk := hgk.lt
      have l1 := htk.size
      have m1 := stN_le e0 (chkSs (l.take k) lv).n
      have m2 := chkSs_le (l.take k) lv
      have hgq := Lib.hid hgk
      clear hgk
      by_cases hgo : k < l.length ∧ e1 = 0
      · obtain ⟨hlt, rfl⟩ := hgo
        obtain ⟨hz1, hz2⟩ := orI_zero2 HQ.out.2.symm
        have hl33 := HL0.out hz1
        have HZ1 := Lib.hid hz1
        have HZ2 := Lib.hid hz2
        clear hz1 hz2
        have hsn := Lib.hid (chkSs_snoc (lv := lv) hlt)
        have hso := Lib.hid (st_on e0 (chkSs (l.take k) lv) (chkS (nthS l k) lv))
        have m3 := cntSs_cut l (k + 1)
        have m4 := cntSs_snoc hlt
        have hsz : SizeOf.sizeOf (nthS l k) < SizeOf.sizeOf l := getD_size _ hlt
        obtain ⟨b, off, rfl, c0, c1, c2, c3, c4, c5, c6, c7, c8, c9, c10, c11, c12, c13⟩ := HR.out wr htk k hlt
        have lb : b < wr.heap.size := World.block_lt_of_cell? _ _ c0
        have hn1 : n1 = n0 + (stN e0 (chkSs (l.take k) lv).n : Nat) := HQ.out.1
        have HC := Lib.hid (stmtR N (fun l A c lv z n0 e0 B g w h1 h2 h3 h4 h5 h6 h7 h8 h9 => ih l A c lv z n0 e0 B g w h1 h2 h3 h4 h5 h6 h7 h8 h9) (nthS l k) (hd k) (hcs k) lv n1 B g wr (by omega) ((HK.out k hlt).turn htk) hB hl33 (by omega) (by omega) hgq.out)
        clear hn1 ih
        go_wp2_with (go_at_call 60; go_must (refine HC.out.mono ?_; rintro e w1 ⟨rfl, hg2, hT2⟩))
        go_roundw
        case rel => exact ⟨k + 1, _, _, by omega, by go_num, Lib.hid ⟨by
            have a := HQ.out.1
            have b := hso.out.1
            have c : stN (orI e0 (chkSs (l.take k) lv).e) (chkS (nthS l k) lv).n = (chkS (nthS l k) lv).n := by rw [HZ1.out, HZ2.out]; simp [stN, orI]
            rw [hsn.out, ← b, c, a]; omega, by rw [hsn.out, ← hso.out.2, HZ1.out, HZ2.out]; simp [orI]⟩, hg2, htk.trans hT2⟩
        case measure => simp [intOf]; omega
      · have HF : Hid (n1 = n0 + (stN e0 (chkSs l lv).n : Nat) ∧ e1 = orI e0 (chkSs l lv).e) := Lib.hid (by
          by_cases hlt : k < l.length
          · have hne : e1 ≠ 0 := fun h => hgo ⟨hlt, h⟩
            by_cases h0 : e0 = 0
            · have hc : (chkSs (l.take k) lv).e ≠ 0 := by have := HQ.out.2; rw [h0, orI_z] at this; omega
              rw [chkSs_stop hc]; exact HQ.out
            · have a := HQ.out.1
              have b := HQ.out.2
              rw [stN, if_pos h0] at a
              rw [orI, if_pos h0] at b
              rw [stN, if_pos h0, orI, if_pos h0]; exact ⟨a, b⟩
          · obtain rfl : k = l.length := by omega
            have := HQ.out
            rwa [List.take_length] at this)
        by_cases hlt : k < l.length
        · have hne : (e1 == 0) = false := by simp only [beq_eq_false_iff_ne]; exact fun h => hgo ⟨hlt, h⟩
          go_wp2
          refine end_of ?_ rfl
          exact ⟨_, by simp [results, Tryz.results37, go_sem], rfl, by rw [← HF.out.1, ← HF.out.2]; exact hgq.out, htk⟩
        · go_wp2
          refine end_of ?_ rfl
          exact ⟨_, by simp [results, Tryz.results37, go_sem], rfl, by rw [← HF.out.1, ← HF.out.2]; exact hgq.out, htk⟩
set_option maxRecDepth 100000 in
set_option maxHeartbeats 8000000 in
theorem faceR (f : FnD) (h : HdF) (B : Nat) (w : World) (hB : B ≤ w.heap.size) (hf : FnOk w B f h) :
    Calls Tryz.prog 36 #[.agg (fnC f h)] w fun e w' => e = .returned (.int .i64 (faceD f)) ∧ Below w.heap.size w w' := by
  have hn := hf.name
  have hpl := hf.plen
  have HF := Lib.hid hf
  clear hf
  cases nm : nameE f.name
  · have nm' : nameB (bytesOf f.name) = false := nm
    have HO := Lib.hid (show faceD f = 8 by rw [faceD, nm]; rfl)
    go_enter Tryz.func36, Tryz.ntmps36
    go_wp2_with (go_at_call 59; go_must (refine (nameR f.name hn _).mono ?_; rintro e w1 ⟨rfl, hb1⟩; have X1 := (Whl.new w 44 (fnC f h)).below' hb1; have B1 := below_step (below_alloc (Below.refl _ _) _) hb1; obtain ⟨x0, x1, x2⟩ := X1.c3; have lx1 := X1.lt))
    go_ret
    exact ⟨by rw [HO.out]; rfl, B1⟩
  have nm' : nameB (bytesOf f.name) = true := nm
  by_cases h8 : 8 < f.params.length
  · have h8' : decide ((8 : Int) < (f.params.length : Int)) = true := by simp; omega
    have HO := Lib.hid (show faceD f = 3 by rw [faceD, nm, if_neg (by simp), if_pos h8])
    clear h8
    go_enter Tryz.func36, Tryz.ntmps36
    go_wp2_with (go_at_call 59; go_must (refine (nameR f.name hn _).mono ?_; rintro e w1 ⟨rfl, hb1⟩; have X1 := (Whl.new w 44 (fnC f h)).below' hb1; have B1 := below_step (below_alloc (Below.refl _ _) _) hb1; obtain ⟨x0, x1, x2⟩ := X1.c3; have lx1 := X1.lt))
    go_ret
    exact ⟨by rw [HO.out]; rfl, B1⟩
  have h8' : decide ((8 : Int) < (f.params.length : Int)) = false := by simp; omega
  have HO := Lib.hid (show faceD f = pars f.params by rw [faceD, nm, if_neg (by simp), if_neg h8])
  clear h8
  go_enter Tryz.func36, Tryz.ntmps36
  go_wp2_with (go_at_call 59; go_must (refine (nameR f.name hn _).mono ?_; rintro e w1 ⟨rfl, hb1⟩; have X1 := (Whl.new w 44 (fnC f h)).below' hb1; have B1 := below_step (below_alloc (Below.refl _ _) _) hb1; obtain ⟨x0, x1, x2⟩ := X1.c3; have lx1 := X1.lt))
  clear h8' nm nm' x0 x1 x2 lx1
  go_loopw [3] (fun i W => ∃ k : Nat, k ≤ f.params.length ∧ i = .int .i64 k ∧ Hid (pars (f.params.take k) = 0) ∧ Below w.heap.size w W ∧ Whl W w.heap.size 44 (fnC f h)) (fun i _ => f.params.length - (intOf i).toNat)
  case atStart => exact ⟨0, Nat.zero_le _, rfl, Lib.hid (by simp [pars]), B1, X1⟩
  case round =>
    obtain ⟨k, hk, rfl, HQ, hgr, hX⟩ := hrel
    have l1 := hgr.size
    obtain ⟨x0, x1, x2⟩ := hX.c3
    have lx := hX.lt
    by_cases hlt : k < f.params.length
    · have hsn := Lib.hid (pars_snoc hlt)
      obtain ⟨b, off, hb, c0, c1, c2⟩ := (HF.out.params.below hgr hB).pa hlt
      have lb : b < wr.heap.size := World.block_lt_of_cell? _ _ c0
      have hpn := (HF.out.pwf k hlt).1
      rw [hb] at x1
      have HBB := Lib.hid hb
      clear hb
      have hcs : ∀ W, Below wr.heap.size wr W → W.cell? ⟨b, off + k * 3 + 1, none⟩ = some (.int .i64 (nthP f.params k).lo) ∧ W.cell? ⟨b, off + k * 3 + 2, none⟩ = some (.int .i64 (nthP f.params k).hi) := fun W hW => ⟨(hW.cell (p := ⟨b, off + k * 3 + 1, none⟩) lb).trans c1, (hW.cell (p := ⟨b, off + k * 3 + 2, none⟩) lb).trans c2⟩
      have HCS := Lib.hid hcs
      clear hcs c1 c2
      cases nm : nameE (nthP f.params k).name
      · have nm' : nameB (bytesOf (nthP f.params k).name) = false := nm
        have HX := Lib.hid (show parE (nthP f.params k) = 8 by rw [parE, nm]; rfl)
        go_wp2_with (go_at_call 59; refine (nameR _ hpn _).mono ?_; rintro e w9 ⟨rfl, hb9⟩)
        go_ret
        exact ⟨by rw [HO.out, pars_bad hlt HQ.out (by rw [HX.out]; decide), HX.out]; rfl, below_step hgr hb9⟩
      · have nm' : nameB (bytesOf (nthP f.params k).name) = true := nm
        cases e1 : ((nthP f.params k).lo == least) <;> cases e2 : ((nthP f.params k).hi == least)
        all_goals have HX := Lib.hid (show parE (nthP f.params k) = _ by rw [parE, nm, e1, e2])
        all_goals have e3 : ((nthP f.params k).lo == -9223372036854775808) = _ := e1
        all_goals have e4 : ((nthP f.params k).hi == -9223372036854775808) = _ := e2
        all_goals clear e1 e2 nm
        all_goals go_wp2_with (go_at_call 59; refine (nameR _ hpn _).mono ?_; rintro e w9 ⟨rfl, hb9⟩; obtain ⟨d1, d2⟩ := HCS.out w9 hb9; have X9 := hX.below' hb9; obtain ⟨y0, y1, y2⟩ := X9.c3; rw [HBB.out] at y1; have lb9 : b < w9.heap.size := Nat.lt_of_lt_of_le lb hb9.size)
        · go_roundw
          case rel => exact ⟨k + 1, by omega, by go_num, Lib.hid (by rw [hsn.out, HQ.out, HX.out]; rfl), below_step hgr hb9, X9⟩
          case measure => simp [intOf]; omega
        all_goals go_ret
        all_goals exact ⟨by rw [HO.out, pars_bad hlt HQ.out (by rw [HX.out]; decide), HX.out]; rfl, below_step hgr hb9⟩
    · obtain rfl : k = f.params.length := by omega
      have HE : Hid (faceD f = 0) := Lib.hid (by have := HQ.out; rw [List.take_length] at this; rw [HO.out, this])
      go_wp2
      go_ret
      exact ⟨by rw [HE.out]; rfl, hgr⟩
set_option maxRecDepth 100000 in
set_option maxHeartbeats 8000000 in
theorem headRef (p : PrD) (wa fa : Option Addr) (wc fc B : Nat) (w : World) (hB : B ≤ w.heap.size) (hp : PrOk w B p wa fa) :
    Calls Tryz.prog 35 #[prV p wa fa wc fc] w fun e w' => e = .returned (.int .i64 (headD p)) ∧ Below w.heap.size w w' := by
  have hwl := hp.wlen
  have hfl : p.funcs.length * 64 ≤ 140737488351232 := by obtain @⟨_, a, _, _⟩ := hp.funcs; exact a
  have HP := Lib.hid hp
  clear hp
  have X0 := Whl.new w 25 (prC p wa fa wc fc)
  have B0 := below_alloc (Below.refl w.heap.size w) (.cells (prC p wa fa wc fc) 25)
  by_cases q1 : 16 < p.widen.length
  · have n1 : decide ((16 : Int) < (p.widen.length : Int)) = true := by simp; omega
    have HE := Lib.hid (show headD p = 3 by rw [headD, if_pos q1])
    clear q1
    go_enter Tryz.func35, Tryz.ntmps35
    go_wp2
    go_ret
    exact ⟨by rw [HE.out]; rfl, B0⟩
  have n1 : decide ((16 : Int) < (p.widen.length : Int)) = false := by simp; omega
  have Q1 := Lib.hid q1
  clear q1
  go_enter Tryz.func35, Tryz.ntmps35
  go_wp2
  clear n1
  go_loopw [3] (fun i W => ∃ k : Nat, k ≤ p.widen.length ∧ i = .int .i64 k ∧ Hid (hasI (p.widen.take k) least = false) ∧ Below w.heap.size w W ∧ Whl W w.heap.size 25 (prC p wa fa wc fc)) (fun i _ => p.widen.length - (intOf i).toNat)
  case atStart => exact ⟨0, Nat.zero_le _, rfl, Lib.hid (by simp [hasI]), B0, X0⟩
  case round =>
    obtain ⟨k, hk, rfl, HQ, hW, hX⟩ := hrel
    obtain ⟨d0, d1⟩ := hX.c2
    have lx := hX.lt
    have hWl := hW.size
    by_cases hlt : k < p.widen.length
    · have hsn := Lib.hid (hasI_take (v := least) hlt)
      obtain ⟨tb, tof, hta, htb, htc⟩ := (HP.out.widen.below hW hB) (by omega)
      have p0 : wr.cell? ⟨tb, tof + k, none⟩ = some (.int .i64 (nthI p.widen k)) := by have := htc k hlt 0 (by omega); rw [Nat.mul_one, Nat.add_zero] at this; exact this
      rw [hta] at d0
      clear htc hta
      cases hx : (nthI p.widen k == least)
      · have HX := Lib.hid hx
        have hx' : (nthI p.widen k == -9223372036854775808) = false := hx
        clear hx
        go_wp2
        go_roundw
        case rel => exact ⟨k + 1, by omega, by go_num, Lib.hid (by rw [hsn.out, HQ.out]; exact HX.out), hW, hX⟩
        case measure => simp [intOf]; omega
      · have HX := Lib.hid hx
        have hx' : (nthI p.widen k == -9223372036854775808) = true := hx
        have HE := Lib.hid (show headD p = 1 by
          have e : (p.widen.any (· == least)) = true := by
            show hasI p.widen least = true
            rw [hasI_cut p.widen least (k + 1), hsn.out, show (p.widen.getD k 0 == least) = true from HX.out]; simp
          rw [headD, if_neg Q1.out, e]; rfl)
        clear hx
        go_wp2
        go_ret
        exact ⟨by rw [HE.out]; rfl, hW⟩
    · have Q2 : Hid ((p.widen.any (· == least)) = false) := Lib.hid (by
        obtain rfl : k = p.widen.length := by omega
        have := HQ.out
        rwa [List.take_length] at this)
      obtain ⟨wo, rfl⟩ : ∃ wo : World, wo = wr := ⟨_, rfl⟩
      go_wp2
      go_loopw [4] (fun i W => ∃ j : Nat, 1 ≤ j ∧ (j ≤ p.widen.length ∨ p.widen.length = 0 ∧ j = 1) ∧ i = .int .i64 j ∧ Hid (∀ m, m + 1 < j → nthI p.widen m < nthI p.widen (m + 1)) ∧ Below w.heap.size w W ∧ Whl W w.heap.size 25 (prC p wa fa wc fc)) (fun i _ => p.widen.length - (intOf i).toNat)
      case atStart => exact ⟨1, Nat.le_refl _, by omega, rfl, Lib.hid (fun m hm => by omega), hW, hX⟩
      case round =>
        obtain ⟨i, hi1, hi, rfl, HDI, hW, hX⟩ := hrel
        obtain ⟨d0, d1⟩ := hX.c2
        have lx := hX.lt
        have hWl := hW.size
        by_cases hlt : i < p.widen.length
        · obtain ⟨tb, tof, hta, htb, htc⟩ := (HP.out.widen.below hW hB) (by omega)
          have p0 : wr.cell? ⟨tb, tof + i, none⟩ = some (.int .i64 (nthI p.widen i)) := by have := htc i hlt 0 (by omega); rw [Nat.mul_one, Nat.add_zero] at this; exact this
          have p1 : wr.cell? ⟨tb, tof + (i - 1), none⟩ = some (.int .i64 (nthI p.widen (i - 1))) := by have := htc (i - 1) (by omega) 0 (by omega); rw [Nat.mul_one, Nat.add_zero] at this; exact this
          have hsub : IntKind.i64.wrap ((i : Int) - 1) = ((i - 1 : Nat) : Int) := by simp [IntKind.wrap, IntKind.bits, IntKind.signed]; omega
          have h10 : (0 : Int) ≤ ((i - 1 : Nat) : Int) := by omega
          have h11 : ((i - 1 : Nat) : Int) < (p.widen.length : Int) := by omega
          rw [hta] at d0
          clear htc hta
          cases hok : decide (nthI p.widen i ≤ nthI p.widen (i - 1))
          · have HK : Hid (nthI p.widen (i - 1) < nthI p.widen i) := Lib.hid (by simpa using hok)
            go_wp2
            go_quiet (fail)
            go_wp2
            go_roundw
            case rel => exact ⟨i + 1, by omega, by omega, by go_num, Lib.hid (fun m hm => by
              rcases Nat.lt_or_ge (m + 1) i with q | q
              · exact HDI.out m q
              · obtain rfl : m = i - 1 := by omega
                have := HK.out
                rwa [show i - 1 + 1 = i by omega]), below_drewN' hW _, hX.drewN _⟩
            case measure => simp only [intOf]; omega
          · have HE := Lib.hid (show headD p = 66 by
              have e0 : risesD p.widen = false := by
                rw [Bool.eq_false_iff]; intro q
                have := (rises_iff _).1 q (i - 1) (by omega)
                rw [show i - 1 + 1 = i by omega] at this
                simp only [decide_eq_true_eq] at hok; omega
              rw [headD, if_neg Q1.out, Q2.out, if_neg (by simp), e0]; rfl)
            go_wp2
            go_quiet (fail)
            go_wp2
            go_ret
            exact ⟨by rw [HE.out]; rfl, below_drewN' hW _⟩
        · have Q3 : Hid (risesD p.widen = true) := Lib.hid ((rises_iff _).2 fun m hm => HDI.out m (by omega))
          clear HDI
          by_cases q4 : 32 < p.funcs.length
          · have n4 : decide ((32 : Int) < (p.funcs.length : Int)) = true := by simp; omega
            have HE := Lib.hid (show headD p = 3 by rw [headD, if_neg Q1.out, Q2.out, if_neg (by simp), Q3.out, if_neg (by simp), if_pos (Or.inl q4)])
            clear q4
            go_wp2
            go_ret
            exact ⟨by rw [HE.out]; rfl, hW⟩
          have n4 : decide ((32 : Int) < (p.funcs.length : Int)) = false := by simp; omega
          have Q4 := Lib.hid q4
          clear q4
          by_cases q5 : 4096 < cntFs p.funcs
          · have n5 : decide ((4096 : Int) < ((nodesD p : Nat) : Int)) = true := by unfold nodesD; simp; omega
            have HE := Lib.hid (show headD p = 3 by rw [headD, if_neg Q1.out, Q2.out, if_neg (by simp), Q3.out, if_neg (by simp), if_pos (Or.inr q5)])
            clear q5
            go_wp2_with (go_at_call 58; go_must (refine (nodesR p wa fa wc fc B _ (by omega) (HP.out.keep hW hB)).mono ?_; rintro e w1 ⟨rfl, hb1⟩))
            go_ret
            exact ⟨by rw [HE.out]; rfl, below_step hW hb1⟩
          · have n5 : decide ((4096 : Int) < ((nodesD p : Nat) : Int)) = false := by unfold nodesD; simp; omega
            have HE := Lib.hid (show headD p = 0 by rw [headD, if_neg Q1.out, Q2.out, if_neg (by simp), Q3.out, if_neg (by simp), if_neg (fun h => h.elim Q4.out q5)])
            clear q5
            go_wp2_with (go_at_call 58; go_must (refine (nodesR p wa fa wc fc B _ (by omega) (HP.out.keep hW hB)).mono ?_; rintro e w1 ⟨rfl, hb1⟩))
            go_ret
            exact ⟨by rw [HE.out]; rfl, below_step hW hb1⟩
theorem all0 (n : Nat) (e : Int) : (#[.int .i64 (0 + (stN 0 n : Nat)), .int .i64 (orI 0 e)] : Array Value) = #[.int .i64 (n : Int), .int .i64 e] := by simp [stN, orI]
theorem headD_cnt {p : PrD} (h : headD p = 0) : cntFs p.funcs ≤ 4096 := by
  unfold headD at h
  split at h
  · omega
  split at h
  · omega
  split at h
  · omega
  split at h
  · omega
  · omega
set_option maxRecDepth 100000 in
set_option maxHeartbeats 16000000 in
theorem checkRef (p : PrD) (wa fa : Option Addr) (uc vc B : Nat) (W : World) (hB : B ≤ W.heap.size) (hp : PrOk W B p wa fa) :
    Calls Tryz.prog 16 #[prV p wa fa uc vc] W fun e w' => e = .returned (faultV (checkD p)) ∧ Below W.heap.size W w' := by
  have hfl : p.funcs.length * 64 ≤ 140737488351232 := by obtain @⟨_, a, _, _⟩ := hp.funcs; exact a
  have HP := Lib.hid hp
  clear hp
  cases he : (headD p == 0)
  · have he' : (headD p != 0) = true := by rw [bne, he]; rfl
    have HE := Lib.hid (show checkD p = ⟨headD p, 0, 0⟩ by rw [checkD, if_pos (by simpa using he)])
    clear he
    go_enter Tryz.func16, Tryz.ntmps16
    go_wp2_with (go_at_call 35; go_must (refine (headRef p wa fa uc vc B _ (by have := (CMem.start W p wa fa uc vc).below.size; omega) (HP.out.keep (CMem.start W p wa fa uc vc).below hB)).mono ?_; rintro e w1 ⟨rfl, hb1⟩; have M1 := (CMem.start W p wa fa uc vc).go hb1; obtain ⟨r0, r1, r2⟩ := M1.br.c3; obtain ⟨p0, p1⟩ := M1.bm.c2; have s0 := M1.br.frozen 0; have s1 := M1.br.frozen 1; have s2 := M1.br.frozen 2; have lr := M1.br.lt; have lp := M1.bm.lt))
    all_goals (try simp only [Exit.inBlock, Exit.then])
    refine ret_of ?_ rfl
    simp [results, Tryz.results16, go_sem, HE.out, r0, r1, r2, s0, s1, s2]
    go_light
    exact (by repeat (first | exact M1.below | exact Below.refl _ _ | with_reducible apply below_alloc | with_reducible apply below_drewN | with_reducible refine Below.drew ?_ | with_reducible refine Below.setCell ?_ (by dsimp only; omega) _))
  · have he' : (headD p != 0) = false := by rw [bne, he]; rfl
    have he2 : headD p = 0 := by simpa using he
    have Q5 := Lib.hid (headD_cnt he2)
    have HE0 := Lib.hid (show checkD p = fnsD p.funcs 0 by rw [checkD, if_neg (by simp [he2])])
    clear he2
    obtain ⟨hd, rows, each, _⟩ := HP.out.funcs.open_
    have HR := Lib.hid rows
    have HF := Lib.hid each
    clear rows each
    go_enter Tryz.func16, Tryz.ntmps16
    go_wp2_with (go_at_call 35; go_must (refine (headRef p wa fa uc vc B _ (by have := (CMem.start W p wa fa uc vc).below.size; omega) (HP.out.keep (CMem.start W p wa fa uc vc).below hB)).mono ?_; rintro e w1 ⟨rfl, hb1⟩; have M1 := (CMem.start W p wa fa uc vc).go hb1; obtain ⟨r0, r1, r2⟩ := M1.br.c3; obtain ⟨p0, p1⟩ := M1.bm.c2; have s0 := M1.br.frozen 0; have s1 := M1.br.frozen 1; have s2 := M1.br.frozen 2; have lr := M1.br.lt; have lp := M1.bm.lt))
    clear r0 r1 r2 p0 p1 s0 s1 s2 lr lp
    go_loopw [4] (fun s wr => ∃ k : Nat, k ≤ p.funcs.length ∧ s = .int .i64 k ∧ Hid (checkD p = fnsD (p.funcs.drop k) k) ∧ CMem W p wa fa uc vc wr) (fun s _ => p.funcs.length - (intOf s).toNat)
    case atStart => exact ⟨0, Nat.zero_le _, rfl, Lib.hid (by rw [HE0.out]; rfl), M1⟩
    case round =>
      obtain ⟨k, hk, rfl, HDD, hM⟩ := hrel
      obtain ⟨r0, r1, r2⟩ := hM.br.c3
      have s0 := hM.br.frozen 0
      have s1 := hM.br.frozen 1
      have s2 := hM.br.frozen 2
      obtain ⟨p0, p1⟩ := hM.bm.c2
      have lr := hM.br.lt
      have lp := hM.bm.lt
      have hMl := hM.below.size
      by_cases hlt : k < p.funcs.length
      · obtain ⟨b, off, hfa, c0, c1, c2⟩ := HR.out wr (hM.below.mono hB) k hlt
        have lb : b < wr.heap.size := World.block_lt_of_cell? _ _ c0
        have HRC : Hid (∀ w2, Below wr.heap.size wr w2 → w2.cell? ⟨b, off + k * 3, none⟩ = some (.string (nthF p.funcs k).name) ∧ w2.cell? ⟨b, off + k * 3 + 1, none⟩ = some (.slice (hd k).params.a (nthF p.funcs k).params.length (hd k).params.c) ∧ w2.cell? ⟨b, off + k * 3 + 2, none⟩ = some (.slice (hd k).body.a (nthF p.funcs k).body.length (hd k).body.c)) :=
          Lib.hid fun w2 hw => ⟨(hw.cell (p := ⟨b, off + k * 3, none⟩) lb).trans c0, (hw.cell (p := ⟨b, off + k * 3 + 1, none⟩) lb).trans c1, (hw.cell (p := ⟨b, off + k * 3 + 2, none⟩) lb).trans c2⟩
        rw [hfa] at p1
        have HFA := Lib.hid hfa
        clear hfa
        have HN := Lib.hid (fnsD_at hlt)
        cases hf : (faceD (nthF p.funcs k) == 0)
        · have hf' : (faceD (nthF p.funcs k) != 0) = true := by rw [bne, hf]; rfl
          have HE := Lib.hid (show checkD p = ⟨faceD (nthF p.funcs k), k, 0⟩ by rw [HDD.out, HN.out, if_pos (by simpa using hf)])
          clear hf
          go_wp2_with (go_at_call 36; go_must (refine (faceR (nthF p.funcs k) (hd k) B wr (by omega) ((HF.out k hlt).keep (hM.below.mono hB) (Nat.le_refl _))).mono ?_; rintro e w2 ⟨rfl, hb2⟩; have M2 := hM.go hb2; obtain ⟨t0, t1, t2⟩ := M2.br.c3; have u0 := M2.br.frozen 0; have u1 := M2.br.frozen 1; have u2 := M2.br.frozen 2; obtain ⟨q0, q1⟩ := M2.bm.c2; rw [HFA.out] at q1; have lr2 := M2.br.lt; have lp2 := M2.bm.lt; obtain ⟨e0, e1, e2⟩ := HRC.out w2 hb2; have lb2 : b < w2.heap.size := Nat.lt_of_lt_of_le lb hb2.size))
          all_goals (try simp only [Exit.inBlock, Exit.then])
          refine ret_of ?_ rfl
          simp [results, Tryz.results16, go_sem, HE.out, t0, t1, t2, u0, u1, u2]
          go_light
          exact (by repeat (first | exact M2.below | exact Below.refl _ _ | with_reducible apply below_alloc | with_reducible apply below_drewN | with_reducible refine Below.drew ?_ | with_reducible refine Below.setCell ?_ (by dsimp only; omega) _))
        · have hf' : (faceD (nthF p.funcs k) != 0) = false := by rw [bne, hf]; rfl
          have HN2 : Hid (faceD (nthF p.funcs k) = 0) := Lib.hid (by simpa using hf)
          clear hf
          cases hs : ((chkSs (nthF p.funcs k).body 1).e == 0)
          · have hs' : ((chkSs (nthF p.funcs k).body 1).e != 0) = true := by rw [bne, hs]; rfl
            have HE := Lib.hid (show checkD p = ⟨(chkSs (nthF p.funcs k).body 1).e, k, (chkSs (nthF p.funcs k).body 1).n⟩ by rw [HDD.out, HN.out, HN2.out, if_neg (by simp), if_pos (by simpa using hs)])
            go_wp2_with (first | (go_at_call 36; go_must (refine (faceR (nthF p.funcs k) (hd k) B wr (by omega) ((HF.out k hlt).keep (hM.below.mono hB) (Nat.le_refl _))).mono ?_; rintro e w2 ⟨rfl, hb2⟩; have M2 := hM.go hb2; obtain ⟨t0, t1, t2⟩ := M2.br.c3; have u0 := M2.br.frozen 0; have u1 := M2.br.frozen 1; have u2 := M2.br.frozen 2; obtain ⟨q0, q1⟩ := M2.bm.c2; rw [HFA.out] at q1; have lr2 := M2.br.lt; have lp2 := M2.bm.lt; obtain ⟨e0, e1, e2⟩ := HRC.out w2 hb2; have lb2 : b < w2.heap.size := Nat.lt_of_lt_of_le lb hb2.size)) | (go_at_call 37; go_must (refine (allRN _ (nthF p.funcs k).body (hd k).body.a (hd k).body.c 1 _ 0 0 W.heap.size w2.heap.size _ (Nat.lt_succ_self _) (((HF.out k hlt).body.keep ((M2.alloc (.cells #[.int .i64 0, .int .i64 0] 85)).below.mono hB) (Nat.le_refl _)).more hB) M2.below.size (by omega) rfl (by omega) (by omega) (by have := cnt_at hlt; have := Q5.out; omega) (Whl.new w2 _ _)).mono ?_; rintro e w3 ⟨rfl, hg3, ht3⟩; rw [all0] at hg3; have M3 := (M2.alloc _).turn ht3 (by omega); obtain ⟨v0, v1, v2⟩ := M3.br.c3; have y0 := M3.br.frozen 0; have y1 := M3.br.frozen 1; have y2 := M3.br.frozen 2; obtain ⟨g0, g1⟩ := hg3.c2; have lg3 := hg3.lt; have lr3 := M3.br.lt)))
            go_region
            all_goals go_wp2
            all_goals (try simp only [Exit.inBlock, Exit.then])
            all_goals refine ret_of ?_ rfl
            all_goals simp [results, Tryz.results16, go_sem, HE.out, v0, v1, v2, y0, y1, y2]
            all_goals go_light
            all_goals exact (by repeat (first | exact M3.below | exact Below.refl _ _ | with_reducible apply below_alloc | with_reducible apply below_drewN | with_reducible refine Below.drew ?_ | with_reducible refine Below.setCell ?_ (by dsimp only; omega) _))
          · have hs' : ((chkSs (nthF p.funcs k).body 1).e != 0) = false := by rw [bne, hs]; rfl
            have HS : Hid ((chkSs (nthF p.funcs k).body 1).e = 0) := Lib.hid (by simpa using hs)
            go_wp2_with (first | (go_at_call 36; go_must (refine (faceR (nthF p.funcs k) (hd k) B wr (by omega) ((HF.out k hlt).keep (hM.below.mono hB) (Nat.le_refl _))).mono ?_; rintro e w2 ⟨rfl, hb2⟩; have M2 := hM.go hb2; obtain ⟨t0, t1, t2⟩ := M2.br.c3; have u0 := M2.br.frozen 0; have u1 := M2.br.frozen 1; have u2 := M2.br.frozen 2; obtain ⟨q0, q1⟩ := M2.bm.c2; rw [HFA.out] at q1; have lr2 := M2.br.lt; have lp2 := M2.bm.lt; obtain ⟨e0, e1, e2⟩ := HRC.out w2 hb2; have lb2 : b < w2.heap.size := Nat.lt_of_lt_of_le lb hb2.size)) | (go_at_call 37; go_must (refine (allRN _ (nthF p.funcs k).body (hd k).body.a (hd k).body.c 1 _ 0 0 W.heap.size w2.heap.size _ (Nat.lt_succ_self _) (((HF.out k hlt).body.keep ((M2.alloc (.cells #[.int .i64 0, .int .i64 0] 85)).below.mono hB) (Nat.le_refl _)).more hB) M2.below.size (by omega) rfl (by omega) (by omega) (by have := cnt_at hlt; have := Q5.out; omega) (Whl.new w2 _ _)).mono ?_; rintro e w3 ⟨rfl, hg3, ht3⟩; rw [all0] at hg3; have M3 := (M2.alloc _).turn ht3 (by omega); obtain ⟨v0, v1, v2⟩ := M3.br.c3; have y0 := M3.br.frozen 0; have y1 := M3.br.frozen 1; have y2 := M3.br.frozen 2; obtain ⟨g0, g1⟩ := hg3.c2; have lg3 := hg3.lt; have lr3 := M3.br.lt)))
            go_roundw
            case rel => exact ⟨k + 1, by omega, by go_num, Lib.hid (by rw [HDD.out, HN.out, HN2.out, if_neg (by simp), HS.out, if_neg (by simp)]), M3⟩
            case measure => simp only [intOf]; omega
      · obtain rfl : k = p.funcs.length := by omega
        have HE := Lib.hid (show checkD p = ⟨0, 0, 0⟩ by rw [HDD.out, List.drop_length, fnsD])
        go_wp2
        all_goals (try simp only [Exit.inBlock, Exit.then])
        refine ret_of ?_ rfl
        simp [results, Tryz.results16, go_sem, HE.out, r0, r1, r2, s0, s1, s2]
        go_light
        exact (by repeat (first | exact hM.below | exact Below.refl _ _ | with_reducible apply below_alloc | with_reducible apply below_drewN | with_reducible refine Below.drew ?_ | with_reducible refine Below.setCell ?_ (by dsimp only; omega) _))
end Go.Proofs.YtdddppmfeoebgaaGreatDoor
