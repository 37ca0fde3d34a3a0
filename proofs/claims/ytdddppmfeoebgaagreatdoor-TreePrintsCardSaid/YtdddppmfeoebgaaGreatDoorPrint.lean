/-
  Layer 2 (tree): the walk of Print.
-/
import Derived.Test.YtdddppmfeoebgaaGreatDoorCheck
import Derived.Test.YtdddppmfeoebgaaGreatDoorStmt
import Derived.Test.YtdddppmfeoebgaaGreatDoorStrg
import Derived.Test.YtdddppmfeoebgaaGreatDoorGood
import Derived.Deep.AppendLies
import Derived.Deep.RegionLaw
namespace Go.Proofs.YtdddppmfeoebgaaGreatDoor
open Go.RowKit
set_option linter.unusedSimpArgs false
set_option linter.unusedVariables false
/-- A row of strings has grown: the printer, and what lies whole, stays. -/
theorem own_strs_bytes {w : World} {B B2 : Nat} {v u : Value} {l : List (List UInt8)} {m : List UInt8} (h : OwnT w B v l) (k : OwnB w B2 u m) : ∀ j, u.ownBlock = some j → some j ≠ v.ownBlock := fun j hj e => by
  rcases h.2 with ⟨rfl, _⟩ | ⟨g2, cap2, cur2, rfl, _, hh2, _⟩
  · cases e
  · rcases k.2 with ⟨rfl, _⟩ | ⟨g3, cap3, cur3, rfl, _, hh3, _⟩
    · cases hj
    · simp only [Value.ownBlock, Option.some.injEq] at e hj
      subst hj
      subst e
      rw [hh2] at hh3
      simp only [Option.some.injEq, Obj.cells.injEq] at hh3
      exact absurd hh3.2.1 (by decide)
theorem Prn.row {w w2 : World} {B B2 g : Nat} {v : Value} {l : List (List UInt8)} {m : List UInt8} {d : Int} (h : Prn w B g m d) (k : OwnT w B2 v l) (hg : w.grownBy w2 v.ownBlock) : Prn w2 B g m d := by
  obtain ⟨a, u, ha, hp⟩ := h
  exact ⟨a, u, ha, hp.whl.grown hg (OwnT.keep k hp.whl (by decide)), ownB_keep hp.own fun j hj => hg.block j (ownB_lt hp.own j hj) (own_strs_bytes k hp.own j hj), hp.low, hp.nil⟩
theorem CMem.row {W w w2 : World} {p : PrD} {wa fa : Option Addr} {uc vc B2 : Nat} {v : Value} {l : List (List UInt8)} (h : CMem W p wa fa uc vc w) (k : OwnT w B2 v l) (hB : W.heap.size ≤ B2) (hg : w.grownBy w2 v.ownBlock) : CMem W p wa fa uc vc w2 :=
  ⟨h.below.grown hg h.below.size (fun j hj => Nat.le_trans hB (k.base j hj)), h.bm.grown hg (OwnT.keep k h.bm (by decide)), h.br.grown hg (OwnT.keep k h.br (by decide))⟩
theorem OwnT.all {w : World} {B : Nat} {v : Value} {l : List (List UInt8)} (h : OwnT w B v l) : ∃ A c, v = .slice A l.length c ∧ l.length ≤ c ∧ StrsAt' w A l := h.slice
theorem OwnT.drew {w : World} {B : Nat} {v : Value} {l : List (List UInt8)} (h : OwnT w B v l) : OwnT w.drew B v l := h
theorem wid_snoc {l : List Int} {k : Nat} (h : k < l.length) : (l.take (k + 1)).map numD = (l.take k).map numD ++ [numD (nthI l k)] := by rw [take_snoc 0 h, List.map_append]; rfl
theorem str_v {S : ByteArray} {T : List UInt8} (h : S.data.toList = T) : (.string S : Value) = strV T := by subst h; rfl
theorem paS (x : PaD) : (.string (x.name ++ { data := #[32, 105, 110, 32] } ++ { data := (numD x.lo).toArray } ++ { data := #[46, 46] } ++ { data := (numD x.hi).toArray }) : Value) = strV (paT x) := str_v (by simp [paT, bytesOf'])
set_option maxRecDepth 100000 in
set_option maxHeartbeats 4000000 in
theorem walk_bad (p : PrD) (wa fa : Option Addr) (uc vc B : Nat) (W : World) (hB : B ≤ W.heap.size) (hp : PrOk W B p wa fa) (hc : ((checkD p).e == 0) = false) :
    Calls Tryz.prog 5 #[prV p wa fa uc vc] W fun e w' => e = .returned (.tuple #[strV (printD p).1, faultV (printD p).2]) ∧ Below W.heap.size W w' := by
  have hc' : ((checkD p).e != 0) = true := by rw [bne, hc]; rfl
  have HE := Lib.hid (show printD p = ([], checkD p) by rw [printD, if_pos (by simpa using hc)])
  have HP := Lib.hid hp
  clear hp hc
  go_enter Tryz.func5, Tryz.ntmps5
  go_wp2_with (go_at_call 7; go_must (refine (checkP p wa fa uc vc B _ (by simp; omega) (HP.out.keep (below_alloc (below_alloc (Below.refl _ _) _) _) hB)).mono ?_; rintro e w1 ⟨rfl, hb1⟩; have M1 := (CMem.start W p wa fa uc vc).go hb1; obtain ⟨r0, r1, r2⟩ := M1.br.c3; obtain ⟨p0, p1⟩ := M1.bm.c2; have s0 := M1.br.frozen 0; have s1 := M1.br.frozen 1; have s2 := M1.br.frozen 2; have lr := M1.br.lt; have lp := M1.bm.lt))
  go_region
  all_goals go_wp2
  all_goals (try simp only [Exit.inBlock, Exit.then])
  all_goals refine ret_of ?_ rfl
  all_goals simp [results, Tryz.results5, go_sem, HE.out, r0, r1, r2, s0, s1, s2, lr, lp]
  all_goals go_light
  all_goals exact (by repeat (first | exact M1.below | exact Below.refl _ _ | with_reducible apply below_alloc | with_reducible refine Below.drew ?_ | with_reducible refine Below.setCell ?_ (by dsimp only; omega) _))
set_option maxRecDepth 100000 in
set_option maxHeartbeats 8000000 in
theorem walk_ok (p : PrD) (wa fa : Option Addr) (uc vc B : Nat) (W : World) (hB : B ≤ W.heap.size) (hp : PrOk W B p wa fa) (ht : Pow10 W) (hc : ((checkD p).e == 0) = true) :
    Calls Tryz.prog 5 #[prV p wa fa uc vc] W fun e w' => e = .returned (.tuple #[strV (printD p).1, faultV (printD p).2]) ∧ Below W.heap.size W w' := by
  have hc' : ((checkD p).e != 0) = false := by rw [bne, hc]; rfl
  have HG := Lib.hid (goodP_of hp (by simpa using hc))
  have HP := Lib.hid hp
  have HT := Lib.hid ht
  have hwl := hp.wlen
  clear hp hc ht
  go_enter Tryz.func5, Tryz.ntmps5
  go_upto_if 25 with (go_at_call 7; go_must (refine (checkP p wa fa uc vc B _ (by simp; omega) (HP.out.keep (below_alloc (below_alloc (Below.refl _ _) _) _) hB)).mono ?_; rintro e w1 ⟨rfl, hb1⟩; have M1 := (CMem.start W p wa fa uc vc).go hb1; obtain ⟨r0, r1, r2⟩ := M1.br.c3; obtain ⟨p0, p1⟩ := M1.bm.c2; have s0 := M1.br.frozen 0; have s1 := M1.br.frozen 1; have s2 := M1.br.frozen 2; have lr := M1.br.lt; have lp := M1.bm.lt))
  have hg1 : W.heap.size + 1 < w1.heap.size + 1 := by omega
  have hgs : W.heap.size ≤ w1.heap.size := M1.below.size
  have M2 := (M1.alloc (.cells #[.int .i64 (checkD p).e, .int .i64 (checkD p).fn, .int .i64 (checkD p).at_] 29)).alloc (.cells #[.pointer none, .slice none 0 0, .int .i64 0] 54)
  have P2 : Prn _ W.heap.size (w1.heap.size + 1) [] 0 := ⟨none, .slice none 0 0, .inl rfl, (Whl.newAt (by simp) 54 #[.pointer none, .slice none 0 0, .int .i64 0] : Whl ((w1.alloc (.cells #[.int .i64 (checkD p).e, .int .i64 (checkD p).fn, .int .i64 (checkD p).at_] 29)).alloc (.cells #[.pointer none, .slice none 0 0, .int .i64 0] 54)) (w1.heap.size + 1) 54 _), ⟨rfl, .inl ⟨rfl, rfl⟩⟩, by omega, fun _ => rfl⟩
  generalize hdz : decide (0 < p.widen.length) = dz
  have HDZ := Lib.hid hdz
  clear hdz
  go_cut [] (fun w' => Prn w' W.heap.size (w1.heap.size + 1) (widT p.widen) 0 ∧ CMem W p wa fa uc vc w')
  case first =>
    cases dz
    · have he : p.widen.length = 0 := by simpa using HDZ.out
      have HEQ := Lib.hid he
      clear he
      go_wp2
      go_meet
      exact ⟨by rw [widT, if_pos HEQ.out]; exact P2, M2⟩
    · have he : 0 < p.widen.length := by simpa using HDZ.out
      have HW := Lib.hid (show widT p.widen = lineT 0 ([[119, 105, 100, 101, 110, 32], joinT (p.widen.map numD), [59]] : List (List UInt8)).flatten by rw [widT, if_neg (by omega)]; simp)
      obtain ⟨i0, hi, hz0, hz1, hz2⟩ := info_parts infoS
      have hw16 := HG.out.widen
      go_wp2
      go_loopw [6, 29] (fun v i w' => ∃ k : Nat, k ≤ p.widen.length ∧ i = .int .i64 k ∧ OwnT w' (w1.heap.size + 2) v ((p.widen.take k).map numD) ∧ Prn w' W.heap.size (w1.heap.size + 1) [] 0 ∧ CMem W p wa fa uc vc w' ∧ w1.heap.size + 2 ≤ w'.heap.size) (fun _ i _ => p.widen.length - (intOf i).toNat)
      case atStart => exact ⟨0, Nat.zero_le _, rfl, OwnT.nil _ _, P2, M2, by simp⟩
      case round =>
        obtain ⟨k, hk, rfl, hO, hP, hM, hsz⟩ := hrel
        have hlen : ((p.widen.take k).map numD).length = k := by rw [List.length_map, List.length_take]; omega
        have HP2 := Lib.hid hP
        have HO := Lib.hid hO
        have HM := Lib.hid hM
        clear hP hO hM P2 M2
        by_cases hlt : k < p.widen.length
        · have HLN := Lib.hid hlen
          have hsn := Lib.hid (wid_snoc hlt)
          obtain ⟨b, off, rfl, hb, hcc⟩ := (HP.out.widen.below HM.out.below hB) (by omega)
          have c0 : wr.cell? ⟨b, off + k, none⟩ = some (.int .i64 (nthI p.widen k)) := by have := hcc k hlt 0 (by omega); rw [Nat.mul_one, Nat.add_zero] at this; exact this
          have hni : In64 (nthI p.widen k) := HG.out.wnum k hlt
          clear hcc hlen
          go_wp2_with (first
            | (go_at_call 10; go_must (refine (numberP (nthI p.widen k) _ hni (HT.out.step HM.out.below)).mono ?_; rintro e w3 ⟨rfl, hb3⟩; have O1 := OwnT.below HO.out hb3; have P1 := HP2.out.go hb3; have N1 := HM.out.go hb3; have l3 := hb3.size))
            | (at_builtin; go_must (refine wpList_append_own _ rfl _ _ 55 rfl (w1.heap.size + 2) 9 i0 (.string ⟨#[]⟩) 1 16 Tryz.underlying55 hi hz0 hz1 hz2 rfl (by decide) _ _ _ rfl (O1.alloc _) ⟨w3.heap.size, 0, none⟩ 1 1 [_] rfl rfl (cell_one_new _ _ _) (by simp [Value.oneCell']) (by have := HLN.out; unfold maxLen; omega) (by have := HLN.out; omega) (by simp; omega) ?_; intro v4 w4 hown hgrow _)))
          go_roundw
          case rel =>
            have hs4 : w1.heap.size + 2 ≤ w4.heap.size := by have := hgrow.size; rw [World.size_alloc] at this; omega
            exact ⟨k + 1, by omega, by go_num, by rw [hsn.out]; exact OwnT.snoc hown, (P1.alloc _).row (O1.alloc _) hgrow, (N1.alloc _).row (O1.alloc _) (by omega) hgrow, hs4⟩
          case measure => simp [intOf]; omega
        · obtain rfl : k = p.widen.length := by omega
          rw [List.take_length] at hlen
          have hO := HO.out
          rw [List.take_length] at hO
          obtain ⟨A, cp, rfl, hcp, hst⟩ := hO.slice
          have hsum := widsT_len HG.out
          have hjl := joinT_len (p.widen.map numD)
          have hww := widT_len HG.out
          rw [HW.out] at hww
          have HLP : Hid (Calls Tryz.prog 12 #[.slice A p.widen.length cp] wr fun e w' => e = .returned (strV (joinT (p.widen.map numD))) ∧ Below wr.heap.size wr w') := Lib.hid (by have := listP A cp (p.widen.map numD) wr hst hcp (by omega) (by omega); rwa [List.length_map] at this)
          have HWW := Lib.hid hww
          have tk1 := Lib.hid trivial
          clear hO HO hst hww
          go_wp2_with (first
            | (go_at_call 12; go_must (refine HLP.out.mono ?_; rintro e w3 ⟨rfl, hb3⟩; have P3 := HP2.out.go hb3; have N3 := HM.out.go hb3; have l3 := hb3.size))
            | (go_at_call 11; go_must (refine (lineP [[119, 105, 100, 101, 110, 32], joinT (p.widen.map numD), [59]] w3.heap.size 3 0 _ W.heap.size (w1.heap.size + 1) [] (P3.alloc _) (by simp; omega) (Whl.newAt rfl _ _) (by have := HWW.out; rw [List.length_nil]; omega) (by simp)).mono ?_; rintro e w4 ⟨rfl, P4, U4⟩)))
          go_meet
          exact ⟨by rw [HW.out]; exact P4, (N3.alloc _).turn U4 (by omega)⟩
  case rest =>
    obtain ⟨hP0, hM0⟩ := hcut
    obtain ⟨e0, e1⟩ := hM0.bm.c2
    have lp0 := hM0.bm.lt
    obtain ⟨hd, rows, each, _⟩ := HP.out.funcs.open_
    have HR := Lib.hid rows
    have HEA := Lib.hid each
    have hfl := HG.out.funcs
    have PP0 := Lib.hid hP0
    have MM0 := Lib.hid hM0
    clear rows each hP0 hM0 P2 M2 M1 r0 r1 r2 p0 p1 s0 s1 s2 lr lp
    go_wp2
    go_loopw [47] (fun i w' => ∃ k : Nat, k ≤ p.funcs.length ∧ i = .int .i64 k ∧ Prn w' W.heap.size (w1.heap.size + 1) (widT p.widen ++ fnTs (p.funcs.take k)) 0 ∧ CMem W p wa fa uc vc w') (fun i _ => p.funcs.length - (intOf i).toNat)
    case atStart => exact ⟨0, Nat.zero_le _, rfl, by simpa [fnTs] using PP0.out, MM0.out⟩
    case round =>
      obtain ⟨k, hk, rfl, hP, hM⟩ := hrel
      have HPk := Lib.hid hP
      have HMk := Lib.hid hM
      have lpk := hP.read.2.2.1
      clear hP hM e0 e1 lp0
      by_cases hlt : k < p.funcs.length
      · obtain ⟨b, off, rfl, c0, c1, c2⟩ := HR.out wr (HMk.out.below.mono hB) k hlt
        have HF := Lib.hid ((HEA.out k hlt).keep (HMk.out.below.mono hB) (Nat.le_refl _))
        have HGF := Lib.hid (HG.out.each k hlt)
        have HFW := Lib.hid (HEA.out k hlt)
        have HF0 : Hid (∀ w', Below W.heap.size W w' → RowsAt w' B (hd k).params.a (nthF p.funcs k).params.length 3 fun i => paV (nthP (nthF p.funcs k).params i)) := Lib.hid fun w' hw => (HEA.out k hlt).params.below (hw.mono hB) (Nat.le_refl _)
        have hsn := Lib.hid (fnTs_snoc hlt)
        have hct := Lib.hid (fnTs_cutG p.funcs (k + 1))
        have hcn := cnt_at hlt
        revert c0 c1 c2 HF HF0 HGF HFW hsn hcn
        generalize nthF p.funcs k = f
        generalize hd k = h
        intro c0 c1 c2 HF HGF HFW HF0 hsn hcn
        obtain ⟨wo, rfl⟩ : ∃ wo : World, wo = wr := ⟨_, rfl⟩
        obtain ⟨i0, hi, hz0, hz1, hz2⟩ := info_parts infoS
        have hpl := HF.out.plen
        have lo1 := HMk.out.below.size
        go_wp2
        go_loopw [11, 54] (fun v i w' => ∃ j : Nat, j ≤ f.params.length ∧ i = .int .i64 j ∧ OwnT w' (wo.heap.size + 1) v ((f.params.take j).map paT) ∧ Prn w' W.heap.size (w1.heap.size + 1) (widT p.widen ++ fnTs (p.funcs.take k)) 0 ∧ CMem W p wa (some ⟨b, off, none⟩) uc vc w' ∧ Whl w' wo.heap.size 44 (fnC f h) ∧ wo.heap.size + 1 ≤ w'.heap.size) (fun _ i _ => f.params.length - (intOf i).toNat)
        case atStart => exact ⟨0, Nat.zero_le _, rfl, OwnT.nil _ _, HPk.out.alloc _, HMk.out.alloc _, Whl.new _ _ _, by simp⟩
        case round =>
          obtain ⟨j, hj, rfl, hO, hP, hM, hX, hsz⟩ := hrel
          have hlen : ((f.params.take j).map paT).length = j := by rw [List.length_map, List.length_take]; omega
          have HO := Lib.hid hO
          have HPj := Lib.hid hP
          have HMj := Lib.hid hM
          have HXj := Lib.hid hX
          have HLN := Lib.hid hlen
          have lx := hX.lt
          clear hO hP hM hX hlen
          by_cases hlt2 : j < f.params.length
          · obtain ⟨pb, poff, hpa, d0, d1, d2⟩ := (HF0.out wr HMj.out.below).pa hlt2
            have hpn := HGF.out.pname j hlt2
            have hpl2 := HGF.out.pnum j hlt2
            have hsn2 : Hid ((f.params.take (j + 1)).map paT = (f.params.take j).map paT ++ [paT (nthP f.params j)]) := Lib.hid (by rw [take_snoc ⟨.empty, 0, 0⟩ hlt2, List.map_append]; rfl)
            have hg8 := HGF.out.few
            revert d0 d1 d2 hpn hpl2 hsn2
            generalize nthP f.params j = x
            intro d0 d1 d2 hpn hpl2 hsn2
            have n0 := numD_len hpl2.1
            have n1 := numD_len hpl2.2
            have HL1 := Lib.hid hpl2.1
            have HL2 := Lib.hid hpl2.2
            have y0 : ¬ 9223372036854775807 < x.name.size + 4 := by omega
            have y1 : ¬ 9223372036854775807 < x.name.size + 4 + (numD x.lo).length := by omega
            have y2 : ¬ 9223372036854775807 < x.name.size + 4 + (numD x.lo).length + 2 := by omega
            have y3 : ¬ 9223372036854775807 < x.name.size + 4 + (numD x.lo).length + 2 + (numD x.hi).length := by omega
            clear hpl2
            rw [hpa]
            go_upto_region 20 with fail
            go_region_held3 (fun w' => w'.cell? ⟨wr.heap.size, 0, none⟩ = some (.string x.name) ∧ w'.cell? ⟨wr.heap.size, 1, none⟩ = some (.int .i64 x.lo) ∧ w'.cell? ⟨wr.heap.size, 2, none⟩ = some (.int .i64 x.hi))
              (first | exact keep3 (by assumption) (by assumption) | (go_simp; done) | exact ⟨((Z4.alloc _).grown hgrow (OwnT.keep O4 Z4 (by decide))).cell 0, ((Z4.alloc _).grown hgrow (OwnT.keep O4 Z4 (by decide))).cell 1, ((Z4.alloc _).grown hgrow (OwnT.keep O4 Z4 (by decide))).cell 2⟩)
              (first
                | (go_at_call 10; refine (numberP x.lo _ HL1.out (HT.out.step (below_alloc HMj.out.below _).drew)).mono ?_; rintro e w3 ⟨rfl, hb3⟩)
                | (go_at_call 10; refine (numberP x.hi _ HL2.out (HT.out.step (below_step (below_alloc HMj.out.below _).drew hb3))).mono ?_; rintro e w4 ⟨rfl, hb4⟩; have Z4 : Whl w4 wr.heap.size 37 #[.string x.name, .int .i64 x.lo, .int .i64 x.hi] := ((Whl.new wr 37 #[.string x.name, .int .i64 x.lo, .int .i64 x.hi]).drew.below' hb3).below' hb4; have O4 : OwnT w4 (wo.heap.size + 1) u11 ((f.params.take j).map paT) := OwnT.below (OwnT.below (OwnT.drew (World.ownsRow.alloc HO.out (.cells #[.string x.name, .int .i64 x.lo, .int .i64 x.hi] 37))) hb3) hb4; have l4 := Z4.lt)
                | (have _g4 := hb4; refine step_append_lies _ (by rfl) (.tmp 58) (.tmp 71) 55 (by rfl) (wo.heap.size + 1) 9 i0 (.string ⟨#[]⟩) 1 16 Tryz.underlying55 hi hz0 hz1 hz2 rfl (by decide) _ _ _ (by rfl) (O4.alloc _) ⟨w4.heap.size, 0, none⟩ 1 1 [_] (by rfl) rfl (cell_one_new _ _ _) (by simp [Value.oneCell']) (by decide) (by have := HLN.out; unfold maxLen; omega) (by have := HLN.out; omega) (by simp; omega) _ rfl ?_; intro gg cap w5 hown hgrow hat hlt5))
            go_wp2
            go_roundw
            case rel =>
              have hb5 : Below wr.heap.size wr w4 := below_step (below_step (below_alloc (Below.refl _ _) _).drew hb3) hb4
              have X4 := HXj.out.below' hb5
              have hs5 : wo.heap.size + 1 ≤ w5.heap.size := by have := hgrow.size; rw [World.size_alloc] at this; have := X4.lt; omega
              rw [paS] at hown hgrow
              have hw := OwnT.snoc hown
              rw [HLN.out] at hw
              exact ⟨j + 1, by omega, by go_num, by rw [hsn2.out]; exact hw, ((HPj.out.go hb5).alloc _).row (O4.alloc _) hgrow, ((HMj.out.go hb5).alloc _).row (O4.alloc _) (by omega) hgrow, (X4.alloc _).grown hgrow (OwnT.keep O4 X4 (by decide)), hs5⟩
            case measure => simp [intOf]; omega
          · obtain rfl : j = f.params.length := by omega
            have hO := HO.out
            rw [List.take_length] at hO
            obtain ⟨A, cp, rfl, hcp, hst⟩ := hO.slice
            have hst' : StrsAt' wr.drew A (f.params.map paT) := hst
            have hpt := prT_len HG.out
            have hsum := pasT_len HGF.out
            have hjl := joinT_len (f.params.map paT)
            have hg8 := HGF.out.few
            have hcn2 := HG.out.cnt
            have HLP : Hid (Calls Tryz.prog 12 #[.slice A f.params.length cp] wr.drew fun e w' => e = .returned (strV (joinT (f.params.map paT))) ∧ Below wr.drew.heap.size wr.drew w') := Lib.hid (by have := listP A cp (f.params.map paT) wr.drew hst' hcp (by have : (f.params.map paT).length = f.params.length := List.length_map _; omega) (by have : (f.params.map paT).length = f.params.length := List.length_map _; omega); rwa [List.length_map] at this)
            have hfn := Lib.hid (show fnT f = lineT 0 ([[102, 110, 32], bytesOf' f.name, [40], joinT (f.params.map paT), [41, 32, 123]] : List (List UInt8)).flatten ++ (stTs f.body 1 ++ lineT 0 ([[125]] : List (List UInt8)).flatten) by simp [fnT])
            have hlen : (widT p.widen ++ fnTs (p.funcs.take k)).length + (fnT f).length ≤ 5000000 := by
              have e1 := congrArg List.length hct.out
              have e2 := congrArg List.length hsn.out
              rw [prT] at hpt
              rw [List.length_append] at hpt e1 e2 ⊢
              omega
            rw [hfn.out] at hlen
            simp only [List.length_append] at hlen
            have LN1 := Lib.hid (show (widT p.widen ++ fnTs (p.funcs.take k)).length + (lineT 0 ([[102, 110, 32], bytesOf' f.name, [40], joinT (f.params.map paT), [41, 32, 123]] : List (List UInt8)).flatten).length ≤ 70368744177664 by simp only [List.length_append]; omega)
            have LN2 := Lib.hid (show ((widT p.widen ++ fnTs (p.funcs.take k)) ++ lineT 0 ([[102, 110, 32], bytesOf' f.name, [40], joinT (f.params.map paT), [41, 32, 123]] : List (List UInt8)).flatten).length + (stTs f.body 1).length ≤ 1099511627776 by simp only [List.length_append]; omega)
            have LN3 := Lib.hid (show (((widT p.widen ++ fnTs (p.funcs.take k)) ++ lineT 0 ([[102, 110, 32], bytesOf' f.name, [40], joinT (f.params.map paT), [41, 32, 123]] : List (List UInt8)).flatten) ++ stTs f.body 1).length + (lineT 0 ([[125]] : List (List UInt8)).flatten).length ≤ 70368744177664 by simp only [List.length_append]; omega)
            have he := Lib.hid (show widT p.widen ++ fnTs (p.funcs.take (k + 1)) = (((widT p.widen ++ fnTs (p.funcs.take k)) ++ lineT 0 ([[102, 110, 32], bytesOf' f.name, [40], joinT (f.params.map paT), [41, 32, 123]] : List (List UInt8)).flatten) ++ stTs f.body 1) ++ lineT 0 ([[125]] : List (List UInt8)).flatten by rw [hsn.out, hfn.out]; simp only [List.append_assoc])
            have hcf : cntSs f.body ≤ 4096 := by omega
            have x0 : wr.cell? ⟨wo.heap.size, 0, none⟩ = some (.string f.name) := HXj.out.cell 0
            clear hO hst hst' hpt hsum hjl hlen hcn hcn2
            go_upto_region 22 with fail
            go_region_held3 (fun w' => w'.cell? ⟨wo.heap.size, 0, none⟩ = some (.string f.name))
              (first | exact x0 | exact X4.cell 0 | exact (X3.alloc _).cell 0 | exact X3.cell 0)
              (first
                | (go_at_call 12; refine HLP.out.mono ?_; rintro e w3 ⟨rfl, hb3⟩; have l3 := hb3.size; have X3 : Whl w3 wo.heap.size 44 (fnC f h) := HXj.out.drew.below' hb3; have P3 := Prn.go HPj.out (Below.trans ((Below.refl _ _).drew) hb3); have N3 := CMem.go HMj.out (Below.trans ((Below.refl _ _).drew) hb3))
                | (go_at_call 11; refine (lineP ([[102, 110, 32], bytesOf' f.name, [40], joinT (f.params.map paT), [41, 32, 123]] : List (List UInt8)) w3.heap.size 5 0 _ W.heap.size (w1.heap.size + 1) _ (P3.alloc _) (by have := N3.below.size; simp; omega) (Whl.newAt rfl _ _) LN1.out (by simp)).mono ?_; rintro e w4 ⟨rfl, P4, U4⟩; have X4 := U4.keep _ _ _ (by omega) (by decide) (X3.alloc _); have N4 := (N3.alloc _).turn U4 (by omega)))
            obtain ⟨z0, z1, z2⟩ := X4.c3
            have lx4 := X4.lt
            have tk1 := Lib.hid trivial
            go_wp2_with (first
              | (go_at_call 13; go_must (refine (bodyP f.body h.body.a h.body.c W.heap.size (w1.heap.size + 1) _ _ HGF.out.body (((HFW.out.keep N4.below hB).more hB).body) hcf P4 N4.below.size ⟨HT.out.step N4.below, HT.out.lt⟩ LN2.out).mono ?_; rintro e w5 ⟨rfl, P5, U5⟩; have N5 := N4.turn U5 (by omega); have l5 := N5.below.size))
              | (go_at_call 11; go_must (refine (lineP ([[125]] : List (List UInt8)) w5.heap.size 1 0 _ W.heap.size (w1.heap.size + 1) _ (P5.alloc _) (by simp; omega) (Whl.newAt rfl _ _) LN3.out (by simp)).mono ?_; rintro e w6 ⟨rfl, P6, U6⟩; have N6 := (N5.alloc _).turn U6 (by omega))))
            go_roundw
            case rel => exact ⟨k + 1, by omega, by go_num, by rw [he.out]; exact P6, N6⟩
            case measure => simp [intOf]; omega
      · obtain rfl : k = p.funcs.length := by omega
        have PE : Prn wr W.heap.size (w1.heap.size + 1) (prT p) 0 := by have := HPk.out; rwa [List.take_length] at this
        obtain ⟨r0, r1, r2⟩ := HMk.out.br.c3
        have s0 := HMk.out.br.frozen 0
        have s1 := HMk.out.br.frozen 1
        have s2 := HMk.out.br.frozen 2
        have lr := HMk.out.br.lt
        have HPE := Lib.hid PE
        clear PE
        have hchk : Hid ((checkD p).e = 0) := Lib.hid (by simpa using hc')
        have hpl := prT_len HG.out
        clear hc'
        by_cases hbig : 65536 < (prT p).length
        · have h6 : decide ((65536 : Int) < ((prT p).length : Int)) = true := by simp; omega
          have HE := Lib.hid (show printD p = ([], ⟨4, 0, 0⟩) by rw [printD, if_neg (by have := hchk.out; omega), if_pos hbig])
          generalize hpt : (prT p).length = pt at *
          have HPT := Lib.hid hpt
          clear hpt hbig
          go_wp2_with (go_at_call 14; go_must (refine (lenP _ W.heap.size (w1.heap.size + 1) (prT p) 0 HPE.out).mono ?_; rintro e w5 ⟨rfl, rfl⟩; rw [HPT.out]))
          all_goals (try simp only [Exit.inBlock, Exit.then])
          refine ret_of ?_ rfl
          simp [results, Tryz.results5, go_sem, HE.out, r0, r1, r2, s0, s1, s2, lr]
          go_light
          exact (by repeat (first | exact HMk.out.below | exact Below.refl _ _ | with_reducible apply below_alloc | with_reducible refine Below.drew ?_ | with_reducible refine Below.setCell ?_ (by dsimp only; omega) _))
        · have h6 : decide ((65536 : Int) < ((prT p).length : Int)) = false := by simp; omega
          have HE := Lib.hid (show printD p = (prT p, ⟨0, 0, 0⟩) by rw [printD, if_neg (by have := hchk.out; omega), if_neg hbig])
          generalize hpt : (prT p).length = pt at *
          have HPT := Lib.hid hpt
          clear hpt hbig
          go_wp2_with (first
            | (go_at_call 14; go_must (refine (lenP _ W.heap.size (w1.heap.size + 1) (prT p) 0 HPE.out).mono ?_; rintro e w5 ⟨rfl, rfl⟩; rw [HPT.out]))
            | (go_at_call 15; go_must (refine (stringP _ W.heap.size (w1.heap.size + 1) (prT p) 0 HPE.out).mono ?_; rintro e w5 ⟨rfl, U5⟩; have M5 := HMk.out.turn U5 (by omega); obtain ⟨t0, t1, t2⟩ := M5.br.c3; have u0 := M5.br.frozen 0; have u1 := M5.br.frozen 1; have u2 := M5.br.frozen 2; have lr5 := M5.br.lt)))
          all_goals (try simp only [Exit.inBlock, Exit.then])
          refine ret_of ?_ rfl
          simp [results, Tryz.results5, go_sem, HE.out, t0, t1, t2, u0, u1, u2, lr5]
          go_light
          exact (by repeat (first | exact M5.below | exact Below.refl _ _ | with_reducible apply below_alloc | with_reducible refine Below.drew ?_ | with_reducible refine Below.setCell ?_ (by dsimp only; omega) _))
/-- Print. -/
theorem printP (p : PrD) (wa fa : Option Addr) (uc vc B : Nat) (W : World) (hB : B ≤ W.heap.size) (hp : PrOk W B p wa fa) (ht : Pow10 W) :
    Calls Tryz.prog 5 #[prV p wa fa uc vc] W fun e w' => e = .returned (.tuple #[strV (printD p).1, faultV (printD p).2]) ∧ Below W.heap.size W w' := by
  cases hc : ((checkD p).e == 0)
  · exact walk_bad p wa fa uc vc B W hB hp hc
  · exact walk_ok p wa fa uc vc B W hB hp ht hc
end Go.Proofs.YtdddppmfeoebgaaGreatDoor
