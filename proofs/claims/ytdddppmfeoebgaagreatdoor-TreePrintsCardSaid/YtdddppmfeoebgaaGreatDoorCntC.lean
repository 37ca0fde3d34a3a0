/-
  Layer 2 (tree): the walk of the counter's stmts.
-/
import Derived.Test.YtdddppmfeoebgaaGreatDoorCntB
namespace Go.Proofs.YtdddppmfeoebgaaGreatDoor
open Go.RowKit
set_option linter.unusedSimpArgs false
set_option linter.unusedVariables false
def cntAB (x : StD) : Nat → Nat
  | 0 => 0
  | 1 => cntZ x.a
  | _ => cntZ x.a + cntZ x.b
theorem cntZ_yes {x : ExD} (h : zeroE x = true) : cntZ x = 0 := by rw [cntZ, if_pos h]
theorem cntZ_no {x : ExD} (h : zeroE x = false) : cntZ x = cntE x := by rw [cntZ, h]; rfl
set_option maxRecDepth 100000 in
set_option maxHeartbeats 8000000 in
theorem cstmtsN (N : Nat) : ∀ (l : List StD) (A : Option Addr) (c n0 B g : Nat) (z : Int) (w : World), SizeOf.sizeOf l < N → StsAt w B A l → B ≤ g → n0 ≤ 4097 → z = (n0 : Int) → Whl w g 72 #[.int .i64 z] →
    Calls Tryz.prog 24 #[.pointer (some ⟨g, 0, none⟩), .slice A l.length c] w fun e w' => e = .returned (.tuple #[]) ∧ Whl w' g 72 #[.int .i64 ((min (n0 + cntSs l) 4097 : Nat) : Int)] ∧ Turn B g w w' := by
  induction N with
  | zero => intro l A c n0 B g z w hN; omega
  | succ N ih =>
    intro l A c n0 B g z w hN hA hB hn hz hg
    subst hz
    have IH := Lib.hid ih
    clear ih
    obtain ⟨hd, hc, rows, kids, len⟩ := hA.open_
    have HR := Lib.hid rows
    have HK := Lib.hid kids
    clear rows kids hA
    have hBw : B ≤ w.heap.size := by have := hg.lt; omega
    go_enter Tryz.func24, Tryz.ntmps24
    go_wp2
    go_loopw [12] (fun i W => ∃ k m : Nat, k ≤ l.length ∧ i = .int .i64 k ∧ Hid (min (n0 + cntSs (l.take k)) 4097 = m) ∧ Whl W g 72 #[.int .i64 (m : Int)] ∧ Turn B g w W) (fun i _ => l.length - (intOf i).toNat)
    case atStart => exact ⟨0, n0, Nat.zero_le _, rfl, Lib.hid (by simp [cntSs, Nat.min_eq_left hn]), hg, Turn.refl _ _ _⟩
    case round =>
      obtain ⟨k, m, hk, rfl, HQ, hgk, hgr⟩ := hrel
      have lg := hg.lt
      have l1 := hgr.size
      obtain ⟨wo, rfl⟩ : ∃ wo : World, wo = wr := ⟨_, rfl⟩
      have f0 : wo.cell? ⟨g, 0, none⟩ = some (.int .i64 (m : Int)) := hgk.cell 0
      have z0 : wo.frozen? ⟨g, 0, none⟩ = false := hgk.frozen 0
      have lk := hgk.lt
      by_cases hlt : k < l.length
      · have hsn := Lib.hid (cntSs_snoc hlt)
        have hce := Lib.hid (cntS_eq (nthS l k))
        have hin := Lib.hid ((HK.out k hlt).turn hgr)
        have hsz : SizeOf.sizeOf (nthS l k) < SizeOf.sizeOf l := getD_size _ hlt
        have hsb := body_size (nthS l k)
        have hse := els_size (nthS l k)
        have hsc := cases_size (nthS l k)
        have hm : m ≤ 4097 := by have := HQ.out; omega
        obtain ⟨b, off, rfl, c0, c1, c2, c3, c4, c5, c6, c7, c8, c9, c10, c11, c12, c13⟩ := HR.out g wo hgr k hlt
        generalize hx : nthS l k = x at *
        have HX := Lib.hid hx
        clear hx
        generalize hd k = h at *
        generalize hc k = q at *
        rcases Nat.lt_or_ge 4096 m with h6 | h6
        · have hd6 : decide ((4096 : Int) < (m : Int)) = true := by simp; omega
          have he : min (n0 + cntSs l) 4097 = m := by have := cntSs_cut l k; have := HQ.out; omega
          go_wp2_with (go_at_call 44; refine (fullP (m : Int) g _ (hgk.alloc _)).mono ?_; rintro e w' ⟨rfl, rfl⟩)
          refine ret_of ?_ rfl
          refine ⟨_, by simp [results, Tryz.results24, go_sem], rfl, by rw [he]; exact hgk.alloc _, hgr.alloc hBw _⟩
        · have hd6 : decide ((4096 : Int) < (m : Int)) = false := by simp; omega
          go_wp2_with (go_at_call 44; refine (fullP (m : Int) g _ (hgk.alloc _)).mono ?_; rintro e w' ⟨rfl, rfl⟩)
          have hB2 : B ≤ wo.heap.size := by omega
          go_loopw [31] (fun i W => ∃ j m2 : Nat, j ≤ 2 ∧ i = .int .i64 j ∧ Hid (min (m + 1 + cntAB x j) 4097 = m2) ∧ Whl W g 72 #[.int .i64 (m2 : Int)] ∧ Whl W wo.heap.size 42 (stC x h) ∧
            Whl W (wo.heap.size + 1) 35 #[.int .i64 x.a.kind, .int .i64 x.a.n, .string x.a.name, .slice h.a.a x.a.args.length h.a.c, .int .i64 x.b.kind, .int .i64 x.b.n, .string x.b.name, .slice h.b.a x.b.args.length h.b.c] ∧ Turn B g wo W) (fun i _ => 2 - (intOf i).toNat)
          case atStart => exact ⟨0, m + 1, by omega, rfl, Lib.hid (by simp [cntAB]; omega), ((hgk.put 0 _).alloc _).alloc _, (Whl.newAt (by simp) _ _).alloc _, Whl.newAt (by simp) _ _, (((Turn.refl B g wo).put hB 0 _).alloc hB2 _).alloc hB2 _⟩
          case round =>
            obtain ⟨j, m2, hj, rfl, HQ2, hg2, hx2, hs2, ht2⟩ := hrel
            have l2 := ht2.size
            have lg2 := hg2.lt
            have lx2 := hx2.lt
            have ls2 := hs2.lt
            clear c0 c1 c2 c3 c4 c5 c6 c7 c8 c9 c10 c11 c12 c13 f0 z0
            rcases (by omega : j = 0 ∨ j = 1 ∨ j = 2) with rfl | rfl | rfl
            all_goals try obtain ⟨e0, e1, e2, e3, e4, e5, e6, e7⟩ := hs2.c8
            · cases hz0 : zeroE x.a
              · have hzz := Lib.hid (cntZ_no hz0)
                go_wp2_with (first | (go_at_call 45; go_must (refine (zeroP x.a h.a _ hin.out.wf.a.name).mono ?_; rintro e w1 ⟨rfl, hb1⟩; have hy1 := (Whl.new wr 35 (exC x.a h.a)).below' hb1; obtain ⟨y0, y1, y2, y3⟩ := hy1.c4; have hg3 := (hg2.alloc _).below' hb1; have hx3 := (hx2.alloc _).below' hb1; have hs3 := (hs2.alloc _).below' hb1; have ht3 := (ht2.alloc hB2 _).go hB2 hb1; have l3 := hb1.size; rw [World.size_alloc] at l3)) | (go_at_call 46; go_must (refine (exprs1 x.a h.a _ m2 B g 35 _ _ (Whl.newAt rfl _ _) (by omega) (by decide) ((hin.out.ea.turn ht3).keep (below_alloc (Below.refl _ _) _) (by omega)) hB (by have := HQ2.out; omega) rfl (hg3.alloc _)).mono ?_; rintro e w2 ⟨rfl, hg4, ht4⟩)))
                have ht5 := (ht3.alloc hB2 _).trans ht4
                go_roundw
                case rel => exact ⟨1, _, by omega, by go_num, Lib.hid (by have := HQ2.out; have := hzz.out; simp only [cntAB] at *; omega), hg4, ht4.keep _ _ _ (by omega) (by decide) (hx3.alloc _), ht4.keep _ _ _ (by omega) (by decide) (hs3.alloc _), ht5⟩
                case measure => simp [intOf]
              · have hzz := Lib.hid (cntZ_yes hz0)
                go_wp2_with (first | (go_at_call 45; go_must (refine (zeroP x.a h.a _ hin.out.wf.a.name).mono ?_; rintro e w1 ⟨rfl, hb1⟩; have hy1 := (Whl.new wr 35 (exC x.a h.a)).below' hb1; obtain ⟨y0, y1, y2, y3⟩ := hy1.c4; have hg3 := (hg2.alloc _).below' hb1; have hx3 := (hx2.alloc _).below' hb1; have hs3 := (hs2.alloc _).below' hb1; have ht3 := (ht2.alloc hB2 _).go hB2 hb1; have l3 := hb1.size; rw [World.size_alloc] at l3)))
                go_roundw
                case rel => exact ⟨1, _, by omega, by go_num, Lib.hid (by have := HQ2.out; have := hzz.out; simp only [cntAB] at *; omega), hg3, hx3, hs3, ht3⟩
                case measure => simp [intOf]
            · cases hz0 : zeroE x.b
              · have hzz := Lib.hid (cntZ_no hz0)
                go_wp2_with (first | (go_at_call 45; go_must (refine (zeroP x.b h.b _ hin.out.wf.b.name).mono ?_; rintro e w1 ⟨rfl, hb1⟩; have hy1 := (Whl.new wr 35 (exC x.b h.b)).below' hb1; obtain ⟨y0, y1, y2, y3⟩ := hy1.c4; have hg3 := (hg2.alloc _).below' hb1; have hx3 := (hx2.alloc _).below' hb1; have hs3 := (hs2.alloc _).below' hb1; have ht3 := (ht2.alloc hB2 _).go hB2 hb1; have l3 := hb1.size; rw [World.size_alloc] at l3)) | (go_at_call 46; go_must (refine (exprs1 x.b h.b _ m2 B g 35 _ _ (Whl.newAt rfl _ _) (by omega) (by decide) ((hin.out.eb.turn ht3).keep (below_alloc (Below.refl _ _) _) (by omega)) hB (by have := HQ2.out; omega) rfl (hg3.alloc _)).mono ?_; rintro e w2 ⟨rfl, hg4, ht4⟩)))
                have ht5 := (ht3.alloc hB2 _).trans ht4
                go_roundw
                case rel => exact ⟨2, _, by omega, by go_num, Lib.hid (by have := HQ2.out; have := hzz.out; simp only [cntAB] at *; omega), hg4, ht4.keep _ _ _ (by omega) (by decide) (hx3.alloc _), ht4.keep _ _ _ (by omega) (by decide) (hs3.alloc _), ht5⟩
                case measure => simp [intOf]
              · have hzz := Lib.hid (cntZ_yes hz0)
                go_wp2_with (first | (go_at_call 45; go_must (refine (zeroP x.b h.b _ hin.out.wf.b.name).mono ?_; rintro e w1 ⟨rfl, hb1⟩; have hy1 := (Whl.new wr 35 (exC x.b h.b)).below' hb1; obtain ⟨y0, y1, y2, y3⟩ := hy1.c4; have hg3 := (hg2.alloc _).below' hb1; have hx3 := (hx2.alloc _).below' hb1; have hs3 := (hs2.alloc _).below' hb1; have ht3 := (ht2.alloc hB2 _).go hB2 hb1; have l3 := hb1.size; rw [World.size_alloc] at l3)))
                go_roundw
                case rel => exact ⟨2, _, by omega, by go_num, Lib.hid (by have := HQ2.out; have := hzz.out; simp only [cntAB] at *; omega), hg3, hx3, hs3, ht3⟩
                case measure => simp [intOf]
            · obtain ⟨x0, x1, x2, x3, x4, x5, x6, x7, x8, x9, x10, x11, x12, x13⟩ := hx2.cSt
              clear e0 e1 e2 e3 e4 e5 e6 e7
              have f2 : wr.cell? ⟨g, 0, none⟩ = some (.int .i64 (m2 : Int)) := hg2.cell 0
              have z2 : wr.frozen? ⟨g, 0, none⟩ = false := hg2.frozen 0
              have hin2 := Lib.hid (hin.out.turn ht2)
              go_wp2_with (go_at_call 24; go_must (refine (IH.out _ _ _ m2 B g _ _ (by omega) hin2.out.body hB (by have := HQ2.out; omega) rfl hg2).mono ?_; rintro e w3 ⟨rfl, hg3, ht3⟩; have hx3 := ht3.keep _ _ _ (by omega) (by decide) hx2; obtain ⟨y0, y1, y2, y3, y4, y5, y6, y7, y8, y9, y10, y11, y12, y13⟩ := hx3.cSt))
              clear x0 x1 x2 x3 x4 x5 x6 x7 x8 x9 x10 x11 x12 x13 f2 z2 y0 y1 y2 y3 y4 y5 y6 y7 y8 y9 y10 y11 y12 y13
              have ht3 := ht2.trans ht3
              have l3 := ht3.size
              go_loopw [50] (fun i W => ∃ j m4 : Nat, j ≤ x.cases.length ∧ i = .int .i64 j ∧ Hid (min (m2 + cntSs x.body + cntCs (x.cases.take j)) 4097 = m4) ∧ Whl W g 72 #[.int .i64 (m4 : Int)] ∧ Whl W wo.heap.size 42 (stC x h) ∧ Turn B g wo W) (fun i _ => x.cases.length - (intOf i).toNat)
              case atStart => exact ⟨0, _, by omega, rfl, Lib.hid (by simp [cntCs]), hg3, hx3, ht3⟩
              case round =>
                obtain ⟨j, m4, hj, rfl, HQ4, hg4, hx4, ht4⟩ := hrel
                have l4 := ht4.size
                have lg4 := hg4.lt
                have lx4 := hx4.lt
                have f4 : wr.cell? ⟨g, 0, none⟩ = some (.int .i64 (m4 : Int)) := hg4.cell 0
                have z4 : wr.frozen? ⟨g, 0, none⟩ = false := hg4.frozen 0
                have hin4 := Lib.hid (hin.out.turn ht4)
                have hm4 : m4 ≤ 4097 := by have := HQ4.out; omega
                by_cases hlt4 : j < x.cases.length
                · have hsn4 := Lib.hid (cntCs_snoc hlt4)
                  have hce4 := Lib.hid (cntC_eq (nthC x.cases j))
                  have hsz4 : SizeOf.sizeOf (nthC x.cases j) < SizeOf.sizeOf x.cases := getD_size _ hlt4
                  have hsb4 := cbody_size (nthC x.cases j)
                  have hcl := hin4.out.clen
                  obtain ⟨cb, coff, hca, d0, d1⟩ := hin4.out.crow.ca hlt4
                  rw [hca]
                  rcases Nat.lt_or_ge 4096 m4 with h7 | h7
                  · have hd7 : decide ((4096 : Int) < (m4 : Int)) = true := by simp; omega
                    have he : min (n0 + cntSs l) 4097 = m4 := by
                      have := cntSs_cut l (k + 1); have := cntCs_cut x.cases j; have := HQ4.out; have := HQ2.out; have := HQ.out; have := hsn.out; have := hce.out; simp only [cntAB] at *; omega
                    go_wp2_with (go_at_call 44; refine (fullP (m4 : Int) g _ (hg4.alloc _)).mono ?_; rintro e w' ⟨rfl, rfl⟩)
                    refine ret_of ?_ rfl
                    refine ⟨_, by simp [results, Tryz.results24, go_sem], rfl, by rw [he]; exact hg4.alloc _, hgr.trans (ht4.alloc hB2 _)⟩
                  · have hd7 : decide ((4096 : Int) < (m4 : Int)) = false := by simp; omega
                    go_wp2_with (first | (go_at_call 44; refine (fullP (m4 : Int) g _ (hg4.alloc _)).mono ?_; rintro e w' ⟨rfl, rfl⟩) | (go_at_call 24; go_must (refine (IH.out _ _ _ (m4 + 1) B g _ _ (by omega) ((hin4.out.cbody j hlt4).turn (((Turn.refl B g _).put hB 0 _).alloc (by omega) _)) hB (by omega) (by omega) ((hg4.put 0 _).alloc _)).mono ?_; rintro e w5 ⟨rfl, hg5, ht5⟩)))
                    go_roundw
                    case rel => exact ⟨j + 1, _, by omega, by go_num, Lib.hid (by have := HQ4.out; have := hsn4.out; have := hce4.out; omega), hg5, ht5.keep _ _ _ (by omega) (by decide) ((hx4.far (by simp; omega) _).alloc _), ((ht4.put hB 0 _).alloc hB2 _).trans ht5⟩
                    case measure => simp [intOf]; omega
                · obtain rfl : j = x.cases.length := by omega
                  obtain ⟨x0, x1, x2, x3, x4, x5, x6, x7, x8, x9, x10, x11, x12, x13⟩ := hx4.cSt
                  go_wp2_with (go_at_call 24; go_must (refine (IH.out _ _ _ m4 B g _ _ (by omega) hin4.out.els hB hm4 rfl hg4).mono ?_; rintro e w5 ⟨rfl, hg5, ht5⟩))
                  go_roundw
                  case rel => exact ⟨k + 1, _, by omega, by go_num, Lib.hid (by have e4 := HQ4.out; rw [List.take_length] at e4; have := HQ2.out; have := HQ.out; have := hsn.out; have := hce.out; simp only [cntAB] at *; omega), hg5, hgr.trans (ht4.trans ht5)⟩
                  case measure => simp [intOf]; omega
      · obtain rfl : k = l.length := by omega
        have he := HQ.out
        rw [List.take_length] at he
        go_wp2
        refine end_of ?_ rfl
        exact ⟨_, by simp [results, Tryz.results24, go_sem], rfl, by rw [he]; exact hgk, hgr⟩
theorem cstmtsP (l : List StD) (A : Option Addr) (c n0 B g : Nat) (z : Int) (w : World) (h : StsAt w B A l) (hB : B ≤ g) (hn : n0 ≤ 4097) (hz : z = (n0 : Int)) (hg : Whl w g 72 #[.int .i64 z]) :
    Calls Tryz.prog 24 #[.pointer (some ⟨g, 0, none⟩), .slice A l.length c] w fun e w' => e = .returned (.tuple #[]) ∧ Whl w' g 72 #[.int .i64 ((min (n0 + cntSs l) 4097 : Nat) : Int)] ∧ Turn B g w w' :=
  cstmtsN _ l A c n0 B g z w (Nat.lt_succ_self _) h hB hn hz hg
end Go.Proofs.YtdddppmfeoebgaaGreatDoor
