/-
  Layer 2 (tree): the walk of TreeKeeps.
-/
import Derived.Test.YtdddppmfeoebgaaDoorAwakeA
import Derived.Test.YtdddppmfeoebgaaDoorCopyW
import Derived.Test.YtdddppmfeoebgaaDoorSameRW
import Derived.Test.YtdddppmfeoebgaaDoorSpoilW
import Derived.Deep.CutBlock
import Derived.Laws.StructEq
namespace Go.Proofs.YtdddppmfeoebgaaDoor
open Go.RowKit
set_option linter.unusedSimpArgs false
set_option linter.unusedVariables false
set_option maxRecDepth 100000 in
set_option maxHeartbeats 8000000 in
theorem keepsL (p : PrD) (wa fa : Option Addr) (uc vc : Nat) (w : World) (hp : PrOk w w.heap.size p wa fa) (ht : Pow10 w) :
    Calls Tryd.prog 9 #[prV p wa fa uc vc] w fun e w' => e = .returned (.bool true) ∧ Below w.heap.size w w' := by
  have X0 := Whl.new w 26 (prC p wa fa uc vc)
  have K0 := below_alloc (Below.refl w.heap.size w) (.cells (prC p wa fa uc vc) 26)
  have HP := Lib.hid hp
  have HT := Lib.hid ht
  have HA := Lib.hid (awakeL _ (ht.step K0))
  clear hp ht
  obtain ⟨x0, x1⟩ := X0.c2
  have hck : ∀ W a b u v, PrOk W W.heap.size p a b → Calls Tryd.prog 12 #[prV p a b u v] W fun e W' => e = .returned (faultV (checkD p)) ∧ Below W.heap.size W W' := fun W a b u v h => checkP p a b u v _ W (Nat.le_refl _) h
  have hpt : ∀ W a b u v, PrOk W W.heap.size p a b → Pow10 W → Calls Tryd.prog 20 #[prV p a b u v] W fun e W' => e = .returned (.tuple #[strV (printD p).1, faultV (printD p).2]) ∧ Below W.heap.size W W' := fun W a b u v h h2 => printP p a b u v _ W (Nat.le_refl _) h h2
  have hnd : ∀ W a b u v, PrOk W W.heap.size p a b → Calls Tryd.prog 14 #[prV p a b u v] W fun e W' => e = .returned (.int .i64 (nodesD p)) ∧ Below W.heap.size W W' := fun W a b u v h => nodesP p a b u v _ W (Nat.le_refl _) h
  have hsm : ∀ W a b u v a2 b2 u2 v2, PrOk W W.heap.size p a b → PrOk W W.heap.size p a2 b2 → Calls Tryd.prog 18 #[prV p a b u v, prV p a2 b2 u2 v2] W fun e W' => e = .returned (.bool true) ∧ Below W.heap.size W W' := fun W a b u v a2 b2 u2 v2 h h2 => by
    have := sameCall p p a b a2 b2 u v u2 v2 _ W (Nat.le_refl _) h h2
    rwa [sameP_self] at this
  have hsr : ∀ W a b u v a2 b2 u2 v2, PrOk W W.heap.size p a b → PrOk W W.heap.size p a2 b2 → Calls Tryd.prog 17 #[prV p a b u v, prV p a2 b2 u2 v2] W fun e W' => e = .returned (.bool true) ∧ Below W.heap.size W W' := fun W a b u v a2 b2 u2 v2 h h2 => by
    have := sameRef p p a b a2 b2 u v u2 v2 _ W (Nat.le_refl _) h h2
    rwa [sameP_self] at this
  revert hck hpt hnd
  generalize checkD p = C
  generalize (printD p).1 = S
  generalize (printD p).2 = F
  generalize nodesD p = n
  intro hck hpt hnd
  have HCK := Lib.hid hck
  have HPT := Lib.hid hpt
  have HND := Lib.hid hnd
  have HSM := Lib.hid hsm
  have HSR := Lib.hid hsr
  clear hck hpt hnd hsm hsr
  go_enter Tryd.func9, Tryd.ntmps9
  (try simp only [List.append_eq, List.cons_append, List.nil_append])
  go_upto_region 3 with (go_at_call 11; go_must (refine HA.out.mono ?_; rintro e w1 ⟨rfl, hb1⟩; have X1 := X0.below' hb1; have K1 := below_step K0 hb1; clear x0 x1; obtain ⟨x0, x1⟩ := X1.c2; have lx1 := X1.lt))
  go_upto_if 14 with (go_at_call 16; go_must (refine (bigR p wa fa uc vc w1.heap.size w1 (Nat.le_refl _) (HP.out.step K1)).mono ?_; rintro e w2 ⟨b1, rfl, hb2⟩; have X2 := X1.below' hb2; have K2 := below_step K1 hb2; clear x0 x1; obtain ⟨x0, x1⟩ := X2.c2; have lx2 := X2.lt))
  cases b1
  · go_upto_region 6 with (go_at_call 19; go_must (refine (copyR p wa fa uc vc w2.heap.size w2 (Nat.le_refl _) (HP.out.step K2)).mono ?_; rintro e w3 ⟨gw, gf, gp, gb, lb, hb, rfl, own, hb3⟩; have OW3 := own; have X3 := X2.below' hb3; have K3 := below_step K2 hb3; clear x0 x1; obtain ⟨x0, x1⟩ := X3.c2; have lx3 := X3.lt))
    have hlow := own.low
    have hgl := own.lt
    have hgf := own.frow.lt
    have hinto : ∀ j, j < p.funcs.length → hb j ≤ w3.heap.size := fun j hj => (own.into j hj).2.2
    have HIN := Lib.hid hinto
    have hs2 := K2.size
    have hs3 := hb3.size
    clear own hinto X0 X1 X2 K0 K1 hb1 hb2 hb3 HA
    obtain ⟨B, hB⟩ : ∃ B, B = w3.heap.size := ⟨_, rfl⟩
    rw [← hB] at HIN hgf
    have hB1 : B ≤ w3.heap.size := Nat.le_of_eq hB
    have O4 := Whl.new w3 26 (prC p (some ⟨gw, 0, none⟩) (some ⟨gf, 0, none⟩) (p.widen.length + 1) (p.funcs.length + 1))
    have X4 := X3.alloc (.cells (prC p (some ⟨gw, 0, none⟩) (some ⟨gf, 0, none⟩) (p.widen.length + 1) (p.funcs.length + 1)) 26)
    have K4 := below_alloc K3 (.cells (prC p (some ⟨gw, 0, none⟩) (some ⟨gf, 0, none⟩) (p.widen.length + 1) (p.funcs.length + 1)) 26)
    have OW4 := OW3.below (below_alloc (Below.refl _ _) (.cells (prC p (some ⟨gw, 0, none⟩) (some ⟨gf, 0, none⟩) (p.widen.length + 1) (p.funcs.length + 1)) 26))
    generalize w3.alloc (.cells (prC p (some ⟨gw, 0, none⟩) (some ⟨gf, 0, none⟩) (p.widen.length + 1) (p.funcs.length + 1)) 26) = v4 at X4 O4 K4 OW4 ⊢
    clear x0 x1; obtain ⟨x0, x1⟩ := X4.c2; have lx4 := X4.lt
    obtain ⟨o0, o1⟩ := O4.c2; have lo4 := O4.lt
    obtain ⟨ob, hob⟩ : ∃ ob, ob = w3.heap.size := ⟨_, rfl⟩
    rw [← hob] at O4 o0 o1 lo4 ⊢
    have hobB : B ≤ ob := by omega
    clear hB hob X3 K3 OW3
    have hbv := K4.size
    have hBv : B ≤ v4.heap.size := by omega
    go_upto_region 7 with (go_at_call 12; go_must (refine (HCK.out v4 _ _ _ _ (OW4.ok HP.out)).mono ?_; rintro e w5 ⟨rfl, hb5⟩; have X5 := X4.below' hb5; have O5 := O4.below' hb5; have K5 := below_step K4 hb5; have OW5 := OW4.below hb5; clear x0 x1; obtain ⟨x0, x1⟩ := X5.c2; have lx5 := X5.lt; clear o0 o1; obtain ⟨o0, o1⟩ := O5.c2; have lo5 := O5.lt))
    have hs5 := hb5.size
    have F6 := Whl.new w5 29 (#[.int .i64 C.e, .int .i64 (C.fn : Int), .int .i64 (C.at_ : Int)])
    have X6 := X5.alloc (.cells (#[.int .i64 C.e, .int .i64 (C.fn : Int), .int .i64 (C.at_ : Int)]) 29)
    have O6 := O5.alloc (.cells (#[.int .i64 C.e, .int .i64 (C.fn : Int), .int .i64 (C.at_ : Int)]) 29)
    have K6 := below_alloc K5 (.cells (#[.int .i64 C.e, .int .i64 (C.fn : Int), .int .i64 (C.at_ : Int)]) 29)
    have OW6 := OW5.below (below_alloc (Below.refl _ _) (.cells (#[.int .i64 C.e, .int .i64 (C.fn : Int), .int .i64 (C.at_ : Int)]) 29))
    generalize w5.alloc (.cells (#[.int .i64 C.e, .int .i64 (C.fn : Int), .int .i64 (C.at_ : Int)]) 29) = v6 at X6 O6 F6 K6 OW6 ⊢
    clear x0 x1; obtain ⟨x0, x1⟩ := X6.c2; have lx6 := X6.lt
    clear o0 o1; obtain ⟨o0, o1⟩ := O6.c2; have lo6 := O6.lt
    obtain ⟨f0, f1, f2⟩ := F6.c3; have lf6 := F6.lt
    obtain ⟨fb, hfb⟩ : ∃ fb, fb = w5.heap.size := ⟨_, rfl⟩
    rw [← hfb] at F6 f0 f1 f2 lf6 ⊢
    have hfbB : ob < fb := by omega
    clear hfb X4 X5 K4 K5 O4 O5 OW4 OW5 hb5 hs5
    go_upto_region 8 with (go_at_call 20; go_must (refine (HPT.out v6 _ _ _ _ (OW6.ok HP.out) (HT.out.step K6)).mono ?_; rintro e w7 ⟨rfl, hb7⟩; have X7 := X6.below' hb7; have O7 := O6.below' hb7; have F7 := F6.below' hb7; have K7 := below_step K6 hb7; have OW7 := OW6.below hb7; clear x0 x1; obtain ⟨x0, x1⟩ := X7.c2; have lx7 := X7.lt; clear o0 o1; obtain ⟨o0, o1⟩ := O7.c2; have lo7 := O7.lt; clear f0 f1 f2; obtain ⟨f0, f1, f2⟩ := F7.c3; have lf7 := F7.lt))
    have hs7 := hb7.size
    have G8 := Whl.new w7 29 (#[.int .i64 F.e, .int .i64 (F.fn : Int), .int .i64 (F.at_ : Int)])
    have X8 := X7.alloc (.cells (#[.int .i64 F.e, .int .i64 (F.fn : Int), .int .i64 (F.at_ : Int)]) 29)
    have O8 := O7.alloc (.cells (#[.int .i64 F.e, .int .i64 (F.fn : Int), .int .i64 (F.at_ : Int)]) 29)
    have F8 := F7.alloc (.cells (#[.int .i64 F.e, .int .i64 (F.fn : Int), .int .i64 (F.at_ : Int)]) 29)
    have K8 := below_alloc K7 (.cells (#[.int .i64 F.e, .int .i64 (F.fn : Int), .int .i64 (F.at_ : Int)]) 29)
    have OW8 := OW7.below (below_alloc (Below.refl _ _) (.cells (#[.int .i64 F.e, .int .i64 (F.fn : Int), .int .i64 (F.at_ : Int)]) 29))
    generalize w7.alloc (.cells (#[.int .i64 F.e, .int .i64 (F.fn : Int), .int .i64 (F.at_ : Int)]) 29) = v8 at X8 O8 F8 G8 K8 OW8 ⊢
    clear x0 x1; obtain ⟨x0, x1⟩ := X8.c2; have lx8 := X8.lt
    clear o0 o1; obtain ⟨o0, o1⟩ := O8.c2; have lo8 := O8.lt
    clear f0 f1 f2; obtain ⟨f0, f1, f2⟩ := F8.c3; have lf8 := F8.lt
    obtain ⟨g0, g1, g2⟩ := G8.c3; have lg8 := G8.lt
    obtain ⟨gbx, hgbx⟩ : ∃ gbx, gbx = w7.heap.size := ⟨_, rfl⟩
    rw [← hgbx] at G8 g0 g1 g2 lg8 ⊢
    have hgbB : fb < gbx := by omega
    clear hgbx X6 X7 K6 K7 O6 O7 F6 F7 OW6 OW7 hb7 hs7
    go_upto_region 9 with (go_at_call 14; go_must (refine (HND.out v8 _ _ _ _ (OW8.ok HP.out)).mono ?_; rintro e w9 ⟨rfl, hb9⟩; have X9 := X8.below' hb9; have O9 := O8.below' hb9; have F9 := F8.below' hb9; have G9 := G8.below' hb9; have K9 := below_step K8 hb9; have OW9 := OW8.below hb9; clear x0 x1; obtain ⟨x0, x1⟩ := X9.c2; have lx9 := X9.lt; clear o0 o1; obtain ⟨o0, o1⟩ := O9.c2; have lo9 := O9.lt; clear f0 f1 f2; obtain ⟨f0, f1, f2⟩ := F9.c3; have lf9 := F9.lt; clear g0 g1 g2; obtain ⟨g0, g1, g2⟩ := G9.c3; have lg9 := G9.lt))
    clear X8 O8 F8 G8 K8 OW8 hb9
    go_upto_region 10 with (go_at_call 18; go_must (refine (HSM.out w9 _ _ _ _ _ _ _ _ (OW9.ok HP.out) (HP.out.step K9)).mono ?_; rintro e w10 ⟨rfl, hb10⟩; have X10 := X9.below' hb10; have O10 := O9.below' hb10; have F10 := F9.below' hb10; have G10 := G9.below' hb10; have K10 := below_step K9 hb10; have OW10 := OW9.below hb10; clear x0 x1; obtain ⟨x0, x1⟩ := X10.c2; have lx10 := X10.lt; clear o0 o1; obtain ⟨o0, o1⟩ := O10.c2; have lo10 := O10.lt; clear f0 f1 f2; obtain ⟨f0, f1, f2⟩ := F10.c3; have lf10 := F10.lt; clear g0 g1 g2; obtain ⟨g0, g1, g2⟩ := G10.c3; have lg10 := G10.lt))
    clear X9 O9 F9 G9 K9 OW9 hb10
    go_upto_region 12 with (first | (go_at_call 17; go_must (refine (HSR.out w10 _ _ _ _ _ _ _ _ (OW10.ok HP.out) (HP.out.step K10)).mono ?_; rintro e w11 ⟨rfl, hb11⟩; have X11 := X10.below' hb11; have O11 := O10.below' hb11; have F11 := F10.below' hb11; have G11 := G10.below' hb11; have K11 := below_step K10 hb11; have OW11 := OW10.below hb11; clear x0 x1; obtain ⟨x0, x1⟩ := X11.c2; have lx11 := X11.lt; clear o0 o1; obtain ⟨o0, o1⟩ := O11.c2; have lo11 := O11.lt; clear f0 f1 f2; obtain ⟨f0, f1, f2⟩ := F11.c3; have lf11 := F11.lt; clear g0 g1 g2; obtain ⟨g0, g1, g2⟩ := G11.c3; have lg11 := G11.lt)) | (go_at_call 22; go_must (refine (roomR p w w.heap.size wa fa _ gw gf gp gb lb hb w11 HP.out OW11).mono ?_; rintro e w12 ⟨rfl, hb12⟩; have X12 := X11.below' hb12; have O12 := O11.below' hb12; have F12 := F11.below' hb12; have G12 := G11.below' hb12; have K12 := below_step K11 hb12; have OW12 := OW11.below hb12; clear x0 x1; obtain ⟨x0, x1⟩ := X12.c2; have lx12 := X12.lt; clear o0 o1; obtain ⟨o0, o1⟩ := O12.c2; have lo12 := O12.lt; clear f0 f1 f2; obtain ⟨f0, f1, f2⟩ := F12.c3; have lf12 := F12.lt; clear g0 g1 g2; obtain ⟨g0, g1, g2⟩ := G12.c3; have lg12 := G12.lt)))
    clear X10 O10 F10 G10 K10 OW10 hb11 X11 O11 F11 G11 K11 OW11 hb12
    have hB12 : B ≤ w12.heap.size := by omega
    go_upto_region 13 with (go_at_call 23; go_must (refine (spoilR p w w.heap.size wa fa _ B gw gf gp gb lb hb w12 HP.out OW12 hgf HIN.out hB12).mono ?_; rintro e w13 ⟨rfl, hm⟩; have X13 := hm.whl X12 (by omega); have O13 := hm.whl O12 (by omega); have F13 := hm.whl F12 (by omega); have G13 := hm.whl G12 (by omega); have K13 := hm.step K12 (fun b _ hb => by omega); clear x0 x1; obtain ⟨x0, x1⟩ := X13.c2; have lx13 := X13.lt; clear o0 o1; obtain ⟨o0, o1⟩ := O13.c2; have lo13 := O13.lt; clear f0 f1 f2; obtain ⟨f0, f1, f2⟩ := F13.c3; have lf13 := F13.lt; clear g0 g1 g2; obtain ⟨g0, g1, g2⟩ := G13.c3; have lg13 := G13.lt))
    clear X12 O12 F12 G12 K12 OW12 hm
    go_upto_region 14 with (go_at_call 20; go_must (refine (HPT.out w13 _ _ _ _ (HP.out.step K13) (HT.out.step K13)).mono ?_; rintro e w14 ⟨rfl, hb14⟩; have X14 := X13.below' hb14; have O14 := O13.below' hb14; have F14 := F13.below' hb14; have G14 := G13.below' hb14; have K14 := below_step K13 hb14; clear x0 x1; obtain ⟨x0, x1⟩ := X14.c2; have lx14 := X14.lt; clear o0 o1; obtain ⟨o0, o1⟩ := O14.c2; have lo14 := O14.lt; clear f0 f1 f2; obtain ⟨f0, f1, f2⟩ := F14.c3; have lf14 := F14.lt; clear g0 g1 g2; obtain ⟨g0, g1, g2⟩ := G14.c3; have lg14 := G14.lt))
    have hs14 := hb14.size
    have H15 := Whl.new w14 29 (#[.int .i64 F.e, .int .i64 (F.fn : Int), .int .i64 (F.at_ : Int)])
    have X15 := X14.alloc (.cells (#[.int .i64 F.e, .int .i64 (F.fn : Int), .int .i64 (F.at_ : Int)]) 29)
    have F15 := F14.alloc (.cells (#[.int .i64 F.e, .int .i64 (F.fn : Int), .int .i64 (F.at_ : Int)]) 29)
    have G15 := G14.alloc (.cells (#[.int .i64 F.e, .int .i64 (F.fn : Int), .int .i64 (F.at_ : Int)]) 29)
    have K15 := below_alloc K14 (.cells (#[.int .i64 F.e, .int .i64 (F.fn : Int), .int .i64 (F.at_ : Int)]) 29)
    generalize w14.alloc (.cells (#[.int .i64 F.e, .int .i64 (F.fn : Int), .int .i64 (F.at_ : Int)]) 29) = v15 at H15 X15 F15 G15 K15 ⊢
    obtain ⟨h0, h1, h2⟩ := H15.c3
    have lh15 := H15.lt
    clear x0 x1 f0 f1 f2 g0 g1 g2
    obtain ⟨x0, x1⟩ := X15.c2
    obtain ⟨f0, f1, f2⟩ := F15.c3
    obtain ⟨g0, g1, g2⟩ := G15.c3
    have lf15 := F15.lt
    have lg15 := G15.lt
    have lx15 := X15.lt
    obtain ⟨hx, hhx⟩ : ∃ hx, hx = w14.heap.size := ⟨_, rfl⟩
    rw [← hhx] at H15 h0 h1 h2 lh15 ⊢
    clear hhx X14 X13 O13 O14 F13 F14 G13 G14 K13 K14 hb14 hs14 o0 o1
    go_region_held3 (fun w' => w'.cell? ⟨w.heap.size, 0, none⟩ = some (.slice wa p.widen.length uc) ∧ w'.cell? ⟨w.heap.size, 1, none⟩ = some (.slice fa p.funcs.length vc) ∧ w'.cell? ⟨fb, 0, none⟩ = some (.int .i64 C.e) ∧ w'.cell? ⟨fb, 1, none⟩ = some (.int .i64 (C.fn : Int)) ∧ w'.cell? ⟨fb, 2, none⟩ = some (.int .i64 (C.at_ : Int)) ∧ w'.cell? ⟨gbx, 0, none⟩ = some (.int .i64 F.e) ∧ w'.cell? ⟨gbx, 1, none⟩ = some (.int .i64 (F.fn : Int)) ∧ w'.cell? ⟨gbx, 2, none⟩ = some (.int .i64 (F.at_ : Int)) ∧ w'.cell? ⟨hx, 0, none⟩ = some (.int .i64 F.e) ∧ w'.cell? ⟨hx, 1, none⟩ = some (.int .i64 (F.fn : Int)) ∧ w'.cell? ⟨hx, 2, none⟩ = some (.int .i64 (F.at_ : Int)))
      (first | exact ⟨X17.cell 0, X17.cell 1, F17.cell 0, F17.cell 1, F17.cell 2, G17.cell 0, G17.cell 1, G17.cell 2, H17.cell 0, H17.cell 1, H17.cell 2⟩ | exact ⟨X16.cell 0, X16.cell 1, F16.cell 0, F16.cell 1, F16.cell 2, G16.cell 0, G16.cell 1, G16.cell 2, H16.cell 0, H16.cell 1, H16.cell 2⟩ | exact ⟨X15.cell 0, X15.cell 1, F15.cell 0, F15.cell 1, F15.cell 2, G15.cell 0, G15.cell 1, G15.cell 2, H15.cell 0, H15.cell 1, H15.cell 2⟩ | (go_simp; done))
      (first
        | (go_at_call 12; refine (HCK.out v15.drew _ _ _ _ (HP.out.step K15.drew)).mono ?_; rintro e w16 ⟨rfl, hb16⟩; have X16 := X15.drew.below' hb16; have F16 := F15.drew.below' hb16; have G16 := G15.drew.below' hb16; have H16 := H15.drew.below' hb16; have K16 := below_step K15.drew hb16)
        | (go_at_call 14; refine (HND.out w16 _ _ _ _ (HP.out.step K16)).mono ?_; rintro e w17 ⟨rfl, hb17⟩; have X17 := X16.below' hb17; have F17 := F16.below' hb17; have G17 := G16.below' hb17; have H17 := H16.below' hb17; have K17 := below_step K16 hb17))
    go_wp2
    go_ret
    exact ⟨rfl, K17⟩
  · go_wp2
    go_ret
    exact ⟨rfl, K2⟩
end Go.Proofs.YtdddppmfeoebgaaDoor
