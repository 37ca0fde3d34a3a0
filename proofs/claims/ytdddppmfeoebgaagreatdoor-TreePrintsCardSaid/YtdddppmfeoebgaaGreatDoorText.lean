/-
  Layer 2 (tree): the walk of text: an expression's text.
-/
import Derived.Test.YtdddppmfeoebgaaGreatDoorStrRow
import Derived.Test.YtdddppmfeoebgaaGreatDoorOwnA
import Derived.Deep.CutBlock
import Derived.Deep.DeepCutAuto
import Derived.BigQuiet
import Derived.Deep.QuietTactic
namespace Go.Proofs.YtdddppmfeoebgaaGreatDoor
open Go.RowKit Go.Sort
set_option linter.unusedSimpArgs false
set_option linter.unusedVariables false
theorem str_eq {S : ByteArray} {T : List UInt8} (h : S.data.toList = T) : Ending.returned (.string S) = .returned (strV T) := by subst h; rfl
theorem rankD_bd (k : Int) : 1 ≤ rankD k ∧ rankD k ≤ 9 := by
  unfold rankD
  repeat' split
  all_goals omega
theorem parT_no {k z : Int} {t : List UInt8} (h : ¬ rankD k < z) : parT (decide (rankD k < z)) t = t := by rw [decide_eq_false h]; rfl
theorem exT_1 {x : ExD} (h : x.kind = 1) : exT x = numD x.n := by rw [exT_eq, exT0, h]; rfl
theorem exT_2 {x : ExD} (h : x.kind = 2) : exT x = bytesOf' x.name := by rw [exT_eq, exT0, h]; rfl
theorem exT_3 {x : ExD} (h : x.kind = 3) (l : x.args.length = 1) : exT x = bytesOf' x.name ++ 91 :: (exT (nthE x.args 0) ++ [93]) := by rw [exT_eq, exT0, h, exTs_get (by omega)]; rfl
theorem exT_4 {x : ExD} (h : x.kind = 4) : exT x = bytesOf' x.name ++ 40 :: (joinT (exTs x.args) ++ [41]) := by rw [exT_eq, exT0, h]; rfl
theorem exT_5 {x : ExD} (h : x.kind = 5) (l : x.args.length = 1) : exT x = 45 :: parT (decide (rankD (nthE x.args 0).kind < rankD x.kind)) (exT (nthE x.args 0)) := by
  rw [exT_eq, exT0, h, argT, exTs_get (by omega)]; rfl
theorem exT_6 {x : ExD} (h : x.kind = 6) (l : x.args.length = 1) : exT x = 33 :: parT (decide (rankD (nthE x.args 0).kind < rankD x.kind)) (exT (nthE x.args 0)) := by
  rw [exT_eq, exT0, h]; simp only [argT]; rw [exTs_get (by omega)]; rfl
theorem exT_20 {x : ExD} (h : x.kind = 20) (l : x.args.length = 3) : exT x = parT (decide (rankD (nthE x.args 0).kind < rankD x.kind + 1)) (exT (nthE x.args 0)) ++ 32 :: 63 :: 32 :: (parT (decide (rankD (nthE x.args 1).kind < rankD x.kind)) (exT (nthE x.args 1)) ++ 32 :: 58 :: 32 :: parT (decide (rankD (nthE x.args 2).kind < rankD x.kind)) (exT (nthE x.args 2))) := by
  have h1 := rankD_bd (nthE x.args 1).kind
  have h2 := rankD_bd (nthE x.args 2).kind
  have e : rankD x.kind = 1 := by rw [h]; rfl
  rw [parT_no (k := (nthE x.args 1).kind) (by omega), parT_no (k := (nthE x.args 2).kind) (by omega), exT_eq, exT0]
  simp only [argT]
  rw [exTs_get (k := 0) (by omega), exTs_get (k := 1) (by omega), exTs_get (k := 2) (by omega), h]; rfl
theorem exT_bin {x : ExD} (h : 7 ≤ x.kind ∧ x.kind ≤ 19) (l : x.args.length = 2) : exT x = parT (decide (rankD (nthE x.args 0).kind < rankD x.kind)) (exT (nthE x.args 0)) ++ 32 :: (signT x.kind ++ 32 :: parT (decide (rankD (nthE x.args 1).kind < rankD x.kind + 1)) (exT (nthE x.args 1))) := by
  rw [exT_eq, exT0]
  simp only [argT]
  rw [exTs_get (k := 0) (by omega), exTs_get (k := 1) (by omega)]
  rw [show (x.kind == 1) = false by simp; omega, show (x.kind == 2) = false by simp; omega, show (x.kind == 3) = false by simp; omega, show (x.kind == 4) = false by simp; omega, show (x.kind == 5) = false by simp; omega, show (x.kind == 6) = false by simp; omega, show (x.kind == 20) = false by simp; omega]
  rfl
theorem str_app (a b : List UInt8) : (⟨a.toArray⟩ : ByteArray) ++ ⟨b.toArray⟩ = ⟨(a ++ b).toArray⟩ := by
  apply ByteArray.ext; simp [ByteArray.data_append]
def TextAt (N : Nat) : Prop := ∀ (x : ExD) (h : Hd) (z : Int) (B : Nat) (w : World), SizeOf.sizeOf x < N → GoodE x → ExsAt w B h.a x.args → B ≤ w.heap.size → cntE x ≤ 4096 → 0 ≤ z → z ≤ 10 → Pow10 w →
    Calls Tryz.prog 57 #[exG x h, .int .i64 z] w fun e w' => e = .returned (strV (parT (decide (rankD x.kind < z)) (exT x))) ∧ Below w.heap.size w w'
/-- A call of text in a world of the class. -/
theorem TextAt.re {N : Nat} (H : TextAt N) {x : ExD} {h : Hd} {z : Int} {B : Nat} {w : World} (hs : SizeOf.sizeOf x < N) (g : GoodE x) (hk : ExsAt w B h.a x.args) (hB : B ≤ w.heap.size) (hc : cntE x ≤ 4096) (h0 : 0 ≤ z) (h1 : z ≤ 10) (ht : Pow10 w) (d : Nat) (os : Array Obj) :
    Calls Tryz.prog 57 #[exG x h, .int .i64 z] (grow (redrawn w d) os) fun e w'' => e = .returned (strV (parT (decide (rankD x.kind < z)) (exT x))) ∧ ∃ p : Regrown, w'' = grow (redrawn w p.d) p.os :=
  Calls.regrown_of (H x h z B _ hs g (hk.keep (below_regrown w d os) hB) (Nat.le_trans hB (below_regrown w d os).size) hc h0 h1 (ht.step (below_regrown w d os)))
set_option maxRecDepth 100000 in
set_option maxHeartbeats 4000000 in
theorem text_1 (N : Nat) (H : TextAt N) (x : ExD) (hk : x.kind = 1) (h : Hd) (z : Int) (B : Nat) (w : World) (hs : SizeOf.sizeOf x < N + 1) (g : GoodE x) (hx : ExsAt w B h.a x.args) (hB : B ≤ w.heap.size) (hc : cntE x ≤ 4096) (hz : ¬ rankD x.kind < z) (ht : Pow10 w) :
    Calls Tryz.prog 57 #[exG x h, .int .i64 z] w fun e w' => e = .returned (strV (exT x)) ∧ Below w.heap.size w w' := by
  have hz' : decide (rankD x.kind < z) = false := decide_eq_false hz
  have hr := rankD_bd x.kind
  have hn0 := g.n0
  have hn1 := g.n1
  have hnm := g.name
  have IH := Lib.hid H
  have HG := Lib.hid g
  have HX := Lib.hid hx
  have HT := Lib.hid ht
  have HE := Lib.hid (exT_eq x)
  clear H g hx ht hz
  have b1 : (x.kind == 1) = true := by rw [hk]; rfl
  have HK := Lib.hid hk
  clear hk
  go_enter Tryz.func57, Tryz.ntmps57
  go_wp2_with (first | (go_at_call 80; (with_reducible refine (rankP x.kind _).mono ?_); rintro e w' ⟨rfl, rfl⟩) | (go_at_call 10; go_must ((refine (numberP x.n _ ⟨by omega, hn1⟩ (HT.out.step ((Below.refl _ _).alloc (Nat.le_refl _) _))).mono ?_; rintro e w1 ⟨rfl, hb1⟩))))
  go_ret
  refine ⟨?_, below_step ((Below.refl _ _).alloc (Nat.le_refl _) _) hb1⟩
  rw [HE.out, exT0, HK.out]; rfl
set_option maxRecDepth 100000 in
set_option maxHeartbeats 4000000 in
theorem text_2 (N : Nat) (H : TextAt N) (x : ExD) (hk : x.kind = 2) (h : Hd) (z : Int) (B : Nat) (w : World) (hs : SizeOf.sizeOf x < N + 1) (g : GoodE x) (hx : ExsAt w B h.a x.args) (hB : B ≤ w.heap.size) (hc : cntE x ≤ 4096) (hz : ¬ rankD x.kind < z) (ht : Pow10 w) :
    Calls Tryz.prog 57 #[exG x h, .int .i64 z] w fun e w' => e = .returned (strV (exT x)) ∧ Below w.heap.size w w' := by
  have hz' : decide (rankD x.kind < z) = false := decide_eq_false hz
  have hr := rankD_bd x.kind
  have hn0 := g.n0
  have hn1 := g.n1
  have hnm := g.name
  have IH := Lib.hid H
  have HG := Lib.hid g
  have HX := Lib.hid hx
  have HT := Lib.hid ht
  have HE := Lib.hid (exT_eq x)
  clear H g hx ht hz
  have b1 : (x.kind == 1) = false := by simp only [beq_eq_false_iff_ne]; omega
  have b2 : (x.kind == 2) = true := by rw [hk]; rfl
  have HK := Lib.hid hk
  clear hk
  go_enter Tryz.func57, Tryz.ntmps57
  go_wp2_with (go_at_call 80; (with_reducible refine (rankP x.kind _).mono ?_); rintro e w' ⟨rfl, rfl⟩)
  go_ret
  refine ⟨?_, (Below.refl _ _).alloc (Nat.le_refl _) _⟩
  rw [HE.out, exT0, HK.out]; rfl
set_option maxRecDepth 100000 in
set_option maxHeartbeats 4000000 in
theorem text_5 (N : Nat) (H : TextAt N) (x : ExD) (hk : x.kind = 5) (h : Hd) (z : Int) (B : Nat) (w : World) (hs : SizeOf.sizeOf x < N + 1) (g : GoodE x) (hx : ExsAt w B h.a x.args) (hB : B ≤ w.heap.size) (hc : cntE x ≤ 4096) (hz : ¬ rankD x.kind < z) (ht : Pow10 w) :
    Calls Tryz.prog 57 #[exG x h, .int .i64 z] w fun e w' => e = .returned (strV (exT x)) ∧ Below w.heap.size w w' := by
  have hz' : decide (rankD x.kind < z) = false := decide_eq_false hz
  have hr := rankD_bd x.kind
  have hn0 := g.n0
  have hn1 := g.n1
  have hnm := g.name
  have IH := Lib.hid H
  have HG := Lib.hid g
  have HX := Lib.hid hx
  have HT := Lib.hid ht
  have HE := Lib.hid (exT_eq x)
  clear H g hx ht hz
  have b1 : (x.kind == 1) = false := by simp only [beq_eq_false_iff_ne]; omega
  have b2 : (x.kind == 2) = false := by simp only [beq_eq_false_iff_ne]; omega
  have b3 : (x.kind == 3) = false := by simp only [beq_eq_false_iff_ne]; omega
  have b4 : (x.kind == 4) = false := by simp only [beq_eq_false_iff_ne]; omega
  have b5 : (x.kind == 5) = true := by rw [hk]; rfl
  have HK := Lib.hid hk
  clear hk
  have hl : x.args.length = 1 := by have := args_of HG.out.form; rw [HK.out] at this; have := this.1; simp [arD] at this; omega
  obtain ⟨hd, rows, kids, hcap, wfs⟩ := HX.out.open_ 0
  have hsx := args_size x
  have hcx := cntE_eq x
  obtain ⟨b, off, hb, e00, e01, e02, e03⟩ := rows w (Turn.refl _ _ _) 0 (by omega)
  rw [Nat.zero_mul, Nat.add_zero] at e00 e01 e02 e03
  have lb : b < w.heap.size := World.block_lt_of_cell? w _ e00
  have S0 : SizeOf.sizeOf (nthE x.args 0) < N := by have : SizeOf.sizeOf (nthE x.args 0) < SizeOf.sizeOf x.args := getD_size _ (by omega); omega
  have G0 := Lib.hid (HG.out.kids 0 (by omega))
  have K0 := Lib.hid (kids 0 (by omega))
  have C0 : cntE (nthE x.args 0) ≤ 4096 := by have := cnt_mem (l := x.args) (k := 0) (by omega); omega
  have L0 : (exT (nthE x.args 0)).length ≤ 300000 := by have := good_len (HG.out.kids 0 (by omega)); omega
  have T0 := Lib.hid (exTs_get (l := x.args) (k := 0) (by omega))
  have HL := Lib.hid hl
  clear hsx hcx rows kids wfs
  have P0 := parT_len (decide (rankD (nthE x.args 0).kind < rankD x.kind)) (exT (nthE x.args 0))
  go_enter Tryz.func57, Tryz.ntmps57
  go_wp2_with (first | (go_at_call 80; (with_reducible refine (rankP x.kind _).mono ?_); rintro e w' ⟨rfl, rfl⟩) | (go_at_call 57; go_must ((refine (IH.out (nthE x.args 0) (hd 0) _ B _ S0 G0.out (K0.out.keep ((Below.refl _ _).alloc (Nat.le_refl _) _) hB) (by simp; omega) C0 (by omega) (by omega) (HT.out.step ((Below.refl _ _).alloc (Nat.le_refl _) _))).mono ?_; rintro e w1 ⟨rfl, hb1⟩))))
  go_ret
  refine ⟨str_eq ?_, below_step ((Below.refl _ _).alloc (Nat.le_refl _) _) hb1⟩
  rw [exT_5 HK.out HL.out]
  simp [ByteArray.data_append]
set_option maxRecDepth 100000 in
set_option maxHeartbeats 4000000 in
theorem text_6 (N : Nat) (H : TextAt N) (x : ExD) (hk : x.kind = 6) (h : Hd) (z : Int) (B : Nat) (w : World) (hs : SizeOf.sizeOf x < N + 1) (g : GoodE x) (hx : ExsAt w B h.a x.args) (hB : B ≤ w.heap.size) (hc : cntE x ≤ 4096) (hz : ¬ rankD x.kind < z) (ht : Pow10 w) :
    Calls Tryz.prog 57 #[exG x h, .int .i64 z] w fun e w' => e = .returned (strV (exT x)) ∧ Below w.heap.size w w' := by
  have hz' : decide (rankD x.kind < z) = false := decide_eq_false hz
  have hr := rankD_bd x.kind
  have hn0 := g.n0
  have hn1 := g.n1
  have hnm := g.name
  have IH := Lib.hid H
  have HG := Lib.hid g
  have HX := Lib.hid hx
  have HT := Lib.hid ht
  have HE := Lib.hid (exT_eq x)
  clear H g hx ht hz
  have b1 : (x.kind == 1) = false := by simp only [beq_eq_false_iff_ne]; omega
  have b2 : (x.kind == 2) = false := by simp only [beq_eq_false_iff_ne]; omega
  have b3 : (x.kind == 3) = false := by simp only [beq_eq_false_iff_ne]; omega
  have b4 : (x.kind == 4) = false := by simp only [beq_eq_false_iff_ne]; omega
  have b5 : (x.kind == 5) = false := by simp only [beq_eq_false_iff_ne]; omega
  have b6 : (x.kind == 6) = true := by rw [hk]; rfl
  have HK := Lib.hid hk
  clear hk
  have hl : x.args.length = 1 := by have := args_of HG.out.form; rw [HK.out] at this; have := this.1; simp [arD] at this; omega
  obtain ⟨hd, rows, kids, hcap, wfs⟩ := HX.out.open_ 0
  have hsx := args_size x
  have hcx := cntE_eq x
  obtain ⟨b, off, hb, e00, e01, e02, e03⟩ := rows w (Turn.refl _ _ _) 0 (by omega)
  rw [Nat.zero_mul, Nat.add_zero] at e00 e01 e02 e03
  have lb : b < w.heap.size := World.block_lt_of_cell? w _ e00
  have S0 : SizeOf.sizeOf (nthE x.args 0) < N := by have : SizeOf.sizeOf (nthE x.args 0) < SizeOf.sizeOf x.args := getD_size _ (by omega); omega
  have G0 := Lib.hid (HG.out.kids 0 (by omega))
  have K0 := Lib.hid (kids 0 (by omega))
  have C0 : cntE (nthE x.args 0) ≤ 4096 := by have := cnt_mem (l := x.args) (k := 0) (by omega); omega
  have L0 : (exT (nthE x.args 0)).length ≤ 300000 := by have := good_len (HG.out.kids 0 (by omega)); omega
  have T0 := Lib.hid (exTs_get (l := x.args) (k := 0) (by omega))
  have HL := Lib.hid hl
  clear hsx hcx rows kids wfs
  have P0 := parT_len (decide (rankD (nthE x.args 0).kind < rankD x.kind)) (exT (nthE x.args 0))
  go_enter Tryz.func57, Tryz.ntmps57
  go_wp2_with (first | (go_at_call 80; (with_reducible refine (rankP x.kind _).mono ?_); rintro e w' ⟨rfl, rfl⟩) | (go_at_call 57; go_must ((refine (IH.out (nthE x.args 0) (hd 0) _ B _ S0 G0.out (K0.out.keep ((Below.refl _ _).alloc (Nat.le_refl _) _) hB) (by simp; omega) C0 (by omega) (by omega) (HT.out.step ((Below.refl _ _).alloc (Nat.le_refl _) _))).mono ?_; rintro e w1 ⟨rfl, hb1⟩))))
  go_ret
  refine ⟨str_eq ?_, below_step ((Below.refl _ _).alloc (Nat.le_refl _) _) hb1⟩
  rw [exT_6 HK.out HL.out]
  simp [ByteArray.data_append]
set_option maxRecDepth 100000 in
set_option maxHeartbeats 4000000 in
theorem text_3 (N : Nat) (H : TextAt N) (x : ExD) (hk : x.kind = 3) (h : Hd) (z : Int) (B : Nat) (w : World) (hs : SizeOf.sizeOf x < N + 1) (g : GoodE x) (hx : ExsAt w B h.a x.args) (hB : B ≤ w.heap.size) (hc : cntE x ≤ 4096) (hz : ¬ rankD x.kind < z) (ht : Pow10 w) :
    Calls Tryz.prog 57 #[exG x h, .int .i64 z] w fun e w' => e = .returned (strV (exT x)) ∧ Below w.heap.size w w' := by
  have hz' : decide (rankD x.kind < z) = false := decide_eq_false hz
  have hr := rankD_bd x.kind
  have hn0 := g.n0
  have hn1 := g.n1
  have hnm := g.name
  have IH := Lib.hid H
  have HG := Lib.hid g
  have HX := Lib.hid hx
  have HT := Lib.hid ht
  have HE := Lib.hid (exT_eq x)
  clear H g hx ht hz
  have b1 : (x.kind == 1) = false := by simp only [beq_eq_false_iff_ne]; omega
  have b2 : (x.kind == 2) = false := by simp only [beq_eq_false_iff_ne]; omega
  have b3 : (x.kind == 3) = true := by rw [hk]; rfl
  have HK := Lib.hid hk
  clear hk
  have hl : x.args.length = 1 := by have := args_of HG.out.form; rw [HK.out] at this; have := this.1; simp [arD] at this; omega
  obtain ⟨hd, rows, kids, hcap, wfs⟩ := HX.out.open_ 0
  have hsx := args_size x
  have hcx := cntE_eq x
  obtain ⟨b, off, hb, e00, e01, e02, e03⟩ := rows w (Turn.refl _ _ _) 0 (by omega)
  rw [Nat.zero_mul, Nat.add_zero] at e00 e01 e02 e03
  have lb : b < w.heap.size := World.block_lt_of_cell? w _ e00
  have S0 : SizeOf.sizeOf (nthE x.args 0) < N := by have : SizeOf.sizeOf (nthE x.args 0) < SizeOf.sizeOf x.args := getD_size _ (by omega); omega
  have G0 := Lib.hid (HG.out.kids 0 (by omega))
  have K0 := Lib.hid (kids 0 (by omega))
  have C0 : cntE (nthE x.args 0) ≤ 4096 := by have := cnt_mem (l := x.args) (k := 0) (by omega); omega
  have L0 : (exT (nthE x.args 0)).length ≤ 300000 := by have := good_len (HG.out.kids 0 (by omega)); omega
  have T0 := Lib.hid (exTs_get (l := x.args) (k := 0) (by omega))
  have HL := Lib.hid hl
  clear hsx hcx rows kids wfs
  have P0 := parT_len (decide (rankD (nthE x.args 0).kind < 0)) (exT (nthE x.args 0))
  have W0 : Whl (w.alloc (.cells (exC x h) 35)) w.heap.size 35 (exC x h) := Whl.new _ _ _
  obtain ⟨d0, d1, d2, d3⟩ := W0.c4
  have k2 := cell_regrown d2
  have k3 := cell_regrown d3
  have m00 : (w.alloc (.cells (exC x h) 35)).cell? ⟨b, off, none⟩ = _ := ((((Below.refl _ _).alloc (Nat.le_refl _) _ : Below w.heap.size w (w.alloc (.cells (exC x h) 35))).cell (p := ⟨b, off, none⟩) lb).trans e00)
  have q00 := cell_regrown m00
  have m01 : (w.alloc (.cells (exC x h) 35)).cell? ⟨b, off + 1, none⟩ = _ := ((((Below.refl _ _).alloc (Nat.le_refl _) _ : Below w.heap.size w (w.alloc (.cells (exC x h) 35))).cell (p := ⟨b, off + 1, none⟩) lb).trans e01)
  have q01 := cell_regrown m01
  have m02 : (w.alloc (.cells (exC x h) 35)).cell? ⟨b, off + 2, none⟩ = _ := ((((Below.refl _ _).alloc (Nat.le_refl _) _ : Below w.heap.size w (w.alloc (.cells (exC x h) 35))).cell (p := ⟨b, off + 2, none⟩) lb).trans e02)
  have q02 := cell_regrown m02
  have m03 : (w.alloc (.cells (exC x h) 35)).cell? ⟨b, off + 3, none⟩ = _ := ((((Below.refl _ _).alloc (Nat.le_refl _) _ : Below w.heap.size w (w.alloc (.cells (exC x h) 35))).cell (p := ⟨b, off + 3, none⟩) lb).trans e03)
  have q03 := cell_regrown m03
  have J0 := IH.out.re (w := (w.alloc (.cells (exC x h) 35))) (z := 0) (h := hd 0) S0 G0.out (K0.out.keep ((Below.refl _ _).alloc (Nat.le_refl _) _) hB) (by simp; omega) C0 (by omega) (by omega) (HT.out.step ((Below.refl _ _).alloc (Nat.le_refl _) _))
  go_enter Tryz.func57, Tryz.ntmps57
  go_upto_region 10 with (go_at_call 80; (with_reducible refine (rankP x.kind _).mono ?_); rintro e w' ⟨rfl, rfl⟩)
  refine wp_region_quiet_below (by kernel_rfl) (by kernel_rfl) ?_
  have y0 : ¬ 9223372036854775807 < x.name.size + 1 := by omega
  have y1 : ¬ 9223372036854775807 < x.name.size + 1 + (parT (decide (rankD (nthE x.args 0).kind < 0)) (exT (nthE x.args 0))).length := by omega
  have y2 : ¬ 9223372036854775807 < x.name.size + 1 + (parT (decide (rankD (nthE x.args 0).kind < 0)) (exT (nthE x.args 0))).length + 1 := by omega
  repeat (first | quiet_step (first | with_reducible exact J0 _ _) | go_big_quiet_step (first | with_reducible exact J0 _ _))
  refine wpQuiet_nil ?_
  intro _ hw'
  obtain ⟨⟨dq, osq⟩, hw''⟩ := hw'
  subst hw''
  go_wp2
  go_ret
  refine ⟨str_eq ?_, below_step ((Below.refl _ _).alloc (Nat.le_refl _) _) (below_regrown _ dq osq)⟩
  rw [exT_3 HK.out HL.out]
  have hr0 := rankD_bd (nthE x.args 0).kind
  rw [parT_no (by omega)]
  simp [ByteArray.data_append, bytesOf']
set_option maxRecDepth 100000 in
set_option maxHeartbeats 4000000 in
theorem text_20 (N : Nat) (H : TextAt N) (x : ExD) (hk : x.kind = 20) (h : Hd) (z : Int) (B : Nat) (w : World) (hs : SizeOf.sizeOf x < N + 1) (g : GoodE x) (hx : ExsAt w B h.a x.args) (hB : B ≤ w.heap.size) (hc : cntE x ≤ 4096) (hz : ¬ rankD x.kind < z) (ht : Pow10 w) :
    Calls Tryz.prog 57 #[exG x h, .int .i64 z] w fun e w' => e = .returned (strV (exT x)) ∧ Below w.heap.size w w' := by
  have hz' : decide (rankD x.kind < z) = false := decide_eq_false hz
  have hr := rankD_bd x.kind
  have hn0 := g.n0
  have hn1 := g.n1
  have hnm := g.name
  have IH := Lib.hid H
  have HG := Lib.hid g
  have HX := Lib.hid hx
  have HT := Lib.hid ht
  have HE := Lib.hid (exT_eq x)
  clear H g hx ht hz
  have b1 : (x.kind == 1) = false := by simp only [beq_eq_false_iff_ne]; omega
  have b2 : (x.kind == 2) = false := by simp only [beq_eq_false_iff_ne]; omega
  have b3 : (x.kind == 3) = false := by simp only [beq_eq_false_iff_ne]; omega
  have b4 : (x.kind == 4) = false := by simp only [beq_eq_false_iff_ne]; omega
  have b5 : (x.kind == 5) = false := by simp only [beq_eq_false_iff_ne]; omega
  have b6 : (x.kind == 6) = false := by simp only [beq_eq_false_iff_ne]; omega
  have b20 : (x.kind == 20) = true := by rw [hk]; rfl
  have HK := Lib.hid hk
  clear hk
  have hl : x.args.length = 3 := by have := args_of HG.out.form; rw [HK.out] at this; have := this.1; simp [arD] at this; omega
  obtain ⟨hd, rows, kids, hcap, wfs⟩ := HX.out.open_ 0
  have hsx := args_size x
  have hcx := cntE_eq x
  obtain ⟨b, off, hb, e00, e01, e02, e03⟩ := rows w (Turn.refl _ _ _) 0 (by omega)
  have e1 : w.cell? ⟨b, off + 1 * 4, none⟩ = some (.int .i64 (nthE x.args 1).kind) ∧ w.cell? ⟨b, off + 1 * 4 + 1, none⟩ = some (.int .i64 (nthE x.args 1).n) ∧ w.cell? ⟨b, off + 1 * 4 + 2, none⟩ = some (.string (nthE x.args 1).name) ∧ w.cell? ⟨b, off + 1 * 4 + 3, none⟩ = some (.slice (hd 1).a (nthE x.args 1).args.length (hd 1).c) := by
    obtain ⟨b', off', hb', q0, q1, q2, q3⟩ := rows w (Turn.refl _ _ _) 1 (by omega)
    rw [hb] at hb'; cases hb'; exact ⟨q0, q1, q2, q3⟩
  obtain ⟨e10, e11, e12, e13⟩ := e1
  have e2 : w.cell? ⟨b, off + 2 * 4, none⟩ = some (.int .i64 (nthE x.args 2).kind) ∧ w.cell? ⟨b, off + 2 * 4 + 1, none⟩ = some (.int .i64 (nthE x.args 2).n) ∧ w.cell? ⟨b, off + 2 * 4 + 2, none⟩ = some (.string (nthE x.args 2).name) ∧ w.cell? ⟨b, off + 2 * 4 + 3, none⟩ = some (.slice (hd 2).a (nthE x.args 2).args.length (hd 2).c) := by
    obtain ⟨b', off', hb', q0, q1, q2, q3⟩ := rows w (Turn.refl _ _ _) 2 (by omega)
    rw [hb] at hb'; cases hb'; exact ⟨q0, q1, q2, q3⟩
  obtain ⟨e20, e21, e22, e23⟩ := e2
  rw [Nat.zero_mul, Nat.add_zero] at e00 e01 e02 e03
  have lb : b < w.heap.size := World.block_lt_of_cell? w _ e00
  have S0 : SizeOf.sizeOf (nthE x.args 0) < N := by have : SizeOf.sizeOf (nthE x.args 0) < SizeOf.sizeOf x.args := getD_size _ (by omega); omega
  have G0 := Lib.hid (HG.out.kids 0 (by omega))
  have K0 := Lib.hid (kids 0 (by omega))
  have C0 : cntE (nthE x.args 0) ≤ 4096 := by have := cnt_mem (l := x.args) (k := 0) (by omega); omega
  have L0 : (exT (nthE x.args 0)).length ≤ 300000 := by have := good_len (HG.out.kids 0 (by omega)); omega
  have T0 := Lib.hid (exTs_get (l := x.args) (k := 0) (by omega))
  have S1 : SizeOf.sizeOf (nthE x.args 1) < N := by have : SizeOf.sizeOf (nthE x.args 1) < SizeOf.sizeOf x.args := getD_size _ (by omega); omega
  have G1 := Lib.hid (HG.out.kids 1 (by omega))
  have K1 := Lib.hid (kids 1 (by omega))
  have C1 : cntE (nthE x.args 1) ≤ 4096 := by have := cnt_mem (l := x.args) (k := 1) (by omega); omega
  have L1 : (exT (nthE x.args 1)).length ≤ 300000 := by have := good_len (HG.out.kids 1 (by omega)); omega
  have T1 := Lib.hid (exTs_get (l := x.args) (k := 1) (by omega))
  have S2 : SizeOf.sizeOf (nthE x.args 2) < N := by have : SizeOf.sizeOf (nthE x.args 2) < SizeOf.sizeOf x.args := getD_size _ (by omega); omega
  have G2 := Lib.hid (HG.out.kids 2 (by omega))
  have K2 := Lib.hid (kids 2 (by omega))
  have C2 : cntE (nthE x.args 2) ≤ 4096 := by have := cnt_mem (l := x.args) (k := 2) (by omega); omega
  have L2 : (exT (nthE x.args 2)).length ≤ 300000 := by have := good_len (HG.out.kids 2 (by omega)); omega
  have T2 := Lib.hid (exTs_get (l := x.args) (k := 2) (by omega))
  have HL := Lib.hid hl
  clear hsx hcx rows kids wfs
  have P0 := parT_len (decide (rankD (nthE x.args 0).kind < rankD x.kind + 1)) (exT (nthE x.args 0))
  have P1 := parT_len (decide (rankD (nthE x.args 1).kind < rankD x.kind)) (exT (nthE x.args 1))
  have P2 := parT_len (decide (rankD (nthE x.args 2).kind < rankD x.kind)) (exT (nthE x.args 2))
  have W0 : Whl (w.alloc (.cells (exC x h) 35)) w.heap.size 35 (exC x h) := Whl.new _ _ _
  obtain ⟨d0, d1, d2, d3⟩ := W0.c4
  have k2 := cell_regrown d2
  have k3 := cell_regrown d3
  have m00 : (w.alloc (.cells (exC x h) 35)).cell? ⟨b, off, none⟩ = _ := ((((Below.refl _ _).alloc (Nat.le_refl _) _ : Below w.heap.size w (w.alloc (.cells (exC x h) 35))).cell (p := ⟨b, off, none⟩) lb).trans e00)
  have q00 := cell_regrown m00
  have m01 : (w.alloc (.cells (exC x h) 35)).cell? ⟨b, off + 1, none⟩ = _ := ((((Below.refl _ _).alloc (Nat.le_refl _) _ : Below w.heap.size w (w.alloc (.cells (exC x h) 35))).cell (p := ⟨b, off + 1, none⟩) lb).trans e01)
  have q01 := cell_regrown m01
  have m02 : (w.alloc (.cells (exC x h) 35)).cell? ⟨b, off + 2, none⟩ = _ := ((((Below.refl _ _).alloc (Nat.le_refl _) _ : Below w.heap.size w (w.alloc (.cells (exC x h) 35))).cell (p := ⟨b, off + 2, none⟩) lb).trans e02)
  have q02 := cell_regrown m02
  have m03 : (w.alloc (.cells (exC x h) 35)).cell? ⟨b, off + 3, none⟩ = _ := ((((Below.refl _ _).alloc (Nat.le_refl _) _ : Below w.heap.size w (w.alloc (.cells (exC x h) 35))).cell (p := ⟨b, off + 3, none⟩) lb).trans e03)
  have q03 := cell_regrown m03
  have m10 : (w.alloc (.cells (exC x h) 35)).cell? ⟨b, off + 4, none⟩ = _ := ((((Below.refl _ _).alloc (Nat.le_refl _) _ : Below w.heap.size w (w.alloc (.cells (exC x h) 35))).cell (p := ⟨b, off + 4, none⟩) lb).trans e10)
  have q10 := cell_regrown m10
  have m11 : (w.alloc (.cells (exC x h) 35)).cell? ⟨b, off + 4 + 1, none⟩ = _ := ((((Below.refl _ _).alloc (Nat.le_refl _) _ : Below w.heap.size w (w.alloc (.cells (exC x h) 35))).cell (p := ⟨b, off + 4 + 1, none⟩) lb).trans e11)
  have q11 := cell_regrown m11
  have m12 : (w.alloc (.cells (exC x h) 35)).cell? ⟨b, off + 4 + 2, none⟩ = _ := ((((Below.refl _ _).alloc (Nat.le_refl _) _ : Below w.heap.size w (w.alloc (.cells (exC x h) 35))).cell (p := ⟨b, off + 4 + 2, none⟩) lb).trans e12)
  have q12 := cell_regrown m12
  have m13 : (w.alloc (.cells (exC x h) 35)).cell? ⟨b, off + 4 + 3, none⟩ = _ := ((((Below.refl _ _).alloc (Nat.le_refl _) _ : Below w.heap.size w (w.alloc (.cells (exC x h) 35))).cell (p := ⟨b, off + 4 + 3, none⟩) lb).trans e13)
  have q13 := cell_regrown m13
  have m20 : (w.alloc (.cells (exC x h) 35)).cell? ⟨b, off + 8, none⟩ = _ := ((((Below.refl _ _).alloc (Nat.le_refl _) _ : Below w.heap.size w (w.alloc (.cells (exC x h) 35))).cell (p := ⟨b, off + 8, none⟩) lb).trans e20)
  have q20 := cell_regrown m20
  have m21 : (w.alloc (.cells (exC x h) 35)).cell? ⟨b, off + 8 + 1, none⟩ = _ := ((((Below.refl _ _).alloc (Nat.le_refl _) _ : Below w.heap.size w (w.alloc (.cells (exC x h) 35))).cell (p := ⟨b, off + 8 + 1, none⟩) lb).trans e21)
  have q21 := cell_regrown m21
  have m22 : (w.alloc (.cells (exC x h) 35)).cell? ⟨b, off + 8 + 2, none⟩ = _ := ((((Below.refl _ _).alloc (Nat.le_refl _) _ : Below w.heap.size w (w.alloc (.cells (exC x h) 35))).cell (p := ⟨b, off + 8 + 2, none⟩) lb).trans e22)
  have q22 := cell_regrown m22
  have m23 : (w.alloc (.cells (exC x h) 35)).cell? ⟨b, off + 8 + 3, none⟩ = _ := ((((Below.refl _ _).alloc (Nat.le_refl _) _ : Below w.heap.size w (w.alloc (.cells (exC x h) 35))).cell (p := ⟨b, off + 8 + 3, none⟩) lb).trans e23)
  have q23 := cell_regrown m23
  have J0 := IH.out.re (w := (w.alloc (.cells (exC x h) 35))) (z := rankD x.kind + 1) (h := hd 0) S0 G0.out (K0.out.keep ((Below.refl _ _).alloc (Nat.le_refl _) _) hB) (by simp; omega) C0 (by omega) (by omega) (HT.out.step ((Below.refl _ _).alloc (Nat.le_refl _) _))
  have J1 := IH.out.re (w := (w.alloc (.cells (exC x h) 35))) (z := rankD x.kind) (h := hd 1) S1 G1.out (K1.out.keep ((Below.refl _ _).alloc (Nat.le_refl _) _) hB) (by simp; omega) C1 (by omega) (by omega) (HT.out.step ((Below.refl _ _).alloc (Nat.le_refl _) _))
  have J2 := IH.out.re (w := (w.alloc (.cells (exC x h) 35))) (z := rankD x.kind) (h := hd 2) S2 G2.out (K2.out.keep ((Below.refl _ _).alloc (Nat.le_refl _) _) hB) (by simp; omega) C2 (by omega) (by omega) (HT.out.step ((Below.refl _ _).alloc (Nat.le_refl _) _))
  go_enter Tryz.func57, Tryz.ntmps57
  go_upto_region 24 with (go_at_call 80; (with_reducible refine (rankP x.kind _).mono ?_); rintro e w' ⟨rfl, rfl⟩)
  refine wp_region_quiet_below (by kernel_rfl) (by kernel_rfl) ?_
  have y0 : ¬ 9223372036854775807 < (parT (decide (rankD (nthE x.args 0).kind < rankD x.kind + 1)) (exT (nthE x.args 0))).length + 3 := by omega
  have y1 : ¬ 9223372036854775807 < (parT (decide (rankD (nthE x.args 0).kind < rankD x.kind + 1)) (exT (nthE x.args 0))).length + 3 + (parT (decide (rankD (nthE x.args 1).kind < rankD x.kind)) (exT (nthE x.args 1))).length := by omega
  have y2 : ¬ 9223372036854775807 < (parT (decide (rankD (nthE x.args 0).kind < rankD x.kind + 1)) (exT (nthE x.args 0))).length + 3 + (parT (decide (rankD (nthE x.args 1).kind < rankD x.kind)) (exT (nthE x.args 1))).length + 3 := by omega
  have y3 : ¬ 9223372036854775807 < (parT (decide (rankD (nthE x.args 0).kind < rankD x.kind + 1)) (exT (nthE x.args 0))).length + 3 + (parT (decide (rankD (nthE x.args 1).kind < rankD x.kind)) (exT (nthE x.args 1))).length + 3 + (parT (decide (rankD (nthE x.args 2).kind < rankD x.kind)) (exT (nthE x.args 2))).length := by omega
  repeat (first | quiet_step (first | with_reducible exact J0 _ _ | with_reducible exact J1 _ _ | with_reducible exact J2 _ _) | go_big_quiet_step (first | with_reducible exact J0 _ _ | with_reducible exact J1 _ _ | with_reducible exact J2 _ _))
  refine wpQuiet_nil ?_
  intro _ hw'
  obtain ⟨⟨dq, osq⟩, hw''⟩ := hw'
  subst hw''
  go_wp2
  go_ret
  refine ⟨str_eq ?_, below_step ((Below.refl _ _).alloc (Nat.le_refl _) _) (below_regrown _ dq osq)⟩
  rw [exT_20 HK.out HL.out]
  simp [ByteArray.data_append]
set_option maxRecDepth 100000 in
set_option maxHeartbeats 4000000 in
theorem text_bin (N : Nat) (H : TextAt N) (x : ExD) (hk : 7 ≤ x.kind ∧ x.kind ≤ 19) (h : Hd) (z : Int) (B : Nat) (w : World) (hs : SizeOf.sizeOf x < N + 1) (g : GoodE x) (hx : ExsAt w B h.a x.args) (hB : B ≤ w.heap.size) (hc : cntE x ≤ 4096) (hz : ¬ rankD x.kind < z) (ht : Pow10 w) :
    Calls Tryz.prog 57 #[exG x h, .int .i64 z] w fun e w' => e = .returned (strV (exT x)) ∧ Below w.heap.size w w' := by
  have hz' : decide (rankD x.kind < z) = false := decide_eq_false hz
  have hr := rankD_bd x.kind
  have hn0 := g.n0
  have hn1 := g.n1
  have hnm := g.name
  have IH := Lib.hid H
  have HG := Lib.hid g
  have HX := Lib.hid hx
  have HT := Lib.hid ht
  have HE := Lib.hid (exT_eq x)
  clear H g hx ht hz
  have b1 : (x.kind == 1) = false := by simp only [beq_eq_false_iff_ne]; omega
  have b2 : (x.kind == 2) = false := by simp only [beq_eq_false_iff_ne]; omega
  have b3 : (x.kind == 3) = false := by simp only [beq_eq_false_iff_ne]; omega
  have b4 : (x.kind == 4) = false := by simp only [beq_eq_false_iff_ne]; omega
  have b5 : (x.kind == 5) = false := by simp only [beq_eq_false_iff_ne]; omega
  have b6 : (x.kind == 6) = false := by simp only [beq_eq_false_iff_ne]; omega
  have b20 : (x.kind == 20) = false := by simp only [beq_eq_false_iff_ne]; omega
  have HK := Lib.hid hk
  clear hk
  have hl : x.args.length = 2 := by have := (args_of HG.out.form).1; rw [(ar_no (k := x.kind) ⟨by have := HK.out; omega, by have := HK.out; omega⟩).1] at this; omega
  obtain ⟨hd, rows, kids, hcap, wfs⟩ := HX.out.open_ 0
  have hsx := args_size x
  have hcx := cntE_eq x
  obtain ⟨b, off, hb, e00, e01, e02, e03⟩ := rows w (Turn.refl _ _ _) 0 (by omega)
  have e1 : w.cell? ⟨b, off + 1 * 4, none⟩ = some (.int .i64 (nthE x.args 1).kind) ∧ w.cell? ⟨b, off + 1 * 4 + 1, none⟩ = some (.int .i64 (nthE x.args 1).n) ∧ w.cell? ⟨b, off + 1 * 4 + 2, none⟩ = some (.string (nthE x.args 1).name) ∧ w.cell? ⟨b, off + 1 * 4 + 3, none⟩ = some (.slice (hd 1).a (nthE x.args 1).args.length (hd 1).c) := by
    obtain ⟨b', off', hb', q0, q1, q2, q3⟩ := rows w (Turn.refl _ _ _) 1 (by omega)
    rw [hb] at hb'; cases hb'; exact ⟨q0, q1, q2, q3⟩
  obtain ⟨e10, e11, e12, e13⟩ := e1
  rw [Nat.zero_mul, Nat.add_zero] at e00 e01 e02 e03
  have lb : b < w.heap.size := World.block_lt_of_cell? w _ e00
  have S0 : SizeOf.sizeOf (nthE x.args 0) < N := by have : SizeOf.sizeOf (nthE x.args 0) < SizeOf.sizeOf x.args := getD_size _ (by omega); omega
  have G0 := Lib.hid (HG.out.kids 0 (by omega))
  have K0 := Lib.hid (kids 0 (by omega))
  have C0 : cntE (nthE x.args 0) ≤ 4096 := by have := cnt_mem (l := x.args) (k := 0) (by omega); omega
  have L0 : (exT (nthE x.args 0)).length ≤ 300000 := by have := good_len (HG.out.kids 0 (by omega)); omega
  have T0 := Lib.hid (exTs_get (l := x.args) (k := 0) (by omega))
  have S1 : SizeOf.sizeOf (nthE x.args 1) < N := by have : SizeOf.sizeOf (nthE x.args 1) < SizeOf.sizeOf x.args := getD_size _ (by omega); omega
  have G1 := Lib.hid (HG.out.kids 1 (by omega))
  have K1 := Lib.hid (kids 1 (by omega))
  have C1 : cntE (nthE x.args 1) ≤ 4096 := by have := cnt_mem (l := x.args) (k := 1) (by omega); omega
  have L1 : (exT (nthE x.args 1)).length ≤ 300000 := by have := good_len (HG.out.kids 1 (by omega)); omega
  have T1 := Lib.hid (exTs_get (l := x.args) (k := 1) (by omega))
  have HL := Lib.hid hl
  clear hsx hcx rows kids wfs
  have P0 := parT_len (decide (rankD (nthE x.args 0).kind < rankD x.kind)) (exT (nthE x.args 0))
  have P1 := parT_len (decide (rankD (nthE x.args 1).kind < rankD x.kind + 1)) (exT (nthE x.args 1))
  have hsg := signT_len x.kind
  have W0 : Whl (w.alloc (.cells (exC x h) 35)) w.heap.size 35 (exC x h) := Whl.new _ _ _
  obtain ⟨d0, d1, d2, d3⟩ := W0.c4
  have k2 := cell_regrown d2
  have k3 := cell_regrown d3
  have m00 : (w.alloc (.cells (exC x h) 35)).cell? ⟨b, off, none⟩ = _ := ((((Below.refl _ _).alloc (Nat.le_refl _) _ : Below w.heap.size w (w.alloc (.cells (exC x h) 35))).cell (p := ⟨b, off, none⟩) lb).trans e00)
  have q00 := cell_regrown m00
  have m01 : (w.alloc (.cells (exC x h) 35)).cell? ⟨b, off + 1, none⟩ = _ := ((((Below.refl _ _).alloc (Nat.le_refl _) _ : Below w.heap.size w (w.alloc (.cells (exC x h) 35))).cell (p := ⟨b, off + 1, none⟩) lb).trans e01)
  have q01 := cell_regrown m01
  have m02 : (w.alloc (.cells (exC x h) 35)).cell? ⟨b, off + 2, none⟩ = _ := ((((Below.refl _ _).alloc (Nat.le_refl _) _ : Below w.heap.size w (w.alloc (.cells (exC x h) 35))).cell (p := ⟨b, off + 2, none⟩) lb).trans e02)
  have q02 := cell_regrown m02
  have m03 : (w.alloc (.cells (exC x h) 35)).cell? ⟨b, off + 3, none⟩ = _ := ((((Below.refl _ _).alloc (Nat.le_refl _) _ : Below w.heap.size w (w.alloc (.cells (exC x h) 35))).cell (p := ⟨b, off + 3, none⟩) lb).trans e03)
  have q03 := cell_regrown m03
  have m10 : (w.alloc (.cells (exC x h) 35)).cell? ⟨b, off + 4, none⟩ = _ := ((((Below.refl _ _).alloc (Nat.le_refl _) _ : Below w.heap.size w (w.alloc (.cells (exC x h) 35))).cell (p := ⟨b, off + 4, none⟩) lb).trans e10)
  have q10 := cell_regrown m10
  have m11 : (w.alloc (.cells (exC x h) 35)).cell? ⟨b, off + 4 + 1, none⟩ = _ := ((((Below.refl _ _).alloc (Nat.le_refl _) _ : Below w.heap.size w (w.alloc (.cells (exC x h) 35))).cell (p := ⟨b, off + 4 + 1, none⟩) lb).trans e11)
  have q11 := cell_regrown m11
  have m12 : (w.alloc (.cells (exC x h) 35)).cell? ⟨b, off + 4 + 2, none⟩ = _ := ((((Below.refl _ _).alloc (Nat.le_refl _) _ : Below w.heap.size w (w.alloc (.cells (exC x h) 35))).cell (p := ⟨b, off + 4 + 2, none⟩) lb).trans e12)
  have q12 := cell_regrown m12
  have m13 : (w.alloc (.cells (exC x h) 35)).cell? ⟨b, off + 4 + 3, none⟩ = _ := ((((Below.refl _ _).alloc (Nat.le_refl _) _ : Below w.heap.size w (w.alloc (.cells (exC x h) 35))).cell (p := ⟨b, off + 4 + 3, none⟩) lb).trans e13)
  have q13 := cell_regrown m13
  have J0 := IH.out.re (w := (w.alloc (.cells (exC x h) 35))) (z := rankD x.kind) (h := hd 0) S0 G0.out (K0.out.keep ((Below.refl _ _).alloc (Nat.le_refl _) _) hB) (by simp; omega) C0 (by omega) (by omega) (HT.out.step ((Below.refl _ _).alloc (Nat.le_refl _) _))
  have J1 := IH.out.re (w := (w.alloc (.cells (exC x h) 35))) (z := rankD x.kind + 1) (h := hd 1) S1 G1.out (K1.out.keep ((Below.refl _ _).alloc (Nat.le_refl _) _) hB) (by simp; omega) C1 (by omega) (by omega) (HT.out.step ((Below.refl _ _).alloc (Nat.le_refl _) _))
  go_enter Tryz.func57, Tryz.ntmps57
  go_upto_region 25 with (go_at_call 80; (with_reducible refine (rankP x.kind _).mono ?_); rintro e w' ⟨rfl, rfl⟩)
  refine wp_region_quiet_below (by kernel_rfl) (by kernel_rfl) ?_
  have y0 : ¬ 9223372036854775807 < (parT (decide (rankD (nthE x.args 0).kind < rankD x.kind)) (exT (nthE x.args 0))).length + 1 := by omega
  have y1 : ¬ 9223372036854775807 < (parT (decide (rankD (nthE x.args 0).kind < rankD x.kind)) (exT (nthE x.args 0))).length + 1 + (signT x.kind).length := by omega
  have y2 : ¬ 9223372036854775807 < (parT (decide (rankD (nthE x.args 0).kind < rankD x.kind)) (exT (nthE x.args 0))).length + 1 + (signT x.kind).length + 1 := by omega
  have y3 : ¬ 9223372036854775807 < (parT (decide (rankD (nthE x.args 0).kind < rankD x.kind)) (exT (nthE x.args 0))).length + 1 + (signT x.kind).length + 1 + (parT (decide (rankD (nthE x.args 1).kind < rankD x.kind + 1)) (exT (nthE x.args 1))).length := by omega
  repeat (first | quiet_step (first | with_reducible exact J0 _ _ | with_reducible exact J1 _ _) | go_big_quiet_step (first | with_reducible exact J0 _ _ | with_reducible exact J1 _ _))
  refine wpQuiet_nil ?_
  intro _ hw'
  obtain ⟨⟨dq, osq⟩, hw''⟩ := hw'
  subst hw''
  go_wp2
  go_ret
  refine ⟨str_eq ?_, below_step ((Below.refl _ _).alloc (Nat.le_refl _) _) (below_regrown _ dq osq)⟩
  rw [exT_bin HK.out HL.out]
  simp [ByteArray.data_append]
set_option maxRecDepth 100000 in
set_option maxHeartbeats 4000000 in
theorem text_4 (N : Nat) (H : TextAt N) (x : ExD) (hk : x.kind = 4) (h : Hd) (z : Int) (B : Nat) (w : World) (hs : SizeOf.sizeOf x < N + 1) (g : GoodE x) (hx : ExsAt w B h.a x.args) (hB : B ≤ w.heap.size) (hc : cntE x ≤ 4096) (hz : ¬ rankD x.kind < z) (ht : Pow10 w) :
    Calls Tryz.prog 57 #[exG x h, .int .i64 z] w fun e w' => e = .returned (strV (exT x)) ∧ Below w.heap.size w w' := by
  have hz' : decide (rankD x.kind < z) = false := decide_eq_false hz
  have hr := rankD_bd x.kind
  have hn0 := g.n0
  have hn1 := g.n1
  have hnm := g.name
  have IH := Lib.hid H
  have HG := Lib.hid g
  have HX := Lib.hid hx
  have HT := Lib.hid ht
  have HE := Lib.hid (exT_eq x)
  clear H g hx ht hz
  have b1 : (x.kind == 1) = false := by simp only [beq_eq_false_iff_ne]; omega
  have b2 : (x.kind == 2) = false := by simp only [beq_eq_false_iff_ne]; omega
  have b3 : (x.kind == 3) = false := by simp only [beq_eq_false_iff_ne]; omega
  have b4 : (x.kind == 4) = true := by rw [hk]; rfl
  have HK := Lib.hid hk
  clear hk
  obtain ⟨hd, rows, kids, hcap, wfs⟩ := HX.out.open_ 0
  have HR := Lib.hid rows
  have HS := Lib.hid kids
  have hsx := args_size x
  have hcx := cntE_eq x
  have hla := len_cntEs x.args
  clear rows kids wfs
  obtain ⟨i0, hi, hz0, hz1, hz2⟩ := info_parts infoS
  go_enter Tryz.func57, Tryz.ntmps57
  go_wp2_with (go_at_call 80; (with_reducible refine (rankP x.kind _).mono ?_); rintro e w' ⟨rfl, rfl⟩)
  clear b1 b2 b3 b4
  go_loopw [7, 51] (fun v i W => ∃ k : Nat, k ≤ x.args.length ∧ i = .int .i64 k ∧ OwnT W (w.heap.size + 1) v (exTs (x.args.take k)) ∧ Below w.heap.size w W ∧ Whl W w.heap.size 35 (exC x h)) (fun _ i _ => x.args.length - (intOf i).toNat)
  case atStart => exact ⟨0, Nat.zero_le _, rfl, by simpa [exTs] using OwnT.nil _ _, (Below.refl _ _).alloc (Nat.le_refl _) _, Whl.new _ _ _⟩
  case round =>
    obtain ⟨k, hk, rfl, hO, hgr, hbx⟩ := hrel
    have l1 := hgr.size
    have lb := hbx.lt
    have hlen : (exTs (x.args.take k)).length = k := by rw [exTs_len, List.length_take]; omega
    by_cases hlt : k < x.args.length
    · have hsn := Lib.hid (exTs_snoc hlt)
      have hsz : SizeOf.sizeOf (nthE x.args k) < SizeOf.sizeOf x.args := getD_size _ hlt
      have hc1 := cnt_mem hlt
      obtain ⟨b, off, ha, c0, c1, c2, c3⟩ := HR.out w (Turn.refl _ _ _) k hlt
      have lb2 : b < w.heap.size := World.block_lt_of_cell? w _ c0
      have e0 := (hgr.cell (p := ⟨b, off + k * 4, none⟩) lb2).trans c0
      have e1 := (hgr.cell (p := ⟨b, off + k * 4 + 1, none⟩) lb2).trans c1
      have e2 := (hgr.cell (p := ⟨b, off + k * 4 + 2, none⟩) lb2).trans c2
      have e3 := (hgr.cell (p := ⟨b, off + k * 4 + 3, none⟩) lb2).trans c3
      have HO := Lib.hid hO
      have HLN := Lib.hid hlen
      clear c0 c1 c2 c3 hO hlen
      rw [ha]
      go_wp2_with (first
        | (go_at_call 57; go_must ((refine (IH.out (nthE x.args k) (hd k) 0 B _ (by omega) (HG.out.kids k hlt) ((HS.out k hlt).keep ((below_alloc hgr _).mono hB) (Nat.le_refl _)) (by simp; omega) (by omega) (by omega) (by omega) (HT.out.step (below_alloc hgr _))).mono ?_; rintro e w1 ⟨rfl, hb1⟩; have O1 := OwnT.below (HO.out.alloc (.cells (exC (nthE x.args k) (hd k)) 35)) hb1; have G1 := below_step (below_alloc hgr _) hb1; have X1 := (hbx.alloc _).below' hb1; have ls1 := hb1.size; rw [World.size_alloc] at ls1)))
        | (at_builtin; go_must ((refine wpList_append_own _ rfl _ _ 55 rfl (w.heap.size + 1) 9 i0 (.string ⟨#[]⟩) 1 16 Tryz.underlying55 hi hz0 hz1 hz2 rfl (by decide) _ _ _ rfl (O1.alloc _) ⟨w1.heap.size, 0, none⟩ 1 1 [_] rfl rfl (cell_one_new _ _ _) (by simp [Value.oneCell']) (by have := HLN.out; unfold maxLen; omega) (by have := HLN.out; omega) (by simp; omega) ?_; intro v2 w2 hown hgrow _))))
      have e0 : parT (decide (rankD (nthE x.args k).kind < 0)) (exT (nthE x.args k)) = exT (nthE x.args k) := parT_no (by have := rankD_bd (nthE x.args k).kind; omega)
      rw [e0] at hown
      go_roundw
      case rel => exact ⟨k + 1, by omega, by go_num, by rw [hsn.out]; exact OwnT.snoc hown, (below_alloc G1 _).grown hgrow (by simp; omega) (fun j hj => by have := O1.base j hj; omega), (X1.alloc _).grown hgrow (OwnT.keep O1 X1 (by decide))⟩
      case measure => simp [intOf]; omega
    · obtain rfl : k = x.args.length := by omega
      rw [List.take_length] at hO
      obtain ⟨A, cp, rfl, hcp, hst⟩ := hO.slice
      have hle := exTs_len x.args
      have hsum := sumT_ex x.args (fun k hk => good_len (HG.out.kids k hk))
      have hjl := joinT_len (exTs x.args)
      have d2 : wr.cell? ⟨w.heap.size, 2, none⟩ = some (.string x.name) := hbx.cell 2
      have k2 := cell_regrown d2
      have J0 : ∀ d os, Calls Tryz.prog 12 #[.slice A (exTs x.args).length cp] (grow (redrawn wr d) os) fun e w'' => e = .returned (strV (joinT (exTs x.args))) ∧ ∃ p : Regrown, w'' = grow (redrawn wr p.d) p.os :=
        fun d os => Calls.regrown_of (listP A cp (exTs x.args) _ (hst.below (below_regrown wr d os)) hcp (by omega) (by omega))
      generalize hjj : joinT (exTs x.args) = jt at *
      have y0 : ¬ 9223372036854775807 < x.name.size + 1 := by omega
      have y1 : ¬ 9223372036854775807 < x.name.size + 1 + jt.length := by omega
      have y2 : ¬ 9223372036854775807 < x.name.size + 1 + jt.length + 1 := by omega
      have HJJ := Lib.hid hjj
      clear hjj hO hst hle hlen hsum
      generalize (exTs x.args).length = nl at *
      go_upto_region 18 with fail
      refine wp_region_quiet_below (by kernel_rfl) (by kernel_rfl) ?_
      repeat (first | quiet_step (first | with_reducible exact J0 _ _) | go_big_quiet_step (first | with_reducible exact J0 _ _))
      refine wpQuiet_nil ?_
      intro _ hw'
      obtain ⟨⟨dq, osq⟩, hw''⟩ := hw'
      subst hw''
      go_wp2
      go_ret
      refine ⟨str_eq ?_, below_step hgr (below_regrown _ dq osq)⟩
      rw [exT_4 HK.out, HJJ.out]
      simp [ByteArray.data_append, bytesOf']
theorem text_no (N : Nat) (H : TextAt N) (x : ExD) (h : Hd) (z : Int) (B : Nat) (w : World) (hs : SizeOf.sizeOf x < N + 1) (g : GoodE x) (hx : ExsAt w B h.a x.args) (hB : B ≤ w.heap.size) (hc : cntE x ≤ 4096) (hz : ¬ rankD x.kind < z) (ht : Pow10 w) :
    Calls Tryz.prog 57 #[exG x h, .int .i64 z] w fun e w' => e = .returned (strV (exT x)) ∧ Below w.heap.size w w' := by
  have hk := (args_of g.form).2
  by_cases hb : 7 ≤ x.kind ∧ x.kind ≤ 19
  · exact text_bin N H x hb h z B w hs g hx hB hc hz ht
  · rcases (by omega : x.kind = 1 ∨ x.kind = 2 ∨ x.kind = 3 ∨ x.kind = 4 ∨ x.kind = 5 ∨ x.kind = 6 ∨ x.kind = 20) with e | e | e | e | e | e | e
    · exact text_1 N H x e h z B w hs g hx hB hc hz ht
    · exact text_2 N H x e h z B w hs g hx hB hc hz ht
    · exact text_3 N H x e h z B w hs g hx hB hc hz ht
    · exact text_4 N H x e h z B w hs g hx hB hc hz ht
    · exact text_5 N H x e h z B w hs g hx hB hc hz ht
    · exact text_6 N H x e h z B w hs g hx hB hc hz ht
    · exact text_20 N H x e h z B w hs g hx hB hc hz ht
set_option maxRecDepth 100000 in
set_option maxHeartbeats 4000000 in
theorem text_par (N : Nat) (H : TextAt N) (x : ExD) (h : Hd) (z : Int) (B : Nat) (w : World) (hs : SizeOf.sizeOf x < N + 1) (g : GoodE x) (hx : ExsAt w B h.a x.args) (hB : B ≤ w.heap.size) (hc : cntE x ≤ 4096) (hz : rankD x.kind < z) (ht : Pow10 w) :
    Calls Tryz.prog 57 #[exG x h, .int .i64 z] w fun e w' => e = .returned (strV (40 :: (exT x ++ [41]))) ∧ Below w.heap.size w w' := by
  have hz' : decide (rankD x.kind < z) = true := decide_eq_true hz
  have hr := rankD_bd x.kind
  have L0 : (exT x).length ≤ 300000 := by have := good_len g; omega
  have y0 : ¬ 9223372036854775807 < 1 + (exT x).length := by omega
  have y1 : ¬ 9223372036854775807 < 1 + (exT x).length + 1 := by omega
  have H0 := Lib.hid (text_no N H x h 0 B (w.alloc (.cells (exC x h) 35)) hs g (hx.keep ((Below.refl _ _).alloc (Nat.le_refl _) _) hB) (by simp; omega) hc (by omega) (ht.step ((Below.refl _ _).alloc (Nat.le_refl _) _)))
  clear H g hx ht hz
  go_enter Tryz.func57, Tryz.ntmps57
  go_wp2_with (first | (go_at_call 80; (with_reducible refine (rankP x.kind _).mono ?_); rintro e w' ⟨rfl, rfl⟩) | (go_at_call 57; go_must (refine H0.out.mono ?_; rintro e w1 ⟨rfl, hb1⟩)))
  go_ret
  refine ⟨str_eq ?_, below_step ((Below.refl _ _).alloc (Nat.le_refl _) _) hb1⟩
  simp [ByteArray.data_append]
theorem textAll (N : Nat) : TextAt N := by
  induction N with
  | zero => intro x h z B w hs; omega
  | succ N ih =>
    intro x h z B w hs g hx hB hc h0 h1 ht
    by_cases hz : rankD x.kind < z
    · rw [decide_eq_true hz]; exact text_par N ih x h z B w hs g hx hB hc hz ht
    · rw [parT_no hz]; exact text_no N ih x h z B w hs g hx hB hc hz ht
theorem textP (x : ExD) (h : Hd) (B : Nat) (w : World) (g : GoodE x) (hx : ExsAt w B h.a x.args) (hB : B ≤ w.heap.size) (hc : cntE x ≤ 4096) (ht : Pow10 w) :
    Calls Tryz.prog 57 #[exG x h, .int .i64 0] w fun e w' => e = .returned (strV (exT x)) ∧ Below w.heap.size w w' := by
  have := textAll _ x h 0 B w (Nat.lt_succ_self _) g hx hB hc (by omega) (by omega) ht
  rw [parT_no (by have := rankD_bd x.kind; omega)] at this
  exact this
end Go.Proofs.YtdddppmfeoebgaaGreatDoor

