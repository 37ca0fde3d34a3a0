/-
  Layer 2 (tree): the walks of the reference's Same, SameStmts, sameCases, SameExprs.
-/
import Derived.Test.YtdddppmfeoebgaaDoorSameW
import Derived.Lib.QuietBelow
import Derived.Deep.CutBlock
import Derived.Deep.DeepCutAuto
import Derived.Test.YtdddppmfeoebgaaDoorCopyW
import Derived.Test.YtdddppmfeoebgaaDoorCntR
import Derived.Laws.StructEq
namespace Go.Proofs.YtdddppmfeoebgaaDoor
open Go.RowKit
set_option linter.unusedSimpArgs false
set_option linter.unusedVariables false
set_option maxRecDepth 100000 in
set_option maxHeartbeats 8000000 in
theorem sameERN (N : Nat) : ∀ (l m : List ExD) (A A2 : Option Addr) (c cc B : Nat) (w : World), SizeOf.sizeOf l < N → B ≤ w.heap.size → ExsAt w B A l → ExsAt w B A2 m →
    Calls Tryd.prog 60 #[.slice A l.length c, .slice A2 m.length cc] w fun e w' => e = .returned (.bool (sameEs l m)) ∧ Below w.heap.size w w' := by
  induction N with
  | zero => intro l m A A2 c cc B w hN; omega
  | succ N ih =>
    intro l m A A2 c cc B w hN hB hx hy
    have IH := Lib.hid ih
    obtain ⟨hd, rows, kids, len, _⟩ := hx.open_ w.heap.size
    obtain ⟨hd2, rows2, kids2, len2, _⟩ := hy.open_ w.heap.size
    have HR := Lib.hid rows
    have HR2 := Lib.hid rows2
    have HK := Lib.hid kids
    have HK2 := Lib.hid kids2
    clear ih hx hy rows rows2 kids kids2
    by_cases hl : l.length = m.length
    · have hn : ((l.length : Int) != (m.length : Int)) = false := by simp [hl]
      have HL := Lib.hid hl
      clear hl
      go_enter Tryd.func60, Tryd.ntmps60
      (try simp only [List.append_eq, List.cons_append, List.nil_append])
      go_wp2
      go_loopw [5] (fun i W => ∃ k : Nat, k ≤ l.length ∧ i = .int .i64 k ∧ Hid (eqAll (fun k => sameE (nthE l k) (nthE m k)) k = true) ∧ Below w.heap.size w W) (fun i _ => l.length - (intOf i).toNat)
      case atStart => exact ⟨0, Nat.zero_le _, rfl, Lib.hid rfl, Below.refl _ _⟩
      case round =>
        obtain ⟨k, hk, rfl, HQ, hgr⟩ := hrel
        have l1 := hgr.size
        clear hn
        by_cases hlt : k < l.length
        · have hlt2 : k < m.length := by have := HL.out; omega
          have hsz : SizeOf.sizeOf (nthE l k) < SizeOf.sizeOf l := getD_size _ hlt
          have hsa := args_size (nthE l k)
          have T : Turn B w.heap.size w wr := ⟨hgr.mono hB, fun b t cs _ _ h => h.below' hgr⟩
          obtain ⟨b, off, rfl, c0, c1, c2, c3⟩ := HR.out wr T k hlt
          obtain ⟨b2, off2, rfl, d0, d1, d2, d3⟩ := HR2.out wr T k hlt2
          have lb := World.block_lt_of_cell? _ _ c0
          have lb2 := World.block_lt_of_cell? _ _ d0
          have E1 := (HK.out k hlt).keep hgr hB
          have E2 := (HK2.out k hlt2).keep hgr hB
          have HB : B ≤ wr.heap.size := by omega
          obtain ⟨x, hx⟩ : ∃ x, x = nthE l k := ⟨_, rfl⟩
          obtain ⟨y, hy⟩ : ∃ y, y = nthE m k := ⟨_, rfl⟩
          rw [← hx] at c0 c1 c2 c3 E1 hsz hsa
          rw [← hy] at d0 d1 d2 d3 E2
          have J0 := fun d os => Calls.regrown_of (IH.out x.args y.args (hd k).a (hd2 k).a (hd k).c (hd2 k).c B (Sort.grow (redrawn wr d) os) (by omega) (Nat.le_trans HB (below_regrown wr d os).size) (E1.keep (below_regrown wr d os) HB) (E2.keep (below_regrown wr d os) HB))
          have HX := Lib.hid (show sameE (nthE l k) (nthE m k) = (x.kind == y.kind && x.n == y.n && decide (x.name = y.name) && sameEs x.args y.args) by rw [hx, hy]; cases nthE l k; cases nthE m k; rfl)
          clear hx hy E1 E2 T
          have q0 := cell_regrown c0
          have q1 := cell_regrown c1
          have q2 := cell_regrown c2
          have q3 := cell_regrown c3
          have p0 := cell_regrown d0
          have p1 := cell_regrown d1
          have p2 := cell_regrown d2
          have p3 := cell_regrown d3
          clear c0 c1 c2 c3 d0 d1 d2 d3
          have HNO : Hid (sameE (nthE l k) (nthE m k) = false → sameEs l m = false) := Lib.hid (sameEs_at hlt)
          go_upto_region 6 with fail
          cases hk0 : (x.kind == y.kind)
          · have hk1 : (x.kind != y.kind) = true := by rw [bne, hk0]; rfl
            have HF := Lib.hid (HNO.out (by rw [HX.out, hk0]; rfl))
            refine wp_region_quiet_below (by kernel_rfl) (by kernel_rfl) ?_
            repeat (go_big_quiet_step (first | with_reducible exact J0 _ _))
            refine wpQuiet_nil ?_
            intro _ hw'
            obtain ⟨⟨dq, osq⟩, hw''⟩ := hw'
            subst hw''
            go_wp2
            go_ret
            exact ⟨by rw [HF.out]; rfl, below_step hgr (below_regrown wr dq osq)⟩
          · have hk1 : (x.kind != y.kind) = false := by rw [bne, hk0]; rfl
            cases hn0 : (x.n == y.n)
            · have hn1 : (x.n != y.n) = true := by rw [bne, hn0]; rfl
              have HF := Lib.hid (HNO.out (by rw [HX.out, hn0]; simp))
              refine wp_region_quiet_below (by kernel_rfl) (by kernel_rfl) ?_
              repeat (go_big_quiet_step (first | with_reducible exact J0 _ _))
              refine wpQuiet_nil ?_
              intro _ hw'
              obtain ⟨⟨dq, osq⟩, hw''⟩ := hw'
              subst hw''
              go_wp2
              go_ret
              exact ⟨by rw [HF.out]; rfl, below_step hgr (below_regrown wr dq osq)⟩
            · have hn1 : (x.n != y.n) = false := by rw [bne, hn0]; rfl
              cases hs : decide (x.name = y.name)
              · have hs0 := strd_eq hs
                have hs1 : (x.name.toList != y.name.toList) = true := by rw [bne, hs0]; rfl
                have HF := Lib.hid (HNO.out (by rw [HX.out, hs]; simp))
                clear hs
                refine wp_region_quiet_below (by kernel_rfl) (by kernel_rfl) ?_
                repeat (go_big_quiet_step (first | with_reducible exact J0 _ _))
                refine wpQuiet_nil ?_
                intro _ hw'
                obtain ⟨⟨dq, osq⟩, hw''⟩ := hw'
                subst hw''
                go_wp2
                go_ret
                exact ⟨by rw [HF.out]; rfl, below_step hgr (below_regrown wr dq osq)⟩
              · have hs0 := strd_eq hs
                have hs1 : (x.name.toList != y.name.toList) = false := by rw [bne, hs0]; rfl
                cases ha : sameEs x.args y.args
                · have HF := Lib.hid (HNO.out (by rw [HX.out, ha]; simp))
                  rw [ha] at J0
                  clear hs ha
                  refine wp_region_quiet_below (by kernel_rfl) (by kernel_rfl) ?_
                  repeat (go_big_quiet_step (first | with_reducible exact J0 _ _))
                  refine wpQuiet_nil ?_
                  intro _ hw'
                  obtain ⟨⟨dq, osq⟩, hw''⟩ := hw'
                  subst hw''
                  go_wp2
                  go_ret
                  exact ⟨by rw [HF.out]; rfl, below_step hgr (below_regrown wr dq osq)⟩
                · have HF := Lib.hid (show sameE (nthE l k) (nthE m k) = true by rw [HX.out, hk0, hn0, hs, ha]; rfl)
                  rw [ha] at J0
                  clear hs ha
                  refine wp_region_quiet_below (by kernel_rfl) (by kernel_rfl) ?_
                  repeat (go_big_quiet_step (first | with_reducible exact J0 _ _))
                  refine wpQuiet_nil ?_
                  intro _ hw'
                  obtain ⟨⟨dq, osq⟩, hw''⟩ := hw'
                  subst hw''
                  go_wp2
                  go_roundw
                  case rel => exact ⟨k + 1, by omega, by go_num, Lib.hid (by rw [eqAll, HQ.out, HF.out]; rfl), below_step hgr (below_regrown wr dq osq)⟩
                  case measure => simp [intOf]; omega
        · obtain rfl : k = l.length := by omega
          go_wp2
          go_ret
          exact ⟨by rw [sameEs_yes HL.out HQ.out]; rfl, hgr⟩
    · have hn : ((l.length : Int) != (m.length : Int)) = true := by simp; omega
      have HL := Lib.hid hl
      clear hl
      go_enter Tryd.func60, Tryd.ntmps60
      (try simp only [List.append_eq, List.cons_append, List.nil_append])
      go_wp2
      go_ret
      exact ⟨by rw [sameEs_len HL.out]; rfl, Below.refl _ _⟩
theorem sameER (l m : List ExD) (A A2 : Option Addr) (c cc B : Nat) (w : World) (hB : B ≤ w.heap.size) (hx : ExsAt w B A l) (hy : ExsAt w B A2 m) :
    Calls Tryd.prog 60 #[.slice A l.length c, .slice A2 m.length cc] w fun e w' => e = .returned (.bool (sameEs l m)) ∧ Below w.heap.size w w' := sameERN _ l m A A2 c cc B w (Nat.lt_succ_self _) hB hx hy
def SsAt (N : Nat) : Prop := ∀ (l m : List StD) (A A2 : Option Addr) (c cc B : Nat) (w : World), SizeOf.sizeOf l < N → B ≤ w.heap.size → StsAt w B A l → StsAt w B A2 m →
    Calls Tryd.prog 33 #[.slice A l.length c, .slice A2 m.length cc] w fun e w' => e = .returned (.bool (sameSs l m)) ∧ Below w.heap.size w w'
set_option maxRecDepth 100000 in
set_option maxHeartbeats 8000000 in
theorem sameCR (N : Nat) (ih : SsAt N) (l m : List CaD) (A A2 : Option Addr) (c cc B : Nat) (hd hd2 : Nat → Hd) (w : World) (hN : SizeOf.sizeOf l < N) (len : l.length * 32 ≤ 140737488351232) (len2 : m.length * 32 ≤ 140737488351232) (hB : B ≤ w.heap.size)
    (rows : RowsAt w B A l.length 2 fun k => caV (nthC l k) (hd k)) (rows2 : RowsAt w B A2 m.length 2 fun k => caV (nthC m k) (hd2 k))
    (kids : ∀ j, j < l.length → StsAt w B (hd j).a (nthC l j).body) (kids2 : ∀ j, j < m.length → StsAt w B (hd2 j).a (nthC m j).body) :
    Calls Tryd.prog 61 #[.slice A l.length c, .slice A2 m.length cc] w fun e w' => e = .returned (.bool (sameCs l m)) ∧ Below w.heap.size w w' := by
  have IH := Lib.hid ih
  have HR := Lib.hid rows
  have HR2 := Lib.hid rows2
  have HK := Lib.hid kids
  have HK2 := Lib.hid kids2
  clear ih rows rows2 kids kids2
  by_cases hl : l.length = m.length
  · have hn : ((l.length : Int) != (m.length : Int)) = false := by simp [hl]
    have HL := Lib.hid hl
    clear hl
    go_enter Tryd.func61, Tryd.ntmps61
    (try simp only [List.append_eq, List.cons_append, List.nil_append])
    go_wp2
    go_loopw [5] (fun i W => ∃ k : Nat, k ≤ l.length ∧ i = .int .i64 k ∧ Hid (eqAll (fun k => sameC (nthC l k) (nthC m k)) k = true) ∧ Below w.heap.size w W) (fun i _ => l.length - (intOf i).toNat)
    case atStart => exact ⟨0, Nat.zero_le _, rfl, Lib.hid rfl, Below.refl _ _⟩
    case round =>
      obtain ⟨k, hk, rfl, HQ, hgr⟩ := hrel
      have l1 := hgr.size
      clear hn
      by_cases hlt : k < l.length
      · have hlt2 : k < m.length := by have := HL.out; omega
        have hsz : SizeOf.sizeOf (nthC l k) < SizeOf.sizeOf l := getD_size _ hlt
        have hsa := cbody_size (nthC l k)
        obtain ⟨b, off, rfl, c0, c1⟩ := (HR.out.below hgr hB).ca hlt
        obtain ⟨b2, off2, rfl, d0, d1⟩ := (HR2.out.below hgr hB).ca hlt2
        have lb := World.block_lt_of_cell? _ _ c0
        have lb2 := World.block_lt_of_cell? _ _ d0
        have E1 := (HK.out k hlt).keep hgr hB
        have E2 := (HK2.out k hlt2).keep hgr hB
        have HB : B ≤ wr.heap.size := by omega
        obtain ⟨x, hx⟩ : ∃ x, x = nthC l k := ⟨_, rfl⟩
        obtain ⟨y, hy⟩ : ∃ y, y = nthC m k := ⟨_, rfl⟩
        rw [← hx] at c0 c1 E1 hsz hsa
        rw [← hy] at d0 d1 E2
        have J0 := fun d os => Calls.regrown_of (IH.out x.body y.body (hd k).a (hd2 k).a (hd k).c (hd2 k).c B (Sort.grow (redrawn wr d) os) (by omega) (Nat.le_trans HB (below_regrown wr d os).size) (E1.keep (below_regrown wr d os) HB) (E2.keep (below_regrown wr d os) HB))
        have HX := Lib.hid (show sameC (nthC l k) (nthC m k) = (x.n == y.n && sameSs x.body y.body) by rw [hx, hy]; cases nthC l k; cases nthC m k; rw [sameC]; rfl)
        clear hx hy E1 E2
        have q0 := cell_regrown c0
        have q1 := cell_regrown c1
        have p0 := cell_regrown d0
        have p1 := cell_regrown d1
        clear c0 c1 d0 d1
        have HNO : Hid (sameC (nthC l k) (nthC m k) = false → sameCs l m = false) := Lib.hid (sameCs_at hlt)
        go_upto_region 6 with fail
        cases hn0 : (x.n == y.n)
        · have hn1 : (x.n != y.n) = true := by rw [bne, hn0]; rfl
          have HF := Lib.hid (HNO.out (by rw [HX.out, hn0]; rfl))
          refine wp_region_quiet_below (by kernel_rfl) (by kernel_rfl) ?_
          repeat (go_big_quiet_step (first | with_reducible exact J0 _ _))
          refine wpQuiet_nil ?_
          intro _ hw'
          obtain ⟨⟨dq, osq⟩, hw''⟩ := hw'
          subst hw''
          go_wp2
          go_ret
          exact ⟨by rw [HF.out]; rfl, below_step hgr (below_regrown wr dq osq)⟩
        · have hn1 : (x.n != y.n) = false := by rw [bne, hn0]; rfl
          cases ha : sameSs x.body y.body
          · have HF := Lib.hid (HNO.out (by rw [HX.out, ha]; simp))
            rw [ha] at J0
            clear ha
            refine wp_region_quiet_below (by kernel_rfl) (by kernel_rfl) ?_
            repeat (go_big_quiet_step (first | with_reducible exact J0 _ _))
            refine wpQuiet_nil ?_
            intro _ hw'
            obtain ⟨⟨dq, osq⟩, hw''⟩ := hw'
            subst hw''
            go_wp2
            go_ret
            exact ⟨by rw [HF.out]; rfl, below_step hgr (below_regrown wr dq osq)⟩
          · have HF := Lib.hid (show sameC (nthC l k) (nthC m k) = true by rw [HX.out, hn0, ha]; rfl)
            rw [ha] at J0
            clear ha
            refine wp_region_quiet_below (by kernel_rfl) (by kernel_rfl) ?_
            repeat (go_big_quiet_step (first | with_reducible exact J0 _ _))
            refine wpQuiet_nil ?_
            intro _ hw'
            obtain ⟨⟨dq, osq⟩, hw''⟩ := hw'
            subst hw''
            go_wp2
            go_roundw
            case rel => exact ⟨k + 1, by omega, by go_num, Lib.hid (by rw [eqAll, HQ.out, HF.out]; rfl), below_step hgr (below_regrown wr dq osq)⟩
            case measure => simp [intOf]; omega
      · obtain rfl : k = l.length := by omega
        go_wp2
        go_ret
        exact ⟨by rw [sameCs_yes HL.out HQ.out]; rfl, hgr⟩
  · have hn : ((l.length : Int) != (m.length : Int)) = true := by simp; omega
    have HL := Lib.hid hl
    clear hl
    go_enter Tryd.func61, Tryd.ntmps61
    (try simp only [List.append_eq, List.cons_append, List.nil_append])
    go_wp2
    go_ret
    exact ⟨by rw [sameCs_len HL.out]; rfl, Below.refl _ _⟩
theorem cells2 (x y : ExD) (h k : Hd) (W : World) : Whl (W.alloc (.cells #[.int .i64 x.kind, .int .i64 x.n, .string x.name, .slice h.a x.args.length h.c, .int .i64 y.kind, .int .i64 y.n, .string y.name, .slice k.a y.args.length k.c] 48)) W.heap.size 48 #[.int .i64 x.kind, .int .i64 x.n, .string x.name, .slice h.a x.args.length h.c, .int .i64 y.kind, .int .i64 y.n, .string y.name, .slice k.a y.args.length k.c] := Whl.new _ _ _
set_option maxRecDepth 100000 in
set_option maxHeartbeats 8000000 in
theorem sameSRN (N : Nat) : SsAt N := by
  induction N with
  | zero => intro l m A A2 c cc B w hN; omega
  | succ N ih =>
    intro l m A A2 c cc B w hN hB hx hy
    have IH := Lib.hid ih
    obtain ⟨hd, hcs, rows, kids, len⟩ := hx.open_
    obtain ⟨hd2, hcs2, rows2, kids2, len2⟩ := hy.open_
    have HR := Lib.hid (rows w.heap.size)
    have HR2 := Lib.hid (rows2 w.heap.size)
    have HK := Lib.hid kids
    have HK2 := Lib.hid kids2
    clear ih hx hy rows rows2 kids kids2
    by_cases hl : l.length = m.length
    · have hn : ((l.length : Int) != (m.length : Int)) = false := by simp [hl]
      have HL := Lib.hid hl
      clear hl
      go_enter Tryd.func33, Tryd.ntmps33
      (try simp only [List.append_eq, List.cons_append, List.nil_append])
      go_wp2
      go_loopw [5] (fun i W => ∃ k : Nat, k ≤ l.length ∧ i = .int .i64 k ∧ Hid (eqAll (fun k => sameS (nthS l k) (nthS m k)) k = true) ∧ Below w.heap.size w W) (fun i _ => l.length - (intOf i).toNat)
      case atStart => exact ⟨0, Nat.zero_le _, rfl, Lib.hid rfl, Below.refl _ _⟩
      case round =>
        obtain ⟨k, hk, rfl, HQ, hgr⟩ := hrel
        have l1 := hgr.size
        clear hn
        by_cases hlt : k < l.length
        · have hlt2 : k < m.length := by have := HL.out; omega
          have hsz : SizeOf.sizeOf (nthS l k) < SizeOf.sizeOf l := getD_size _ hlt
          have T : Turn B w.heap.size w wr := ⟨hgr.mono hB, fun b t cs _ _ h => h.below' hgr⟩
          obtain ⟨b, off, rfl, c0, c1, c2, c3, c4, c5, c6, c7, c8, c9, c10, c11, c12, c13⟩ := HR.out wr T k hlt
          obtain ⟨b2, off2, rfl, d0, d1, d2, d3, d4, d5, d6, d7, d8, d9, d10, d11, d12, d13⟩ := HR2.out wr T k hlt2
          have lb : b < wr.heap.size := World.block_lt_of_cell? _ _ c0
          have lb2 : b2 < wr.heap.size := World.block_lt_of_cell? _ _ d0
          have hin := Lib.hid ((HK.out k hlt))
          have hin2 := Lib.hid ((HK2.out k hlt2))
          have HNO : Hid (sameS (nthS l k) (nthS m k) = false → sameSs l m = false) := Lib.hid (sameSs_at hlt)
          have HRS : Hid (eqAll (fun k => sameS (nthS l k) (nthS m k)) (k + 1) = sameS (nthS l k) (nthS m k)) := Lib.hid (by rw [eqAll, HQ.out]; rfl)
          revert c0 c1 c2 c3 c4 c5 c6 c7 c8 c9 c10 c11 c12 c13 d0 d1 d2 d3 d4 d5 d6 d7 d8 d9 d10 d11 d12 d13 hsz hin hin2 HNO HRS
          generalize nthS l k = x
          generalize nthS m k = y
          generalize hd k = h
          generalize hd2 k = h2
          generalize hcs k = q
          generalize hcs2 k = q2
          intro c0 c1 c2 c3 c4 c5 c6 c7 c8 c9 c10 c11 c12 c13 d0 d1 d2 d3 d4 d5 d6 d7 d8 d9 d10 d11 d12 d13 hsz hin hin2 HNO HRS
          have sb := body_size x
          have se := els_size x
          have sc := cases_size x
          have HS : Hid (sameS x y = (x.kind == y.kind && decide (x.name = y.name) && x.n == y.n && sameEs [x.a, x.b] [y.a, y.b] && sameSs x.body y.body && sameSs x.els y.els && sameCs x.cases y.cases)) := Lib.hid (by cases x; cases y; rw [sameS]; simp only [sameEs, StD.kind, StD.name, StD.n, StD.a, StD.b, StD.body, StD.els, StD.cases, Bool.and_true, Bool.and_assoc]; rfl)
          have HBO : Hid (∀ W, Below w.heap.size w W → Calls Tryd.prog 33 #[.slice h.body.a x.body.length h.body.c, .slice h2.body.a y.body.length h2.body.c] W fun e W' => e = .returned (.bool (sameSs x.body y.body)) ∧ Below W.heap.size W W') := Lib.hid fun W hW => IH.out _ _ _ _ _ _ B W (by omega) (Nat.le_trans hB hW.size) (hin.out.body.keep hW hB) (hin2.out.body.keep hW hB)
          have HEL : Hid (∀ W, Below w.heap.size w W → Calls Tryd.prog 33 #[.slice h.els.a x.els.length h.els.c, .slice h2.els.a y.els.length h2.els.c] W fun e W' => e = .returned (.bool (sameSs x.els y.els)) ∧ Below W.heap.size W W') := Lib.hid fun W hW => IH.out _ _ _ _ _ _ B W (by omega) (Nat.le_trans hB hW.size) (hin.out.els.keep hW hB) (hin2.out.els.keep hW hB)
          have HCA : Hid (∀ W, Below w.heap.size w W → Calls Tryd.prog 61 #[.slice h.cases.a x.cases.length h.cases.c, .slice h2.cases.a y.cases.length h2.cases.c] W fun e W' => e = .returned (.bool (sameCs x.cases y.cases)) ∧ Below W.heap.size W W') := Lib.hid fun W hW => sameCR N IH.out x.cases y.cases h.cases.a h2.cases.a h.cases.c h2.cases.c B q q2 W (by omega) hin.out.clen hin2.out.clen (Nat.le_trans hB hW.size) (hin.out.crow.below hW hB) (hin2.out.crow.below hW hB) (fun j hj => (hin.out.cbody j hj).keep hW hB) (fun j hj => (hin2.out.cbody j hj).keep hW hB)
          have HEE : Hid (∀ W, Below w.heap.size w W → Calls Tryd.prog 60 #[.slice (some ⟨W.heap.size, 0, none⟩) 2 2, .slice (some ⟨W.heap.size + 1, 0, none⟩) 2 2] ((W.alloc (.cells #[.int .i64 x.a.kind, .int .i64 x.a.n, .string x.a.name, .slice h.a.a x.a.args.length h.a.c, .int .i64 x.b.kind, .int .i64 x.b.n, .string x.b.name, .slice h.b.a x.b.args.length h.b.c] 48)).alloc (.cells #[.int .i64 y.a.kind, .int .i64 y.a.n, .string y.a.name, .slice h2.a.a y.a.args.length h2.a.c, .int .i64 y.b.kind, .int .i64 y.b.n, .string y.b.name, .slice h2.b.a y.b.args.length h2.b.c] 48)) fun e W' => e = .returned (.bool (sameEs [x.a, x.b] [y.a, y.b])) ∧ Below ((W.alloc (.cells #[.int .i64 x.a.kind, .int .i64 x.a.n, .string x.a.name, .slice h.a.a x.a.args.length h.a.c, .int .i64 x.b.kind, .int .i64 x.b.n, .string x.b.name, .slice h.b.a x.b.args.length h.b.c] 48)).alloc (.cells #[.int .i64 y.a.kind, .int .i64 y.a.n, .string y.a.name, .slice h2.a.a y.a.args.length h2.a.c, .int .i64 y.b.kind, .int .i64 y.b.n, .string y.b.name, .slice h2.b.a y.b.args.length h2.b.c] 48)).heap.size ((W.alloc (.cells #[.int .i64 x.a.kind, .int .i64 x.a.n, .string x.a.name, .slice h.a.a x.a.args.length h.a.c, .int .i64 x.b.kind, .int .i64 x.b.n, .string x.b.name, .slice h.b.a x.b.args.length h.b.c] 48)).alloc (.cells #[.int .i64 y.a.kind, .int .i64 y.a.n, .string y.a.name, .slice h2.a.a y.a.args.length h2.a.c, .int .i64 y.b.kind, .int .i64 y.b.n, .string y.b.name, .slice h2.b.a y.b.args.length h2.b.c] 48)) W') := Lib.hid fun W hW => by
            have hW2 := below_alloc (below_alloc hW (.cells #[.int .i64 x.a.kind, .int .i64 x.a.n, .string x.a.name, .slice h.a.a x.a.args.length h.a.c, .int .i64 x.b.kind, .int .i64 x.b.n, .string x.b.name, .slice h.b.a x.b.args.length h.b.c] 48)) (.cells #[.int .i64 y.a.kind, .int .i64 y.a.n, .string y.a.name, .slice h2.a.a y.a.args.length h2.a.c, .int .i64 y.b.kind, .int .i64 y.b.n, .string y.b.name, .slice h2.b.a y.b.args.length h2.b.c] 48)
            have hs := hW2.size
            refine sameER [x.a, x.b] [y.a, y.b] _ _ 2 2 ((W.alloc (.cells #[.int .i64 x.a.kind, .int .i64 x.a.n, .string x.a.name, .slice h.a.a x.a.args.length h.a.c, .int .i64 x.b.kind, .int .i64 x.b.n, .string x.b.name, .slice h.b.a x.b.args.length h.b.c] 48)).alloc (.cells #[.int .i64 y.a.kind, .int .i64 y.a.n, .string y.a.name, .slice h2.a.a y.a.args.length h2.a.c, .int .i64 y.b.kind, .int .i64 y.b.n, .string y.b.name, .slice h2.b.a y.b.args.length h2.b.c] 48)).heap.size _ (Nat.le_refl _) (exsAt_two ((Whl.new W _ _).alloc _) (by simp only [World.size_alloc]; omega) hin.out.wf.a hin.out.wf.b ((hin.out.ea.keep hW2 hB).more (by omega)) ((hin.out.eb.keep hW2 hB).more (by omega))) (exsAt_two (Whl.new1 W _ _ _) (by simp only [World.size_alloc]; omega) hin2.out.wf.a hin2.out.wf.b ((hin2.out.ea.keep hW2 hB).more (by omega)) ((hin2.out.eb.keep hW2 hB).more (by omega)))
          clear IH hin hin2 sb se sc T
          go_upto_region 6 with fail
          go_cut [6, 7] (fun a b W => ∃ xb yb, a = .pointer (some ⟨xb, 0, none⟩) ∧ b = .pointer (some ⟨yb, 0, none⟩) ∧ Whl W xb 53 (stC x h) ∧ Whl W yb 53 (stC y h2) ∧ Below w.heap.size w W)
          case first =>
            go_region
            all_goals (go_wp2; go_meet)
            all_goals first | exact ⟨_, _, rfl, rfl, ((Whl.new _ _ _).alloc _).drew, (Whl.new1 _ _ _ _).drew, (below_alloc (below_alloc hgr _) _).drew⟩ | exact ⟨_, _, rfl, rfl, (Whl.new1 _ _ _ _).drew, ((Whl.new _ _ _).alloc _).drew, (below_alloc (below_alloc hgr _) _).drew⟩
          case rest =>
            obtain ⟨xb, yb, rfl, rfl, UE0, VE0, K0⟩ := hcut
            obtain ⟨x0, x1, x2, x3, x4, x5, x6, x7, x8, x9, x10, x11, x12, x13⟩ := UE0.cSt
            obtain ⟨y0, y1, y2, y3, y4, y5, y6, y7, y8, y9, y10, y11, y12, y13⟩ := VE0.cSt
            have lu0 := UE0.lt
            have lv0 := VE0.lt
            have UE := (UE0.alloc (.cells #[.int .i64 x.a.kind, .int .i64 x.a.n, .string x.a.name, .slice h.a.a x.a.args.length h.a.c, .int .i64 x.b.kind, .int .i64 x.b.n, .string x.b.name, .slice h.b.a x.b.args.length h.b.c] 48)).alloc (.cells #[.int .i64 y.a.kind, .int .i64 y.a.n, .string y.a.name, .slice h2.a.a y.a.args.length h2.a.c, .int .i64 y.b.kind, .int .i64 y.b.n, .string y.b.name, .slice h2.b.a y.b.args.length h2.b.c] 48)
            have VE := (VE0.alloc (.cells #[.int .i64 x.a.kind, .int .i64 x.a.n, .string x.a.name, .slice h.a.a x.a.args.length h.a.c, .int .i64 x.b.kind, .int .i64 x.b.n, .string x.b.name, .slice h.b.a x.b.args.length h.b.c] 48)).alloc (.cells #[.int .i64 y.a.kind, .int .i64 y.a.n, .string y.a.name, .slice h2.a.a y.a.args.length h2.a.c, .int .i64 y.b.kind, .int .i64 y.b.n, .string y.b.name, .slice h2.b.a y.b.args.length h2.b.c] 48)
            have KE := below_alloc (below_alloc K0 (.cells #[.int .i64 x.a.kind, .int .i64 x.a.n, .string x.a.name, .slice h.a.a x.a.args.length h.a.c, .int .i64 x.b.kind, .int .i64 x.b.n, .string x.b.name, .slice h.b.a x.b.args.length h.b.c] 48)) (.cells #[.int .i64 y.a.kind, .int .i64 y.a.n, .string y.a.name, .slice h2.a.a y.a.args.length h2.a.c, .int .i64 y.b.kind, .int .i64 y.b.n, .string y.b.name, .slice h2.b.a y.b.args.length h2.b.c] 48)
            have HEX := Lib.hid (HEE.out wc K0)
            clear HEE
            cases hk0 : (x.kind == y.kind)
            · have hk1 : (x.kind != y.kind) = true := by rw [bne, hk0]; rfl
              have HF := Lib.hid (HNO.out (by rw [HS.out, hk0]; rfl))
              go_wp2
              go_ret
              exact ⟨by rw [HF.out]; rfl, K0⟩
            · have hk1 : (x.kind != y.kind) = false := by rw [bne, hk0]; rfl
              cases hs : decide (x.name = y.name)
              · have hs0 := strd_eq hs
                have hs1 : (x.name.toList != y.name.toList) = true := by rw [bne, hs0]; rfl
                have HF := Lib.hid (HNO.out (by rw [HS.out, hs]; simp))
                clear hs
                go_wp2
                go_ret
                exact ⟨by rw [HF.out]; rfl, K0⟩
              · have hs0 := strd_eq hs
                have hs1 : (x.name.toList != y.name.toList) = false := by rw [bne, hs0]; rfl
                have HD := Lib.hid hs
                clear hs
                cases hn0 : (x.n == y.n)
                · have hn1 : (x.n != y.n) = true := by rw [bne, hn0]; rfl
                  have HF := Lib.hid (HNO.out (by rw [HS.out, hn0]; simp))
                  go_wp2
                  go_ret
                  exact ⟨by rw [HF.out]; rfl, K0⟩
                · have hn1 : (x.n != y.n) = false := by rw [bne, hn0]; rfl
                  have HS2 := Lib.hid (HS.out.trans (by rw [hk0, HD.out, hn0]; rfl) : sameS x y = (sameEs [x.a, x.b] [y.a, y.b] && sameSs x.body y.body && sameSs x.els y.els && sameCs x.cases y.cases))
                  cases ra : sameEs [x.a, x.b] [y.a, y.b]
                  · rw [ra] at HEX HS2
                    have HF := Lib.hid (HNO.out (by rw [HS2.out]; simp))
                    clear ra
                    go_wp2_with (first | (go_at_call 60; ((with_reducible refine HEX.out.mono ?_); rintro e u1 ⟨rfl, hb1⟩; have K1 := below_step KE hb1; have U1 := UE.below' hb1; have V1 := VE.below' hb1; have lu1 := U1.lt; have lv1 := V1.lt; clear x0 x1 x2 x3 x4 x5 x6 x7 x8 x9 x10 x11 x12 x13 y0 y1 y2 y3 y4 y5 y6 y7 y8 y9 y10 y11 y12 y13; obtain ⟨x0, x1, x2, x3, x4, x5, x6, x7, x8, x9, x10, x11, x12, x13⟩ := U1.cSt; obtain ⟨y0, y1, y2, y3, y4, y5, y6, y7, y8, y9, y10, y11, y12, y13⟩ := V1.cSt)))
                    go_ret
                    exact ⟨by rw [HF.out]; rfl, K1⟩
                  · rw [ra] at HEX HS2
                    clear ra
                    cases rb : sameSs x.body y.body
                    · rw [rb] at HBO HS2
                      have HF := Lib.hid (HNO.out (by rw [HS2.out]; simp))
                      clear rb
                      go_wp2_with (first | (go_at_call 60; ((with_reducible refine HEX.out.mono ?_); rintro e u1 ⟨rfl, hb1⟩; have K1 := below_step KE hb1; have U1 := UE.below' hb1; have V1 := VE.below' hb1; have lu1 := U1.lt; have lv1 := V1.lt; clear x0 x1 x2 x3 x4 x5 x6 x7 x8 x9 x10 x11 x12 x13 y0 y1 y2 y3 y4 y5 y6 y7 y8 y9 y10 y11 y12 y13; obtain ⟨x0, x1, x2, x3, x4, x5, x6, x7, x8, x9, x10, x11, x12, x13⟩ := U1.cSt; obtain ⟨y0, y1, y2, y3, y4, y5, y6, y7, y8, y9, y10, y11, y12, y13⟩ := V1.cSt)) | (go_at_call 33; ((with_reducible refine (HBO.out _ K1).mono ?_); rintro e u2 ⟨rfl, hb2⟩; have K2 := below_step K1 hb2; have U2 := U1.below' hb2; have V2 := V1.below' hb2; have lu2 := U2.lt; have lv2 := V2.lt; clear x0 x1 x2 x3 x4 x5 x6 x7 x8 x9 x10 x11 x12 x13 y0 y1 y2 y3 y4 y5 y6 y7 y8 y9 y10 y11 y12 y13; obtain ⟨x0, x1, x2, x3, x4, x5, x6, x7, x8, x9, x10, x11, x12, x13⟩ := U2.cSt; obtain ⟨y0, y1, y2, y3, y4, y5, y6, y7, y8, y9, y10, y11, y12, y13⟩ := V2.cSt)))
                      go_ret
                      exact ⟨by rw [HF.out]; rfl, K2⟩
                    · rw [rb] at HBO HS2
                      clear rb
                      cases rc : sameSs x.els y.els
                      · rw [rc] at HEL HS2
                        have HF := Lib.hid (HNO.out (by rw [HS2.out]; simp))
                        clear rc
                        go_wp2_with (first | (go_at_call 60; ((with_reducible refine HEX.out.mono ?_); rintro e u1 ⟨rfl, hb1⟩; have K1 := below_step KE hb1; have U1 := UE.below' hb1; have V1 := VE.below' hb1; have lu1 := U1.lt; have lv1 := V1.lt; clear x0 x1 x2 x3 x4 x5 x6 x7 x8 x9 x10 x11 x12 x13 y0 y1 y2 y3 y4 y5 y6 y7 y8 y9 y10 y11 y12 y13; obtain ⟨x0, x1, x2, x3, x4, x5, x6, x7, x8, x9, x10, x11, x12, x13⟩ := U1.cSt; obtain ⟨y0, y1, y2, y3, y4, y5, y6, y7, y8, y9, y10, y11, y12, y13⟩ := V1.cSt)) | (go_at_call 33; ((with_reducible refine (HBO.out _ K1).mono ?_); rintro e u2 ⟨rfl, hb2⟩; have K2 := below_step K1 hb2; have U2 := U1.below' hb2; have V2 := V1.below' hb2; have lu2 := U2.lt; have lv2 := V2.lt; clear x0 x1 x2 x3 x4 x5 x6 x7 x8 x9 x10 x11 x12 x13 y0 y1 y2 y3 y4 y5 y6 y7 y8 y9 y10 y11 y12 y13; obtain ⟨x0, x1, x2, x3, x4, x5, x6, x7, x8, x9, x10, x11, x12, x13⟩ := U2.cSt; obtain ⟨y0, y1, y2, y3, y4, y5, y6, y7, y8, y9, y10, y11, y12, y13⟩ := V2.cSt)) | (go_at_call 33; ((with_reducible refine (HEL.out _ K2).mono ?_); rintro e u3 ⟨rfl, hb3⟩; have K3 := below_step K2 hb3; have U3 := U2.below' hb3; have V3 := V2.below' hb3; have lu3 := U3.lt; have lv3 := V3.lt; clear x0 x1 x2 x3 x4 x5 x6 x7 x8 x9 x10 x11 x12 x13 y0 y1 y2 y3 y4 y5 y6 y7 y8 y9 y10 y11 y12 y13; obtain ⟨x0, x1, x2, x3, x4, x5, x6, x7, x8, x9, x10, x11, x12, x13⟩ := U3.cSt; obtain ⟨y0, y1, y2, y3, y4, y5, y6, y7, y8, y9, y10, y11, y12, y13⟩ := V3.cSt)))
                        go_ret
                        exact ⟨by rw [HF.out]; rfl, K3⟩
                      · rw [rc] at HEL HS2
                        clear rc
                        cases rd : sameCs x.cases y.cases
                        · rw [rd] at HCA HS2
                          have HF := Lib.hid (HNO.out (by rw [HS2.out]; simp))
                          clear rd
                          go_wp2_with (first | (go_at_call 60; ((with_reducible refine HEX.out.mono ?_); rintro e u1 ⟨rfl, hb1⟩; have K1 := below_step KE hb1; have U1 := UE.below' hb1; have V1 := VE.below' hb1; have lu1 := U1.lt; have lv1 := V1.lt; clear x0 x1 x2 x3 x4 x5 x6 x7 x8 x9 x10 x11 x12 x13 y0 y1 y2 y3 y4 y5 y6 y7 y8 y9 y10 y11 y12 y13; obtain ⟨x0, x1, x2, x3, x4, x5, x6, x7, x8, x9, x10, x11, x12, x13⟩ := U1.cSt; obtain ⟨y0, y1, y2, y3, y4, y5, y6, y7, y8, y9, y10, y11, y12, y13⟩ := V1.cSt)) | (go_at_call 33; ((with_reducible refine (HBO.out _ K1).mono ?_); rintro e u2 ⟨rfl, hb2⟩; have K2 := below_step K1 hb2; have U2 := U1.below' hb2; have V2 := V1.below' hb2; have lu2 := U2.lt; have lv2 := V2.lt; clear x0 x1 x2 x3 x4 x5 x6 x7 x8 x9 x10 x11 x12 x13 y0 y1 y2 y3 y4 y5 y6 y7 y8 y9 y10 y11 y12 y13; obtain ⟨x0, x1, x2, x3, x4, x5, x6, x7, x8, x9, x10, x11, x12, x13⟩ := U2.cSt; obtain ⟨y0, y1, y2, y3, y4, y5, y6, y7, y8, y9, y10, y11, y12, y13⟩ := V2.cSt)) | (go_at_call 33; ((with_reducible refine (HEL.out _ K2).mono ?_); rintro e u3 ⟨rfl, hb3⟩; have K3 := below_step K2 hb3; have U3 := U2.below' hb3; have V3 := V2.below' hb3; have lu3 := U3.lt; have lv3 := V3.lt; clear x0 x1 x2 x3 x4 x5 x6 x7 x8 x9 x10 x11 x12 x13 y0 y1 y2 y3 y4 y5 y6 y7 y8 y9 y10 y11 y12 y13; obtain ⟨x0, x1, x2, x3, x4, x5, x6, x7, x8, x9, x10, x11, x12, x13⟩ := U3.cSt; obtain ⟨y0, y1, y2, y3, y4, y5, y6, y7, y8, y9, y10, y11, y12, y13⟩ := V3.cSt)) | (go_at_call 61; ((with_reducible refine (HCA.out _ K3).mono ?_); rintro e u4 ⟨rfl, hb4⟩; have K4 := below_step K3 hb4; have U4 := U3.below' hb4; have V4 := V3.below' hb4; have lu4 := U4.lt; have lv4 := V4.lt; clear x0 x1 x2 x3 x4 x5 x6 x7 x8 x9 x10 x11 x12 x13 y0 y1 y2 y3 y4 y5 y6 y7 y8 y9 y10 y11 y12 y13; obtain ⟨x0, x1, x2, x3, x4, x5, x6, x7, x8, x9, x10, x11, x12, x13⟩ := U4.cSt; obtain ⟨y0, y1, y2, y3, y4, y5, y6, y7, y8, y9, y10, y11, y12, y13⟩ := V4.cSt)))
                          go_ret
                          exact ⟨by rw [HF.out]; rfl, K4⟩
                        · rw [rd] at HCA HS2
                          clear rd
                          have HF := Lib.hid (HRS.out.trans (by rw [HS2.out]))
                          go_wp2_with (first | (go_at_call 60; ((with_reducible refine HEX.out.mono ?_); rintro e u1 ⟨rfl, hb1⟩; have K1 := below_step KE hb1; have U1 := UE.below' hb1; have V1 := VE.below' hb1; have lu1 := U1.lt; have lv1 := V1.lt; clear x0 x1 x2 x3 x4 x5 x6 x7 x8 x9 x10 x11 x12 x13 y0 y1 y2 y3 y4 y5 y6 y7 y8 y9 y10 y11 y12 y13; obtain ⟨x0, x1, x2, x3, x4, x5, x6, x7, x8, x9, x10, x11, x12, x13⟩ := U1.cSt; obtain ⟨y0, y1, y2, y3, y4, y5, y6, y7, y8, y9, y10, y11, y12, y13⟩ := V1.cSt)) | (go_at_call 33; ((with_reducible refine (HBO.out _ K1).mono ?_); rintro e u2 ⟨rfl, hb2⟩; have K2 := below_step K1 hb2; have U2 := U1.below' hb2; have V2 := V1.below' hb2; have lu2 := U2.lt; have lv2 := V2.lt; clear x0 x1 x2 x3 x4 x5 x6 x7 x8 x9 x10 x11 x12 x13 y0 y1 y2 y3 y4 y5 y6 y7 y8 y9 y10 y11 y12 y13; obtain ⟨x0, x1, x2, x3, x4, x5, x6, x7, x8, x9, x10, x11, x12, x13⟩ := U2.cSt; obtain ⟨y0, y1, y2, y3, y4, y5, y6, y7, y8, y9, y10, y11, y12, y13⟩ := V2.cSt)) | (go_at_call 33; ((with_reducible refine (HEL.out _ K2).mono ?_); rintro e u3 ⟨rfl, hb3⟩; have K3 := below_step K2 hb3; have U3 := U2.below' hb3; have V3 := V2.below' hb3; have lu3 := U3.lt; have lv3 := V3.lt; clear x0 x1 x2 x3 x4 x5 x6 x7 x8 x9 x10 x11 x12 x13 y0 y1 y2 y3 y4 y5 y6 y7 y8 y9 y10 y11 y12 y13; obtain ⟨x0, x1, x2, x3, x4, x5, x6, x7, x8, x9, x10, x11, x12, x13⟩ := U3.cSt; obtain ⟨y0, y1, y2, y3, y4, y5, y6, y7, y8, y9, y10, y11, y12, y13⟩ := V3.cSt)) | (go_at_call 61; ((with_reducible refine (HCA.out _ K3).mono ?_); rintro e u4 ⟨rfl, hb4⟩; have K4 := below_step K3 hb4; have U4 := U3.below' hb4; have V4 := V3.below' hb4; have lu4 := U4.lt; have lv4 := V4.lt; clear x0 x1 x2 x3 x4 x5 x6 x7 x8 x9 x10 x11 x12 x13 y0 y1 y2 y3 y4 y5 y6 y7 y8 y9 y10 y11 y12 y13; obtain ⟨x0, x1, x2, x3, x4, x5, x6, x7, x8, x9, x10, x11, x12, x13⟩ := U4.cSt; obtain ⟨y0, y1, y2, y3, y4, y5, y6, y7, y8, y9, y10, y11, y12, y13⟩ := V4.cSt)))
                          go_roundw
                          case rel =>
                            have hfin := (⟨k + 1, by omega, by go_num, HF, K4⟩ : ∃ k' : Nat, k' ≤ l.length ∧ Value.int .i64 ((k : Int) + 1) = .int .i64 k' ∧ Hid (eqAll (fun k => sameS (nthS l k) (nthS m k)) k' = true) ∧ Below w.heap.size w u4)
                            first | exact hfin | ((repeat apply Exists.intro); exact ⟨hfin, rfl⟩)
                          case measure => first | (simp [intOf]; done) | (simp [intOf]; omega)
        · obtain rfl : k = l.length := by omega
          go_wp2
          go_ret
          exact ⟨by rw [sameSs_yes HL.out HQ.out]; rfl, hgr⟩
    · have hn : ((l.length : Int) != (m.length : Int)) = true := by simp; omega
      have HL := Lib.hid hl
      clear hl
      go_enter Tryd.func33, Tryd.ntmps33
      (try simp only [List.append_eq, List.cons_append, List.nil_append])
      go_wp2
      go_ret
      exact ⟨by rw [sameSs_len HL.out]; rfl, Below.refl _ _⟩
end Go.Proofs.YtdddppmfeoebgaaDoor

/-
  Layer 2 (tree): the walk of Big: some answer.
-/
namespace Go.Proofs.YtdddppmfeoebgaaDoor
open Go.RowKit
set_option linter.unusedSimpArgs false
set_option linter.unusedVariables false
def SomeB (w : World) (e : Ending) (w' : World) : Prop := ∃ b : Bool, e = .returned (.bool b) ∧ Below w.heap.size w w'
set_option maxHeartbeats 4000000 in
theorem bigR (p : PrD) (wa fa : Option Addr) (wc fc B : Nat) (w : World) (hB : B ≤ w.heap.size) (hp : PrOk w B p wa fa) :
    Calls Tryd.prog 16 #[prV p wa fa wc fc] w (SomeB w) := by
  obtain ⟨hd, rows, each, len⟩ := hp.funcs.open_
  have HR := Lib.hid rows
  have HE := Lib.hid each
  have X0 := Whl.new w 26 (prC p wa fa wc fc)
  clear rows each hp
  go_enter Tryd.func16, Tryd.ntmps16
  go_wp2
  go_loopw [3, 4] (fun n i W => ∃ (k : Nat) (z : Int), k ≤ p.funcs.length ∧ i = .int .i64 k ∧ n = .int .i64 z ∧ Hid (-100000000000000 ≤ z ∧ z ≤ 1048576) ∧ Below w.heap.size w W ∧ Whl W w.heap.size 26 (prC p wa fa wc fc)) (fun _ i _ => p.funcs.length - (intOf i).toNat)
  case atStart => exact ⟨0, 1048576, Nat.zero_le _, rfl, rfl, Lib.hid (by omega), below_alloc (Below.refl _ _) _, X0⟩
  case round =>
    obtain ⟨k, z, hk, rfl, rfl, HQ, hW, hX⟩ := hrel
    obtain ⟨hr0, hr1⟩ := HQ.out
    obtain ⟨q0, q1⟩ := hX.c2
    have lx := hX.lt
    have hWl := hW.size
    by_cases hgo : k < p.funcs.length ∧ 0 ≤ z
    · obtain ⟨hlt, hr⟩ := hgo
      obtain ⟨b, off, hfa, c0, c1, c2⟩ := HR.out wr (hW.mono hB) k hlt
      have lb : b < wr.heap.size := World.block_lt_of_cell? _ _ c0
      have pl := (HE.out k hlt).plen
      rw [hfa] at q1
      clear hfa
      by_cases h2 : 0 ≤ z - (1 + ((nthF p.funcs k).params.length : Int))
      · go_wp2_with (go_at_call 32; go_must (refine (stmtsR (nthF p.funcs k).body (hd k).body.a (hd k).body.c B (z - (1 + ((nthF p.funcs k).params.length : Int))) wr (by omega) (((HE.out k hlt).keep (hW.mono hB) (Nat.le_refl _)).body) (by omega) (by omega)).mono ?_; rintro e w1 ⟨r1, rfl, hr1, hb1⟩; obtain ⟨g0, g1⟩ := hr1.lo (by omega); have g2 : r1 ≤ z - (1 + ((nthF p.funcs k).params.length : Int)) + 3 := (by rcases hr1 with ⟨a, b⟩ | ⟨a, b, c, d⟩ <;> omega); clear hr1))
        go_roundw
        case rel => exact ⟨k + 1, _, by omega, by go_num, rfl, Lib.hid (by omega), below_step hW hb1, hX.below' hb1⟩
        case measure => simp [intOf]; omega
      · go_wp2
        go_roundw
        case rel => exact ⟨k + 1, _, by omega, by go_num, rfl, Lib.hid (by omega), hW, hX⟩
        case measure => simp [intOf]; omega
    · by_cases hn : z < 0
      · have hn2 : decide (0 ≤ z) = false := by simp; omega
        have hn3 : decide (z < 0) = true := by simp; omega
        by_cases hlt : k < p.funcs.length
        · go_wp2
          go_ret
          exact ⟨true, rfl, hW⟩
        · go_wp2
          go_ret
          exact ⟨true, rfl, hW⟩
      · have hn3 : decide (z < 0) = false := by simp; omega
        have hlt : ¬ k < p.funcs.length := by omega
        go_wp2
        go_ret
        exact ⟨_, rfl, hW⟩
end Go.Proofs.YtdddppmfeoebgaaDoor

/-
  Layer 2 (tree): the walk of the reference's Same.
-/
namespace Go.Proofs.YtdddppmfeoebgaaDoor
open Go.RowKit
set_option linter.unusedSimpArgs false
set_option linter.unusedVariables false
theorem sameSR (l m : List StD) (A A2 : Option Addr) (c cc B : Nat) (w : World) (hB : B ≤ w.heap.size) (hx : StsAt w B A l) (hy : StsAt w B A2 m) :
    Calls Tryd.prog 33 #[.slice A l.length c, .slice A2 m.length cc] w fun e w' => e = .returned (.bool (sameSs l m)) ∧ Below w.heap.size w w' := sameSRN _ l m A A2 c cc B w (Nat.lt_succ_self _) hB hx hy
theorem samePas_no {l m : List PaD} {k : Nat} (hk : k < l.length) (h : samePa (nthP l k) (nthP m k) = false) : samePas l m = false := by rw [samePas_all l m, eqAll_no hk h, Bool.and_false]
theorem samePas_len {l m : List PaD} (h : l.length ≠ m.length) : samePas l m = false := by rw [samePas_all l m]; simp [h]
theorem samePas_yes {l m : List PaD} (e : l.length = m.length) (h : eqAll (fun k => samePa (nthP l k) (nthP m k)) l.length = true) : samePas l m = true := by rw [samePas_all l m, h]; simp [e]
theorem sameP_w {p q : PrD} {k : Nat} (hk : k < p.widen.length) (h : (nthI p.widen k == nthI q.widen k) = false) : sameP p q = false := by
  rw [sameP, ← sameIs_eq, sameIs, eqAll_no hk h, Bool.and_false, Bool.false_and]
theorem sameP_f {p q : PrD} {k : Nat} (hk : k < p.funcs.length) (h : sameFn (nthF p.funcs k) (nthF q.funcs k) = false) : sameP p q = false := by rw [sameP, sameFns_at hk h, Bool.and_false]
theorem sameP_wl {p q : PrD} (h : p.widen.length ≠ q.widen.length) : sameP p q = false := by rw [sameP, ← sameIs_eq, sameIs]; simp [h]
theorem sameP_fl {p q : PrD} (h : p.funcs.length ≠ q.funcs.length) : sameP p q = false := by rw [sameP, sameFns_len h, Bool.and_false]
theorem sameP_all {p q : PrD} (h1 : p.widen.length = q.widen.length) (h2 : p.funcs.length = q.funcs.length) (h3 : eqAll (fun k => nthI p.widen k == nthI q.widen k) p.widen.length = true) (h4 : eqAll (fun k => sameFn (nthF p.funcs k) (nthF q.funcs k)) p.funcs.length = true) : sameP p q = true := by
  rw [sameP, ← sameIs_eq, sameIs, h3, sameFns_yes h2 h4]; simp [h1]
set_option maxRecDepth 100000 in
set_option maxHeartbeats 8000000 in
theorem sameRef (p q : PrD) (wa fa wa2 fa2 : Option Addr) (uc vc uc2 vc2 B : Nat) (w : World) (hB : B ≤ w.heap.size) (hp : PrOk w B p wa fa) (hq : PrOk w B q wa2 fa2) :
    Calls Tryd.prog 17 #[prV p wa fa uc vc, prV q wa2 fa2 uc2 vc2] w fun e w' => e = .returned (.bool (sameP p q)) ∧ Below w.heap.size w w' := by
  obtain ⟨wlen, wrow, wwf, fns⟩ := hp
  obtain ⟨wlen2, wrow2, wwf2, fns2⟩ := hq
  obtain ⟨hd, frow, each, flen⟩ := fns.open_
  obtain ⟨hd2, frow2, each2, flen2⟩ := fns2.open_
  have HW := Lib.hid wrow
  have HW2 := Lib.hid wrow2
  have HF := Lib.hid frow
  have HF2 := Lib.hid frow2
  have HE := Lib.hid each
  have HE2 := Lib.hid each2
  clear wrow wrow2 frow frow2 each each2 fns fns2 wwf wwf2
  have P1 := (Whl.new w 26 (prC p wa fa uc vc)).alloc (.cells (prC q wa2 fa2 uc2 vc2) 26)
  have Q1 := Whl.new1 w (.cells (prC p wa fa uc vc) 26) 26 (prC q wa2 fa2 uc2 vc2)
  have B1 := below_alloc (below_alloc (Below.refl w.heap.size w) (.cells (prC p wa fa uc vc) 26)) (.cells (prC q wa2 fa2 uc2 vc2) 26)
  by_cases hw : p.widen.length = q.widen.length
  · have hw1 : ((p.widen.length : Int) != (q.widen.length : Int)) = false := by simp [hw]
    have HWL := Lib.hid hw
    clear hw
    by_cases hf : p.funcs.length = q.funcs.length
    · have hf1 : ((p.funcs.length : Int) != (q.funcs.length : Int)) = false := by simp [hf]
      have HFL := Lib.hid hf
      clear hf
      go_enter Tryd.func17, Tryd.ntmps17
      (try simp only [List.append_eq, List.cons_append, List.nil_append])
      go_wp2
      clear hw1 hf1
      go_loopw [5] (fun i W => ∃ k : Nat, k ≤ p.widen.length ∧ i = .int .i64 k ∧ Hid (eqAll (fun k => nthI p.widen k == nthI q.widen k) k = true) ∧ Below w.heap.size w W ∧ Whl W w.heap.size 26 (prC p wa fa uc vc) ∧ Whl W (w.heap.size + 1) 26 (prC q wa2 fa2 uc2 vc2)) (fun i _ => p.widen.length - (intOf i).toNat)
      case atStart => exact ⟨0, Nat.zero_le _, rfl, Lib.hid rfl, B1, P1, Q1⟩
      case round =>
        obtain ⟨k, hk, rfl, HQ, hgr, PP, QQ⟩ := hrel
        have l1 := hgr.size
        have l2 := QQ.lt
        obtain ⟨e0, e1⟩ := PP.c2
        obtain ⟨g0, g1⟩ := QQ.c2
        clear P1 Q1 B1
        by_cases hlt : k < p.widen.length
        · have hlt2 : k < q.widen.length := by have := HWL.out; omega
          obtain ⟨b, offb, rfl, hbb, hcb⟩ := (HW.out.below hgr hB) (by omega)
          have c0 : wr.cell? ⟨b, offb + k, none⟩ = some (.int .i64 (nthI p.widen k)) := by have := hcb k hlt 0 (by omega); rw [Nat.mul_one, Nat.add_zero] at this; exact this
          clear hcb
          obtain ⟨b2, offb2, rfl, hbb2, hcb2⟩ := (HW2.out.below hgr hB) (by omega)
          have d0 : wr.cell? ⟨b2, offb2 + k, none⟩ = some (.int .i64 (nthI q.widen k)) := by have := hcb2 k hlt2 0 (by omega); rw [Nat.mul_one, Nat.add_zero] at this; exact this
          clear hcb2
          have HPP := Lib.hid PP
          have HQQ := Lib.hid QQ
          clear PP QQ
          cases hx : (nthI p.widen k == nthI q.widen k)
          · have HX := Lib.hid hx
            have hx' : (nthI p.widen k != nthI q.widen k) = true := by rw [bne, HX.out]; rfl
            go_wp2
            go_region
            all_goals go_wp2
            all_goals go_ret
            all_goals exact ⟨by rw [sameP_w hlt HX.out]; rfl, by first | exact hgr | exact hgr.drew | exact (Below.drewN hgr _)⟩
          · have HX := Lib.hid hx
            have hx' : (nthI p.widen k != nthI q.widen k) = false := by rw [bne, HX.out]; rfl
            go_wp2
            go_region
            all_goals go_wp2
            all_goals go_roundw
            case rel => exact ⟨k + 1, by omega, by go_num, Lib.hid (by rw [eqAll, HQ.out, HX.out]; rfl), by first | exact hgr | exact hgr.drew, by first | exact HPP.out | exact HPP.out.drew, by first | exact HQQ.out | exact HQQ.out.drew⟩
            case measure => first | (simp [intOf]; done) | (simp [intOf]; omega)
        · obtain rfl : k = p.widen.length := by omega
          have HWA := Lib.hid HQ.out
          clear HQ
          obtain ⟨wo, hwo⟩ : ∃ wo : World, wo = wr := ⟨_, rfl⟩
          subst hwo
          go_wp2
          go_loopw [6] (fun i W => ∃ k : Nat, k ≤ p.funcs.length ∧ i = .int .i64 k ∧ Hid (eqAll (fun k => sameFn (nthF p.funcs k) (nthF q.funcs k)) k = true) ∧ Below w.heap.size w W ∧ Whl W w.heap.size 26 (prC p wa fa uc vc) ∧ Whl W (w.heap.size + 1) 26 (prC q wa2 fa2 uc2 vc2)) (fun i _ => p.funcs.length - (intOf i).toNat)
          case atStart => exact ⟨0, Nat.zero_le _, rfl, Lib.hid rfl, hgr, PP, QQ⟩
          case round =>
            clear PP QQ e0 e1 g0 g1 l1 l2 hgr
            obtain ⟨k, hk, rfl, HQ, hgr, PP, QQ⟩ := hrel
            have l1 := hgr.size
            have l2 := QQ.lt
            have l3 : w.heap.size < wr.heap.size := by omega
            obtain ⟨e0, e1⟩ := PP.c2
            obtain ⟨g0, g1⟩ := QQ.c2
            by_cases hlt : k < p.funcs.length
            · have hlt2 : k < q.funcs.length := by have := HFL.out; omega
              obtain ⟨b, off, rfl, c0, c1, c2⟩ := HF.out wr (hgr.mono hB) k hlt
              obtain ⟨b2, off2, rfl, d0, d1, d2⟩ := HF2.out wr (hgr.mono hB) k hlt2
              have lb : b < wr.heap.size := World.block_lt_of_cell? _ _ c0
              have lb2 : b2 < wr.heap.size := World.block_lt_of_cell? _ _ d0
              have he := Lib.hid (HE.out k hlt)
              have he2 := Lib.hid (HE2.out k hlt2)
              have HNO : Hid (sameFn (nthF p.funcs k) (nthF q.funcs k) = false → sameP p q = false) := Lib.hid (sameP_f hlt)
              have HRS : Hid (eqAll (fun k => sameFn (nthF p.funcs k) (nthF q.funcs k)) (k + 1) = sameFn (nthF p.funcs k) (nthF q.funcs k)) := Lib.hid (by rw [eqAll, HQ.out]; rfl)
              revert c0 c1 c2 d0 d1 d2 he he2 HNO HRS
              generalize nthF p.funcs k = x
              generalize nthF q.funcs k = y
              generalize hd k = h
              generalize hd2 k = h2
              intro c0 c1 c2 d0 d1 d2 he he2 HNO HRS
              have HS : Hid (sameFn x y = (decide (x.name = y.name) && samePas x.params y.params && sameSs x.body y.body)) := Lib.hid rfl
              have HBO : Hid (∀ W, Below w.heap.size w W → Calls Tryd.prog 33 #[.slice h.body.a x.body.length h.body.c, .slice h2.body.a y.body.length h2.body.c] W fun e W' => e = .returned (.bool (sameSs x.body y.body)) ∧ Below W.heap.size W W') := Lib.hid fun W hW => sameSR _ _ _ _ _ _ B W (Nat.le_trans hB hW.size) (he.out.body.keep hW hB) (he2.out.body.keep hW hB)
              have HPR := Lib.hid he.out.params
              have HPR2 := Lib.hid he2.out.params
              have plen := he.out.plen
              have plen2 := he2.out.plen
              clear he he2
              have HPP := Lib.hid PP
              have HQQ := Lib.hid QQ
              clear PP QQ
              go_upto_region 11 with fail
              go_cut [7, 8] (fun va vb W => ∃ xb yb, va = .pointer (some ⟨xb, 0, none⟩) ∧ vb = .pointer (some ⟨yb, 0, none⟩) ∧ Whl W xb 41 (fnC x h) ∧ Whl W yb 41 (fnC y h2) ∧ Below w.heap.size w W ∧ Whl W w.heap.size 26 (prC p wa (some ⟨b, off, none⟩) uc vc) ∧ Whl W (w.heap.size + 1) 26 (prC q wa2 (some ⟨b2, off2, none⟩) uc2 vc2))
              case first =>
                go_region
                all_goals (go_wp2; go_meet)
                all_goals first | exact ⟨_, _, rfl, rfl, ((Whl.new _ _ _).alloc _).drew, (Whl.new1 _ _ _ _).drew, (below_alloc (below_alloc hgr _) _).drew, ((HPP.out.alloc _).alloc _).drew, ((HQQ.out.alloc _).alloc _).drew⟩ | exact ⟨_, _, rfl, rfl, (Whl.new1 _ _ _ _).drew, ((Whl.new _ _ _).alloc _).drew, (below_alloc (below_alloc hgr _) _).drew, ((HPP.out.alloc _).alloc _).drew, ((HQQ.out.alloc _).alloc _).drew⟩
              case rest =>
                obtain ⟨xb, yb, rfl, rfl, X0, Y0, K0, PC, QC⟩ := hcut
                clear HPP HQQ e0 e1 g0 g1 c0 c1 c2 d0 d1 d2
                obtain ⟨x0, x1, x2⟩ := X0.c3
                obtain ⟨y0, y1, y2⟩ := Y0.c3
                obtain ⟨e0, e1⟩ := PC.c2
                obtain ⟨g0, g1⟩ := QC.c2
                have lx := X0.lt
                have ly := Y0.lt
                cases hs : decide (x.name = y.name)
                · have hs0 := strd_eq hs
                  have hs1 : (x.name.toList != y.name.toList) = true := by rw [bne, hs0]; rfl
                  have HX := Lib.hid (HNO.out (by rw [HS.out, hs]; rfl))
                  clear hs
                  go_wp2
                  go_ret
                  exact ⟨by rw [HX.out]; rfl, K0⟩
                · have hs0 := strd_eq hs
                  have hs1 : (x.name.toList != y.name.toList) = false := by rw [bne, hs0]; rfl
                  have HD := Lib.hid hs
                  clear hs
                  by_cases hpl : x.params.length = y.params.length
                  · have hp1 : ((x.params.length : Int) != (y.params.length : Int)) = false := by simp [hpl]
                    have HPL := Lib.hid hpl
                    clear hpl
                    cases hb : sameSs x.body y.body
                    · rw [hb] at HBO
                      have HX := Lib.hid (HNO.out (by rw [HS.out, hb]; simp))
                      clear hb
                      go_wp2_with (go_at_call 33; go_must (refine (HBO.out _ K0).mono ?_; rintro e u1 ⟨rfl, hb1⟩))
                      go_ret
                      exact ⟨by rw [HX.out]; rfl, below_step K0 hb1⟩
                    · rw [hb] at HBO
                      have HS2 := Lib.hid (show sameFn x y = samePas x.params y.params by rw [HS.out, HD.out, hb]; simp)
                      clear hb
                      go_wp2_with (go_at_call 33; go_must (refine (HBO.out _ K0).mono ?_; rintro e u1 ⟨rfl, hb1⟩; have K1 := below_step K0 hb1; have X1 := X0.below' hb1; have Y1 := Y0.below' hb1; have PC1 := PC.below' hb1; have QC1 := QC.below' hb1))
                      clear hp1 x0 x1 x2 y0 y1 y2 e0 e1 g0 g1 lx ly
                      go_loopw [9] (fun i W => ∃ j : Nat, j ≤ x.params.length ∧ i = .int .i64 j ∧ Hid (eqAll (fun k => samePa (nthP x.params k) (nthP y.params k)) j = true) ∧ Below w.heap.size w W ∧ Whl W w.heap.size 26 (prC p wa (some ⟨b, off, none⟩) uc vc) ∧ Whl W (w.heap.size + 1) 26 (prC q wa2 (some ⟨b2, off2, none⟩) uc2 vc2) ∧ Whl W xb 41 (fnC x h) ∧ Whl W yb 41 (fnC y h2)) (fun i _ => x.params.length - (intOf i).toNat)
                      case atStart => exact ⟨0, Nat.zero_le _, rfl, Lib.hid rfl, K1, PC1, QC1, X1, Y1⟩
                      case round =>
                        clear X0 Y0 K0 PC QC X1 Y1 K1 PC1 QC1 hb1
                        obtain ⟨j, hj, rfl, HJ, K1, PC1, QC1, X1, Y1⟩ := hrel
                        obtain ⟨x0, x1, x2⟩ := X1.c3
                        obtain ⟨y0, y1, y2⟩ := Y1.c3
                        have lx := X1.lt
                        have ly := Y1.lt
                        by_cases hjt : j < x.params.length
                        · have hjt2 : j < y.params.length := by have := HPL.out; omega
                          obtain ⟨b3, o3, ha3, c0, c1, c2⟩ := (HPR.out.below K1 hB).pa hjt
                          obtain ⟨b4, o4, ha4, d0, d1, d2⟩ := (HPR2.out.below K1 hB).pa hjt2
                          rw [ha3] at x1
                          rw [ha4] at y1
                          clear ha3 ha4
                          have HX1 := Lib.hid X1
                          have HY1 := Lib.hid Y1
                          have HPC := Lib.hid PC1
                          have HQC := Lib.hid QC1
                          clear X1 Y1 PC1 QC1
                          cases s0 : decide ((nthP x.params j).name = (nthP y.params j).name)
                          · have n0 := strd_eq s0
                            have HZ := Lib.hid (HNO.out (HS2.out.trans (samePas_no hjt (by unfold samePa; rw [s0]; first | rfl | simp))))
                            clear s0
                            go_wp2
                            go_region
                            all_goals go_wp2
                            all_goals go_ret
                            all_goals exact ⟨by rw [HZ.out]; rfl, by first | exact K1 | exact K1.drew | exact (Below.drewN K1 _)⟩
                          · have n0 := strd_eq s0
                            cases s1 : ((nthP x.params j).lo == (nthP y.params j).lo)
                            · skip
                              have HZ := Lib.hid (HNO.out (HS2.out.trans (samePas_no hjt (by unfold samePa; rw [s0, s1]; first | rfl | simp))))
                              clear s0
                              go_wp2
                              go_region
                              all_goals go_wp2
                              all_goals go_ret
                              all_goals exact ⟨by rw [HZ.out]; rfl, by first | exact K1 | exact K1.drew | exact (Below.drewN K1 _)⟩
                            · cases s2 : ((nthP x.params j).hi == (nthP y.params j).hi)
                              · skip
                                have HZ := Lib.hid (HNO.out (HS2.out.trans (samePas_no hjt (by unfold samePa; rw [s0, s1, s2]; first | rfl | simp))))
                                clear s0
                                go_wp2
                                go_region
                                all_goals go_wp2
                                all_goals go_ret
                                all_goals exact ⟨by rw [HZ.out]; rfl, by first | exact K1 | exact K1.drew | exact (Below.drewN K1 _)⟩
                              · have hone : samePa (nthP x.params j) (nthP y.params j) = true := by unfold samePa; rw [s0, s1, s2]; rfl
                                have HONE := Lib.hid hone
                                clear s0 hone
                                go_wp2
                                go_region
                                all_goals go_wp2
                                all_goals go_roundw
                                case rel =>
                                  have hfin := fun (W : World) (a : Below w.heap.size w W) (b1) (c1) (d1) (e1) => (⟨j + 1, by omega, by go_num, Lib.hid (by rw [eqAll, HJ.out, HONE.out]; rfl), a, b1, c1, d1, e1⟩ : ∃ j' : Nat, j' ≤ x.params.length ∧ Value.int .i64 ((j : Int) + 1) = .int .i64 j' ∧ Hid (eqAll (fun k => samePa (nthP x.params k) (nthP y.params k)) j' = true) ∧ Below w.heap.size w W ∧ Whl W w.heap.size 26 (prC p wa (some ⟨b, off, none⟩) uc vc) ∧ Whl W (w.heap.size + 1) 26 (prC q wa2 (some ⟨b2, off2, none⟩) uc2 vc2) ∧ Whl W xb 41 (fnC x h) ∧ Whl W yb 41 (fnC y h2))
                                  first | exact hfin _ K1.drew HPC.out.drew HQC.out.drew HX1.out.drew HY1.out.drew | exact hfin _ K1 HPC.out HQC.out HX1.out HY1.out | ((repeat apply Exists.intro); exact ⟨hfin _ K1.drew HPC.out.drew HQC.out.drew HX1.out.drew HY1.out.drew, rfl⟩) | ((repeat apply Exists.intro); exact ⟨hfin _ K1 HPC.out HQC.out HX1.out HY1.out, rfl⟩)
                                case measure => first | (simp [intOf]; done) | (simp [intOf]; omega)
                        · obtain rfl : j = x.params.length := by omega
                          have hall := samePas_yes HPL.out HJ.out
                          have HALL := Lib.hid (HRS.out.trans (HS2.out.trans hall))
                          clear hall
                          have HX1 := Lib.hid X1
                          have HPC := Lib.hid PC1
                          have HQC := Lib.hid QC1
                          go_wp2
                          go_roundw
                          case rel =>
                            have hfin := (⟨k + 1, by omega, by go_num, HALL, K1, HPC.out, HQC.out⟩ : ∃ k' : Nat, k' ≤ p.funcs.length ∧ Value.int .i64 ((k : Int) + 1) = .int .i64 k' ∧ Hid (eqAll (fun k => sameFn (nthF p.funcs k) (nthF q.funcs k)) k' = true) ∧ Below w.heap.size w wr ∧ Whl wr w.heap.size 26 (prC p wa (some ⟨b, off, none⟩) uc vc) ∧ Whl wr (w.heap.size + 1) 26 (prC q wa2 (some ⟨b2, off2, none⟩) uc2 vc2))
                            first | exact hfin | ((repeat apply Exists.intro); exact ⟨hfin, rfl⟩)
                          case measure => first | (simp [intOf]; done) | (simp [intOf]; omega)
                  · have hp1 : ((x.params.length : Int) != (y.params.length : Int)) = true := by simp; omega
                    have HX := Lib.hid (HNO.out (by rw [HS.out, samePas_len hpl]; simp))
                    clear hpl
                    go_wp2
                    go_ret
                    exact ⟨by rw [HX.out]; rfl, K0⟩
            · obtain rfl : k = p.funcs.length := by omega
              have hall := sameP_all HWL.out HFL.out HWA.out HQ.out
              have HALL := Lib.hid hall
              clear hall
              go_wp2
              go_ret
              exact ⟨by rw [HALL.out]; rfl, hgr⟩
    · have hf1 : ((p.funcs.length : Int) != (q.funcs.length : Int)) = true := by simp; omega
      have HX := Lib.hid (sameP_fl hf)
      clear hf
      go_enter Tryd.func17, Tryd.ntmps17
      (try simp only [List.append_eq, List.cons_append, List.nil_append])
      go_wp2
      go_ret
      exact ⟨by rw [HX.out]; rfl, B1⟩
  · have hw1 : ((p.widen.length : Int) != (q.widen.length : Int)) = true := by simp; omega
    have HX := Lib.hid (sameP_wl hw)
    clear hw
    go_enter Tryd.func17, Tryd.ntmps17
    (try simp only [List.append_eq, List.cons_append, List.nil_append])
    go_wp2
    go_ret
    exact ⟨by rw [HX.out]; rfl, B1⟩
end Go.Proofs.YtdddppmfeoebgaaDoor
