/-
  Layer 2 (tree): the reference's Nodes.
-/
import Derived.Test.YtdddppmfeoebgaaGreatDoorNodes
import Derived.Deep.CutBlock
namespace Go.Proofs.YtdddppmfeoebgaaGreatDoor
open Go.RowKit
set_option linter.unusedSimpArgs false
set_option linter.unusedVariables false
theorem zeroR (x : ExD) (h : Hd) (w : World) (hn : x.name.size ≤ maxLen) :
    Calls Tryz.prog 101 #[.agg #[.int .i64 x.kind, .int .i64 x.n, .string x.name, .slice h.a x.args.length h.c]] w fun e w' => e = .returned (.bool (zeroE x)) ∧ Below w.heap.size w w' := by
  have hl : (x.name.toList == []) = (x.name.size == 0) := by
    rw [ByteArray.toList_eq]
    rw [Bool.eq_iff_iff, beq_iff_eq, beq_iff_eq]
    exact List.length_eq_zero_iff.symm.trans (by rw [Array.length_toList]; rfl)
  have hz : zeroE x = (x.kind == 0 && x.n == 0 && x.name.size == 0 && x.args.length == 0) := rfl
  have ha : ((x.args.length : Int) == 0) = (x.args.length == 0) := by rw [Bool.eq_iff_iff, beq_iff_eq, beq_iff_eq]; omega
  cases h1 : (x.kind == 0) <;> cases h2 : (x.n == 0) <;> cases h3 : (x.name.size == 0) <;> cases h4 : (x.args.length == 0)
  all_goals
    rw [h3] at hl
    rw [h4] at ha
    rw [hz, h1, h2, h3, h4]
    clear h3 h4 hz
    go_enter Tryz.func101, Tryz.ntmps101
    go_wp2
    go_ret
    exact ⟨rfl, by repeat (first | exact Below.refl _ _ | (with_reducible refine Below.alloc ?_ (by simp) _) | (with_reducible refine below_alloc ?_ _) | (with_reducible refine Below.setCell ?_ (by simp) _))⟩
/-- What exprs tells of so many parts. -/
def reD (c : Nat) (left : Int) : Int := if (c : Int) ≤ left then c else if left < -1 then 0 else left + 1
theorem reD_yes {c : Nat} {left : Int} (h : (c : Int) ≤ left) : reD c left = c := if_pos h
theorem reD_over {c : Nat} {left : Int} (h : left < (c : Int)) : reD c left = if left < -1 then 0 else left + 1 := if_neg (by omega)
theorem reD_no {c d : Nat} {left : Int} (h : left < (c : Int)) (h2 : left < (d : Int)) : reD c left = reD d left := by rw [reD_over h, reD_over h2]
theorem reD_bd (c : Nat) (left : Int) (h : left ≤ 1048576) : 0 ≤ reD c left ∧ reD c left ≤ 1048577 := by unfold reD; split <;> (try split) <;> omega
theorem reD_big {c : Nat} {left : Int} (h : left < (c : Int)) : left < reD c left := by unfold reD; rw [if_neg (by omega)]; split <;> omega
theorem reD_step {c d : Nat} {left : Int} (h : (c : Int) ≤ left) : (c : Int) + (1 + reD d (left - c - 1)) = reD (c + (1 + d)) left := by
  unfold reD; split <;> split <;> (try split) <;> (try split) <;> omega
def ExR (N : Nat) : Prop := ∀ (l : List ExD) (A : Option Addr) (c B : Nat) (left : Int) (w : World), SizeOf.sizeOf l < N → ExsAt w B A l → -8 ≤ left → left ≤ 1048576 →
    Calls Tryz.prog 102 #[.slice A l.length c, .int .i64 left] w fun e w' => e = .returned (.int .i64 (reD (cntEs l) left)) ∧ w = w'
set_option maxHeartbeats 4000000 in
theorem exprsRN (N : Nat) : ExR N := by
  induction N with
  | zero => intro l A c B left w hN; omega
  | succ N ih =>
    intro l A c B left w hN hk h0 h1
    have IH := Lib.hid ih
    obtain ⟨hd, rows, kids, len, _⟩ := hk.open_ 0
    have HR := Lib.hid (rows w (Turn.refl _ _ _))
    have HK := Lib.hid kids
    clear ih hk rows kids
    go_enter Tryz.func102, Tryz.ntmps102
    go_wp2
    go_loop [5, 6] (fun n i => ∃ (k : Nat) (r : Int), k ≤ l.length ∧ i = .int .i64 k ∧ n = .int .i64 r ∧ Hid (reD (cntEs (l.take k)) left = r)) (fun _ i => l.length - (intOf i).toNat)
    case atStart => exact ⟨0, 0, Nat.zero_le _, rfl, rfl, Lib.hid (by simp only [List.take_zero, cntEs, reD]; split <;> (try split) <;> omega)⟩
    case round =>
      obtain ⟨k, r, hk, rfl, rfl, HQ⟩ := hrel
      have hrb : 0 ≤ r ∧ r ≤ 1048577 := by rw [← HQ.out]; exact reD_bd _ _ h1
      have hr0 := hrb.1
      have hr1 := hrb.2
      clear hrb
      by_cases hlt : k < l.length
      · by_cases hr : r ≤ left
        · have hc : (cntEs (l.take k) : Int) ≤ left := by
            rcases Int.lt_or_le left (cntEs (l.take k)) with q | q
            · have := reD_big q; have := HQ.out; omega
            · exact q
          obtain rfl : r = (cntEs (l.take k) : Int) := by rw [← HQ.out, reD_yes hc]
          have HST := Lib.hid (reD_step (d := cntEs (nthE l k).args) hc)
          have hsn := Lib.hid (cntEs_snoc hlt)
          have hce := Lib.hid (cntE_eq (nthE l k))
          have hsz : SizeOf.sizeOf (nthE l k) < SizeOf.sizeOf l := getD_size _ hlt
          have hsa := args_size (nthE l k)
          obtain ⟨b, off, rfl, c0, c1, c2, c3⟩ := HR.out k hlt
          have HC := Lib.hid (IH.out (nthE l k).args (hd k).a (hd k).c B (left - (cntEs (l.take k) : Int) - 1) w (by omega) (HK.out k hlt) (by omega) (by omega))
          have hrb := reD_bd (cntEs (nthE l k).args) (left - (cntEs (l.take k) : Int) - 1) (by omega)
          have hr2 := hrb.1
          have hr3 := hrb.2
          clear hsz hsa hrb HQ
          revert hc hr hr0 hr1 HST hsn HC hr2 hr3
          generalize reD (cntEs (nthE l k).args) (left - (cntEs (l.take k) : Int) - 1) = rr
          generalize cntEs (l.take k) = c1
          intro hr0 hr1 hr hc HST hsn HC hr2 hr3
          go_wp2_with (go_at_call 102; go_must (refine HC.out.mono ?_; rintro e w1 ⟨rfl, rfl⟩))
          go_round
          case rel => exact ⟨k + 1, _, by omega, by go_num, rfl, Lib.hid (by rw [hsn.out, hce.out, ← HST.out])⟩
          case measure => simp [intOf]; omega
        · have hn : decide (r ≤ left) = false := by simpa using hr
          have hc : left < (cntEs (l.take k) : Int) := by
            rcases Int.lt_or_le left (cntEs (l.take k)) with q | q
            · exact q
            · have := HQ.out; rw [reD_yes q] at this; omega
          have he : reD (cntEs l) left = r := by rw [← HQ.out]; exact reD_no (by have := cntEs_cut l k; omega) hc
          have HE := Lib.hid he
          clear he hc
          go_wp2
          go_ret
          exact ⟨by rw [HE.out]; rfl, rfl⟩
      · obtain rfl : k = l.length := by omega
        have he : reD (cntEs l) left = r := by have := HQ.out; rwa [List.take_length] at this
        have HE := Lib.hid he
        clear he
        go_wp2
        go_ret
        exact ⟨by rw [HE.out]; rfl, rfl⟩
theorem exprsR (l : List ExD) (A : Option Addr) (c B : Nat) (left : Int) (w : World) (hk : ExsAt w B A l) (h0 : -8 ≤ left) (h1 : left ≤ 1048576) :
    Calls Tryz.prog 102 #[.slice A l.length c, .int .i64 left] w fun e w' => e = .returned (.int .i64 (reD (cntEs l) left)) ∧ w = w' := exprsRN _ l A c B left w (Nat.lt_succ_self _) hk h0 h1
/-- What stmts tells of so many parts. -/
def RS (c : Nat) (left r : Int) : Prop := ((c : Int) ≤ left ∧ r = c) ∨ (left < c ∧ left < r ∧ 0 ≤ r ∧ (r ≤ 0 ∨ r ≤ left + 3))
theorem RS.lo {c : Nat} {left r : Int} (h : RS c left r) (h1 : left ≤ 1048576) : 0 ≤ r ∧ r ≤ 1048579 := by rcases h with ⟨a, b⟩ | ⟨a, b, c, d⟩ <;> omega
theorem RS.on {c d : Nat} {left r q : Int} (h : RS c left r) (h0 : 0 ≤ left) (k : RS d (left - r) q) : RS (c + d) left (r + q) := by
  rcases h with ⟨a, b⟩ | ⟨a, b, c, d⟩ <;> rcases k with ⟨a2, b2⟩ | ⟨a2, b2, c2, d2⟩ <;> unfold RS <;> omega
theorem RS.on1 {c d : Nat} {left r q : Int} (h : RS c left r) (hr : r ≤ left) (k : RS d (left - r - 1) q) : RS (c + (1 + d)) left (r + (1 + q)) := by
  rcases h with ⟨a, b⟩ | ⟨a, b, c, d⟩ <;> rcases k with ⟨a2, b2⟩ | ⟨a2, b2, c2, d2⟩ <;> unfold RS <;> omega
theorem RS.over {c d : Nat} {left r : Int} (h : RS c left r) (hr : left < r) : RS (c + d) left r := by
  rcases h with ⟨a, b⟩ | ⟨a, b, c, d⟩ <;> unfold RS <;> omega
theorem reD_cases (c : Nat) (left : Int) : ((c : Int) ≤ left ∧ reD c left = c) ∨ (left < c ∧ left < -1 ∧ reD c left = 0) ∨ (left < c ∧ -1 ≤ left ∧ reD c left = left + 1) := by
  rcases Int.lt_or_le left c with q | q
  · right
    rw [reD_over q]
    split <;> omega
  · exact .inl ⟨q, reD_yes q⟩
def SomeR (c : Nat) (left : Int) (w : World) (e : Ending) (w' : World) : Prop := ∃ r : Int, e = .returned (.int .i64 r) ∧ RS c left r ∧ Below w.heap.size w w'
def StR (N : Nat) : Prop := ∀ (l : List StD) (A : Option Addr) (c B : Nat) (left : Int) (w : World), SizeOf.sizeOf l < N → B ≤ w.heap.size → StsAt w B A l → -4 ≤ left → left ≤ 1048576 →
    Calls Tryz.prog 81 #[.slice A l.length c, .int .i64 left] w (SomeR (cntSs l) left w)
set_option maxRecDepth 100000 in
set_option maxHeartbeats 16000000 in
theorem stmtsRN (N : Nat) : StR N := by
  induction N with
  | zero => intro l A c B left w hN; omega
  | succ N ih =>
    intro l A c B left w hN hB hk h0 h1
    have IH := Lib.hid ih
    obtain ⟨hd, hcs, rows, kids, len⟩ := hk.open_
    have HR := Lib.hid (rows w.heap.size)
    have HK := Lib.hid kids
    clear ih hk rows kids
    go_enter Tryz.func81, Tryz.ntmps81
    go_wp2
    go_loopw [5, 6] (fun n i W => ∃ (k : Nat) (r : Int), k ≤ l.length ∧ i = .int .i64 k ∧ n = .int .i64 r ∧ Hid (RS (cntSs (l.take k)) left r) ∧ Below w.heap.size w W) (fun _ i _ => l.length - (intOf i).toNat)
    case atStart => exact ⟨0, 0, Nat.zero_le _, rfl, rfl, Lib.hid (by simp only [List.take_zero, cntSs, RS]; omega), Below.refl _ _⟩
    case round =>
      obtain ⟨k, r, hk, rfl, rfl, HQ, hW⟩ := hrel
      obtain ⟨hr0, hr1⟩ := HQ.out.lo h1
      by_cases hlt : k < l.length
      · by_cases hr : r ≤ left
        · obtain ⟨hrc, hrl⟩ : r = (cntSs (l.take k) : Int) ∧ (cntSs (l.take k) : Int) ≤ left := by rcases HQ.out with ⟨a, b⟩ | ⟨a, b, c, d⟩ <;> omega
          obtain ⟨b, off, rfl, c0, c1, c2, c3, c4, c5, c6, c7, c8, c9, c10, c11, c12, c13⟩ := HR.out wr ⟨hW.mono hB, fun b t cs _ _ h => h.below' hW⟩ k hlt
          have lb : b < wr.heap.size := World.block_lt_of_cell? _ _ c0
          have hsz : SizeOf.sizeOf (nthS l k) < SizeOf.sizeOf l := getD_size _ hlt
          have hsn := Lib.hid (cntSs_snoc hlt)
          have hin := Lib.hid (HK.out k hlt)
          revert c0 c1 c2 c3 c4 c5 c6 c7 c8 c9 c10 c11 c12 c13 hsz hsn hin
          generalize nthS l k = x
          generalize hd k = h
          generalize hcs k = q
          intro c0 c1 c2 c3 c4 c5 c6 c7 c8 c9 c10 c11 c12 c13 hsz hsn hin
          have hce := Lib.hid (cntS_eq x)
          have sb := body_size x
          have se := els_size x
          have sc := cases_size x
          have hWl := hW.size
          have X0 := Whl.new wr 42 (stC x h)
          have HB0 := below_alloc hW (.cells (stC x h) 42)
          cases za : zeroE x.a <;> cases zb : zeroE x.b
          · skip
            obtain ⟨ra, hra⟩ : ∃ ra, reD (cntEs x.a.args) (left - (r + 1) - 1) = ra := ⟨_, rfl⟩
            have ra0 := (reD_bd (cntEs x.a.args) (left - (r + 1) - 1) (by omega))
            have hcA := reD_cases (cntEs x.a.args) (left - (r + 1) - 1)
            rw [hra] at ra0 hcA
            obtain ⟨ra0, ra1⟩ := ra0
            have HA : Hid (∀ W, Below w.heap.size w W → Calls Tryz.prog 102 #[.slice h.a.a x.a.args.length h.a.c, .int .i64 (left - (r + 1) - 1)] W fun e w' => e = .returned (.int .i64 ra) ∧ W = w') := Lib.hid fun W hW => by
              have := exprsR x.a.args h.a.a h.a.c B (left - (r + 1) - 1) W (hin.out.ea.keep hW hB) (by omega) (by omega)
              rwa [hra] at this
            have eza := cntZ_no za
            have ece := cntE_eq x.a
            obtain ⟨rb, hrb⟩ : ∃ rb, reD (cntEs x.b.args) (left - (r + 1 + (1 + ra)) - 1) = rb := ⟨_, rfl⟩
            have rb0 := (reD_bd (cntEs x.b.args) (left - (r + 1 + (1 + ra)) - 1) (by omega))
            have hcB := reD_cases (cntEs x.b.args) (left - (r + 1 + (1 + ra)) - 1)
            rw [hrb] at rb0 hcB
            obtain ⟨rb0, rb1⟩ := rb0
            have HB : Hid (∀ W, Below w.heap.size w W → Calls Tryz.prog 102 #[.slice h.b.a x.b.args.length h.b.c, .int .i64 (left - (r + 1 + (1 + ra)) - 1)] W fun e w' => e = .returned (.int .i64 rb) ∧ W = w') := Lib.hid fun W hW => by
              have := exprsR x.b.args h.b.a h.b.c B (left - (r + 1 + (1 + ra)) - 1) W (hin.out.eb.keep hW hB) (by omega) (by omega)
              rwa [hrb] at this
            have ezb := cntZ_no zb
            have ecb := cntE_eq x.b
            have HQ3 : Hid (RS (cntSs (l.take k) + (1 + cntZ x.a + cntZ x.b)) left (r + 1 + (1 + ra) + (1 + rb))) := Lib.hid (by unfold RS; omega)
            have hn0 : 0 ≤ r + 1 + (1 + ra) + (1 + rb) := by omega
            have hn1 : r + 1 + (1 + ra) + (1 + rb) ≤ left + 3 := by omega
            clear eza ezb ece hcA hra ecb hcB hrb hrc hrl
            go_upto_region 11 with (first | (go_at_call 101; ((with_reducible refine (zeroR x.a h.a _ hin.out.wf.a.name).mono ?_); rintro e w1 ⟨rfl, hb1⟩; have X1 := X0.below' hb1; have B1 := below_step HB0 hb1; obtain ⟨x0, x1, x2, x3, x4, x5, x6, x7, x8, x9, x10, x11, x12, x13⟩ := X1.cSt; have lx1 := X1.lt)) | (go_at_call 101; ((with_reducible refine (zeroR x.b h.b _ hin.out.wf.b.name).mono ?_); rintro e w2 ⟨rfl, hb2⟩; have X2 := X1.below' hb2; have B2 := below_step B1 hb2; have lx2 := X2.lt; clear x0 x1 x2 x3 x4 x5 x6 x7 x8 x9 x10 x11 x12 x13; obtain ⟨x0, x1, x2, x3, x4, x5, x6, x7, x8, x9, x10, x11, x12, x13⟩ := X2.cSt)) | (go_at_call 102; ((with_reducible refine (HA.out _ B1).mono ?_); rintro e w' ⟨rfl, rfl⟩)) | (go_at_call 102; ((with_reducible refine (HB.out _ B2).mono ?_); rintro e w' ⟨rfl, rfl⟩)))
            generalize r + 1 + (1 + ra) + (1 + rb) = n3 at HQ3 hn0 hn1 ⊢
            clear za zb x0 x1 x2 x3 x4 x5 x6 x7 x8 x9 x10 x11 x12 x13
            obtain ⟨y0, y1, y2, y3, y4, y5, y6, y7, y8, y9, y10, y11, y12, y13⟩ := X2.cSt
            have HQ := Lib.hid HQ3.out
            generalize hC1 : cntSs (l.take k) + (1 + cntZ x.a + cntZ x.b) = C1 at HQ3
            have HC1 := Lib.hid hC1
            clear HQ hC1
            have hl0 : 0 ≤ left := by omega
            have hin2 := Lib.hid (hin.out.below B2 hB)
            go_upto_region 12 with (go_at_call 81; go_must (refine (IH.out x.body h.body.a h.body.c B (left - n3) w2 (by omega) (by omega) hin2.out.body (by omega) (by omega)).mono ?_; rintro e w3 ⟨r3, rfl, hr3, hb3⟩; have HR3 := Lib.hid hr3; obtain ⟨g0, g1⟩ := hr3.lo (by omega); clear hr3))
            have HQ4 := Lib.hid (HQ3.out.on hl0 HR3.out)
            have B3 := below_step B2 hb3
            have X3 := X2.below' hb3
            have hn4 : 0 ≤ n3 + r3 := by omega
            have hn5 : n3 + r3 ≤ 10000000 := by omega
            generalize n3 + r3 = n4 at HQ4 hn4 hn5 ⊢
            clear y0 y1 y2 y3 y4 y5 y6 y7 y8 y9 y10 y11 y12 y13 HQ3 HR3 g0 g1 hb3 X2 X1 X0 hn0 hn1
            obtain ⟨wo, rfl⟩ : ∃ wo : World, wo = wr := ⟨_, rfl⟩
            go_wp2
            go_loopw [5, 8] (fun n i W => ∃ (j : Nat) (r : Int), j ≤ x.cases.length ∧ i = .int .i64 j ∧ n = .int .i64 r ∧ Hid (RS (C1 + cntSs x.body + cntCs (x.cases.take j)) left r) ∧ Below w.heap.size w W ∧ Whl W wo.heap.size 42 (stC x h)) (fun _ i _ => x.cases.length - (intOf i).toNat)
            case atStart => exact ⟨0, n4, Nat.zero_le _, rfl, rfl, Lib.hid (by simpa [cntCs] using HQ4.out), B3, X3⟩
            case round =>
              obtain ⟨j, r5, hj, rfl, rfl, HQ5, hW5, hX5⟩ := hrel
              obtain ⟨p0, p1⟩ := HQ5.out.lo h1
              have lx5 := hX5.lt
              have z12 : wr.cell? ⟨wo.heap.size, 12, none⟩ = some (.slice h.els.a x.els.length h.els.c) := hX5.cell 12
              have z13 : wr.cell? ⟨wo.heap.size, 13, none⟩ = some (.slice h.cases.a x.cases.length h.cases.c) := hX5.cell 13
              have hin5 := Lib.hid (hin.out.below hW5 hB)
              have hW5l := hW5.size
              have hcl : x.cases.length * 32 ≤ 140737488351232 := hin.out.clen
              have p2 : r5 ≤ left + 3 := by rcases HQ5.out with ⟨a, b⟩ | ⟨a, b, c, d⟩ <;> omega
              by_cases hgo : j < x.cases.length ∧ r5 ≤ left
              · obtain ⟨hlt2, hr5⟩ := hgo
                obtain ⟨b2, off2, hca, d0, d1⟩ := hin5.out.crow.ca hlt2
                have lb2 : b2 < wr.heap.size := World.block_lt_of_cell? _ _ d0
                rw [hca] at z13
                clear hca
                have hcs2 := Lib.hid (cntCs_snoc hlt2)
                have hce2 := Lib.hid (cntC_eq (nthC x.cases j))
                have s1 : SizeOf.sizeOf (nthC x.cases j) < SizeOf.sizeOf x.cases := getD_size _ hlt2
                have s2 := cbody_size (nthC x.cases j)
                go_wp2_with (go_at_call 81; go_must (refine (IH.out (nthC x.cases j).body (q j).a (q j).c B (left - r5 - 1) wr (by omega) (by omega) (hin5.out.cbody j hlt2) (by omega) (by omega)).mono ?_; rintro e w4 ⟨r6, rfl, hr6, hb6⟩; have HR6 := Lib.hid hr6; obtain ⟨g0, g1⟩ := hr6.lo (by omega); clear hr6))
                go_roundw
                case rel =>
                  have hfin := (⟨j + 1, r5 + (1 + r6), by omega, by go_num, rfl, Lib.hid (by rw [hcs2.out, hce2.out, ← Nat.add_assoc]; exact HQ5.out.on1 hr5 HR6.out), below_step hW5 hb6, hX5.below' hb6⟩ : ∃ (j' : Nat) (r : Int), j' ≤ x.cases.length ∧ Value.int .i64 ((j : Int) + 1) = .int .i64 j' ∧ Value.int .i64 (r5 + (1 + r6)) = .int .i64 r ∧ Hid (RS (C1 + cntSs x.body + cntCs (x.cases.take j')) left r) ∧ Below w.heap.size w w4 ∧ Whl w4 wo.heap.size 42 (stC x h))
                  first | exact hfin | ((repeat apply Exists.intro); exact ⟨hfin, rfl⟩) | trace_state
                case measure => simp [intOf]; omega
              · have HQ6 : Hid (RS (C1 + cntSs x.body + cntCs x.cases) left r5) := Lib.hid (by
                  by_cases hje : j < x.cases.length
                  · have hr5 : left < r5 := by omega
                    rw [cntCs_cut x.cases j, ← Nat.add_assoc]
                    exact HQ5.out.over hr5
                  · obtain rfl : j = x.cases.length := by omega
                    have := HQ5.out
                    rwa [List.take_length] at this)
                have HF : Hid (cntSs (l.take (k + 1)) = C1 + cntSs x.body + cntCs x.cases + cntSs x.els) := Lib.hid (by rw [hsn.out, hce.out, ← HC1.out]; omega)
                by_cases hje : j < x.cases.length
                · have hr5 : decide (r5 ≤ left) = false := by simp; omega
                  go_wp2_with (go_at_call 81; go_must (refine (IH.out x.els h.els.a h.els.c B (left - r5) wr (by omega) (by omega) hin5.out.els (by omega) (by omega)).mono ?_; rintro e w4 ⟨r6, rfl, hr6, hb6⟩; have HR6 := Lib.hid hr6; obtain ⟨g0, g1⟩ := hr6.lo (by omega); clear hr6))
                  go_roundw
                  case rel => exact ⟨k + 1, r5 + r6, by omega, by go_num, rfl, Lib.hid (by rw [HF.out]; exact HQ6.out.on hl0 HR6.out), below_step hW5 hb6⟩
                  case measure => simp [intOf]; omega
                · go_wp2_with (go_at_call 81; go_must (refine (IH.out x.els h.els.a h.els.c B (left - r5) wr (by omega) (by omega) hin5.out.els (by omega) (by omega)).mono ?_; rintro e w4 ⟨r6, rfl, hr6, hb6⟩; have HR6 := Lib.hid hr6; obtain ⟨g0, g1⟩ := hr6.lo (by omega); clear hr6))
                  go_roundw
                  case rel => exact ⟨k + 1, r5 + r6, by omega, by go_num, rfl, Lib.hid (by rw [HF.out]; exact HQ6.out.on hl0 HR6.out), below_step hW5 hb6⟩
                  case measure => simp [intOf]; omega
          · skip
            obtain ⟨ra, hra⟩ : ∃ ra, reD (cntEs x.a.args) (left - (r + 1) - 1) = ra := ⟨_, rfl⟩
            have ra0 := (reD_bd (cntEs x.a.args) (left - (r + 1) - 1) (by omega))
            have hcA := reD_cases (cntEs x.a.args) (left - (r + 1) - 1)
            rw [hra] at ra0 hcA
            obtain ⟨ra0, ra1⟩ := ra0
            have HA : Hid (∀ W, Below w.heap.size w W → Calls Tryz.prog 102 #[.slice h.a.a x.a.args.length h.a.c, .int .i64 (left - (r + 1) - 1)] W fun e w' => e = .returned (.int .i64 ra) ∧ W = w') := Lib.hid fun W hW => by
              have := exprsR x.a.args h.a.a h.a.c B (left - (r + 1) - 1) W (hin.out.ea.keep hW hB) (by omega) (by omega)
              rwa [hra] at this
            have eza := cntZ_no za
            have ece := cntE_eq x.a
            have ezb := cntZ_yes zb
            have HQ3 : Hid (RS (cntSs (l.take k) + (1 + cntZ x.a + cntZ x.b)) left (r + 1 + (1 + ra))) := Lib.hid (by unfold RS; omega)
            have hn0 : 0 ≤ r + 1 + (1 + ra) := by omega
            have hn1 : r + 1 + (1 + ra) ≤ left + 3 := by omega
            clear eza ezb ece hcA hra hrc hrl
            go_upto_region 11 with (first | (go_at_call 101; ((with_reducible refine (zeroR x.a h.a _ hin.out.wf.a.name).mono ?_); rintro e w1 ⟨rfl, hb1⟩; have X1 := X0.below' hb1; have B1 := below_step HB0 hb1; obtain ⟨x0, x1, x2, x3, x4, x5, x6, x7, x8, x9, x10, x11, x12, x13⟩ := X1.cSt; have lx1 := X1.lt)) | (go_at_call 101; ((with_reducible refine (zeroR x.b h.b _ hin.out.wf.b.name).mono ?_); rintro e w2 ⟨rfl, hb2⟩; have X2 := X1.below' hb2; have B2 := below_step B1 hb2; have lx2 := X2.lt; clear x0 x1 x2 x3 x4 x5 x6 x7 x8 x9 x10 x11 x12 x13; obtain ⟨x0, x1, x2, x3, x4, x5, x6, x7, x8, x9, x10, x11, x12, x13⟩ := X2.cSt)) | (go_at_call 102; ((with_reducible refine (HA.out _ B1).mono ?_); rintro e w' ⟨rfl, rfl⟩)))
            generalize r + 1 + (1 + ra) = n3 at HQ3 hn0 hn1 ⊢
            clear za zb x0 x1 x2 x3 x4 x5 x6 x7 x8 x9 x10 x11 x12 x13
            obtain ⟨y0, y1, y2, y3, y4, y5, y6, y7, y8, y9, y10, y11, y12, y13⟩ := X2.cSt
            have HQ := Lib.hid HQ3.out
            generalize hC1 : cntSs (l.take k) + (1 + cntZ x.a + cntZ x.b) = C1 at HQ3
            have HC1 := Lib.hid hC1
            clear HQ hC1
            have hl0 : 0 ≤ left := by omega
            have hin2 := Lib.hid (hin.out.below B2 hB)
            go_upto_region 12 with (go_at_call 81; go_must (refine (IH.out x.body h.body.a h.body.c B (left - n3) w2 (by omega) (by omega) hin2.out.body (by omega) (by omega)).mono ?_; rintro e w3 ⟨r3, rfl, hr3, hb3⟩; have HR3 := Lib.hid hr3; obtain ⟨g0, g1⟩ := hr3.lo (by omega); clear hr3))
            have HQ4 := Lib.hid (HQ3.out.on hl0 HR3.out)
            have B3 := below_step B2 hb3
            have X3 := X2.below' hb3
            have hn4 : 0 ≤ n3 + r3 := by omega
            have hn5 : n3 + r3 ≤ 10000000 := by omega
            generalize n3 + r3 = n4 at HQ4 hn4 hn5 ⊢
            clear y0 y1 y2 y3 y4 y5 y6 y7 y8 y9 y10 y11 y12 y13 HQ3 HR3 g0 g1 hb3 X2 X1 X0 hn0 hn1
            obtain ⟨wo, rfl⟩ : ∃ wo : World, wo = wr := ⟨_, rfl⟩
            go_wp2
            go_loopw [5, 8] (fun n i W => ∃ (j : Nat) (r : Int), j ≤ x.cases.length ∧ i = .int .i64 j ∧ n = .int .i64 r ∧ Hid (RS (C1 + cntSs x.body + cntCs (x.cases.take j)) left r) ∧ Below w.heap.size w W ∧ Whl W wo.heap.size 42 (stC x h)) (fun _ i _ => x.cases.length - (intOf i).toNat)
            case atStart => exact ⟨0, n4, Nat.zero_le _, rfl, rfl, Lib.hid (by simpa [cntCs] using HQ4.out), B3, X3⟩
            case round =>
              obtain ⟨j, r5, hj, rfl, rfl, HQ5, hW5, hX5⟩ := hrel
              obtain ⟨p0, p1⟩ := HQ5.out.lo h1
              have lx5 := hX5.lt
              have z12 : wr.cell? ⟨wo.heap.size, 12, none⟩ = some (.slice h.els.a x.els.length h.els.c) := hX5.cell 12
              have z13 : wr.cell? ⟨wo.heap.size, 13, none⟩ = some (.slice h.cases.a x.cases.length h.cases.c) := hX5.cell 13
              have hin5 := Lib.hid (hin.out.below hW5 hB)
              have hW5l := hW5.size
              have hcl : x.cases.length * 32 ≤ 140737488351232 := hin.out.clen
              have p2 : r5 ≤ left + 3 := by rcases HQ5.out with ⟨a, b⟩ | ⟨a, b, c, d⟩ <;> omega
              by_cases hgo : j < x.cases.length ∧ r5 ≤ left
              · obtain ⟨hlt2, hr5⟩ := hgo
                obtain ⟨b2, off2, hca, d0, d1⟩ := hin5.out.crow.ca hlt2
                have lb2 : b2 < wr.heap.size := World.block_lt_of_cell? _ _ d0
                rw [hca] at z13
                clear hca
                have hcs2 := Lib.hid (cntCs_snoc hlt2)
                have hce2 := Lib.hid (cntC_eq (nthC x.cases j))
                have s1 : SizeOf.sizeOf (nthC x.cases j) < SizeOf.sizeOf x.cases := getD_size _ hlt2
                have s2 := cbody_size (nthC x.cases j)
                go_wp2_with (go_at_call 81; go_must (refine (IH.out (nthC x.cases j).body (q j).a (q j).c B (left - r5 - 1) wr (by omega) (by omega) (hin5.out.cbody j hlt2) (by omega) (by omega)).mono ?_; rintro e w4 ⟨r6, rfl, hr6, hb6⟩; have HR6 := Lib.hid hr6; obtain ⟨g0, g1⟩ := hr6.lo (by omega); clear hr6))
                go_roundw
                case rel =>
                  have hfin := (⟨j + 1, r5 + (1 + r6), by omega, by go_num, rfl, Lib.hid (by rw [hcs2.out, hce2.out, ← Nat.add_assoc]; exact HQ5.out.on1 hr5 HR6.out), below_step hW5 hb6, hX5.below' hb6⟩ : ∃ (j' : Nat) (r : Int), j' ≤ x.cases.length ∧ Value.int .i64 ((j : Int) + 1) = .int .i64 j' ∧ Value.int .i64 (r5 + (1 + r6)) = .int .i64 r ∧ Hid (RS (C1 + cntSs x.body + cntCs (x.cases.take j')) left r) ∧ Below w.heap.size w w4 ∧ Whl w4 wo.heap.size 42 (stC x h))
                  first | exact hfin | ((repeat apply Exists.intro); exact ⟨hfin, rfl⟩) | trace_state
                case measure => simp [intOf]; omega
              · have HQ6 : Hid (RS (C1 + cntSs x.body + cntCs x.cases) left r5) := Lib.hid (by
                  by_cases hje : j < x.cases.length
                  · have hr5 : left < r5 := by omega
                    rw [cntCs_cut x.cases j, ← Nat.add_assoc]
                    exact HQ5.out.over hr5
                  · obtain rfl : j = x.cases.length := by omega
                    have := HQ5.out
                    rwa [List.take_length] at this)
                have HF : Hid (cntSs (l.take (k + 1)) = C1 + cntSs x.body + cntCs x.cases + cntSs x.els) := Lib.hid (by rw [hsn.out, hce.out, ← HC1.out]; omega)
                by_cases hje : j < x.cases.length
                · have hr5 : decide (r5 ≤ left) = false := by simp; omega
                  go_wp2_with (go_at_call 81; go_must (refine (IH.out x.els h.els.a h.els.c B (left - r5) wr (by omega) (by omega) hin5.out.els (by omega) (by omega)).mono ?_; rintro e w4 ⟨r6, rfl, hr6, hb6⟩; have HR6 := Lib.hid hr6; obtain ⟨g0, g1⟩ := hr6.lo (by omega); clear hr6))
                  go_roundw
                  case rel => exact ⟨k + 1, r5 + r6, by omega, by go_num, rfl, Lib.hid (by rw [HF.out]; exact HQ6.out.on hl0 HR6.out), below_step hW5 hb6⟩
                  case measure => simp [intOf]; omega
                · go_wp2_with (go_at_call 81; go_must (refine (IH.out x.els h.els.a h.els.c B (left - r5) wr (by omega) (by omega) hin5.out.els (by omega) (by omega)).mono ?_; rintro e w4 ⟨r6, rfl, hr6, hb6⟩; have HR6 := Lib.hid hr6; obtain ⟨g0, g1⟩ := hr6.lo (by omega); clear hr6))
                  go_roundw
                  case rel => exact ⟨k + 1, r5 + r6, by omega, by go_num, rfl, Lib.hid (by rw [HF.out]; exact HQ6.out.on hl0 HR6.out), below_step hW5 hb6⟩
                  case measure => simp [intOf]; omega
          · skip
            have eza := cntZ_yes za
            obtain ⟨rb, hrb⟩ : ∃ rb, reD (cntEs x.b.args) (left - (r + 1) - 1) = rb := ⟨_, rfl⟩
            have rb0 := (reD_bd (cntEs x.b.args) (left - (r + 1) - 1) (by omega))
            have hcB := reD_cases (cntEs x.b.args) (left - (r + 1) - 1)
            rw [hrb] at rb0 hcB
            obtain ⟨rb0, rb1⟩ := rb0
            have HB : Hid (∀ W, Below w.heap.size w W → Calls Tryz.prog 102 #[.slice h.b.a x.b.args.length h.b.c, .int .i64 (left - (r + 1) - 1)] W fun e w' => e = .returned (.int .i64 rb) ∧ W = w') := Lib.hid fun W hW => by
              have := exprsR x.b.args h.b.a h.b.c B (left - (r + 1) - 1) W (hin.out.eb.keep hW hB) (by omega) (by omega)
              rwa [hrb] at this
            have ezb := cntZ_no zb
            have ecb := cntE_eq x.b
            have HQ3 : Hid (RS (cntSs (l.take k) + (1 + cntZ x.a + cntZ x.b)) left (r + 1 + (1 + rb))) := Lib.hid (by unfold RS; omega)
            have hn0 : 0 ≤ r + 1 + (1 + rb) := by omega
            have hn1 : r + 1 + (1 + rb) ≤ left + 3 := by omega
            clear eza ezb ecb hcB hrb hrc hrl
            go_upto_region 11 with (first | (go_at_call 101; ((with_reducible refine (zeroR x.a h.a _ hin.out.wf.a.name).mono ?_); rintro e w1 ⟨rfl, hb1⟩; have X1 := X0.below' hb1; have B1 := below_step HB0 hb1; obtain ⟨x0, x1, x2, x3, x4, x5, x6, x7, x8, x9, x10, x11, x12, x13⟩ := X1.cSt; have lx1 := X1.lt)) | (go_at_call 101; ((with_reducible refine (zeroR x.b h.b _ hin.out.wf.b.name).mono ?_); rintro e w2 ⟨rfl, hb2⟩; have X2 := X1.below' hb2; have B2 := below_step B1 hb2; have lx2 := X2.lt; clear x0 x1 x2 x3 x4 x5 x6 x7 x8 x9 x10 x11 x12 x13; obtain ⟨x0, x1, x2, x3, x4, x5, x6, x7, x8, x9, x10, x11, x12, x13⟩ := X2.cSt)) | (go_at_call 102; ((with_reducible refine (HB.out _ B2).mono ?_); rintro e w' ⟨rfl, rfl⟩)))
            generalize r + 1 + (1 + rb) = n3 at HQ3 hn0 hn1 ⊢
            clear za zb x0 x1 x2 x3 x4 x5 x6 x7 x8 x9 x10 x11 x12 x13
            obtain ⟨y0, y1, y2, y3, y4, y5, y6, y7, y8, y9, y10, y11, y12, y13⟩ := X2.cSt
            have HQ := Lib.hid HQ3.out
            generalize hC1 : cntSs (l.take k) + (1 + cntZ x.a + cntZ x.b) = C1 at HQ3
            have HC1 := Lib.hid hC1
            clear HQ hC1
            have hl0 : 0 ≤ left := by omega
            have hin2 := Lib.hid (hin.out.below B2 hB)
            go_upto_region 12 with (go_at_call 81; go_must (refine (IH.out x.body h.body.a h.body.c B (left - n3) w2 (by omega) (by omega) hin2.out.body (by omega) (by omega)).mono ?_; rintro e w3 ⟨r3, rfl, hr3, hb3⟩; have HR3 := Lib.hid hr3; obtain ⟨g0, g1⟩ := hr3.lo (by omega); clear hr3))
            have HQ4 := Lib.hid (HQ3.out.on hl0 HR3.out)
            have B3 := below_step B2 hb3
            have X3 := X2.below' hb3
            have hn4 : 0 ≤ n3 + r3 := by omega
            have hn5 : n3 + r3 ≤ 10000000 := by omega
            generalize n3 + r3 = n4 at HQ4 hn4 hn5 ⊢
            clear y0 y1 y2 y3 y4 y5 y6 y7 y8 y9 y10 y11 y12 y13 HQ3 HR3 g0 g1 hb3 X2 X1 X0 hn0 hn1
            obtain ⟨wo, rfl⟩ : ∃ wo : World, wo = wr := ⟨_, rfl⟩
            go_wp2
            go_loopw [5, 8] (fun n i W => ∃ (j : Nat) (r : Int), j ≤ x.cases.length ∧ i = .int .i64 j ∧ n = .int .i64 r ∧ Hid (RS (C1 + cntSs x.body + cntCs (x.cases.take j)) left r) ∧ Below w.heap.size w W ∧ Whl W wo.heap.size 42 (stC x h)) (fun _ i _ => x.cases.length - (intOf i).toNat)
            case atStart => exact ⟨0, n4, Nat.zero_le _, rfl, rfl, Lib.hid (by simpa [cntCs] using HQ4.out), B3, X3⟩
            case round =>
              obtain ⟨j, r5, hj, rfl, rfl, HQ5, hW5, hX5⟩ := hrel
              obtain ⟨p0, p1⟩ := HQ5.out.lo h1
              have lx5 := hX5.lt
              have z12 : wr.cell? ⟨wo.heap.size, 12, none⟩ = some (.slice h.els.a x.els.length h.els.c) := hX5.cell 12
              have z13 : wr.cell? ⟨wo.heap.size, 13, none⟩ = some (.slice h.cases.a x.cases.length h.cases.c) := hX5.cell 13
              have hin5 := Lib.hid (hin.out.below hW5 hB)
              have hW5l := hW5.size
              have hcl : x.cases.length * 32 ≤ 140737488351232 := hin.out.clen
              have p2 : r5 ≤ left + 3 := by rcases HQ5.out with ⟨a, b⟩ | ⟨a, b, c, d⟩ <;> omega
              by_cases hgo : j < x.cases.length ∧ r5 ≤ left
              · obtain ⟨hlt2, hr5⟩ := hgo
                obtain ⟨b2, off2, hca, d0, d1⟩ := hin5.out.crow.ca hlt2
                have lb2 : b2 < wr.heap.size := World.block_lt_of_cell? _ _ d0
                rw [hca] at z13
                clear hca
                have hcs2 := Lib.hid (cntCs_snoc hlt2)
                have hce2 := Lib.hid (cntC_eq (nthC x.cases j))
                have s1 : SizeOf.sizeOf (nthC x.cases j) < SizeOf.sizeOf x.cases := getD_size _ hlt2
                have s2 := cbody_size (nthC x.cases j)
                go_wp2_with (go_at_call 81; go_must (refine (IH.out (nthC x.cases j).body (q j).a (q j).c B (left - r5 - 1) wr (by omega) (by omega) (hin5.out.cbody j hlt2) (by omega) (by omega)).mono ?_; rintro e w4 ⟨r6, rfl, hr6, hb6⟩; have HR6 := Lib.hid hr6; obtain ⟨g0, g1⟩ := hr6.lo (by omega); clear hr6))
                go_roundw
                case rel =>
                  have hfin := (⟨j + 1, r5 + (1 + r6), by omega, by go_num, rfl, Lib.hid (by rw [hcs2.out, hce2.out, ← Nat.add_assoc]; exact HQ5.out.on1 hr5 HR6.out), below_step hW5 hb6, hX5.below' hb6⟩ : ∃ (j' : Nat) (r : Int), j' ≤ x.cases.length ∧ Value.int .i64 ((j : Int) + 1) = .int .i64 j' ∧ Value.int .i64 (r5 + (1 + r6)) = .int .i64 r ∧ Hid (RS (C1 + cntSs x.body + cntCs (x.cases.take j')) left r) ∧ Below w.heap.size w w4 ∧ Whl w4 wo.heap.size 42 (stC x h))
                  first | exact hfin | ((repeat apply Exists.intro); exact ⟨hfin, rfl⟩) | trace_state
                case measure => simp [intOf]; omega
              · have HQ6 : Hid (RS (C1 + cntSs x.body + cntCs x.cases) left r5) := Lib.hid (by
                  by_cases hje : j < x.cases.length
                  · have hr5 : left < r5 := by omega
                    rw [cntCs_cut x.cases j, ← Nat.add_assoc]
                    exact HQ5.out.over hr5
                  · obtain rfl : j = x.cases.length := by omega
                    have := HQ5.out
                    rwa [List.take_length] at this)
                have HF : Hid (cntSs (l.take (k + 1)) = C1 + cntSs x.body + cntCs x.cases + cntSs x.els) := Lib.hid (by rw [hsn.out, hce.out, ← HC1.out]; omega)
                by_cases hje : j < x.cases.length
                · have hr5 : decide (r5 ≤ left) = false := by simp; omega
                  go_wp2_with (go_at_call 81; go_must (refine (IH.out x.els h.els.a h.els.c B (left - r5) wr (by omega) (by omega) hin5.out.els (by omega) (by omega)).mono ?_; rintro e w4 ⟨r6, rfl, hr6, hb6⟩; have HR6 := Lib.hid hr6; obtain ⟨g0, g1⟩ := hr6.lo (by omega); clear hr6))
                  go_roundw
                  case rel => exact ⟨k + 1, r5 + r6, by omega, by go_num, rfl, Lib.hid (by rw [HF.out]; exact HQ6.out.on hl0 HR6.out), below_step hW5 hb6⟩
                  case measure => simp [intOf]; omega
                · go_wp2_with (go_at_call 81; go_must (refine (IH.out x.els h.els.a h.els.c B (left - r5) wr (by omega) (by omega) hin5.out.els (by omega) (by omega)).mono ?_; rintro e w4 ⟨r6, rfl, hr6, hb6⟩; have HR6 := Lib.hid hr6; obtain ⟨g0, g1⟩ := hr6.lo (by omega); clear hr6))
                  go_roundw
                  case rel => exact ⟨k + 1, r5 + r6, by omega, by go_num, rfl, Lib.hid (by rw [HF.out]; exact HQ6.out.on hl0 HR6.out), below_step hW5 hb6⟩
                  case measure => simp [intOf]; omega
          · skip
            have eza := cntZ_yes za
            have ezb := cntZ_yes zb
            have HQ3 : Hid (RS (cntSs (l.take k) + (1 + cntZ x.a + cntZ x.b)) left (r + 1)) := Lib.hid (by unfold RS; omega)
            have hn0 : 0 ≤ r + 1 := by omega
            have hn1 : r + 1 ≤ left + 3 := by omega
            clear eza ezb hrc hrl
            go_upto_region 11 with (first | (go_at_call 101; ((with_reducible refine (zeroR x.a h.a _ hin.out.wf.a.name).mono ?_); rintro e w1 ⟨rfl, hb1⟩; have X1 := X0.below' hb1; have B1 := below_step HB0 hb1; obtain ⟨x0, x1, x2, x3, x4, x5, x6, x7, x8, x9, x10, x11, x12, x13⟩ := X1.cSt; have lx1 := X1.lt)) | (go_at_call 101; ((with_reducible refine (zeroR x.b h.b _ hin.out.wf.b.name).mono ?_); rintro e w2 ⟨rfl, hb2⟩; have X2 := X1.below' hb2; have B2 := below_step B1 hb2; have lx2 := X2.lt; clear x0 x1 x2 x3 x4 x5 x6 x7 x8 x9 x10 x11 x12 x13; obtain ⟨x0, x1, x2, x3, x4, x5, x6, x7, x8, x9, x10, x11, x12, x13⟩ := X2.cSt)))
            generalize r + 1 = n3 at HQ3 hn0 hn1 ⊢
            clear za zb x0 x1 x2 x3 x4 x5 x6 x7 x8 x9 x10 x11 x12 x13
            obtain ⟨y0, y1, y2, y3, y4, y5, y6, y7, y8, y9, y10, y11, y12, y13⟩ := X2.cSt
            have HQ := Lib.hid HQ3.out
            generalize hC1 : cntSs (l.take k) + (1 + cntZ x.a + cntZ x.b) = C1 at HQ3
            have HC1 := Lib.hid hC1
            clear HQ hC1
            have hl0 : 0 ≤ left := by omega
            have hin2 := Lib.hid (hin.out.below B2 hB)
            go_upto_region 12 with (go_at_call 81; go_must (refine (IH.out x.body h.body.a h.body.c B (left - n3) w2 (by omega) (by omega) hin2.out.body (by omega) (by omega)).mono ?_; rintro e w3 ⟨r3, rfl, hr3, hb3⟩; have HR3 := Lib.hid hr3; obtain ⟨g0, g1⟩ := hr3.lo (by omega); clear hr3))
            have HQ4 := Lib.hid (HQ3.out.on hl0 HR3.out)
            have B3 := below_step B2 hb3
            have X3 := X2.below' hb3
            have hn4 : 0 ≤ n3 + r3 := by omega
            have hn5 : n3 + r3 ≤ 10000000 := by omega
            generalize n3 + r3 = n4 at HQ4 hn4 hn5 ⊢
            clear y0 y1 y2 y3 y4 y5 y6 y7 y8 y9 y10 y11 y12 y13 HQ3 HR3 g0 g1 hb3 X2 X1 X0 hn0 hn1
            obtain ⟨wo, rfl⟩ : ∃ wo : World, wo = wr := ⟨_, rfl⟩
            go_wp2
            go_loopw [5, 8] (fun n i W => ∃ (j : Nat) (r : Int), j ≤ x.cases.length ∧ i = .int .i64 j ∧ n = .int .i64 r ∧ Hid (RS (C1 + cntSs x.body + cntCs (x.cases.take j)) left r) ∧ Below w.heap.size w W ∧ Whl W wo.heap.size 42 (stC x h)) (fun _ i _ => x.cases.length - (intOf i).toNat)
            case atStart => exact ⟨0, n4, Nat.zero_le _, rfl, rfl, Lib.hid (by simpa [cntCs] using HQ4.out), B3, X3⟩
            case round =>
              obtain ⟨j, r5, hj, rfl, rfl, HQ5, hW5, hX5⟩ := hrel
              obtain ⟨p0, p1⟩ := HQ5.out.lo h1
              have lx5 := hX5.lt
              have z12 : wr.cell? ⟨wo.heap.size, 12, none⟩ = some (.slice h.els.a x.els.length h.els.c) := hX5.cell 12
              have z13 : wr.cell? ⟨wo.heap.size, 13, none⟩ = some (.slice h.cases.a x.cases.length h.cases.c) := hX5.cell 13
              have hin5 := Lib.hid (hin.out.below hW5 hB)
              have hW5l := hW5.size
              have hcl : x.cases.length * 32 ≤ 140737488351232 := hin.out.clen
              have p2 : r5 ≤ left + 3 := by rcases HQ5.out with ⟨a, b⟩ | ⟨a, b, c, d⟩ <;> omega
              by_cases hgo : j < x.cases.length ∧ r5 ≤ left
              · obtain ⟨hlt2, hr5⟩ := hgo
                obtain ⟨b2, off2, hca, d0, d1⟩ := hin5.out.crow.ca hlt2
                have lb2 : b2 < wr.heap.size := World.block_lt_of_cell? _ _ d0
                rw [hca] at z13
                clear hca
                have hcs2 := Lib.hid (cntCs_snoc hlt2)
                have hce2 := Lib.hid (cntC_eq (nthC x.cases j))
                have s1 : SizeOf.sizeOf (nthC x.cases j) < SizeOf.sizeOf x.cases := getD_size _ hlt2
                have s2 := cbody_size (nthC x.cases j)
                go_wp2_with (go_at_call 81; go_must (refine (IH.out (nthC x.cases j).body (q j).a (q j).c B (left - r5 - 1) wr (by omega) (by omega) (hin5.out.cbody j hlt2) (by omega) (by omega)).mono ?_; rintro e w4 ⟨r6, rfl, hr6, hb6⟩; have HR6 := Lib.hid hr6; obtain ⟨g0, g1⟩ := hr6.lo (by omega); clear hr6))
                go_roundw
                case rel =>
                  have hfin := (⟨j + 1, r5 + (1 + r6), by omega, by go_num, rfl, Lib.hid (by rw [hcs2.out, hce2.out, ← Nat.add_assoc]; exact HQ5.out.on1 hr5 HR6.out), below_step hW5 hb6, hX5.below' hb6⟩ : ∃ (j' : Nat) (r : Int), j' ≤ x.cases.length ∧ Value.int .i64 ((j : Int) + 1) = .int .i64 j' ∧ Value.int .i64 (r5 + (1 + r6)) = .int .i64 r ∧ Hid (RS (C1 + cntSs x.body + cntCs (x.cases.take j')) left r) ∧ Below w.heap.size w w4 ∧ Whl w4 wo.heap.size 42 (stC x h))
                  first | exact hfin | ((repeat apply Exists.intro); exact ⟨hfin, rfl⟩) | trace_state
                case measure => simp [intOf]; omega
              · have HQ6 : Hid (RS (C1 + cntSs x.body + cntCs x.cases) left r5) := Lib.hid (by
                  by_cases hje : j < x.cases.length
                  · have hr5 : left < r5 := by omega
                    rw [cntCs_cut x.cases j, ← Nat.add_assoc]
                    exact HQ5.out.over hr5
                  · obtain rfl : j = x.cases.length := by omega
                    have := HQ5.out
                    rwa [List.take_length] at this)
                have HF : Hid (cntSs (l.take (k + 1)) = C1 + cntSs x.body + cntCs x.cases + cntSs x.els) := Lib.hid (by rw [hsn.out, hce.out, ← HC1.out]; omega)
                by_cases hje : j < x.cases.length
                · have hr5 : decide (r5 ≤ left) = false := by simp; omega
                  go_wp2_with (go_at_call 81; go_must (refine (IH.out x.els h.els.a h.els.c B (left - r5) wr (by omega) (by omega) hin5.out.els (by omega) (by omega)).mono ?_; rintro e w4 ⟨r6, rfl, hr6, hb6⟩; have HR6 := Lib.hid hr6; obtain ⟨g0, g1⟩ := hr6.lo (by omega); clear hr6))
                  go_roundw
                  case rel => exact ⟨k + 1, r5 + r6, by omega, by go_num, rfl, Lib.hid (by rw [HF.out]; exact HQ6.out.on hl0 HR6.out), below_step hW5 hb6⟩
                  case measure => simp [intOf]; omega
                · go_wp2_with (go_at_call 81; go_must (refine (IH.out x.els h.els.a h.els.c B (left - r5) wr (by omega) (by omega) hin5.out.els (by omega) (by omega)).mono ?_; rintro e w4 ⟨r6, rfl, hr6, hb6⟩; have HR6 := Lib.hid hr6; obtain ⟨g0, g1⟩ := hr6.lo (by omega); clear hr6))
                  go_roundw
                  case rel => exact ⟨k + 1, r5 + r6, by omega, by go_num, rfl, Lib.hid (by rw [HF.out]; exact HQ6.out.on hl0 HR6.out), below_step hW5 hb6⟩
                  case measure => simp [intOf]; omega
        · have hn : decide (r ≤ left) = false := by simpa using hr
          have hc := cntSs_cut l k
          have he := Lib.hid (show RS (cntSs l) left r by rw [hc]; exact HQ.out.over (by omega))
          clear hc
          go_wp2
          go_ret
          exact ⟨r, rfl, he.out, hW⟩
      · obtain rfl : k = l.length := by omega
        have he : RS (cntSs l) left r := by have := HQ.out; rwa [List.take_length] at this
        have HE := Lib.hid he
        clear he
        go_wp2
        go_ret
        exact ⟨r, rfl, HE.out, hW⟩
theorem stmtsR (l : List StD) (A : Option Addr) (c B : Nat) (left : Int) (w : World) (hB : B ≤ w.heap.size) (hk : StsAt w B A l) (h0 : -4 ≤ left) (h1 : left ≤ 1048576) :
    Calls Tryz.prog 81 #[.slice A l.length c, .int .i64 left] w (SomeR (cntSs l) left w) := stmtsRN _ l A c B left w (Nat.lt_succ_self _) hB hk h0 h1
theorem nodes_rs {p : PrD} {r : Int} (h : RS (cntFs p.funcs) 4096 r) : (4096 < r → nodesD p = 4097) ∧ (¬ 4096 < r → ((nodesD p : Nat) : Int) = r) := by
  unfold nodesD
  rcases h with ⟨a, b⟩ | ⟨a, b, c, d⟩ <;> omega
set_option maxHeartbeats 4000000 in
theorem nodesR (p : PrD) (wa fa : Option Addr) (wc fc B : Nat) (w : World) (hB : B ≤ w.heap.size) (hp : PrOk w B p wa fa) :
    Calls Tryz.prog 58 #[prV p wa fa wc fc] w fun e w' => e = .returned (.int .i64 (nodesD p : Nat)) ∧ Below w.heap.size w w' := by
  obtain ⟨hd, rows, each, len⟩ := hp.funcs.open_
  have HR := Lib.hid rows
  have HE := Lib.hid each
  have X0 := Whl.new w 25 (prC p wa fa wc fc)
  clear rows each hp
  go_enter Tryz.func58, Tryz.ntmps58
  go_wp2
  go_loopw [3, 4] (fun n i W => ∃ (k : Nat) (r : Int), k ≤ p.funcs.length ∧ i = .int .i64 k ∧ n = .int .i64 r ∧ Hid (RS (cntFs (p.funcs.take k)) 4096 r) ∧ Below w.heap.size w W ∧ Whl W w.heap.size 25 (prC p wa fa wc fc)) (fun _ i _ => p.funcs.length - (intOf i).toNat)
  case atStart => exact ⟨0, 0, Nat.zero_le _, rfl, rfl, Lib.hid (by simp only [List.take_zero, cntFs, RS]; omega), below_alloc (Below.refl _ _) _, X0⟩
  case round =>
    obtain ⟨k, r, hk, rfl, rfl, HQ, hW, hX⟩ := hrel
    obtain ⟨hr0, hr1⟩ := HQ.out.lo (by omega)
    obtain ⟨q0, q1⟩ := hX.c2
    have lx := hX.lt
    have hWl := hW.size
    by_cases hgo : k < p.funcs.length ∧ r ≤ 4096
    · obtain ⟨hlt, hr⟩ := hgo
      have hsn := Lib.hid (cntFs_snoc hlt)
      obtain ⟨b, off, hfa, c0, c1, c2⟩ := HR.out wr (hW.mono hB) k hlt
      have lb : b < wr.heap.size := World.block_lt_of_cell? _ _ c0
      rw [hfa] at q1
      clear hfa
      go_wp2_with (go_at_call 81; go_must (refine (stmtsR (nthF p.funcs k).body (hd k).body.a (hd k).body.c B (4096 - r) wr (by omega) (((HE.out k hlt).keep (hW.mono hB) (Nat.le_refl _)).body) (by omega) (by omega)).mono ?_; rintro e w1 ⟨r1, rfl, hr1, hb1⟩; have HR1 := Lib.hid hr1; obtain ⟨g0, g1⟩ := hr1.lo (by omega); clear hr1))
      go_roundw
      case rel => exact ⟨k + 1, r + r1, by omega, by go_num, rfl, Lib.hid (by rw [hsn.out]; exact HQ.out.on (by omega) HR1.out), below_step hW hb1, hX.below' hb1⟩
      case measure => simp [intOf]; omega
    · have HF := Lib.hid (nodes_rs (p := p) (r := r) (by
        by_cases hlt : k < p.funcs.length
        · rw [cntFs_cut p.funcs k]; exact HQ.out.over (by omega)
        · obtain rfl : k = p.funcs.length := by omega
          have := HQ.out; rwa [List.take_length] at this))
      by_cases hlt : k < p.funcs.length
      · have hn : decide (r ≤ 4096) = false := by simp; omega
        have hn2 : decide (4096 < r) = true := by simp; omega
        have HN := Lib.hid (HF.out.1 (by omega))
        go_wp2
        go_ret
        exact ⟨by rw [HN.out]; rfl, hW⟩
      · by_cases hn : 4096 < r
        · have HN := Lib.hid (HF.out.1 hn)
          go_wp2
          go_ret
          exact ⟨by rw [HN.out]; rfl, hW⟩
        · have hn2 : decide (4096 < r) = false := by simpa using hn
          have HN := Lib.hid (HF.out.2 hn)
          go_wp2
          go_ret
          exact ⟨by rw [HN.out]; rfl, hW⟩
end Go.Proofs.YtdddppmfeoebgaaGreatDoor
