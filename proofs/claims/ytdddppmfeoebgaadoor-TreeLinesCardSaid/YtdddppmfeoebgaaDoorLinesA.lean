/-
  Layer 2 (tree): the walk of the law's own function lines.
-/
import Derived.Test.YtdddppmfeoebgaaDoorNodes
import Derived.Test.YtdddppmfeoebgaaDoorTreeE
import Derived.Deep.QuietTactic
import Derived.BigQuiet
import Derived.Lib.QuietBelow
import Derived.IntWalk
import Derived.Deep.CutBlock
namespace Go.Proofs.YtdddppmfeoebgaaDoor
open Go.RowKit
set_option linter.unusedSimpArgs false
set_option linter.unusedVariables false
set_option maxRecDepth 100000
theorem linSs_snoc {l : List StD} {k : Nat} (h : k < l.length) : linSs (l.take (k + 1)) = linSs (l.take k) + linS (nthS l k) :=
  fold_snoc (op := (· + ·)) (e := 0) Nat.zero_add Nat.add_zero Nat.add_assoc (by rw [linSs]) (fun x r => by rw [linSs]) _ h
theorem linCs_snoc {l : List CaD} {k : Nat} (h : k < l.length) : linCs (l.take (k + 1)) = linCs (l.take k) + linC (nthC l k) :=
  fold_snoc (op := (· + ·)) (e := 0) Nat.zero_add Nat.add_zero Nat.add_assoc (by rw [linCs]) (fun x r => by rw [linCs]) _ h
mutual
theorem linS_le : ∀ x : StD, linS x ≤ 6 * cntS x
  | .mk k _ _ a b body els cases => by
    have h1 := linSs_le body
    have h2 := linSs_le els
    have h3 := linCs_le cases
    rw [linS, cntS]
    repeat' split
    all_goals omega
theorem linC_le : ∀ x : CaD, linC x ≤ 6 * cntC x
  | .mk _ body => by have := linSs_le body; rw [linC, cntC]; omega
theorem linSs_le : ∀ l : List StD, linSs l ≤ 6 * cntSs l
  | [] => by rw [linSs]; omega
  | x :: r => by have h1 := linS_le x; have h2 := linSs_le r; rw [linSs, cntSs]; omega
theorem linCs_le : ∀ l : List CaD, linCs l ≤ 6 * cntCs l
  | [] => by rw [linCs]; omega
  | x :: r => by have h1 := linC_le x; have h2 := linCs_le r; rw [linCs, cntCs]; omega
end
theorem linC_eq (x : CaD) : linC x = 2 + linSs x.body := by cases x; rw [linC]; rfl
theorem linS_5 {x : StD} (h : (x.kind == 5) = true) : linS x = 2 + linSs x.body + linSs x.els + (if x.els.length = 0 then 0 else 1) := by
  cases x; simp only [StD.kind, StD.body, StD.els, StD.cases] at *; rw [linS]; simp [h]
theorem linS_7 {x : StD} (h5 : (x.kind == 5) = false) (h : (x.kind == 7) = true) : linS x = 2 + linSs x.body := by
  cases x; simp only [StD.kind, StD.body, StD.els, StD.cases] at *; rw [linS]; simp [h5, h]
theorem linS_6 {x : StD} (h5 : (x.kind == 5) = false) (h7 : (x.kind == 7) = false) (h : (x.kind == 6) = true) : linS x = 2 + linCs x.cases + (if x.els.length = 0 then 0 else 2 + linSs x.els) := by
  cases x; simp only [StD.kind, StD.body, StD.els, StD.cases] at *; rw [linS]; simp [h5, h7, h]
theorem linS_1 {x : StD} (h5 : (x.kind == 5) = false) (h7 : (x.kind == 7) = false) (h6 : (x.kind == 6) = false) : linS x = 1 := by
  cases x; simp only [StD.kind, StD.body, StD.els, StD.cases] at *; rw [linS]; simp [h5, h7, h6]
def LinesAt (N : Nat) : Prop := ∀ (l : List StD) (A : Option Addr) (c B : Nat) (w : World), SizeOf.sizeOf l < N → B ≤ w.heap.size → StsAt w B A l → cntSs l ≤ 4096 →
    Calls Tryd.prog 24 #[.slice A l.length c] w fun e w' => e = .returned (.int .i64 (linSs l : Nat)) ∧ Below w.heap.size w w'
theorem LinesAt.re {N : Nat} (H : LinesAt N) {l : List StD} {A : Option Addr} {c B : Nat} {w : World} (hs : SizeOf.sizeOf l < N) (hB : B ≤ w.heap.size) (hk : StsAt w B A l) (hc : cntSs l ≤ 4096) (d : Nat) (os : Array Obj) :
    Calls Tryd.prog 24 #[.slice A l.length c] (Sort.grow (redrawn w d) os) fun e w'' => e = .returned (.int .i64 (linSs l : Nat)) ∧ ∃ p : Regrown, w'' = Sort.grow (redrawn w p.d) p.os :=
  Calls.regrown_of (H l A c B _ hs (Nat.le_trans hB (below_regrown w d os).size) (hk.keep (below_regrown w d os) hB) hc)
set_option maxHeartbeats 16000000 in
theorem linesN (N : Nat) : LinesAt N := by
  induction N with
  | zero => intro l A c B w hN; omega
  | succ N ih =>
    intro l A c B w hN hB hk hc
    have IH := Lib.hid ih
    obtain ⟨hd, hcs, rows, kids, len⟩ := hk.open_
    have HR := Lib.hid (rows w.heap.size)
    have HK := Lib.hid kids
    clear ih hk rows kids
    go_enter Tryd.func24, Tryd.ntmps24
    go_wp2
    go_loopw [3, 10] (fun n i W => ∃ k : Nat, k ≤ l.length ∧ i = .int .i64 k ∧ n = .int .i64 (linSs (l.take k) : Nat) ∧ Below w.heap.size w W) (fun _ i _ => l.length - (intOf i).toNat)
    case atStart => exact ⟨0, Nat.zero_le _, rfl, by simp [linSs], Below.refl _ _⟩
    case round =>
      obtain ⟨k, hk, rfl, rfl, hW⟩ := hrel
      by_cases hlt : k < l.length
      · obtain ⟨b, off, rfl, c0, c1, c2, c3, c4, c5, c6, c7, c8, c9, c10, c11, c12, c13⟩ := HR.out wr ⟨hW.mono hB, fun b t cs _ _ h => h.below' hW⟩ k hlt
        have lb : b < wr.heap.size := World.block_lt_of_cell? _ _ c0
        have hsz : SizeOf.sizeOf (nthS l k) < SizeOf.sizeOf l := getD_size _ hlt
        have hsn := Lib.hid (linSs_snoc hlt)
        have hin := Lib.hid ((HK.out k hlt).below (below_alloc hW (.cells (stC (nthS l k) (hd k)) 53)) hB)
        have hin0 := Lib.hid (HK.out k hlt)
        have hcn : cntSs (l.take k) + cntS (nthS l k) ≤ 4096 := by have := cntSs_cut l (k + 1); have := cntSs_snoc hlt; omega
        have hle := linSs_le (l.take k)
        revert c0 c1 c2 c3 c4 c5 c6 c7 c8 c9 c10 c11 c12 c13 hsz hsn hin hin0 hcn
        generalize nthS l k = x
        generalize hd k = h
        generalize hcs k = q
        intro c0 c1 c2 c3 c4 c5 c6 c7 c8 c9 c10 c11 c12 c13 hsz hsn hin hin0 hcn
        have hcx := cntS_eq x
        have hb1 := linSs_le x.body
        have he1 := linSs_le x.els
        have hc1 := linCs_le x.cases
        have sb := body_size x
        have se := els_size x
        have sc := cases_size x
        have hWl := hW.size
        have hBr : B ≤ (wr.alloc (.cells (stC x h) 53)).heap.size := by rw [World.size_alloc]; omega
        have X0 := Whl.new wr 53 (stC x h)
        have HB1 := below_alloc hW (.cells (stC x h) 53)
        generalize hnt : linSs (l.take k) = nt at hle hsn ⊢
        clear hnt
        cases k5 : (x.kind == 5)
        · cases k7 : (x.kind == 7)
          · cases k6 : (x.kind == 6)
            · have hlx := Lib.hid (linS_1 k5 k7 k6)
              go_wp2
              go_roundw
              case rel => exact ⟨k + 1, by omega, by go_num, by rw [hsn.out, hlx.out]; go_num, HB1⟩
              case measure => simp [intOf]; omega
            · have hlx := Lib.hid (linS_6 k5 k7 k6)
              have hcl : x.cases.length * 32 ≤ 140737488351232 := hin.out.clen
              obtain ⟨wo, rfl⟩ : ∃ wo : World, wo = wr := ⟨_, rfl⟩
              go_wp2
              go_loopw [3, 51] (fun n i W => ∃ j : Nat, j ≤ x.cases.length ∧ i = .int .i64 j ∧ n = .int .i64 (nt + 2 + linCs (x.cases.take j) : Nat) ∧ Below w.heap.size w W ∧ Whl W wo.heap.size 53 (stC x h)) (fun _ i _ => x.cases.length - (intOf i).toNat)
              case atStart => exact ⟨0, Nat.zero_le _, rfl, by simp [linCs]; omega, HB1, X0⟩
              case round =>
                obtain ⟨j, hj, rfl, rfl, hW2, hX⟩ := hrel
                have hXl := hX.lt
                have f12 : wr.cell? ⟨wo.heap.size, 12, none⟩ = some (.slice h.els.a x.els.length h.els.c) := hX.cell 12
                have hW2l := hW2.size
                have hle2 := linCs_le (x.cases.take j)
                have hcc := cntCs_cut x.cases j
                have hin2 := Lib.hid (hin0.out.below hW2 hB)
                by_cases hlt2 : j < x.cases.length
                · obtain ⟨b2, off2, hca, g0, g1⟩ := hin2.out.crow.ca hlt2
                  have lb2 : b2 < wr.heap.size := World.block_lt_of_cell? _ _ g0
                  rw [hca]
                  have hcs2 := Lib.hid (linCs_snoc hlt2)
                  have hcj := cntCs_snoc hlt2
                  have hcj2 := cntCs_cut x.cases (j + 1)
                  have hce := cntC_eq (nthC x.cases j)
                  have hcl2 := linC_eq (nthC x.cases j)
                  have hlb := linSs_le (nthC x.cases j).body
                  have s1 : SizeOf.sizeOf (nthC x.cases j) < SizeOf.sizeOf x.cases := getD_size _ hlt2
                  have s2 := cbody_size (nthC x.cases j)
                  have HC := Lib.hid (IH.out (nthC x.cases j).body (q j).a (q j).c B (wr.alloc (.cells (caC (nthC x.cases j) (q j)) 89)) (by omega) (by rw [World.size_alloc]; omega) ((hin2.out.cbody j hlt2).keep (below_alloc (Below.refl _ _) _) (by omega)) (by omega))
                  have HL := Lib.hid hcl2
                  clear hcl2 s1 s2
                  revert HC HL hlb
                  generalize linSs (nthC x.cases j).body = nb
                  intro hlb HC HL
                  go_wp2_with (go_at_call 24; go_must (refine HC.out.mono ?_; rintro e w1 ⟨rfl, hb⟩))
                  go_roundw
                  case rel => exact ⟨j + 1, by omega, by go_num, by rw [hcs2.out, HL.out]; go_num, below_step (below_alloc hW2 _) hb, (hX.alloc _).below' hb⟩
                  case measure => simp [intOf]; omega
                · obtain rfl : j = x.cases.length := by omega
                  rw [List.take_length] at hle2 ⊢
                  have hel : x.els.length * 1 ≤ 140737488351232 := by obtain @⟨_, _, _, _, a, _⟩ := hin.out.els; omega
                  by_cases hz : x.els.length = 0
                  · have z0 : decide (0 < x.els.length) = false := by simp [hz]
                    have HZ := Lib.hid hz
                    clear hz
                    go_wp2
                    go_roundw
                    case rel => exact ⟨k + 1, by omega, by go_num, by rw [hsn.out, hlx.out, if_pos HZ.out]; go_num, hW2⟩
                    case measure => simp [intOf]; omega
                  · have z0 : decide (0 < x.els.length) = true := by simp; omega
                    have HC : Hid (Calls Tryd.prog 24 #[.slice h.els.a x.els.length h.els.c] wr fun e w' => e = .returned (.int .i64 (linSs x.els : Nat)) ∧ Below wr.heap.size wr w') := Lib.hid (IH.out x.els h.els.a h.els.c B wr (by omega) (by omega) hin2.out.els (by omega))
                    go_wp2_with (go_at_call 24; go_must (refine HC.out.mono ?_; rintro e w1 ⟨rfl, hb⟩))
                    go_roundw
                    case rel => exact ⟨k + 1, by omega, by go_num, by rw [hsn.out, hlx.out, if_neg hz]; go_num, below_step hW2 hb⟩
                    case measure => simp [intOf]; omega
          · have hlx := Lib.hid (linS_7 k5 k7)
            have HC := Lib.hid (IH.out x.body h.body.a h.body.c B _ (by omega) hBr hin.out.body (by omega))
            revert hlx HC hb1
            generalize linSs x.body = nb
            intro hb1 hlx HC
            go_wp2_with (go_at_call 24; go_must (refine HC.out.mono ?_; rintro e w1 ⟨rfl, hb⟩))
            go_roundw
            case rel => exact ⟨k + 1, by omega, by go_num, by rw [hsn.out, hlx.out]; go_num, below_step HB1 hb⟩
            case measure => simp [intOf]; omega
        · have hlx := Lib.hid (linS_5 k5)
          have J0 := IH.out.re (l := x.body) (A := h.body.a) (c := h.body.c) (B := B) (by omega) hBr hin.out.body (by omega)
          have J1 := IH.out.re (l := x.els) (A := h.els.a) (c := h.els.c) (B := B) (by omega) hBr hin.out.els (by omega)
          have e11 := cell_regrown (show (wr.alloc (.cells (stC x h) 53)).cell? ⟨wr.heap.size, 11, none⟩ = some (.slice h.body.a x.body.length h.body.c) from X0.cell 11)
          have e12 := cell_regrown (show (wr.alloc (.cells (stC x h) 53)).cell? ⟨wr.heap.size, 12, none⟩ = some (.slice h.els.a x.els.length h.els.c) from X0.cell 12)
          have hel : x.els.length * 1 ≤ 140737488351232 := by obtain @⟨_, _, _, _, a, _⟩ := hin.out.els; omega
          revert hlx J0 J1 hb1 he1
          generalize linSs x.body = nb
          generalize linSs x.els = ne
          intro hb1 he1 hlx J0 J1
          have w0 : IntKind.i64.wrap (1 + (nb : Int)) = 1 + (nb : Int) := IntWalk.i64_in _ (by omega)
          have w1 : IntKind.i64.wrap (1 + (nb : Int) + (ne : Int)) = 1 + (nb : Int) + (ne : Int) := IntWalk.i64_in _ (by omega)
          have w2 : IntKind.i64.wrap ((nt : Int) + 1 + (1 + (nb : Int) + (ne : Int))) = (nt : Int) + 1 + (1 + (nb : Int) + (ne : Int)) := IntWalk.i64_in _ (by omega)
          go_upto_region 8 with fail
          generalize (wr.alloc (.cells (stC x h) 53)) = V at J0 J1 e11 e12 HB1 ⊢
          refine wp_region_quiet_below (by kernel_rfl) (by kernel_rfl) ?_
          repeat (first | quiet_step (first | with_reducible exact J0 _ _ | with_reducible exact J1 _ _) | go_big_quiet_step (first | with_reducible exact J0 _ _ | with_reducible exact J1 _ _))
          refine wpQuiet_nil ?_
          intro _ hw'
          obtain ⟨⟨dq, osq⟩, hw''⟩ := hw'
          subst hw''
          have f12 := e12 dq osq
          have HB2 := below_step HB1 (below_regrown V dq osq)
          clear e11 e12 J0 J1 w0 w1 w2
          generalize Sort.grow (redrawn V dq) osq = V2 at f12 HB2 ⊢
          by_cases hz : x.els.length = 0
          · have z0 : decide (0 < x.els.length) = false := by simp [hz]
            have HZ := Lib.hid hz
            clear hz
            go_wp2
            go_roundw
            case rel => exact ⟨k + 1, by omega, by go_num, by rw [hsn.out, hlx.out, if_pos HZ.out]; go_num, HB2⟩
            case measure => simp [intOf]; omega
          · have z0 : decide (0 < x.els.length) = true := by simp; omega
            go_wp2
            go_roundw
            case rel => exact ⟨k + 1, by omega, by go_num, by rw [hsn.out, hlx.out, if_neg hz]; go_num, HB2⟩
            case measure => simp [intOf]; omega
      · obtain rfl : k = l.length := by omega
        rw [List.take_length]
        go_wp2
        go_ret
        exact ⟨rfl, hW⟩
end Go.Proofs.YtdddppmfeoebgaaDoor
