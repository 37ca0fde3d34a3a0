/-
  Layer 16 (bounds): AwayP, AwayJ, AwayH, StQ, Merge.
-/
import Derived.Test.YtddobhneplfddaaDoorRows
import Derived.Test.YtddobhneplfddaaDoorZ1
import Derived.Test.YtddobhneplfddaaDoorZ3
import Derived.Test.YtddobhneplfddaaDoorZ4
import Derived.Test.YtddobhneplfddaaDoorZ5
import Derived.Test.YtddobhneplfddaaDoorZ16
import Derived.BigQuiet
import Derived.BigRegion
import Derived.Carry
import Derived.Deep.DeepHandedRow
import Derived.Deep.DrawnRows
import Derived.Deep.Light
import Derived.Deep.QuietTactic
import Derived.Deep.RegionHeld3
import Derived.Deep.RegionLaw
import Derived.JoinedCond
import Derived.Lib.Hide
import Derived.LoopTactic
import Derived.OpenShut
import Derived.OpenVars
import Derived.Outline
import Derived.ProofKit
import Derived.WalkKit
import Derived.WalkLawsBesides
import Derived.WalkSpells
namespace Go.Proofs.YtddobhneplfddaaDoor
set_option maxRecDepth 100000
open Go.RowKit
set_option linter.unusedSimpArgs false
set_option linter.unusedVariables false
/-- The row of spans when the first k arguments have met their ranges. -/
def meetTo (r : List Sp) (b : Nat) (ps : List Sp) : Nat → List Sp
  | 0 => r
  | k + 1 => (meetTo r b ps k).set (b + k) (((meetTo r b ps k).getD (b + k) ⟨0, 0⟩).meet (nthS ps k))
def meetToOk (r : List Sp) (b : Nat) (ps : List Sp) (k : Nat) : Bool := ((meetTo r b ps k).getD (b + k) ⟨0, 0⟩).meetOk (nthS ps k)
theorem meetTo_len (r : List Sp) (b : Nat) (ps : List Sp) : ∀ k, (meetTo r b ps k).length = r.length
  | 0 => rfl
  | k + 1 => by rw [meetTo, List.length_set, meetTo_len r b ps k]
theorem meetTo_cons (r : List Sp) (b : Nat) (p : Sp) (ps : List Sp) : ∀ k, meetTo r b (p :: ps) (k + 1) = meetTo (r.set b ((r.getD b ⟨0, 0⟩).meet p)) (b + 1) ps k
  | 0 => rfl
  | k + 1 => by
    rw [meetTo, meetTo_cons r b p ps k, meetTo]
    rw [show b + (k + 1) = b + 1 + k by omega]
    rfl
theorem callD_yes : ∀ (ps : List Sp) (r : List Sp) (b : Nat), (∀ j, j < ps.length → meetToOk r b ps j = true) → callD r b ps = some (meetTo r b ps ps.length)
  | [], r, b, _ => rfl
  | p :: ps, r, b, h => by
    have h0 : (r.getD b ⟨0, 0⟩).meetOk p = true := h 0 (by simp)
    have e : ((b : Int) + 1) = ((b + 1 : Nat) : Int) := by simp
    rw [callD, atS, setS, Int.toNat_natCast, if_pos h0, e, callD_yes ps _ (b + 1) (fun j hj => ?_), List.length_cons, meetTo_cons]
    have := h (j + 1) (by simpa using hj)
    rw [meetToOk, meetTo_cons, show b + (j + 1) = b + 1 + j by omega] at this
    exact this
theorem callD_no : ∀ (ps : List Sp) (r : List Sp) (b k : Nat), k < ps.length → (∀ j, j < k → meetToOk r b ps j = true) → meetToOk r b ps k = false → callD r b ps = none
  | [], r, b, k, hk, _, _ => by simp at hk
  | p :: ps, r, b, 0, _, _, h => by
    have h0 : ¬ (r.getD b ⟨0, 0⟩).meetOk p = true := by
      have : (r.getD b ⟨0, 0⟩).meetOk p = false := h
      rw [this]; decide
    rw [callD, atS, Int.toNat_natCast, if_neg h0]
  | p :: ps, r, b, k + 1, hk, h, hn => by
    have h0 : (r.getD b ⟨0, 0⟩).meetOk p = true := h 0 (by omega)
    have e : ((b : Int) + 1) = ((b + 1 : Nat) : Int) := by simp
    rw [callD, atS, setS, Int.toNat_natCast, if_pos h0, e]
    refine callD_no ps _ (b + 1) k (by simpa using hk) (fun j hj => ?_) ?_
    · have := h (j + 1) (by omega)
      rw [meetToOk, meetTo_cons, show b + (j + 1) = b + 1 + j by omega] at this
      exact this
    · rw [meetToOk, meetTo_cons, show b + (k + 1) = b + 1 + k by omega] at hn
      exact hn
/-- What stands at the head of a round over a call's arguments. -/
def CallRel (w : World) (g nr cp : Nat) (r : List Sp) (kb : Nat) (ps : List Sp) (x : InsD) (wd : Int) (fv : Value) (i : Value) (W : World) : Prop :=
  ∃ k : Nat, k ≤ ps.length ∧ i = .int .i64 k ∧ (∀ j, j < k → meetToOk r kb ps j = true) ∧ AwW w W g nr cp (meetTo r kb ps k) x wd fv
theorem meetAwI (a s : Sp) (kb k g nr cp : Nat) (r : List Sp) (hr : r.length = nr) (hcp : cp ≤ maxLen) (hc : nr ≤ cp) (hs : r[kb + k]? = some s) (w W : World) (x : InsD) (wd : Int) (fv : Value) (h : AwW w W g nr cp r x wd fv) :
    Calls Tryd.prog 53 #[.int .i64 ((kb : Int) + (k : Int)), .agg #[.int .i64 a.lo, .int .i64 a.hi], .pointer (some ⟨w.heap.size + 1 + 1, 0, none⟩)] W fun e w' => e = .returned (.bool (s.meetOk a)) ∧ AwW w w' g nr cp (r.set (kb + k) (s.meet a)) x wd fv := by
  have := meetAw a s (kb + k) g nr cp r hr hcp hc hs w W x wd fv h
  rwa [Int.natCast_add] at this
set_option maxHeartbeats 8000000 in
theorem away_19_true (m : ModD) (f : FuncD) (frm ka kb kn : Nat) (to c : Int) (hf : frm < f.code.length) (hx : nthX f.code frm = ⟨19, ((ka : Nat) : Int), ((kb : Nat) : Int), c, ((kn : Nat) : Int)⟩) (hl : f.code.length * 40 ≤ 140737488351232) (g nr cp B : Nat) (r : List Sp) (hr : r.length = nr) (hc : nr ≤ cp) (hcp : cp ≤ maxLen) (hka : ka < r.length) (hkn : kn < m.funcs.length) (hnf : m.funcs.length ≤ 32) (hb : kb + (nthF m.funcs kn).params.length ≤ nr) (w : World) (hM : ModOk w B m) (hB : B ≤ g) (ov : Bool) (hto : (to == ((kn : Nat) : Int)) = true) (hon : (((kn : Nat) : Int) != (frm : Int) + 1) = ov) (hI : InsAt w w.heap.size f.ca f.code) (hR : RowS w g cp r) :
    Calls Tryd.prog 29 #[m.val, f.val, .int .i64 frm, .int .i64 to, .slice (some ⟨g, 0, none⟩) nr cp] w (AwayOk g cp nr ((callD r kb (nthF m.funcs kn).params).map fun q => q.set ka Sp.all) w) := by
  obtain ⟨cb, co, hca, hcb, hcc⟩ := hI (by omega)
  have x0 := hcc frm hf 0 (by omega)
  have x1 := hcc frm hf 1 (by omega)
  have x2 := hcc frm hf 2 (by omega)
  have x3 := hcc frm hf 3 (by omega)
  have x4 := hcc frm hf 4 (by omega)
  simp only [hx, insV, Nat.add_zero] at x0 x1 x2 x3 x4
  obtain ⟨nm, pa, pc, ps0, rg, wd, ca, cc, cd⟩ := f
  simp only at hca hf hl hx ⊢
  subst hca
  have lg := hR.lt
  have hfr : ((frm : Nat) : Int) < (cd.length : Int) := by omega
  have hkf : ((kn : Nat) : Int) < (m.funcs.length : Int) := by omega
  unfold maxLen at hcp
  have HR := Lib.hid hR
  obtain ⟨fb, fo, hfa, hfb, hfc⟩ := hM.funcs (by omega)
  have y1 := hfc kn hkn 1 (by omega)
  simp only [funcV] at y1
  have hps := (hM.each kn hkn).params
  obtain ⟨ta, tc, ths, fa, fc, fns⟩ := m
  simp only at hfa hkn hnf hb y1 hps hkf ⊢
  subst hfa
  generalize hF : nthF fns kn = F at *
  obtain ⟨nm2, pa2, pc2, ps, rg2, wd2, ca2, cc2, cd2⟩ := F
  simp only at y1 hps hb ⊢
  have HP := Lib.hid hps
  have hfw : fb < w.heap.size := by omega
  have hna : ((ka : Nat) : Int) < (nr : Int) := by omega
  have lgp : w.heap.size = w.heap.size := rfl
  clear hcc hx hfc hM hps hF hR lgp
  go_enter Tryd.func29, Tryd.ntmps29
  go_wp2
  generalize hW : ((((w.alloc (.cells #[.slice ta ths.length tc, .slice (some ⟨fb, fo, none⟩) fns.length fc] 25)).alloc (.cells #[.string nm, .slice pa ps0.length pc, .int .i64 rg, .int .i64 wd, .slice (some ⟨cb, co, none⟩) cd.length cc] 48)).alloc (.cells #[.slice (some ⟨g, 0, none⟩) nr cp] 26)).alloc (.cells #[.int .i64 19, .int .i64 ((ka : Nat) : Int), .int .i64 ((kb : Nat) : Int), .int .i64 c, .int .i64 ((kn : Nat) : Int)] 65)) = W
  have aw : AwW w W g nr cp r ⟨19, ka, kb, c, kn⟩ wd (.slice (some ⟨fb, fo, none⟩) fns.length fc) := by
    rw [← hW]; exact AwW.new (x := ⟨19, ka, kb, c, kn⟩) HR.out _ _ _ _ _ _ _ _ _
  clear hW x0 x1 x2 x3 x4 y1
  go_loopw [183] (fun i V => CallRel w g nr cp r kb ps ⟨19, ka, kb, c, kn⟩ wd (.slice (some ⟨fb, fo, none⟩) fns.length fc) i V) (fun i _ => ps.length - (intOf i).toNat)
  case atStart => exact ⟨0, Nat.zero_le _, rfl, fun _ h => absurd h (by omega), aw⟩
  case round =>
    obtain ⟨k, hk, rfl, hok, aw1⟩ := hrel
    clear aw
    have HOK := Lib.hid hok
    clear hok
    have hsz := aw1.size
    have hml := meetTo_len r kb ps k
    have hpl : ps.length ≤ 9223372036854775807 := by omega
    by_cases hlt : k < ps.length
    · obtain ⟨pb, po, hpa, hpb, hpc⟩ := HP.out (by omega)
      have z0 := hpc k hlt 0 (by omega)
      have z1 := hpc k hlt 1 (by omega)
      rw [← gwCell aw1.gr (by omega) (by omega)] at z0 z1
      simp only [spV, Nat.add_zero] at z0 z1
      clear hpc
      subst hpa
      obtain ⟨sx, hsx⟩ : ∃ s, (meetTo r kb ps k)[kb + k]? = some s := ⟨_, List.getElem?_eq_getElem (by omega)⟩
      have hlp : pb < wr.heap.size := by omega
      have hki : (k : Int) < (ps.length : Int) := by omega
      have e2 : IntKind.i64.wrap ((kb : Int) + (k : Int)) = (kb : Int) + (k : Int) := IntWalk.i64_in _ (by omega)
      have aw2 := AwW.alloc aw1 (.cells #[.int .i64 (nthS ps k).lo, .int .i64 (nthS ps k).hi] 34)
      have c2 := aw2.x2
      cases hmk : sx.meetOk (nthS ps k)
      all_goals
        have HMK := Lib.hid hmk
        clear hmk
        go_wp2_with fail
        go_at_call 53
        refine (meetAwI (nthS ps k) sx kb k g nr cp _ (by omega) (by unfold maxLen; omega) hc hsx w _ _ _ _ aw2).mono ?_
        rintro e w2 ⟨rfl, aw3⟩
        rw [HMK.out]
        clear aw2 aw1
        go_wp2
      · have hsd : (meetTo r kb ps k).getD (kb + k) ⟨0, 0⟩ = sx := by rw [List.getD_eq_getElem?_getD, hsx]; rfl
        have hno : callD r kb ps = none := callD_no ps r kb k hlt HOK.out (by rw [meetToOk, hsd]; exact HMK.out)
        refine ret_of ?_ rfl
        refine ⟨_, by simp [results, Tryd.results29, go_sem] <;> rfl, by rw [hno]; rfl, ⟨_, aw3.row, by rw [List.length_set]; omega, fun _ h => by rw [hno] at h; cases h⟩, aw3.gr⟩
      · have hsd : (meetTo r kb ps k).getD (kb + k) ⟨0, 0⟩ = sx := by rw [List.getD_eq_getElem?_getD, hsx]; rfl
        go_roundw
        case rel =>
          refine ⟨k + 1, by omega, by go_num, fun j hj => ?_, ?_⟩
          · rcases Nat.lt_or_ge j k with h | h
            · exact HOK.out j h
            · obtain rfl : j = k := by omega
              rw [meetToOk, hsd]; exact HMK.out
          · rw [meetTo, hsd]; exact aw3
        case measure => simp [intOf]; omega
    · have hk2 : k = ps.length := by omega
      subst hk2
      have hyes : callD r kb ps = some (meetTo r kb ps ps.length) := callD_yes ps r kb HOK.out
      have e1 := aw1.x1
      have eb := aw1.rb
      simp at e1
      have hrl : (meetTo r kb ps ps.length).length = nr := by omega
      have hat : ∃ s, (meetTo r kb ps ps.length)[ka]? = some s := ⟨_, List.getElem?_eq_getElem (by omega)⟩
      go_wp2
      have HS : ∀ w', (∃ r', r'.length = nr ∧ AwW w w' g nr cp r' ⟨19, ka, kb, c, kn⟩ wd (.slice (some ⟨fb, fo, none⟩) fns.length fc)) → (w'.cell? ⟨w.heap.size + 1 + 1 + 1, 1, none⟩ = some (.int .i64 ka) ∧ w'.cell? ⟨w.heap.size + 1 + 1, 0, none⟩ = some (.slice (some ⟨g, 0, none⟩) nr cp)) ∧ ∃ r', r'.length = nr ∧ AwW w w' g nr cp r' ⟨19, ka, kb, c, kn⟩ wd (.slice (some ⟨fb, fo, none⟩) fns.length fc) := fun w' ⟨r', hr', h⟩ => ⟨⟨h.x1, h.rb⟩, r', hr', h⟩
      refine wp_region_held_drew (S := (fun w' => (w'.cell? ⟨w.heap.size + 1 + 1 + 1, 1, none⟩ = some (.int .i64 ka) ∧ w'.cell? ⟨w.heap.size + 1 + 1, 0, none⟩ = some (.slice (some ⟨g, 0, none⟩) nr cp)) ∧ ∃ r', r'.length = nr ∧ AwW w w' g nr cp r' ⟨19, ka, kb, c, kn⟩ wd (.slice (some ⟨fb, fo, none⟩) fns.length fc))) (by kernel_rfl) ?_ (fun hHeld => ?_)
      · (exact HS _ ⟨_, hrl, aw1.drew⟩)
      refine wpAnyH_take (i := 0) (v := ?_) rfl (by kernel_rfl) (by kernel_rfl) (by kernel_rfl) (fun _ _ _ h => h) (Or.inl ⟨by rfl, ?_⟩) (by assumption) ?_
      rotate_left
      · (intro w' hSw; (try dsimp only at hSw); go_simp <;> with_reducible rfl)
      (try simp only [Act.put, List.setIfInBounds_toArray, List.set_cons_zero, List.set_cons_succ])
      refine wpAnyH_take (i := 1) (v := ?_) rfl (by kernel_rfl) (by kernel_rfl) (by kernel_rfl) (fun _ _ _ h => h) (Or.inl ⟨by rfl, ?_⟩) (by assumption) ?_
      rotate_left
      · (intro w' hSw; (try dsimp only at hSw); go_simp <;> with_reducible rfl)
      (try simp only [Act.put, List.setIfInBounds_toArray, List.set_cons_zero, List.set_cons_succ])
      refine wpAnyH_take (i := 2) (v := ?_) rfl (by kernel_rfl) (by kernel_rfl) (by kernel_rfl) (fun _ _ _ h => h) (Or.inl ⟨by rfl, ?_⟩) (by assumption) ?_
      rotate_left
      · (intro w' hSw; (try dsimp only at hSw); go_simp <;> with_reducible rfl)
      (try simp only [Act.put, List.setIfInBounds_toArray, List.set_cons_zero, List.set_cons_succ])
      refine wpAnyH_ready (rs := [3]) (by kernel_rfl) (by simp) ?_
      refine AllReadyH.cons rfl (fun K hK => ?_) AllReadyH.nil
      go_simp; go_at_call 58; refine (allP _).mono ?_; rintro e w3 ⟨rfl, hb3⟩; go_wp2_with fail; have hs3 := hb3.size; have aw3 := AwW.below aw1.drew hb3; obtain ⟨sx3, hsx3⟩ := hat; obtain ⟨hka3, g0, g1, h0, h1⟩ := aw3.row.cells4 hsx3
      refine hK.out _ _ ?_ (fun hHeld => ?_)
      · (exact HS _ ⟨_, hrl, aw3⟩)
      clear hK K
      (try simp only [Act.put, List.setIfInBounds_toArray, List.set_cons_zero, List.set_cons_succ])
      refine wpAnyH_take (i := 4) (v := ?_) rfl (by kernel_rfl) (by kernel_rfl) (by kernel_rfl) (fun _ _ _ h => h) (Or.inl ⟨by rfl, ?_⟩) (by assumption) ?_
      rotate_left
      · (intro w' hSw; (try dsimp only at hSw); go_simp <;> with_reducible rfl)
      (try simp only [Act.put, List.setIfInBounds_toArray, List.set_cons_zero, List.set_cons_succ])
      refine wpAnyH_ready (rs := [5]) (by kernel_rfl) (by simp) ?_
      refine AllReadyH.cons rfl (fun K hK => ?_) AllReadyH.nil
      go_simp
      refine hK.out _ _ ?_ (fun hHeld => ?_)
      · (exact HS _ ⟨_, by simp [hrl], AwW.put aw3 hka3 Sp.all⟩)
      clear hK K
      (try simp only [Act.put, List.setIfInBounds_toArray, List.set_cons_zero, List.set_cons_succ])
      refine wpAnyH_done (by kernel_rfl) ?_ _
      have fin := aw3.put hka3 Sp.all
      go_wp2
      refine ret_of ?_ rfl
      refine ⟨_, by simp [results, Tryd.results29, go_sem] <;> rfl, by rw [hyes]; rfl, ⟨_, fin.row, by simp [hrl], fun _ h => by rw [hyes] at h; exact Option.some.inj h⟩, fin.gr⟩
set_option maxHeartbeats 8000000 in
theorem away_19_false (m : ModD) (f : FuncD) (frm ka kb kn : Nat) (to c : Int) (hf : frm < f.code.length) (hx : nthX f.code frm = ⟨19, ((ka : Nat) : Int), ((kb : Nat) : Int), c, ((kn : Nat) : Int)⟩) (hl : f.code.length * 40 ≤ 140737488351232) (g nr cp B : Nat) (r : List Sp) (hr : r.length = nr) (hc : nr ≤ cp) (hcp : cp ≤ maxLen) (hka : ka < r.length) (hkn : kn < m.funcs.length) (hnf : m.funcs.length ≤ 32) (hb : kb + (nthF m.funcs kn).params.length ≤ nr) (w : World) (hM : ModOk w B m) (hB : B ≤ g) (ov : Bool) (hto : (to == ((kn : Nat) : Int)) = false) (hon : (((kn : Nat) : Int) != (frm : Int) + 1) = ov) (hI : InsAt w w.heap.size f.ca f.code) (hR : RowS w g cp r) :
    Calls Tryd.prog 29 #[m.val, f.val, .int .i64 frm, .int .i64 to, .slice (some ⟨g, 0, none⟩) nr cp] w (AwayOk g cp nr ((callD r kb (nthF m.funcs kn).params).map fun q => q.set ka Sp.all) w) := by
  obtain ⟨cb, co, hca, hcb, hcc⟩ := hI (by omega)
  have x0 := hcc frm hf 0 (by omega)
  have x1 := hcc frm hf 1 (by omega)
  have x2 := hcc frm hf 2 (by omega)
  have x3 := hcc frm hf 3 (by omega)
  have x4 := hcc frm hf 4 (by omega)
  simp only [hx, insV, Nat.add_zero] at x0 x1 x2 x3 x4
  obtain ⟨nm, pa, pc, ps0, rg, wd, ca, cc, cd⟩ := f
  simp only at hca hf hl hx ⊢
  subst hca
  have lg := hR.lt
  have hfr : ((frm : Nat) : Int) < (cd.length : Int) := by omega
  have hkf : ((kn : Nat) : Int) < (m.funcs.length : Int) := by omega
  unfold maxLen at hcp
  have HR := Lib.hid hR
  obtain ⟨fb, fo, hfa, hfb, hfc⟩ := hM.funcs (by omega)
  have y1 := hfc kn hkn 1 (by omega)
  simp only [funcV] at y1
  have hps := (hM.each kn hkn).params
  obtain ⟨ta, tc, ths, fa, fc, fns⟩ := m
  simp only at hfa hkn hnf hb y1 hps hkf ⊢
  subst hfa
  generalize hF : nthF fns kn = F at *
  obtain ⟨nm2, pa2, pc2, ps, rg2, wd2, ca2, cc2, cd2⟩ := F
  simp only at y1 hps hb ⊢
  have HP := Lib.hid hps
  have hfw : fb < w.heap.size := by omega
  have hna : ((ka : Nat) : Int) < (nr : Int) := by omega
  have lgp : w.heap.size = w.heap.size := rfl
  clear hcc hx hfc hM hps hF hR lgp
  go_enter Tryd.func29, Tryd.ntmps29
  go_wp2
  generalize hW : ((((w.alloc (.cells #[.slice ta ths.length tc, .slice (some ⟨fb, fo, none⟩) fns.length fc] 25)).alloc (.cells #[.string nm, .slice pa ps0.length pc, .int .i64 rg, .int .i64 wd, .slice (some ⟨cb, co, none⟩) cd.length cc] 48)).alloc (.cells #[.slice (some ⟨g, 0, none⟩) nr cp] 26)).alloc (.cells #[.int .i64 19, .int .i64 ((ka : Nat) : Int), .int .i64 ((kb : Nat) : Int), .int .i64 c, .int .i64 ((kn : Nat) : Int)] 65)) = W
  have aw : AwW w W g nr cp r ⟨19, ka, kb, c, kn⟩ wd (.slice (some ⟨fb, fo, none⟩) fns.length fc) := by
    rw [← hW]; exact AwW.new (x := ⟨19, ka, kb, c, kn⟩) HR.out _ _ _ _ _ _ _ _ _
  clear hW x0 x1 x2 x3 x4 y1
  go_loopw [183] (fun i V => CallRel w g nr cp r kb ps ⟨19, ka, kb, c, kn⟩ wd (.slice (some ⟨fb, fo, none⟩) fns.length fc) i V) (fun i _ => ps.length - (intOf i).toNat)
  case atStart => exact ⟨0, Nat.zero_le _, rfl, fun _ h => absurd h (by omega), aw⟩
  case round =>
    obtain ⟨k, hk, rfl, hok, aw1⟩ := hrel
    clear aw
    have HOK := Lib.hid hok
    clear hok
    have hsz := aw1.size
    have hml := meetTo_len r kb ps k
    have hpl : ps.length ≤ 9223372036854775807 := by omega
    by_cases hlt : k < ps.length
    · obtain ⟨pb, po, hpa, hpb, hpc⟩ := HP.out (by omega)
      have z0 := hpc k hlt 0 (by omega)
      have z1 := hpc k hlt 1 (by omega)
      rw [← gwCell aw1.gr (by omega) (by omega)] at z0 z1
      simp only [spV, Nat.add_zero] at z0 z1
      clear hpc
      subst hpa
      obtain ⟨sx, hsx⟩ : ∃ s, (meetTo r kb ps k)[kb + k]? = some s := ⟨_, List.getElem?_eq_getElem (by omega)⟩
      have hlp : pb < wr.heap.size := by omega
      have hki : (k : Int) < (ps.length : Int) := by omega
      have e2 : IntKind.i64.wrap ((kb : Int) + (k : Int)) = (kb : Int) + (k : Int) := IntWalk.i64_in _ (by omega)
      have aw2 := AwW.alloc aw1 (.cells #[.int .i64 (nthS ps k).lo, .int .i64 (nthS ps k).hi] 34)
      have c2 := aw2.x2
      cases hmk : sx.meetOk (nthS ps k)
      all_goals
        have HMK := Lib.hid hmk
        clear hmk
        go_wp2_with fail
        go_at_call 53
        refine (meetAwI (nthS ps k) sx kb k g nr cp _ (by omega) (by unfold maxLen; omega) hc hsx w _ _ _ _ aw2).mono ?_
        rintro e w2 ⟨rfl, aw3⟩
        rw [HMK.out]
        clear aw2 aw1
        go_wp2
      · have hsd : (meetTo r kb ps k).getD (kb + k) ⟨0, 0⟩ = sx := by rw [List.getD_eq_getElem?_getD, hsx]; rfl
        have hno : callD r kb ps = none := callD_no ps r kb k hlt HOK.out (by rw [meetToOk, hsd]; exact HMK.out)
        refine ret_of ?_ rfl
        refine ⟨_, by simp [results, Tryd.results29, go_sem] <;> rfl, by rw [hno]; rfl, ⟨_, aw3.row, by rw [List.length_set]; omega, fun _ h => by rw [hno] at h; cases h⟩, aw3.gr⟩
      · have hsd : (meetTo r kb ps k).getD (kb + k) ⟨0, 0⟩ = sx := by rw [List.getD_eq_getElem?_getD, hsx]; rfl
        go_roundw
        case rel =>
          refine ⟨k + 1, by omega, by go_num, fun j hj => ?_, ?_⟩
          · rcases Nat.lt_or_ge j k with h | h
            · exact HOK.out j h
            · obtain rfl : j = k := by omega
              rw [meetToOk, hsd]; exact HMK.out
          · rw [meetTo, hsd]; exact aw3
        case measure => simp [intOf]; omega
    · have hk2 : k = ps.length := by omega
      subst hk2
      have hyes : callD r kb ps = some (meetTo r kb ps ps.length) := callD_yes ps r kb HOK.out
      have e1 := aw1.x1
      have eb := aw1.rb
      simp at e1
      have hrl : (meetTo r kb ps ps.length).length = nr := by omega
      have hat : ∃ s, (meetTo r kb ps ps.length)[ka]? = some s := ⟨_, List.getElem?_eq_getElem (by omega)⟩
      go_wp2
      have HS : ∀ w', (∃ r', r'.length = nr ∧ AwW w w' g nr cp r' ⟨19, ka, kb, c, kn⟩ wd (.slice (some ⟨fb, fo, none⟩) fns.length fc)) → (w'.cell? ⟨w.heap.size + 1 + 1 + 1, 1, none⟩ = some (.int .i64 ka) ∧ w'.cell? ⟨w.heap.size + 1 + 1, 0, none⟩ = some (.slice (some ⟨g, 0, none⟩) nr cp)) ∧ ∃ r', r'.length = nr ∧ AwW w w' g nr cp r' ⟨19, ka, kb, c, kn⟩ wd (.slice (some ⟨fb, fo, none⟩) fns.length fc) := fun w' ⟨r', hr', h⟩ => ⟨⟨h.x1, h.rb⟩, r', hr', h⟩
      refine wp_region_held_drew (S := (fun w' => (w'.cell? ⟨w.heap.size + 1 + 1 + 1, 1, none⟩ = some (.int .i64 ka) ∧ w'.cell? ⟨w.heap.size + 1 + 1, 0, none⟩ = some (.slice (some ⟨g, 0, none⟩) nr cp)) ∧ ∃ r', r'.length = nr ∧ AwW w w' g nr cp r' ⟨19, ka, kb, c, kn⟩ wd (.slice (some ⟨fb, fo, none⟩) fns.length fc))) (by kernel_rfl) ?_ (fun hHeld => ?_)
      · (exact HS _ ⟨_, hrl, aw1.drew⟩)
      refine wpAnyH_take (i := 0) (v := ?_) rfl (by kernel_rfl) (by kernel_rfl) (by kernel_rfl) (fun _ _ _ h => h) (Or.inl ⟨by rfl, ?_⟩) (by assumption) ?_
      rotate_left
      · (intro w' hSw; (try dsimp only at hSw); go_simp <;> with_reducible rfl)
      (try simp only [Act.put, List.setIfInBounds_toArray, List.set_cons_zero, List.set_cons_succ])
      refine wpAnyH_take (i := 1) (v := ?_) rfl (by kernel_rfl) (by kernel_rfl) (by kernel_rfl) (fun _ _ _ h => h) (Or.inl ⟨by rfl, ?_⟩) (by assumption) ?_
      rotate_left
      · (intro w' hSw; (try dsimp only at hSw); go_simp <;> with_reducible rfl)
      (try simp only [Act.put, List.setIfInBounds_toArray, List.set_cons_zero, List.set_cons_succ])
      refine wpAnyH_take (i := 2) (v := ?_) rfl (by kernel_rfl) (by kernel_rfl) (by kernel_rfl) (fun _ _ _ h => h) (Or.inl ⟨by rfl, ?_⟩) (by assumption) ?_
      rotate_left
      · (intro w' hSw; (try dsimp only at hSw); go_simp <;> with_reducible rfl)
      (try simp only [Act.put, List.setIfInBounds_toArray, List.set_cons_zero, List.set_cons_succ])
      refine wpAnyH_ready (rs := [3]) (by kernel_rfl) (by simp) ?_
      refine AllReadyH.cons rfl (fun K hK => ?_) AllReadyH.nil
      go_simp; go_at_call 58; refine (allP _).mono ?_; rintro e w3 ⟨rfl, hb3⟩; go_wp2_with fail; have hs3 := hb3.size; have aw3 := AwW.below aw1.drew hb3; obtain ⟨sx3, hsx3⟩ := hat; obtain ⟨hka3, g0, g1, h0, h1⟩ := aw3.row.cells4 hsx3
      refine hK.out _ _ ?_ (fun hHeld => ?_)
      · (exact HS _ ⟨_, hrl, aw3⟩)
      clear hK K
      (try simp only [Act.put, List.setIfInBounds_toArray, List.set_cons_zero, List.set_cons_succ])
      refine wpAnyH_take (i := 4) (v := ?_) rfl (by kernel_rfl) (by kernel_rfl) (by kernel_rfl) (fun _ _ _ h => h) (Or.inl ⟨by rfl, ?_⟩) (by assumption) ?_
      rotate_left
      · (intro w' hSw; (try dsimp only at hSw); go_simp <;> with_reducible rfl)
      (try simp only [Act.put, List.setIfInBounds_toArray, List.set_cons_zero, List.set_cons_succ])
      refine wpAnyH_ready (rs := [5]) (by kernel_rfl) (by simp) ?_
      refine AllReadyH.cons rfl (fun K hK => ?_) AllReadyH.nil
      go_simp
      refine hK.out _ _ ?_ (fun hHeld => ?_)
      · (exact HS _ ⟨_, by simp [hrl], AwW.put aw3 hka3 Sp.all⟩)
      clear hK K
      (try simp only [Act.put, List.setIfInBounds_toArray, List.set_cons_zero, List.set_cons_succ])
      refine wpAnyH_done (by kernel_rfl) ?_ _
      have fin := aw3.put hka3 Sp.all
      go_wp2
      refine ret_of ?_ rfl
      refine ⟨_, by simp [results, Tryd.results29, go_sem] <;> rfl, by rw [hyes]; rfl, ⟨_, fin.row, by simp [hrl], fun _ h => by rw [hyes] at h; exact Option.some.inj h⟩, fin.gr⟩
end Go.Proofs.YtddobhneplfddaaDoor

namespace Go.Proofs.YtddobhneplfddaaDoor
set_option maxRecDepth 100000
open Go.RowKit
set_option linter.unusedSimpArgs false
set_option linter.unusedVariables false
set_option maxHeartbeats 4000000 in
theorem away_15_one_t (m : ModD) (f : FuncD) (frm  : Nat) (to a b c n : Int) (hf : frm < f.code.length) (hx : nthX f.code frm = ⟨15, a, b, c, n⟩) (hl : f.code.length * 40 ≤ 140737488351232) (g nr cp : Nat) (r : List Sp) (hr : r.length = nr) (hc : nr ≤ cp) (hcp : cp ≤ maxLen) (hone : (n == (frm : Int) + 1) = true) (hone' : (n != (frm : Int) + 1) = false) (hto : (to == n) = true) (w : World) (hI : InsAt w w.heap.size f.ca f.code) (hR : RowS w g cp r) :
    Calls Tryd.prog 29 #[m.val, f.val, .int .i64 frm, .int .i64 to, .slice (some ⟨g, 0, none⟩) nr cp] w (AwayOk g cp nr (some r) w) := by
  obtain ⟨cb, co, hca, hcb, hcc⟩ := hI (by omega)
  have x0 := hcc frm hf 0 (by omega)
  have x1 := hcc frm hf 1 (by omega)
  have x2 := hcc frm hf 2 (by omega)
  have x3 := hcc frm hf 3 (by omega)
  have x4 := hcc frm hf 4 (by omega)
  simp only [hx, insV, Nat.add_zero] at x0 x1 x2 x3 x4
  obtain ⟨nm, pa, pc, ps, rg, wd, ca, cc, cd⟩ := f
  simp only at hca hf hl hx ⊢
  subst hca
  have lg := hR.lt
  have hfr : ((frm : Nat) : Int) < (cd.length : Int) := by omega
  unfold maxLen at hcp
  have HR := Lib.hid hR
  clear hcc hx hR
  go_enter Tryd.func29, Tryd.ntmps29
  go_wp2
  all_goals
    have hR := HR.out
    refine ret_of ?_ rfl
    refine ⟨_, by simp [results, Tryd.results29, go_sem] <;> rfl, rfl, ⟨r, ?_, by simp [hr], fun _ h => Option.some.inj h⟩, ?_⟩
    · repeat (first | with_reducible exact hR | with_reducible refine RowS.drew ?_ | with_reducible refine RowS.drewN ?_ _ | with_reducible refine RowS.alloc ?_ _ | (with_reducible refine RowS.far ?_ ?_ _; rotate_left; (· first | (simp; done) | (simp; omega))))
    · repeat (first | with_reducible exact gwRefl _ _ | with_reducible refine gwPutG ?_ _ _ | (with_reducible refine gwPut ?_ ?_ _; rotate_left; (· first | (simp; done) | (simp; omega))) | with_reducible refine gwNew ?_ _ | with_reducible refine gwDrawn ?_ | with_reducible refine gwDrawnN ?_ _)
set_option maxHeartbeats 4000000 in
theorem away_15_one_f (m : ModD) (f : FuncD) (frm  : Nat) (to a b c n : Int) (hf : frm < f.code.length) (hx : nthX f.code frm = ⟨15, a, b, c, n⟩) (hl : f.code.length * 40 ≤ 140737488351232) (g nr cp : Nat) (r : List Sp) (hr : r.length = nr) (hc : nr ≤ cp) (hcp : cp ≤ maxLen) (hone : (n == (frm : Int) + 1) = true) (hone' : (n != (frm : Int) + 1) = false) (hto : (to == n) = false) (w : World) (hI : InsAt w w.heap.size f.ca f.code) (hR : RowS w g cp r) :
    Calls Tryd.prog 29 #[m.val, f.val, .int .i64 frm, .int .i64 to, .slice (some ⟨g, 0, none⟩) nr cp] w (AwayOk g cp nr (some r) w) := by
  obtain ⟨cb, co, hca, hcb, hcc⟩ := hI (by omega)
  have x0 := hcc frm hf 0 (by omega)
  have x1 := hcc frm hf 1 (by omega)
  have x2 := hcc frm hf 2 (by omega)
  have x3 := hcc frm hf 3 (by omega)
  have x4 := hcc frm hf 4 (by omega)
  simp only [hx, insV, Nat.add_zero] at x0 x1 x2 x3 x4
  obtain ⟨nm, pa, pc, ps, rg, wd, ca, cc, cd⟩ := f
  simp only at hca hf hl hx ⊢
  subst hca
  have lg := hR.lt
  have hfr : ((frm : Nat) : Int) < (cd.length : Int) := by omega
  unfold maxLen at hcp
  have HR := Lib.hid hR
  clear hcc hx hR
  go_enter Tryd.func29, Tryd.ntmps29
  go_wp2
  all_goals
    have hR := HR.out
    refine ret_of ?_ rfl
    refine ⟨_, by simp [results, Tryd.results29, go_sem] <;> rfl, rfl, ⟨r, ?_, by simp [hr], fun _ h => Option.some.inj h⟩, ?_⟩
    · repeat (first | with_reducible exact hR | with_reducible refine RowS.drew ?_ | with_reducible refine RowS.drewN ?_ _ | with_reducible refine RowS.alloc ?_ _ | (with_reducible refine RowS.far ?_ ?_ _; rotate_left; (· first | (simp; done) | (simp; omega))))
    · repeat (first | with_reducible exact gwRefl _ _ | with_reducible refine gwPutG ?_ _ _ | (with_reducible refine gwPut ?_ ?_ _; rotate_left; (· first | (simp; done) | (simp; omega))) | with_reducible refine gwNew ?_ _ | with_reducible refine gwDrawn ?_ | with_reducible refine gwDrawnN ?_ _)
set_option maxHeartbeats 4000000 in
theorem away_16_one_t (m : ModD) (f : FuncD) (frm  : Nat) (to a b c n : Int) (hf : frm < f.code.length) (hx : nthX f.code frm = ⟨16, a, b, c, n⟩) (hl : f.code.length * 40 ≤ 140737488351232) (g nr cp : Nat) (r : List Sp) (hr : r.length = nr) (hc : nr ≤ cp) (hcp : cp ≤ maxLen) (hone : (n == (frm : Int) + 1) = true) (hone' : (n != (frm : Int) + 1) = false) (hto : (to == n) = true) (w : World) (hI : InsAt w w.heap.size f.ca f.code) (hR : RowS w g cp r) :
    Calls Tryd.prog 29 #[m.val, f.val, .int .i64 frm, .int .i64 to, .slice (some ⟨g, 0, none⟩) nr cp] w (AwayOk g cp nr (some r) w) := by
  obtain ⟨cb, co, hca, hcb, hcc⟩ := hI (by omega)
  have x0 := hcc frm hf 0 (by omega)
  have x1 := hcc frm hf 1 (by omega)
  have x2 := hcc frm hf 2 (by omega)
  have x3 := hcc frm hf 3 (by omega)
  have x4 := hcc frm hf 4 (by omega)
  simp only [hx, insV, Nat.add_zero] at x0 x1 x2 x3 x4
  obtain ⟨nm, pa, pc, ps, rg, wd, ca, cc, cd⟩ := f
  simp only at hca hf hl hx ⊢
  subst hca
  have lg := hR.lt
  have hfr : ((frm : Nat) : Int) < (cd.length : Int) := by omega
  unfold maxLen at hcp
  have HR := Lib.hid hR
  clear hcc hx hR
  go_enter Tryd.func29, Tryd.ntmps29
  go_wp2
  all_goals
    have hR := HR.out
    refine ret_of ?_ rfl
    refine ⟨_, by simp [results, Tryd.results29, go_sem] <;> rfl, rfl, ⟨r, ?_, by simp [hr], fun _ h => Option.some.inj h⟩, ?_⟩
    · repeat (first | with_reducible exact hR | with_reducible refine RowS.drew ?_ | with_reducible refine RowS.drewN ?_ _ | with_reducible refine RowS.alloc ?_ _ | (with_reducible refine RowS.far ?_ ?_ _; rotate_left; (· first | (simp; done) | (simp; omega))))
    · repeat (first | with_reducible exact gwRefl _ _ | with_reducible refine gwPutG ?_ _ _ | (with_reducible refine gwPut ?_ ?_ _; rotate_left; (· first | (simp; done) | (simp; omega))) | with_reducible refine gwNew ?_ _ | with_reducible refine gwDrawn ?_ | with_reducible refine gwDrawnN ?_ _)
set_option maxHeartbeats 4000000 in
theorem away_16_one_f (m : ModD) (f : FuncD) (frm  : Nat) (to a b c n : Int) (hf : frm < f.code.length) (hx : nthX f.code frm = ⟨16, a, b, c, n⟩) (hl : f.code.length * 40 ≤ 140737488351232) (g nr cp : Nat) (r : List Sp) (hr : r.length = nr) (hc : nr ≤ cp) (hcp : cp ≤ maxLen) (hone : (n == (frm : Int) + 1) = true) (hone' : (n != (frm : Int) + 1) = false) (hto : (to == n) = false) (w : World) (hI : InsAt w w.heap.size f.ca f.code) (hR : RowS w g cp r) :
    Calls Tryd.prog 29 #[m.val, f.val, .int .i64 frm, .int .i64 to, .slice (some ⟨g, 0, none⟩) nr cp] w (AwayOk g cp nr (some r) w) := by
  obtain ⟨cb, co, hca, hcb, hcc⟩ := hI (by omega)
  have x0 := hcc frm hf 0 (by omega)
  have x1 := hcc frm hf 1 (by omega)
  have x2 := hcc frm hf 2 (by omega)
  have x3 := hcc frm hf 3 (by omega)
  have x4 := hcc frm hf 4 (by omega)
  simp only [hx, insV, Nat.add_zero] at x0 x1 x2 x3 x4
  obtain ⟨nm, pa, pc, ps, rg, wd, ca, cc, cd⟩ := f
  simp only at hca hf hl hx ⊢
  subst hca
  have lg := hR.lt
  have hfr : ((frm : Nat) : Int) < (cd.length : Int) := by omega
  unfold maxLen at hcp
  have HR := Lib.hid hR
  clear hcc hx hR
  go_enter Tryd.func29, Tryd.ntmps29
  go_wp2
  all_goals
    have hR := HR.out
    refine ret_of ?_ rfl
    refine ⟨_, by simp [results, Tryd.results29, go_sem] <;> rfl, rfl, ⟨r, ?_, by simp [hr], fun _ h => Option.some.inj h⟩, ?_⟩
    · repeat (first | with_reducible exact hR | with_reducible refine RowS.drew ?_ | with_reducible refine RowS.drewN ?_ _ | with_reducible refine RowS.alloc ?_ _ | (with_reducible refine RowS.far ?_ ?_ _; rotate_left; (· first | (simp; done) | (simp; omega))))
    · repeat (first | with_reducible exact gwRefl _ _ | with_reducible refine gwPutG ?_ _ _ | (with_reducible refine gwPut ?_ ?_ _; rotate_left; (· first | (simp; done) | (simp; omega))) | with_reducible refine gwNew ?_ _ | with_reducible refine gwDrawn ?_ | with_reducible refine gwDrawnN ?_ _)
set_option maxHeartbeats 4000000 in
theorem away_15_zero_t (m : ModD) (f : FuncD) (frm ka : Nat) (to b c n : Int) (hf : frm < f.code.length) (hx : nthX f.code frm = ⟨15, ((ka : Nat) : Int), b, c, n⟩) (hl : f.code.length * 40 ≤ 140737488351232) (g nr cp : Nat) (r : List Sp) (hr : r.length = nr) (hc : nr ≤ cp) (hcp : cp ≤ maxLen) (sa : Sp) (ha : r[ka]? = some sa) (hone : (n == (frm : Int) + 1) = false) (hone' : (n != (frm : Int) + 1) = true) (hmk : sa.meetOk ⟨0, 0⟩ = true) (hto : (to == n) = false) (w : World) (hI : InsAt w w.heap.size f.ca f.code) (hR : RowS w g cp r) :
    Calls Tryd.prog 29 #[m.val, f.val, .int .i64 frm, .int .i64 to, .slice (some ⟨g, 0, none⟩) nr cp] w (AwayOk g cp nr (some (r.set ka (sa.meet ⟨0, 0⟩))) w) := by
  obtain ⟨cb, co, hca, hcb, hcc⟩ := hI (by omega)
  have x0 := hcc frm hf 0 (by omega)
  have x1 := hcc frm hf 1 (by omega)
  have x2 := hcc frm hf 2 (by omega)
  have x3 := hcc frm hf 3 (by omega)
  have x4 := hcc frm hf 4 (by omega)
  simp only [hx, insV, Nat.add_zero] at x0 x1 x2 x3 x4
  obtain ⟨nm, pa, pc, ps, rg, wd, ca, cc, cd⟩ := f
  simp only at hca hf hl hx ⊢
  subst hca
  obtain ⟨hka, ya0, ya1, fa0, fa1⟩ := hR.cells4 ha
  have hna : ((ka : Nat) : Int) < (nr : Int) := by omega
  have lg := hR.lt
  have hfr : ((frm : Nat) : Int) < (cd.length : Int) := by omega
  unfold maxLen at hcp
  have HR := Lib.hid hR
  clear hcc hx hR
  go_enter Tryd.func29, Tryd.ntmps29
  go_wp2_with fail
  generalize hW : ((((w.alloc (.cells #[.slice m.ta m.ths.length m.tc, .slice m.fa m.funcs.length m.fc] 25)).alloc (.cells #[.string nm, .slice pa ps.length pc, .int .i64 rg, .int .i64 wd, .slice (some ⟨cb, co, none⟩) cd.length cc] 48)).alloc (.cells #[.slice (some ⟨g, 0, none⟩) nr cp] 26)).alloc (.cells #[.int .i64 15, .int .i64 ((ka : Nat) : Int), .int .i64 b, .int .i64 c, .int .i64 n] 65)) = W
  have aw : AwW w W g nr cp r ⟨15, ka, b, c, n⟩ wd (.slice m.fa m.funcs.length m.fc) := by
    rw [← hW]; exact AwW.new (x := ⟨15, ka, b, c, n⟩) HR.out _ _ _ _ _ _ _ _ _
  clear hW x0 x1 x2 x3 x4
  have hsz := aw.size
  go_at_call 53
  refine (meetAw ⟨0, 0⟩ sa ka g nr cp r hr (by unfold maxLen; omega) hc ha w _ _ _ _ aw).mono ?_
  rintro e w2 ⟨rfl, aw1⟩
  rw [hmk]
  go_wp2
  refine ret_of ?_ rfl
  refine ⟨_, by simp [results, Tryd.results29, go_sem] <;> rfl, rfl, ⟨_, aw1.row, by simp [hr], fun _ h => Option.some.inj h⟩, aw1.gr⟩
set_option maxHeartbeats 4000000 in
theorem away_15_zero_f (m : ModD) (f : FuncD) (frm ka : Nat) (to b c n : Int) (hf : frm < f.code.length) (hx : nthX f.code frm = ⟨15, ((ka : Nat) : Int), b, c, n⟩) (hl : f.code.length * 40 ≤ 140737488351232) (g nr cp : Nat) (r : List Sp) (hr : r.length = nr) (hc : nr ≤ cp) (hcp : cp ≤ maxLen) (sa : Sp) (ha : r[ka]? = some sa) (hone : (n == (frm : Int) + 1) = false) (hone' : (n != (frm : Int) + 1) = true) (hmk : sa.meetOk ⟨0, 0⟩ = false) (hto : (to == n) = false) (w : World) (hI : InsAt w w.heap.size f.ca f.code) (hR : RowS w g cp r) :
    Calls Tryd.prog 29 #[m.val, f.val, .int .i64 frm, .int .i64 to, .slice (some ⟨g, 0, none⟩) nr cp] w (AwayOk g cp nr none w) := by
  obtain ⟨cb, co, hca, hcb, hcc⟩ := hI (by omega)
  have x0 := hcc frm hf 0 (by omega)
  have x1 := hcc frm hf 1 (by omega)
  have x2 := hcc frm hf 2 (by omega)
  have x3 := hcc frm hf 3 (by omega)
  have x4 := hcc frm hf 4 (by omega)
  simp only [hx, insV, Nat.add_zero] at x0 x1 x2 x3 x4
  obtain ⟨nm, pa, pc, ps, rg, wd, ca, cc, cd⟩ := f
  simp only at hca hf hl hx ⊢
  subst hca
  obtain ⟨hka, ya0, ya1, fa0, fa1⟩ := hR.cells4 ha
  have hna : ((ka : Nat) : Int) < (nr : Int) := by omega
  have lg := hR.lt
  have hfr : ((frm : Nat) : Int) < (cd.length : Int) := by omega
  unfold maxLen at hcp
  have HR := Lib.hid hR
  clear hcc hx hR
  go_enter Tryd.func29, Tryd.ntmps29
  go_wp2_with fail
  generalize hW : ((((w.alloc (.cells #[.slice m.ta m.ths.length m.tc, .slice m.fa m.funcs.length m.fc] 25)).alloc (.cells #[.string nm, .slice pa ps.length pc, .int .i64 rg, .int .i64 wd, .slice (some ⟨cb, co, none⟩) cd.length cc] 48)).alloc (.cells #[.slice (some ⟨g, 0, none⟩) nr cp] 26)).alloc (.cells #[.int .i64 15, .int .i64 ((ka : Nat) : Int), .int .i64 b, .int .i64 c, .int .i64 n] 65)) = W
  have aw : AwW w W g nr cp r ⟨15, ka, b, c, n⟩ wd (.slice m.fa m.funcs.length m.fc) := by
    rw [← hW]; exact AwW.new (x := ⟨15, ka, b, c, n⟩) HR.out _ _ _ _ _ _ _ _ _
  clear hW x0 x1 x2 x3 x4
  have hsz := aw.size
  go_at_call 53
  refine (meetAw ⟨0, 0⟩ sa ka g nr cp r hr (by unfold maxLen; omega) hc ha w _ _ _ _ aw).mono ?_
  rintro e w2 ⟨rfl, aw1⟩
  rw [hmk]
  go_wp2
  refine ret_of ?_ rfl
  refine ⟨_, by simp [results, Tryd.results29, go_sem] <;> rfl, rfl, ⟨_, aw1.row, by simp [hr], fun _ h => by cases h⟩, aw1.gr⟩
set_option maxHeartbeats 4000000 in
theorem away_16_zero_t (m : ModD) (f : FuncD) (frm ka : Nat) (to b c n : Int) (hf : frm < f.code.length) (hx : nthX f.code frm = ⟨16, ((ka : Nat) : Int), b, c, n⟩) (hl : f.code.length * 40 ≤ 140737488351232) (g nr cp : Nat) (r : List Sp) (hr : r.length = nr) (hc : nr ≤ cp) (hcp : cp ≤ maxLen) (sa : Sp) (ha : r[ka]? = some sa) (hone : (n == (frm : Int) + 1) = false) (hone' : (n != (frm : Int) + 1) = true) (hmk : sa.meetOk ⟨0, 0⟩ = true) (hto : (to == n) = true) (w : World) (hI : InsAt w w.heap.size f.ca f.code) (hR : RowS w g cp r) :
    Calls Tryd.prog 29 #[m.val, f.val, .int .i64 frm, .int .i64 to, .slice (some ⟨g, 0, none⟩) nr cp] w (AwayOk g cp nr (some (r.set ka (sa.meet ⟨0, 0⟩))) w) := by
  obtain ⟨cb, co, hca, hcb, hcc⟩ := hI (by omega)
  have x0 := hcc frm hf 0 (by omega)
  have x1 := hcc frm hf 1 (by omega)
  have x2 := hcc frm hf 2 (by omega)
  have x3 := hcc frm hf 3 (by omega)
  have x4 := hcc frm hf 4 (by omega)
  simp only [hx, insV, Nat.add_zero] at x0 x1 x2 x3 x4
  obtain ⟨nm, pa, pc, ps, rg, wd, ca, cc, cd⟩ := f
  simp only at hca hf hl hx ⊢
  subst hca
  obtain ⟨hka, ya0, ya1, fa0, fa1⟩ := hR.cells4 ha
  have hna : ((ka : Nat) : Int) < (nr : Int) := by omega
  have lg := hR.lt
  have hfr : ((frm : Nat) : Int) < (cd.length : Int) := by omega
  unfold maxLen at hcp
  have HR := Lib.hid hR
  clear hcc hx hR
  go_enter Tryd.func29, Tryd.ntmps29
  go_wp2_with fail
  generalize hW : ((((w.alloc (.cells #[.slice m.ta m.ths.length m.tc, .slice m.fa m.funcs.length m.fc] 25)).alloc (.cells #[.string nm, .slice pa ps.length pc, .int .i64 rg, .int .i64 wd, .slice (some ⟨cb, co, none⟩) cd.length cc] 48)).alloc (.cells #[.slice (some ⟨g, 0, none⟩) nr cp] 26)).alloc (.cells #[.int .i64 16, .int .i64 ((ka : Nat) : Int), .int .i64 b, .int .i64 c, .int .i64 n] 65)) = W
  have aw : AwW w W g nr cp r ⟨16, ka, b, c, n⟩ wd (.slice m.fa m.funcs.length m.fc) := by
    rw [← hW]; exact AwW.new (x := ⟨16, ka, b, c, n⟩) HR.out _ _ _ _ _ _ _ _ _
  clear hW x0 x1 x2 x3 x4
  have hsz := aw.size
  go_at_call 53
  refine (meetAw ⟨0, 0⟩ sa ka g nr cp r hr (by unfold maxLen; omega) hc ha w _ _ _ _ aw).mono ?_
  rintro e w2 ⟨rfl, aw1⟩
  rw [hmk]
  go_wp2
  refine ret_of ?_ rfl
  refine ⟨_, by simp [results, Tryd.results29, go_sem] <;> rfl, rfl, ⟨_, aw1.row, by simp [hr], fun _ h => Option.some.inj h⟩, aw1.gr⟩
set_option maxHeartbeats 4000000 in
theorem away_16_zero_f (m : ModD) (f : FuncD) (frm ka : Nat) (to b c n : Int) (hf : frm < f.code.length) (hx : nthX f.code frm = ⟨16, ((ka : Nat) : Int), b, c, n⟩) (hl : f.code.length * 40 ≤ 140737488351232) (g nr cp : Nat) (r : List Sp) (hr : r.length = nr) (hc : nr ≤ cp) (hcp : cp ≤ maxLen) (sa : Sp) (ha : r[ka]? = some sa) (hone : (n == (frm : Int) + 1) = false) (hone' : (n != (frm : Int) + 1) = true) (hmk : sa.meetOk ⟨0, 0⟩ = false) (hto : (to == n) = true) (w : World) (hI : InsAt w w.heap.size f.ca f.code) (hR : RowS w g cp r) :
    Calls Tryd.prog 29 #[m.val, f.val, .int .i64 frm, .int .i64 to, .slice (some ⟨g, 0, none⟩) nr cp] w (AwayOk g cp nr none w) := by
  obtain ⟨cb, co, hca, hcb, hcc⟩ := hI (by omega)
  have x0 := hcc frm hf 0 (by omega)
  have x1 := hcc frm hf 1 (by omega)
  have x2 := hcc frm hf 2 (by omega)
  have x3 := hcc frm hf 3 (by omega)
  have x4 := hcc frm hf 4 (by omega)
  simp only [hx, insV, Nat.add_zero] at x0 x1 x2 x3 x4
  obtain ⟨nm, pa, pc, ps, rg, wd, ca, cc, cd⟩ := f
  simp only at hca hf hl hx ⊢
  subst hca
  obtain ⟨hka, ya0, ya1, fa0, fa1⟩ := hR.cells4 ha
  have hna : ((ka : Nat) : Int) < (nr : Int) := by omega
  have lg := hR.lt
  have hfr : ((frm : Nat) : Int) < (cd.length : Int) := by omega
  unfold maxLen at hcp
  have HR := Lib.hid hR
  clear hcc hx hR
  go_enter Tryd.func29, Tryd.ntmps29
  go_wp2_with fail
  generalize hW : ((((w.alloc (.cells #[.slice m.ta m.ths.length m.tc, .slice m.fa m.funcs.length m.fc] 25)).alloc (.cells #[.string nm, .slice pa ps.length pc, .int .i64 rg, .int .i64 wd, .slice (some ⟨cb, co, none⟩) cd.length cc] 48)).alloc (.cells #[.slice (some ⟨g, 0, none⟩) nr cp] 26)).alloc (.cells #[.int .i64 16, .int .i64 ((ka : Nat) : Int), .int .i64 b, .int .i64 c, .int .i64 n] 65)) = W
  have aw : AwW w W g nr cp r ⟨16, ka, b, c, n⟩ wd (.slice m.fa m.funcs.length m.fc) := by
    rw [← hW]; exact AwW.new (x := ⟨16, ka, b, c, n⟩) HR.out _ _ _ _ _ _ _ _ _
  clear hW x0 x1 x2 x3 x4
  have hsz := aw.size
  go_at_call 53
  refine (meetAw ⟨0, 0⟩ sa ka g nr cp r hr (by unfold maxLen; omega) hc ha w _ _ _ _ aw).mono ?_
  rintro e w2 ⟨rfl, aw1⟩
  rw [hmk]
  go_wp2
  refine ret_of ?_ rfl
  refine ⟨_, by simp [results, Tryd.results29, go_sem] <;> rfl, rfl, ⟨_, aw1.row, by simp [hr], fun _ h => by cases h⟩, aw1.gr⟩
end Go.Proofs.YtddobhneplfddaaDoor

namespace Go.Proofs.YtddobhneplfddaaDoor
set_option maxRecDepth 100000
open Go.RowKit
set_option linter.unusedSimpArgs false
set_option linter.unusedVariables false
set_option maxHeartbeats 4000000 in
theorem away_12_fft (m : ModD) (f : FuncD) (frm kb : Nat) (to a c n : Int) (hf : frm < f.code.length) (hx : nthX f.code frm = ⟨12, a, ((kb : Nat) : Int), c, n⟩) (hl : f.code.length * 40 ≤ 140737488351232) (g nr cp : Nat) (r : List Sp) (hr : r.length = nr) (hc : nr ≤ cp) (hcp : cp ≤ maxLen) (sb : Sp) (hb : r[kb]? = some sb) (hn : In64 n) (hm : 0 ≤ f.words ∧ f.words ≤ 4096) (hwk : wordsOk n f.words = false) (hto : (to == n) = true) (w : World) (hI : InsAt w w.heap.size f.ca f.code) (hR : RowS w g cp r) :
    Calls Tryd.prog 29 #[m.val, f.val, .int .i64 frm, .int .i64 to, .slice (some ⟨g, 0, none⟩) nr cp] w (AwayOk g cp nr none w) := by
  obtain ⟨cb, co, hca, hcb, hcc⟩ := hI (by omega)
  have x0 := hcc frm hf 0 (by omega)
  have x1 := hcc frm hf 1 (by omega)
  have x2 := hcc frm hf 2 (by omega)
  have x3 := hcc frm hf 3 (by omega)
  have x4 := hcc frm hf 4 (by omega)
  simp only [hx, insV, Nat.add_zero] at x0 x1 x2 x3 x4
  obtain ⟨nm, pa, pc, ps, rg, wd, ca, cc, cd⟩ := f
  simp only at hca hf hl hx hm hwk ⊢
  subst hca
  obtain ⟨hkb, yb0, yb1, fb0, fb1⟩ := hR.cells4 hb
  have hnb : ((kb : Nat) : Int) < (nr : Int) := by omega
  have lg := hR.lt
  have hfr : ((frm : Nat) : Int) < (cd.length : Int) := by omega
  unfold maxLen at hcp
  have HR := Lib.hid hR
  clear hcc hx hR
  go_enter Tryd.func29, Tryd.ntmps29
  go_wp2_with fail
  generalize hW : ((((w.alloc (.cells #[.slice m.ta m.ths.length m.tc, .slice m.fa m.funcs.length m.fc] 25)).alloc (.cells #[.string nm, .slice pa ps.length pc, .int .i64 rg, .int .i64 wd, .slice (some ⟨cb, co, none⟩) cd.length cc] 48)).alloc (.cells #[.slice (some ⟨g, 0, none⟩) nr cp] 26)).alloc (.cells #[.int .i64 12, .int .i64 a, .int .i64 ((kb : Nat) : Int), .int .i64 c, .int .i64 n] 65)) = W
  have aw : AwW w W g nr cp r ⟨12, a, kb, c, n⟩ wd (.slice m.fa m.funcs.length m.fc) := by
    rw [← hW]; exact AwW.new (x := ⟨12, a, kb, c, n⟩) HR.out _ _ _ _ _ _ _ _ _
  clear hW x0 x1 x2 x3 x4
  have hsz := aw.size
  go_at_call 57
  refine (wordsP n wd hn hm _).mono ?_
  rintro e w1 ⟨⟨a1, rfl, ha1⟩, hb1⟩
  have aw1 := AwW.alloc (AwW.below aw hb1) (.cells #[.int .i64 a1.lo, .int .i64 a1.hi] 34)
  clear ha1
  rw [hwk]
  go_wp2
  refine ret_of ?_ rfl
  refine ⟨_, by simp [results, Tryd.results29, go_sem] <;> rfl, rfl, ⟨_, aw1.row, by simp [hr], fun _ h => by cases h⟩, aw1.gr⟩
set_option maxHeartbeats 4000000 in
theorem away_12_fff (m : ModD) (f : FuncD) (frm kb : Nat) (to a c n : Int) (hf : frm < f.code.length) (hx : nthX f.code frm = ⟨12, a, ((kb : Nat) : Int), c, n⟩) (hl : f.code.length * 40 ≤ 140737488351232) (g nr cp : Nat) (r : List Sp) (hr : r.length = nr) (hc : nr ≤ cp) (hcp : cp ≤ maxLen) (sb : Sp) (hb : r[kb]? = some sb) (hn : In64 n) (hm : 0 ≤ f.words ∧ f.words ≤ 4096) (hwk : wordsOk n f.words = false) (hto : (to == n) = false) (w : World) (hI : InsAt w w.heap.size f.ca f.code) (hR : RowS w g cp r) :
    Calls Tryd.prog 29 #[m.val, f.val, .int .i64 frm, .int .i64 to, .slice (some ⟨g, 0, none⟩) nr cp] w (AwayOk g cp nr none w) := by
  obtain ⟨cb, co, hca, hcb, hcc⟩ := hI (by omega)
  have x0 := hcc frm hf 0 (by omega)
  have x1 := hcc frm hf 1 (by omega)
  have x2 := hcc frm hf 2 (by omega)
  have x3 := hcc frm hf 3 (by omega)
  have x4 := hcc frm hf 4 (by omega)
  simp only [hx, insV, Nat.add_zero] at x0 x1 x2 x3 x4
  obtain ⟨nm, pa, pc, ps, rg, wd, ca, cc, cd⟩ := f
  simp only at hca hf hl hx hm hwk ⊢
  subst hca
  obtain ⟨hkb, yb0, yb1, fb0, fb1⟩ := hR.cells4 hb
  have hnb : ((kb : Nat) : Int) < (nr : Int) := by omega
  have lg := hR.lt
  have hfr : ((frm : Nat) : Int) < (cd.length : Int) := by omega
  unfold maxLen at hcp
  have HR := Lib.hid hR
  clear hcc hx hR
  go_enter Tryd.func29, Tryd.ntmps29
  go_wp2_with fail
  generalize hW : ((((w.alloc (.cells #[.slice m.ta m.ths.length m.tc, .slice m.fa m.funcs.length m.fc] 25)).alloc (.cells #[.string nm, .slice pa ps.length pc, .int .i64 rg, .int .i64 wd, .slice (some ⟨cb, co, none⟩) cd.length cc] 48)).alloc (.cells #[.slice (some ⟨g, 0, none⟩) nr cp] 26)).alloc (.cells #[.int .i64 12, .int .i64 a, .int .i64 ((kb : Nat) : Int), .int .i64 c, .int .i64 n] 65)) = W
  have aw : AwW w W g nr cp r ⟨12, a, kb, c, n⟩ wd (.slice m.fa m.funcs.length m.fc) := by
    rw [← hW]; exact AwW.new (x := ⟨12, a, kb, c, n⟩) HR.out _ _ _ _ _ _ _ _ _
  clear hW x0 x1 x2 x3 x4
  have hsz := aw.size
  go_at_call 57
  refine (wordsP n wd hn hm _).mono ?_
  rintro e w1 ⟨⟨a1, rfl, ha1⟩, hb1⟩
  have aw1 := AwW.alloc (AwW.below aw hb1) (.cells #[.int .i64 a1.lo, .int .i64 a1.hi] 34)
  clear ha1
  rw [hwk]
  go_wp2
  refine ret_of ?_ rfl
  refine ⟨_, by simp [results, Tryd.results29, go_sem] <;> rfl, rfl, ⟨_, aw1.row, by simp [hr], fun _ h => by cases h⟩, aw1.gr⟩
set_option maxHeartbeats 4000000 in
theorem away_12_tft (m : ModD) (f : FuncD) (frm kb : Nat) (to a c n : Int) (hf : frm < f.code.length) (hx : nthX f.code frm = ⟨12, a, ((kb : Nat) : Int), c, n⟩) (hl : f.code.length * 40 ≤ 140737488351232) (g nr cp : Nat) (r : List Sp) (hr : r.length = nr) (hc : nr ≤ cp) (hcp : cp ≤ maxLen) (sb : Sp) (hb : r[kb]? = some sb) (hn : In64 n) (hm : 0 ≤ f.words ∧ f.words ≤ 4096) (hwk : wordsOk n f.words = true) (hmk : sb.meetOk (wordsS n f.words) = false) (hto : (to == n) = true) (w : World) (hI : InsAt w w.heap.size f.ca f.code) (hR : RowS w g cp r) :
    Calls Tryd.prog 29 #[m.val, f.val, .int .i64 frm, .int .i64 to, .slice (some ⟨g, 0, none⟩) nr cp] w (AwayOk g cp nr none w) := by
  obtain ⟨cb, co, hca, hcb, hcc⟩ := hI (by omega)
  have x0 := hcc frm hf 0 (by omega)
  have x1 := hcc frm hf 1 (by omega)
  have x2 := hcc frm hf 2 (by omega)
  have x3 := hcc frm hf 3 (by omega)
  have x4 := hcc frm hf 4 (by omega)
  simp only [hx, insV, Nat.add_zero] at x0 x1 x2 x3 x4
  obtain ⟨nm, pa, pc, ps, rg, wd, ca, cc, cd⟩ := f
  simp only at hca hf hl hx hm hwk ⊢
  simp only at hmk
  subst hca
  obtain ⟨hkb, yb0, yb1, fb0, fb1⟩ := hR.cells4 hb
  have hnb : ((kb : Nat) : Int) < (nr : Int) := by omega
  have lg := hR.lt
  have hfr : ((frm : Nat) : Int) < (cd.length : Int) := by omega
  unfold maxLen at hcp
  have HR := Lib.hid hR
  clear hcc hx hR
  go_enter Tryd.func29, Tryd.ntmps29
  go_wp2_with fail
  generalize hW : ((((w.alloc (.cells #[.slice m.ta m.ths.length m.tc, .slice m.fa m.funcs.length m.fc] 25)).alloc (.cells #[.string nm, .slice pa ps.length pc, .int .i64 rg, .int .i64 wd, .slice (some ⟨cb, co, none⟩) cd.length cc] 48)).alloc (.cells #[.slice (some ⟨g, 0, none⟩) nr cp] 26)).alloc (.cells #[.int .i64 12, .int .i64 a, .int .i64 ((kb : Nat) : Int), .int .i64 c, .int .i64 n] 65)) = W
  have aw : AwW w W g nr cp r ⟨12, a, kb, c, n⟩ wd (.slice m.fa m.funcs.length m.fc) := by
    rw [← hW]; exact AwW.new (x := ⟨12, a, kb, c, n⟩) HR.out _ _ _ _ _ _ _ _ _
  clear hW x0 x1 x2 x3 x4
  have hsz := aw.size
  go_at_call 57
  refine (wordsP n wd hn hm _).mono ?_
  rintro e w1 ⟨⟨a1, rfl, ha1⟩, hb1⟩
  rw [hwk] at ha1 ⊢
  obtain rfl := ha1 rfl
  clear ha1
  have aw1 := AwW.alloc (AwW.below aw hb1) (.cells #[.int .i64 (wordsS n wd).lo, .int .i64 (wordsS n wd).hi] 34)
  have f2 := aw1.x2
  have f0 := aw1.x0
  clear hb1
  go_wp2_with fail
  go_at_call 53
  refine (meetAw (wordsS n wd) sb kb g nr cp r hr (by unfold maxLen; omega) hc hb w _ _ _ _ aw1).mono ?_
  rintro e w2 ⟨rfl, aw2⟩
  rw [hmk]
  have e0 := aw2.x0
  have e1 := aw2.x1
  have eb := aw2.rb
  clear aw aw1 f0 f2
  go_wp2
  refine ret_of ?_ rfl
  refine ⟨_, by simp [results, Tryd.results29, go_sem] <;> rfl, rfl, ⟨_, aw2.row, by simp [hr], fun _ h => by cases h⟩, aw2.gr⟩
set_option maxHeartbeats 4000000 in
theorem away_12_tff (m : ModD) (f : FuncD) (frm kb : Nat) (to a c n : Int) (hf : frm < f.code.length) (hx : nthX f.code frm = ⟨12, a, ((kb : Nat) : Int), c, n⟩) (hl : f.code.length * 40 ≤ 140737488351232) (g nr cp : Nat) (r : List Sp) (hr : r.length = nr) (hc : nr ≤ cp) (hcp : cp ≤ maxLen) (sb : Sp) (hb : r[kb]? = some sb) (hn : In64 n) (hm : 0 ≤ f.words ∧ f.words ≤ 4096) (hwk : wordsOk n f.words = true) (hmk : sb.meetOk (wordsS n f.words) = false) (hto : (to == n) = false) (w : World) (hI : InsAt w w.heap.size f.ca f.code) (hR : RowS w g cp r) :
    Calls Tryd.prog 29 #[m.val, f.val, .int .i64 frm, .int .i64 to, .slice (some ⟨g, 0, none⟩) nr cp] w (AwayOk g cp nr none w) := by
  obtain ⟨cb, co, hca, hcb, hcc⟩ := hI (by omega)
  have x0 := hcc frm hf 0 (by omega)
  have x1 := hcc frm hf 1 (by omega)
  have x2 := hcc frm hf 2 (by omega)
  have x3 := hcc frm hf 3 (by omega)
  have x4 := hcc frm hf 4 (by omega)
  simp only [hx, insV, Nat.add_zero] at x0 x1 x2 x3 x4
  obtain ⟨nm, pa, pc, ps, rg, wd, ca, cc, cd⟩ := f
  simp only at hca hf hl hx hm hwk ⊢
  simp only at hmk
  subst hca
  obtain ⟨hkb, yb0, yb1, fb0, fb1⟩ := hR.cells4 hb
  have hnb : ((kb : Nat) : Int) < (nr : Int) := by omega
  have lg := hR.lt
  have hfr : ((frm : Nat) : Int) < (cd.length : Int) := by omega
  unfold maxLen at hcp
  have HR := Lib.hid hR
  clear hcc hx hR
  go_enter Tryd.func29, Tryd.ntmps29
  go_wp2_with fail
  generalize hW : ((((w.alloc (.cells #[.slice m.ta m.ths.length m.tc, .slice m.fa m.funcs.length m.fc] 25)).alloc (.cells #[.string nm, .slice pa ps.length pc, .int .i64 rg, .int .i64 wd, .slice (some ⟨cb, co, none⟩) cd.length cc] 48)).alloc (.cells #[.slice (some ⟨g, 0, none⟩) nr cp] 26)).alloc (.cells #[.int .i64 12, .int .i64 a, .int .i64 ((kb : Nat) : Int), .int .i64 c, .int .i64 n] 65)) = W
  have aw : AwW w W g nr cp r ⟨12, a, kb, c, n⟩ wd (.slice m.fa m.funcs.length m.fc) := by
    rw [← hW]; exact AwW.new (x := ⟨12, a, kb, c, n⟩) HR.out _ _ _ _ _ _ _ _ _
  clear hW x0 x1 x2 x3 x4
  have hsz := aw.size
  go_at_call 57
  refine (wordsP n wd hn hm _).mono ?_
  rintro e w1 ⟨⟨a1, rfl, ha1⟩, hb1⟩
  rw [hwk] at ha1 ⊢
  obtain rfl := ha1 rfl
  clear ha1
  have aw1 := AwW.alloc (AwW.below aw hb1) (.cells #[.int .i64 (wordsS n wd).lo, .int .i64 (wordsS n wd).hi] 34)
  have f2 := aw1.x2
  have f0 := aw1.x0
  clear hb1
  go_wp2_with fail
  go_at_call 53
  refine (meetAw (wordsS n wd) sb kb g nr cp r hr (by unfold maxLen; omega) hc hb w _ _ _ _ aw1).mono ?_
  rintro e w2 ⟨rfl, aw2⟩
  rw [hmk]
  have e0 := aw2.x0
  have e1 := aw2.x1
  have eb := aw2.rb
  clear aw aw1 f0 f2
  go_wp2
  refine ret_of ?_ rfl
  refine ⟨_, by simp [results, Tryd.results29, go_sem] <;> rfl, rfl, ⟨_, aw2.row, by simp [hr], fun _ h => by cases h⟩, aw2.gr⟩
set_option maxHeartbeats 4000000 in
theorem away_12_ttt (m : ModD) (f : FuncD) (frm kb : Nat) (to a c n : Int) (hf : frm < f.code.length) (hx : nthX f.code frm = ⟨12, a, ((kb : Nat) : Int), c, n⟩) (hl : f.code.length * 40 ≤ 140737488351232) (g nr cp : Nat) (r : List Sp) (hr : r.length = nr) (hc : nr ≤ cp) (hcp : cp ≤ maxLen) (sb : Sp) (hb : r[kb]? = some sb) (hn : In64 n) (hm : 0 ≤ f.words ∧ f.words ≤ 4096) (hwk : wordsOk n f.words = true) (hmk : sb.meetOk (wordsS n f.words) = true) (hto : (to == n) = true) (w : World) (hI : InsAt w w.heap.size f.ca f.code) (hR : RowS w g cp r) :
    Calls Tryd.prog 29 #[m.val, f.val, .int .i64 frm, .int .i64 to, .slice (some ⟨g, 0, none⟩) nr cp] w (AwayOk g cp nr (some (r.set kb (sb.meet (wordsS n f.words)))) w) := by
  obtain ⟨cb, co, hca, hcb, hcc⟩ := hI (by omega)
  have x0 := hcc frm hf 0 (by omega)
  have x1 := hcc frm hf 1 (by omega)
  have x2 := hcc frm hf 2 (by omega)
  have x3 := hcc frm hf 3 (by omega)
  have x4 := hcc frm hf 4 (by omega)
  simp only [hx, insV, Nat.add_zero] at x0 x1 x2 x3 x4
  obtain ⟨nm, pa, pc, ps, rg, wd, ca, cc, cd⟩ := f
  simp only at hca hf hl hx hm hwk ⊢
  simp only at hmk
  subst hca
  obtain ⟨hkb, yb0, yb1, fb0, fb1⟩ := hR.cells4 hb
  have hnb : ((kb : Nat) : Int) < (nr : Int) := by omega
  have lg := hR.lt
  have hfr : ((frm : Nat) : Int) < (cd.length : Int) := by omega
  unfold maxLen at hcp
  have HR := Lib.hid hR
  clear hcc hx hR
  go_enter Tryd.func29, Tryd.ntmps29
  go_wp2_with fail
  generalize hW : ((((w.alloc (.cells #[.slice m.ta m.ths.length m.tc, .slice m.fa m.funcs.length m.fc] 25)).alloc (.cells #[.string nm, .slice pa ps.length pc, .int .i64 rg, .int .i64 wd, .slice (some ⟨cb, co, none⟩) cd.length cc] 48)).alloc (.cells #[.slice (some ⟨g, 0, none⟩) nr cp] 26)).alloc (.cells #[.int .i64 12, .int .i64 a, .int .i64 ((kb : Nat) : Int), .int .i64 c, .int .i64 n] 65)) = W
  have aw : AwW w W g nr cp r ⟨12, a, kb, c, n⟩ wd (.slice m.fa m.funcs.length m.fc) := by
    rw [← hW]; exact AwW.new (x := ⟨12, a, kb, c, n⟩) HR.out _ _ _ _ _ _ _ _ _
  clear hW x0 x1 x2 x3 x4
  have hsz := aw.size
  go_at_call 57
  refine (wordsP n wd hn hm _).mono ?_
  rintro e w1 ⟨⟨a1, rfl, ha1⟩, hb1⟩
  rw [hwk] at ha1 ⊢
  obtain rfl := ha1 rfl
  clear ha1
  have aw1 := AwW.alloc (AwW.below aw hb1) (.cells #[.int .i64 (wordsS n wd).lo, .int .i64 (wordsS n wd).hi] 34)
  have f2 := aw1.x2
  have f0 := aw1.x0
  clear hb1
  go_wp2_with fail
  go_at_call 53
  refine (meetAw (wordsS n wd) sb kb g nr cp r hr (by unfold maxLen; omega) hc hb w _ _ _ _ aw1).mono ?_
  rintro e w2 ⟨rfl, aw2⟩
  rw [hmk]
  have e0 := aw2.x0
  have e1 := aw2.x1
  have eb := aw2.rb
  clear aw aw1 f0 f2
  go_wp2
  refine ret_of ?_ rfl
  refine ⟨_, by simp [results, Tryd.results29, go_sem] <;> rfl, rfl, ⟨_, aw2.row, by simp [hr], fun _ h => Option.some.inj h⟩, aw2.gr⟩
set_option maxHeartbeats 4000000 in
theorem away_12_ttf (m : ModD) (f : FuncD) (frm kb : Nat) (to a c n : Int) (hf : frm < f.code.length) (hx : nthX f.code frm = ⟨12, a, ((kb : Nat) : Int), c, n⟩) (hl : f.code.length * 40 ≤ 140737488351232) (g nr cp : Nat) (r : List Sp) (hr : r.length = nr) (hc : nr ≤ cp) (hcp : cp ≤ maxLen) (sb : Sp) (hb : r[kb]? = some sb) (hn : In64 n) (hm : 0 ≤ f.words ∧ f.words ≤ 4096) (hwk : wordsOk n f.words = true) (hmk : sb.meetOk (wordsS n f.words) = true) (hto : (to == n) = false) (w : World) (hI : InsAt w w.heap.size f.ca f.code) (hR : RowS w g cp r) :
    Calls Tryd.prog 29 #[m.val, f.val, .int .i64 frm, .int .i64 to, .slice (some ⟨g, 0, none⟩) nr cp] w (AwayOk g cp nr (some (r.set kb (sb.meet (wordsS n f.words)))) w) := by
  obtain ⟨cb, co, hca, hcb, hcc⟩ := hI (by omega)
  have x0 := hcc frm hf 0 (by omega)
  have x1 := hcc frm hf 1 (by omega)
  have x2 := hcc frm hf 2 (by omega)
  have x3 := hcc frm hf 3 (by omega)
  have x4 := hcc frm hf 4 (by omega)
  simp only [hx, insV, Nat.add_zero] at x0 x1 x2 x3 x4
  obtain ⟨nm, pa, pc, ps, rg, wd, ca, cc, cd⟩ := f
  simp only at hca hf hl hx hm hwk ⊢
  simp only at hmk
  subst hca
  obtain ⟨hkb, yb0, yb1, fb0, fb1⟩ := hR.cells4 hb
  have hnb : ((kb : Nat) : Int) < (nr : Int) := by omega
  have lg := hR.lt
  have hfr : ((frm : Nat) : Int) < (cd.length : Int) := by omega
  unfold maxLen at hcp
  have HR := Lib.hid hR
  clear hcc hx hR
  go_enter Tryd.func29, Tryd.ntmps29
  go_wp2_with fail
  generalize hW : ((((w.alloc (.cells #[.slice m.ta m.ths.length m.tc, .slice m.fa m.funcs.length m.fc] 25)).alloc (.cells #[.string nm, .slice pa ps.length pc, .int .i64 rg, .int .i64 wd, .slice (some ⟨cb, co, none⟩) cd.length cc] 48)).alloc (.cells #[.slice (some ⟨g, 0, none⟩) nr cp] 26)).alloc (.cells #[.int .i64 12, .int .i64 a, .int .i64 ((kb : Nat) : Int), .int .i64 c, .int .i64 n] 65)) = W
  have aw : AwW w W g nr cp r ⟨12, a, kb, c, n⟩ wd (.slice m.fa m.funcs.length m.fc) := by
    rw [← hW]; exact AwW.new (x := ⟨12, a, kb, c, n⟩) HR.out _ _ _ _ _ _ _ _ _
  clear hW x0 x1 x2 x3 x4
  have hsz := aw.size
  go_at_call 57
  refine (wordsP n wd hn hm _).mono ?_
  rintro e w1 ⟨⟨a1, rfl, ha1⟩, hb1⟩
  rw [hwk] at ha1 ⊢
  obtain rfl := ha1 rfl
  clear ha1
  have aw1 := AwW.alloc (AwW.below aw hb1) (.cells #[.int .i64 (wordsS n wd).lo, .int .i64 (wordsS n wd).hi] 34)
  have f2 := aw1.x2
  have f0 := aw1.x0
  clear hb1
  go_wp2_with fail
  go_at_call 53
  refine (meetAw (wordsS n wd) sb kb g nr cp r hr (by unfold maxLen; omega) hc hb w _ _ _ _ aw1).mono ?_
  rintro e w2 ⟨rfl, aw2⟩
  rw [hmk]
  have e0 := aw2.x0
  have e1 := aw2.x1
  have eb := aw2.rb
  clear aw aw1 f0 f2
  go_wp2
  refine ret_of ?_ rfl
  refine ⟨_, by simp [results, Tryd.results29, go_sem] <;> rfl, rfl, ⟨_, aw2.row, by simp [hr], fun _ h => Option.some.inj h⟩, aw2.gr⟩
end Go.Proofs.YtddobhneplfddaaDoor

namespace Go.Proofs.YtddobhneplfddaaDoor
set_option maxRecDepth 100000
open Go.RowKit
set_option linter.unusedSimpArgs false
set_option linter.unusedVariables false
theorem cellsN_set (l : List Nat) (k v : Nat) : cellsN (l.set k v) = (cellsN l).setIfInBounds k (.int .i64 (v : Int)) := by
  simp [cellsN, List.map_set]
theorem has_same {L : Lay} {sb n : Nat} {s t : StD} (h : t.ins = s.ins) (k : Nat) : L.has sb n t k ↔ L.has sb n s k := by
  unfold Lay.has; rw [h]
namespace StP
variable {W W' : World} {B n R sb : Nat} {L : Lay} {s : StD}
theorem ne_ca (h : StP W B n R sb L s) {i : Nat} (hi : i < n) : sb ≠ L.ca i ∧ L.inb ≠ L.ca i ∧ L.chb ≠ L.ca i ∧ L.mkb ≠ L.ca i ∧ L.jnb ≠ L.ca i ∧ ∀ j l, s.ins.getD j none = some l → L.ga j ≠ L.ca i :=
  ⟨whl_apart h.st (h.cnts i hi) (by decide), whl_apart h.ins (h.cnts i hi) (by decide), whl_apart h.chs (h.cnts i hi) (by decide), whl_apart h.mks (h.cnts i hi) (by decide), fun e => h.apart i hi e.symm, fun j l hl => by
    obtain ⟨cur, hw⟩ := row_whl (h.rows j l hl).1
    exact whl_apart hw (h.cnts i hi) (by decide)⟩
theorem setCnt (h : StP W B n R sb L s) (hlc : s.changes.length = n) {i : Nat} (hi : i < n) (k v : Nat) : StP (W.setCell ⟨L.ca i, k, none⟩ (.int .i64 (v : Int))) B n R sb L { s with changes := s.changes.set i ((s.changes.getD i []).set k v) } := by
  obtain ⟨n1, n2, n3, n4, n5, n6⟩ := h.ne_ca hi
  refine ⟨h.st.far n1 _, h.ins.far n2 _, h.chs.far n3 _, h.mks.far n4 _, h.jns.far n5 _, fun j l hl => ?_, fun j hj => ?_, h.apart, h.ca, h.ga, h.old⟩
  · obtain ⟨hr, hc⟩ := h.rows j l hl
    exact ⟨hr.far (n6 j l hl) _, hc⟩
  · simp only
    rw [getD_set]
    by_cases e : i = j
    · subst e
      rw [if_pos ⟨rfl, by omega⟩, cellsN_set]
      exact (h.cnts i hi).put k _
    · rw [if_neg (fun q => e q.1)]
      exact (h.cnts j hj).far (fun q => e (h.ca j i hj hi q).symm) _
theorem ne_jn (h : StP W B n R sb L s) : sb ≠ L.jnb ∧ L.inb ≠ L.jnb ∧ L.chb ≠ L.jnb ∧ L.mkb ≠ L.jnb ∧ ∀ j l, s.ins.getD j none = some l → L.ga j ≠ L.jnb :=
  ⟨whl_apart h.st h.jns (by decide), whl_apart h.ins h.jns (by decide), whl_apart h.chs h.jns (by decide), whl_apart h.mks h.jns (by decide), fun j l hl => by
    obtain ⟨cur, hw⟩ := row_whl (h.rows j l hl).1
    exact whl_apart hw h.jns (by decide)⟩
theorem setJoin (h : StP W B n R sb L s) (i v : Nat) : StP (W.setCell ⟨L.jnb, i, none⟩ (.int .i64 (v : Int))) B n R sb L { s with joined := s.joined.set i v } := by
  obtain ⟨n1, n2, n3, n4, n5⟩ := h.ne_jn
  refine ⟨h.st.far n1 _, h.ins.far n2 _, h.chs.far n3 _, h.mks.far n4 _, ?_, fun j l hl => ?_, fun j hj => (h.cnts j hj).far (h.apart j hj) _, h.apart, h.ca, h.ga, h.old⟩
  · simp only
    rw [cellsN_set]
    exact h.jns.put i _
  · obtain ⟨hr, hc⟩ := h.rows j l hl
    exact ⟨hr.far (n5 j l hl) _, hc⟩
theorem ne_mk (h : StP W B n R sb L s) : sb ≠ L.mkb ∧ L.inb ≠ L.mkb ∧ L.chb ≠ L.mkb ∧ L.jnb ≠ L.mkb ∧ (∀ j, j < n → L.ca j ≠ L.mkb) ∧ ∀ j l, s.ins.getD j none = some l → L.ga j ≠ L.mkb :=
  ⟨whl_apart h.st h.mks (by decide), whl_apart h.ins h.mks (by decide), whl_apart h.chs h.mks (by decide), whl_apart h.jns h.mks (by decide), fun j hj => whl_apart (h.cnts j hj) h.mks (by decide), fun j l hl => by
    obtain ⟨cur, hw⟩ := row_whl (h.rows j l hl).1
    exact whl_apart hw h.mks (by decide)⟩
theorem setMark (h : StP W B n R sb L s) (i : Nat) (b : Bool) : StP (W.setCell ⟨L.mkb, i, none⟩ (.bool b)) B n R sb L { s with marked := s.marked.set i b } := by
  obtain ⟨n1, n2, n3, n4, n5, n6⟩ := h.ne_mk
  refine ⟨h.st.far n1 _, h.ins.far n2 _, h.chs.far n3 _, ?_, h.jns.far n4 _, fun j l hl => ?_, fun j hj => (h.cnts j hj).far (n5 j hj) _, h.apart, h.ca, h.ga, h.old⟩
  · simp only
    have := h.mks.put i (.bool b)
    simpa [List.map_set] using this
  · obtain ⟨hr, hc⟩ := h.rows j l hl
    exact ⟨hr.far (n6 j l hl) _, hc⟩
theorem ne_ga (h : StP W B n R sb L s) {i : Nat} {l : List Sp} (hl : s.ins.getD i none = some l) : sb ≠ L.ga i ∧ L.inb ≠ L.ga i ∧ L.chb ≠ L.ga i ∧ L.mkb ≠ L.ga i ∧ L.jnb ≠ L.ga i ∧ (∀ j, j < n → L.ca j ≠ L.ga i) ∧ ∀ j m, s.ins.getD j none = some m → j ≠ i → L.ga j ≠ L.ga i := by
  obtain ⟨cur, hw⟩ := row_whl (h.rows i l hl).1
  exact ⟨whl_apart h.st hw (by decide), whl_apart h.ins hw (by decide), whl_apart h.chs hw (by decide), whl_apart h.mks hw (by decide), whl_apart h.jns hw (by decide), fun j hj => whl_apart (h.cnts j hj) hw (by decide), fun j m hm hne e => hne (h.ga j i m l hm hl e)⟩
theorem setRow (h : StP W B n R sb L s) (hli : s.ins.length = n) {i : Nat} (hi : i < n) {l : List Sp} (hl : s.ins.getD i none = some l) {k : Nat} (hk : k < l.length) (a : Sp) :
    StP ((W.setCell ⟨L.ga i, k * 2, none⟩ (.int .i64 a.lo)).setCell ⟨L.ga i, k * 2 + 1, none⟩ (.int .i64 a.hi)) B n R sb L { s with ins := s.ins.set i (some (l.set k a)) } := by
  obtain ⟨n1, n2, n3, n4, n5, n6, n7⟩ := h.ne_ga hl
  have hin : ∀ j m, (s.ins.set i (some (l.set k a))).getD j none = some m → (j = i ∧ m = l.set k a) ∨ (j ≠ i ∧ s.ins.getD j none = some m) := fun j m hm => by
    rw [getD_set] at hm
    by_cases e : i = j
    · subst e; rw [if_pos ⟨rfl, by omega⟩] at hm; cases hm; exact .inl ⟨rfl, rfl⟩
    · rw [if_neg (fun q => e q.1)] at hm; exact .inr ⟨fun q => e q.symm, hm⟩
  have hex : ∀ j m, (s.ins.set i (some (l.set k a))).getD j none = some m → ∃ m', s.ins.getD j none = some m' := fun j m hm => by
    rcases hin j m hm with ⟨rfl, _⟩ | ⟨_, e⟩
    · exact ⟨_, hl⟩
    · exact ⟨_, e⟩
  refine ⟨(h.st.far n1 _).far n1 _, ?_, (h.chs.far n3 _).far n3 _, (h.mks.far n4 _).far n4 _, (h.jns.far n5 _).far n5 _, fun j m hm => ?_, fun j hj => ((h.cnts j hj).far (n6 j hj) _).far (n6 j hj) _, h.apart, h.ca, fun j j' m m' hm hm' e => ?_, fun q hq => ?_⟩
  · have e : (List.range n).map (inV L R { s with ins := s.ins.set i (some (l.set k a)) }) = (List.range n).map (inV L R s) := by
      apply List.map_congr_left
      intro j _
      unfold inV
      simp only
      rw [getD_set]
      by_cases e : i = j
      · subst e; rw [if_pos ⟨rfl, by omega⟩, hl]
      · rw [if_neg (fun q => e q.1)]
    rw [e]
    exact (h.ins.far n2 _).far n2 _
  · rcases hin j m hm with ⟨rfl, rfl⟩ | ⟨hne, e⟩
    · obtain ⟨hr, hc⟩ := h.rows j l hl
      exact ⟨hr.set hk a, hc⟩
    · obtain ⟨hr, hc⟩ := h.rows j m e
      exact ⟨(hr.far (n7 j m e hne) _).far (n7 j m e hne) _, hc⟩
  · obtain ⟨u, hu⟩ := hex j m hm
    obtain ⟨u', hu'⟩ := hex j' m' hm'
    exact h.ga j j' u u' hu hu' e
  · refine h.old q ?_
    rcases hq with q | q | q | q | q | q | ⟨j, m, hm, e⟩
    · exact .inl q
    · exact .inr (.inl q)
    · exact .inr (.inr (.inl q))
    · exact .inr (.inr (.inr (.inl q)))
    · exact .inr (.inr (.inr (.inr (.inl q))))
    · exact .inr (.inr (.inr (.inr (.inr (.inl q)))))
    · obtain ⟨u, hu⟩ := hex j m hm
      exact .inr (.inr (.inr (.inr (.inr (.inr ⟨j, u, hu, e⟩)))))
def lay' (L : Lay) (i g c : Nat) : Lay := { L with ga := fun j => if j = i then g else L.ga j, cp := fun j => if j = i then c else L.cp j }
theorem setIns (h : StP W B n R sb L s) (hli : s.ins.length = n) {i : Nat} (hi : i < n) (hn : s.ins.getD i none = none) {g c : Nat} {nx : List Sp} (hr : RowE W g c nx) (hc : R ≤ c) (ht : c ≤ maxLen) (hg : ¬ L.has sb n s g) (hB : B ≤ g) :
    StP (W.setCell ⟨L.inb, i, none⟩ (.slice (some ⟨g, 0, none⟩) R c)) B n R sb (lay' L i g c) { s with ins := s.ins.set i (some nx) } := by
  have hin : ∀ j m, (s.ins.set i (some nx)).getD j none = some m → (j = i ∧ m = nx) ∨ (j ≠ i ∧ s.ins.getD j none = some m) := fun j m hm => by
    rw [getD_set] at hm
    by_cases e : i = j
    · subst e; rw [if_pos ⟨rfl, by omega⟩] at hm; cases hm; exact .inl ⟨rfl, rfl⟩
    · rw [if_neg (fun q => e q.1)] at hm; exact .inr ⟨fun q => e q.symm, hm⟩
  obtain ⟨cur, hw⟩ := row_whl hr
  have n1 := whl_apart h.st h.ins (by decide)
  have n3 := whl_apart h.chs h.ins (by decide)
  have n4 := whl_apart h.mks h.ins (by decide)
  have n5 := whl_apart h.jns h.ins (by decide)
  have n6 := whl_apart hw h.ins (by decide)
  have ga1 : ∀ j, j ≠ i → (lay' L i g c).ga j = L.ga j := fun j hj => if_neg hj
  have ga2 : (lay' L i g c).ga i = g := if_pos rfl
  have cp1 : ∀ j, j ≠ i → (lay' L i g c).cp j = L.cp j := fun j hj => if_neg hj
  have cp2 : (lay' L i g c).cp i = c := if_pos rfl
  refine ⟨h.st.far n1 _, ?_, h.chs.far n3 _, h.mks.far n4 _, h.jns.far n5 _, fun j m hm => ?_, fun j hj => (h.cnts j hj).far (whl_apart (h.cnts j hj) h.ins (by decide)) _, h.apart, h.ca, fun j j' m m' hm hm' e => ?_, fun q hq => ?_⟩
  · have e : ((List.range n).map (inV (lay' L i g c) R { s with ins := s.ins.set i (some nx) })) = ((List.range n).map (inV L R s)).set i (.slice (some ⟨g, 0, none⟩) R c) := by
      apply List.ext_getElem?
      intro j
      rw [List.getElem?_set, List.getElem?_map, List.getElem?_map]
      by_cases hj : j < n
      · rw [List.getElem?_range hj]
        by_cases e : i = j
        · subst e
          rw [if_pos rfl, if_pos (by simp; exact hj)]
          simp only [Option.map_some, inV]
          rw [getD_set, if_pos ⟨rfl, by omega⟩, ga2, cp2]
        · rw [if_neg e]
          simp only [Option.map_some, inV]
          rw [getD_set, if_neg (fun q => e q.1), ga1 j (fun q => e q.symm), cp1 j (fun q => e q.symm)]
      · rw [List.getElem?_eq_none (by simp; omega), if_neg (by omega)]
        rfl
    show Whl _ L.inb _ _
    rw [e]
    have := h.ins.put i (.slice (some ⟨g, 0, none⟩) R c)
    simpa using this
  · rcases hin j m hm with ⟨rfl, rfl⟩ | ⟨hne, e⟩
    · rw [ga2, cp2]; exact ⟨hr.far n6 _, hc, ht⟩
    · rw [ga1 j hne, cp1 j hne]
      obtain ⟨hr', hc'⟩ := h.rows j m e
      obtain ⟨cur', hw'⟩ := row_whl hr'
      exact ⟨hr'.far (whl_apart hw' h.ins (by decide)) _, hc'⟩
  · rcases hin j m hm with ⟨rfl, rfl⟩ | ⟨hne, e1⟩ <;> rcases hin j' m' hm' with ⟨rfl, rfl⟩ | ⟨hne', e2⟩
    · rfl
    · rw [ga2, ga1 j' hne'] at e
      exact absurd (.inr (.inr (.inr (.inr (.inr (.inr ⟨j', m', e2, e⟩)))))) hg
    · rw [ga2, ga1 j hne] at e
      exact absurd (.inr (.inr (.inr (.inr (.inr (.inr ⟨j, m, e1, e.symm⟩)))))) hg
    · rw [ga1 j hne, ga1 j' hne'] at e
      exact h.ga j j' m m' e1 e2 e
  · rcases hq with q | q | q | q | q | q | ⟨j, m, hm, e⟩
    · exact h.old _ (.inl q)
    · exact h.old _ (.inr (.inl q))
    · exact h.old _ (.inr (.inr (.inl q)))
    · exact h.old _ (.inr (.inr (.inr (.inl q))))
    · exact h.old _ (.inr (.inr (.inr (.inr (.inl q)))))
    · exact h.old _ (.inr (.inr (.inr (.inr (.inr (.inl q))))))
    · rcases hin j m hm with ⟨rfl, rfl⟩ | ⟨hne, e1⟩
      · rw [ga2] at e; omega
      · rw [ga1 j hne] at e
        exact h.old _ (.inr (.inr (.inr (.inr (.inr (.inr ⟨j, m, e1, e⟩))))))
end StP
end Go.Proofs.YtddobhneplfddaaDoor

namespace Go.Proofs.YtddobhneplfddaaDoor
set_option maxRecDepth 100000
open Go.RowKit
set_option linter.unusedSimpArgs false
set_option linter.unusedVariables false
/-- What merge leaves. -/
def MergeOk (B n R sb : Nat) (L : Lay) (s s' : StD) (g : Nat) (W : World) (e : Ending) (W' : World) : Prop :=
  (∃ v, e = .returned v) ∧ Below B W W' ∧ ∃ L', StP W' B n R sb L' s' ∧ (∀ k, k < W.heap.size → ¬ L.has sb n s k → W'.heap[k]? = W.heap[k]?) ∧ ∀ k, L'.has sb n s' k → L.has sb n s k ∨ k = g
theorem mergeD_none {s : StD} {tw : Nat} (nx : List Sp) (ths : List Int) (h : s.ins.getD tw none = none) : mergeD s tw nx ths = { s with ins := s.ins.set tw (some nx), marked := s.marked.set tw true } := by
  unfold mergeD; rw [h]
theorem has_lay {L : Lay} {sb n i g c : Nat} {s t : StD} {nx : List Sp} (hli : s.ins.length = n) (hi : i < n) (ht : t.ins = s.ins.set i (some nx)) {k : Nat} (hk : (StP.lay' L i g c).has sb n t k) : L.has sb n s k ∨ k = g := by
  rcases hk with q | q | q | q | q | q | ⟨j, m, hm, e⟩
  · exact .inl (.inl q)
  · exact .inl (.inr (.inl q))
  · exact .inl (.inr (.inr (.inl q)))
  · exact .inl (.inr (.inr (.inr (.inl q))))
  · exact .inl (.inr (.inr (.inr (.inr (.inl q)))))
  · exact .inl (.inr (.inr (.inr (.inr (.inr (.inl q))))))
  · rw [ht, getD_set] at hm
    by_cases e2 : i = j
    · subst e2
      exact .inr (e.trans (if_pos rfl))
    · rw [if_neg (fun q => e2 q.1)] at hm
      exact .inl (.inr (.inr (.inr (.inr (.inr (.inr ⟨j, m, hm, e.trans (if_neg (fun q => e2 q.symm))⟩))))))
set_option maxHeartbeats 2000000 in
theorem mergeP1 (B n R sb : Nat) (L : Lay) (s : StD) (tw g cp tc : Nat) (A : Option Addr) (nx : List Sp) (ths : List Int) (W : World) (h : StP W B n R sb L s) (hB : B ≤ W.heap.size) (hn : n ≤ maxLen) (hok : StOk n R ths s) (htw : tw < n) (hno : s.ins.getD tw none = none) (hr : RowS W g cp nx) (hc : R ≤ cp) (ht : cp ≤ maxLen) (hg : ¬ L.has sb n s g) (hBg : B ≤ g) :
    Calls Tryd.prog 35 #[.pointer (some ⟨sb, 0, none⟩), .int .i64 tw, .slice (some ⟨g, 0, none⟩) R cp, .slice A ths.length tc] W (MergeOk B n R sb L s (mergeD s tw nx ths) g W) := by
  rw [mergeD_none nx ths hno]
  have c0 := h.c0
  have c1 := h.c1
  have c2 := h.c2
  have c3 := h.c3
  have c4 := h.insC htw
  simp only [inV, hno] at c4
  have hti : (tw : Int) < (n : Int) := by omega
  unfold maxLen at hn
  have HS : ∀ w', (∃ L' t, StP w' B n R sb L' t ∧ L'.inb = L.inb ∧ L'.chb = L.chb ∧ L'.mkb = L.mkb ∧ L'.jnb = L.jnb) → (w'.cell? ⟨sb, 0, none⟩ = some (.slice (some ⟨L.inb, 0, none⟩) n n) ∧ w'.cell? ⟨sb, 2, none⟩ = some (.slice (some ⟨L.mkb, 0, none⟩) n n)) ∧ ∃ L' t, StP w' B n R sb L' t ∧ L'.inb = L.inb ∧ L'.chb = L.chb ∧ L'.mkb = L.mkb ∧ L'.jnb = L.jnb := fun w' ⟨L', t, h, e1, e2, e3, e4⟩ => ⟨⟨by rw [← e1]; exact h.c0, by rw [← e3]; exact h.c2⟩, L', t, h, e1, e2, e3, e4⟩
  have H := Lib.hid h
  have f1 := h.ins.frozen tw
  have f2 := h.mks.frozen tw
  have c5 := h.mksC (i := tw) (by rw [hok.lm]; exact htw)
  have S1 := Lib.hid (h.drew.setIns hok.li htw hno hr.toE.drew hc ht hg hBg)
  have S2 := Lib.hid (S1.out.setMark tw true)
  have Z := h.setIns hok.li htw hno hr.toE hc ht hg hBg
  have c6 := Z.mksC (i := tw) (by rw [show ({ s with ins := s.ins.set tw (some nx) } : StD).marked = s.marked from rfl, hok.lm]; exact htw)
  have f6 := Z.mks.frozen tw
  have e6 : (StP.lay' L tw g cp).mkb = L.mkb := rfl
  rw [e6] at c6 f6
  clear Z e6
  have HOK := Lib.hid hok
  have HNO := Lib.hid (And.intro hno hg)
  clear h hok hno hg
  have hnil := fun (w : World) (a : Option Addr) (p q : Nat) => Lib.run_eql_slice_nil (P := Tryd.prog) w 26 34 a p q 0 0 Tryd.underlying26
  go_enter Tryd.func35, Tryd.ntmps35
  go_wp2
  refine wp_region_held_drew (S := (fun w' => (w'.cell? ⟨sb, 0, none⟩ = some (.slice (some ⟨L.inb, 0, none⟩) n n) ∧ w'.cell? ⟨sb, 2, none⟩ = some (.slice (some ⟨L.mkb, 0, none⟩) n n)) ∧ ∃ L' t, StP w' B n R sb L' t ∧ L'.inb = L.inb ∧ L'.chb = L.chb ∧ L'.mkb = L.mkb ∧ L'.jnb = L.jnb)) (by kernel_rfl) ?_ (fun hHeld => ?_)
  · (exact HS _ ⟨L, s, H.out.drew, rfl, rfl, rfl, rfl⟩)
  refine wpAnyH_take (i := 0) (v := ?_) rfl (by kernel_rfl) (by kernel_rfl) (by kernel_rfl) (fun _ _ _ h => h) (Or.inl ⟨by rfl, ?_⟩) (by assumption) ?_
  rotate_left
  · (intro w' hSw; (try dsimp only at hSw); go_simp <;> with_reducible rfl)
  (try simp only [Act.put, List.setIfInBounds_toArray, List.set_cons_zero, List.set_cons_succ])
  refine wpAnyH_take (i := 1) (v := ?_) rfl (by kernel_rfl) (by kernel_rfl) (by kernel_rfl) (fun _ _ _ h => h) (Or.inl ⟨by rfl, ?_⟩) (by assumption) ?_
  rotate_left
  · (intro w' hSw; (try dsimp only at hSw); go_simp <;> with_reducible rfl)
  (try simp only [Act.put, List.setIfInBounds_toArray, List.set_cons_zero, List.set_cons_succ])
  refine wpAnyH_take (i := 2) (v := ?_) rfl (by kernel_rfl) (by kernel_rfl) (by kernel_rfl) (fun _ _ _ h => h) (Or.inl ⟨by rfl, ?_⟩) (by assumption) ?_
  rotate_left
  · (intro w' hSw; (try dsimp only at hSw); go_simp <;> with_reducible rfl)
  (try simp only [Act.put, List.setIfInBounds_toArray, List.set_cons_zero, List.set_cons_succ])
  refine wpAnyH_take (i := 3) (v := ?_) rfl (by kernel_rfl) (by kernel_rfl) (by kernel_rfl) (fun _ _ _ h => h) (Or.inl ⟨by rfl, ?_⟩) (by assumption) ?_
  rotate_left
  · (intro w' hSw; (try dsimp only at hSw); go_simp <;> with_reducible rfl)
  (try simp only [Act.put, List.setIfInBounds_toArray, List.set_cons_zero, List.set_cons_succ])
  refine wpAnyH_take (i := 4) (v := ?_) rfl (by kernel_rfl) (by kernel_rfl) (by kernel_rfl) (fun _ _ _ h => h) (Or.inl ⟨by rfl, ?_⟩) (by assumption) ?_
  rotate_left
  · (intro w' hSw; (try dsimp only at hSw); go_simp <;> with_reducible rfl)
  (try simp only [Act.put, List.setIfInBounds_toArray, List.set_cons_zero, List.set_cons_succ])
  refine wpAnyH_take (i := 5) (v := ?_) rfl (by kernel_rfl) (by kernel_rfl) (by kernel_rfl) (fun _ _ _ h => h) (Or.inl ⟨by rfl, ?_⟩) (by assumption) ?_
  rotate_left
  · (intro w' hSw; (try dsimp only at hSw); go_simp <;> with_reducible rfl)
  (try simp only [Act.put, List.setIfInBounds_toArray, List.set_cons_zero, List.set_cons_succ])
  refine wpAnyH_take (i := 6) (v := ?_) rfl (by kernel_rfl) (by kernel_rfl) (by kernel_rfl) (fun _ _ _ h => h) (Or.inl ⟨by rfl, ?_⟩) (by assumption) ?_
  rotate_left
  · (intro w' hSw; (try dsimp only at hSw); go_simp <;> with_reducible rfl)
  (try simp only [Act.put, List.setIfInBounds_toArray, List.set_cons_zero, List.set_cons_succ])
  refine wpAnyH_take (i := 7) (v := ?_) rfl (by kernel_rfl) (by kernel_rfl) (by kernel_rfl) (fun _ _ _ h => h) (Or.inl ⟨by rfl, ?_⟩) (by assumption) ?_
  rotate_left
  · (intro w' hSw; (try dsimp only at hSw); go_simp <;> with_reducible rfl)
  (try simp only [Act.put, List.setIfInBounds_toArray, List.set_cons_zero, List.set_cons_succ])
  refine wpAnyH_take (i := 8) (v := ?_) rfl (by kernel_rfl) (by kernel_rfl) (by kernel_rfl) (fun _ _ _ h => h) (Or.inl ⟨by rfl, ?_⟩) (by assumption) ?_
  rotate_left
  · (intro w' hSw; (try dsimp only at hSw); go_simp <;> with_reducible rfl)
  (try simp only [Act.put, List.setIfInBounds_toArray, List.set_cons_zero, List.set_cons_succ])
  refine wpAnyH_take (i := 9) (v := ?_) rfl (by kernel_rfl) (by kernel_rfl) (by kernel_rfl) (fun _ _ _ h => h) (Or.inl ⟨by rfl, ?_⟩) (by assumption) ?_
  rotate_left
  · (intro w' hSw; (try dsimp only at hSw); go_simp <;> with_reducible rfl)
  (try simp only [Act.put, List.setIfInBounds_toArray, List.set_cons_zero, List.set_cons_succ])
  refine wpAnyH_take (i := 10) (v := ?_) rfl (by kernel_rfl) (by kernel_rfl) (by kernel_rfl) (fun _ _ _ h => h) (Or.inl ⟨by rfl, ?_⟩) (by assumption) ?_
  rotate_left
  · (intro w' hSw; (try dsimp only at hSw); go_simp <;> with_reducible rfl)
  (try simp only [Act.put, List.setIfInBounds_toArray, List.set_cons_zero, List.set_cons_succ])
  refine wpAnyH_take (i := 11) (v := ?_) rfl (by kernel_rfl) (by kernel_rfl) (by kernel_rfl) (fun _ _ _ h => h) (Or.inl ⟨by rfl, ?_⟩) (by assumption) ?_
  rotate_left
  · (intro w' hSw; (try dsimp only at hSw); go_simp <;> with_reducible rfl)
  (try simp only [Act.put, List.setIfInBounds_toArray, List.set_cons_zero, List.set_cons_succ])
  refine wpAnyH_take (i := 12) (v := ?_) rfl (by kernel_rfl) (by kernel_rfl) (by kernel_rfl) (fun _ _ _ h => h) (Or.inl ⟨by rfl, ?_⟩) (by assumption) ?_
  rotate_left
  · (intro w' hSw; (try dsimp only at hSw); go_simp <;> with_reducible rfl)
  (try simp only [Act.put, List.setIfInBounds_toArray, List.set_cons_zero, List.set_cons_succ])
  refine wpAnyH_ready (rs := [13]) (by kernel_rfl) (by simp) ?_
  refine AllReadyH.cons rfl (fun K hK => ?_) AllReadyH.nil
  go_simp
  refine hK.out _ _ ?_ (fun hHeld => ?_)
  · (exact HS _ ⟨_, _, S1.out, rfl, rfl, rfl, rfl⟩)
  clear hK K
  (try simp only [Act.put, List.setIfInBounds_toArray, List.set_cons_zero, List.set_cons_succ])
  refine wpAnyH_take (i := 14) (v := ?_) rfl (by kernel_rfl) (by kernel_rfl) (by kernel_rfl) (fun _ _ _ h => h) (Or.inl ⟨by rfl, ?_⟩) (by assumption) ?_
  rotate_left
  · (intro w' hSw; (try dsimp only at hSw); go_simp <;> with_reducible rfl)
  (try simp only [Act.put, List.setIfInBounds_toArray, List.set_cons_zero, List.set_cons_succ])
  refine wpAnyH_ready (rs := [15]) (by kernel_rfl) (by simp) ?_
  refine AllReadyH.cons rfl (fun K hK => ?_) AllReadyH.nil
  go_simp
  refine hK.out _ _ ?_ (fun hHeld => ?_)
  · (exact HS _ ⟨_, _, S2.out, rfl, rfl, rfl, rfl⟩)
  clear hK K
  (try simp only [Act.put, List.setIfInBounds_toArray, List.set_cons_zero, List.set_cons_succ])
  refine wpAnyH_done (by kernel_rfl) ?_ _
  go_wp2
  refine ret_of ?_ rfl
  refine ⟨_, results_none rfl _ _ _, ⟨_, rfl⟩, ?_, StP.lay' L tw g cp, S2.out, fun k hk hh => ?_, fun k hk => has_lay (t := { s with ins := s.ins.set tw (some nx), marked := s.marked.set tw true }) HOK.out.li htw rfl hk⟩
  · exact (((Below.refl B W).setCell (p := ⟨L.inb, tw, none⟩) (H.out.old _ (.inr (.inl rfl))) _).setCell (p := ⟨L.mkb, tw, none⟩) (H.out.old _ (.inr (.inr (.inr (.inl rfl))))) _).drew
  · show ((W.setCell _ _).setCell _ _).heap[k]? = _
    rw [Below.heap_setCell _ _ _ k (fun e => hh (.inr (.inr (.inr (.inl e))))), Below.heap_setCell _ _ _ k (fun e => hh (.inr (.inl e)))]
/-! ### Where something stands -/
def diffB (old nx : List Sp) (k : Nat) : Bool := !sameSp ((old.getD k z0).join (nx.getD k z0)) (old.getD k z0)
def incTo (c : List Nat) (old nx : List Sp) : Nat → List Nat
  | 0 => c
  | k + 1 => if diffB old nx k then (incTo c old nx k).set k (c.getD k 0 + 1) else incTo c old nx k
def anyTo (old nx : List Sp) : Nat → Bool
  | 0 => false
  | k + 1 => anyTo old nx k || diffB old nx k
def grTo (wide : Bool) (ths : List Int) (old nx : List Sp) : Nat → List Sp
  | 0 => old
  | k + 1 => (grTo wide ths old nx k).set k (growS wide ths (old.getD k z0) (nx.getD k z0))
theorem incTo_len (c : List Nat) (old nx : List Sp) : ∀ k, (incTo c old nx k).length = c.length
  | 0 => rfl
  | k + 1 => by rw [incTo]; split <;> (try rw [List.length_set]) <;> exact incTo_len c old nx k
theorem incTo_get (c : List Nat) (old nx : List Sp) : ∀ k j, k ≤ c.length → (incTo c old nx k).getD j 0 = if j < k ∧ diffB old nx j = true then c.getD j 0 + 1 else c.getD j 0
  | 0, j, _ => by simp [incTo]
  | k + 1, j, h => by
    have ih := incTo_get c old nx k j (by omega)
    have hl := incTo_len c old nx k
    rw [incTo]
    cases hd : diffB old nx k
    · simp only [Bool.false_eq_true, if_false]
      rw [ih]
      by_cases e : j = k
      · subst e; simp [hd]
      · have : (j < k + 1) ↔ (j < k) := by omega
        simp only [this]
    · simp only [if_true]
      rw [getD_set]
      by_cases e : k = j
      · subst e; rw [if_pos ⟨rfl, by omega⟩]; simp [hd]
      · rw [if_neg (fun q => e q.1), ih]
        have : (j < k + 1) ↔ (j < k) := by omega
        simp only [this]
theorem grTo_len (wide : Bool) (ths : List Int) (old nx : List Sp) : ∀ k, (grTo wide ths old nx k).length = old.length
  | 0 => rfl
  | k + 1 => by rw [grTo, List.length_set]; exact grTo_len wide ths old nx k
theorem grTo_get (wide : Bool) (ths : List Int) (old nx : List Sp) : ∀ k j, k ≤ old.length → (grTo wide ths old nx k).getD j z0 = if j < k then growS wide ths (old.getD j z0) (nx.getD j z0) else old.getD j z0
  | 0, j, _ => by simp [grTo]
  | k + 1, j, h => by
    have ih := grTo_get wide ths old nx k j (by omega)
    have hl := grTo_len wide ths old nx k
    rw [grTo, getD_set]
    by_cases e : k = j
    · subst e; rw [if_pos ⟨rfl, by omega⟩, if_pos (by omega)]
    · rw [if_neg (fun q => e q.1), ih]
      have : (j < k + 1) ↔ (j < k) := by omega
      simp only [this]
theorem list_ext {α : Type} (d : α) {l m : List α} (h : l.length = m.length) (hh : ∀ j, j < l.length → l.getD j d = m.getD j d) : l = m := by
  apply List.ext_getElem? ; intro j
  rcases Nat.lt_or_ge j l.length with q | q
  · have := hh j q
    rw [List.getD_eq_getElem?_getD, List.getD_eq_getElem?_getD, List.getElem?_eq_getElem q, List.getElem?_eq_getElem (by omega)] at this
    rw [List.getElem?_eq_getElem q, List.getElem?_eq_getElem (by omega)]
    exact congrArg some this
  · rw [List.getElem?_eq_none q, List.getElem?_eq_none (by omega)]
theorem anyTo_iff (old nx : List Sp) : ∀ k, anyTo old nx k = true ↔ ∃ j, j < k ∧ diffB old nx j = true
  | 0 => by simp [anyTo]
  | k + 1 => by
    rw [anyTo, Bool.or_eq_true, anyTo_iff old nx k]
    constructor
    · rintro (⟨j, h1, h2⟩ | h)
      · exact ⟨j, by omega, h2⟩
      · exact ⟨k, by omega, h⟩
    · rintro ⟨j, h1, h2⟩
      rcases Nat.lt_or_ge j k with q | q
      · exact .inl ⟨j, q, h2⟩
      · obtain rfl : j = k := by omega
        exact .inr h2
theorem anyTo_all {old nx : List Sp} {R : Nat} (h1 : old.length = R) (h2 : nx.length = R) : (List.zipWith (fun a b => sameSp (a.join b) a) old nx).all id = !anyTo old nx R := by
  rw [Bool.eq_iff_iff]
  rw [Bool.not_eq_true', ← Bool.not_eq_true, anyTo_iff, List.all_eq_true]
  constructor
  · rintro h ⟨j, hj, hd⟩
    have e := getD_zip (fun a b => sameSp (a.join b) a) old nx z0 z0 true j (by omega) (by omega)
    have hk : j < (List.zipWith (fun a b => sameSp (a.join b) a) old nx).length := by simp; omega
    have := h _ (List.getElem_mem hk)
    rw [List.getD_eq_getElem?_getD, List.getElem?_eq_getElem hk] at e
    simp only [Option.getD_some] at e
    simp only [id, e] at this
    rw [diffB, this] at hd
    cases hd
  · intro h x hx
    obtain ⟨j, hj, e⟩ := List.getElem_of_mem hx
    have hj2 : j < R := by simp at hj; omega
    have e2 := getD_zip (fun a b => sameSp (a.join b) a) old nx z0 z0 true j (by omega) (by omega)
    rw [List.getD_eq_getElem?_getD, List.getElem?_eq_getElem hj] at e2
    simp only [Option.getD_some] at e2
    rw [← e, id, e2]
    cases hq : sameSp ((old.getD j z0).join (nx.getD j z0)) (old.getD j z0)
    · exact absurd ⟨j, hj2, by rw [diffB, hq]; rfl⟩ h
    · rfl
theorem incTo_all {c : List Nat} {old nx : List Sp} {R : Nat} (h0 : c.length = R) (h1 : old.length = R) (h2 : nx.length = R) : List.zipWith (fun (c : Nat) (ab : Sp × Sp) => if sameSp (ab.1.join ab.2) ab.1 then c else c + 1) c (old.zip nx) = incTo c old nx R := by
  refine list_ext 0 (by rw [incTo_len]; simp; omega) fun j hj => ?_
  have hj2 : j < R := by simp at hj; omega
  rw [incTo_get c old nx R j (by omega), getD_zip _ _ _ 0 (z0, z0) 0 j (by omega) (by simp; omega)]
  have : (old.zip nx).getD j (z0, z0) = (old.getD j z0, nx.getD j z0) := by
    simp only [List.getD_eq_getElem?_getD]
    rw [List.getElem?_eq_getElem (by simp; omega), List.getElem?_eq_getElem (by omega), List.getElem?_eq_getElem (by omega)]
    simp
  rw [this]
  dsimp only
  by_cases hq : sameSp ((old.getD j z0).join (nx.getD j z0)) (old.getD j z0) = true
  · rw [if_pos hq, if_neg (fun q => by have := q.2; rw [diffB, hq] at this; cases this)]
  · rw [if_neg hq, if_pos ⟨hj2, by rw [diffB, Bool.not_eq_true']; exact Bool.not_eq_true _ ▸ hq⟩]
theorem grTo_all {wide : Bool} {ths : List Int} {old nx : List Sp} {R : Nat} (h1 : old.length = R) (h2 : nx.length = R) : List.zipWith (growS wide ths) old nx = grTo wide ths old nx R := by
  refine list_ext z0 (by rw [grTo_len]; simp; omega) fun j hj => ?_
  have hj2 : j < R := by simp at hj; omega
  rw [grTo_get wide ths old nx R j (by omega), getD_zip _ _ _ z0 z0 z0 j (by omega) (by omega), if_pos hj2]
theorem mergeD_some {s : StD} {tw R : Nat} {nx old : List Sp} (ths : List Int) (h : s.ins.getD tw none = some old) (h0 : (s.changes.getD tw []).length = R) (h1 : old.length = R) (h2 : nx.length = R) :
    mergeD s tw nx ths = if anyTo old nx R then { ins := s.ins.set tw (some (grTo (decide (4 < s.joined.getD tw 0 + 1)) ths old nx R)), marked := s.marked.set tw true, joined := s.joined.set tw (s.joined.getD tw 0 + 1), changes := s.changes.set tw (incTo (s.changes.getD tw []) old nx R) } else s := by
  unfold mergeD
  rw [h]
  simp only
  rw [anyTo_all h1 h2, incTo_all h0 h1 h2, grTo_all h1 h2]
  cases anyTo old nx R <;> rfl
end Go.Proofs.YtddobhneplfddaaDoor
