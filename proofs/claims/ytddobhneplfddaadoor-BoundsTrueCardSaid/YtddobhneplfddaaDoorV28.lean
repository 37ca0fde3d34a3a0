/-
  Layer 16 (bounds): AwayP, AwayJ, AwayH.
-/
import Derived.Test.YtddobhneplfddaaDoorV13
namespace Go.Proofs.YtddobhneplfddaaDoor
set_option maxRecDepth 100000
open Go.RowKit
set_option linter.unusedSimpArgs false
set_option linter.unusedVariables false
/-- The row of spans when the first k arguments have met their ranges. -/
def meetTo (r : List Sp) (b : Nat) (ps : List Sp) : Nat → List Sp
  | 0 => r
  | k + 1 => (meetTo r b ps k).set (b + k) (((meetTo r b ps k).getD (b + k) ⟨0, 0⟩).meet (nthS ps k))
def meetToOk (r : List Sp) (b : Nat) (ps : List Sp) (k : Nat) : Bool := ((meetTo r b ps k).getD (b + k) ⟨0, 0⟩).meetOk (nthS ps k)
theorem meetTo_len (r : List Sp) (b : Nat) (ps : List Sp) : ∀ k, (meetTo r b ps k).length = r.length
  | 0 => rfl
  | k + 1 => by rw [meetTo, List.length_set, meetTo_len r b ps k]
theorem meetTo_cons (r : List Sp) (b : Nat) (p : Sp) (ps : List Sp) : ∀ k, meetTo r b (p :: ps) (k + 1) = meetTo (r.set b ((r.getD b ⟨0, 0⟩).meet p)) (b + 1) ps k
  | 0 => rfl
  | k + 1 => by
    rw [meetTo, meetTo_cons r b p ps k, meetTo]
    rw [show b + (k + 1) = b + 1 + k by omega]
    rfl
theorem callD_yes : ∀ (ps : List Sp) (r : List Sp) (b : Nat), (∀ j, j < ps.length → meetToOk r b ps j = true) → callD r b ps = some (meetTo r b ps ps.length)
  | [], r, b, _ => rfl
  | p :: ps, r, b, h => by
    have h0 : (r.getD b ⟨0, 0⟩).meetOk p = true := h 0 (by simp)
    have e : ((b : Int) + 1) = ((b + 1 : Nat) : Int) := by simp
    rw [callD, atS, setS, Int.toNat_natCast, if_pos h0, e, callD_yes ps _ (b + 1) (fun j hj => ?_), List.length_cons, meetTo_cons]
    have := h (j + 1) (by simpa using hj)
    rw [meetToOk, meetTo_cons, show b + (j + 1) = b + 1 + j by omega] at this
    exact this
theorem callD_no : ∀ (ps : List Sp) (r : List Sp) (b k : Nat), k < ps.length → (∀ j, j < k → meetToOk r b ps j = true) → meetToOk r b ps k = false → callD r b ps = none
  | [], r, b, k, hk, _, _ => by simp at hk
  | p :: ps, r, b, 0, _, _, h => by
    have h0 : ¬ (r.getD b ⟨0, 0⟩).meetOk p = true := by
      have : (r.getD b ⟨0, 0⟩).meetOk p = false := h
      rw [this]; decide
    rw [callD, atS, Int.toNat_natCast, if_neg h0]
  | p :: ps, r, b, k + 1, hk, h, hn => by
    have h0 : (r.getD b ⟨0, 0⟩).meetOk p = true := h 0 (by omega)
    have e : ((b : Int) + 1) = ((b + 1 : Nat) : Int) := by simp
    rw [callD, atS, setS, Int.toNat_natCast, if_pos h0, e]
    refine callD_no ps _ (b + 1) k (by simpa using hk) (fun j hj => ?_) ?_
    · have := h (j + 1) (by omega)
      rw [meetToOk, meetTo_cons, show b + (j + 1) = b + 1 + j by omega] at this
      exact this
    · rw [meetToOk, meetTo_cons, show b + (k + 1) = b + 1 + k by omega] at hn
      exact hn
/-- What stands at the head of a round over a call's arguments. -/
def CallRel (w : World) (g nr cp : Nat) (r : List Sp) (kb : Nat) (ps : List Sp) (x : InsD) (wd : Int) (fv : Value) (i : Value) (W : World) : Prop :=
  ∃ k : Nat, k ≤ ps.length ∧ i = .int .i64 k ∧ (∀ j, j < k → meetToOk r kb ps j = true) ∧ AwW w W g nr cp (meetTo r kb ps k) x wd fv
theorem meetAwI (a s : Sp) (kb k g nr cp : Nat) (r : List Sp) (hr : r.length = nr) (hcp : cp ≤ maxLen) (hc : nr ≤ cp) (hs : r[kb + k]? = some s) (w W : World) (x : InsD) (wd : Int) (fv : Value) (h : AwW w W g nr cp r x wd fv) :
    Calls Tryd.prog 53 #[.int .i64 ((kb : Int) + (k : Int)), .agg #[.int .i64 a.lo, .int .i64 a.hi], .pointer (some ⟨w.heap.size + 1 + 1, 0, none⟩)] W fun e w' => e = .returned (.bool (s.meetOk a)) ∧ AwW w w' g nr cp (r.set (kb + k) (s.meet a)) x wd fv := by
  have := meetAw a s (kb + k) g nr cp r hr hcp hc hs w W x wd fv h
  rwa [Int.natCast_add] at this
set_option maxHeartbeats 8000000 in
theorem away_19_true (m : ModD) (f : FuncD) (frm ka kb kn : Nat) (to c : Int) (hf : frm < f.code.length) (hx : nthX f.code frm = ⟨19, ((ka : Nat) : Int), ((kb : Nat) : Int), c, ((kn : Nat) : Int)⟩) (hl : f.code.length * 40 ≤ 140737488351232) (g nr cp B : Nat) (r : List Sp) (hr : r.length = nr) (hc : nr ≤ cp) (hcp : cp ≤ maxLen) (hka : ka < r.length) (hkn : kn < m.funcs.length) (hnf : m.funcs.length ≤ 32) (hb : kb + (nthF m.funcs kn).params.length ≤ nr) (w : World) (hM : ModOk w B m) (hB : B ≤ g) (ov : Bool) (hto : (to == ((kn : Nat) : Int)) = true) (hon : (((kn : Nat) : Int) != (frm : Int) + 1) = ov) (hI : InsAt w w.heap.size f.ca f.code) (hR : RowS w g cp r) :
    Calls Tryd.prog 29 #[m.val, f.val, .int .i64 frm, .int .i64 to, .slice (some ⟨g, 0, none⟩) nr cp] w (AwayOk g cp nr ((callD r kb (nthF m.funcs kn).params).map fun q => q.set ka Sp.all) w) := by
  obtain ⟨cb, co, hca, hcb, hcc⟩ := hI (by omega)
  have x0 := hcc frm hf 0 (by omega)
  have x1 := hcc frm hf 1 (by omega)
  have x2 := hcc frm hf 2 (by omega)
  have x3 := hcc frm hf 3 (by omega)
  have x4 := hcc frm hf 4 (by omega)
  simp only [hx, insV, Nat.add_zero] at x0 x1 x2 x3 x4
  obtain ⟨nm, pa, pc, ps0, rg, wd, ca, cc, cd⟩ := f
  simp only at hca hf hl hx ⊢
  subst hca
  have lg := hR.lt
  have hfr : ((frm : Nat) : Int) < (cd.length : Int) := by omega
  have hkf : ((kn : Nat) : Int) < (m.funcs.length : Int) := by omega
  unfold maxLen at hcp
  have HR := Lib.hid hR
  obtain ⟨fb, fo, hfa, hfb, hfc⟩ := hM.funcs (by omega)
  have y1 := hfc kn hkn 1 (by omega)
  simp only [funcV] at y1
  have hps := (hM.each kn hkn).params
  obtain ⟨ta, tc, ths, fa, fc, fns⟩ := m
  simp only at hfa hkn hnf hb y1 hps hkf ⊢
  subst hfa
  generalize hF : nthF fns kn = F at *
  obtain ⟨nm2, pa2, pc2, ps, rg2, wd2, ca2, cc2, cd2⟩ := F
  simp only at y1 hps hb ⊢
  have HP := Lib.hid hps
  have hfw : fb < w.heap.size := by omega
  have hna : ((ka : Nat) : Int) < (nr : Int) := by omega
  have lgp : w.heap.size = w.heap.size := rfl
  clear hcc hx hfc hM hps hF hR lgp
  go_enter Tryd.func29, Tryd.ntmps29
  go_wp2
  generalize hW : ((((w.alloc (.cells #[.slice ta ths.length tc, .slice (some ⟨fb, fo, none⟩) fns.length fc] 25)).alloc (.cells #[.string nm, .slice pa ps0.length pc, .int .i64 rg, .int .i64 wd, .slice (some ⟨cb, co, none⟩) cd.length cc] 48)).alloc (.cells #[.slice (some ⟨g, 0, none⟩) nr cp] 26)).alloc (.cells #[.int .i64 19, .int .i64 ((ka : Nat) : Int), .int .i64 ((kb : Nat) : Int), .int .i64 c, .int .i64 ((kn : Nat) : Int)] 65)) = W
  have aw : AwW w W g nr cp r ⟨19, ka, kb, c, kn⟩ wd (.slice (some ⟨fb, fo, none⟩) fns.length fc) := by
    rw [← hW]; exact AwW.new (x := ⟨19, ka, kb, c, kn⟩) HR.out _ _ _ _ _ _ _ _ _
  clear hW x0 x1 x2 x3 x4 y1
  go_loopw [183] (fun i V => CallRel w g nr cp r kb ps ⟨19, ka, kb, c, kn⟩ wd (.slice (some ⟨fb, fo, none⟩) fns.length fc) i V) (fun i _ => ps.length - (intOf i).toNat)
  case atStart => exact ⟨0, Nat.zero_le _, rfl, fun _ h => absurd h (by omega), aw⟩
  case round =>
    obtain ⟨k, hk, rfl, hok, aw1⟩ := hrel
    clear aw
    have HOK := Lib.hid hok
    clear hok
    have hsz := aw1.size
    have hml := meetTo_len r kb ps k
    have hpl : ps.length ≤ 9223372036854775807 := by omega
    by_cases hlt : k < ps.length
    · obtain ⟨pb, po, hpa, hpb, hpc⟩ := HP.out (by omega)
      have z0 := hpc k hlt 0 (by omega)
      have z1 := hpc k hlt 1 (by omega)
      rw [← gwCell aw1.gr (by omega) (by omega)] at z0 z1
      simp only [spV, Nat.add_zero] at z0 z1
      clear hpc
      subst hpa
      obtain ⟨sx, hsx⟩ : ∃ s, (meetTo r kb ps k)[kb + k]? = some s := ⟨_, List.getElem?_eq_getElem (by omega)⟩
      have hlp : pb < wr.heap.size := by omega
      have hki : (k : Int) < (ps.length : Int) := by omega
      have e2 : IntKind.i64.wrap ((kb : Int) + (k : Int)) = (kb : Int) + (k : Int) := IntWalk.i64_in _ (by omega)
      have aw2 := AwW.alloc aw1 (.cells #[.int .i64 (nthS ps k).lo, .int .i64 (nthS ps k).hi] 34)
      have c2 := aw2.x2
      cases hmk : sx.meetOk (nthS ps k)
      all_goals
        have HMK := Lib.hid hmk
        clear hmk
        go_wp2_with fail
        go_at_call 53
        refine (meetAwI (nthS ps k) sx kb k g nr cp _ (by omega) (by unfold maxLen; omega) hc hsx w _ _ _ _ aw2).mono ?_
        rintro e w2 ⟨rfl, aw3⟩
        rw [HMK.out]
        clear aw2 aw1
        go_wp2
      · have hsd : (meetTo r kb ps k).getD (kb + k) ⟨0, 0⟩ = sx := by rw [List.getD_eq_getElem?_getD, hsx]; rfl
        have hno : callD r kb ps = none := callD_no ps r kb k hlt HOK.out (by rw [meetToOk, hsd]; exact HMK.out)
        refine ret_of ?_ rfl
        refine ⟨_, by simp [results, Tryd.results29, go_sem] <;> rfl, by rw [hno]; rfl, ⟨_, aw3.row, by rw [List.length_set]; omega, fun _ h => by rw [hno] at h; cases h⟩, aw3.gr⟩
      · have hsd : (meetTo r kb ps k).getD (kb + k) ⟨0, 0⟩ = sx := by rw [List.getD_eq_getElem?_getD, hsx]; rfl
        go_roundw
        case rel =>
          refine ⟨k + 1, by omega, by go_num, fun j hj => ?_, ?_⟩
          · rcases Nat.lt_or_ge j k with h | h
            · exact HOK.out j h
            · obtain rfl : j = k := by omega
              rw [meetToOk, hsd]; exact HMK.out
          · rw [meetTo, hsd]; exact aw3
        case measure => simp [intOf]; omega
    · have hk2 : k = ps.length := by omega
      subst hk2
      have hyes : callD r kb ps = some (meetTo r kb ps ps.length) := callD_yes ps r kb HOK.out
      have e1 := aw1.x1
      have eb := aw1.rb
      simp at e1
      have hrl : (meetTo r kb ps ps.length).length = nr := by omega
      have hat : ∃ s, (meetTo r kb ps ps.length)[ka]? = some s := ⟨_, List.getElem?_eq_getElem (by omega)⟩
      go_wp2
      have HS : ∀ w', (∃ r', r'.length = nr ∧ AwW w w' g nr cp r' ⟨19, ka, kb, c, kn⟩ wd (.slice (some ⟨fb, fo, none⟩) fns.length fc)) → (w'.cell? ⟨w.heap.size + 1 + 1 + 1, 1, none⟩ = some (.int .i64 ka) ∧ w'.cell? ⟨w.heap.size + 1 + 1, 0, none⟩ = some (.slice (some ⟨g, 0, none⟩) nr cp)) ∧ ∃ r', r'.length = nr ∧ AwW w w' g nr cp r' ⟨19, ka, kb, c, kn⟩ wd (.slice (some ⟨fb, fo, none⟩) fns.length fc) := fun w' ⟨r', hr', h⟩ => ⟨⟨h.x1, h.rb⟩, r', hr', h⟩
      refine wp_region_held_drew (S := (fun w' => (w'.cell? ⟨w.heap.size + 1 + 1 + 1, 1, none⟩ = some (.int .i64 ka) ∧ w'.cell? ⟨w.heap.size + 1 + 1, 0, none⟩ = some (.slice (some ⟨g, 0, none⟩) nr cp)) ∧ ∃ r', r'.length = nr ∧ AwW w w' g nr cp r' ⟨19, ka, kb, c, kn⟩ wd (.slice (some ⟨fb, fo, none⟩) fns.length fc))) (by kernel_rfl) ?_ (fun hHeld => ?_)
      · (exact HS _ ⟨_, hrl, aw1.drew⟩)
      iterate 3
        refine wpAnyH_nx (v := ?_) rfl rfl (by kernel_rfl) (by kernel_rfl) (by kernel_rfl) (fun _ _ _ h => h) (Or.inl ⟨by rfl, ?_⟩) (by assumption) ?_
        rotate_left
        · (intro w' hSw; (try dsimp only at hSw); go_simp <;> with_reducible rfl)
        (try simp only [Act.put, List.setIfInBounds_toArray, List.set_cons_zero, List.set_cons_succ])
      refine wpAnyH_ready (rs := [3]) (by kernel_rfl) (by simp) ?_
      refine AllReadyH.cons rfl (fun K hK => ?_) AllReadyH.nil
      go_simp; go_at_call 58; refine (allP _).mono ?_; rintro e w3 ⟨rfl, hb3⟩; go_wp2_with fail; have hs3 := hb3.size; have aw3 := AwW.below aw1.drew hb3; obtain ⟨sx3, hsx3⟩ := hat; obtain ⟨hka3, g0, g1, h0, h1⟩ := aw3.row.cells4 hsx3
      refine hK.out _ _ ?_ (fun hHeld => ?_)
      · (exact HS _ ⟨_, hrl, aw3⟩)
      clear hK K
      (try simp only [Act.put, List.setIfInBounds_toArray, List.set_cons_zero, List.set_cons_succ])
      refine wpAnyH_take (i := 4) (v := ?_) rfl (by kernel_rfl) (by kernel_rfl) (by kernel_rfl) (fun _ _ _ h => h) (Or.inl ⟨by rfl, ?_⟩) (by assumption) ?_
      rotate_left
      · (intro w' hSw; (try dsimp only at hSw); go_simp <;> with_reducible rfl)
      (try simp only [Act.put, List.setIfInBounds_toArray, List.set_cons_zero, List.set_cons_succ])
      refine wpAnyH_ready (rs := [5]) (by kernel_rfl) (by simp) ?_
      refine AllReadyH.cons rfl (fun K hK => ?_) AllReadyH.nil
      go_simp
      refine hK.out _ _ ?_ (fun hHeld => ?_)
      · (exact HS _ ⟨_, by simp [hrl], AwW.put aw3 hka3 Sp.all⟩)
      clear hK K
      (try simp only [Act.put, List.setIfInBounds_toArray, List.set_cons_zero, List.set_cons_succ])
      refine wpAnyH_done (by kernel_rfl) ?_ _
      have fin := aw3.put hka3 Sp.all
      go_wp2
      refine ret_of ?_ rfl
      refine ⟨_, by simp [results, Tryd.results29, go_sem] <;> rfl, by rw [hyes]; rfl, ⟨_, fin.row, by simp [hrl], fun _ h => by rw [hyes] at h; exact Option.some.inj h⟩, fin.gr⟩
set_option maxHeartbeats 8000000 in
theorem away_19_false (m : ModD) (f : FuncD) (frm ka kb kn : Nat) (to c : Int) (hf : frm < f.code.length) (hx : nthX f.code frm = ⟨19, ((ka : Nat) : Int), ((kb : Nat) : Int), c, ((kn : Nat) : Int)⟩) (hl : f.code.length * 40 ≤ 140737488351232) (g nr cp B : Nat) (r : List Sp) (hr : r.length = nr) (hc : nr ≤ cp) (hcp : cp ≤ maxLen) (hka : ka < r.length) (hkn : kn < m.funcs.length) (hnf : m.funcs.length ≤ 32) (hb : kb + (nthF m.funcs kn).params.length ≤ nr) (w : World) (hM : ModOk w B m) (hB : B ≤ g) (ov : Bool) (hto : (to == ((kn : Nat) : Int)) = false) (hon : (((kn : Nat) : Int) != (frm : Int) + 1) = ov) (hI : InsAt w w.heap.size f.ca f.code) (hR : RowS w g cp r) :
    Calls Tryd.prog 29 #[m.val, f.val, .int .i64 frm, .int .i64 to, .slice (some ⟨g, 0, none⟩) nr cp] w (AwayOk g cp nr ((callD r kb (nthF m.funcs kn).params).map fun q => q.set ka Sp.all) w) := by
  obtain ⟨cb, co, hca, hcb, hcc⟩ := hI (by omega)
  have x0 := hcc frm hf 0 (by omega)
  have x1 := hcc frm hf 1 (by omega)
  have x2 := hcc frm hf 2 (by omega)
  have x3 := hcc frm hf 3 (by omega)
  have x4 := hcc frm hf 4 (by omega)
  simp only [hx, insV, Nat.add_zero] at x0 x1 x2 x3 x4
  obtain ⟨nm, pa, pc, ps0, rg, wd, ca, cc, cd⟩ := f
  simp only at hca hf hl hx ⊢
  subst hca
  have lg := hR.lt
  have hfr : ((frm : Nat) : Int) < (cd.length : Int) := by omega
  have hkf : ((kn : Nat) : Int) < (m.funcs.length : Int) := by omega
  unfold maxLen at hcp
  have HR := Lib.hid hR
  obtain ⟨fb, fo, hfa, hfb, hfc⟩ := hM.funcs (by omega)
  have y1 := hfc kn hkn 1 (by omega)
  simp only [funcV] at y1
  have hps := (hM.each kn hkn).params
  obtain ⟨ta, tc, ths, fa, fc, fns⟩ := m
  simp only at hfa hkn hnf hb y1 hps hkf ⊢
  subst hfa
  generalize hF : nthF fns kn = F at *
  obtain ⟨nm2, pa2, pc2, ps, rg2, wd2, ca2, cc2, cd2⟩ := F
  simp only at y1 hps hb ⊢
  have HP := Lib.hid hps
  have hfw : fb < w.heap.size := by omega
  have hna : ((ka : Nat) : Int) < (nr : Int) := by omega
  have lgp : w.heap.size = w.heap.size := rfl
  clear hcc hx hfc hM hps hF hR lgp
  go_enter Tryd.func29, Tryd.ntmps29
  go_wp2
  generalize hW : ((((w.alloc (.cells #[.slice ta ths.length tc, .slice (some ⟨fb, fo, none⟩) fns.length fc] 25)).alloc (.cells #[.string nm, .slice pa ps0.length pc, .int .i64 rg, .int .i64 wd, .slice (some ⟨cb, co, none⟩) cd.length cc] 48)).alloc (.cells #[.slice (some ⟨g, 0, none⟩) nr cp] 26)).alloc (.cells #[.int .i64 19, .int .i64 ((ka : Nat) : Int), .int .i64 ((kb : Nat) : Int), .int .i64 c, .int .i64 ((kn : Nat) : Int)] 65)) = W
  have aw : AwW w W g nr cp r ⟨19, ka, kb, c, kn⟩ wd (.slice (some ⟨fb, fo, none⟩) fns.length fc) := by
    rw [← hW]; exact AwW.new (x := ⟨19, ka, kb, c, kn⟩) HR.out _ _ _ _ _ _ _ _ _
  clear hW x0 x1 x2 x3 x4 y1
  go_loopw [183] (fun i V => CallRel w g nr cp r kb ps ⟨19, ka, kb, c, kn⟩ wd (.slice (some ⟨fb, fo, none⟩) fns.length fc) i V) (fun i _ => ps.length - (intOf i).toNat)
  case atStart => exact ⟨0, Nat.zero_le _, rfl, fun _ h => absurd h (by omega), aw⟩
  case round =>
    obtain ⟨k, hk, rfl, hok, aw1⟩ := hrel
    clear aw
    have HOK := Lib.hid hok
    clear hok
    have hsz := aw1.size
    have hml := meetTo_len r kb ps k
    have hpl : ps.length ≤ 9223372036854775807 := by omega
    by_cases hlt : k < ps.length
    · obtain ⟨pb, po, hpa, hpb, hpc⟩ := HP.out (by omega)
      have z0 := hpc k hlt 0 (by omega)
      have z1 := hpc k hlt 1 (by omega)
      rw [← gwCell aw1.gr (by omega) (by omega)] at z0 z1
      simp only [spV, Nat.add_zero] at z0 z1
      clear hpc
      subst hpa
      obtain ⟨sx, hsx⟩ : ∃ s, (meetTo r kb ps k)[kb + k]? = some s := ⟨_, List.getElem?_eq_getElem (by omega)⟩
      have hlp : pb < wr.heap.size := by omega
      have hki : (k : Int) < (ps.length : Int) := by omega
      have e2 : IntKind.i64.wrap ((kb : Int) + (k : Int)) = (kb : Int) + (k : Int) := IntWalk.i64_in _ (by omega)
      have aw2 := AwW.alloc aw1 (.cells #[.int .i64 (nthS ps k).lo, .int .i64 (nthS ps k).hi] 34)
      have c2 := aw2.x2
      cases hmk : sx.meetOk (nthS ps k)
      all_goals
        have HMK := Lib.hid hmk
        clear hmk
        go_wp2_with fail
        go_at_call 53
        refine (meetAwI (nthS ps k) sx kb k g nr cp _ (by omega) (by unfold maxLen; omega) hc hsx w _ _ _ _ aw2).mono ?_
        rintro e w2 ⟨rfl, aw3⟩
        rw [HMK.out]
        clear aw2 aw1
        go_wp2
      · have hsd : (meetTo r kb ps k).getD (kb + k) ⟨0, 0⟩ = sx := by rw [List.getD_eq_getElem?_getD, hsx]; rfl
        have hno : callD r kb ps = none := callD_no ps r kb k hlt HOK.out (by rw [meetToOk, hsd]; exact HMK.out)
        refine ret_of ?_ rfl
        refine ⟨_, by simp [results, Tryd.results29, go_sem] <;> rfl, by rw [hno]; rfl, ⟨_, aw3.row, by rw [List.length_set]; omega, fun _ h => by rw [hno] at h; cases h⟩, aw3.gr⟩
      · have hsd : (meetTo r kb ps k).getD (kb + k) ⟨0, 0⟩ = sx := by rw [List.getD_eq_getElem?_getD, hsx]; rfl
        go_roundw
        case rel =>
          refine ⟨k + 1, by omega, by go_num, fun j hj => ?_, ?_⟩
          · rcases Nat.lt_or_ge j k with h | h
            · exact HOK.out j h
            · obtain rfl : j = k := by omega
              rw [meetToOk, hsd]; exact HMK.out
          · rw [meetTo, hsd]; exact aw3
        case measure => simp [intOf]; omega
    · have hk2 : k = ps.length := by omega
      subst hk2
      have hyes : callD r kb ps = some (meetTo r kb ps ps.length) := callD_yes ps r kb HOK.out
      have e1 := aw1.x1
      have eb := aw1.rb
      simp at e1
      have hrl : (meetTo r kb ps ps.length).length = nr := by omega
      have hat : ∃ s, (meetTo r kb ps ps.length)[ka]? = some s := ⟨_, List.getElem?_eq_getElem (by omega)⟩
      go_wp2
      have HS : ∀ w', (∃ r', r'.length = nr ∧ AwW w w' g nr cp r' ⟨19, ka, kb, c, kn⟩ wd (.slice (some ⟨fb, fo, none⟩) fns.length fc)) → (w'.cell? ⟨w.heap.size + 1 + 1 + 1, 1, none⟩ = some (.int .i64 ka) ∧ w'.cell? ⟨w.heap.size + 1 + 1, 0, none⟩ = some (.slice (some ⟨g, 0, none⟩) nr cp)) ∧ ∃ r', r'.length = nr ∧ AwW w w' g nr cp r' ⟨19, ka, kb, c, kn⟩ wd (.slice (some ⟨fb, fo, none⟩) fns.length fc) := fun w' ⟨r', hr', h⟩ => ⟨⟨h.x1, h.rb⟩, r', hr', h⟩
      refine wp_region_held_drew (S := (fun w' => (w'.cell? ⟨w.heap.size + 1 + 1 + 1, 1, none⟩ = some (.int .i64 ka) ∧ w'.cell? ⟨w.heap.size + 1 + 1, 0, none⟩ = some (.slice (some ⟨g, 0, none⟩) nr cp)) ∧ ∃ r', r'.length = nr ∧ AwW w w' g nr cp r' ⟨19, ka, kb, c, kn⟩ wd (.slice (some ⟨fb, fo, none⟩) fns.length fc))) (by kernel_rfl) ?_ (fun hHeld => ?_)
      · (exact HS _ ⟨_, hrl, aw1.drew⟩)
      iterate 3
        refine wpAnyH_nx (v := ?_) rfl rfl (by kernel_rfl) (by kernel_rfl) (by kernel_rfl) (fun _ _ _ h => h) (Or.inl ⟨by rfl, ?_⟩) (by assumption) ?_
        rotate_left
        · (intro w' hSw; (try dsimp only at hSw); go_simp <;> with_reducible rfl)
        (try simp only [Act.put, List.setIfInBounds_toArray, List.set_cons_zero, List.set_cons_succ])
      refine wpAnyH_ready (rs := [3]) (by kernel_rfl) (by simp) ?_
      refine AllReadyH.cons rfl (fun K hK => ?_) AllReadyH.nil
      go_simp; go_at_call 58; refine (allP _).mono ?_; rintro e w3 ⟨rfl, hb3⟩; go_wp2_with fail; have hs3 := hb3.size; have aw3 := AwW.below aw1.drew hb3; obtain ⟨sx3, hsx3⟩ := hat; obtain ⟨hka3, g0, g1, h0, h1⟩ := aw3.row.cells4 hsx3
      refine hK.out _ _ ?_ (fun hHeld => ?_)
      · (exact HS _ ⟨_, hrl, aw3⟩)
      clear hK K
      (try simp only [Act.put, List.setIfInBounds_toArray, List.set_cons_zero, List.set_cons_succ])
      refine wpAnyH_take (i := 4) (v := ?_) rfl (by kernel_rfl) (by kernel_rfl) (by kernel_rfl) (fun _ _ _ h => h) (Or.inl ⟨by rfl, ?_⟩) (by assumption) ?_
      rotate_left
      · (intro w' hSw; (try dsimp only at hSw); go_simp <;> with_reducible rfl)
      (try simp only [Act.put, List.setIfInBounds_toArray, List.set_cons_zero, List.set_cons_succ])
      refine wpAnyH_ready (rs := [5]) (by kernel_rfl) (by simp) ?_
      refine AllReadyH.cons rfl (fun K hK => ?_) AllReadyH.nil
      go_simp
      refine hK.out _ _ ?_ (fun hHeld => ?_)
      · (exact HS _ ⟨_, by simp [hrl], AwW.put aw3 hka3 Sp.all⟩)
      clear hK K
      (try simp only [Act.put, List.setIfInBounds_toArray, List.set_cons_zero, List.set_cons_succ])
      refine wpAnyH_done (by kernel_rfl) ?_ _
      have fin := aw3.put hka3 Sp.all
      go_wp2
      refine ret_of ?_ rfl
      refine ⟨_, by simp [results, Tryd.results29, go_sem] <;> rfl, by rw [hyes]; rfl, ⟨_, fin.row, by simp [hrl], fun _ h => by rw [hyes] at h; exact Option.some.inj h⟩, fin.gr⟩
end Go.Proofs.YtddobhneplfddaaDoor

namespace Go.Proofs.YtddobhneplfddaaDoor
set_option maxRecDepth 100000
open Go.RowKit
set_option linter.unusedSimpArgs false
set_option linter.unusedVariables false
set_option maxHeartbeats 4000000 in
theorem away_15_one_t (m : ModD) (f : FuncD) (frm  : Nat) (to a b c n : Int) (hf : frm < f.code.length) (hx : nthX f.code frm = ⟨15, a, b, c, n⟩) (hl : f.code.length * 40 ≤ 140737488351232) (g nr cp : Nat) (r : List Sp) (hr : r.length = nr) (hc : nr ≤ cp) (hcp : cp ≤ maxLen) (hone : (n == (frm : Int) + 1) = true) (hone' : (n != (frm : Int) + 1) = false) (hto : (to == n) = true) (w : World) (hI : InsAt w w.heap.size f.ca f.code) (hR : RowS w g cp r) :
    Calls Tryd.prog 29 #[m.val, f.val, .int .i64 frm, .int .i64 to, .slice (some ⟨g, 0, none⟩) nr cp] w (AwayOk g cp nr (some r) w) := by
  obtain ⟨cb, co, hca, hcb, hcc⟩ := hI (by omega)
  have x0 := hcc frm hf 0 (by omega)
  have x1 := hcc frm hf 1 (by omega)
  have x2 := hcc frm hf 2 (by omega)
  have x3 := hcc frm hf 3 (by omega)
  have x4 := hcc frm hf 4 (by omega)
  simp only [hx, insV, Nat.add_zero] at x0 x1 x2 x3 x4
  obtain ⟨nm, pa, pc, ps, rg, wd, ca, cc, cd⟩ := f
  simp only at hca hf hl hx ⊢
  subst hca
  have lg := hR.lt
  have hfr : ((frm : Nat) : Int) < (cd.length : Int) := by omega
  unfold maxLen at hcp
  have HR := Lib.hid hR
  clear hcc hx hR
  go_enter Tryd.func29, Tryd.ntmps29
  go_wp2
  all_goals
    have hR := HR.out
    refine ret_of ?_ rfl
    refine ⟨_, by simp [results, Tryd.results29, go_sem] <;> rfl, rfl, ⟨r, ?_, by simp [hr], fun _ h => Option.some.inj h⟩, ?_⟩
    · repeat (first | with_reducible exact hR | with_reducible refine RowS.drew ?_ | with_reducible refine RowS.drewN ?_ _ | with_reducible refine RowS.alloc ?_ _ | (with_reducible refine RowS.far ?_ ?_ _; rotate_left; (· first | (simp; done) | (simp; omega))))
    · repeat (first | with_reducible exact gwRefl _ _ | with_reducible refine gwPutG ?_ _ _ | (with_reducible refine gwPut ?_ ?_ _; rotate_left; (· first | (simp; done) | (simp; omega))) | with_reducible refine gwNew ?_ _ | with_reducible refine gwDrawn ?_ | with_reducible refine gwDrawnN ?_ _)
set_option maxHeartbeats 4000000 in
theorem away_15_one_f (m : ModD) (f : FuncD) (frm  : Nat) (to a b c n : Int) (hf : frm < f.code.length) (hx : nthX f.code frm = ⟨15, a, b, c, n⟩) (hl : f.code.length * 40 ≤ 140737488351232) (g nr cp : Nat) (r : List Sp) (hr : r.length = nr) (hc : nr ≤ cp) (hcp : cp ≤ maxLen) (hone : (n == (frm : Int) + 1) = true) (hone' : (n != (frm : Int) + 1) = false) (hto : (to == n) = false) (w : World) (hI : InsAt w w.heap.size f.ca f.code) (hR : RowS w g cp r) :
    Calls Tryd.prog 29 #[m.val, f.val, .int .i64 frm, .int .i64 to, .slice (some ⟨g, 0, none⟩) nr cp] w (AwayOk g cp nr (some r) w) := by
  obtain ⟨cb, co, hca, hcb, hcc⟩ := hI (by omega)
  have x0 := hcc frm hf 0 (by omega)
  have x1 := hcc frm hf 1 (by omega)
  have x2 := hcc frm hf 2 (by omega)
  have x3 := hcc frm hf 3 (by omega)
  have x4 := hcc frm hf 4 (by omega)
  simp only [hx, insV, Nat.add_zero] at x0 x1 x2 x3 x4
  obtain ⟨nm, pa, pc, ps, rg, wd, ca, cc, cd⟩ := f
  simp only at hca hf hl hx ⊢
  subst hca
  have lg := hR.lt
  have hfr : ((frm : Nat) : Int) < (cd.length : Int) := by omega
  unfold maxLen at hcp
  have HR := Lib.hid hR
  clear hcc hx hR
  go_enter Tryd.func29, Tryd.ntmps29
  go_wp2
  all_goals
    have hR := HR.out
    refine ret_of ?_ rfl
    refine ⟨_, by simp [results, Tryd.results29, go_sem] <;> rfl, rfl, ⟨r, ?_, by simp [hr], fun _ h => Option.some.inj h⟩, ?_⟩
    · repeat (first | with_reducible exact hR | with_reducible refine RowS.drew ?_ | with_reducible refine RowS.drewN ?_ _ | with_reducible refine RowS.alloc ?_ _ | (with_reducible refine RowS.far ?_ ?_ _; rotate_left; (· first | (simp; done) | (simp; omega))))
    · repeat (first | with_reducible exact gwRefl _ _ | with_reducible refine gwPutG ?_ _ _ | (with_reducible refine gwPut ?_ ?_ _; rotate_left; (· first | (simp; done) | (simp; omega))) | with_reducible refine gwNew ?_ _ | with_reducible refine gwDrawn ?_ | with_reducible refine gwDrawnN ?_ _)
set_option maxHeartbeats 4000000 in
theorem away_16_one_t (m : ModD) (f : FuncD) (frm  : Nat) (to a b c n : Int) (hf : frm < f.code.length) (hx : nthX f.code frm = ⟨16, a, b, c, n⟩) (hl : f.code.length * 40 ≤ 140737488351232) (g nr cp : Nat) (r : List Sp) (hr : r.length = nr) (hc : nr ≤ cp) (hcp : cp ≤ maxLen) (hone : (n == (frm : Int) + 1) = true) (hone' : (n != (frm : Int) + 1) = false) (hto : (to == n) = true) (w : World) (hI : InsAt w w.heap.size f.ca f.code) (hR : RowS w g cp r) :
    Calls Tryd.prog 29 #[m.val, f.val, .int .i64 frm, .int .i64 to, .slice (some ⟨g, 0, none⟩) nr cp] w (AwayOk g cp nr (some r) w) := by
  obtain ⟨cb, co, hca, hcb, hcc⟩ := hI (by omega)
  have x0 := hcc frm hf 0 (by omega)
  have x1 := hcc frm hf 1 (by omega)
  have x2 := hcc frm hf 2 (by omega)
  have x3 := hcc frm hf 3 (by omega)
  have x4 := hcc frm hf 4 (by omega)
  simp only [hx, insV, Nat.add_zero] at x0 x1 x2 x3 x4
  obtain ⟨nm, pa, pc, ps, rg, wd, ca, cc, cd⟩ := f
  simp only at hca hf hl hx ⊢
  subst hca
  have lg := hR.lt
  have hfr : ((frm : Nat) : Int) < (cd.length : Int) := by omega
  unfold maxLen at hcp
  have HR := Lib.hid hR
  clear hcc hx hR
  go_enter Tryd.func29, Tryd.ntmps29
  go_wp2
  all_goals
    have hR := HR.out
    refine ret_of ?_ rfl
    refine ⟨_, by simp [results, Tryd.results29, go_sem] <;> rfl, rfl, ⟨r, ?_, by simp [hr], fun _ h => Option.some.inj h⟩, ?_⟩
    · repeat (first | with_reducible exact hR | with_reducible refine RowS.drew ?_ | with_reducible refine RowS.drewN ?_ _ | with_reducible refine RowS.alloc ?_ _ | (with_reducible refine RowS.far ?_ ?_ _; rotate_left; (· first | (simp; done) | (simp; omega))))
    · repeat (first | with_reducible exact gwRefl _ _ | with_reducible refine gwPutG ?_ _ _ | (with_reducible refine gwPut ?_ ?_ _; rotate_left; (· first | (simp; done) | (simp; omega))) | with_reducible refine gwNew ?_ _ | with_reducible refine gwDrawn ?_ | with_reducible refine gwDrawnN ?_ _)
set_option maxHeartbeats 4000000 in
theorem away_16_one_f (m : ModD) (f : FuncD) (frm  : Nat) (to a b c n : Int) (hf : frm < f.code.length) (hx : nthX f.code frm = ⟨16, a, b, c, n⟩) (hl : f.code.length * 40 ≤ 140737488351232) (g nr cp : Nat) (r : List Sp) (hr : r.length = nr) (hc : nr ≤ cp) (hcp : cp ≤ maxLen) (hone : (n == (frm : Int) + 1) = true) (hone' : (n != (frm : Int) + 1) = false) (hto : (to == n) = false) (w : World) (hI : InsAt w w.heap.size f.ca f.code) (hR : RowS w g cp r) :
    Calls Tryd.prog 29 #[m.val, f.val, .int .i64 frm, .int .i64 to, .slice (some ⟨g, 0, none⟩) nr cp] w (AwayOk g cp nr (some r) w) := by
  obtain ⟨cb, co, hca, hcb, hcc⟩ := hI (by omega)
  have x0 := hcc frm hf 0 (by omega)
  have x1 := hcc frm hf 1 (by omega)
  have x2 := hcc frm hf 2 (by omega)
  have x3 := hcc frm hf 3 (by omega)
  have x4 := hcc frm hf 4 (by omega)
  simp only [hx, insV, Nat.add_zero] at x0 x1 x2 x3 x4
  obtain ⟨nm, pa, pc, ps, rg, wd, ca, cc, cd⟩ := f
  simp only at hca hf hl hx ⊢
  subst hca
  have lg := hR.lt
  have hfr : ((frm : Nat) : Int) < (cd.length : Int) := by omega
  unfold maxLen at hcp
  have HR := Lib.hid hR
  clear hcc hx hR
  go_enter Tryd.func29, Tryd.ntmps29
  go_wp2
  all_goals
    have hR := HR.out
    refine ret_of ?_ rfl
    refine ⟨_, by simp [results, Tryd.results29, go_sem] <;> rfl, rfl, ⟨r, ?_, by simp [hr], fun _ h => Option.some.inj h⟩, ?_⟩
    · repeat (first | with_reducible exact hR | with_reducible refine RowS.drew ?_ | with_reducible refine RowS.drewN ?_ _ | with_reducible refine RowS.alloc ?_ _ | (with_reducible refine RowS.far ?_ ?_ _; rotate_left; (· first | (simp; done) | (simp; omega))))
    · repeat (first | with_reducible exact gwRefl _ _ | with_reducible refine gwPutG ?_ _ _ | (with_reducible refine gwPut ?_ ?_ _; rotate_left; (· first | (simp; done) | (simp; omega))) | with_reducible refine gwNew ?_ _ | with_reducible refine gwDrawn ?_ | with_reducible refine gwDrawnN ?_ _)
set_option maxHeartbeats 4000000 in
theorem away_15_zero_t (m : ModD) (f : FuncD) (frm ka : Nat) (to b c n : Int) (hf : frm < f.code.length) (hx : nthX f.code frm = ⟨15, ((ka : Nat) : Int), b, c, n⟩) (hl : f.code.length * 40 ≤ 140737488351232) (g nr cp : Nat) (r : List Sp) (hr : r.length = nr) (hc : nr ≤ cp) (hcp : cp ≤ maxLen) (sa : Sp) (ha : r[ka]? = some sa) (hone : (n == (frm : Int) + 1) = false) (hone' : (n != (frm : Int) + 1) = true) (hmk : sa.meetOk ⟨0, 0⟩ = true) (hto : (to == n) = false) (w : World) (hI : InsAt w w.heap.size f.ca f.code) (hR : RowS w g cp r) :
    Calls Tryd.prog 29 #[m.val, f.val, .int .i64 frm, .int .i64 to, .slice (some ⟨g, 0, none⟩) nr cp] w (AwayOk g cp nr (some (r.set ka (sa.meet ⟨0, 0⟩))) w) := by
  obtain ⟨cb, co, hca, hcb, hcc⟩ := hI (by omega)
  have x0 := hcc frm hf 0 (by omega)
  have x1 := hcc frm hf 1 (by omega)
  have x2 := hcc frm hf 2 (by omega)
  have x3 := hcc frm hf 3 (by omega)
  have x4 := hcc frm hf 4 (by omega)
  simp only [hx, insV, Nat.add_zero] at x0 x1 x2 x3 x4
  obtain ⟨nm, pa, pc, ps, rg, wd, ca, cc, cd⟩ := f
  simp only at hca hf hl hx ⊢
  subst hca
  obtain ⟨hka, ya0, ya1, fa0, fa1⟩ := hR.cells4 ha
  have hna : ((ka : Nat) : Int) < (nr : Int) := by omega
  have lg := hR.lt
  have hfr : ((frm : Nat) : Int) < (cd.length : Int) := by omega
  unfold maxLen at hcp
  have HR := Lib.hid hR
  clear hcc hx hR
  go_enter Tryd.func29, Tryd.ntmps29
  go_wp2_with fail
  generalize hW : ((((w.alloc (.cells #[.slice m.ta m.ths.length m.tc, .slice m.fa m.funcs.length m.fc] 25)).alloc (.cells #[.string nm, .slice pa ps.length pc, .int .i64 rg, .int .i64 wd, .slice (some ⟨cb, co, none⟩) cd.length cc] 48)).alloc (.cells #[.slice (some ⟨g, 0, none⟩) nr cp] 26)).alloc (.cells #[.int .i64 15, .int .i64 ((ka : Nat) : Int), .int .i64 b, .int .i64 c, .int .i64 n] 65)) = W
  have aw : AwW w W g nr cp r ⟨15, ka, b, c, n⟩ wd (.slice m.fa m.funcs.length m.fc) := by
    rw [← hW]; exact AwW.new (x := ⟨15, ka, b, c, n⟩) HR.out _ _ _ _ _ _ _ _ _
  clear hW x0 x1 x2 x3 x4
  have hsz := aw.size
  go_at_call 53
  refine (meetAw ⟨0, 0⟩ sa ka g nr cp r hr (by unfold maxLen; omega) hc ha w _ _ _ _ aw).mono ?_
  rintro e w2 ⟨rfl, aw1⟩
  rw [hmk]
  go_wp2
  refine ret_of ?_ rfl
  refine ⟨_, by simp [results, Tryd.results29, go_sem] <;> rfl, rfl, ⟨_, aw1.row, by simp [hr], fun _ h => Option.some.inj h⟩, aw1.gr⟩
set_option maxHeartbeats 4000000 in
theorem away_15_zero_f (m : ModD) (f : FuncD) (frm ka : Nat) (to b c n : Int) (hf : frm < f.code.length) (hx : nthX f.code frm = ⟨15, ((ka : Nat) : Int), b, c, n⟩) (hl : f.code.length * 40 ≤ 140737488351232) (g nr cp : Nat) (r : List Sp) (hr : r.length = nr) (hc : nr ≤ cp) (hcp : cp ≤ maxLen) (sa : Sp) (ha : r[ka]? = some sa) (hone : (n == (frm : Int) + 1) = false) (hone' : (n != (frm : Int) + 1) = true) (hmk : sa.meetOk ⟨0, 0⟩ = false) (hto : (to == n) = false) (w : World) (hI : InsAt w w.heap.size f.ca f.code) (hR : RowS w g cp r) :
    Calls Tryd.prog 29 #[m.val, f.val, .int .i64 frm, .int .i64 to, .slice (some ⟨g, 0, none⟩) nr cp] w (AwayOk g cp nr none w) := by
  obtain ⟨cb, co, hca, hcb, hcc⟩ := hI (by omega)
  have x0 := hcc frm hf 0 (by omega)
  have x1 := hcc frm hf 1 (by omega)
  have x2 := hcc frm hf 2 (by omega)
  have x3 := hcc frm hf 3 (by omega)
  have x4 := hcc frm hf 4 (by omega)
  simp only [hx, insV, Nat.add_zero] at x0 x1 x2 x3 x4
  obtain ⟨nm, pa, pc, ps, rg, wd, ca, cc, cd⟩ := f
  simp only at hca hf hl hx ⊢
  subst hca
  obtain ⟨hka, ya0, ya1, fa0, fa1⟩ := hR.cells4 ha
  have hna : ((ka : Nat) : Int) < (nr : Int) := by omega
  have lg := hR.lt
  have hfr : ((frm : Nat) : Int) < (cd.length : Int) := by omega
  unfold maxLen at hcp
  have HR := Lib.hid hR
  clear hcc hx hR
  go_enter Tryd.func29, Tryd.ntmps29
  go_wp2_with fail
  generalize hW : ((((w.alloc (.cells #[.slice m.ta m.ths.length m.tc, .slice m.fa m.funcs.length m.fc] 25)).alloc (.cells #[.string nm, .slice pa ps.length pc, .int .i64 rg, .int .i64 wd, .slice (some ⟨cb, co, none⟩) cd.length cc] 48)).alloc (.cells #[.slice (some ⟨g, 0, none⟩) nr cp] 26)).alloc (.cells #[.int .i64 15, .int .i64 ((ka : Nat) : Int), .int .i64 b, .int .i64 c, .int .i64 n] 65)) = W
  have aw : AwW w W g nr cp r ⟨15, ka, b, c, n⟩ wd (.slice m.fa m.funcs.length m.fc) := by
    rw [← hW]; exact AwW.new (x := ⟨15, ka, b, c, n⟩) HR.out _ _ _ _ _ _ _ _ _
  clear hW x0 x1 x2 x3 x4
  have hsz := aw.size
  go_at_call 53
  refine (meetAw ⟨0, 0⟩ sa ka g nr cp r hr (by unfold maxLen; omega) hc ha w _ _ _ _ aw).mono ?_
  rintro e w2 ⟨rfl, aw1⟩
  rw [hmk]
  go_wp2
  refine ret_of ?_ rfl
  refine ⟨_, by simp [results, Tryd.results29, go_sem] <;> rfl, rfl, ⟨_, aw1.row, by simp [hr], fun _ h => by cases h⟩, aw1.gr⟩
set_option maxHeartbeats 4000000 in
theorem away_16_zero_t (m : ModD) (f : FuncD) (frm ka : Nat) (to b c n : Int) (hf : frm < f.code.length) (hx : nthX f.code frm = ⟨16, ((ka : Nat) : Int), b, c, n⟩) (hl : f.code.length * 40 ≤ 140737488351232) (g nr cp : Nat) (r : List Sp) (hr : r.length = nr) (hc : nr ≤ cp) (hcp : cp ≤ maxLen) (sa : Sp) (ha : r[ka]? = some sa) (hone : (n == (frm : Int) + 1) = false) (hone' : (n != (frm : Int) + 1) = true) (hmk : sa.meetOk ⟨0, 0⟩ = true) (hto : (to == n) = true) (w : World) (hI : InsAt w w.heap.size f.ca f.code) (hR : RowS w g cp r) :
    Calls Tryd.prog 29 #[m.val, f.val, .int .i64 frm, .int .i64 to, .slice (some ⟨g, 0, none⟩) nr cp] w (AwayOk g cp nr (some (r.set ka (sa.meet ⟨0, 0⟩))) w) := by
  obtain ⟨cb, co, hca, hcb, hcc⟩ := hI (by omega)
  have x0 := hcc frm hf 0 (by omega)
  have x1 := hcc frm hf 1 (by omega)
  have x2 := hcc frm hf 2 (by omega)
  have x3 := hcc frm hf 3 (by omega)
  have x4 := hcc frm hf 4 (by omega)
  simp only [hx, insV, Nat.add_zero] at x0 x1 x2 x3 x4
  obtain ⟨nm, pa, pc, ps, rg, wd, ca, cc, cd⟩ := f
  simp only at hca hf hl hx ⊢
  subst hca
  obtain ⟨hka, ya0, ya1, fa0, fa1⟩ := hR.cells4 ha
  have hna : ((ka : Nat) : Int) < (nr : Int) := by omega
  have lg := hR.lt
  have hfr : ((frm : Nat) : Int) < (cd.length : Int) := by omega
  unfold maxLen at hcp
  have HR := Lib.hid hR
  clear hcc hx hR
  go_enter Tryd.func29, Tryd.ntmps29
  go_wp2_with fail
  generalize hW : ((((w.alloc (.cells #[.slice m.ta m.ths.length m.tc, .slice m.fa m.funcs.length m.fc] 25)).alloc (.cells #[.string nm, .slice pa ps.length pc, .int .i64 rg, .int .i64 wd, .slice (some ⟨cb, co, none⟩) cd.length cc] 48)).alloc (.cells #[.slice (some ⟨g, 0, none⟩) nr cp] 26)).alloc (.cells #[.int .i64 16, .int .i64 ((ka : Nat) : Int), .int .i64 b, .int .i64 c, .int .i64 n] 65)) = W
  have aw : AwW w W g nr cp r ⟨16, ka, b, c, n⟩ wd (.slice m.fa m.funcs.length m.fc) := by
    rw [← hW]; exact AwW.new (x := ⟨16, ka, b, c, n⟩) HR.out _ _ _ _ _ _ _ _ _
  clear hW x0 x1 x2 x3 x4
  have hsz := aw.size
  go_at_call 53
  refine (meetAw ⟨0, 0⟩ sa ka g nr cp r hr (by unfold maxLen; omega) hc ha w _ _ _ _ aw).mono ?_
  rintro e w2 ⟨rfl, aw1⟩
  rw [hmk]
  go_wp2
  refine ret_of ?_ rfl
  refine ⟨_, by simp [results, Tryd.results29, go_sem] <;> rfl, rfl, ⟨_, aw1.row, by simp [hr], fun _ h => Option.some.inj h⟩, aw1.gr⟩
set_option maxHeartbeats 4000000 in
theorem away_16_zero_f (m : ModD) (f : FuncD) (frm ka : Nat) (to b c n : Int) (hf : frm < f.code.length) (hx : nthX f.code frm = ⟨16, ((ka : Nat) : Int), b, c, n⟩) (hl : f.code.length * 40 ≤ 140737488351232) (g nr cp : Nat) (r : List Sp) (hr : r.length = nr) (hc : nr ≤ cp) (hcp : cp ≤ maxLen) (sa : Sp) (ha : r[ka]? = some sa) (hone : (n == (frm : Int) + 1) = false) (hone' : (n != (frm : Int) + 1) = true) (hmk : sa.meetOk ⟨0, 0⟩ = false) (hto : (to == n) = true) (w : World) (hI : InsAt w w.heap.size f.ca f.code) (hR : RowS w g cp r) :
    Calls Tryd.prog 29 #[m.val, f.val, .int .i64 frm, .int .i64 to, .slice (some ⟨g, 0, none⟩) nr cp] w (AwayOk g cp nr none w) := by
  obtain ⟨cb, co, hca, hcb, hcc⟩ := hI (by omega)
  have x0 := hcc frm hf 0 (by omega)
  have x1 := hcc frm hf 1 (by omega)
  have x2 := hcc frm hf 2 (by omega)
  have x3 := hcc frm hf 3 (by omega)
  have x4 := hcc frm hf 4 (by omega)
  simp only [hx, insV, Nat.add_zero] at x0 x1 x2 x3 x4
  obtain ⟨nm, pa, pc, ps, rg, wd, ca, cc, cd⟩ := f
  simp only at hca hf hl hx ⊢
  subst hca
  obtain ⟨hka, ya0, ya1, fa0, fa1⟩ := hR.cells4 ha
  have hna : ((ka : Nat) : Int) < (nr : Int) := by omega
  have lg := hR.lt
  have hfr : ((frm : Nat) : Int) < (cd.length : Int) := by omega
  unfold maxLen at hcp
  have HR := Lib.hid hR
  clear hcc hx hR
  go_enter Tryd.func29, Tryd.ntmps29
  go_wp2_with fail
  generalize hW : ((((w.alloc (.cells #[.slice m.ta m.ths.length m.tc, .slice m.fa m.funcs.length m.fc] 25)).alloc (.cells #[.string nm, .slice pa ps.length pc, .int .i64 rg, .int .i64 wd, .slice (some ⟨cb, co, none⟩) cd.length cc] 48)).alloc (.cells #[.slice (some ⟨g, 0, none⟩) nr cp] 26)).alloc (.cells #[.int .i64 16, .int .i64 ((ka : Nat) : Int), .int .i64 b, .int .i64 c, .int .i64 n] 65)) = W
  have aw : AwW w W g nr cp r ⟨16, ka, b, c, n⟩ wd (.slice m.fa m.funcs.length m.fc) := by
    rw [← hW]; exact AwW.new (x := ⟨16, ka, b, c, n⟩) HR.out _ _ _ _ _ _ _ _ _
  clear hW x0 x1 x2 x3 x4
  have hsz := aw.size
  go_at_call 53
  refine (meetAw ⟨0, 0⟩ sa ka g nr cp r hr (by unfold maxLen; omega) hc ha w _ _ _ _ aw).mono ?_
  rintro e w2 ⟨rfl, aw1⟩
  rw [hmk]
  go_wp2
  refine ret_of ?_ rfl
  refine ⟨_, by simp [results, Tryd.results29, go_sem] <;> rfl, rfl, ⟨_, aw1.row, by simp [hr], fun _ h => by cases h⟩, aw1.gr⟩
end Go.Proofs.YtddobhneplfddaaDoor

namespace Go.Proofs.YtddobhneplfddaaDoor
set_option maxRecDepth 100000
open Go.RowKit
set_option linter.unusedSimpArgs false
set_option linter.unusedVariables false
set_option maxHeartbeats 4000000 in
theorem away_12_fft (m : ModD) (f : FuncD) (frm kb : Nat) (to a c n : Int) (hf : frm < f.code.length) (hx : nthX f.code frm = ⟨12, a, ((kb : Nat) : Int), c, n⟩) (hl : f.code.length * 40 ≤ 140737488351232) (g nr cp : Nat) (r : List Sp) (hr : r.length = nr) (hc : nr ≤ cp) (hcp : cp ≤ maxLen) (sb : Sp) (hb : r[kb]? = some sb) (hn : In64 n) (hm : 0 ≤ f.words ∧ f.words ≤ 4096) (hwk : wordsOk n f.words = false) (hto : (to == n) = true) (w : World) (hI : InsAt w w.heap.size f.ca f.code) (hR : RowS w g cp r) :
    Calls Tryd.prog 29 #[m.val, f.val, .int .i64 frm, .int .i64 to, .slice (some ⟨g, 0, none⟩) nr cp] w (AwayOk g cp nr none w) := by
  obtain ⟨cb, co, hca, hcb, hcc⟩ := hI (by omega)
  have x0 := hcc frm hf 0 (by omega)
  have x1 := hcc frm hf 1 (by omega)
  have x2 := hcc frm hf 2 (by omega)
  have x3 := hcc frm hf 3 (by omega)
  have x4 := hcc frm hf 4 (by omega)
  simp only [hx, insV, Nat.add_zero] at x0 x1 x2 x3 x4
  obtain ⟨nm, pa, pc, ps, rg, wd, ca, cc, cd⟩ := f
  simp only at hca hf hl hx hm hwk ⊢
  subst hca
  obtain ⟨hkb, yb0, yb1, fb0, fb1⟩ := hR.cells4 hb
  have hnb : ((kb : Nat) : Int) < (nr : Int) := by omega
  have lg := hR.lt
  have hfr : ((frm : Nat) : Int) < (cd.length : Int) := by omega
  unfold maxLen at hcp
  have HR := Lib.hid hR
  clear hcc hx hR
  go_enter Tryd.func29, Tryd.ntmps29
  go_wp2_with fail
  generalize hW : ((((w.alloc (.cells #[.slice m.ta m.ths.length m.tc, .slice m.fa m.funcs.length m.fc] 25)).alloc (.cells #[.string nm, .slice pa ps.length pc, .int .i64 rg, .int .i64 wd, .slice (some ⟨cb, co, none⟩) cd.length cc] 48)).alloc (.cells #[.slice (some ⟨g, 0, none⟩) nr cp] 26)).alloc (.cells #[.int .i64 12, .int .i64 a, .int .i64 ((kb : Nat) : Int), .int .i64 c, .int .i64 n] 65)) = W
  have aw : AwW w W g nr cp r ⟨12, a, kb, c, n⟩ wd (.slice m.fa m.funcs.length m.fc) := by
    rw [← hW]; exact AwW.new (x := ⟨12, a, kb, c, n⟩) HR.out _ _ _ _ _ _ _ _ _
  clear hW x0 x1 x2 x3 x4
  have hsz := aw.size
  go_at_call 57
  refine (wordsP n wd hn hm _).mono ?_
  rintro e w1 ⟨⟨a1, rfl, ha1⟩, hb1⟩
  have aw1 := AwW.alloc (AwW.below aw hb1) (.cells #[.int .i64 a1.lo, .int .i64 a1.hi] 34)
  clear ha1
  rw [hwk]
  go_wp2
  refine ret_of ?_ rfl
  refine ⟨_, by simp [results, Tryd.results29, go_sem] <;> rfl, rfl, ⟨_, aw1.row, by simp [hr], fun _ h => by cases h⟩, aw1.gr⟩
set_option maxHeartbeats 4000000 in
theorem away_12_fff (m : ModD) (f : FuncD) (frm kb : Nat) (to a c n : Int) (hf : frm < f.code.length) (hx : nthX f.code frm = ⟨12, a, ((kb : Nat) : Int), c, n⟩) (hl : f.code.length * 40 ≤ 140737488351232) (g nr cp : Nat) (r : List Sp) (hr : r.length = nr) (hc : nr ≤ cp) (hcp : cp ≤ maxLen) (sb : Sp) (hb : r[kb]? = some sb) (hn : In64 n) (hm : 0 ≤ f.words ∧ f.words ≤ 4096) (hwk : wordsOk n f.words = false) (hto : (to == n) = false) (w : World) (hI : InsAt w w.heap.size f.ca f.code) (hR : RowS w g cp r) :
    Calls Tryd.prog 29 #[m.val, f.val, .int .i64 frm, .int .i64 to, .slice (some ⟨g, 0, none⟩) nr cp] w (AwayOk g cp nr none w) := by
  obtain ⟨cb, co, hca, hcb, hcc⟩ := hI (by omega)
  have x0 := hcc frm hf 0 (by omega)
  have x1 := hcc frm hf 1 (by omega)
  have x2 := hcc frm hf 2 (by omega)
  have x3 := hcc frm hf 3 (by omega)
  have x4 := hcc frm hf 4 (by omega)
  simp only [hx, insV, Nat.add_zero] at x0 x1 x2 x3 x4
  obtain ⟨nm, pa, pc, ps, rg, wd, ca, cc, cd⟩ := f
  simp only at hca hf hl hx hm hwk ⊢
  subst hca
  obtain ⟨hkb, yb0, yb1, fb0, fb1⟩ := hR.cells4 hb
  have hnb : ((kb : Nat) : Int) < (nr : Int) := by omega
  have lg := hR.lt
  have hfr : ((frm : Nat) : Int) < (cd.length : Int) := by omega
  unfold maxLen at hcp
  have HR := Lib.hid hR
  clear hcc hx hR
  go_enter Tryd.func29, Tryd.ntmps29
  go_wp2_with fail
  generalize hW : ((((w.alloc (.cells #[.slice m.ta m.ths.length m.tc, .slice m.fa m.funcs.length m.fc] 25)).alloc (.cells #[.string nm, .slice pa ps.length pc, .int .i64 rg, .int .i64 wd, .slice (some ⟨cb, co, none⟩) cd.length cc] 48)).alloc (.cells #[.slice (some ⟨g, 0, none⟩) nr cp] 26)).alloc (.cells #[.int .i64 12, .int .i64 a, .int .i64 ((kb : Nat) : Int), .int .i64 c, .int .i64 n] 65)) = W
  have aw : AwW w W g nr cp r ⟨12, a, kb, c, n⟩ wd (.slice m.fa m.funcs.length m.fc) := by
    rw [← hW]; exact AwW.new (x := ⟨12, a, kb, c, n⟩) HR.out _ _ _ _ _ _ _ _ _
  clear hW x0 x1 x2 x3 x4
  have hsz := aw.size
  go_at_call 57
  refine (wordsP n wd hn hm _).mono ?_
  rintro e w1 ⟨⟨a1, rfl, ha1⟩, hb1⟩
  have aw1 := AwW.alloc (AwW.below aw hb1) (.cells #[.int .i64 a1.lo, .int .i64 a1.hi] 34)
  clear ha1
  rw [hwk]
  go_wp2
  refine ret_of ?_ rfl
  refine ⟨_, by simp [results, Tryd.results29, go_sem] <;> rfl, rfl, ⟨_, aw1.row, by simp [hr], fun _ h => by cases h⟩, aw1.gr⟩
set_option maxHeartbeats 4000000 in
theorem away_12_tft (m : ModD) (f : FuncD) (frm kb : Nat) (to a c n : Int) (hf : frm < f.code.length) (hx : nthX f.code frm = ⟨12, a, ((kb : Nat) : Int), c, n⟩) (hl : f.code.length * 40 ≤ 140737488351232) (g nr cp : Nat) (r : List Sp) (hr : r.length = nr) (hc : nr ≤ cp) (hcp : cp ≤ maxLen) (sb : Sp) (hb : r[kb]? = some sb) (hn : In64 n) (hm : 0 ≤ f.words ∧ f.words ≤ 4096) (hwk : wordsOk n f.words = true) (hmk : sb.meetOk (wordsS n f.words) = false) (hto : (to == n) = true) (w : World) (hI : InsAt w w.heap.size f.ca f.code) (hR : RowS w g cp r) :
    Calls Tryd.prog 29 #[m.val, f.val, .int .i64 frm, .int .i64 to, .slice (some ⟨g, 0, none⟩) nr cp] w (AwayOk g cp nr none w) := by
  obtain ⟨cb, co, hca, hcb, hcc⟩ := hI (by omega)
  have x0 := hcc frm hf 0 (by omega)
  have x1 := hcc frm hf 1 (by omega)
  have x2 := hcc frm hf 2 (by omega)
  have x3 := hcc frm hf 3 (by omega)
  have x4 := hcc frm hf 4 (by omega)
  simp only [hx, insV, Nat.add_zero] at x0 x1 x2 x3 x4
  obtain ⟨nm, pa, pc, ps, rg, wd, ca, cc, cd⟩ := f
  simp only at hca hf hl hx hm hwk ⊢
  simp only at hmk
  subst hca
  obtain ⟨hkb, yb0, yb1, fb0, fb1⟩ := hR.cells4 hb
  have hnb : ((kb : Nat) : Int) < (nr : Int) := by omega
  have lg := hR.lt
  have hfr : ((frm : Nat) : Int) < (cd.length : Int) := by omega
  unfold maxLen at hcp
  have HR := Lib.hid hR
  clear hcc hx hR
  go_enter Tryd.func29, Tryd.ntmps29
  go_wp2_with fail
  generalize hW : ((((w.alloc (.cells #[.slice m.ta m.ths.length m.tc, .slice m.fa m.funcs.length m.fc] 25)).alloc (.cells #[.string nm, .slice pa ps.length pc, .int .i64 rg, .int .i64 wd, .slice (some ⟨cb, co, none⟩) cd.length cc] 48)).alloc (.cells #[.slice (some ⟨g, 0, none⟩) nr cp] 26)).alloc (.cells #[.int .i64 12, .int .i64 a, .int .i64 ((kb : Nat) : Int), .int .i64 c, .int .i64 n] 65)) = W
  have aw : AwW w W g nr cp r ⟨12, a, kb, c, n⟩ wd (.slice m.fa m.funcs.length m.fc) := by
    rw [← hW]; exact AwW.new (x := ⟨12, a, kb, c, n⟩) HR.out _ _ _ _ _ _ _ _ _
  clear hW x0 x1 x2 x3 x4
  have hsz := aw.size
  go_at_call 57
  refine (wordsP n wd hn hm _).mono ?_
  rintro e w1 ⟨⟨a1, rfl, ha1⟩, hb1⟩
  rw [hwk] at ha1 ⊢
  obtain rfl := ha1 rfl
  clear ha1
  have aw1 := AwW.alloc (AwW.below aw hb1) (.cells #[.int .i64 (wordsS n wd).lo, .int .i64 (wordsS n wd).hi] 34)
  have f2 := aw1.x2
  have f0 := aw1.x0
  clear hb1
  go_wp2_with fail
  go_at_call 53
  refine (meetAw (wordsS n wd) sb kb g nr cp r hr (by unfold maxLen; omega) hc hb w _ _ _ _ aw1).mono ?_
  rintro e w2 ⟨rfl, aw2⟩
  rw [hmk]
  have e0 := aw2.x0
  have e1 := aw2.x1
  have eb := aw2.rb
  clear aw aw1 f0 f2
  go_wp2
  refine ret_of ?_ rfl
  refine ⟨_, by simp [results, Tryd.results29, go_sem] <;> rfl, rfl, ⟨_, aw2.row, by simp [hr], fun _ h => by cases h⟩, aw2.gr⟩
set_option maxHeartbeats 4000000 in
theorem away_12_tff (m : ModD) (f : FuncD) (frm kb : Nat) (to a c n : Int) (hf : frm < f.code.length) (hx : nthX f.code frm = ⟨12, a, ((kb : Nat) : Int), c, n⟩) (hl : f.code.length * 40 ≤ 140737488351232) (g nr cp : Nat) (r : List Sp) (hr : r.length = nr) (hc : nr ≤ cp) (hcp : cp ≤ maxLen) (sb : Sp) (hb : r[kb]? = some sb) (hn : In64 n) (hm : 0 ≤ f.words ∧ f.words ≤ 4096) (hwk : wordsOk n f.words = true) (hmk : sb.meetOk (wordsS n f.words) = false) (hto : (to == n) = false) (w : World) (hI : InsAt w w.heap.size f.ca f.code) (hR : RowS w g cp r) :
    Calls Tryd.prog 29 #[m.val, f.val, .int .i64 frm, .int .i64 to, .slice (some ⟨g, 0, none⟩) nr cp] w (AwayOk g cp nr none w) := by
  obtain ⟨cb, co, hca, hcb, hcc⟩ := hI (by omega)
  have x0 := hcc frm hf 0 (by omega)
  have x1 := hcc frm hf 1 (by omega)
  have x2 := hcc frm hf 2 (by omega)
  have x3 := hcc frm hf 3 (by omega)
  have x4 := hcc frm hf 4 (by omega)
  simp only [hx, insV, Nat.add_zero] at x0 x1 x2 x3 x4
  obtain ⟨nm, pa, pc, ps, rg, wd, ca, cc, cd⟩ := f
  simp only at hca hf hl hx hm hwk ⊢
  simp only at hmk
  subst hca
  obtain ⟨hkb, yb0, yb1, fb0, fb1⟩ := hR.cells4 hb
  have hnb : ((kb : Nat) : Int) < (nr : Int) := by omega
  have lg := hR.lt
  have hfr : ((frm : Nat) : Int) < (cd.length : Int) := by omega
  unfold maxLen at hcp
  have HR := Lib.hid hR
  clear hcc hx hR
  go_enter Tryd.func29, Tryd.ntmps29
  go_wp2_with fail
  generalize hW : ((((w.alloc (.cells #[.slice m.ta m.ths.length m.tc, .slice m.fa m.funcs.length m.fc] 25)).alloc (.cells #[.string nm, .slice pa ps.length pc, .int .i64 rg, .int .i64 wd, .slice (some ⟨cb, co, none⟩) cd.length cc] 48)).alloc (.cells #[.slice (some ⟨g, 0, none⟩) nr cp] 26)).alloc (.cells #[.int .i64 12, .int .i64 a, .int .i64 ((kb : Nat) : Int), .int .i64 c, .int .i64 n] 65)) = W
  have aw : AwW w W g nr cp r ⟨12, a, kb, c, n⟩ wd (.slice m.fa m.funcs.length m.fc) := by
    rw [← hW]; exact AwW.new (x := ⟨12, a, kb, c, n⟩) HR.out _ _ _ _ _ _ _ _ _
  clear hW x0 x1 x2 x3 x4
  have hsz := aw.size
  go_at_call 57
  refine (wordsP n wd hn hm _).mono ?_
  rintro e w1 ⟨⟨a1, rfl, ha1⟩, hb1⟩
  rw [hwk] at ha1 ⊢
  obtain rfl := ha1 rfl
  clear ha1
  have aw1 := AwW.alloc (AwW.below aw hb1) (.cells #[.int .i64 (wordsS n wd).lo, .int .i64 (wordsS n wd).hi] 34)
  have f2 := aw1.x2
  have f0 := aw1.x0
  clear hb1
  go_wp2_with fail
  go_at_call 53
  refine (meetAw (wordsS n wd) sb kb g nr cp r hr (by unfold maxLen; omega) hc hb w _ _ _ _ aw1).mono ?_
  rintro e w2 ⟨rfl, aw2⟩
  rw [hmk]
  have e0 := aw2.x0
  have e1 := aw2.x1
  have eb := aw2.rb
  clear aw aw1 f0 f2
  go_wp2
  refine ret_of ?_ rfl
  refine ⟨_, by simp [results, Tryd.results29, go_sem] <;> rfl, rfl, ⟨_, aw2.row, by simp [hr], fun _ h => by cases h⟩, aw2.gr⟩
set_option maxHeartbeats 4000000 in
theorem away_12_ttt (m : ModD) (f : FuncD) (frm kb : Nat) (to a c n : Int) (hf : frm < f.code.length) (hx : nthX f.code frm = ⟨12, a, ((kb : Nat) : Int), c, n⟩) (hl : f.code.length * 40 ≤ 140737488351232) (g nr cp : Nat) (r : List Sp) (hr : r.length = nr) (hc : nr ≤ cp) (hcp : cp ≤ maxLen) (sb : Sp) (hb : r[kb]? = some sb) (hn : In64 n) (hm : 0 ≤ f.words ∧ f.words ≤ 4096) (hwk : wordsOk n f.words = true) (hmk : sb.meetOk (wordsS n f.words) = true) (hto : (to == n) = true) (w : World) (hI : InsAt w w.heap.size f.ca f.code) (hR : RowS w g cp r) :
    Calls Tryd.prog 29 #[m.val, f.val, .int .i64 frm, .int .i64 to, .slice (some ⟨g, 0, none⟩) nr cp] w (AwayOk g cp nr (some (r.set kb (sb.meet (wordsS n f.words)))) w) := by
  obtain ⟨cb, co, hca, hcb, hcc⟩ := hI (by omega)
  have x0 := hcc frm hf 0 (by omega)
  have x1 := hcc frm hf 1 (by omega)
  have x2 := hcc frm hf 2 (by omega)
  have x3 := hcc frm hf 3 (by omega)
  have x4 := hcc frm hf 4 (by omega)
  simp only [hx, insV, Nat.add_zero] at x0 x1 x2 x3 x4
  obtain ⟨nm, pa, pc, ps, rg, wd, ca, cc, cd⟩ := f
  simp only at hca hf hl hx hm hwk ⊢
  simp only at hmk
  subst hca
  obtain ⟨hkb, yb0, yb1, fb0, fb1⟩ := hR.cells4 hb
  have hnb : ((kb : Nat) : Int) < (nr : Int) := by omega
  have lg := hR.lt
  have hfr : ((frm : Nat) : Int) < (cd.length : Int) := by omega
  unfold maxLen at hcp
  have HR := Lib.hid hR
  clear hcc hx hR
  go_enter Tryd.func29, Tryd.ntmps29
  go_wp2_with fail
  generalize hW : ((((w.alloc (.cells #[.slice m.ta m.ths.length m.tc, .slice m.fa m.funcs.length m.fc] 25)).alloc (.cells #[.string nm, .slice pa ps.length pc, .int .i64 rg, .int .i64 wd, .slice (some ⟨cb, co, none⟩) cd.length cc] 48)).alloc (.cells #[.slice (some ⟨g, 0, none⟩) nr cp] 26)).alloc (.cells #[.int .i64 12, .int .i64 a, .int .i64 ((kb : Nat) : Int), .int .i64 c, .int .i64 n] 65)) = W
  have aw : AwW w W g nr cp r ⟨12, a, kb, c, n⟩ wd (.slice m.fa m.funcs.length m.fc) := by
    rw [← hW]; exact AwW.new (x := ⟨12, a, kb, c, n⟩) HR.out _ _ _ _ _ _ _ _ _
  clear hW x0 x1 x2 x3 x4
  have hsz := aw.size
  go_at_call 57
  refine (wordsP n wd hn hm _).mono ?_
  rintro e w1 ⟨⟨a1, rfl, ha1⟩, hb1⟩
  rw [hwk] at ha1 ⊢
  obtain rfl := ha1 rfl
  clear ha1
  have aw1 := AwW.alloc (AwW.below aw hb1) (.cells #[.int .i64 (wordsS n wd).lo, .int .i64 (wordsS n wd).hi] 34)
  have f2 := aw1.x2
  have f0 := aw1.x0
  clear hb1
  go_wp2_with fail
  go_at_call 53
  refine (meetAw (wordsS n wd) sb kb g nr cp r hr (by unfold maxLen; omega) hc hb w _ _ _ _ aw1).mono ?_
  rintro e w2 ⟨rfl, aw2⟩
  rw [hmk]
  have e0 := aw2.x0
  have e1 := aw2.x1
  have eb := aw2.rb
  clear aw aw1 f0 f2
  go_wp2
  refine ret_of ?_ rfl
  refine ⟨_, by simp [results, Tryd.results29, go_sem] <;> rfl, rfl, ⟨_, aw2.row, by simp [hr], fun _ h => Option.some.inj h⟩, aw2.gr⟩
set_option maxHeartbeats 4000000 in
theorem away_12_ttf (m : ModD) (f : FuncD) (frm kb : Nat) (to a c n : Int) (hf : frm < f.code.length) (hx : nthX f.code frm = ⟨12, a, ((kb : Nat) : Int), c, n⟩) (hl : f.code.length * 40 ≤ 140737488351232) (g nr cp : Nat) (r : List Sp) (hr : r.length = nr) (hc : nr ≤ cp) (hcp : cp ≤ maxLen) (sb : Sp) (hb : r[kb]? = some sb) (hn : In64 n) (hm : 0 ≤ f.words ∧ f.words ≤ 4096) (hwk : wordsOk n f.words = true) (hmk : sb.meetOk (wordsS n f.words) = true) (hto : (to == n) = false) (w : World) (hI : InsAt w w.heap.size f.ca f.code) (hR : RowS w g cp r) :
    Calls Tryd.prog 29 #[m.val, f.val, .int .i64 frm, .int .i64 to, .slice (some ⟨g, 0, none⟩) nr cp] w (AwayOk g cp nr (some (r.set kb (sb.meet (wordsS n f.words)))) w) := by
  obtain ⟨cb, co, hca, hcb, hcc⟩ := hI (by omega)
  have x0 := hcc frm hf 0 (by omega)
  have x1 := hcc frm hf 1 (by omega)
  have x2 := hcc frm hf 2 (by omega)
  have x3 := hcc frm hf 3 (by omega)
  have x4 := hcc frm hf 4 (by omega)
  simp only [hx, insV, Nat.add_zero] at x0 x1 x2 x3 x4
  obtain ⟨nm, pa, pc, ps, rg, wd, ca, cc, cd⟩ := f
  simp only at hca hf hl hx hm hwk ⊢
  simp only at hmk
  subst hca
  obtain ⟨hkb, yb0, yb1, fb0, fb1⟩ := hR.cells4 hb
  have hnb : ((kb : Nat) : Int) < (nr : Int) := by omega
  have lg := hR.lt
  have hfr : ((frm : Nat) : Int) < (cd.length : Int) := by omega
  unfold maxLen at hcp
  have HR := Lib.hid hR
  clear hcc hx hR
  go_enter Tryd.func29, Tryd.ntmps29
  go_wp2_with fail
  generalize hW : ((((w.alloc (.cells #[.slice m.ta m.ths.length m.tc, .slice m.fa m.funcs.length m.fc] 25)).alloc (.cells #[.string nm, .slice pa ps.length pc, .int .i64 rg, .int .i64 wd, .slice (some ⟨cb, co, none⟩) cd.length cc] 48)).alloc (.cells #[.slice (some ⟨g, 0, none⟩) nr cp] 26)).alloc (.cells #[.int .i64 12, .int .i64 a, .int .i64 ((kb : Nat) : Int), .int .i64 c, .int .i64 n] 65)) = W
  have aw : AwW w W g nr cp r ⟨12, a, kb, c, n⟩ wd (.slice m.fa m.funcs.length m.fc) := by
    rw [← hW]; exact AwW.new (x := ⟨12, a, kb, c, n⟩) HR.out _ _ _ _ _ _ _ _ _
  clear hW x0 x1 x2 x3 x4
  have hsz := aw.size
  go_at_call 57
  refine (wordsP n wd hn hm _).mono ?_
  rintro e w1 ⟨⟨a1, rfl, ha1⟩, hb1⟩
  rw [hwk] at ha1 ⊢
  obtain rfl := ha1 rfl
  clear ha1
  have aw1 := AwW.alloc (AwW.below aw hb1) (.cells #[.int .i64 (wordsS n wd).lo, .int .i64 (wordsS n wd).hi] 34)
  have f2 := aw1.x2
  have f0 := aw1.x0
  clear hb1
  go_wp2_with fail
  go_at_call 53
  refine (meetAw (wordsS n wd) sb kb g nr cp r hr (by unfold maxLen; omega) hc hb w _ _ _ _ aw1).mono ?_
  rintro e w2 ⟨rfl, aw2⟩
  rw [hmk]
  have e0 := aw2.x0
  have e1 := aw2.x1
  have eb := aw2.rb
  clear aw aw1 f0 f2
  go_wp2
  refine ret_of ?_ rfl
  refine ⟨_, by simp [results, Tryd.results29, go_sem] <;> rfl, rfl, ⟨_, aw2.row, by simp [hr], fun _ h => Option.some.inj h⟩, aw2.gr⟩
end Go.Proofs.YtddobhneplfddaaDoor
