/-
  Layer 1 (scan): the walk of tokens: an iterator that keeps its error and place in its reader.
-/
import Derived.Test.YtihfllkgoolkhaaDoorSeqT
import Derived.Test.YtihfllkgoolkhaaDoorScanX
import Derived.RangeFuncBound
import Derived.RangeFuncCalls
import Derived.RangeFuncLeaves
import Derived.Shelf.Abstract
import Derived.Shelf.RegionOpen
import Derived.OwnWalkIn
import Derived.TacticsInMore
import Derived.LoopNIn
import Derived.LoopIn
import Derived.BigFrameIn
namespace Go.Proofs.YtihfllkgoolkhaaDoor
open Go.RowKit Go.Shelf
set_option linter.unusedSimpArgs false
set_option linter.unusedVariables false
attribute [local go_sem] Oper.semAt_some

theorem RangeVar.kept {w w' : World} (h : RangeVar w) (hs : w.heap.size ≤ w'.heap.size) (hb : w'.heap[1]? = w.heap[1]?) : RangeVar w' := by
  obtain ⟨tp, p, hg, hv⟩ := h
  refine ⟨tp, p, Nat.lt_of_lt_of_le hg hs, ?_⟩
  unfold World.var? at hv ⊢
  simp only [range_named, Option.bind_some] at hv ⊢
  rw [hb]; exact hv
theorem RangeVar.lt {w : World} (h : RangeVar w) : 1 < w.heap.size := h.choose_spec.choose_spec.1
theorem grown_setCell (W : World) (b i : Nat) (v : Value) : W.grownBy (W.setCell ⟨b, i, none⟩ v) (some b) :=
  ⟨rfl, rfl, rfl, (KeepsWalks.setCell W _ v).size, fun k _ hk => Below.heap_setCell _ _ _ k (fun e => hk (by rw [e]))⟩
theorem grown_alloc (W : World) (b : Nat) (o : Obj) : W.grownBy (W.alloc o) (some b) := grown_of_below ((Below.refl _ _).alloc (Nat.le_refl _) _) _
/-- What holds ahead of each round of tokens. -/
structure TInv (s : ByteArray) (g : Nat) (J : List TokD → World → Prop) (k : Nat) (wr : World) : Prop where
  got : ∃ pre W0, J pre W0 ∧ W0.grownBy wr (some g) ∧ (scanD (bytesOf s)).toks = pre ++ (aheadD (bytesOf s) k).toks
  same : (scanD (bytesOf s)).e = (aheadD (bytesOf s) k).e ∧ (scanD (bytesOf s)).p = (aheadD (bytesOf s) k).p
  rd : Whl wr g 37 #[.string s, .int .i64 0, .int .i64 0]
  rv : RangeVar wr
set_option maxRecDepth 100000 in
set_option maxHeartbeats 4000000 in
theorem tokensP (s : ByteArray) (hs : s.size ≤ maxLen) (g : Nat) (e0 p0 : Int) (W : World) (hr : Whl W g 37 #[.string s, .int .i64 e0, .int .i64 p0]) (hne : g ≠ 1) (hv : RangeVar W) :
    SeqT Tryd.prog 21 #[.pointer (some ⟨g, 0, none⟩)] #[] (fun t : TokD => #[tokV s t]) g 1 (fun W' => Whl W' g 37 #[.string s, .int .i64 (scanD (bytesOf s)).e, .int .i64 ((scanD (bytesOf s)).p : Nat)]) (scanD (bytesOf s)).toks W := by
  intro l J Jx hY h0
  have lg := hr.lt
  have c0 : W.cell? ⟨g, 0, none⟩ = some (.string s) := hr.cell 0
  have c1 : W.cell? ⟨g, 1, none⟩ = some (.int .i64 e0) := hr.cell 1
  have c2 : W.cell? ⟨g, 2, none⟩ = some (.int .i64 p0) := hr.cell 2
  have f1 := hr.frozen 1
  have f2 := hr.frozen 2
  have hs2 := hs
  unfold maxLen at hs2
  by_cases hbig : 65536 < s.size
  · have hx : decide ((65536 : Int) < (s.size : Int)) = true := by simp; omega
    have hD : scanD (bytesOf s) = ⟨[], 4, 65536⟩ := by rw [scanD, if_pos (by rw [bytes_len]; exact hbig)]
    rw [hD]
    refine callsIn_of_wp Tryd.func21 rfl trivial ?_ rfl
    simp only [Tryd.ntmps21, List.size_toArray, List.length_cons, List.length_nil, Nat.reduceAdd, Nat.reduceSub, Array.replicate_succ, Array.replicate_zero, List.push_toArray, List.append_toArray, List.nil_append, List.cons_append, List.append_nil]
    gi_wp2
    refine bodyPost_ret (results_none rfl _ _ _) rfl ?_
    refine ⟨⟨_, rfl⟩, .inl ⟨W, h0, ?_, ?_⟩⟩
    · exact grown_trans (grown_trans (grown_trans (grown_setCell _ g _ _) (grown_setCell _ g _ _)) (grown_setCell _ g _ _)) (grown_setCell _ g _ _)
    · have h1 := ((((hr.put 1 (.int .i64 0)).put 2 (.int .i64 0)).put 1 (.int .i64 4)).put 2 (.int .i64 65536))
      simpa using h1
  · have hx : decide ((65536 : Int) < (s.size : Int)) = false := by simp; omega
    have hD : scanD (bytesOf s) = aheadD (bytesOf s) (skipD (bytesOf s) 0) := by rw [scanD, if_neg (by rw [bytes_len]; exact hbig)]
    have hk0 : skipD (bytesOf s) 0 ≤ s.size := skipD_le (by omega)
    refine callsIn_of_wp Tryd.func21 rfl trivial ?_ rfl
    simp only [Tryd.ntmps21, List.size_toArray, List.length_cons, List.length_nil, Nat.reduceAdd, Nat.reduceSub, Array.replicate_succ, Array.replicate_zero, List.push_toArray, List.append_toArray, List.nil_append, List.cons_append, List.append_nil]
    have HI : TInv s g J (skipD (bytesOf s) 0) ((W.setCell ⟨g, 1, none⟩ (.int .i64 0)).setCell ⟨g, 2, none⟩ (.int .i64 0)) := by
      refine ⟨⟨[], W, h0, grown_trans (grown_setCell _ g _ _) (grown_setCell _ g _ _), by rw [hD]; rfl⟩, by rw [hD]; exact ⟨rfl, rfl⟩, ?_, ?_⟩
      · have h1 := (hr.put 1 (.int .i64 0)).put 2 (.int .i64 0)
        simpa using h1
      · exact hv.kept (by simp) (((Below.heap_setCell _ ⟨g, 2, none⟩ _ _ (Ne.symm hne)).trans (Below.heap_setCell _ ⟨g, 1, none⟩ _ _ (Ne.symm hne))))
    gi_wp2_with (refine ⟨trivial, ?_⟩; gi_at_call 32; refine (callsIn_wide.2 (skipP s 0 (by omega) hs _)).mono ?_; rintro e w' ⟨rfl, rfl⟩)
    gi_loopw [4] (fun a wr => ∃ k : Nat, k ≤ s.size ∧ a = .int .i64 k ∧ TInv s g J k wr) (fun a _ => s.size - (intOf a).toNat)
    case atStart => exact ⟨_, hk0, rfl, HI⟩
    case round =>
      clear HI hr hv c0 c1 c2 f1 f2 lg
      obtain ⟨k, hk, rfl, hT⟩ := hrel
      obtain ⟨⟨pre, W0, hJ, hgr, hpre⟩, ⟨he, hp⟩, hrd, hrv⟩ := hT
      have c0 : wr.cell? ⟨g, 0, none⟩ = some (.string s) := hrd.cell 0
      have c1 : wr.cell? ⟨g, 1, none⟩ = some (.int .i64 0) := hrd.cell 1
      have c2 : wr.cell? ⟨g, 2, none⟩ = some (.int .i64 0) := hrd.cell 2
      have f1 := hrd.frozen 1
      have f2 := hrd.frozen 2
      have lg := hrd.lt
      by_cases hlt : k < s.size
      · have hN := nextP s g k hlt (by omega) wr c0 lg hrv
        cases ho : oneD (bytesOf s) k with
        | err x =>
          rw [ho] at hN
          obtain ⟨HP, HE⟩ : Hid ((scanD (bytesOf s)).toks = pre) ∧ Hid ((scanD (bytesOf s)).e = x ∧ (scanD (bytesOf s)).p = k) := by
            have hA := aheadD_err hlt ho
            exact ⟨Lib.hid (by rw [hpre, hA]; simp), Lib.hid ⟨by rw [he, hA], by rw [hp, hA]⟩⟩
          clear he hp hpre
          gi_wp2_with (refine ⟨trivial, ?_⟩; gi_at_call 33; refine (callsIn_wide.2 hN).mono ?_; rintro e w1 ⟨⟨hx0, a, b, c, d, rfl⟩, hb1⟩; obtain ⟨hcc1, hff1⟩ := bcell hb1; have hs1 := hb1.size; have lg1 : g < w1.heap.size := (by omega); have u1 : (x == 0) = false := (by simpa using hx0); have u2 : (x != 0) = true := (by simpa using hx0))
          refine bodyPost_ret (results_none rfl _ _ _) rfl ?_
          refine ⟨⟨_, rfl⟩, .inl ⟨W0, by rw [HP.out]; exact hJ, ?_, ?_⟩⟩
          · exact grown_trans hgr (grown_trans (grown_of_below hb1 _) (grown_trans (grown_trans (grown_setCell _ g _ _) (grown_setCell _ g _ _)) (grown_alloc _ g _)))
          · have h1 := (((hrd.below' hb1).put 1 (.int .i64 x)).put 2 (.int .i64 k)).alloc (.cells #[.int .i64 a, .int .i64 b, .string c, .int .i64 d] 30)
            rw [HE.out.1, HE.out.2]
            simpa using h1
        | tok t =>
          rw [ho] at hN
          have hA := aheadD_tok hlt ho
          obtain ⟨hpos, hfit, hat⟩ := oneD_pos (L := bytesOf s) hlt ho
          have hkk : k + t.len ≤ s.size := hfit
          have hge := skipD_ge (bytesOf s) (k + t.len)
          have hle : skipD (bytesOf s) (k + t.len) ≤ s.size := skipD_le hfit
          have hxs : (scanD (bytesOf s)).toks = (pre ++ [t]) ++ (aheadD (bytesOf s) (skipD (bytesOf s) (k + t.len))).toks := by rw [hpre, hA]; simp
          have HI := Lib.hid (show (scanD (bytesOf s)).e = (aheadD (bytesOf s) (skipD (bytesOf s) (k + t.len))).e ∧ (scanD (bytesOf s)).p = (aheadD (bytesOf s) (skipD (bytesOf s) (k + t.len))).p by rw [he, hp, hA]; exact ⟨rfl, rfl⟩)
          have HX := Lib.hid hxs
          clear he hp hpre hA hxs
          have hts : (s.extract t.at_ (t.at_ + t.len)).size = t.len := by rw [hat]; exact (ext_size hfit).trans (by omega)
          obtain ⟨kind, at_, len, n⟩ := t
          simp only at hat hpos hfit hkk hge hle hts
          subst hat
          gi_wp2_with (refine ⟨trivial, ?_⟩; gi_at_call 33; refine (callsIn_wide.2 hN).mono ?_; rintro e w1 ⟨rfl, hb1⟩; simp only [tokV]; obtain ⟨hcc1, hff1⟩ := bcell hb1; have hs1 := hb1.size; have lg1 : g < w1.heap.size := (by omega); have hw1 := Whl.new w1 30 #[.int .i64 kind, .int .i64 (at_ : Int), .string (s.extract at_ (at_ + len)), .int .i64 n]; obtain ⟨fn, tmps, assign, body, hy, hR⟩ := hY pre ⟨kind, at_, len, n⟩ W0 (w1.alloc (.cells #[.int .i64 kind, .int .i64 (at_ : Int), .string (s.extract at_ (at_ + len)), .int .i64 n] 30)) hJ (grown_trans hgr (grown_trans (grown_of_below hb1 _) (grown_alloc _ g _))) ⟨_, HX.out.symm⟩; simp only [tokV] at hy)
          refine (round_any hR).mono ?_
          have hrd1 := (hrd.below' hb1).alloc (.cells #[.int .i64 kind, .int .i64 (at_ : Int), .string (s.extract at_ (at_ + len)), .int .i64 n] 30)
          have hrv1 := (hrv.below hb1)
          clear hcc1 hff1 hy hR hN c0 c1 c2 f1 f2 hrd hrv
          have hs0 := hgr.size
          rintro e W3 (⟨rfl, hJ3, hk3⟩ | ⟨rfl, hJx3⟩)
          · have hs3 := hk3.size
            rw [World.size_alloc] at hs3
            have hrd3 : Whl W3 g 37 #[.string s, .int .i64 0, .int .i64 0] := (hk3.same g (by simp; omega) (.inr (.inl rfl))).trans hrd1
            have hw3 : Whl W3 w1.heap.size 30 #[.int .i64 kind, .int .i64 (at_ : Int), .string (s.extract at_ (at_ + len)), .int .i64 n] := (hk3.same w1.heap.size (by simp) (.inl (by omega))).trans hw1
            have hrv3 : RangeVar W3 := hrv1.kept (by omega) ((hk3.same _ (by have := hrv1.lt; simp; omega) (.inr (.inr rfl))).trans (Below.heap_alloc _ _ _ hrv1.lt))
            have c0 : W3.cell? ⟨g, 0, none⟩ = some (.string s) := hrd3.cell 0
            have d2 : W3.cell? ⟨w1.heap.size, 2, none⟩ = some (.string (s.extract at_ (at_ + len))) := hw3.cell 2
            have hz : ((s.extract at_ (at_ + len)).size : Int) = (len : Int) := by rw [hts]
            have hmx : Tryd.prog.follows .mixedOrders = true := by kernel_rfl
            have hS : Calls Tryd.prog 32 #[.string s, .int .i64 ((at_ : Int) + (len : Int))] W3.drew fun e w' => e = .returned (.int .i64 (skipD (bytesOf s) (at_ + len) : Nat)) ∧ W3.drew = w' := skipP s (at_ + len) hkk hs _
            have hwr : IntKind.i64.wrap ((at_ : Int) + (len : Int)) = (at_ : Int) + (len : Int) := IntWalk.i64_in _ (by omega)
            gi_wp2
            gi_region_with_o (refine ⟨trivial, ?_⟩; gi_at_call 32; refine (callsIn_wide.2 hS).mono ?_; rintro e w' ⟨rfl, rfl⟩)
            clear hwr hz hS
            all_goals
              go_simp
              go_roundw
              case rel =>
                (repeat apply Exists.intro)
                refine And.intro ?_ rfl
                exact ⟨_, hle, rfl, ⟨_, W3, hJ3, grown_of_below (Below.drew (Below.refl _ _)) _, HX.out⟩, HI.out, hrd3.drew, hrv3.below (Below.drew (Below.refl _ _))⟩
              case measure => simp [intOf]; omega
          · gi_wp2
            refine ret_of ?_ rfl
            refine ⟨_, results_none rfl _ _ _, ?_⟩
            exact ⟨⟨_, rfl⟩, .inr ⟨_, W3, ⟨_, HX.out.symm⟩, hJx3, grown_refl _ _⟩⟩
      · obtain rfl : k = s.size := by omega
        have hA : aheadD (bytesOf s) s.size = ⟨[], 0, 0⟩ := aheadD_end (by rw [bytes_len]; exact Nat.le_refl _)
        gi_wp2
        go_end0
        refine ⟨⟨_, rfl⟩, .inl ⟨W0, ?_, hgr, ?_⟩⟩
        · rw [hpre, hA]; simpa using hJ
        · rw [he, hp, hA]; exact hrd
end Go.Proofs.YtihfllkgoolkhaaDoor
