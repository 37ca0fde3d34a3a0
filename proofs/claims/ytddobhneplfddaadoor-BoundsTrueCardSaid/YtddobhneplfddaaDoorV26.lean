/-
  Layer 16 (bounds): Next.
-/
import Derived.Test.YtddobhneplfddaaDoorV7
import Derived.Test.YtddobhneplfddaaDoorV10
import Derived.Deep.AppendLies
import Derived.Deep.CutBlock
import Derived.Deep.DeepCutAuto
import Derived.Laws.Rows
namespace Go.Proofs.YtddobhneplfddaaDoor
set_option maxRecDepth 100000
open Go.RowKit
set_option linter.unusedSimpArgs false
set_option linter.unusedVariables false
/-- Where an instruction would lead, ahead of a look at where there is code. -/
def preL (at_ : Int) (x : InsD) : List Int :=
  if x.op = 0 then [] else if x.op = 14 ∨ x.op = 18 then [x.n] else if x.op = 15 ∨ x.op = 16 ∨ x.op = 17 then [at_ + 1, x.n] else [at_ + 1]
def inN (N : Nat) (n : Int) : Bool := decide (0 ≤ n) && decide (n < N)
/-- What of it is kept: the first k. -/
def keepL (f : Nat) (l : List Int) : Nat → List Int
  | 0 => []
  | k + 1 => if inN f (l.getD k 0) && (decide (k = 0) || !decide (l.getD k 0 = l.getD 0 0)) then keepL f l k ++ [l.getD k 0] else keepL f l k
theorem keepL_len (f : Nat) (l : List Int) : ∀ k, (keepL f l k).length ≤ k
  | 0 => Nat.le_refl _
  | k + 1 => by
    have := keepL_len f l k
    rw [keepL]; split <;> simp <;> omega
theorem keep_next (f : FuncD) (at_ : Int) (x : InsD) (hk : known x.op = true) : keepL f.code.length (preL at_ x) (preL at_ x).length = (nextL at_ x).filter (inCode f) := by
  have hq : ∀ n, inN f.code.length n = inCode f n := fun _ => rfl
  unfold preL nextL
  by_cases h0 : x.op = 0
  · simp [h0, keepL]
  by_cases h1 : x.op = 14 ∨ x.op = 18
  · simp only [h0, h1, if_false, if_true]
    cases hc : inCode f x.n <;> simp [keepL, hq, hc]
  by_cases h2 : x.op = 15 ∨ x.op = 16 ∨ x.op = 17
  · simp only [h0, h1, h2, if_false, if_true]
    by_cases h3 : x.n = at_ + 1
    · cases hc : inCode f (at_ + 1) <;> simp [keepL, hq, hc, h3]
    · cases hc : inCode f (at_ + 1) <;> cases hd : inCode f x.n <;> simp [keepL, hq, hc, hd, h3]
  · simp only [h0, h1, h2, if_false, hk, if_true]
    cases hc : inCode f (at_ + 1) <;> simp [keepL, hq, hc]
theorem infoNx : (Tryd.prog.info? 3).map (fun i => (i.zero, i.size, i.bytes)) = some (some (.int .i64 0), 1, 8) := by kernel_rfl
/-- Where the numbers lie, ahead of the loop. -/
def NextCut (w : World) (fcs : Array Value) (l : List Int) (V6 : Value) (W : World) : Prop :=
  ∃ A c, V6 = .slice A l.length c ∧ Below w.heap.size w W ∧ Whl W w.heap.size 48 fcs ∧ (0 < l.length → ∃ lb, A = some ⟨lb, 0, none⟩ ∧ w.heap.size < lb ∧ Whl W lb 2 (l.map (Value.int .i64)).toArray)
/-- At the head of a round. -/
def NextRel (w : World) (fcs : Array Value) (f : Nat) (l : List Int) (A : Option Addr) (i v : Value) (W : World) : Prop :=
  ∃ k : Nat, k ≤ l.length ∧ i = .int .i64 k ∧ W.ownsRow w.heap.size 3 1 v (keepL f l k).length ((keepL f l k).map (Value.int .i64)) ∧ Below w.heap.size w W ∧ Whl W w.heap.size 48 fcs ∧
    (0 < l.length → ∃ lb, A = some ⟨lb, 0, none⟩ ∧ Whl W lb 2 (l.map (Value.int .i64)).toArray)
def OwnI (w : World) (base : Nat) (v : Value) (l : List Int) : Prop := w.ownsRow base 3 1 v l.length (l.map (Value.int .i64))
def NextOk (w : World) (l : List Int) (e : Ending) (w' : World) : Prop := (∃ v, e = .returned v ∧ OwnI w' w.heap.size v l) ∧ Below w.heap.size w w'
theorem preL_len (at_ : Int) (x : InsD) : (preL at_ x).length ≤ 2 := by
  unfold preL; split <;> (try split) <;> (try split) <;> simp
theorem preL_in {f : FuncD} {at_ : Nat} {x : InsD} (hx : x.Wf) (ha : In64 ((at_ : Int) + 1)) : ∀ n, n ∈ preL at_ x → In64 n := by
  intro n hn
  unfold preL at hn
  have hxn := hx.2.2.2.2
  split at hn
  · simp at hn
  split at hn
  · simp at hn; subst hn; exact hxn
  split at hn
  · simp at hn; rcases hn with rfl | rfl
    · exact ha
    · exact hxn
  · simp at hn; subst hn; exact ha
theorem belowOwn {A B : World} {base : Nat} {e : TypeId} {sz : Nat} {v : Value} {n : Nat} {xs : List Value} (h : A.ownsRow base e sz v n xs) (hg : A.grownBy B v.ownBlock) (hb : base ≤ A.heap.size) : Below base A B :=
  ⟨hg.os, hg.tape, hg.output, hg.size, fun i hi => hg.block i (Nat.lt_of_lt_of_le hi hb) (fun e => by have := (h.lt i e.symm).1; omega)⟩
set_option maxHeartbeats 8000000 in
theorem nextP (f : FuncD) (hl : f.code.length * 40 ≤ 140737488351232) (at_ : Int) (hat : In64 at_) (w : World) (hI : InsAt w w.heap.size f.ca f.code) (hk : ∀ k, k < f.code.length → known (nthX f.code k).op = true ∧ (nthX f.code k).Wf) :
    Calls Tryd.prog 28 #[f.val, .int .i64 at_] w (NextOk w (nextD f at_)) := by
  have hat' := hat
  obtain ⟨t1, t2⟩ := hat'
  by_cases hin : inCode f at_ = true
  · have hd : nextD f at_ = keepL f.code.length (preL at_ (nthX f.code at_.toNat)) (preL at_ (nthX f.code at_.toNat)).length := by
      have hh : 0 ≤ at_ ∧ at_ < f.code.length := by simpa [inCode] using hin
      rw [nextD, if_pos hin, keep_next f at_ _ (hk _ (by omega)).1]
    rw [hd]
    clear hd
    have hh : 0 ≤ at_ ∧ at_ < f.code.length := by simpa [inCode] using hin
    obtain ⟨at0, rfl, hlt⟩ := nat_of hh
    rw [Int.toNat_natCast]
    obtain ⟨hkn, hwf⟩ := hk at0 (by omega)
    have hpin := preL_in (f := f) (at_ := at0) hwf (by unfold In64; omega)
    obtain ⟨cb, co, hca, hcb, hcc⟩ := hI (by omega)
    have x0 := hcc at0 (by omega) 0 (by omega)
    have x1 := hcc at0 (by omega) 1 (by omega)
    have x2 := hcc at0 (by omega) 2 (by omega)
    have x3 := hcc at0 (by omega) 3 (by omega)
    have x4 := hcc at0 (by omega) 4 (by omega)
    obtain ⟨x, hx⟩ : ∃ x, nthX f.code at0 = x := ⟨_, rfl⟩
    simp only [insV, Nat.add_zero] at x0 x1 x2 x3 x4
    rw [hx] at x0 x1 x2 x3 x4 hkn hwf hpin ⊢
    obtain ⟨iI, hiI, zI0, zI1, zI2⟩ := info_parts infoNx
    have hlen := preL_len (at0 : Int) x
    obtain ⟨nm, pa, pc, ps, rg, wd, ca, cc, cd⟩ := f
    simp only at hca hl hlt x0 x1 x2 x3 x4 ⊢
    subst hca
    clear hcc hk hI hin hh hx
    obtain ⟨op, a, b, c, n⟩ := x
    simp only at x0 x1 x2 x3 x4 hkn
    have hop := op_cases hkn
    go_enter Tryd.func28, Tryd.ntmps28
    have g0 : decide ((at0 : Int) < 0) = false := by simp
    have g1 : decide (cd.length ≤ at0) = false := by simp; omega
    go_upto_block 0 with fail
    go_cut [6] (fun s6 V => NextCut w #[.string nm, .slice pa ps.length pc, .int .i64 rg, .int .i64 wd, .slice (some ⟨cb, co, none⟩) cd.length cc] (preL at0 ⟨op, a, b, c, n⟩) s6 V)
    case first =>
      have HK := Lib.hid hkn
      clear hkn
      rcases hop with rfl | rfl | rfl | rfl | rfl | rfl | rfl | rfl | rfl | rfl | rfl | rfl | rfl | rfl | rfl | rfl | rfl | rfl | rfl | rfl
      all_goals go_wp2_with (go_at_call 52; refine (knownP _ _).mono ?_; rintro e w' ⟨rfl, rfl⟩; rw [HK.out])
      all_goals go_meet
      all_goals unfold NextCut
      · exact ⟨none, 0, rfl, below_alloc (below_alloc (Below.refl _ _) _) _, (Whl.new _ _ _).alloc _, fun h => absurd h (by simp [preL])⟩
      all_goals first
        | exact ⟨some ⟨w.heap.size + 1 + 1, 0, none⟩, 1, rfl, below_alloc (below_alloc (below_alloc (Below.refl _ _) _) _) _, ((Whl.new _ _ _).alloc _).alloc _, fun _ => ⟨_, rfl, by omega, Whl.new2 _ _ _ _ _⟩⟩
        | exact ⟨some ⟨w.heap.size + 1 + 1, 0, none⟩, 2, rfl, below_alloc (below_alloc (below_alloc (Below.refl _ _) _) _) _, ((Whl.new _ _ _).alloc _).alloc _, fun _ => ⟨_, rfl, by omega, Whl.new2 _ _ _ _ _⟩⟩
    case rest =>
      rename_i hcut
      obtain ⟨A, c6, rfl, hb, hF, hL⟩ := hcut
      generalize hl0 : preL at0 ⟨op, a, b, c, n⟩ = l at *
      clear x0 x1 x2 x3 x4 hcb hop hkn
      go_wp2_with fail
      go_loopw [51, 7] (fun i v V => NextRel w #[.string nm, .slice pa ps.length pc, .int .i64 rg, .int .i64 wd, .slice (some ⟨cb, co, none⟩) cd.length cc] cd.length l A i v V) (fun i _ _ => l.length - (intOf i).toNat)
      case atStart => exact ⟨0, Nat.zero_le _, rfl, World.ownsRow_nil _ _ _ _, hb, hF, fun h => by obtain ⟨lb, e, _, q⟩ := hL h; exact ⟨lb, e, q⟩⟩
      case round =>
        obtain ⟨k, hk, rfl, hO, hb1, hF1, hL1⟩ := hrel
        clear hb hF hL
        have hkl := keepL_len cd.length l k
        have f4 := hF1.cell 4
        simp at f4
        have HO := Lib.hid hO
        clear hO
        by_cases hlt : k < l.length
        · obtain ⟨lb, hA, hW⟩ := hL1 (by omega)
          subst hA
          have HL := Lib.hid hW
          have hki : (k : Int) < (l.length : Int) := by omega
          have e1 := hW.cell k
          have e0 := hW.cell 0
          obtain ⟨v, hv⟩ : ∃ v, l.getD k 0 = v := ⟨_, rfl⟩
          obtain ⟨v0, hv0⟩ : ∃ v, l.getD 0 0 = v := ⟨_, rfl⟩
          have g1 : (l.map (Value.int .i64)).toArray[k]? = some (.int .i64 v) := by
            simp [hlt, ← hv]
          have g0 : (l.map (Value.int .i64)).toArray[0]? = some (.int .i64 v0) := by
            have h0 : 0 < l.length := by omega
            simp [h0, ← hv0]
          rw [g1] at e1
          rw [g0] at e0
          clear g1 g0 hW hL1
          have hvn : In64 v := hpin v (by rw [← hv, List.getD_eq_getElem?_getD, List.getElem?_eq_getElem hlt]; exact List.getElem_mem hlt)
          have hkeep : keepL cd.length l (k + 1) = if inN cd.length v && (decide (k = 0) || !decide (v = v0)) then keepL cd.length l k ++ [v] else keepL cd.length l k := by rw [keepL, hv, hv0]
          obtain ⟨hv1, hv2⟩ := hvn
          have HV := Lib.hid (And.intro hv hv0)
          have HK := Lib.hid hkeep
          have HP := Lib.hid hpin
          have HN := Lib.hid hl0
          clear hv hv0 hkeep hpin hl0
          by_cases hvv : v = v0
          · obtain rfl : v = v0 := hvv
            go_wp2_with (at_builtin; refine wpList_append_own _ rfl _ _ _ rfl w.heap.size 3 iI (.int .i64 0) 1 8 Tryd.underlying44 hiI zI0 zI1 zI2 rfl (by decide) _ _ _ rfl (HO.out.alloc _) ⟨wr.heap.size, 0, none⟩ 1 1 [.int .i64 v] rfl rfl (World.news_of_block (heap_alloc_new wr _)) (fun u hu => by simp only [List.mem_singleton] at hu; subst hu; rfl) (by unfold maxLen; omega) (by omega) (below_alloc hb1 _).size ?_; intro v' w1 own1 hg1 _)
            all_goals go_roundw
            all_goals first
              | (simp [intOf]; omega)
              | (fail_if_success (have ox := own1)
                 have e : keepL cd.length l (k + 1) = keepL cd.length l k := by
                   rw [HK.out]
                   exact if_neg (by simp [inN]; omega)
                 refine ⟨k + 1, by omega, by go_num, ?_, hb1, hF1, fun _ => ⟨lb, rfl, HL.out⟩⟩
                 rw [e]
                 exact HO.out)
              | (have e : keepL cd.length l (k + 1) = keepL cd.length l k ++ [v] := by
                   rw [HK.out]
                   exact if_pos (by simp [inN]; omega)
                 have ob := belowOwn (HO.out.alloc _) hg1 (below_alloc hb1 _).size
                 have nf := own_whl HO.out hF1 (by decide)
                 have nl := own_whl HO.out HL.out (by decide)
                 refine ⟨k + 1, by omega, by first | go_num | (apply congrArg (Value.int .i64); omega), ?_, (below_alloc hb1 _).trans ob, (hF1.alloc _).grown hg1 nf, fun _ => ⟨lb, rfl, (HL.out.alloc _).grown hg1 nl⟩⟩
                 rw [e, List.length_append, List.map_append]
                 exact own1)
          · have hve : (v == v0) = false := by simpa using hvv
            have hvn : (v != v0) = true := by simpa using hvv
            go_wp2_with (at_builtin; refine wpList_append_own _ rfl _ _ _ rfl w.heap.size 3 iI (.int .i64 0) 1 8 Tryd.underlying44 hiI zI0 zI1 zI2 rfl (by decide) _ _ _ rfl (HO.out.alloc _) ⟨wr.heap.size, 0, none⟩ 1 1 [.int .i64 v] rfl rfl (World.news_of_block (heap_alloc_new wr _)) (fun u hu => by simp only [List.mem_singleton] at hu; subst hu; rfl) (by unfold maxLen; omega) (by omega) (below_alloc hb1 _).size ?_; intro v' w1 own1 hg1 _)
            all_goals go_roundw
            all_goals first
              | (simp [intOf]; omega)
              | (fail_if_success (have ox := own1)
                 have e : keepL cd.length l (k + 1) = keepL cd.length l k := by
                   rw [HK.out]
                   exact if_neg (by simp [inN]; omega)
                 refine ⟨k + 1, by omega, by go_num, ?_, hb1, hF1, fun _ => ⟨lb, rfl, HL.out⟩⟩
                 rw [e]
                 exact HO.out)
              | (have e : keepL cd.length l (k + 1) = keepL cd.length l k ++ [v] := by
                   rw [HK.out]
                   exact if_pos (by simp [inN]; omega)
                 have ob := belowOwn (HO.out.alloc _) hg1 (below_alloc hb1 _).size
                 have nf := own_whl HO.out hF1 (by decide)
                 have nl := own_whl HO.out HL.out (by decide)
                 refine ⟨k + 1, by omega, by first | go_num | (apply congrArg (Value.int .i64); omega), ?_, (below_alloc hb1 _).trans ob, (hF1.alloc _).grown hg1 nf, fun _ => ⟨lb, rfl, (HL.out.alloc _).grown hg1 nl⟩⟩
                 rw [e, List.length_append, List.map_append]
                 exact own1)
        · have hk2 : k = l.length := by omega
          subst hk2
          go_wp2
          go_ret
          exact ⟨⟨_, rfl, HO.out⟩, hb1⟩
  · have hd : nextD f at_ = [] := by rw [nextD, if_neg hin]
    rw [hd]
    have h2 : at_ < 0 ∨ (f.code.length : Int) ≤ at_ := by simp [inCode] at hin; omega
    clear hd hin
    have HI := Lib.hid hI
    clear hI hk
    by_cases h0 : at_ < 0
    · go_enter Tryd.func28, Tryd.ntmps28
      go_wp2
      go_ret
      exact ⟨⟨_, rfl, World.ownsRow_nil _ _ _ _⟩, by repeat (first | exact Below.refl _ _ | with_reducible apply Below.drew | with_reducible apply below_alloc)⟩
    · have h3 : decide (at_ < 0) = false := by simp; omega
      have h4 : (f.code.length : Int) ≤ at_ := by omega
      obtain ⟨nm, pa, pc, ps, rg, wd, ca, cc, cd⟩ := f
      simp only at h4
      go_enter Tryd.func28, Tryd.ntmps28
      go_wp2
      go_ret
      exact ⟨⟨_, rfl, World.ownsRow_nil _ _ _ _⟩, by repeat (first | exact Below.refl _ _ | with_reducible apply Below.drew | with_reducible apply below_alloc)⟩
end Go.Proofs.YtddobhneplfddaaDoor
