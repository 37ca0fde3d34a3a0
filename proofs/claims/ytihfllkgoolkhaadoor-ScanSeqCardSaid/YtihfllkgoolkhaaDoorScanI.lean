/-
  Layer 1 (scan): the walk of the reference's Ahead.
-/
import Derived.Test.YtihfllkgoolkhaaDoorScanX
import Derived.Maps.AppendAt
import Derived.OwnWalk
import Derived.Deep.AppendLies
import Derived.Laws.AppendOwnNone
namespace Go.Proofs.YtihfllkgoolkhaaDoor
open Go.RowKit
set_option linter.unusedSimpArgs false
set_option linter.unusedVariables false
theorem info_parts {P : Program} {t : TypeId} {z : Value} {n b : Nat} (h : (P.info? t).map (fun i => (i.zero, i.size, i.bytes)) = some (some z, n, b)) : ∃ i, P.info? t = some i ∧ i.zero = some z ∧ i.size = n ∧ i.bytes = b := by
  cases hi : P.info? t with
  | none => rw [hi] at h; cases h
  | some i => rw [hi] at h; simp only [Option.map_some, Option.some.injEq, Prod.mk.injEq] at h; exact ⟨i, rfl, h.1, h.2.1, h.2.2⟩
theorem infoT : (Tryd.prog.info? 30).map (fun i => (i.zero, i.size, i.bytes)) = some (some (.agg #[.int .i64 0, .int .i64 0, .string .empty, .int .i64 0]), 4, 40) := by kernel_rfl
theorem own_made0 {w : World} {base : Nat} (e : TypeId) (sz k : Nat) (hb : base ≤ w.heap.size) (hk : w.heap.size = k) : (w.alloc (.cells #[] e)).ownsRow base e sz (.slice (some ⟨k, 0, none⟩) 0 0) 0 [] := by
  subst hk
  have := World.ownsRow_made (base := base) (e := e) (size := sz) w #[] 0 hb (by decide) (by simp)
  simpa using this
theorem own_slice {w : World} {base sz : Nat} {e : TypeId} {v : Value} {n : Nat} {xs : List Value} (h : w.ownsRow base e sz v n xs) : ∃ A c, v = .slice A n c ∧ (A = none → c = 0) := by
  rcases h.2 with ⟨rfl, rfl⟩ | ⟨g, cap, cur, rfl, _⟩
  · exact ⟨none, 0, rfl, fun _ => rfl⟩
  · exact ⟨_, cap, rfl, (fun h => by cases h)⟩
theorem own_heap {w w' : World} {base sz : Nat} {e : TypeId} {v : Value} {n : Nat} {xs : List Value} (h : w.ownsRow base e sz v n xs) (hk : ∀ g, v.ownBlock = some g → w'.heap[g]? = w.heap[g]?) : w'.ownsRow base e sz v n xs := by
  rcases h with ⟨hl, h0 | ⟨g, cap, cur, rfl, hb, hh, hnc, hm, hs, ht⟩⟩
  · exact ⟨hl, .inl h0⟩
  · exact ⟨hl, .inr ⟨g, cap, cur, rfl, hb, (hk g rfl).trans hh, hnc, hm, hs, ht⟩⟩
theorem own_below {w w' : World} {base sz : Nat} {e : TypeId} {v : Value} {n : Nat} {xs : List Value} (h : w.ownsRow base e sz v n xs) (hb : Below w.heap.size w w') : w'.ownsRow base e sz v n xs :=
  own_heap h fun g hg => hb.block g (h.lt g hg).2
def tokC (s : ByteArray) (t : TokD) : List Value := [.int .i64 t.kind, .int .i64 (t.at_ : Int), .string (s.extract t.at_ (t.at_ + t.len)), .int .i64 t.n]
def rowT (s : ByteArray) (ts : List TokD) : List Value := ts.flatMap (tokC s)
/-- A row of tokens that was made in the call that began in a world of B blocks. -/
abbrev OwnT (w : World) (B : Nat) (v : Value) (s : ByteArray) (ts : List TokD) : Prop := w.ownsRow B 30 4 v ts.length (rowT s ts)
/-- What Ahead tells. -/
def AheadOk (s : ByteArray) (w : World) (R : AheadR) (e : Ending) (w' : World) : Prop :=
  (∃ v, e = .returned (.tuple #[v, .int .i64 R.e, .int .i64 (R.p : Int)]) ∧ OwnT w' w.heap.size v s R.toks) ∧ Below w.heap.size w w'
theorem oneT {s : ByteArray} {k : Nat} {t : TokD} (hk : k < s.size) (hs : s.size ≤ 65536) (h : oneD (bytesOf s) k = .tok t) (w : World) :
    Calls Tryd.prog 30 #[.string s, .int .i64 (k : Int)] w fun e w' => e = .returned (.tuple #[.agg #[.int .i64 t.kind, .int .i64 (t.at_ : Int), .string (s.extract t.at_ (t.at_ + t.len)), .int .i64 t.n], .int .i64 0]) ∧ Below w.heap.size w w' := by
  refine (oneR s k hk hs w).mono ?_
  rintro e w1 ⟨h1, h2⟩
  rw [h] at h1
  exact ⟨h1, h2⟩
theorem oneX {s : ByteArray} {k : Nat} {x : Int} (hk : k < s.size) (hs : s.size ≤ 65536) (h : oneD (bytesOf s) k = .err x) (w : World) :
    Calls Tryd.prog 30 #[.string s, .int .i64 (k : Int)] w fun e w' => (∃ (a b : Int) (c : ByteArray) (d : Int), e = .returned (.tuple #[.agg #[.int .i64 a, .int .i64 b, .string c, .int .i64 d], .int .i64 x])) ∧ Below w.heap.size w w' := by
  refine (oneR s k hk hs w).mono ?_
  rintro e w1 ⟨h1, h2⟩
  rw [h] at h1
  exact ⟨h1.2, h2⟩
theorem oneX_ne {s : ByteArray} {k : Nat} {x : Int} (hk : k < s.size) (h : oneD (bytesOf s) k = .err x) : x ≠ 0 := by
  rw [oneD] at h
  split at h
  · split at h <;> first | (cases h; decide) | cases h
  · split at h
    · split at h <;> first | (cases h; decide) | cases h
    · split at h <;> first | (cases h; decide) | cases h
/-- What is known ahead of each round. -/
structure AInv (s : ByteArray) (w : World) (k : Nat) (v : Value) (ts : List TokD) (W : World) : Prop where
  own : OwnT W w.heap.size v s ts
  below : Below w.heap.size w W
  le : ts.length ≤ k
  rest : aheadD (bytesOf s) (skipD (bytesOf s) 0) = ⟨ts ++ (aheadD (bytesOf s) k).toks, (aheadD (bytesOf s) k).e, (aheadD (bytesOf s) k).p⟩
set_option maxHeartbeats 2000000 in
theorem aheadR (s : ByteArray) (hs : s.size ≤ maxLen) (w : World) : Calls Tryd.prog 19 #[.string s] w (AheadOk s w (scanD (bytesOf s))) := by
  by_cases h6 : 65536 < s.size
  · have hd : decide ((65536 : Int) < (s.size : Int)) = true := by simp; omega
    have HX := Lib.hid (show scanD (bytesOf s) = ⟨[], 4, 65536⟩ from if_pos h6)
    unfold maxLen at hs
    go_enter Tryd.func19, Tryd.ntmps19
    go_wp2
    refine ret_of ?_ rfl
    refine ⟨_, by simp [results, Tryd.results19, go_sem]; rfl, ?_⟩
    rw [HX.out]
    exact ⟨⟨_, rfl, World.ownsRow_nil _ _ _ _⟩, Below.refl _ _⟩
  · have hs6 : s.size ≤ 65536 := by omega
    have hd : decide ((65536 : Int) < (s.size : Int)) = false := by simp; omega
    have HX := Lib.hid (show scanD (bytesOf s) = aheadD (bytesOf s) (skipD (bytesOf s) 0) from if_neg h6)
    have hB := fun a ha => blankR s a ha hs
    obtain ⟨iT, hiT, zT0, zT1, zT2⟩ := info_parts infoT
    have H0 : AInv s w (skipD (bytesOf s) 0) (.slice (some ⟨w.heap.size, 0, none⟩) 0 0) [] (w.alloc (.cells #[] 30)) := ⟨own_made0 _ _ _ (Nat.le_refl _) rfl, below_alloc (Below.refl _ _) _, Nat.zero_le _, rfl⟩
    have hk0 : skipD (bytesOf s) 0 ≤ s.size := skipD_le (Nat.zero_le _)
    clear h6 hs
    go_enter Tryd.func19, Tryd.ntmps19
    go_wp2_with (go_at_call 29; refine (hB 0 (Nat.zero_le _) _).mono ?_; rintro e w' ⟨rfl, rfl⟩)
    go_loopw [5, 6] (fun v i wr => ∃ (k : Nat) (ts : List TokD), k ≤ s.size ∧ i = .int .i64 k ∧ AInv s w k v ts wr) (fun _ i _ => s.size - (intOf i).toNat)
    case atStart => exact ⟨skipD (bytesOf s) 0, [], hk0, rfl, H0⟩
    case round =>
      clear H0 hk0
      obtain ⟨k, ts, hk, rfl, hI⟩ := hrel
      have HI := Lib.hid hI
      clear hI
      by_cases hlt : k < s.size
      · cases ho : oneD (bytesOf s) k with
        | err x =>
          have hO := oneX hlt hs6 ho
          have hx : ((x : Int) != 0) = true := by simpa using oneX_ne hlt ho
          have HR := Lib.hid (aheadD_err hlt ho)
          clear ho
          go_wp2_with (go_at_call 30; refine (hO _).mono ?_; rintro e w1 ⟨⟨a, b, c, d, rfl⟩, hb⟩)
          refine ret_of ?_ rfl
          refine ⟨_, by simp [results, Tryd.results19, go_sem]; rfl, ?_⟩
          have hb2 := below_alloc hb (.cells #[.int .i64 a, .int .i64 b, .string c, .int .i64 d] 30)
          have h1 := HI.out.rest
          have HR2 : aheadD (bytesOf s) k = _ := HR.out
          rw [HR2, List.append_nil] at h1
          rw [HX.out, h1]
          exact ⟨⟨_, rfl, own_below HI.out.own hb2⟩, below_step HI.out.below hb2⟩
        | tok t =>
          have hp := oneD_pos hlt ho
          have hO := oneT hlt hs6 ho
          have HR := Lib.hid (aheadD_tok hlt ho)
          clear ho
          obtain ⟨kd, k2, ln, n⟩ := t
          obtain ⟨hp1, hp2, hp3⟩ := hp
          simp only at hp1 hp2 hp3 hO HR
          subst hp3
          have hfit : k2 + ln ≤ s.size := hp2
          have hsz : (s.extract k2 (k2 + ln)).size = ln := by rw [ext_size hfit]; omega
          have hBk := hB (k2 + ln) hfit
          have hk3 : skipD (bytesOf s) (k2 + ln) ≤ s.size := skipD_le hfit
          have hk4 := skipD_ge (bytesOf s) (k2 + ln)
          have HIN : ∀ (W : World) (v2 : Value), W.ownsRow w.heap.size 30 4 v2 (ts.length + 1) (rowT s ts ++ tokC s ⟨kd, k2, ln, n⟩) → Below w.heap.size w W → AInv s w (skipD (bytesOf s) (k2 + ln)) v2 (ts ++ [⟨kd, k2, ln, n⟩]) W := fun W v2 h1 h2 => ⟨by
            rw [OwnT, List.length_append, rowT, List.flatMap_append]
            simpa [rowT] using h1, h2, by have := HI.out.le; simp; omega, by
            rw [HI.out.rest]
            have HR2 := HR.out
            rw [show bytesOf s = s.data.toList from rfl, HR2, List.append_assoc]; rfl⟩
          have HN := Lib.hid HIN
          have HP := Lib.hid (And.intro hp2 (And.intro hk3 hk4))
          clear HIN HR hp2 hB hk3 hk4
          generalize skipD (bytesOf s) (k2 + ln) = k3 at *
          go_wp2_with (first
            | (go_at_call 30; refine (hO _).mono ?_; rintro e w1 ⟨rfl, hb⟩)
            | (go_at_call 29; refine (hBk _).mono ?_; rintro e w' ⟨rfl, rfl⟩)
            | (at_builtin
               have hle := HI.out.le
               have hT := Whl.new w1 30 #[.int .i64 kd, .int .i64 (k2 : Int), .string (s.extract k2 (k2 + ln)), .int .i64 n]
               have hT1 := hT.alloc (.cells #[.int .i64 kd, .int .i64 (k2 : Int), .string (s.extract k2 (k2 + ln)), .int .i64 n] 30)
               have hN1 := Whl.new1 w1 (.cells #[.int .i64 kd, .int .i64 (k2 : Int), .string (s.extract k2 (k2 + ln)), .int .i64 n] 30) 30 #[.int .i64 kd, .int .i64 (k2 : Int), .string (s.extract k2 (k2 + ln)), .int .i64 n]
               have hbb := below_alloc (below_alloc hb (.cells #[.int .i64 kd, .int .i64 (k2 : Int), .string (s.extract k2 (k2 + ln)), .int .i64 n] 30)) (.cells #[.int .i64 kd, .int .i64 (k2 : Int), .string (s.extract k2 (k2 + ln)), .int .i64 n] 30)
               have hO1 := own_below HI.out.own hbb
               refine wpList_append_own _ rfl _ _ _ rfl w.heap.size 30 iT (.agg #[.int .i64 0, .int .i64 0, .string .empty, .int .i64 0]) 4 40 Tryd.underlying23 hiT zT0 zT1 zT2 rfl (by decide) _ ts.length (rowT s ts) rfl hO1 ⟨w1.heap.size + 1, 0, none⟩ 1 1 (tokC s ⟨kd, k2, ln, n⟩) rfl rfl (World.news_of_block hN1) (fun u hu => by simp only [tokC, List.mem_cons, List.not_mem_nil, or_false] at hu; rcases hu with rfl | rfl | rfl | rfl <;> rfl) (by unfold maxLen; omega) (by omega) (below_step HI.out.below hbb).size ?_
               intro v2 w2 own2 hg2 hnil
               have hT2 := hT1.grown hg2 (fun e => by have h1 := (HI.out.own.lt _ e.symm).2; have h2 := hb.size; omega)
               have hB2 := (below_step HI.out.below hbb).grown hg2 (below_step HI.out.below hbb).size (fun g hg => (hO1.lt g hg).1)
               obtain ⟨c0, c1, c2, c3, m0, m1, m2, m3, lc⟩ := tokCells hT2
               have HE := Lib.hid (HN.out _ _ own2 hB2)
               clear hle hT hT1 hN1 hbb hO1 hT2 hB2 own2 hg2 hnil))
          have hP := HP.out
          refine ⟨⟨k3, _, hP.2.1, rfl, HE.out⟩, ?_⟩
          have h3 := hP.2.2
          have h4 := hP.2.1
          simp only [intOf]
          omega
      · obtain rfl : k = s.size := by omega
        have HR := Lib.hid (aheadD_end (L := bytesOf s) (k := s.size) (Nat.le_refl _))
        go_wp2
        refine ret_of ?_ rfl
        refine ⟨_, by simp [results, Tryd.results19, go_sem]; rfl, ?_⟩
        have h1 := HI.out.rest
        rw [HR.out, List.append_nil] at h1
        rw [HX.out, h1]
        exact ⟨⟨_, rfl, HI.out.own⟩, HI.out.below⟩
end Go.Proofs.YtihfllkgoolkhaaDoor
