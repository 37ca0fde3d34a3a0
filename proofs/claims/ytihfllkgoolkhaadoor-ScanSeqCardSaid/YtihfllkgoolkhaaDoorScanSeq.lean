/-
  ScanSeq: what Tokens hands back goes through the tokens ahead of the first error, is left at any of them, and begins anew each time; the calls of awake answer as they should. The five listed variables are tied to the program's text.
-/
import Derived.Test.YtihfllkgoolkhaaDoorTokE
import Derived.Test.YtihfllkgoolkhaaDoorQuietR
import Derived.Test.YtihfllkgoolkhaaDoorCards
import Derived.Test.YtihfllkgoolkhaaDoorTie
import Derived.SevenTiedAt
import Derived.Stop.Joined
namespace Go.Proofs.YtihfllkgoolkhaaDoor
open Go.RowKit
set_option linter.unusedSimpArgs false
set_option linter.unusedVariables false
open Go.Shelf
attribute [local go_sem] Oper.semAt_some
/-- What lies in memory ahead of the first loop. -/
structure QFacts (s : ByteArray) (stop : Int) (ts : List TokD) (w w2 : World) (A : Option Addr) (c : Nat) (W3 : World) : Prop where
  size : W3.heap.size = w2.heap.size + 3
  size2 : w.heap.size + 1 < w2.heap.size
  ks : Whl W3 w.heap.size 3 #[.int .i64 stop]
  kr : Whl W3 (w.heap.size + 1) 4 #[.bool false]
  kw : Whl W3 w2.heap.size 23 #[.slice A ts.length c]
  kc : Whl W3 (w2.heap.size + 1) 9 #[.string s]
  kn : Whl W3 (w2.heap.size + 1 + 1) 3 #[.int .i64 (0 : Nat)]
  kv : RangeVar W3
  kg : 1 < w.heap.size
  kb : Below w.heap.size w W3
  kt : 0 < ts.length → ∃ b off, A = some ⟨b, off, none⟩ ∧ b < w2.heap.size ∧ ∀ k (h : k < ts.length), W3.cell? ⟨b, off + k * 4, none⟩ = some (.int .i64 (ts[k]).kind) ∧ W3.cell? ⟨b, off + k * 4 + 1, none⟩ = some (.int .i64 ((ts[k]).at_ : Int)) ∧
    W3.cell? ⟨b, off + k * 4 + 2, none⟩ = some (.string (s.extract (ts[k]).at_ ((ts[k]).at_ + (ts[k]).len))) ∧ W3.cell? ⟨b, off + k * 4 + 3, none⟩ = some (.int .i64 (ts[k]).n)
set_option maxRecDepth 100000 in
set_option maxHeartbeats 8000000 in
theorem seqL (s : ByteArray) (stop : Int) (hs : s.size ≤ maxLen) (w : World) (hv : RangeVar w) : Calls Tryd.prog 9 #[.string s, .int .i64 stop] w fun e w' => e = .returned (.bool true) ∧ Below w.heap.size w w' := by
  have hR := aheadR s hs
  have hTk : ∀ (g r : Nat) (W : World), W.cell? ⟨g, 0, none⟩ = some (.string s) → RangeVar W → r = W.heap.size → SeqT Tryd.prog 31 #[] #[.pointer (some ⟨g, 0, none⟩)] (fun t : TokD => #[tokV s t]) r 1 (fun _ => True) (scanD (bytesOf s)).toks W := fun g r W h1 h2 h3 => tokens1P s hs g W h1 h2 r h3
  have hl6 := scanD_len (bytesOf s)
  generalize scanD (bytesOf s) = R at *
  obtain ⟨ts, xe, xp⟩ := R
  simp only at hTk hl6
  refine (callsIn_wide (n := 9)).1 ?_
  refine callsIn_of_wp_marks Tryd.func9 rfl trivial ?_ rfl
  simp only [Tryd.ntmps9, List.size_toArray, List.length_cons, List.length_nil, Nat.reduceAdd, Nat.reduceSub, Array.replicate_succ, Array.replicate_zero, List.push_toArray, List.append_toArray, List.nil_append, List.cons_append]
  gi_wp2_with (first
    | (refine ⟨trivial, ?_⟩; gi_at_call 10; refine (callsIn_wide.2 (awakeP _ ((hv.below (below_alloc (Below.refl _ _) _)).below (below_alloc (Below.refl _ _) _)))).mono ?_; rintro e w1 ⟨rfl, hb1⟩; obtain ⟨hcc1, hff1⟩ := bcell hb1; have hs1 := hb1.size; (try simp at hs1); have l1 : w.heap.size < w1.heap.size := (by omega); have l2 : w.heap.size + 1 < w1.heap.size := (by omega))
    | (refine ⟨trivial, ?_⟩; gi_at_call 19; refine (callsIn_wide.2 (hR _)).mono ?_; rintro e w2 ⟨⟨v, rfl, ho⟩, hb2⟩; obtain ⟨A, c, rfl, _⟩ := own_slice ho; obtain ⟨hcc2, hff2⟩ := bcell hb2; have hs2 := hb2.size; have l3 : w.heap.size < w2.heap.size := (by omega); have l4 : w.heap.size + 1 < w2.heap.size := (by omega))
    | (refine ⟨trivial, ?_⟩; gi_at_call 20; refine (callsIn_wide.2 (tokensM s _)).mono ?_; rintro e w3 ⟨rfl, rfl⟩))
  have hW3 : QFacts s stop ts w w2 A c (((w2.alloc (.cells #[.slice A ts.length c] 23)).alloc (.cells #[.string s] 9)).alloc (.cells #[.int .i64 0] 3)) := by
    have z1 := hb1.size
    have z2 := hb2.size
    simp only [World.size_alloc] at z1
    have g0 : Whl w2 w.heap.size 3 #[.int .i64 stop] := (((Whl.new w 3 #[.int .i64 stop]).alloc (.cells #[.bool false] 4)).below' hb1).below' hb2
    have g1 : Whl w2 (w.heap.size + 1) 4 #[.bool false] := ((Whl.new1 w (.cells #[.int .i64 stop] 3) 4 #[.bool false]).below' hb1).below' hb2
    have hB : Below w2.heap.size w2 (((w2.alloc (.cells #[.slice A ts.length c] 23)).alloc (.cells #[.string s] 9)).alloc (.cells #[.int .i64 0] 3)) := below_alloc (below_alloc (below_alloc (Below.refl _ _) _) _) _
    refine ⟨by simp, by omega, g0.below' hB, g1.below' hB, ((Whl.new _ _ _).alloc _).alloc _, (Whl.new1 _ _ _ _).alloc _, Whl.new2 _ _ _ _ _, (((hv.below (below_alloc (below_alloc (Below.refl _ _) _) _)).below hb1).below hb2).below hB, hv.lt, ?_, ?_⟩
    · exact below_step (below_step (below_step (below_alloc (below_alloc (Below.refl _ _) _) _) hb1) hb2) hB
    · intro hp
      obtain ⟨b, off, e, hlt, hc⟩ := (tokAt_own ho).2 hp
      exact ⟨b, off, e, hlt, fun k hk => by
        obtain ⟨c0, c1, c2, c3⟩ := hc k hk
        exact ⟨(hB.cell (p := ⟨b, off + k * 4, none⟩) hlt).trans c0, (hB.cell (p := ⟨b, off + k * 4 + 1, none⟩) hlt).trans c1, (hB.cell (p := ⟨b, off + k * 4 + 2, none⟩) hlt).trans c2, (hB.cell (p := ⟨b, off + k * 4 + 3, none⟩) hlt).trans c3⟩⟩
  clear hcc1 hff1 hs1 l1 l2 hcc2 hff2 hs2 l3 l4 ho hb1 hb2 hv hR
  obtain ⟨W3, hW⟩ : ∃ W3, (((w2.alloc (.cells #[.slice A ts.length c] 23)).alloc (.cells #[.string s] 9)).alloc (.cells #[.int .i64 0] 3)) = W3 := ⟨_, rfl⟩
  change Code.wpIn _ _ _ _ _ _ (((w2.alloc (.cells #[.slice A ts.length c] 23)).alloc (.cells #[.string s] 9)).alloc (.cells #[.int .i64 0] 3))
  rw [hW] at hW3 ⊢
  clear hW
  obtain ⟨hz, hz2, ks, kr, kw, kc, kn, kv, kg, kb, kt⟩ := hW3
  have Q0 : QMem W3 (w2.heap.size + 1 + 1) 0 W3 := ⟨grown_refl _ _, kn⟩
  have hnb : w2.heap.size + 1 + 1 < W3.heap.size := by omega
  refine wpIn_rangeFunc_T (gf := 31) (ra := #[]) (lb := #[.pointer (some ⟨w2.heap.size + 1, 0, none⟩)]) rfl (enters_of Tryd.func31 (by kernel_rfl) rfl)
    (encs := fun t : TokD => #[tokV s t]) (r := W3.heap.size + 2) (gv := 1) (by omega) (by omega) (by omega)
    (fun o o' => hTk (w2.heap.size + 1) _ _ (((kc.alloc o).alloc o').cell 0) ((kv.below (below_alloc (Below.refl _ _) o)).below (below_alloc (Below.refl _ _) o')) (by simp))
    (fun A k o h hk => trivial) (fun _ => rfl)
    (fun pre W => pre <+: ts ∧ QMem W3 (w2.heap.size + 1 + 1) pre.length W) (fun c pre W => c = .exit 0 ∧ QMem W3 (w2.heap.size + 1 + 1) pre.length W ∧ (pre.length : Int) = stop)
    (fun o o' => ⟨List.nil_prefix, (Q0.alloc hnb o).alloc hnb o'⟩) (fun pre A o h => ⟨h.1, h.2.putObj hnb (by omega) o⟩) (fun c pre A o h => ⟨h.1, h.2.1.putObj hnb (by omega) o, h.2.2⟩)
    (fun t k => { tmps := #[.string s, .int .i64 stop, undef, .pointer (some ⟨w.heap.size, 0, none⟩), .pointer (some ⟨w.heap.size + 1, 0, none⟩), .pointer (some ⟨w2.heap.size, 0, none⟩), .int .i64 xe, .int .i64 (xp : Int), .func (.func 31) #[] #[.pointer (some ⟨w2.heap.size + 1, 0, none⟩)], .pointer (some ⟨w2.heap.size + 1 + 1, 0, none⟩), .pointer (some ⟨k, 0, none⟩), undef, .bool true, .bool false, .tuple #[.slice A ts.length c, .int .i64 xe, .int .i64 (xp : Int)], .string s, .tuple #[.slice A ts.length c, .int .i64 xe, .int .i64 (xp : Int)], .slice A ts.length c, .int .i64 xe, .int .i64 (xp : Int), .string s, .func (.func 31) #[] #[.pointer (some ⟨w2.heap.size + 1, 0, none⟩)], .func (.func 31) #[] #[.pointer (some ⟨w2.heap.size + 1, 0, none⟩)], tokV s t, undef, undef, undef, undef, undef, undef, undef, undef, undef, undef, undef, undef, undef, undef, undef, undef, undef, undef, undef, undef, undef, undef, undef, undef, undef, undef, undef, undef, undef, undef, undef, undef, undef, undef, undef, undef, undef, undef, undef, undef, undef, undef, undef, undef, undef, undef], defers := [] })
    (fun t => .cells #[.int .i64 t.kind, .int .i64 (t.at_ : Int), .string (s.extract t.at_ (t.at_ + t.len)), .int .i64 t.n] 30) ?assign ?body ?done ?stop
  case assign =>
    rintro l ⟨kind, at_, len, n⟩ W K hK
    simp only [tokV] at hK ⊢
    gi_wp2
    exact hK
  case body =>
    rintro l pre x W0 W1 ⟨hp, hQ⟩ hg hlt0 hpre
    obtain ⟨hl, hx⟩ := pre_snocT hpre
    have hQ1 := hQ.far hnb (by omega) hg
    obtain ⟨b, off, rfl, hlb, hc⟩ := kt (by omega)
    obtain ⟨x0, x1, x2, x3⟩ := hc pre.length hl
    rw [hx] at x0 x1 x2 x3
    have hz1 : W3.heap.size ≤ W1.heap.size := hQ1.grown.size
    obtain ⟨kind, at_, len, n⟩ := x
    simp only at x0 x1 x2 x3
    generalize hob : (Obj.cells #[.int .i64 kind, .int .i64 (at_ : Int), .string (s.extract at_ (at_ + len)), .int .i64 n] 30) = ob
    have hQ2 := hQ1.alloc hnb ob
    have d0 : (W1.alloc ob).cell? ⟨w2.heap.size + 1 + 1, 0, none⟩ = some (.int .i64 (pre.length : Int)) := hQ2.bn.cell 0
    have d1 : (W1.alloc ob).frozen? ⟨w2.heap.size + 1 + 1, 0, none⟩ = false := hQ2.bn.frozen 0
    have d2 : (W1.alloc ob).cell? ⟨w2.heap.size, 0, none⟩ = some (.slice (some ⟨b, off, none⟩) ts.length c) := (hQ2.whl (by omega) kw).cell 0
    have d3 : (W1.alloc ob).cell? ⟨w.heap.size, 0, none⟩ = some (.int .i64 stop) := (hQ2.whl (by omega) ks).cell 0
    have y0 := hQ2.cell (by omega) (by omega) x0
    have y1 := hQ2.cell (by omega) (by omega) x1
    have y2 := hQ2.cell (by omega) (by omega) x2
    have y3 := hQ2.cell (by omega) (by omega) x3
    subst hob
    have hT := Whl.new W1 30 #[.int .i64 kind, .int .i64 (at_ : Int), .string (s.extract at_ (at_ + len)), .int .i64 n]
    have u0 : decide ((ts.length : Int) ≤ (pre.length : Int)) = false := by simp; omega
    have u0' : decide (ts.length ≤ pre.length) = false := by simp; omega
    clear x0 x1 x2 x3 hc
    have HQ := Lib.hid hQ2
    have HP := Lib.hid hpre
    clear hQ2 hQ1 hQ hg hp hpre
    have hmx : Tryd.prog.follows .mixedOrders = true := by kernel_rfl
    simp only [tokV]
    cases hst : ((pre.length : Int) + 1 == stop)
    · gi_wp2
      refine quiet_round rfl (by kernel_rfl) (by kernel_rfl) (by kernel_rfl) ?_
      repeat (gi_big_quiet_step (fail))
      refine wpQuietIn_nil ?_
      intro _ hw'
      obtain ⟨nq, hw''⟩ := hw'
      subst hw''
      gi_wp2
      refine ⟨keepB_set (by omega) (by omega) (by omega) (by omega) (by omega), HP.out, ?_⟩
      rw [List.length_append]
      exact (HQ.out.drewN hnb nq).set _ (by simp)
    · gi_wp2
      refine quiet_round rfl (by kernel_rfl) (by kernel_rfl) (by kernel_rfl) ?_
      repeat (gi_big_quiet_step (fail))
      refine wpQuietIn_nil ?_
      intro _ hw'
      obtain ⟨nq, hw''⟩ := hw'
      subst hw''
      gi_wp2
      refine ⟨keepB_set (by omega) (by omega) (by omega) (by omega) (by omega), rfl, ?_, ?_⟩
      · rw [List.length_append]
        exact (HQ.out.drewN hnb nq).set _ (by simp)
      · rw [List.length_append]
        simpa using hst
  case done =>
    rintro W0 W ⟨_, hQ⟩ hg hlt0 _ hK
    have hQ1 := hQ.far hnb (by omega) hg
    have hs1 := hg.size
    have d0 : W.cell? ⟨w2.heap.size + 1 + 1, 0, none⟩ = some (.int .i64 (ts.length : Int)) := hQ1.bn.cell 0
    have d1 : W.frozen? ⟨w2.heap.size + 1 + 1, 0, none⟩ = false := hQ1.bn.frozen 0
    have d2 : W.cell? ⟨w2.heap.size, 0, none⟩ = some (.slice A ts.length c) := (hQ1.whl (by omega) kw).cell 0
    have HQ := Lib.hid hQ1
    clear hQ hQ1 hg
    gi_wp2
    have Q5 : QMem W3 (w2.heap.size + 1 + 1) 0 (W.setCell ⟨w2.heap.size + 1 + 1, 0, none⟩ (.int .i64 0)) := HQ.out.set _ rfl
    have k5 : (W.setCell ⟨w2.heap.size + 1 + 1, 0, none⟩ (.int .i64 0)).heap[W3.heap.size]? = some (.deferred (some [])) := (Below.heap_setCell _ _ _ _ (show W3.heap.size ≠ w2.heap.size + 1 + 1 by omega)).trans hK
    have z5 : W3.heap.size + 1 < (W.setCell ⟨w2.heap.size + 1 + 1, 0, none⟩ (.int .i64 0)).heap.size := by simp; omega
    clear d0 d1 HQ hK
    obtain ⟨W5, hW⟩ : ∃ W5, (W.setCell ⟨w2.heap.size + 1 + 1, 0, none⟩ (.int .i64 0)) = W5 := ⟨_, rfl⟩
    change Code.wpIn _ _ _ _ _ _ (W.setCell ⟨w2.heap.size + 1 + 1, 0, none⟩ (.int .i64 0))
    rw [hW] at Q5 k5 z5 ⊢
    clear hW
    have kv5 : RangeVar W5 := kv.kept Q5.grown.size (Q5.grown.block _ (by omega) (fun e => by have := Option.some.inj e; omega))
    have kc5 := Q5.whl (by omega) kc
    refine wpIn_rangeFunc_T (gf := 31) (ra := #[]) (lb := #[.pointer (some ⟨w2.heap.size + 1, 0, none⟩)]) rfl (enters_of Tryd.func31 (by kernel_rfl) rfl)
      (encs := fun t : TokD => #[tokV s t]) (r := W5.heap.size + 2) (gv := 1) (by omega) (by omega) (by omega)
      (fun o o' => hTk (w2.heap.size + 1) _ _ (((kc5.alloc o).alloc o').cell 0) ((kv5.below (below_alloc (Below.refl _ _) o)).below (below_alloc (Below.refl _ _) o')) (by simp))
      (fun A k o h hk => trivial) (fun _ => rfl)
      (fun pre W => pre <+: ts ∧ QMem W3 (w2.heap.size + 1 + 1) pre.length W ∧ W.heap[W3.heap.size]? = some (.deferred (some []))) (fun _ _ _ => False)
      (fun o o' => ⟨List.nil_prefix, (Q5.alloc hnb o).alloc hnb o', (Below.heap_alloc _ _ _ (by simp; omega)).trans ((Below.heap_alloc _ _ _ (by omega)).trans k5)⟩) (fun pre A o h => ⟨h.1, h.2.1.putObj hnb (by omega) o, (World.putObj_heap_other (by omega)).trans h.2.2⟩) (fun c pre A o h => h)
      (fun t k => { tmps := #[.string s, .int .i64 stop, undef, .pointer (some ⟨w.heap.size, 0, none⟩), .pointer (some ⟨w.heap.size + 1, 0, none⟩), .pointer (some ⟨w2.heap.size, 0, none⟩), .int .i64 xe, .int .i64 (xp : Int), .func (.func 31) #[] #[.pointer (some ⟨w2.heap.size + 1, 0, none⟩)], .pointer (some ⟨w2.heap.size + 1 + 1, 0, none⟩), undef, .pointer (some ⟨k, 0, none⟩), .bool true, .bool false, .tuple #[.slice A ts.length c, .int .i64 xe, .int .i64 (xp : Int)], .string s, .tuple #[.slice A ts.length c, .int .i64 xe, .int .i64 (xp : Int)], .slice A ts.length c, .int .i64 xe, .int .i64 (xp : Int), .string s, .func (.func 31) #[] #[.pointer (some ⟨w2.heap.size + 1, 0, none⟩)], .func (.func 31) #[] #[.pointer (some ⟨w2.heap.size + 1, 0, none⟩)], undef, undef, undef, undef, undef, undef, undef, undef, undef, undef, undef, undef, undef, undef, undef, undef, undef, undef, .int .i64 (ts.length : Int), .slice A ts.length c, .int .i64 (ts.length : Int), .bool false, .bool false, undef, undef, undef, .bool false, .func (.func 31) #[] #[.pointer (some ⟨w2.heap.size + 1, 0, none⟩)], tokV s t, undef, undef, undef, undef, undef, undef, undef, undef, undef, undef, undef, undef, undef, undef, undef, undef, undef, undef], defers := [] })
      (fun t => .cells #[.int .i64 t.kind, .int .i64 (t.at_ : Int), .string (s.extract t.at_ (t.at_ + t.len)), .int .i64 t.n] 30) ?assign2 ?body2 ?done2 ?stop2
    case assign2 =>
      rintro l ⟨kind, at_, len, n⟩ W K hK
      simp only [tokV] at hK ⊢
      gi_wp2
      exact hK
    case body2 =>
      rintro l pre x W0 W1 ⟨hp, hQ, hk⟩ hg hlt0 hpre
      obtain ⟨hl, hx⟩ := pre_snocT hpre
      have hQ1 := hQ.far hnb (by omega) hg
      have hk1 : W1.heap[W3.heap.size]? = some (.deferred (some [])) := (hg.block _ (by omega) (fun e => by have := Option.some.inj e; omega)).trans hk
      obtain ⟨b, off, rfl, hlb, hc⟩ := kt (by omega)
      obtain ⟨x0, x1, x2, x3⟩ := hc pre.length hl
      rw [hx] at x0 x1 x2 x3
      have hz1 : W3.heap.size ≤ W1.heap.size := hQ1.grown.size
      obtain ⟨kind, at_, len, n⟩ := x
      simp only at x0 x1 x2 x3
      generalize hob : (Obj.cells #[.int .i64 kind, .int .i64 (at_ : Int), .string (s.extract at_ (at_ + len)), .int .i64 n] 30) = ob
      have hQ2 := hQ1.alloc hnb ob
      have d0 : (W1.alloc ob).cell? ⟨w2.heap.size + 1 + 1, 0, none⟩ = some (.int .i64 (pre.length : Int)) := hQ2.bn.cell 0
      have d1 : (W1.alloc ob).frozen? ⟨w2.heap.size + 1 + 1, 0, none⟩ = false := hQ2.bn.frozen 0
      have d2 : (W1.alloc ob).cell? ⟨w2.heap.size, 0, none⟩ = some (.slice (some ⟨b, off, none⟩) ts.length c) := (hQ2.whl (by omega) kw).cell 0
      have d3 : (W1.alloc ob).cell? ⟨w.heap.size, 0, none⟩ = some (.int .i64 stop) := (hQ2.whl (by omega) ks).cell 0
      have y0 := hQ2.cell (by omega) (by omega) x0
      have y1 := hQ2.cell (by omega) (by omega) x1
      have y2 := hQ2.cell (by omega) (by omega) x2
      have y3 := hQ2.cell (by omega) (by omega) x3
      subst hob
      have hT := Whl.new W1 30 #[.int .i64 kind, .int .i64 (at_ : Int), .string (s.extract at_ (at_ + len)), .int .i64 n]
      have u0 : decide ((ts.length : Int) ≤ (pre.length : Int)) = false := by simp; omega
      have u0' : decide (ts.length ≤ pre.length) = false := by simp; omega
      clear x0 x1 x2 x3 hc
      have HQ := Lib.hid hQ2
      have HP := Lib.hid hpre
      clear hQ2 hQ1 hQ hg hp hpre
      have hmx : Tryd.prog.follows .mixedOrders = true := by kernel_rfl
      simp only [tokV]
      gi_wp2
      refine quiet_round rfl (by kernel_rfl) (by kernel_rfl) (by kernel_rfl) ?_
      repeat (gi_big_quiet_step (fail))
      refine wpQuietIn_nil ?_
      intro _ hw'
      obtain ⟨nq, hw''⟩ := hw'
      subst hw''
      gi_wp2
      have hlk : W3.heap.size < W1.heap.size := (Array.getElem?_eq_some_iff.1 hk1).1
      refine ⟨keepB_set (by omega) (by omega) (by omega) (by omega) (by omega), HP.out, ?_, ?_⟩
      · rw [List.length_append]
        exact (HQ.out.drewN hnb nq).set _ (by simp)
      · rw [Below.heap_setCell _ _ _ _ (show W3.heap.size ≠ w2.heap.size + 1 + 1 by omega)]
        exact (Below.heap_alloc _ _ _ hlk).trans hk1
    case done2 =>
      rintro W0 W ⟨_, hQ, hk⟩ hg hlt0 _ hK
      have hQ1 := hQ.far hnb (by omega) hg
      have hs1 := hg.size
      have hk1 : W.heap[W3.heap.size]? = some (.deferred (some [])) := (hg.block _ (by omega) (fun e => by have := Option.some.inj e; omega)).trans hk
      have d0 : W.cell? ⟨w2.heap.size + 1 + 1, 0, none⟩ = some (.int .i64 (ts.length : Int)) := hQ1.bn.cell 0
      have d2 : W.cell? ⟨w2.heap.size, 0, none⟩ = some (.slice A ts.length c) := (hQ1.whl (by omega) kw).cell 0
      have hr1 := hQ1.whl (b := w.heap.size + 1) (by omega) kr
      have d3 := hr1.cell 0
      have d4 := hr1.frozen 0
      have HQ := Lib.hid hQ1
      clear hQ hQ1 hg hk
      gi_wp2
      have hkA : (W.setCell ⟨w.heap.size + 1, 0, none⟩ (.bool true)).heap[W5.heap.size]? = some (.deferred (some [])) := (Below.heap_setCell _ _ _ _ (show W5.heap.size ≠ w.heap.size + 1 by omega)).trans hK
      have hkB : ((W.setCell ⟨w.heap.size + 1, 0, none⟩ (.bool true)).putObj W5.heap.size (.deferred none)).heap[W3.heap.size]? = some (.deferred (some [])) := (World.putObj_heap_other (by omega)).trans ((Below.heap_setCell _ _ _ _ (show W3.heap.size ≠ w.heap.size + 1 by omega)).trans hk1)
      have hr2 : Whl (((W.setCell ⟨w.heap.size + 1, 0, none⟩ (.bool true)).putObj W5.heap.size (.deferred none)).putObj W3.heap.size (.deferred none)) (w.heap.size + 1) 4 #[.bool true] := (World.putObj_heap_other (by omega)).trans ((World.putObj_heap_other (by omega)).trans (show Whl _ _ _ _ by simpa using hr1.put 0 (.bool true)))
      have hr3 := hr2.cell 0
      refine ⟨by simp, .inl ⟨_, _, rfl, run_takeDeferred hkA, ?_⟩⟩
      refine ⟨by simp, .inl ⟨_, _, rfl, run_takeDeferred hkB, ?_⟩⟩
      refine ⟨.bool true, by simp [results, Tryd.f9, go_sem, hr3], rfl, ?_⟩
      exact below_putObj (below_putObj ((kb.trans (below_of_grown HQ.out.grown (by omega) kb.size)).setCell (by simp) _) (by omega) _) (by omega) _
    case stop2 =>
      rintro c1 pre W0 W _ h
      exact h.elim
  case stop =>
    rintro c1 pre W0 W hpre ⟨rfl, hQ, hst⟩ hg hlt0 hK
    have hQ1 := hQ.far hnb (by omega) hg
    have hs1 := hg.size
    have d0 : W.cell? ⟨w2.heap.size + 1 + 1, 0, none⟩ = some (.int .i64 (pre.length : Int)) := hQ1.bn.cell 0
    have d1 : W.frozen? ⟨w2.heap.size + 1 + 1, 0, none⟩ = false := hQ1.bn.frozen 0
    have d2 : W.cell? ⟨w2.heap.size, 0, none⟩ = some (.slice A ts.length c) := (hQ1.whl (by omega) kw).cell 0
    have d3 : W.cell? ⟨w.heap.size, 0, none⟩ = some (.int .i64 stop) := (hQ1.whl (by omega) ks).cell 0
    have u1 : ((pre.length : Int) != stop) = false := by simpa using hst
    have u2 : ((pre.length : Int) == stop) = true := by simpa using hst
    have HQ := Lib.hid hQ1
    clear hQ hQ1 hg hst
    by_cases hpl : pre.length = ts.length
    · have u3 : ((pre.length : Int) != (ts.length : Int)) = false := by simp [hpl]
      have u4 : ((pre.length : Int) == (ts.length : Int)) = true := by simp [hpl]
      clear hpl
      gi_wp2
      have Q5 : QMem W3 (w2.heap.size + 1 + 1) 0 (W.setCell ⟨w2.heap.size + 1 + 1, 0, none⟩ (.int .i64 0)) := HQ.out.set _ rfl
      have k5 : (W.setCell ⟨w2.heap.size + 1 + 1, 0, none⟩ (.int .i64 0)).heap[W3.heap.size]? = some (.deferred (some [])) := (Below.heap_setCell _ _ _ _ (show W3.heap.size ≠ w2.heap.size + 1 + 1 by omega)).trans hK
      have z5 : W3.heap.size + 1 < (W.setCell ⟨w2.heap.size + 1 + 1, 0, none⟩ (.int .i64 0)).heap.size := by simp; omega
      clear d0 d1 HQ hK
      obtain ⟨W5, hW⟩ : ∃ W5, (W.setCell ⟨w2.heap.size + 1 + 1, 0, none⟩ (.int .i64 0)) = W5 := ⟨_, rfl⟩
      change Code.wpIn _ _ _ _ _ _ (W.setCell ⟨w2.heap.size + 1 + 1, 0, none⟩ (.int .i64 0))
      rw [hW] at Q5 k5 z5 ⊢
      clear hW
      have kv5 : RangeVar W5 := kv.kept Q5.grown.size (Q5.grown.block _ (by omega) (fun e => by have := Option.some.inj e; omega))
      have kc5 := Q5.whl (by omega) kc
      refine wpIn_rangeFunc_T (gf := 31) (ra := #[]) (lb := #[.pointer (some ⟨w2.heap.size + 1, 0, none⟩)]) rfl (enters_of Tryd.func31 (by kernel_rfl) rfl)
        (encs := fun t : TokD => #[tokV s t]) (r := W5.heap.size + 2) (gv := 1) (by omega) (by omega) (by omega)
        (fun o o' => hTk (w2.heap.size + 1) _ _ (((kc5.alloc o).alloc o').cell 0) ((kv5.below (below_alloc (Below.refl _ _) o)).below (below_alloc (Below.refl _ _) o')) (by simp))
        (fun A k o h hk => trivial) (fun _ => rfl)
        (fun pre W => pre <+: ts ∧ QMem W3 (w2.heap.size + 1 + 1) pre.length W ∧ W.heap[W3.heap.size]? = some (.deferred (some []))) (fun _ _ _ => False)
        (fun o o' => ⟨List.nil_prefix, (Q5.alloc hnb o).alloc hnb o', (Below.heap_alloc _ _ _ (by simp; omega)).trans ((Below.heap_alloc _ _ _ (by omega)).trans k5)⟩) (fun pre A o h => ⟨h.1, h.2.1.putObj hnb (by omega) o, (World.putObj_heap_other (by omega)).trans h.2.2⟩) (fun c pre A o h => h)
        (fun t k => { tmps := #[.string s, .int .i64 stop, undef, .pointer (some ⟨w.heap.size, 0, none⟩), .pointer (some ⟨w.heap.size + 1, 0, none⟩), .pointer (some ⟨w2.heap.size, 0, none⟩), .int .i64 xe, .int .i64 (xp : Int), .func (.func 31) #[] #[.pointer (some ⟨w2.heap.size + 1, 0, none⟩)], .pointer (some ⟨w2.heap.size + 1 + 1, 0, none⟩), undef, .pointer (some ⟨k, 0, none⟩), .bool true, .bool false, .tuple #[.slice A ts.length c, .int .i64 xe, .int .i64 (xp : Int)], .string s, .tuple #[.slice A ts.length c, .int .i64 xe, .int .i64 (xp : Int)], .slice A ts.length c, .int .i64 xe, .int .i64 (xp : Int), .string s, .func (.func 31) #[] #[.pointer (some ⟨w2.heap.size + 1, 0, none⟩)], .func (.func 31) #[] #[.pointer (some ⟨w2.heap.size + 1, 0, none⟩)], undef, undef, undef, undef, undef, undef, undef, undef, undef, undef, undef, undef, undef, undef, undef, undef, undef, undef, .int .i64 (pre.length : Int), .slice A ts.length c, .int .i64 (ts.length : Int), .bool false, .bool false, undef, undef, undef, .bool false, .func (.func 31) #[] #[.pointer (some ⟨w2.heap.size + 1, 0, none⟩)], tokV s t, undef, undef, undef, undef, undef, undef, undef, undef, undef, undef, undef, undef, undef, undef, undef, undef, undef, undef], defers := [] })
        (fun t => .cells #[.int .i64 t.kind, .int .i64 (t.at_ : Int), .string (s.extract t.at_ (t.at_ + t.len)), .int .i64 t.n] 30) ?assign2 ?body2 ?done2 ?stop2
      case assign2 =>
        rintro l ⟨kind, at_, len, n⟩ W K hK
        simp only [tokV] at hK ⊢
        gi_wp2
        exact hK
      case body2 =>
        rintro l pre x W0 W1 ⟨hp, hQ, hk⟩ hg hlt0 hpre
        obtain ⟨hl, hx⟩ := pre_snocT hpre
        have hQ1 := hQ.far hnb (by omega) hg
        have hk1 : W1.heap[W3.heap.size]? = some (.deferred (some [])) := (hg.block _ (by omega) (fun e => by have := Option.some.inj e; omega)).trans hk
        obtain ⟨b, off, rfl, hlb, hc⟩ := kt (by omega)
        obtain ⟨x0, x1, x2, x3⟩ := hc pre.length hl
        rw [hx] at x0 x1 x2 x3
        have hz1 : W3.heap.size ≤ W1.heap.size := hQ1.grown.size
        obtain ⟨kind, at_, len, n⟩ := x
        simp only at x0 x1 x2 x3
        generalize hob : (Obj.cells #[.int .i64 kind, .int .i64 (at_ : Int), .string (s.extract at_ (at_ + len)), .int .i64 n] 30) = ob
        have hQ2 := hQ1.alloc hnb ob
        have d0 : (W1.alloc ob).cell? ⟨w2.heap.size + 1 + 1, 0, none⟩ = some (.int .i64 (pre.length : Int)) := hQ2.bn.cell 0
        have d1 : (W1.alloc ob).frozen? ⟨w2.heap.size + 1 + 1, 0, none⟩ = false := hQ2.bn.frozen 0
        have d2 : (W1.alloc ob).cell? ⟨w2.heap.size, 0, none⟩ = some (.slice (some ⟨b, off, none⟩) ts.length c) := (hQ2.whl (by omega) kw).cell 0
        have d3 : (W1.alloc ob).cell? ⟨w.heap.size, 0, none⟩ = some (.int .i64 stop) := (hQ2.whl (by omega) ks).cell 0
        have y0 := hQ2.cell (by omega) (by omega) x0
        have y1 := hQ2.cell (by omega) (by omega) x1
        have y2 := hQ2.cell (by omega) (by omega) x2
        have y3 := hQ2.cell (by omega) (by omega) x3
        subst hob
        have hT := Whl.new W1 30 #[.int .i64 kind, .int .i64 (at_ : Int), .string (s.extract at_ (at_ + len)), .int .i64 n]
        have u0 : decide ((ts.length : Int) ≤ (pre.length : Int)) = false := by simp; omega
        have u0' : decide (ts.length ≤ pre.length) = false := by simp; omega
        clear x0 x1 x2 x3 hc
        have HQ := Lib.hid hQ2
        have HP := Lib.hid hpre
        clear hQ2 hQ1 hQ hg hp hpre
        have hmx : Tryd.prog.follows .mixedOrders = true := by kernel_rfl
        simp only [tokV]
        gi_wp2
        refine quiet_round rfl (by kernel_rfl) (by kernel_rfl) (by kernel_rfl) ?_
        repeat (gi_big_quiet_step (fail))
        refine wpQuietIn_nil ?_
        intro _ hw'
        obtain ⟨nq, hw''⟩ := hw'
        subst hw''
        gi_wp2
        have hlk : W3.heap.size < W1.heap.size := (Array.getElem?_eq_some_iff.1 hk1).1
        refine ⟨keepB_set (by omega) (by omega) (by omega) (by omega) (by omega), HP.out, ?_, ?_⟩
        · rw [List.length_append]
          exact (HQ.out.drewN hnb nq).set _ (by simp)
        · rw [Below.heap_setCell _ _ _ _ (show W3.heap.size ≠ w2.heap.size + 1 + 1 by omega)]
          exact (Below.heap_alloc _ _ _ hlk).trans hk1
      case done2 =>
        rintro W0 W ⟨_, hQ, hk⟩ hg hlt0 _ hK
        have hQ1 := hQ.far hnb (by omega) hg
        have hs1 := hg.size
        have hk1 : W.heap[W3.heap.size]? = some (.deferred (some [])) := (hg.block _ (by omega) (fun e => by have := Option.some.inj e; omega)).trans hk
        have d0 : W.cell? ⟨w2.heap.size + 1 + 1, 0, none⟩ = some (.int .i64 (ts.length : Int)) := hQ1.bn.cell 0
        have d2 : W.cell? ⟨w2.heap.size, 0, none⟩ = some (.slice A ts.length c) := (hQ1.whl (by omega) kw).cell 0
        have hr1 := hQ1.whl (b := w.heap.size + 1) (by omega) kr
        have d3 := hr1.cell 0
        have d4 := hr1.frozen 0
        have HQ := Lib.hid hQ1
        clear hQ hQ1 hg hk
        gi_wp2
        have hkA : (W.setCell ⟨w.heap.size + 1, 0, none⟩ (.bool true)).heap[W5.heap.size]? = some (.deferred (some [])) := (Below.heap_setCell _ _ _ _ (show W5.heap.size ≠ w.heap.size + 1 by omega)).trans hK
        have hkB : ((W.setCell ⟨w.heap.size + 1, 0, none⟩ (.bool true)).putObj W5.heap.size (.deferred none)).heap[W3.heap.size]? = some (.deferred (some [])) := (World.putObj_heap_other (by omega)).trans ((Below.heap_setCell _ _ _ _ (show W3.heap.size ≠ w.heap.size + 1 by omega)).trans hk1)
        have hr2 : Whl (((W.setCell ⟨w.heap.size + 1, 0, none⟩ (.bool true)).putObj W5.heap.size (.deferred none)).putObj W3.heap.size (.deferred none)) (w.heap.size + 1) 4 #[.bool true] := (World.putObj_heap_other (by omega)).trans ((World.putObj_heap_other (by omega)).trans (show Whl _ _ _ _ by simpa using hr1.put 0 (.bool true)))
        have hr3 := hr2.cell 0
        refine ⟨by simp, .inl ⟨_, _, rfl, run_takeDeferred hkA, ?_⟩⟩
        refine ⟨by simp, .inl ⟨_, _, rfl, run_takeDeferred hkB, ?_⟩⟩
        refine ⟨.bool true, by simp [results, Tryd.f9, go_sem, hr3], rfl, ?_⟩
        exact below_putObj (below_putObj ((kb.trans (below_of_grown HQ.out.grown (by omega) kb.size)).setCell (by simp) _) (by omega) _) (by omega) _
      case stop2 =>
        rintro c1 pre W0 W _ h
        exact h.elim
    · have u3 : ((pre.length : Int) != (ts.length : Int)) = true := by simp; omega
      have u4 : ((pre.length : Int) == (ts.length : Int)) = false := by simp; omega
      clear hpl
      gi_wp2
      have Q5 : QMem W3 (w2.heap.size + 1 + 1) 0 (W.setCell ⟨w2.heap.size + 1 + 1, 0, none⟩ (.int .i64 0)) := HQ.out.set _ rfl
      have k5 : (W.setCell ⟨w2.heap.size + 1 + 1, 0, none⟩ (.int .i64 0)).heap[W3.heap.size]? = some (.deferred (some [])) := (Below.heap_setCell _ _ _ _ (show W3.heap.size ≠ w2.heap.size + 1 + 1 by omega)).trans hK
      have z5 : W3.heap.size + 1 < (W.setCell ⟨w2.heap.size + 1 + 1, 0, none⟩ (.int .i64 0)).heap.size := by simp; omega
      clear d0 d1 HQ hK
      obtain ⟨W5, hW⟩ : ∃ W5, (W.setCell ⟨w2.heap.size + 1 + 1, 0, none⟩ (.int .i64 0)) = W5 := ⟨_, rfl⟩
      change Code.wpIn _ _ _ _ _ _ (W.setCell ⟨w2.heap.size + 1 + 1, 0, none⟩ (.int .i64 0))
      rw [hW] at Q5 k5 z5 ⊢
      clear hW
      have kv5 : RangeVar W5 := kv.kept Q5.grown.size (Q5.grown.block _ (by omega) (fun e => by have := Option.some.inj e; omega))
      have kc5 := Q5.whl (by omega) kc
      refine wpIn_rangeFunc_T (gf := 31) (ra := #[]) (lb := #[.pointer (some ⟨w2.heap.size + 1, 0, none⟩)]) rfl (enters_of Tryd.func31 (by kernel_rfl) rfl)
        (encs := fun t : TokD => #[tokV s t]) (r := W5.heap.size + 2) (gv := 1) (by omega) (by omega) (by omega)
        (fun o o' => hTk (w2.heap.size + 1) _ _ (((kc5.alloc o).alloc o').cell 0) ((kv5.below (below_alloc (Below.refl _ _) o)).below (below_alloc (Below.refl _ _) o')) (by simp))
        (fun A k o h hk => trivial) (fun _ => rfl)
        (fun pre W => pre <+: ts ∧ QMem W3 (w2.heap.size + 1 + 1) pre.length W ∧ W.heap[W3.heap.size]? = some (.deferred (some []))) (fun _ _ _ => False)
        (fun o o' => ⟨List.nil_prefix, (Q5.alloc hnb o).alloc hnb o', (Below.heap_alloc _ _ _ (by simp; omega)).trans ((Below.heap_alloc _ _ _ (by omega)).trans k5)⟩) (fun pre A o h => ⟨h.1, h.2.1.putObj hnb (by omega) o, (World.putObj_heap_other (by omega)).trans h.2.2⟩) (fun c pre A o h => h)
        (fun t k => { tmps := #[.string s, .int .i64 stop, undef, .pointer (some ⟨w.heap.size, 0, none⟩), .pointer (some ⟨w.heap.size + 1, 0, none⟩), .pointer (some ⟨w2.heap.size, 0, none⟩), .int .i64 xe, .int .i64 (xp : Int), .func (.func 31) #[] #[.pointer (some ⟨w2.heap.size + 1, 0, none⟩)], .pointer (some ⟨w2.heap.size + 1 + 1, 0, none⟩), undef, .pointer (some ⟨k, 0, none⟩), .bool true, .bool false, .tuple #[.slice A ts.length c, .int .i64 xe, .int .i64 (xp : Int)], .string s, .tuple #[.slice A ts.length c, .int .i64 xe, .int .i64 (xp : Int)], .slice A ts.length c, .int .i64 xe, .int .i64 (xp : Int), .string s, .func (.func 31) #[] #[.pointer (some ⟨w2.heap.size + 1, 0, none⟩)], .func (.func 31) #[] #[.pointer (some ⟨w2.heap.size + 1, 0, none⟩)], undef, undef, undef, undef, undef, undef, undef, undef, undef, undef, undef, undef, undef, undef, undef, undef, undef, undef, .int .i64 (pre.length : Int), .slice A ts.length c, .int .i64 (ts.length : Int), .bool true, .bool true, .int .i64 (pre.length : Int), .int .i64 stop, .bool false, .bool false, .func (.func 31) #[] #[.pointer (some ⟨w2.heap.size + 1, 0, none⟩)], tokV s t, undef, undef, undef, undef, undef, undef, undef, undef, undef, undef, undef, undef, undef, undef, undef, undef, undef, undef], defers := [] })
        (fun t => .cells #[.int .i64 t.kind, .int .i64 (t.at_ : Int), .string (s.extract t.at_ (t.at_ + t.len)), .int .i64 t.n] 30) ?assign2 ?body2 ?done2 ?stop2
      case assign2 =>
        rintro l ⟨kind, at_, len, n⟩ W K hK
        simp only [tokV] at hK ⊢
        gi_wp2
        exact hK
      case body2 =>
        rintro l pre x W0 W1 ⟨hp, hQ, hk⟩ hg hlt0 hpre
        obtain ⟨hl, hx⟩ := pre_snocT hpre
        have hQ1 := hQ.far hnb (by omega) hg
        have hk1 : W1.heap[W3.heap.size]? = some (.deferred (some [])) := (hg.block _ (by omega) (fun e => by have := Option.some.inj e; omega)).trans hk
        obtain ⟨b, off, rfl, hlb, hc⟩ := kt (by omega)
        obtain ⟨x0, x1, x2, x3⟩ := hc pre.length hl
        rw [hx] at x0 x1 x2 x3
        have hz1 : W3.heap.size ≤ W1.heap.size := hQ1.grown.size
        obtain ⟨kind, at_, len, n⟩ := x
        simp only at x0 x1 x2 x3
        generalize hob : (Obj.cells #[.int .i64 kind, .int .i64 (at_ : Int), .string (s.extract at_ (at_ + len)), .int .i64 n] 30) = ob
        have hQ2 := hQ1.alloc hnb ob
        have d0 : (W1.alloc ob).cell? ⟨w2.heap.size + 1 + 1, 0, none⟩ = some (.int .i64 (pre.length : Int)) := hQ2.bn.cell 0
        have d1 : (W1.alloc ob).frozen? ⟨w2.heap.size + 1 + 1, 0, none⟩ = false := hQ2.bn.frozen 0
        have d2 : (W1.alloc ob).cell? ⟨w2.heap.size, 0, none⟩ = some (.slice (some ⟨b, off, none⟩) ts.length c) := (hQ2.whl (by omega) kw).cell 0
        have d3 : (W1.alloc ob).cell? ⟨w.heap.size, 0, none⟩ = some (.int .i64 stop) := (hQ2.whl (by omega) ks).cell 0
        have y0 := hQ2.cell (by omega) (by omega) x0
        have y1 := hQ2.cell (by omega) (by omega) x1
        have y2 := hQ2.cell (by omega) (by omega) x2
        have y3 := hQ2.cell (by omega) (by omega) x3
        subst hob
        have hT := Whl.new W1 30 #[.int .i64 kind, .int .i64 (at_ : Int), .string (s.extract at_ (at_ + len)), .int .i64 n]
        have u0 : decide ((ts.length : Int) ≤ (pre.length : Int)) = false := by simp; omega
        have u0' : decide (ts.length ≤ pre.length) = false := by simp; omega
        clear x0 x1 x2 x3 hc
        have HQ := Lib.hid hQ2
        have HP := Lib.hid hpre
        clear hQ2 hQ1 hQ hg hp hpre
        have hmx : Tryd.prog.follows .mixedOrders = true := by kernel_rfl
        simp only [tokV]
        gi_wp2
        refine quiet_round rfl (by kernel_rfl) (by kernel_rfl) (by kernel_rfl) ?_
        repeat (gi_big_quiet_step (fail))
        refine wpQuietIn_nil ?_
        intro _ hw'
        obtain ⟨nq, hw''⟩ := hw'
        subst hw''
        gi_wp2
        have hlk : W3.heap.size < W1.heap.size := (Array.getElem?_eq_some_iff.1 hk1).1
        refine ⟨keepB_set (by omega) (by omega) (by omega) (by omega) (by omega), HP.out, ?_, ?_⟩
        · rw [List.length_append]
          exact (HQ.out.drewN hnb nq).set _ (by simp)
        · rw [Below.heap_setCell _ _ _ _ (show W3.heap.size ≠ w2.heap.size + 1 + 1 by omega)]
          exact (Below.heap_alloc _ _ _ hlk).trans hk1
      case done2 =>
        rintro W0 W ⟨_, hQ, hk⟩ hg hlt0 _ hK
        have hQ1 := hQ.far hnb (by omega) hg
        have hs1 := hg.size
        have hk1 : W.heap[W3.heap.size]? = some (.deferred (some [])) := (hg.block _ (by omega) (fun e => by have := Option.some.inj e; omega)).trans hk
        have d0 : W.cell? ⟨w2.heap.size + 1 + 1, 0, none⟩ = some (.int .i64 (ts.length : Int)) := hQ1.bn.cell 0
        have d2 : W.cell? ⟨w2.heap.size, 0, none⟩ = some (.slice A ts.length c) := (hQ1.whl (by omega) kw).cell 0
        have hr1 := hQ1.whl (b := w.heap.size + 1) (by omega) kr
        have d3 := hr1.cell 0
        have d4 := hr1.frozen 0
        have HQ := Lib.hid hQ1
        clear hQ hQ1 hg hk
        gi_wp2
        have hkA : (W.setCell ⟨w.heap.size + 1, 0, none⟩ (.bool true)).heap[W5.heap.size]? = some (.deferred (some [])) := (Below.heap_setCell _ _ _ _ (show W5.heap.size ≠ w.heap.size + 1 by omega)).trans hK
        have hkB : ((W.setCell ⟨w.heap.size + 1, 0, none⟩ (.bool true)).putObj W5.heap.size (.deferred none)).heap[W3.heap.size]? = some (.deferred (some [])) := (World.putObj_heap_other (by omega)).trans ((Below.heap_setCell _ _ _ _ (show W3.heap.size ≠ w.heap.size + 1 by omega)).trans hk1)
        have hr2 : Whl (((W.setCell ⟨w.heap.size + 1, 0, none⟩ (.bool true)).putObj W5.heap.size (.deferred none)).putObj W3.heap.size (.deferred none)) (w.heap.size + 1) 4 #[.bool true] := (World.putObj_heap_other (by omega)).trans ((World.putObj_heap_other (by omega)).trans (show Whl _ _ _ _ by simpa using hr1.put 0 (.bool true)))
        have hr3 := hr2.cell 0
        refine ⟨by simp, .inl ⟨_, _, rfl, run_takeDeferred hkA, ?_⟩⟩
        refine ⟨by simp, .inl ⟨_, _, rfl, run_takeDeferred hkB, ?_⟩⟩
        refine ⟨.bool true, by simp [results, Tryd.f9, go_sem, hr3], rfl, ?_⟩
        exact below_putObj (below_putObj ((kb.trans (below_of_grown HQ.out.grown (by omega) kb.size)).setCell (by simp) _) (by omega) _) (by omega) _
      case stop2 =>
        rintro c1 pre W0 W _ h
        exact h.elim
end Go.Proofs.YtihfllkgoolkhaaDoor
set_option linter.unusedVariables false
namespace Go.Proofs.YtihfllkgoolkhaaDoor.scanSeq
open Go.ChangeShapes Go.WideShapes Go.ChangeAt Go.RowKit
set_option maxRecDepth 100000 in
theorem lifted (os : Os) (started : os.Started) (H : Type) (enc : TypeId × Value → H) :
    ReturnsInHanded {} Tryd.checked os 9 .any (fun w args => (Rows.scanSeqSpec.pre enc Tryd.prog Tryd.f9 [] false w args ∧ laidMetH Tryd.prog laidScan w) ∧ sizedMet enc Tryd.prog Tryd.f9 (OpenSpec.ofChange Rows.scanSeqSpec) false w args) (Rows.scanSeqSpec.post enc Tryd.prog Tryd.f9 false true false false) := by
  refine returnsInHanded_of_change_and (C := Tryd.checked) (X := fun w _ => laidMetH Tryd.prog laidScan w) (fun _ _ _ hh h => h.of_heap hh) own started (by kernel_rfl) Tryd.func9
    (ChangeSpec.witness_shaped (enc := enc) (C := Tryd.checked) (os := os) (X := fun w _ => laidMetH Tryd.prog laidScan w) false (World.doorLaid Tryd.prog 400 os) #[.string .empty, .int .i64 0] 8 rfl (door_shaped os _) (by kernel_rfl) (by kernel_rfl) (by kernel_rfl) (door_met os _)) ?_
  intro W base args ds gs before hval0 hW hcnd hsz0 hL hholds
  have hsz : (DataW.weightsEach Tryd.prog (Tryd.f9.params.toList ++ Rows.scanSeqSpec.plain.varTypes Tryd.prog) (ds ++ gs)).all (· ≤ reachBytes) = true := hsz0
  have ht : RangeVar W := range_of_laid hL
  have hval : ∀ (j : Nat) t v, Tryd.f9.params[j]? = some t → args[j]? = some v → Value.okWide Tryd.prog W .any base t v := hval0
  have hW' := hW
  obtain ⟨p, q, hA0, hV, rfl, hfz, hnd⟩ := hW
  have hA : DataW.TrodAll enc Tryd.prog W 0 (fun _ => true) true Tryd.f9.params.toList args.toList ds p := hA0
  rw [Tryd.params9] at hA hval hsz
  obtain ⟨v0, vs0, d0, ds0, p0, q0, hargs, rfl, rfl, h0, r0⟩ := trodAll_cons hA
  obtain ⟨v1, vs1, d1, ds1, p1, q1, rfl, rfl, rfl, h1, r1⟩ := trodAll_cons r0
  obtain ⟨rfl, rfl, rfl⟩ := trodAll_nil r1
  obtain rfl : args = #[v0, v1] := by cases args; simp_all
  obtain ⟨rfl, rfl⟩ := trodVars_none hV
  obtain ⟨s0, rfl, rfl, rfl, wl0⟩ := Go.ChangeMaps.open_string Tryd.underlying9 (hval 0 9 v0 rfl rfl) h0
  obtain ⟨s1, rfl, rfl, rfl, wl1⟩ := open_int Tryd.underlying3 (hval 1 3 v1 rfl rfl) h1
  clear hA0 hval0
  refine (seqL s0 s1 wl0 W ht).mono fun e W' ⟨he, hb⟩ => ?_
  subst he
  exact ⟨_, rfl, law_post laidOut (by kernel_rfl) (by kernel_rfl) rfl Tryd.underlying4 hW' rfl rfl rfl hb⟩

theorem said : Rows.ScanSeqSaid :=
  OpenClaim.holds_of_wide 9 Tryd.f9 rfl rfl rfl rfl rfl rfl rfl ⟨rfl, rfl, rfl, rfl, rfl⟩ rfl rfl rfl rfl rfl (by kernel_rfl) Tryd.func9 (by kernel_rfl)
    (of_decide_eq_true (by kernel_rfl)) (by unfold Func.isWrapper; first | (rw [if_pos (by decide +kernel)]; kernel_rfl) | (rw [if_neg (by decide +kernel)]; exact ⟨rfl, rfl⟩))
    (fun os started H enc _ => lifted os started H enc)

theorem holds : Rows.ScanSeqCardSaid :=
  Claim7.holds_tied_plain_at .later [] [.data, .data, .data, .sentinel, .sentinel] true _ true
    said (fun _ h => by cases h) (by kernel_rfl) (fun _ h => by cases h) scanSeq_row_tie rfl ⟨rfl, rfl⟩ (by kernel_rfl) rfl
    (fun f fn hf hfn => by
      obtain rfl : f = 9 := Option.some.inj ((show Tryd.prog.funcNamed "soffit/soffitlaw01.ScanSeq" = some 9 by kernel_rfl).symm.trans hf) |>.symm
      obtain rfl : fn = Tryd.f9 := (Option.some.inj (Tryd.func9.symm.trans hfn)).symm
      exact ⟨by kernel_rfl, fun j t ht => by
        rw [Tryd.params9] at ht
        have hm : t ∈ [9, 3] := by simpa using Array.mem_of_getElem? ht
        have hall : ([9, 3].all fun u => !Tryd.prog.wantsStandIn u) = true := by kernel_rfl
        exact (show Tryd.prog.wantsStandIn t = false by simpa using List.all_eq_true.1 hall t hm)⟩)
    (by kernel_rfl)
end Go.Proofs.YtihfllkgoolkhaaDoor.scanSeq
