/-
  ScanKeeps: a list of tokens that is told is its owner's: it may be written over and appended to, and what was told before and is told after stays the same; the calls of awake answer as they should. The five listed variables are tied to the program's text.
-/
import Derived.Test.YtihfllkgoolkhaaDoorTokD
import Derived.Test.YtihfllkgoolkhaaDoorCards
import Derived.Test.YtihfllkgoolkhaaDoorTie
import Derived.SevenTiedAt
import Derived.Stop.Joined
namespace Go.Proofs.YtihfllkgoolkhaaDoor
open Go.RowKit
set_option linter.unusedSimpArgs false
set_option linter.unusedVariables false
/-- What holds while a is written over: nothing but its block has turned since world w6. -/
structure KInv (w w6 : World) (ga : Option Nat) (wr : World) : Prop where
  below : Below w.heap.size w wr
  grown : w6.grownBy wr ga
theorem KInv.step {w w6 wr w' : World} {ga row : Option Nat} (h : KInv w w6 ga wr) (hw : w.heap.size ≤ w6.heap.size) (hg : wr.grownBy w' row) (hr : ∀ g, row = some g → w6.heap.size ≤ g) : KInv w w6 ga w' :=
  ⟨h.below.grown hg h.below.size (fun g e => Nat.le_trans hw (hr g e)), ⟨hg.os.trans h.grown.os, hg.tape.trans h.grown.tape, hg.output.trans h.grown.output, Nat.le_trans h.grown.size hg.size, fun k hk hne =>
    (hg.block k (Nat.lt_of_lt_of_le hk h.grown.size) (fun e => by have := hr k e.symm; omega)).trans (h.grown.block k hk hne)⟩⟩
theorem KInv.alloc {w w6 wr : World} {ga : Option Nat} (h : KInv w w6 ga wr) (o : Obj) : KInv w w6 ga (wr.alloc o) :=
  ⟨below_alloc h.below o, ⟨h.grown.os, h.grown.tape, h.grown.output, Nat.le_trans h.grown.size (by simp), fun k hk hne => (Below.heap_alloc _ _ _ (Nat.lt_of_lt_of_le hk h.grown.size)).trans (h.grown.block k hk hne)⟩⟩
theorem KInv.put {w w6 wr : World} {g : Nat} (h : KInv w w6 (some g) wr) (hg : w.heap.size ≤ g) (i : Nat) (v : Value) : KInv w w6 (some g) (wr.setCell ⟨g, i, none⟩ v) :=
  ⟨h.below.setCell hg _, grown_trans h.grown (grown_setCell _ _ _ _)⟩
/-- What a is while it is appended to. -/
def KRow (w6 : World) (ga n q : Nat) (v : Value) (wr : World) : Prop :=
  (q = 0 ∧ v = .slice (some ⟨ga, 0, none⟩) n n ∧ ∃ c, Whl wr ga 30 c ∧ n * 4 ≤ c.size) ∨ (0 < q ∧ ∃ xs, wr.ownsRow w6.heap.size 30 4 v (n + q) xs)
def KRowN (w6 : World) (A : Option Addr) (q : Nat) (v : Value) (wr : World) : Prop :=
  (q = 0 ∧ v = .slice A 0 0) ∨ (0 < q ∧ ∃ xs, wr.ownsRow w6.heap.size 30 4 v q xs)
theorem own_mono {w : World} {base base' sz : Nat} {e : TypeId} {v : Value} {n : Nat} {xs : List Value} (h : w.ownsRow base e sz v n xs) (hb : base' ≤ base) : w.ownsRow base' e sz v n xs := by
  rcases h with ⟨hl, h0 | ⟨g, cap, cur, rfl, hg, hh⟩⟩
  · exact ⟨hl, .inl h0⟩
  · exact ⟨hl, .inr ⟨g, cap, cur, rfl, Nat.le_trans hb hg, hh⟩⟩
theorem row_cell {w : World} {g n j : Nat} {t : TypeId} {cs : Array Value} {u : Value} (h : Whl w g t cs) (hu : (cs.toList.take n)[j]? = some u) : w.cell? ((⟨g, 0, none⟩ : Addr).add j) = some u := by
  rw [List.getElem?_take] at hu
  split at hu
  · exact World.news_of_block h j u hu
  · cases hu
theorem sameR' (s : ByteArray) (ts : List TokD) {n : Nat} (hh : ts.length = n) (hn : n ≤ 65536) (A B : Option Addr) (c d : Nat) (w : World) (hA : TokAt w A s ts) (hB : TokAt w B s ts) :
    Calls Tryd.prog 13 #[.slice A n c, .slice B n d] w fun e w' => e = .returned (.bool true) ∧ Below w.heap.size w w' := by
  subst hh; exact sameR s ts hn A B c d w hA hB
set_option maxHeartbeats 4000000 in
theorem keepsY (s : ByteArray) (hs : s.size ≤ maxLen) (R : AheadR) (hn : R.toks.length ≤ 65536) (hP : ∀ w, RangeVar w → Calls Tryd.prog 11 #[.string s] w (AllOk s w R)) (hR : ∀ w, Calls Tryd.prog 12 #[.string s] w (AheadOk s w R)) (hpos : 0 < R.toks.length) (w : World) (hv : RangeVar w) : Calls Tryd.prog 8 #[.string s] w fun e w' => e = .returned (.bool true) ∧ Below w.heap.size w w' := by
  obtain ⟨iT, hiT, zT0, zT1, zT2⟩ := info_parts infoT
  go_enter Tryd.func8, Tryd.ntmps8
  go_wp2_with (first
    | (go_at_call 10; refine (awakeP _ hv).mono ?_; rintro e w1 ⟨rfl, hb1⟩; have hv1 := hv.below hb1)
    | (go_at_call 12; refine (hR _).mono ?_; rintro e w2 ⟨⟨v, rfl, ho⟩, hb2⟩; obtain ⟨A2, c2, rfl, _⟩ := own_slice ho; have hv2 := hv1.below hb2; have tok0 : True := trivial)
    | (go_at_call 11; have _t := tok0; refine (hP _ hv2).mono ?_; rintro e w3 ⟨⟨A3, rfl, hr3⟩, hb3⟩; have hv3 := hv2.below hb3; clear tok0; have tok1 : True := trivial)
    | (go_at_call 11; have _t := tok1; refine (hP _ hv3).mono ?_; rintro e w4 ⟨⟨A4, rfl, hr4⟩, hb4⟩; have hv4 := hv3.below hb4; clear tok1; have ta := (hr3.below hb4).tokAt; have tb := hr4.tokAt; have tw := (tokAt_own (own_below (own_below ho hb3) hb4)).2; have tok2 : True := trivial)
    | (go_at_call 13; have _t := tok2; refine (sameR s _ hn _ _ _ _ _ ta tw).mono ?_; rintro e w5 ⟨rfl, hb5⟩; have tb5 := tb.below hb5; have tw5 := tw.below hb5; clear tok2 ta tb tw; have tok3 : True := trivial)
    | (go_at_call 13; have _t := tok3; refine (sameR s _ hn _ _ _ _ _ tb5 tw5).mono ?_; rintro e w6 ⟨rfl, hb6⟩; clear tok3))
  obtain ⟨ga, cur, rfl, hga, hwa, hca, hta⟩ : ∃ g cur, A3 = some ⟨g, 0, none⟩ ∧ w2.heap.size ≤ g ∧ Whl w3 g 30 cur ∧ R.toks.length * 4 ≤ cur.size ∧ cur.toList.take (R.toks.length * 4) = rowT s R.toks := by
    rcases hr3 with ⟨h0, _⟩ | h
    · rw [h0] at hpos; cases hpos
    · exact h
  have z1 := hb1.size
  have z2 := hb2.size
  have z3 := hb3.size
  have z4 := hb4.size
  have z5 := hb5.size
  have z6 := hb6.size
  have lga := hwa.lt
  have hgv := hv1.lt
  have hw6 : Whl w6 ga 30 cur := ((hwa.below' hb4).below' hb5).below' hb6
  have HK : KInv w w6 (some ga) w6 := ⟨below_step (below_step (below_step (below_step (below_step hb1 hb2) hb3) hb4) hb5) hb6, grown_refl _ _⟩
  have HF4 : ∀ wr, KInv w w6 (some ga) wr → TokAt wr A4 s R.toks := fun wr h => (((hr4.below hb5).below hb6).heap fun g h1 h2 _ => h.grown.block g h2 (fun e => by have := Option.some.inj e; omega)).tokAt
  have HFW : ∀ wr, KInv w w6 (some ga) wr → TokAt wr A2 s R.toks := fun wr h => (tokAt_own (own_heap (own_below (own_below (own_below (own_below ho hb3) hb4) hb5) hb6) fun g h1 => h.grown.block g (by have := (ho.lt g h1).2; omega) (fun e => by have := Option.some.inj e; have := (ho.lt g h1).2; omega))).2
  have HFV : ∀ wr, KInv w w6 (some ga) wr → RangeVar wr := fun wr h => ((hv4.below hb5).below hb6).kept h.grown.size (h.grown.block _ (by omega) (fun e => by have := Option.some.inj e; omega))
  have H4 := Lib.hid HF4
  have HW := Lib.hid HFW
  have HV := Lib.hid HFV
  have HP := Lib.hid hP
  clear HF4 HFW HFV hr3 hr4 ho hb1 hb2 hb3 hb4 hb5 hb6 hv1 hv2 hv3 hv4 tb5 tw5 hwa hta hP hR
  generalize hnn : R.toks.length = n at *
  have HN := Lib.hid hnn
  clear hnn
  go_loopw [48] (fun i wr => ∃ (j : Nat) (c2 : Array Value), j ≤ n ∧ i = .int .i64 j ∧ KInv w w6 (some ga) wr ∧ Whl wr ga 30 c2 ∧ c2.size = cur.size) (fun i _ => n - (intOf i).toNat)
  case atStart => exact ⟨0, cur, Nat.zero_le _, rfl, HK, hw6, rfl⟩
  case round =>
    clear HK hw6
    obtain ⟨j, c2, hj, rfl, hK, hW, hz⟩ := hrel
    have hgr := hK.grown.size
    by_cases hlt : j < n
    · obtain ⟨v0, k0⟩ : ∃ v, wr.cell? ⟨ga, j * 4, none⟩ = some v := ⟨_, by rw [hW.cell]; exact Array.getElem?_eq_getElem (by omega)⟩
      obtain ⟨v1, k1⟩ : ∃ v, wr.cell? ⟨ga, j * 4 + 1, none⟩ = some v := ⟨_, by rw [hW.cell]; exact Array.getElem?_eq_getElem (by omega)⟩
      obtain ⟨v2, k2⟩ : ∃ v, wr.cell? ⟨ga, j * 4 + 2, none⟩ = some v := ⟨_, by rw [hW.cell]; exact Array.getElem?_eq_getElem (by omega)⟩
      obtain ⟨v3, k3⟩ : ∃ v, wr.cell? ⟨ga, j * 4 + 3, none⟩ = some v := ⟨_, by rw [hW.cell]; exact Array.getElem?_eq_getElem (by omega)⟩
      have f0 := hW.frozen (j * 4)
      have f1 := hW.frozen (j * 4 + 1)
      have f2 := hW.frozen (j * 4 + 2)
      have f3 := hW.frozen (j * 4 + 3)
      have HQ := Lib.hid hK
      have HWW := Lib.hid hW
      have HZ := Lib.hid hz
      clear hK hW hz
      go_wp2
      go_roundw
      case rel => exact ⟨j + 1, _, by omega, by go_num, (((HQ.out.put (by omega) _ _).put (by omega) _ _).put (by omega) _ _).put (by omega) _ _, (((HWW.out.put _ _).put _ _).put _ _).put _ _, by simp [HZ.out]⟩
      case measure => simp [intOf]; omega
    · obtain rfl : j = n := by omega
      have HK := hK
      have hW0 := hW
      have hz0 : j * 4 ≤ c2.size := by omega
      clear hK hW hz
      go_wp2
      go_loopw [6, 56] (fun v i wr => ∃ q : Nat, q ≤ 40 ∧ i = .int .i64 q ∧ KInv w w6 (some ga) wr ∧ KRow w6 ga j q v wr) (fun _ i _ => 40 - (intOf i).toNat)
      case atStart => exact ⟨0, Nat.zero_le _, rfl, HK, .inl ⟨rfl, rfl, _, hW0, hz0⟩⟩
      case round =>
        clear HK hW0 hz0
        obtain ⟨q, hq, rfl, hK, hrow⟩ := hrel
        have hgr := hK.grown.size
        have HQ := Lib.hid hK
        clear hK
        by_cases hlt : q < 40
        · rcases hrow with ⟨rfl, rfl, c3, hW, hz⟩ | ⟨hq0, xs, hown⟩
          · have HW2 := Lib.hid hW
            clear hW
            go_wp2_with (at_builtin
                         have hN1 := Whl.new wr 30 #[.int .i64 (-2), .int .i64 0, .string ⟨#[]⟩, .int .i64 0]
                         have hWc := HW2.out.alloc (.cells #[.int .i64 (-2), .int .i64 0, .string ⟨#[]⟩, .int .i64 0] 30)
                         refine wpList_append_grows _ rfl _ _ _ rfl 30 iT (.agg #[.int .i64 0, .int .i64 0, .string .empty, .int .i64 0]) 4 40 Tryd.underlying23 hiT zT0 zT1 zT2 rfl (by decide) (some ⟨ga, 0, none⟩) j j (c3.toList.take (j * 4)) rfl (fun h => by cases h) (by rw [List.length_take]; simp; omega) (fun b hb jj u hu => by cases hb; exact row_cell hWc hu) ⟨wr.heap.size, 0, none⟩ 1 1 [.int .i64 (-2), .int .i64 0, .string ⟨#[]⟩, .int .i64 0] rfl rfl (World.news_of_block hN1) (fun u hu => by simp only [List.mem_cons, List.not_mem_nil, or_false] at hu; rcases hu with rfl | rfl | rfl | rfl <;> rfl) (by omega) (by unfold maxLen; omega) (by omega) ?_
                         intro v2 w2 own2 hg2
                         have HE := Lib.hid (And.intro ((HQ.out.alloc (.cells #[.int .i64 (-2), .int .i64 0, .string ⟨#[]⟩, .int .i64 0] 30)).step (by omega) hg2 (fun g e => by cases e)) (own_mono own2 (show w6.heap.size ≤ _ by simp; omega)))
                         clear hN1 hWc own2 hg2)
            go_roundw
            case rel => exact ⟨1, by omega, rfl, HE.out.1, .inr ⟨by omega, _, HE.out.2⟩⟩
            case measure => simp [intOf]
          · have HO := Lib.hid hown
            clear hown
            go_wp2_with (at_builtin
                         have hN1 := Whl.new wr 30 #[.int .i64 (-2), .int .i64 0, .string ⟨#[]⟩, .int .i64 0]
                         have hWc := own_below HO.out (below_alloc (Below.refl wr.heap.size wr) (.cells #[.int .i64 (-2), .int .i64 0, .string ⟨#[]⟩, .int .i64 0] 30))
                         refine wpList_append_own _ rfl _ _ _ rfl w6.heap.size 30 iT (.agg #[.int .i64 0, .int .i64 0, .string .empty, .int .i64 0]) 4 40 Tryd.underlying23 hiT zT0 zT1 zT2 rfl (by decide) _ (j + q) xs rfl hWc ⟨wr.heap.size, 0, none⟩ 1 1 [.int .i64 (-2), .int .i64 0, .string ⟨#[]⟩, .int .i64 0] rfl rfl (World.news_of_block hN1) (fun u hu => by simp only [List.mem_cons, List.not_mem_nil, or_false] at hu; rcases hu with rfl | rfl | rfl | rfl <;> rfl) (by unfold maxLen; omega) (by omega) (by simp; omega) ?_
                         intro v2 w2 own2 hg2 hnil
                         have HE := Lib.hid (And.intro ((HQ.out.alloc (.cells #[.int .i64 (-2), .int .i64 0, .string ⟨#[]⟩, .int .i64 0] 30)).step (by omega) hg2 (fun g e => (hWc.lt g e).1)) own2)
                         clear hN1 hWc own2 hg2 hnil)
            go_roundw
            case rel => exact ⟨q + 1, by omega, by go_num, HE.out.1, .inr ⟨by omega, _, HE.out.2⟩⟩
            case measure => simp [intOf]; omega
        · have hP7 : Calls Tryd.prog 11 #[.string s] wr fun e w' => (∃ A, e = .returned (.tuple #[.slice A j j, .int .i64 R.e, .int .i64 (R.p : Int)]) ∧ RowT w' wr.heap.size A s R.toks) ∧ Below wr.heap.size wr w' := (HP.out wr (HV.out wr HQ.out)).mono fun e w' h => by
            obtain ⟨⟨A, he, hr⟩, hb⟩ := h
            exact ⟨⟨A, by rw [he, HN.out], hr⟩, hb⟩
          have tok4 : True := trivial
          have HZ := Lib.hid hrow
          clear hrow
          go_wp2_with (first
            | (go_at_call 11; (with_reducible refine hP7.mono ?_); rintro e w8 ⟨⟨A8, rfl, hr8⟩, hb8⟩; have tb8 := (H4.out wr HQ.out).below hb8; have tw8 := (HW.out wr HQ.out).below hb8)
            | (go_at_call 13; have _t := tok4; (with_reducible refine (sameR' s _ HN.out hn _ _ _ _ _ tb8 tw8).mono ?_); rintro e w9 ⟨rfl, hb9⟩; have tc9 := hr8.tokAt.below hb9; have tw9 := tw8.below hb9; clear tok4 tb8 tw8; have tok5 : True := trivial)
            | (go_at_call 13; have _t := tok5; (with_reducible refine (sameR' s _ HN.out hn _ _ _ _ _ tc9 tw9).mono ?_); rintro e w10 ⟨rfl, hb10⟩; clear tok5))
          go_ret
          exact ⟨rfl, below_step (below_step (below_step HQ.out.below hb8) hb9) hb10⟩
set_option maxHeartbeats 4000000 in
theorem keepsN (s : ByteArray) (hs : s.size ≤ maxLen) (x : Int) (p : Nat) (hP : ∀ w, RangeVar w → Calls Tryd.prog 11 #[.string s] w (AllOk s w ⟨[], x, p⟩)) (hR : ∀ w, Calls Tryd.prog 12 #[.string s] w (AheadOk s w ⟨[], x, p⟩)) (w : World) (hv : RangeVar w) : Calls Tryd.prog 8 #[.string s] w fun e w' => e = .returned (.bool true) ∧ Below w.heap.size w w' := by
  obtain ⟨iT, hiT, zT0, zT1, zT2⟩ := info_parts infoT
  have hT : ∀ (w : World) A, TokAt w A s [] := fun w A h => by cases h
  have hS : ∀ (A B : Option Addr) (c d : Nat) (w : World), Calls Tryd.prog 13 #[.slice A 0 c, .slice B 0 d] w fun e w' => e = .returned (.bool true) ∧ Below w.heap.size w w' := fun A B c d w => sameR s [] (by decide) A B c d w (hT _ _) (hT _ _)
  have hA : ∀ w, RangeVar w → Calls Tryd.prog 11 #[.string s] w fun e w' => (∃ A, e = .returned (.tuple #[.slice A 0 0, .int .i64 x, .int .i64 (p : Int)])) ∧ Below w.heap.size w w' := fun w hv => (hP w hv).mono fun e w' ⟨⟨A, he, hr⟩, hb⟩ => ⟨⟨A, he⟩, hb⟩
  go_enter Tryd.func8, Tryd.ntmps8
  go_wp2_with (first
    | (go_at_call 10; refine (awakeP _ hv).mono ?_; rintro e w1 ⟨rfl, hb1⟩; have hv1 := hv.below hb1)
    | (go_at_call 12; refine (hR _).mono ?_; rintro e w2 ⟨⟨v, rfl, ho⟩, hb2⟩; obtain ⟨A2, c2, rfl, _⟩ := own_slice ho; have hv2 := hv1.below hb2; clear ho; have tok0 : True := trivial)
    | (go_at_call 11; have _t := tok0; refine (hA _ hv2).mono ?_; rintro e w3 ⟨⟨A3, rfl⟩, hb3⟩; have hv3 := hv2.below hb3; clear tok0; have tok1 : True := trivial)
    | (go_at_call 11; have _t := tok1; refine (hA _ hv3).mono ?_; rintro e w4 ⟨⟨A4, rfl⟩, hb4⟩; have hv4 := hv3.below hb4; clear tok1; have tok2 : True := trivial)
    | (go_at_call 13; have _t := tok2; refine (hS _ _ _ _ _).mono ?_; rintro e w5 ⟨rfl, hb5⟩; clear tok2; have tok3 : True := trivial)
    | (go_at_call 13; have _t := tok3; refine (hS _ _ _ _ _).mono ?_; rintro e w6 ⟨rfl, hb6⟩; clear tok3))
  have hv6 := (hv4.below hb5).below hb6
  have hB := below_step (below_step (below_step (below_step (below_step hb1 hb2) hb3) hb4) hb5) hb6
  have hz := hB.size
  have HK := Lib.hid hB
  have HV := Lib.hid hv6
  clear hb1 hb2 hb3 hb4 hb5 hb6 hv1 hv2 hv3 hv4 hB hv6
  go_loopw [48] (fun i wr => i = .int .i64 0 ∧ w6 = wr) (fun i _ => 0)
  case atStart => exact ⟨rfl, rfl⟩
  case round =>
    obtain ⟨rfl, rfl⟩ := hrel
    go_wp2
    go_loopw [6, 56] (fun v i wr => ∃ q, q ≤ 40 ∧ i = .int .i64 (q : Nat) ∧ Below w.heap.size w wr ∧ Below w6.heap.size w6 wr ∧ KRowN w6 A3 q v wr) (fun _ i _ => 40 - (intOf i).toNat)
    case atStart => exact ⟨0, Nat.zero_le _, rfl, HK.out, Below.refl _ _, .inl ⟨rfl, rfl⟩⟩
    case round =>
      obtain ⟨q, hq, rfl, hb, hb6, hrow⟩ := hrel
      have hgr := hb6.size
      have HB := Lib.hid hb
      have HB6 := Lib.hid hb6
      clear hb hb6
      by_cases hlt : q < 40
      · rcases hrow with ⟨rfl, rfl⟩ | ⟨hq0, xs, hown⟩
        · go_wp2_with (at_builtin
                       have hN1 := Whl.new wr 30 #[.int .i64 (-2), .int .i64 0, .string ⟨#[]⟩, .int .i64 0]
                       refine wpList_append_grows _ rfl _ _ _ rfl 30 iT (.agg #[.int .i64 0, .int .i64 0, .string .empty, .int .i64 0]) 4 40 Tryd.underlying23 hiT zT0 zT1 zT2 rfl (by decide) A3 0 0 [] rfl (fun h => ⟨rfl, rfl⟩) rfl (fun b hb jj u hu => by cases hu) ⟨wr.heap.size, 0, none⟩ 1 1 [.int .i64 (-2), .int .i64 0, .string ⟨#[]⟩, .int .i64 0] rfl rfl (World.news_of_block hN1) (fun u hu => by simp only [List.mem_cons, List.not_mem_nil, or_false] at hu; rcases hu with rfl | rfl | rfl | rfl <;> rfl) (by omega) (by unfold maxLen; omega) (by omega) ?_
                       intro v2 w2 own2 hg2
                       have HE := Lib.hid (And.intro ((below_alloc HB.out (.cells #[.int .i64 (-2), .int .i64 0, .string ⟨#[]⟩, .int .i64 0] 30)).grown hg2 (below_alloc HB.out _).size (fun g e => by cases e)) (And.intro ((below_alloc HB6.out (.cells #[.int .i64 (-2), .int .i64 0, .string ⟨#[]⟩, .int .i64 0] 30)).grown hg2 (below_alloc HB6.out _).size (fun g e => by cases e)) (own_mono own2 (show w6.heap.size ≤ _ by simp; omega))))
                       clear hN1 own2 hg2)
          go_roundw
          case rel => exact ⟨1, by omega, rfl, HE.out.1, HE.out.2.1, .inr ⟨by omega, _, HE.out.2.2⟩⟩
          case measure => simp [intOf]
        have HO := Lib.hid hown
        clear hown
        go_wp2_with (at_builtin
                     have hN1 := Whl.new wr 30 #[.int .i64 (-2), .int .i64 0, .string ⟨#[]⟩, .int .i64 0]
                     have hWc := own_below HO.out (below_alloc (Below.refl wr.heap.size wr) (.cells #[.int .i64 (-2), .int .i64 0, .string ⟨#[]⟩, .int .i64 0] 30))
                     refine wpList_append_own _ rfl _ _ _ rfl w6.heap.size 30 iT (.agg #[.int .i64 0, .int .i64 0, .string .empty, .int .i64 0]) 4 40 Tryd.underlying23 hiT zT0 zT1 zT2 rfl (by decide) _ q xs rfl hWc ⟨wr.heap.size, 0, none⟩ 1 1 [.int .i64 (-2), .int .i64 0, .string ⟨#[]⟩, .int .i64 0] rfl rfl (World.news_of_block hN1) (fun u hu => by simp only [List.mem_cons, List.not_mem_nil, or_false] at hu; rcases hu with rfl | rfl | rfl | rfl <;> rfl) (by unfold maxLen; omega) (by omega) (by simp; omega) ?_
                     intro v2 w2 own2 hg2 hnil
                     have HE := Lib.hid (And.intro ((below_alloc HB.out (.cells #[.int .i64 (-2), .int .i64 0, .string ⟨#[]⟩, .int .i64 0] 30)).grown hg2 (below_alloc HB.out _).size (fun g e => by have := (hWc.lt g e).1; omega)) (And.intro ((below_alloc HB6.out (.cells #[.int .i64 (-2), .int .i64 0, .string ⟨#[]⟩, .int .i64 0] 30)).grown hg2 (below_alloc HB6.out _).size (fun g e => (hWc.lt g e).1)) own2))
                     clear hN1 hWc own2 hg2 hnil)
        go_roundw
        case rel => exact ⟨q + 1, by omega, by go_num, HE.out.1, HE.out.2.1, .inr ⟨by omega, _, HE.out.2.2⟩⟩
        case measure => simp [intOf]; omega
      · have hv7 := HV.out.below HB6.out
        have HZ := Lib.hid hrow
        clear hrow
        go_wp2_with (first
          | (go_at_call 11; (with_reducible refine (hA _ hv7).mono ?_); rintro e w8 ⟨⟨A8, rfl⟩, hb8⟩; have tok4 : True := trivial)
          | (go_at_call 13; have _t := tok4; refine (hS _ _ _ _ _).mono ?_; rintro e w9 ⟨rfl, hb9⟩; clear tok4; have tok5 : True := trivial)
          | (go_at_call 13; have _t := tok5; refine (hS _ _ _ _ _).mono ?_; rintro e w10 ⟨rfl, hb10⟩; clear tok5))
        go_ret
        exact ⟨rfl, below_step (below_step (below_step HB.out hb8) hb9) hb10⟩
theorem keepsL (s : ByteArray) (hs : s.size ≤ maxLen) (w : World) (hv : RangeVar w) : Calls Tryd.prog 8 #[.string s] w fun e w' => e = .returned (.bool true) ∧ Below w.heap.size w w' := by
  have hP := allP s hs
  have hR := allR s hs
  have hl := allD_len (bytesOf s)
  cases h : (allD (bytesOf s)).toks with
  | nil =>
    have hE : allD (bytesOf s) = ⟨[], (allD (bytesOf s)).e, (allD (bytesOf s)).p⟩ := by
      generalize allD (bytesOf s) = R at *
      obtain ⟨a, b, c⟩ := R
      simp only at h; rw [h]
    rw [hE] at hP hR
    exact keepsN s hs _ _ hP hR w hv
  | cons t ts => exact keepsY s hs _ hl hP hR (by rw [h]; exact Nat.succ_pos _) w hv
end Go.Proofs.YtihfllkgoolkhaaDoor
set_option linter.unusedVariables false
namespace Go.Proofs.YtihfllkgoolkhaaDoor.scanKeeps
open Go.ChangeShapes Go.WideShapes Go.ChangeAt Go.RowKit
set_option maxRecDepth 100000 in
theorem lifted (os : Os) (started : os.Started) (H : Type) (enc : TypeId × Value → H) :
    ReturnsInHanded {} Tryd.checked os 8 .any (fun w args => (Rows.scanKeepsSpec.pre enc Tryd.prog Tryd.f8 [] false w args ∧ laidMetH Tryd.prog laidScan w) ∧ sizedMet enc Tryd.prog Tryd.f8 (OpenSpec.ofChange Rows.scanKeepsSpec) false w args) (Rows.scanKeepsSpec.post enc Tryd.prog Tryd.f8 false true false false) := by
  refine returnsInHanded_of_change_and (C := Tryd.checked) (X := fun w _ => laidMetH Tryd.prog laidScan w) (fun _ _ _ hh h => h.of_heap hh) own started (by kernel_rfl) Tryd.func8
    (ChangeSpec.witness_shaped (enc := enc) (C := Tryd.checked) (os := os) (X := fun w _ => laidMetH Tryd.prog laidScan w) false (World.doorLaid Tryd.prog 400 os) #[.string .empty] 8 rfl (door_shaped os _) (by kernel_rfl) (by kernel_rfl) (by kernel_rfl) (door_met os _)) ?_
  intro W base args ds gs before hval0 hW hcnd hsz0 hL hholds
  have hsz : (DataW.weightsEach Tryd.prog (Tryd.f8.params.toList ++ Rows.scanKeepsSpec.plain.varTypes Tryd.prog) (ds ++ gs)).all (· ≤ reachBytes) = true := hsz0
  have ht : RangeVar W := range_of_laid hL
  have hval : ∀ (j : Nat) t v, Tryd.f8.params[j]? = some t → args[j]? = some v → Value.okWide Tryd.prog W .any base t v := hval0
  have hW' := hW
  obtain ⟨p, q, hA0, hV, rfl, hfz, hnd⟩ := hW
  have hA : DataW.TrodAll enc Tryd.prog W 0 (fun _ => true) true Tryd.f8.params.toList args.toList ds p := hA0
  rw [Tryd.params8] at hA hval hsz
  obtain ⟨v0, vs0, d0, ds0, p0, q0, hargs, rfl, rfl, h0, r0⟩ := trodAll_cons hA
  obtain ⟨rfl, rfl, rfl⟩ := trodAll_nil r0
  obtain rfl : args = #[v0] := by cases args; simp_all
  obtain ⟨rfl, rfl⟩ := trodVars_none hV
  obtain ⟨s0, rfl, rfl, rfl, wl0⟩ := Go.ChangeMaps.open_string Tryd.underlying9 (hval 0 9 v0 rfl rfl) h0
  clear hA0 hval0
  refine (keepsL s0 wl0 W ht).mono fun e W' ⟨he, hb⟩ => ?_
  subst he
  exact ⟨_, rfl, law_post laidOut (by kernel_rfl) (by kernel_rfl) rfl Tryd.underlying4 hW' rfl rfl rfl hb⟩

theorem said : Rows.ScanKeepsSaid :=
  OpenClaim.holds_of_wide 8 Tryd.f8 rfl rfl rfl rfl rfl rfl rfl ⟨rfl, rfl, rfl, rfl, rfl⟩ rfl rfl rfl rfl rfl (by kernel_rfl) Tryd.func8 (by kernel_rfl)
    (of_decide_eq_true (by kernel_rfl)) (by unfold Func.isWrapper; first | (rw [if_pos (by decide +kernel)]; kernel_rfl) | (rw [if_neg (by decide +kernel)]; exact ⟨rfl, rfl⟩))
    (fun os started H enc _ => lifted os started H enc)

theorem holds : Rows.ScanKeepsCardSaid :=
  Claim7.holds_tied_plain_at .later [] [.data, .data, .data, .sentinel, .sentinel] true _ true
    said (fun _ h => by cases h) (by kernel_rfl) (fun _ h => by cases h) scanKeeps_row_tie rfl ⟨rfl, rfl⟩ (by kernel_rfl) rfl
    (fun f fn hf hfn => by
      obtain rfl : f = 8 := Option.some.inj ((show Tryd.prog.funcNamed "soffit/soffitlaw01.ScanKeeps" = some 8 by kernel_rfl).symm.trans hf) |>.symm
      obtain rfl : fn = Tryd.f8 := (Option.some.inj (Tryd.func8.symm.trans hfn)).symm
      exact ⟨by kernel_rfl, fun j t ht => by
        rw [Tryd.params8] at ht
        have hm : t ∈ [9] := by simpa using Array.mem_of_getElem? ht
        have hall : ([9].all fun u => !Tryd.prog.wantsStandIn u) = true := by kernel_rfl
        exact (show Tryd.prog.wantsStandIn t = false by simpa using List.all_eq_true.1 hall t hm)⟩)
    (by kernel_rfl)
end Go.Proofs.YtihfllkgoolkhaaDoor.scanKeeps
