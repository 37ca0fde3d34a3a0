/-
  Layer 1 (scan): the walk of All.
-/
import Derived.Test.YtihfllkgoolkhaaDoorTokA
import Derived.Test.YtihfllkgoolkhaaDoorScanJ
import Derived.Test.YtihfllkgoolkhaaDoorScanK
import Derived.Test.YtihfllkgoolkhaaDoorScanP
namespace Go.Proofs.YtihfllkgoolkhaaDoor
open Go.RowKit Go.Shelf
set_option linter.unusedSimpArgs false
set_option linter.unusedVariables false
attribute [local go_sem] Oper.semAt_some

theorem aheadF_len (L : List UInt8) : ∀ n k, (aheadF L n k).toks.length ≤ L.length - k
  | 0, k => Nat.zero_le _
  | n + 1, k => by
    rw [aheadF]
    by_cases hk : k < L.length
    · rw [if_pos hk]
      cases ho : oneD L k with
      | err e => exact Nat.zero_le _
      | tok t =>
        have hp := (oneD_pos hk ho).1
        have hs := skipD_ge L (k + t.len)
        have := aheadF_len L n (skipD L (k + t.len))
        simp only [List.length_cons]; omega
    · rw [if_neg hk]; exact Nat.zero_le _
theorem scanD_len (L : List UInt8) : (scanD L).toks.length ≤ 65536 := by
  unfold scanD
  split
  · exact Nat.zero_le _
  · have := aheadF_len L (L.length + 1) (skipD L 0)
    show (aheadF L (L.length + 1) (skipD L 0)).toks.length ≤ _
    omega
/-- A row of tokens as All leaves it: nothing is known of what lies behind it in its block. -/
def RowT (w : World) (B : Nat) (A : Option Addr) (s : ByteArray) (ts : List TokD) : Prop :=
  (ts = [] ∧ A = none) ∨ ∃ g cur, A = some ⟨g, 0, none⟩ ∧ B ≤ g ∧ Whl w g 30 cur ∧ ts.length * 4 ≤ cur.size ∧ cur.toList.take (ts.length * 4) = rowT s ts
theorem RowT.tokAt {w : World} {B : Nat} {A : Option Addr} {s : ByteArray} {ts : List TokD} (h : RowT w B A s ts) : TokAt w A s ts := fun hp => by
  rcases h with ⟨rfl, _⟩ | ⟨g, cur, rfl, hb, hh, hn, ht⟩
  · simp at hp
  · refine ⟨g, 0, rfl, hh.lt, fun k hk => ?_⟩
    have hc : ∀ j, j < 4 → w.cell? ⟨g, 0 + k * 4 + j, none⟩ = (tokC s ts[k])[j]? := fun j hj => by
      rw [cell_of_row w g (0 + k * 4 + j) cur _ (0, 0) hh, ← rowT_get s ts k j hk hj, ← ht, List.getElem?_take, if_pos (by omega), Nat.zero_add]
      simp
    exact ⟨hc 0 (by omega), hc 1 (by omega), hc 2 (by omega), hc 3 (by omega)⟩
theorem RowT.heap {w w' : World} {B : Nat} {A : Option Addr} {s : ByteArray} {ts : List TokD} (h : RowT w B A s ts) (hk : ∀ g, B ≤ g → g < w.heap.size → A = some ⟨g, 0, none⟩ → w'.heap[g]? = w.heap[g]?) : RowT w' B A s ts := by
  rcases h with h | ⟨g, cur, rfl, hb, hh, hn, ht⟩
  · exact .inl h
  · exact .inr ⟨g, cur, rfl, hb, (hk g hb hh.lt rfl).trans hh, hn, ht⟩
theorem RowT.below {w w' : World} {B : Nat} {A : Option Addr} {s : ByteArray} {ts : List TokD} (h : RowT w B A s ts) (hb : Below w.heap.size w w') : RowT w' B A s ts :=
  h.heap fun g _ hg _ => hb.block g hg
theorem RowT.more {w : World} {B B' : Nat} {A : Option Addr} {s : ByteArray} {ts : List TokD} (h : RowT w B A s ts) (hb : B' ≤ B) : RowT w B' A s ts := by
  rcases h with h | ⟨g, cur, rfl, hg, hh⟩
  · exact .inl h
  · exact .inr ⟨g, cur, rfl, Nat.le_trans hb hg, hh⟩
theorem rowT_own {w : World} {B n c : Nat} {A : Option Addr} {s : ByteArray} {ts : List TokD} (h : OwnT w B (.slice A n c) s ts) (hn : ts = [] → Value.slice A n c = .slice none 0 0) : n = ts.length ∧ n ≤ c ∧ c ≤ maxLen ∧ (A = none → n = 0 ∧ c = 0) ∧ (∀ a, A = some a → ∃ g, a = ⟨g, 0, none⟩) ∧ RowT w B A s ts := by
  rcases h with ⟨hl, ⟨e, h0⟩ | ⟨g, cap, cur, e, hb, hh, hnc, hm, hs, ht⟩⟩
  · cases e; exact ⟨h0.symm, Nat.le_refl _, by decide, fun _ => ⟨rfl, rfl⟩, (fun _ h => by cases h), .inl ⟨List.length_eq_zero_iff.1 h0, rfl⟩⟩
  · cases e
    exact ⟨rfl, hnc, hm, (fun h => by cases h), (fun a h => ⟨g, by cases h; rfl⟩), .inr ⟨g, cur, rfl, hb, hh, by rw [hs]; exact Nat.mul_le_mul_right _ hnc, ht⟩⟩
/-- What All tells. -/
def AllOk (s : ByteArray) (w : World) (R : AheadR) (e : Ending) (w' : World) : Prop :=
  (∃ A, e = .returned (.tuple #[.slice A R.toks.length R.toks.length, .int .i64 R.e, .int .i64 (R.p : Int)]) ∧ RowT w' w.heap.size A s R.toks) ∧ Below w.heap.size w w'
/-- What holds between the rounds of All. -/
structure LInv (s : ByteArray) (w : World) (ts : List TokD) (W : World) : Prop where
  below : Below w.heap.size w W
  size : w.heap.size + 4 ≤ W.heap.size
  box : ∃ v, Whl W (w.heap.size + 1) 23 #[v] ∧ OwnT W (w.heap.size + 4) v s ts ∧ (ts = [] → v = .slice none 0 0)
theorem LInv.grown {s : ByteArray} {w : World} {ts : List TokD} {W W' : World} (h : LInv s w ts W) (hg : W.grownBy W' (some w.heap.size)) : LInv s w ts W' := by
  obtain ⟨hb, hs, v, hv, ho, hn⟩ := h
  refine ⟨hb.trans (below_of_grown hg (Nat.le_refl _) hb.size), Nat.le_trans hs hg.size, v, hv.grown hg (fun e => by have := Option.some.inj e; omega), own_heap ho fun g hgv => hg.block g (ho.lt g hgv).2 (fun e => ?_), hn⟩
  have h1 := Option.some.inj e
  have := (ho.lt _ hgv).1
  omega
theorem LInv.putObj {s : ByteArray} {w : World} {ts : List TokD} {W : World} (h : LInv s w ts W) (k : Nat) (hk : k = w.heap.size + 2 ∨ k = w.heap.size + 3) (o : Obj) : LInv s w ts (W.putObj k o) := by
  obtain ⟨hb, hs, v, hv, ho, hn⟩ := h
  refine ⟨below_putObj hb (by omega) _, by simpa using hs, v, (World.putObj_heap_other (by omega)).trans hv, own_heap ho fun g hgv => World.putObj_heap_other (fun e => ?_), hn⟩
  have := (ho.lt _ hgv).1
  omega
set_option maxRecDepth 100000 in
set_option maxHeartbeats 4000000 in
theorem allP (s : ByteArray) (hs : s.size ≤ maxLen) (w : World) (hv : RangeVar w) : Calls Tryd.prog 11 #[.string s] w (AllOk s w (allD (bytesOf s))) := by
  refine (callsIn_wide (n := 9)).1 ?_
  obtain ⟨iT, hiT, zT0, zT1, zT2⟩ := info_parts infoT
  have hgv := hv.lt
  refine callsIn_of_wp_marks Tryd.func11 rfl trivial ?_ rfl
  simp only [Tryd.ntmps11, List.size_toArray, List.length_cons, List.length_nil, Nat.reduceAdd, Nat.reduceSub, Array.replicate_succ, Array.replicate_zero, List.push_toArray, List.append_toArray, List.nil_append, List.cons_append]
  gi_wp2
  have g0 : Whl ((w.alloc (.cells #[.string s, .int .i64 0, .int .i64 0] 37)).alloc (.cells #[.slice none 0 0] 23)) w.heap.size 37 #[.string s, .int .i64 0, .int .i64 0] := (Whl.new _ _ _).alloc _
  have g1 : Whl ((w.alloc (.cells #[.string s, .int .i64 0, .int .i64 0] 37)).alloc (.cells #[.slice none 0 0] 23)) (w.heap.size + 1) 23 #[.slice none 0 0] := Whl.new1 _ _ _ _
  have hb2 : Below w.heap.size w ((w.alloc (.cells #[.string s, .int .i64 0, .int .i64 0] 37)).alloc (.cells #[.slice none 0 0] 23)) := below_alloc (below_alloc (Below.refl _ _) _) _
  have hz2 : ((w.alloc (.cells #[.string s, .int .i64 0, .int .i64 0] 37)).alloc (.cells #[.slice none 0 0] 23)).heap.size = w.heap.size + 2 := by simp
  obtain ⟨W2, hW2⟩ : ∃ W2, ((w.alloc (.cells #[.string s, .int .i64 0, .int .i64 0] 37)).alloc (.cells #[.slice none 0 0] 23)) = W2 := ⟨_, rfl⟩
  change Code.wpIn _ _ _ _ _ _ ((w.alloc (.cells #[.string s, .int .i64 0, .int .i64 0] 37)).alloc (.cells #[.slice none 0 0] 23))
  rw [hW2] at g0 g1 hb2 hz2 ⊢
  clear hW2
  have hv2 : RangeVar W2 := hv.below hb2
  have hl6 := scanD_len (bytesOf s)
  refine wpIn_rangeFunc_T (gf := 21) (ra := #[.pointer (some ⟨w.heap.size, 0, none⟩)]) (lb := #[]) rfl (enters_of Tryd.func21 (by kernel_rfl) rfl)
    (encs := fun t : TokD => #[tokV s t]) (r := w.heap.size) (gv := 1) (by omega) (by omega) (by omega)
    (fun o o' => tokensP s hs w.heap.size 0 0 _ ((g0.alloc o).alloc o') (by omega) ((hv2.below (below_alloc (Below.refl _ _) o)).below (below_alloc (Below.refl _ _) o')))
    (fun A k o h hk => (World.putObj_heap_other (Ne.symm hk)).trans h) (fun _ => rfl)
    (fun ts W => LInv s w ts W) (fun _ _ _ => False)
    (fun o o' => ⟨below_alloc (below_alloc hb2 _) _, by simp; omega, _, (g1.alloc _).alloc _, World.ownsRow_nil _ _ _ _, fun _ => rfl⟩)
    (fun ts A o h => h.putObj _ (by omega) _) (fun _ _ _ _ h => h)
    (fun t k => { tmps := #[.string s, undef, .slice none 0 0, .int .i64 0, .int .i64 0, .pointer (some ⟨w.heap.size, 0, none⟩), .pointer (some ⟨w.heap.size + 1, 0, none⟩), .pointer (some ⟨k, 0, none⟩), .string s, .agg #[.string s, .int .i64 0, .int .i64 0], .func (.func 21) #[.pointer (some ⟨w.heap.size, 0, none⟩)] #[], tokV s t, undef, undef, undef, undef, undef, undef, undef, undef, undef, undef, undef, undef, undef], defers := [] })
    (fun t => .cells #[.int .i64 t.kind, .int .i64 (t.at_ : Int), .string (s.extract t.at_ (t.at_ + t.len)), .int .i64 t.n] 30) ?assign ?body ?done ?stop
  case assign =>
    rintro l ⟨kind, at_, len, n⟩ W K hK
    simp only [tokV] at hK ⊢
    gi_wp2
    exact hK
  case body =>
    rintro l pre t W0 W1 ⟨hb, hsz, v, hbox, hown, hnil⟩ hg hlt0 hpre
    have hlen := hpre.length_le
    simp only [List.length_append, List.length_cons, List.length_nil] at hlen
    have hs1 := hg.size
    obtain ⟨kind, at_, len, n⟩ := t
    have hob : ∀ g, v.ownBlock = some g → w.heap.size + 4 ≤ g ∧ g < W0.heap.size := hown.lt
    have hbox1 : Whl W1 (w.heap.size + 1) 23 #[v] := hbox.grown hg (fun e => by have := Option.some.inj e; omega)
    have hown1 : OwnT W1 (w.heap.size + 4) v s pre := own_heap hown fun g hgv => hg.block g (hob g hgv).2 (fun e => by have := Option.some.inj e; have := (hob g hgv).1; omega)
    have hb1 : Below w.heap.size w W1 := hb.trans (below_of_grown hg (Nat.le_refl _) hb.size)
    have hT := Whl.new W1 30 #[.int .i64 kind, .int .i64 (at_ : Int), .string (s.extract at_ (at_ + len)), .int .i64 n]
    have c0 : (W1.alloc (.cells #[.int .i64 kind, .int .i64 (at_ : Int), .string (s.extract at_ (at_ + len)), .int .i64 n] 30)).cell? ⟨w.heap.size + 1, 0, none⟩ = some v := (hbox1.alloc _).cell 0
    have HF : ∀ (v2 : Value) (w2 : World), w2.ownsRow (w.heap.size + 4) 30 4 v2 (pre.length + 1) (rowT s pre ++ tokC s ⟨kind, at_, len, n⟩) →
        ((W1.alloc (.cells #[.int .i64 kind, .int .i64 (at_ : Int), .string (s.extract at_ (at_ + len)), .int .i64 n] 30)).alloc (.cells #[.int .i64 kind, .int .i64 (at_ : Int), .string (s.extract at_ (at_ + len)), .int .i64 n] 30)).grownBy w2 v.ownBlock →
        (w2.cell? ⟨w.heap.size + 1, 0, none⟩ = some v ∧ w2.frozen? ⟨w.heap.size + 1, 0, none⟩ = false) ∧ postT W2.heap.size w.heap.size 1 (fun ts W => LInv s w ts W) (fun _ _ _ => False) (pre ++ [⟨kind, at_, len, n⟩]) W0 W1 .normal { tmps := #[], defers := [] } (w2.setCell ⟨w.heap.size + 1, 0, none⟩ v2) := fun v2 w2 own2 hg2 => by
      have hw2 : Whl w2 (w.heap.size + 1) 23 #[v] := ((hbox1.alloc _).alloc _).grown hg2 (fun e => by have := (hob _ e.symm).1; omega)
      have hz2 := hg2.size
      simp only [World.size_alloc] at hz2
      refine ⟨⟨hw2.cell 0, hw2.frozen 0⟩, ⟨by simp; omega, fun k hk hc => ?_⟩, ?_, by simp; omega, v2, by simpa using hw2.put 0 v2, ?_, fun e => by simp at e⟩
      · rw [Below.heap_setCell _ _ _ _ (by simp; omega), hg2.block k (by simp; omega) (fun e => by have := hob k e.symm; omega), Below.heap_alloc _ _ _ (by simp; omega), Below.heap_alloc _ _ _ hk]
      · exact ((hb1.trans ((below_alloc (below_alloc (Below.refl _ _) _) _).mono hb1.size)).grown hg2 (by simp; omega) (fun k e => by have := hob k e; omega)).setCell (by simp) _
      · refine own_heap (w := w2) ?_ (fun g hgv => Below.heap_setCell _ _ _ _ (fun e => ?_))
        · rw [List.length_append, rowT, List.flatMap_append]
          simpa [rowT] using own2
        · have h1 := (own2.lt g hgv).1
          simp at e
          omega
    have HP := Lib.hid HF
    have HO := Lib.hid hown1
    clear HF hown1
    simp only [tokV]
    gi_wp2_with (gi_at_builtin
                 have hT1 := hT.alloc (.cells #[.int .i64 kind, .int .i64 (at_ : Int), .string (s.extract at_ (at_ + len)), .int .i64 n] 30)
                 have hN1 := Whl.new1 W1 (.cells #[.int .i64 kind, .int .i64 (at_ : Int), .string (s.extract at_ (at_ + len)), .int .i64 n] 30) 30 #[.int .i64 kind, .int .i64 (at_ : Int), .string (s.extract at_ (at_ + len)), .int .i64 n]
                 have hbb := below_alloc (below_alloc (Below.refl W1.heap.size W1) (.cells #[.int .i64 kind, .int .i64 (at_ : Int), .string (s.extract at_ (at_ + len)), .int .i64 n] 30)) (.cells #[.int .i64 kind, .int .i64 (at_ : Int), .string (s.extract at_ (at_ + len)), .int .i64 n] 30)
                 refine wpListIn_append_own _ rfl _ _ _ rfl (w.heap.size + 4) 30 iT (.agg #[.int .i64 0, .int .i64 0, .string .empty, .int .i64 0]) 4 40 Tryd.underlying23 hiT zT0 zT1 zT2 rfl (by decide) _ pre.length (rowT s pre) rfl (own_below HO.out hbb) ⟨W1.heap.size + 1, 0, none⟩ 1 1 (tokC s ⟨kind, at_, len, n⟩) rfl rfl (World.news_of_block hN1) (fun u hu => by simp only [tokC, List.mem_cons, List.not_mem_nil, or_false] at hu; rcases hu with rfl | rfl | rfl | rfl <;> rfl) (by unfold maxLen; omega) (by omega) (by simp; omega) ?_
                 intro v2 w2 own2 hg2 hnil2
                 obtain ⟨A2, c2, rfl, hA2⟩ := own_slice own2
                 obtain ⟨⟨d0, e0⟩, HQ0⟩ := HP.out _ w2 own2 hg2
                 have HQ := Lib.hid HQ0
                 clear HQ0 hT1 hN1 hbb own2 hg2 hnil2)
    exact HQ.out
  case done =>
    rintro W0 W ⟨hb, hsz, v, hbox, hown, hnil⟩ hg hlt0 hE hK
    rw [hz2] at hlt0 hK ⊢
    clear hz2 hb2 hv2 g0 g1 hv hgv
    have hob : ∀ g, v.ownBlock = some g → w.heap.size + 4 ≤ g ∧ g < W0.heap.size := hown.lt
    have hbox1 : Whl W (w.heap.size + 1) 23 #[v] := hbox.grown hg (fun e => by have := Option.some.inj e; omega)
    have hown1 : OwnT W (w.heap.size + 4) v s (scanD (bytesOf s)).toks := own_heap hown fun g hgv => hg.block g (hob g hgv).2 (fun e => by have := Option.some.inj e; have := (hob g hgv).1; omega)
    have hb1 : Below w.heap.size w W := hb.trans (below_of_grown hg (Nat.le_refl _) hb.size)
    have hs1 := hg.size
    obtain ⟨A, c, rfl, hA⟩ := own_slice hown1
    obtain ⟨hn1, hn2, hn3, hn4, hn5, hrow⟩ := rowT_own hown1 hnil
    have c0 : W.cell? ⟨w.heap.size + 1, 0, none⟩ = some (.slice A (scanD (bytesOf s)).toks.length c) := hbox1.cell 0
    have c1 : W.cell? ⟨w.heap.size, 1, none⟩ = some (.int .i64 (scanD (bytesOf s)).e) := hE.cell 1
    have c2 : W.cell? ⟨w.heap.size, 2, none⟩ = some (.int .i64 ((scanD (bytesOf s)).p : Nat)) := hE.cell 2
    have HR : RowT (W.putObj (w.heap.size + 2) (.deferred none)) w.heap.size A s (scanD (bytesOf s)).toks := (hrow.heap fun g hg1 hg2 he => World.putObj_heap_other (by omega)).more (Nat.le_add_right _ 4)
    have HB : Below w.heap.size w (W.putObj (w.heap.size + 2) (.deferred none)) := below_putObj hb1 (by omega) _
    cases h0 : ((scanD (bytesOf s)).e == 0)
    · have hx : ((scanD (bytesOf s)).e != 0) = true := by rw [bne, h0]; rfl
      have HX := Lib.hid (show allD (bytesOf s) = ⟨[], (scanD (bytesOf s)).e, (scanD (bytesOf s)).p⟩ from if_neg (by simpa using h0))
      clear h0 hrow hown1 hown hbox hbox1 hn1 hn2 hn3 hn4 hn5 HR
      gi_wp2
      gi_region
      all_goals
        gi_wp2
        refine ⟨by simp, .inl ⟨_, _, rfl, run_takeDeferred hK, ?_⟩⟩
        refine ⟨.tuple #[.slice none 0 0, .int .i64 (scanD (bytesOf s)).e, .int .i64 ((scanD (bytesOf s)).p : Nat)], by simp [results, Tryd.f11, go_sem], ?_⟩
        rw [HX.out]
        exact ⟨⟨none, rfl, .inl ⟨rfl, rfl⟩⟩, below_putObj (Below.drew hb1) (by omega) _⟩
    · have hx : ((scanD (bytesOf s)).e != 0) = false := by rw [bne, h0]; rfl
      have he : (scanD (bytesOf s)).e = 0 := by simpa using h0
      have HX := Lib.hid (show (scanD (bytesOf s)).e = 0 ∧ (scanD (bytesOf s)).p = 0 ∧ allD (bytesOf s) = scanD (bytesOf s) from ⟨he, scanD_p he, if_pos he⟩)
      clear h0 he hrow hown1 hown hbox hbox1 hnil hob
      cases A with
      | none =>
        obtain ⟨h1, rfl⟩ := hn4 rfl
        have HL := Lib.hid (show (scanD (bytesOf s)).toks = [] from List.length_eq_zero_iff.1 h1)
        rw [h1] at c0
        clear hn4 hn5 h1
        gi_wp2_with (refine ⟨trivial, ?_⟩; gi_at_call 22; refine (callsIn_wide.2 (clipN _)).mono ?_; rintro e w' ⟨rfl, rfl⟩)
        refine ⟨by simp, .inl ⟨_, _, rfl, run_takeDeferred hK, ?_⟩⟩
        refine ⟨.tuple #[.slice none 0 0, .int .i64 0, .int .i64 0], by simp [results, Tryd.f11, go_sem], ?_⟩
        rw [HX.out.2.2]
        refine ⟨⟨none, ?_, .inl ⟨HL.out, rfl⟩⟩, HB⟩
        rw [HX.out.1, HX.out.2.1, HL.out]; rfl
      | some a =>
        obtain ⟨g, rfl⟩ := hn5 a rfl
        clear hn4 hn5
        gi_wp2_with (refine ⟨trivial, ?_⟩; gi_at_call 22; refine (callsIn_wide.2 (clipP g _ c hn2 hn3 _)).mono ?_; rintro e w' ⟨rfl, rfl⟩)
        refine ⟨by simp, .inl ⟨_, _, rfl, run_takeDeferred hK, ?_⟩⟩
        refine ⟨.tuple #[.slice (some ⟨g, 0, none⟩) (scanD (bytesOf s)).toks.length (scanD (bytesOf s)).toks.length, .int .i64 0, .int .i64 0], by simp [results, Tryd.f11, go_sem], ?_⟩
        rw [HX.out.2.2]
        refine ⟨⟨_, ?_, HR⟩, HB⟩
        rw [HX.out.1, HX.out.2.1]; rfl
  case stop =>
    rintro c pre W0 W _ h
    exact h.elim
end Go.Proofs.YtihfllkgoolkhaaDoor
