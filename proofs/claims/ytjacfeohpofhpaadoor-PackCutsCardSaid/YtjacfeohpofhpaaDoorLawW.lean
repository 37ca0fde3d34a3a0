/-
  Layer 11 (pack): the walks of the laws' own helpers; rows of bytes that are read, copied, written over.
-/
import Derived.Test.YtjacfeohpofhpaaDoorLawD
import Derived.Test.YtjacfeohpofhpaaDoorDecW
import Derived.Test.YtjacfeohpofhpaaDoorDecV
import Derived.Test.YtjacfeohpofhpaaDoorEncF
import Derived.Test.YtjacfeohpofhpaaDoorSameC
import Derived.Test.YtjacfeohpofhpaaDoorKeepB
namespace Go.Proofs.YtjacfeohpofhpaaDoor
open Go.RowKit Go.ChangeShapes Go.WideShapes Go.ChangeAt Go.Deep Go.Joins
set_option linter.unusedSimpArgs false
set_option linter.unusedVariables false
variable {w W W' : World} {B base : Nat} {v v1 v2 : Value} {l L : List UInt8}
/-- A row of bytes that can be read: all of it below block B. -/
structure ByteR (w : World) (B : Nat) (v : Value) (l : List UInt8) : Prop where
  row : ∃ A c, v = .slice A l.length c ∧ l.length ≤ c ∧ (A = none → c = 0) ∧ (l ≠ [] → ∃ b off, A = some ⟨b, off, none⟩ ∧ b < B ∧ ∀ j, j < l.length → w.cell? ⟨b, off + j, none⟩ = some (u8V (l.getD j 0)))
theorem ByteR.below {B' : Nat} (h : ByteR w B v l) (hb : Below B' w W) (hB : B ≤ B') : ByteR W B v l := by
  obtain ⟨A, c, e, hc, hn, h'⟩ := h.row
  refine ⟨A, c, e, hc, hn, fun h0 => ?_⟩
  obtain ⟨b, off, e2, hlt, hcell⟩ := h' h0
  exact ⟨b, off, e2, hlt, fun j hj => (hb.cell (p := ⟨b, off + j, none⟩) (by exact Nat.lt_of_lt_of_le hlt hB)).trans (hcell j hj)⟩
theorem ByteR.more {B' : Nat} (h : ByteR w B v l) (hB : B ≤ B') : ByteR w B' v l := by
  obtain ⟨A, c, e, hc, hn, h'⟩ := h.row
  refine ⟨A, c, e, hc, hn, fun h0 => ?_⟩
  obtain ⟨b, off, e2, hlt, hcell⟩ := h' h0
  exact ⟨b, off, e2, by omega, hcell⟩
theorem ByteR.step (h : ByteR w w.heap.size v l) (hb : Below w.heap.size w W) : ByteR W W.heap.size v l := (h.below hb (Nat.le_refl _)).more hb.size
theorem ByteR.rowB (h : ByteR w B v l) (hl : l.length ≤ 1099511627776) : RowB w B B v l := by
  obtain ⟨A, c, e, hc, hn, h'⟩ := h.row
  refine ⟨hl, A, c, e, hc, fun h0 => ?_⟩
  obtain ⟨b, off, e2, hlt, hcell⟩ := h' h0
  exact ⟨b, off, e2, hlt, by omega, hcell⟩
theorem ByteR.of_own (h : OwnB W base v l) : ByteR W W.heap.size v l := by
  have hlt := h.lt
  rcases h with ⟨hl2, ⟨rfl, h0⟩ | ⟨b, cap, cur, rfl, hb, hh, hnc, hm, hs, ht⟩⟩
  · have hl3 : l.length = 0 := by omega
    obtain rfl := List.eq_nil_of_length_eq_zero hl3
    exact ⟨none, 0, rfl, Nat.le_refl _, fun _ => rfl, fun h => absurd rfl h⟩
  · refine ⟨some ⟨b, 0, none⟩, cap, rfl, by omega, (fun h => by cases h), fun _ => ⟨b, 0, rfl, (hlt b rfl).2, fun j hj => ?_⟩⟩
    have h2 : (U8s l)[j]? = some (u8V (l.getD j 0)) := by
      simp only [U8s, List.getElem?_map, List.getElem?_eq_getElem hj, Option.map_some, List.getD_eq_getElem?_getD, Option.getD_some]
    have hj2 : j < l.length * 1 := by omega
    rw [← ht, List.getElem?_take_of_lt hj2, Array.getElem?_toList] at h2
    rw [Nat.zero_add]
    simp only [World.cell?, hh]
    simpa using h2
theorem ByteR.conv (h : ByteR w B v l) : (convert 27 9 v).run Tryd.prog w = .ok (.string ⟨l.toArray⟩) w := by
  obtain ⟨A, c, rfl, hc, hn, hrow⟩ := h.row
  rcases l with _ | ⟨x, l⟩
  · cases A with
    | none => exact run_convert_bytes_nil (P := Tryd.prog) w 27 5 Tryd.underlying27 Tryd.underlying5 0 c 9 Tryd.underlying9
    | some a => exact run_convert_bytes_back (P := Tryd.prog) w 27 9 5 a c [] Tryd.underlying27 Tryd.underlying5 Tryd.underlying9 (fun j hj => by simp at hj)
  · obtain ⟨b, off, rfl, hb, hcell⟩ := hrow (by simp)
    refine run_convert_bytes_back (P := Tryd.prog) w 27 9 5 ⟨b, off, none⟩ c (x :: l) Tryd.underlying27 Tryd.underlying5 Tryd.underlying9 (fun j hj => ?_)
    rw [Go.WideShapes.add_plain, hcell j hj, List.getD_eq_getElem?_getD, List.getElem?_eq_getElem hj]; rfl
set_option maxHeartbeats 1000000 in
/-- The same bytes: equal says yes. -/
theorem equalT (h1 : ByteR w w.heap.size v1 l) (h2 : ByteR w w.heap.size v2 l) : Calls Tryd.prog 12 #[v1, v2] w fun e w' => e = .returned (.bool true) ∧ w = w' := by
  have k1 := h1.conv
  have k2 := h2.conv
  clear h1 h2
  go_enter Tryd.func12, Tryd.ntmps12
  go_wp2
  go_ret
  exact ⟨by simp, rfl⟩
set_option maxHeartbeats 1000000 in
set_option maxRecDepth 100000 in
theorem decodeLongP (hl : 1048576 < L.length) {A : Option Addr} {c : Nat} (w : World) : Calls Tryd.prog 13 #[.slice A L.length c] w (DecOk w L) := by
  go_enter Tryd.func13, Tryd.ntmps13
  go_wp2
  have hds : decS L = .bad 4 1048576 := if_pos hl
  refine ret_of ?_ rfl
  have hb := below_alloc (Below.refl w.heap.size w) (.cells mod0 25)
  refine ⟨.tuple #[.agg #[.slice none 0 0, .slice none 0 0], .int .i64 4, .int .i64 1048576], ?_, decOk_bad (by rw [hds]; rfl) (by rw [hds]; rfl) ?_⟩
  · simp [results, Tryd.results13, go_sem]
  · repeat (first | exact hb | exact Below.refl _ _ | with_reducible apply Below.drew | (with_reducible refine Below.setCell ?_ (by simp) _))
set_option maxHeartbeats 1000000 in
set_option maxRecDepth 100000 in
theorem decodeLongQ (hl : 1048576 < L.length) {A : Option Addr} {c : Nat} (w : World) : Calls Tryd.prog 14 #[.slice A L.length c] w (DecOk w L) := by
  go_enter Tryd.func14, Tryd.ntmps14
  go_wp2
  have hds : decS L = .bad 4 1048576 := if_pos hl
  refine ret_of ?_ rfl
  have hb := below_alloc (Below.refl w.heap.size w) (.cells mod0 25)
  refine ⟨.tuple #[.agg #[.slice none 0 0, .slice none 0 0], .int .i64 4, .int .i64 1048576], ?_, decOk_bad (by rw [hds]; rfl) (by rw [hds]; rfl) ?_⟩
  · simp [results, Tryd.results14, go_sem]
  · repeat (first | exact hb | exact Below.refl _ _ | with_reducible apply Below.drew | (with_reducible refine Below.setCell ?_ (by simp) _))
theorem decP (h : ByteR w w.heap.size v L) : Calls Tryd.prog 13 #[v] w (DecOk w L) := by
  by_cases hl : 1048576 < L.length
  · obtain ⟨A, c, rfl, _⟩ := h.row
    exact decodeLongP hl w
  · exact decodeP (h.rowB (by omega))
theorem decQ (h : ByteR w w.heap.size v L) : Calls Tryd.prog 14 #[v] w (DecOk w L) := by
  by_cases hl : 1048576 < L.length
  · obtain ⟨A, c, rfl, _⟩ := h.row
    exact decodeLongQ hl w
  · exact decodeQ (h.rowB (by omega))
/-! ### Same modules have the same bytes -/
theorem encPs_bare {f g : FuncD} (h : bare f = bare g) : ∀ k, encPs f k = encPs g k
  | 0 => rfl
  | k + 1 => by rw [encPs, encPs, encPs_bare h k, bare_params h]
theorem encC_bare {f g : FuncD} (h : bare f = bare g) : ∀ k, encC f k = encC g k
  | 0 => rfl
  | k + 1 => by rw [encC, encC, encC_bare h k, bare_code h]
theorem encF_bare {f g : FuncD} (h : bare f = bare g) : encF f = encF g := by
  unfold encF headF midF
  rw [encPs_bare h, encC_bare h, bare_name h, bare_params h, bare_regs h, bare_words h, bare_code h]
theorem encT_same {m c : ModD} (h : SameM m c) : ∀ k, encT c k = encT m k
  | 0 => by rw [encT, encT, h.ths]
  | k + 1 => by rw [encT, encT, encT_same h k, h.ths]
theorem encFs_same {m c : ModD} (h : SameM m c) : ∀ k, encFs c k = encFs m k
  | 0 => by rw [encFs, encFs, h.ths, encT_same h, h.len]
  | k + 1 => by rw [encFs, encFs, encFs_same h k, encF_bare (h.each k)]
theorem encM_same {m c : ModD} (h : SameM m c) : encM c = encM m := by unfold encM; rw [encFs_same h, h.len]
theorem encL_same {m c : ModD} (h : SameM m c) : encL c = encL m := by unfold encL; rw [mayD_same h, encM_same h]
/-! ### A row of bytes of the call's own is written over -/
theorem ownB_put {g c : Nat} (h : OwnB W base (.slice (some ⟨g, 0, none⟩) l.length c) l) (i : Nat) (b : UInt8) : OwnB (W.setCell ⟨g, i, none⟩ (u8V b)) base (.slice (some ⟨g, 0, none⟩) l.length c) (l.set i b) := by
  have hs := World.ownsRow.stored h i (u8V b)
  have e : U8s (l.set i b) = (U8s l).set i (u8V b) := by simp [U8s, List.map_set]
  unfold OwnB
  rw [e, List.length_set]
  exact hs.1
theorem OwnM.far8 {c : ModD} {g : Nat} {cs : Array Value} (h : OwnM W base c) (hg : Whl W g 5 cs) (i : Nat) (x : Value) : OwnM (W.setCell ⟨g, i, none⟩ x) base c :=
  ⟨own_far h.ths x (fun e => own_whl h.ths hg (by decide) e.symm), own_far h.funcs x (fun e => own_whl h.funcs hg (by decide) e.symm),
   fun k hk => ⟨own_far (h.each k hk).params x (fun e => own_whl (h.each k hk).params hg (by decide) e.symm), own_far (h.each k hk).code x (fun e => own_whl (h.each k hk).code hg (by decide) e.symm)⟩⟩
theorem OwnM.alloc {c : ModD} (h : OwnM W base c) (o : Obj) : OwnM (W.alloc o) base c := ⟨h.ths.alloc _, h.funcs.alloc _, fun k hk => (h.each k hk).alloc _⟩
theorem OwnM.kept8 {c : ModD} {b2 n : Nat} {u : Value} {xs : List Value} (h : OwnM W base c) (ho : W.ownsRow b2 5 1 u n xs) (hg : W.grownBy W' u.ownBlock) : OwnM W' base c :=
  ⟨h.ths.kept hg (own_apart h.ths ho (by decide)), h.funcs.kept hg (own_apart h.funcs ho (by decide)), fun k hk => ⟨(h.each k hk).params.kept hg (own_apart (h.each k hk).params ho (by decide)), (h.each k hk).code.kept hg (own_apart (h.each k hk).code ho (by decide))⟩⟩
/-- The block of a row that has something in it. -/
theorem ownB_whl (h : OwnB W base v l) (hl : l ≠ []) : ∃ g c cs, v = .slice (some ⟨g, 0, none⟩) l.length c ∧ Whl W g 5 cs ∧ base ≤ g ∧ ∀ i, i < l.length → ∃ x, W.cell? ⟨g, i, none⟩ = some x := by
  rcases h with ⟨hl2, ⟨rfl, h0⟩ | ⟨b, cap, cur, rfl, hb, hh, hnc, hm, hs, ht⟩⟩
  · exact absurd (List.eq_nil_of_length_eq_zero h0) hl
  · refine ⟨b, cap, cur, rfl, hh, hb, fun i hi => ?_⟩
    rw [Whl.cell hh i]
    have : i < cur.size := by omega
    exact ⟨cur[i], Array.getElem?_eq_getElem this⟩
end Go.Proofs.YtjacfeohpofhpaaDoor
