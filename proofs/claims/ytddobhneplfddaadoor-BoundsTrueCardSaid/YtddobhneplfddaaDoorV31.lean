/-
  Layer 16 (bounds): MergeB.
-/
import Derived.Test.YtddobhneplfddaaDoorV14
import Derived.Laws.StructEq
namespace Go.Proofs.YtddobhneplfddaaDoor
set_option maxRecDepth 100000
open Go.RowKit
set_option linter.unusedSimpArgs false
set_option linter.unusedVariables false
/-- .. from a place on. -/
theorem wpAnyH_nxs {P : Program} {md : Region.Mode} {ops : Array Oper} {Q : Exit → Act → World → Prop} {S : World → Prop} (s : Nat) {i : Nat} {oi : Oper} {v : Value} {fuel : Nat} {listed : Array Bool} {a : Act} {w : World} (_hn : nx (listed.toList.drop s) (nats.drop s) = some i) (hi : ops[i]? = some oi)
    (hs : Region.noSelect ops = true) (hf : Region.free md ops listed i = true) (hr : (Region.ready md ops listed).contains i = true)
    (hQ : ∀ c a w, Q (.panic c) (a.put oi.dst v) w → Q (.panic c) a w) (hy : YieldsIf P ops S oi v a) (hS : S w)
    (h : wpAnyH P md ops Q S fuel (listed.setIfInBounds i true) (a.put oi.dst v) w) : wpAnyH P md ops Q S (fuel + 1) listed a w := wpAnyH_take hi hs hf hr hQ hy hS h
/-- What stands while merge goes on. -/
structure MW (B n R sb : Nat) (L : Lay) (s : StD) (g cp : Nat) (nx : List Sp) (W : World) (s2 : StD) (V : World) : Prop where
  st : StP V B n R sb L s2
  row : RowS V g cp nx
  bel : Below B W V
  fr : ∀ j, j < W.heap.size → ¬ L.has sb n s j → V.heap[j]? = W.heap[j]?
namespace MW
variable {W V V' : World} {B n R sb g cp : Nat} {L : Lay} {s s2 : StD} {nx : List Sp}
theorem drew (h : MW B n R sb L s g cp nx W s2 V) : MW B n R sb L s g cp nx W s2 V.drew := ⟨h.st.drew, h.row.drew, h.bel.drew, h.fr⟩
theorem size (h : MW B n R sb L s g cp nx W s2 V) : W.heap.size ≤ V.heap.size := h.bel.size
theorem below (h : MW B n R sb L s g cp nx W s2 V) (hb : Below V.heap.size V V') (hB : B ≤ W.heap.size) : MW B n R sb L s g cp nx W s2 V' :=
  ⟨h.st.below' hb, h.row.below' hb, h.bel.trans (hb.mono (Nat.le_trans hB h.size)), fun j hj hn => (hb.block j (Nat.lt_of_lt_of_le hj h.size)).trans (h.fr j hj hn)⟩
theorem cnt (h : MW B n R sb L s g cp nx W s2 V) (hlc : s2.changes.length = n) {i : Nat} (hi : i < n) (hg : ¬ L.has sb n s g) (k v : Nat) : MW B n R sb L s g cp nx W { s2 with changes := s2.changes.set i ((s2.changes.getD i []).set k v) } (V.setCell ⟨L.ca i, k, none⟩ (.int .i64 (v : Int))) :=
  ⟨h.st.setCnt hlc hi k v, h.row.far (fun e => hg (.inr (.inr (.inr (.inr (.inr (.inl ⟨i, hi, e⟩))))))) _, h.bel.setCell (p := ⟨L.ca i, k, none⟩) (h.st.old _ (.inr (.inr (.inr (.inr (.inr (.inl ⟨i, hi, rfl⟩))))))) _, fun j hj hn => by
    rw [Below.heap_setCell _ _ _ j (fun e => hn (.inr (.inr (.inr (.inr (.inr (.inl ⟨i, hi, e⟩)))))))]; exact h.fr j hj hn⟩
theorem jn (h : MW B n R sb L s g cp nx W s2 V) (hg : ¬ L.has sb n s g) (i v : Nat) : MW B n R sb L s g cp nx W { s2 with joined := s2.joined.set i v } (V.setCell ⟨L.jnb, i, none⟩ (.int .i64 (v : Int))) :=
  ⟨h.st.setJoin i v, h.row.far (fun e => hg (.inr (.inr (.inr (.inr (.inl e)))))) _, h.bel.setCell (p := ⟨L.jnb, i, none⟩) (h.st.old _ (.inr (.inr (.inr (.inr (.inl rfl)))))) _, fun j hj hn => by
    rw [Below.heap_setCell _ _ _ j (fun e => hn (.inr (.inr (.inr (.inr (.inl e))))))]; exact h.fr j hj hn⟩
theorem mark (h : MW B n R sb L s g cp nx W s2 V) (hg : ¬ L.has sb n s g) (i : Nat) (b : Bool) : MW B n R sb L s g cp nx W { s2 with marked := s2.marked.set i b } (V.setCell ⟨L.mkb, i, none⟩ (.bool b)) :=
  ⟨h.st.setMark i b, h.row.far (fun e => hg (.inr (.inr (.inr (.inl e))))) _, h.bel.setCell (p := ⟨L.mkb, i, none⟩) (h.st.old _ (.inr (.inr (.inr (.inl rfl))))) _, fun j hj hn => by
    rw [Below.heap_setCell _ _ _ j (fun e => hn (.inr (.inr (.inr (.inl e)))))]; exact h.fr j hj hn⟩
theorem sp (h : MW B n R sb L s g cp nx W s2 V) (hli : s2.ins.length = n) {i : Nat} (hi : i < n) (hg : ¬ L.has sb n s g) {l l0 : List Sp} (hl : s2.ins.getD i none = some l) (hl0 : s.ins.getD i none = some l0) {k : Nat} (hk : k < l.length) (a : Sp) :
    MW B n R sb L s g cp nx W { s2 with ins := s2.ins.set i (some (l.set k a)) } ((V.setCell ⟨L.ga i, k * 2, none⟩ (.int .i64 a.lo)).setCell ⟨L.ga i, k * 2 + 1, none⟩ (.int .i64 a.hi)) :=
  ⟨h.st.setRow hli hi hl hk a, (h.row.far (fun e => hg (.inr (.inr (.inr (.inr (.inr (.inr ⟨i, l0, hl0, e⟩))))))) _).far (fun e => hg (.inr (.inr (.inr (.inr (.inr (.inr ⟨i, l0, hl0, e⟩))))))) _, (h.bel.setCell (p := ⟨L.ga i, k * 2, none⟩) (h.st.old _ (.inr (.inr (.inr (.inr (.inr (.inr ⟨i, l, hl, rfl⟩))))))) _).setCell (p := ⟨L.ga i, k * 2 + 1, none⟩) (h.st.old _ (.inr (.inr (.inr (.inr (.inr (.inr ⟨i, l, hl, rfl⟩))))))) _, fun j hj hn => by
    have hne : j ≠ L.ga i := fun e => hn (.inr (.inr (.inr (.inr (.inr (.inr ⟨i, l0, hl0, e⟩))))))
    rw [Below.heap_setCell _ _ _ j hne, Below.heap_setCell _ _ _ j hne]; exact h.fr j hj hn⟩
end MW
/-- At the head of a round over the registers, counting the changes. -/
def Rel1 (B n R sb : Nat) (L : Lay) (s : StD) (tw g cp : Nat) (old nx : List Sp) (W : World) (b i : Value) (V : World) : Prop :=
  ∃ k : Nat, k ≤ R ∧ i = .int .i64 k ∧ b = .bool (anyTo old nx k) ∧ MW B n R sb L s g cp nx W { s with changes := s.changes.set tw (incTo (s.changes.getD tw []) old nx k) } V
theorem cellsR {w : World} {g cp : Nat} {r : List Sp} (h : RowS w g cp r) {k : Nat} (hk : k < r.length) : w.cell? ⟨g, k * 2, none⟩ = some (.int .i64 (r.getD k z0).lo) ∧ w.cell? ⟨g, k * 2 + 1, none⟩ = some (.int .i64 (r.getD k z0).hi) ∧ w.frozen? ⟨g, k * 2, none⟩ = false ∧ w.frozen? ⟨g, k * 2 + 1, none⟩ = false := by
  have e : r.getD k z0 = r[k] := by rw [List.getD_eq_getElem?_getD, List.getElem?_eq_getElem hk]; rfl
  rw [e]; exact h.cells hk
theorem cellsE {w : World} {g cp : Nat} {r : List Sp} (h : RowE w g cp r) {k : Nat} (hk : k < r.length) : w.cell? ⟨g, k * 2, none⟩ = some (.int .i64 (r.getD k z0).lo) ∧ w.cell? ⟨g, k * 2 + 1, none⟩ = some (.int .i64 (r.getD k z0).hi) ∧ w.frozen? ⟨g, k * 2, none⟩ = false ∧ w.frozen? ⟨g, k * 2 + 1, none⟩ = false := by
  obtain ⟨_, _, h⟩ := h; exact cellsR h hk
theorem diffB_val (old nx : List Sp) (k : Nat) : diffB old nx k = !(decide (((old.getD k z0).join (nx.getD k z0)).lo = (old.getD k z0).lo) && decide (((old.getD k z0).join (nx.getD k z0)).hi = (old.getD k z0).hi)) := by
  rw [diffB, sameSp]; rfl
theorem set_getD {α : Type} (l : List (List α)) (i : Nat) : l.set i (l.getD i []) = l := by
  apply List.ext_getElem?
  intro j
  rw [List.getElem?_set]
  split
  · rename_i e; subst e
    split
    · rename_i hh; rw [List.getD_eq_getElem?_getD, List.getElem?_eq_getElem hh]; rfl
    · rename_i hh; rw [List.getElem?_eq_none (by omega)]
  · rfl
theorem set_getDn {α : Type} {l : List (Option α)} {i : Nat} {v : α} (h : l.getD i none = some v) : l.set i (some v) = l := by
  apply List.ext_getElem?
  intro j
  rw [List.getElem?_set]
  split
  · rename_i e; subst e
    split
    · rename_i hh; rw [List.getD_eq_getElem?_getD, List.getElem?_eq_getElem hh] at h; rw [List.getElem?_eq_getElem hh]; exact congrArg some h.symm
    · rename_i hh; rw [List.getElem?_eq_none (by omega)]
  · rfl
theorem incTo_no {c : List Nat} {old nx : List Sp} {k : Nat} (hk : k ≤ c.length) (h : anyTo old nx k = false) : incTo c old nx k = c := by
  refine list_ext 0 (incTo_len _ _ _ _) fun j hj => ?_
  rw [incTo_get _ _ _ _ _ hk, if_neg]
  rintro ⟨h1, h2⟩
  have : anyTo old nx k = true := (anyTo_iff old nx k).2 ⟨j, h1, h2⟩
  rw [h] at this; cases this
def Rel2 (B n R sb : Nat) (L : Lay) (s : StD) (tw g cp sj : Nat) (wide : Bool) (ths : List Int) (old nx : List Sp) (W : World) (i : Value) (V : World) : Prop :=
  ∃ k : Nat, k ≤ R ∧ i = .int .i64 k ∧ MW B n R sb L s g cp nx W { s with changes := s.changes.set tw (incTo (s.changes.getD tw []) old nx R), joined := s.joined.set tw (sj + 1), ins := s.ins.set tw (some (grTo wide ths old nx k)) } V
set_option maxHeartbeats 4000000 in
theorem mergeP2 (B n R sb : Nat) (L : Lay) (s : StD) (tw g cp tc : Nat) (A : Option Addr) (nx old : List Sp) (ths : List Int) (W : World) (h : StP W B n R sb L s) (hB : B ≤ W.heap.size) (hn : n ≤ maxLen) (hR : R ≤ 64) (hok : StOk n R ths s) (htw : tw < n) (hso : s.ins.getD tw none = some old) (hnl : nx.length = R) (hr : RowS W g cp nx) (hc : R ≤ cp) (ht : cp ≤ maxLen) (hg : ¬ L.has sb n s g) (htl : ths.length ≤ 16) (hT : IntsAt W B A ths) (hj : s.joined.getD tw 0 + 1 ≤ 9223372036854775807) :
    Calls Tryd.prog 35 #[.pointer (some ⟨sb, 0, none⟩), .int .i64 tw, .slice (some ⟨g, 0, none⟩) R cp, .slice A ths.length tc] W (MergeOk B n R sb L s (mergeD s tw nx ths) g W) := by
  have hlo := (hok.some tw old hso).1
  have hch := hok.row tw htw
  have hcn := hok.lc
  have c4 := h.insC htw
  simp only [inV, hso] at c4
  have hcp' := (h.rows tw old hso).2
  have hti : (tw : Int) < (n : Int) := by omega
  have hmg := mergeD_some ths hso hch hlo hnl
  have M0 : MW B n R sb L s g cp nx W { s with changes := s.changes.set tw (incTo (s.changes.getD tw []) old nx 0) } W := ⟨by rw [incTo, set_getD]; exact h, hr, Below.refl _ _, fun _ _ _ => rfl⟩
  have c0 := h.c0
  have hins0 : s.ins.set tw (some old) = s.ins := set_getDn hso
  have HI0 := Lib.hid hins0
  have hgr0 : ∀ wide, grTo wide ths old nx 0 = old := fun _ => rfl
  have HT := Lib.hid hT
  have HBn := Lib.hid (fun (k : Nat) (m : List Sp) (hk : k < n) (h : (s.ins.set tw (some m)).getD tw none = none) => h)
  have HM := Lib.hid hmg
  clear hins0 hgr0 hT HBn
  have HOK := Lib.hid hok
  have HB := Lib.hid hB
  have HG := Lib.hid hg
  have HSO := Lib.hid hso
  unfold maxLen at hn ht
  unfold maxLen at hcp'
  clear hmg hok hg hso h hr hB
  have hnil := fun (w : World) (a : Option Addr) (p q : Nat) => Lib.run_eql_slice_nil (P := Tryd.prog) w 26 34 a p q 0 0 Tryd.underlying26
  go_enter Tryd.func35, Tryd.ntmps35
  go_wp2
  go_loopw [9, 38] (fun b i V => Rel1 B n R sb L s tw g cp old nx W b i V) (fun _ i _ => R - (intOf i).toNat)
  case atStart => exact ⟨0, Nat.zero_le _, rfl, rfl, M0⟩
  case round =>
    obtain ⟨k, hk, rfl, rfl, M1⟩ := hrel
    clear M0 c0 c4
    by_cases hlt : k < R
    · have hki : (k : Int) < (R : Int) := by omega
      have hrow := M1.st.rows tw old HSO.out
      obtain ⟨z0', z1', z2', z3'⟩ := cellsE hrow.1 (k := k) (by omega)
      obtain ⟨y0, y1, _, _⟩ := cellsR M1.row (k := k) (by omega)
      have HS : ∀ w', MW B n R sb L s g cp nx W { s with changes := s.changes.set tw (incTo (s.changes.getD tw []) old nx k) } w' → (w'.cell? ⟨L.ga tw, k * 2, none⟩ = some (.int .i64 (old.getD k z0).lo) ∧ w'.cell? ⟨L.ga tw, k * 2 + 1, none⟩ = some (.int .i64 (old.getD k z0).hi) ∧ w'.cell? ⟨g, k * 2, none⟩ = some (.int .i64 (nx.getD k z0).lo) ∧ w'.cell? ⟨g, k * 2 + 1, none⟩ = some (.int .i64 (nx.getD k z0).hi)) ∧ MW B n R sb L s g cp nx W { s with changes := s.changes.set tw (incTo (s.changes.getD tw []) old nx k) } w' := fun w' M => by
        obtain ⟨a0, a1, _, _⟩ := cellsE (M.st.rows tw old HSO.out).1 (k := k) (by omega)
        obtain ⟨b0, b1, _, _⟩ := cellsR M.row (k := k) (by omega)
        exact ⟨⟨a0, a1, b0, b1⟩, M⟩
      have hdv := diffB_val old nx k
      have hDD : anyTo old nx (k + 1) = (anyTo old nx k || diffB old nx k) := rfl
      have hII : incTo (s.changes.getD tw []) old nx (k + 1) = if diffB old nx k then (incTo (s.changes.getD tw []) old nx k).set k ((s.changes.getD tw []).getD k 0 + 1) else incTo (s.changes.getD tw []) old nx k := rfl
      have hcv : (incTo (s.changes.getD tw []) old nx k).getD k 0 = (s.changes.getD tw []).getD k 0 := by rw [incTo_get _ _ _ _ _ (by omega), if_neg (by omega)]
      have hcl := incTo_len (s.changes.getD tw []) old nx k
      have hcb := (HOK.out.some tw old HSO.out).2.2 k hlt
      have HDD := Lib.hid hDD
      have HII := Lib.hid hII
      have HCV := Lib.hid hcv
      generalize hso' : old.getD k z0 = so at *
      generalize hsn' : nx.getD k z0 = sn at *
      generalize hcc' : (s.changes.getD tw []).getD k 0 = cc at *
      have hc1 : cc + 1 ≤ 9223372036854775807 := by omega
      have HX := Lib.hid hcb
      have hw1 : IntKind.i64.wrap ((cc : Int) + 1) = (cc : Int) + 1 := IntWalk.i64_in _ (by omega)
      clear hDD hII hcv hrow z0' z1' hcb hso' hsn' hcc'
      by_cases e1 : (so.join sn).lo = so.lo
      · by_cases e2 : (so.join sn).hi = so.hi
        · have hd : diffB old nx k = false := by rw [hdv]; simp [e1, e2]
          have HD := Lib.hid hd
          clear hd hdv
          go_wp2_with fail
          refine wp_region_held_drew (S := (fun w' => (w'.cell? ⟨L.ga tw, k * 2, none⟩ = some (.int .i64 so.lo) ∧ w'.cell? ⟨L.ga tw, k * 2 + 1, none⟩ = some (.int .i64 so.hi) ∧ w'.cell? ⟨g, k * 2, none⟩ = some (.int .i64 sn.lo) ∧ w'.cell? ⟨g, k * 2 + 1, none⟩ = some (.int .i64 sn.hi)) ∧ MW B n R sb L s g cp nx W { s with changes := s.changes.set tw (incTo (s.changes.getD tw []) old nx k) } w')) (by kernel_rfl) ?_ (fun hHeld => ?_)
          · (exact HS _ M1.drew)
          iterate 8
            refine wpAnyH_nx (v := ?_) rfl rfl (by kernel_rfl) (by kernel_rfl) (by kernel_rfl) (fun _ _ _ h => h) (Or.inl ⟨by rfl, ?_⟩) (by assumption) ?_
            rotate_left
            · (intro w' hSw; (try dsimp only at hSw); go_simp <;> with_reducible rfl)
            (try simp only [Act.put, List.setIfInBounds_toArray, List.set_cons_zero, List.set_cons_succ])
          iterate 4
            refine wpAnyH_nxs (s := 9) (v := ?_) rfl rfl (by kernel_rfl) (by kernel_rfl) (by kernel_rfl) (fun _ _ _ h => h) (Or.inl ⟨by rfl, ?_⟩) (by assumption) ?_
            rotate_left
            · (intro w' hSw; (try dsimp only at hSw); go_simp <;> with_reducible rfl)
            (try simp only [Act.put, List.setIfInBounds_toArray, List.set_cons_zero, List.set_cons_succ])
          refine wpAnyH_ready (rs := [8]) (by kernel_rfl) (by simp) ?_
          refine AllReadyH.cons rfl (fun K hK => ?_) AllReadyH.nil
          go_simp; go_at_call 62; refine (joinP so sn _).mono ?_; rintro e w3 ⟨rfl, hb3⟩; go_wp2_with fail; have M3 := M1.drew.below hb3 HB.out
          refine hK.out _ _ ?_ (fun hHeld => ?_)
          · (exact HS _ M3)
          clear hK K
          (try simp only [Act.put, List.setIfInBounds_toArray, List.set_cons_zero, List.set_cons_succ])
          refine wpAnyH_take (i := 13) (v := ?_) rfl (by kernel_rfl) (by kernel_rfl) (by kernel_rfl) (fun _ _ _ h => h) (Or.inl ⟨by rfl, ?_⟩) (by assumption) ?_
          rotate_left
          · (intro w' hSw; (try dsimp only at hSw); go_simp <;> with_reducible rfl)
          (try simp only [Act.put, List.setIfInBounds_toArray, List.set_cons_zero, List.set_cons_succ])
          refine wpAnyH_done (by kernel_rfl) ?_ _
          go_wp2
          go_roundw
          case rel =>
            refine ⟨k + 1, by omega, by go_num, by rw [HDD.out, HD.out, Bool.or_false], ?_⟩
            rw [HII.out, HD.out]
            exact M3
          case measure => simp [intOf]; omega
        · have hd : diffB old nx k = true := by rw [hdv]; simp [e1, e2]
          have HD := Lib.hid hd
          clear hd hdv
          go_wp2_with fail
          refine wp_region_held_drew (S := (fun w' => (w'.cell? ⟨L.ga tw, k * 2, none⟩ = some (.int .i64 so.lo) ∧ w'.cell? ⟨L.ga tw, k * 2 + 1, none⟩ = some (.int .i64 so.hi) ∧ w'.cell? ⟨g, k * 2, none⟩ = some (.int .i64 sn.lo) ∧ w'.cell? ⟨g, k * 2 + 1, none⟩ = some (.int .i64 sn.hi)) ∧ MW B n R sb L s g cp nx W { s with changes := s.changes.set tw (incTo (s.changes.getD tw []) old nx k) } w')) (by kernel_rfl) ?_ (fun hHeld => ?_)
          · (exact HS _ M1.drew)
          iterate 8
            refine wpAnyH_nx (v := ?_) rfl rfl (by kernel_rfl) (by kernel_rfl) (by kernel_rfl) (fun _ _ _ h => h) (Or.inl ⟨by rfl, ?_⟩) (by assumption) ?_
            rotate_left
            · (intro w' hSw; (try dsimp only at hSw); go_simp <;> with_reducible rfl)
            (try simp only [Act.put, List.setIfInBounds_toArray, List.set_cons_zero, List.set_cons_succ])
          iterate 4
            refine wpAnyH_nxs (s := 9) (v := ?_) rfl rfl (by kernel_rfl) (by kernel_rfl) (by kernel_rfl) (fun _ _ _ h => h) (Or.inl ⟨by rfl, ?_⟩) (by assumption) ?_
            rotate_left
            · (intro w' hSw; (try dsimp only at hSw); go_simp <;> with_reducible rfl)
            (try simp only [Act.put, List.setIfInBounds_toArray, List.set_cons_zero, List.set_cons_succ])
          refine wpAnyH_ready (rs := [8]) (by kernel_rfl) (by simp) ?_
          refine AllReadyH.cons rfl (fun K hK => ?_) AllReadyH.nil
          go_simp; go_at_call 62; refine (joinP so sn _).mono ?_; rintro e w3 ⟨rfl, hb3⟩; go_wp2_with fail; have M3 := M1.drew.below hb3 HB.out
          refine hK.out _ _ ?_ (fun hHeld => ?_)
          · (exact HS _ M3)
          clear hK K
          (try simp only [Act.put, List.setIfInBounds_toArray, List.set_cons_zero, List.set_cons_succ])
          refine wpAnyH_take (i := 13) (v := ?_) rfl (by kernel_rfl) (by kernel_rfl) (by kernel_rfl) (fun _ _ _ h => h) (Or.inl ⟨by rfl, ?_⟩) (by assumption) ?_
          rotate_left
          · (intro w' hSw; (try dsimp only at hSw); go_simp <;> with_reducible rfl)
          (try simp only [Act.put, List.setIfInBounds_toArray, List.set_cons_zero, List.set_cons_succ])
          refine wpAnyH_done (by kernel_rfl) ?_ _
          have k1 := M3.st.c1
          have k4 := M3.st.chsC htw
          simp only [chV] at k4
          have k5 := M3.st.cntC (i := tw) (k := k) htw (by rw [getD_set, if_pos ⟨rfl, by omega⟩]; omega)
          rw [getD_set, if_pos ⟨rfl, by omega⟩, HCV.out] at k5
          have f5 := (M3.st.cnts tw htw).frozen k
          have M4 := M3.cnt (i := tw) (by simp; omega) htw HG.out k (cc + 1)
          have HM4 := Lib.hid M4
          clear M4
          go_wp2
          go_roundw
          case rel =>
            refine ⟨k + 1, by omega, by go_num, by rw [HDD.out, HD.out, Bool.or_true], ?_⟩
            rw [HII.out, HD.out]
            have M5 := HM4.out
            simp only at M5
            rw [getD_set, if_pos ⟨rfl, by omega⟩, List.set_set] at M5
            exact M5
          case measure => simp [intOf]; omega
      · have hd : diffB old nx k = true := by rw [hdv]; simp [e1]
        have HD := Lib.hid hd
        clear hd hdv
        go_wp2_with fail
        refine wp_region_held_drew (S := (fun w' => (w'.cell? ⟨L.ga tw, k * 2, none⟩ = some (.int .i64 so.lo) ∧ w'.cell? ⟨L.ga tw, k * 2 + 1, none⟩ = some (.int .i64 so.hi) ∧ w'.cell? ⟨g, k * 2, none⟩ = some (.int .i64 sn.lo) ∧ w'.cell? ⟨g, k * 2 + 1, none⟩ = some (.int .i64 sn.hi)) ∧ MW B n R sb L s g cp nx W { s with changes := s.changes.set tw (incTo (s.changes.getD tw []) old nx k) } w')) (by kernel_rfl) ?_ (fun hHeld => ?_)
        · (exact HS _ M1.drew)
        iterate 8
          refine wpAnyH_nx (v := ?_) rfl rfl (by kernel_rfl) (by kernel_rfl) (by kernel_rfl) (fun _ _ _ h => h) (Or.inl ⟨by rfl, ?_⟩) (by assumption) ?_
          rotate_left
          · (intro w' hSw; (try dsimp only at hSw); go_simp <;> with_reducible rfl)
          (try simp only [Act.put, List.setIfInBounds_toArray, List.set_cons_zero, List.set_cons_succ])
        iterate 4
          refine wpAnyH_nxs (s := 9) (v := ?_) rfl rfl (by kernel_rfl) (by kernel_rfl) (by kernel_rfl) (fun _ _ _ h => h) (Or.inl ⟨by rfl, ?_⟩) (by assumption) ?_
          rotate_left
          · (intro w' hSw; (try dsimp only at hSw); go_simp <;> with_reducible rfl)
          (try simp only [Act.put, List.setIfInBounds_toArray, List.set_cons_zero, List.set_cons_succ])
        refine wpAnyH_ready (rs := [8]) (by kernel_rfl) (by simp) ?_
        refine AllReadyH.cons rfl (fun K hK => ?_) AllReadyH.nil
        go_simp; go_at_call 62; refine (joinP so sn _).mono ?_; rintro e w3 ⟨rfl, hb3⟩; go_wp2_with fail; have M3 := M1.drew.below hb3 HB.out
        refine hK.out _ _ ?_ (fun hHeld => ?_)
        · (exact HS _ M3)
        clear hK K
        (try simp only [Act.put, List.setIfInBounds_toArray, List.set_cons_zero, List.set_cons_succ])
        refine wpAnyH_take (i := 13) (v := ?_) rfl (by kernel_rfl) (by kernel_rfl) (by kernel_rfl) (fun _ _ _ h => h) (Or.inl ⟨by rfl, ?_⟩) (by assumption) ?_
        rotate_left
        · (intro w' hSw; (try dsimp only at hSw); go_simp <;> with_reducible rfl)
        (try simp only [Act.put, List.setIfInBounds_toArray, List.set_cons_zero, List.set_cons_succ])
        refine wpAnyH_done (by kernel_rfl) ?_ _
        have k1 := M3.st.c1
        have k4 := M3.st.chsC htw
        simp only [chV] at k4
        have k5 := M3.st.cntC (i := tw) (k := k) htw (by rw [getD_set, if_pos ⟨rfl, by omega⟩]; omega)
        rw [getD_set, if_pos ⟨rfl, by omega⟩, HCV.out] at k5
        have f5 := (M3.st.cnts tw htw).frozen k
        have M4 := M3.cnt (i := tw) (by simp; omega) htw HG.out k (cc + 1)
        have HM4 := Lib.hid M4
        clear M4
        go_wp2
        go_roundw
        case rel =>
          refine ⟨k + 1, by omega, by go_num, by rw [HDD.out, HD.out, Bool.or_true], ?_⟩
          rw [HII.out, HD.out]
          have M5 := HM4.out
          simp only at M5
          rw [getD_set, if_pos ⟨rfl, by omega⟩, List.set_set] at M5
          exact M5
        case measure => simp [intOf]; omega
    · have hkR : k = R := by omega
      subst hkR
      clear hlt
      have HCA := Lib.hid (incTo_no (c := s.changes.getD tw []) (old := old) (nx := nx) (k := k) (by omega))
      generalize hany : anyTo old nx k = an at *
      have HAN := Lib.hid hany
      clear hany
      cases an
      · have hsame := HCA.out rfl
        have HM1 := Lib.hid M1
        have HSM := Lib.hid hsame
        clear M1 hsame HCA
        go_wp2
        refine ret_of ?_ rfl
        refine ⟨_, results_none rfl _ _ _, ⟨_, rfl⟩, HM1.out.bel, L, ?_, HM1.out.fr, fun k hk => .inl ?_⟩
        · have h := HM1.out.st
          rw [HSM.out, set_getD] at h
          rw [HM.out]; exact h
        · rw [HM.out] at hk; exact hk
      · have k3 := M1.st.c3
        have k5 := M1.st.jnsC (i := tw) (by show tw < s.joined.length; rw [HOK.out.lj]; exact htw)
        simp only at k5
        have f5 := M1.st.jns.frozen tw
        have M2 := M1.jn HG.out tw (s.joined.getD tw 0 + 1)
        simp only at M2
        have hjl := HOK.out.lj
        have hil := HOK.out.li
        have hml := HOK.out.lm
        have H3 : ∀ V, MW B n k sb L s g cp nx W { s with changes := s.changes.set tw (incTo (s.changes.getD tw []) old nx k), joined := s.joined.set tw (s.joined.getD tw 0 + 1) } V → MW B n k sb L s g cp nx W { s with changes := s.changes.set tw (incTo (s.changes.getD tw []) old nx k), joined := s.joined.set tw (s.joined.getD tw 0 + 1), ins := s.ins.set tw (some (grTo (decide (4 < s.joined.getD tw 0 + 1)) ths old nx 0)) } V := fun V hV => by
          rw [show grTo (decide (4 < s.joined.getD tw 0 + 1)) ths old nx 0 = old from rfl, HI0.out]; exact hV
        have M3 := H3 _ M2
        have HM3 := Lib.hid M3
        generalize hsj : s.joined.getD tw 0 = sj at *
        have HSJ := Lib.hid hsj
        have hw1 : IntKind.i64.wrap ((sj : Int) + 1) = (sj : Int) + 1 := IntWalk.i64_in _ (by omega)
        clear M1 M2 M3 H3 hsj HCA
        go_wp2
        generalize hwd : decide (4 < sj + 1) = wide at *
        have HWD := Lib.hid hwd
        clear hwd
        go_loopw [82] (fun i V => Rel2 B n k sb L s tw g cp sj wide ths old nx W i V) (fun i _ => k - (intOf i).toNat)
        case atStart => exact ⟨0, Nat.zero_le _, rfl, HM3.out⟩
        case round =>
          obtain ⟨k2, hk2, rfl, M1⟩ := hrel
          clear HM3 k3 k5 f5
          by_cases hlt : k2 < k
          · have hki : (k2 : Int) < (k : Int) := by omega
            have hge : (grTo wide ths old nx k2).getD k2 z0 = old.getD k2 z0 := by rw [grTo_get _ _ _ _ _ _ (by omega), if_neg (by omega)]
            have hgl := grTo_len wide ths old nx k2
            have hgs : grTo wide ths old nx (k2 + 1) = (grTo wide ths old nx k2).set k2 (growS wide ths (old.getD k2 z0) (nx.getD k2 z0)) := rfl
            have k3 := M1.st.c3
            have k5 := M1.st.jnsC (i := tw) (by show tw < (s.joined.set tw (sj + 1)).length; rw [List.length_set, hjl]; exact htw)
            simp only at k5
            rw [getD_set, if_pos ⟨rfl, by omega⟩, Int.natCast_add] at k5
            simp only [Int.natCast_one] at k5
            have hins : ∀ m, (s.ins.set tw (some m)).getD tw none = some m := fun m => by rw [getD_set, if_pos ⟨rfl, by omega⟩]
            have HIN := Lib.hid hins
            obtain ⟨z0', z1', z2', z3'⟩ := cellsE (M1.st.rows tw _ (hins _)).1 (k := k2) (by omega)
            obtain ⟨y0, y1, _, _⟩ := cellsR M1.row (k := k2) (by omega)
            rw [hge] at z0' z1'
            have HS : ∀ w' s3, MW B n k sb L s g cp nx W s3 w' → (w'.cell? ⟨g, k2 * 2, none⟩ = some (.int .i64 (nx.getD k2 z0).lo) ∧ w'.cell? ⟨g, k2 * 2 + 1, none⟩ = some (.int .i64 (nx.getD k2 z0).hi)) ∧ ∃ s3, MW B n k sb L s g cp nx W s3 w' := fun w' s3 M => by
              obtain ⟨b0, b1, _, _⟩ := cellsR M.row (k := k2) (by omega)
              exact ⟨⟨b0, b1⟩, s3, M⟩
            have HGS := Lib.hid hgs
            have HGE := Lib.hid hge
            generalize hso' : old.getD k2 z0 = so at *
            generalize hsn' : nx.getD k2 z0 = sn at *
            have hgw : decide ((4 : Int) < (sj : Int) + 1) = wide := by rw [← HWD.out]; simp; omega
            have hthl : ths.length ≤ 9223372036854775807 := by omega
            have hgrow : growS wide ths so sn = if wide then widen so sn ths else so.join sn := rfl
            have HGR := Lib.hid hgrow
            clear hgs hge hso' hsn' hins hgrow
            cases wide
            · go_wp2_with fail
              refine wp_region_held_drew (S := (fun w' => (w'.cell? ⟨g, k2 * 2, none⟩ = some (.int .i64 sn.lo) ∧ w'.cell? ⟨g, k2 * 2 + 1, none⟩ = some (.int .i64 sn.hi)) ∧ ∃ s3, MW B n k sb L s g cp nx W s3 w')) (by kernel_rfl) ?_ (fun hHeld => ?_)
              · (exact HS _ _ M1.drew)
              iterate 5
                refine wpAnyH_nx (v := ?_) rfl rfl (by kernel_rfl) (by kernel_rfl) (by kernel_rfl) (fun _ _ _ h => h) (Or.inl ⟨by rfl, ?_⟩) (by assumption) ?_
                rotate_left
                · (intro w' hSw; (try dsimp only at hSw); go_simp <;> with_reducible rfl)
                (try simp only [Act.put, List.setIfInBounds_toArray, List.set_cons_zero, List.set_cons_succ])
              iterate 4
                refine wpAnyH_nxs (s := 6) (v := ?_) rfl rfl (by kernel_rfl) (by kernel_rfl) (by kernel_rfl) (fun _ _ _ h => h) (Or.inl ⟨by rfl, ?_⟩) (by assumption) ?_
                rotate_left
                · (intro w' hSw; (try dsimp only at hSw); go_simp <;> with_reducible rfl)
                (try simp only [Act.put, List.setIfInBounds_toArray, List.set_cons_zero, List.set_cons_succ])
              refine wpAnyH_ready (rs := [5]) (by kernel_rfl) (by simp) ?_
              refine AllReadyH.cons rfl (fun K hK => ?_) AllReadyH.nil
              go_simp
              refine hK.out _ _ ?_ (fun hHeld => ?_)
              · (exact HS _ _ M1.drew)
              clear hK K
              (try simp only [Act.put, List.setIfInBounds_toArray, List.set_cons_zero, List.set_cons_succ])
              refine wpAnyH_ready (rs := [10]) (by kernel_rfl) (by simp) ?_
              refine AllReadyH.cons rfl (fun K hK => ?_) AllReadyH.nil
              go_simp; go_at_call 62; refine (joinP so sn _).mono ?_; rintro e w3 ⟨rfl, hb3⟩; go_wp2_with fail; have M3 := M1.drew.below hb3 HB.out; obtain ⟨q0, q1, q2, q3⟩ := cellsE (M3.st.rows tw _ (HIN.out _)).1 (k := k2) (by omega); have M5 := M3.sp (by simp; omega) htw HG.out (HIN.out _) HSO.out (k := k2) (by omega) (so.join sn); simp only [List.set_set] at M5
              refine hK.out _ _ ?_ (fun hHeld => ?_)
              · (exact HS _ _ M3)
              clear hK K
              (try simp only [Act.put, List.setIfInBounds_toArray, List.set_cons_zero, List.set_cons_succ])
              refine wpAnyH_take (i := 11) (v := ?_) rfl (by kernel_rfl) (by kernel_rfl) (by kernel_rfl) (fun _ _ _ h => h) (Or.inl ⟨by rfl, ?_⟩) (by assumption) ?_
              rotate_left
              · (intro w' hSw; (try dsimp only at hSw); go_simp <;> with_reducible rfl)
              (try simp only [Act.put, List.setIfInBounds_toArray, List.set_cons_zero, List.set_cons_succ])
              refine wpAnyH_ready (rs := [12]) (by kernel_rfl) (by simp) ?_
              refine AllReadyH.cons rfl (fun K hK => ?_) AllReadyH.nil
              go_simp
              refine hK.out _ _ ?_ (fun hHeld => ?_)
              · (exact HS _ _ M5)
              clear hK K
              (try simp only [Act.put, List.setIfInBounds_toArray, List.set_cons_zero, List.set_cons_succ])
              refine wpAnyH_done (by kernel_rfl) ?_ _
              go_wp2
              go_roundw
              case rel =>
                refine ⟨k2 + 1, by omega, by go_num, ?_⟩
                rw [HGS.out, HGR.out]
                exact M5
              case measure => simp [intOf]; omega
            · go_wp2_with fail
              refine wp_region_held_drew (S := (fun w' => (w'.cell? ⟨g, k2 * 2, none⟩ = some (.int .i64 sn.lo) ∧ w'.cell? ⟨g, k2 * 2 + 1, none⟩ = some (.int .i64 sn.hi)) ∧ ∃ s3, MW B n k sb L s g cp nx W s3 w')) (by kernel_rfl) ?_ (fun hHeld => ?_)
              · (exact HS _ _ M1.drew)
              iterate 5
                refine wpAnyH_nx (v := ?_) rfl rfl (by kernel_rfl) (by kernel_rfl) (by kernel_rfl) (fun _ _ _ h => h) (Or.inl ⟨by rfl, ?_⟩) (by assumption) ?_
                rotate_left
                · (intro w' hSw; (try dsimp only at hSw); go_simp <;> with_reducible rfl)
                (try simp only [Act.put, List.setIfInBounds_toArray, List.set_cons_zero, List.set_cons_succ])
              iterate 5
                refine wpAnyH_nxs (s := 6) (v := ?_) rfl rfl (by kernel_rfl) (by kernel_rfl) (by kernel_rfl) (fun _ _ _ h => h) (Or.inl ⟨by rfl, ?_⟩) (by assumption) ?_
                rotate_left
                · (intro w' hSw; (try dsimp only at hSw); go_simp <;> with_reducible rfl)
                (try simp only [Act.put, List.setIfInBounds_toArray, List.set_cons_zero, List.set_cons_succ])
              refine wpAnyH_ready (rs := [5]) (by kernel_rfl) (by simp) ?_
              refine AllReadyH.cons rfl (fun K hK => ?_) AllReadyH.nil
              go_simp
              refine hK.out _ _ ?_ (fun hHeld => ?_)
              · (exact HS _ _ M1.drew)
              clear hK K
              (try simp only [Act.put, List.setIfInBounds_toArray, List.set_cons_zero, List.set_cons_succ])
              refine wpAnyH_ready (rs := [11]) (by kernel_rfl) (by simp) ?_
              refine AllReadyH.cons rfl (fun K hK => ?_) AllReadyH.nil
              go_simp; go_at_call 63; refine (widenP so sn A tc ths _ hthl ((HT.out.below M1.drew.bel (Nat.le_refl _)).more (Nat.le_trans HB.out M1.drew.size))).mono ?_; rintro e w3 ⟨rfl, hb3⟩; go_wp2_with fail; have M3 := M1.drew.below hb3 HB.out; obtain ⟨q0, q1, q2, q3⟩ := cellsE (M3.st.rows tw _ (HIN.out _)).1 (k := k2) (by omega); have M5 := M3.sp (by simp; omega) htw HG.out (HIN.out _) HSO.out (k := k2) (by omega) (widen so sn ths); simp only [List.set_set] at M5
              refine hK.out _ _ ?_ (fun hHeld => ?_)
              · (exact HS _ _ M3)
              clear hK K
              (try simp only [Act.put, List.setIfInBounds_toArray, List.set_cons_zero, List.set_cons_succ])
              refine wpAnyH_take (i := 12) (v := ?_) rfl (by kernel_rfl) (by kernel_rfl) (by kernel_rfl) (fun _ _ _ h => h) (Or.inl ⟨by rfl, ?_⟩) (by assumption) ?_
              rotate_left
              · (intro w' hSw; (try dsimp only at hSw); go_simp <;> with_reducible rfl)
              (try simp only [Act.put, List.setIfInBounds_toArray, List.set_cons_zero, List.set_cons_succ])
              refine wpAnyH_ready (rs := [13]) (by kernel_rfl) (by simp) ?_
              refine AllReadyH.cons rfl (fun K hK => ?_) AllReadyH.nil
              go_simp
              refine hK.out _ _ ?_ (fun hHeld => ?_)
              · (exact HS _ _ M5)
              clear hK K
              (try simp only [Act.put, List.setIfInBounds_toArray, List.set_cons_zero, List.set_cons_succ])
              refine wpAnyH_done (by kernel_rfl) ?_ _
              go_wp2
              go_roundw
              case rel =>
                refine ⟨k2 + 1, by omega, by go_num, ?_⟩
                rw [HGS.out, HGR.out]
                exact M5
              case measure => simp [intOf]; omega
          · have hkk : k2 = k := by omega
            subst hkk
            have k3 := M1.st.c2
            have k5 := M1.st.mksC (i := tw) (by show tw < s.marked.length; omega)
            simp only at k5
            have f5 := M1.st.mks.frozen tw
            have HM2 := Lib.hid (M1.mark HG.out tw true)
            clear M1
            go_wp2
            refine ret_of ?_ rfl
            have hfin : mergeD s tw nx ths = { s with changes := s.changes.set tw (incTo (s.changes.getD tw []) old nx k2), joined := s.joined.set tw (sj + 1), ins := s.ins.set tw (some (grTo wide ths old nx k2)), marked := s.marked.set tw true } := by
              rw [HM.out]; first | exact if_pos trivial | exact if_pos rfl
            refine ⟨_, results_none rfl _ _ _, ⟨_, rfl⟩, HM2.out.bel, L, ?_, HM2.out.fr, fun k hk => .inl ?_⟩
            · rw [hfin]; exact HM2.out.st
            · rw [hfin] at hk
              rcases hk with q | q | q | q | q | q | ⟨j, m, hm, e⟩
              · exact .inl q
              · exact .inr (.inl q)
              · exact .inr (.inr (.inl q))
              · exact .inr (.inr (.inr (.inl q)))
              · exact .inr (.inr (.inr (.inr (.inl q))))
              · exact .inr (.inr (.inr (.inr (.inr (.inl q)))))
              · rw [getD_set] at hm
                by_cases e2 : tw = j
                · subst e2
                  exact .inr (.inr (.inr (.inr (.inr (.inr ⟨_, _, HSO.out, e⟩)))))
                · rw [if_neg (fun q => e2 q.1)] at hm
                  exact .inr (.inr (.inr (.inr (.inr (.inr ⟨j, m, hm, e⟩)))))
theorem mergeP (B n R sb : Nat) (L : Lay) (s : StD) (tw g cp tc : Nat) (A : Option Addr) (nx : List Sp) (ths : List Int) (W : World) (h : StP W B n R sb L s) (hB : B ≤ W.heap.size) (hn : n ≤ maxLen) (hR : R ≤ 64) (hok : StOk n R ths s) (htw : tw < n) (hnl : nx.length = R) (hr : RowS W g cp nx) (hc : R ≤ cp) (ht : cp ≤ maxLen) (hg : ¬ L.has sb n s g) (hBg : B ≤ g) (htl : ths.length ≤ 16) (hT : IntsAt W B A ths) (hj : s.joined.getD tw 0 + 1 ≤ 9223372036854775807) :
    Calls Tryd.prog 35 #[.pointer (some ⟨sb, 0, none⟩), .int .i64 tw, .slice (some ⟨g, 0, none⟩) R cp, .slice A ths.length tc] W (MergeOk B n R sb L s (mergeD s tw nx ths) g W) := by
  cases hi : s.ins.getD tw none with
  | none => exact mergeP1 B n R sb L s tw g cp tc A nx ths W h hB hn hok htw hi hr hc ht hg hBg
  | some old => exact mergeP2 B n R sb L s tw g cp tc A nx old ths W h hB hn hR hok htw hi hnl hr hc ht hg htl hT hj
end Go.Proofs.YtddobhneplfddaaDoor
