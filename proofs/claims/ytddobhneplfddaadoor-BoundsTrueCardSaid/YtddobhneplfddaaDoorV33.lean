/-
  Layer 16 (bounds): EdgeP, Clone.
-/
import Derived.Test.YtddobhneplfddaaDoorV15
import Derived.Test.YtddobhneplfddaaDoorV26
import Derived.Test.YtddobhneplfddaaDoorV30
namespace Go.Proofs.YtddobhneplfddaaDoor
set_option maxRecDepth 100000
open Go.RowKit
set_option linter.unusedSimpArgs false
set_option linter.unusedVariables false
/-- What Edge tells. -/
def edgeD (m : ModD) (fn frm tw : Int) (l : List Sp) : Option (List Sp) :=
  if (mayD m).e = 0 ∧ 0 ≤ fn ∧ fn < m.funcs.length ∧ tw ∈ nextD (nthF m.funcs fn.toNat) frm ∧ (l.length : Int) = (nthF m.funcs fn.toNat).regs ∧ (l.all fun s => decide (s.lo ≤ s.hi)) = true then
    awayD m (nthF m.funcs fn.toNat) frm tw (nthX (nthF m.funcs fn.toNat).code frm.toNat) l else none
theorem may_e {m : ModD} (h : (mayD m).e = 0) : mayD m = ⟨0, 0, 0⟩ := by
  unfold mayD at h ⊢
  split at h
  · simp at h
  split at h
  · simp at h
  split at h
  · simp at h
  split at h
  · rename_i h4
    exfalso
    rcases badFrom_cases (okWhole m) m.funcs.length 0 with ⟨a1, a2⟩ | ⟨j, b1, b2, b3, b4⟩
    · exact h4 a1
    · have hd : wholeD m = j := b3
      rw [hd] at h
      simp only [Int.toNat_natCast] at h
      simp [okWhole, h] at b4
  split at h
  · rename_i h4
    exfalso
    rcases badFrom_cases (okCode m) m.funcs.length 0 with ⟨a1, a2⟩ | ⟨j, b1, b2, b3, b4⟩
    · exact h4 a1
    · have hd : codeD m = j := b3
      rw [hd] at h
      simp only [Int.toNat_natCast] at h
      simp [okCode, h] at b4
  · rw [if_neg (by assumption), if_neg (by assumption), if_neg (by assumption), if_neg (by assumption), if_neg (by assumption)]
theorem fieldE (x y z : Value) (w : World) : (Instr.field 53 (.agg #[x, y, z]) 0).run Tryd.prog w = .ok x w := by kernel_rfl
theorem edge_no1 {m : ModD} {fn frm tw : Int} {l : List Sp} (h : (mayD m).e ≠ 0) : edgeD m fn frm tw l = none := by
  rw [edgeD, if_neg]
  rintro ⟨e, _⟩
  exact h e
theorem edge_no2 {m : ModD} {fn frm tw : Int} {l : List Sp} (h : fn < 0 ∨ (m.funcs.length : Int) ≤ fn) : edgeD m fn frm tw l = none := by
  rw [edgeD, if_neg]
  rintro ⟨_, e1, e2, _⟩
  omega
set_option maxHeartbeats 4000000 in
theorem edgeP1 (m : ModD) (fn frm tw : Int) (A : Option Addr) (n c : Nat) (l : List Sp) (wm : m.Wf) (h : ((mayD m).e != 0) = true) (w : World) (hm : ModOk w w.heap.size m) (ht : TabOk w) :
    Calls Tryd.prog 10 #[m.val, .int .i64 fn, .int .i64 frm, .int .i64 tw, .slice A n c] w (WayOk l.length (edgeD m fn frm tw l) w) := by
  rw [edge_no1 (by simpa using h)]
  have H := Lib.hid (And.intro hm ht)
  clear hm ht
  have hfe := fieldE
  go_enter Tryd.func10, Tryd.ntmps10
  go_wp2_with fail
  go_at_call 26
  refine (mayP m _ wm (H.out.1.below (below_alloc (Below.refl _ _) _) (Nat.le_refl _) |>.more (by simp)) (H.out.2.alloc _)).mono ?_
  rintro e w1 ⟨rfl, hb1⟩
  go_wp2
  go_ret2
  exact ⟨below_step (below_alloc (Below.refl _ _) _) hb1, _, rfl, rfl⟩
set_option maxHeartbeats 4000000 in
theorem edgeP2 (m : ModD) (fn frm tw : Int) (A : Option Addr) (n c : Nat) (l : List Sp) (wm : m.Wf) (h : ((mayD m).e != 0) = false) (hfn : fn < 0 ∨ (m.funcs.length : Int) ≤ fn) (w : World) (hm : ModOk w w.heap.size m) (ht : TabOk w) :
    Calls Tryd.prog 10 #[m.val, .int .i64 fn, .int .i64 frm, .int .i64 tw, .slice A n c] w (WayOk l.length (edgeD m fn frm tw l) w) := by
  rw [edge_no2 hfn]
  have H := Lib.hid (And.intro hm ht)
  have q0 := (Whl.new w 25 #[.slice m.ta m.ths.length m.tc, .slice m.fa m.funcs.length m.fc]).cell 1
  clear hm ht
  by_cases h0 : fn < 0
  · have hfe := fieldE
    go_enter Tryd.func10, Tryd.ntmps10
    go_wp2_with fail
    go_at_call 26
    refine (mayP m _ wm (H.out.1.below (below_alloc (Below.refl _ _) _) (Nat.le_refl _) |>.more (by simp)) (H.out.2.alloc _)).mono ?_
    rintro e w1 ⟨rfl, hb1⟩
    go_wp2
    go_ret2
    exact ⟨below_step (below_alloc (Below.refl _ _) _) hb1, _, rfl, rfl⟩
  · have h1 : (m.funcs.length : Int) ≤ fn := by omega
    have h2 : decide (fn < 0) = false := by simpa using h0
    clear h0 hfn
    have hfe := fieldE
    go_enter Tryd.func10, Tryd.ntmps10
    go_wp2_with fail
    go_at_call 26
    refine (mayP m _ wm (H.out.1.below (below_alloc (Below.refl _ _) _) (Nat.le_refl _) |>.more (by simp)) (H.out.2.alloc _)).mono ?_
    rintro e w1 ⟨rfl, hb1⟩
    have q1 := cellK hb1 q0
    simp at q1
    go_wp2
    go_ret2
    exact ⟨below_step (below_alloc (Below.refl _ _) _) hb1, _, rfl, rfl⟩
theorem next_len (f : FuncD) (a : Int) : (nextD f a).length ≤ maxLen := by
  have h : (nextD f a).length ≤ 2 := by
    unfold nextD
    split
    · refine Nat.le_trans (List.length_filter_le _ _) ?_
      unfold nextL
      split <;> (try split) <;> (try split) <;> (try split) <;> simp
    · simp
  unfold maxLen; omega
theorem edge_no3 {m : ModD} {kf : Nat} {frm tw : Int} {l : List Sp} (h : tw ∉ nextD (nthF m.funcs kf) frm ∨ (l.length : Int) ≠ (nthF m.funcs kf).regs) : edgeD m kf frm tw l = none := by
  rw [edgeD, if_neg]
  rintro ⟨_, e1, e2, e3, e4, _⟩
  rw [Int.toNat_natCast] at e3 e4
  rcases h with h | h
  · exact h e3
  · exact h e4
set_option maxHeartbeats 4000000 in
theorem edgeP3 (m : ModD) (kf : Nat) (frm tw : Int) (A : Option Addr) (c : Nat) (l : List Sp) (wm : m.Wf) (hmay : mayD m = ⟨0, 0, 0⟩) (hfn : kf < m.funcs.length) (hfr : In64 frm) (hl : l.length ≤ maxLen) (hno : tw ∉ nextD (nthF m.funcs kf) frm ∨ (l.length : Int) ≠ (nthF m.funcs kf).regs) (w : World) (hm : ModOk w w.heap.size m) (ht : TabOk w) :
    Calls Tryd.prog 10 #[m.val, .int .i64 kf, .int .i64 frm, .int .i64 tw, .slice A l.length c] w (WayOk l.length (edgeD m kf frm tw l) w) := by
  rw [edge_no3 hno]
  have hnx : ∀ k, k < (nthF m.funcs kf).code.length → known (nthX (nthF m.funcs kf).code k).op = true ∧ (nthX (nthF m.funcs kf).code k).Wf := fun k hk => ⟨(i_ok ((f_ok hmay hfn).ins k hk)).known, (wm.funcs _ (nthF_mem hfn)).code _ (nthX_mem hk)⟩
  have hcl : (nthF m.funcs kf).code.length * 40 ≤ 140737488351232 := by have := (f_ok2 hmay hfn).2.1; omega
  have hme : ((mayD m).e != 0) = false := by rw [hmay]; rfl
  have hcells := funcs_cells hm.funcs hfn
  obtain ⟨fb, fo, hfa, hfb, u0, u1, u2, u3, u4⟩ := hcells
  have hI := (hm.each kf hfn).code
  have H := Lib.hid (And.intro hm ht)
  obtain ⟨F, hF⟩ : ∃ F, nthF m.funcs kf = F := ⟨_, rfl⟩
  rw [hF] at hnx hcl u0 u1 u2 u3 u4 hI
  have hkf : ((kf : Nat) : Int) < (m.funcs.length : Int) := by omega
  have hk0 : decide (((kf : Nat) : Int) < 0) = false := by simp
  have hk1 : decide (m.funcs.length ≤ kf) = false := by simp; omega
  have MB := Whl.new w 25 #[.slice m.ta m.ths.length m.tc, .slice m.fa m.funcs.length m.fc]
  clear hm ht
  have HFF := Lib.hid hF
  have HMY := Lib.hid hmay
  have HFA := Lib.hid hfa
  clear hF hmay hfa
  have hfe := fieldE
  have HN := Lib.hid hnx
  have HI := Lib.hid hI
  clear hnx hI
  go_enter Tryd.func10, Tryd.ntmps10
  go_wp2_with fail
  go_at_call 26
  refine (mayP m _ wm (H.out.1.below (below_alloc (Below.refl _ _) _) (Nat.le_refl _) |>.more (by simp)) (H.out.2.alloc _)).mono ?_
  rintro e w1 ⟨rfl, hb1⟩
  have B1 : Below w.heap.size w w1 := below_step (below_alloc (Below.refl _ _) _) hb1
  have M1 := MB.below' hb1
  have q1 := M1.cell 1
  rw [HFA.out] at q1
  rw [← B1.cell (p := ⟨fb, fo + kf * 5, none⟩) hfb] at u0
  rw [← B1.cell (p := ⟨fb, fo + kf * 5 + 1, none⟩) hfb] at u1
  rw [← B1.cell (p := ⟨fb, fo + kf * 5 + 2, none⟩) hfb] at u2
  rw [← B1.cell (p := ⟨fb, fo + kf * 5 + 3, none⟩) hfb] at u3
  rw [← B1.cell (p := ⟨fb, fo + kf * 5 + 4, none⟩) hfb] at u4
  simp at q1
  clear hb1 MB
  go_wp2_with fail
  go_at_call 28
  refine (nextP F hcl frm hfr _ (HI.out.below (below_alloc B1 _) (Nat.le_refl _) |>.more (below_alloc B1 _).size) HN.out).mono ?_
  rintro e w2 ⟨⟨v2, rfl, own2⟩, hb2⟩
  obtain ⟨A2, c2, rfl, hn2⟩ := own_slice own2
  have hv2 := vals_own (l := (nextD F frm).map (Value.int .i64)) (by rw [List.length_map]; exact own2)
  have hl2 : (nextD F frm).length ≤ maxLen := next_len F frm
  have B2 := below_step (below_alloc B1 _) hb2
  have FB2 := (Whl.new w1 48 #[.string F.name, .slice F.pa F.params.length F.pc, .int .i64 F.regs, .int .i64 F.words, .slice F.ca F.code.length F.cc]).below' hb2
  have M2 := (M1.alloc _).below' hb2
  have q2 := FB2.cell 2
  simp at q2
  clear u0 u1 u2 u3 u4 q1 hb2
  go_wp2_with fail
  go_at_call 27
  refine (containsI (nextD F frm) tw A2 c2 w2 hl2 hv2).mono ?_
  rintro e w3 ⟨rfl, rfl⟩
  clear hv2
  have HO := Lib.hid hno
  rw [HFF.out] at HO
  by_cases hin : tw ∈ nextD F frm
  · have hd : decide (tw ∈ nextD F frm) = true := by simpa using hin
    have hne : ((l.length : Int) != F.regs) = true := by
      have := HO.out.resolve_left (fun h => h hin)
      simpa using this
    rw [hd]
    clear hno hin
    go_wp2
    go_ret2
    exact ⟨B2, _, rfl, rfl⟩
  · have hd : decide (tw ∈ nextD F frm) = false := by simpa using hin
    rw [hd]
    clear hno hin
    go_wp2
    go_ret2
    exact ⟨B2, _, rfl, rfl⟩
/-- At the head of a round over the spans that came in. -/
def EdgeRel (w : World) (mcs fcs : Array Value) (fbx : Nat) (l : List Sp) (i : Value) (W : World) : Prop :=
  ∃ k : Nat, k ≤ l.length ∧ i = .int .i64 k ∧ (∀ j s, j < k → l[j]? = some s → s.lo ≤ s.hi) ∧ Below w.heap.size w W ∧ Whl W w.heap.size 25 mcs ∧ Whl W fbx 48 fcs
theorem in_next {f : FuncD} {a tw : Int} (h : tw ∈ nextD f a) : ∃ k : Nat, a = k ∧ k < f.code.length := by
  unfold nextD at h
  split at h
  · rename_i hc
    have : 0 ≤ a ∧ a < f.code.length := by simpa [inCode] using hc
    exact ⟨a.toNat, by omega, by omega⟩
  · simp at h
theorem edge_yes {m : ModD} {kf k0 : Nat} {tw : Int} {l : List Sp} (hmay : mayD m = ⟨0, 0, 0⟩) (hfn : kf < m.funcs.length) (h1 : tw ∈ nextD (nthF m.funcs kf) k0) (h2 : (l.length : Int) = (nthF m.funcs kf).regs) (h3 : ∀ j s, j < l.length → l[j]? = some s → s.lo ≤ s.hi) :
    edgeD m kf k0 tw l = awayD m (nthF m.funcs kf) k0 tw (nthX (nthF m.funcs kf).code k0) l := by
  rw [edgeD, if_pos]
  · rfl
  · refine ⟨by rw [hmay], by omega, by omega, h1, h2, ?_⟩
    rw [List.all_eq_true]
    intro s hs
    obtain ⟨j, hj, e⟩ := List.getElem_of_mem hs
    simpa using h3 j s hj (by rw [List.getElem?_eq_getElem hj, e])
theorem edge_no4 {m : ModD} {kf : Nat} {frm tw : Int} {l : List Sp} {k : Nat} {s : Sp} (hs : l[k]? = some s) (h : s.hi < s.lo) : edgeD m kf frm tw l = none := by
  rw [edgeD, if_neg]
  rintro ⟨_, _, _, _, _, h5⟩
  rw [List.all_eq_true] at h5
  have := h5 s (List.mem_of_getElem? hs)
  simp at this; omega
theorem outOwn {w w1 : World} {base : Nat} {v1 : Value} {l : List Sp} (hl : 0 < l.length) (own : w1.ownsRow base 34 2 v1 (0 + l.length) ([] ++ rowsL l.length 2 fun k => spV (nthS l k))) :
    ∃ g cp, v1 = .slice (some ⟨g, 0, none⟩) l.length cp ∧ base ≤ g ∧ l.length ≤ cp ∧ cp ≤ maxLen ∧ RowS w1 g cp l := by
  rw [Nat.zero_add, List.nil_append, rowsL_rowSp] at own
  rcases own with ⟨hlen, ⟨_, h0⟩ | ⟨g, cp, cur, rfl, hb, hh, hnc, hm, hs, ht⟩⟩
  · omega
  exact ⟨g, cp, rfl, hb, hnc, hm, ⟨cur, hh, ⟨by omega, hs⟩, ht⟩⟩
set_option maxHeartbeats 4000000 in
theorem edgeP4 (m : ModD) (kf : Nat) (frm tw : Int) (A : Option Addr) (c : Nat) (l : List Sp) (wm : m.Wf) (hmay : mayD m = ⟨0, 0, 0⟩) (hfn : kf < m.funcs.length) (hfr : In64 frm) (hl : l.length ≤ maxLen) (hin : tw ∈ nextD (nthF m.funcs kf) frm) (hreg : (l.length : Int) = (nthF m.funcs kf).regs) (hwf : ∀ (k : Nat) (s : Sp), l[k]? = some s → s.Wf) (w : World) (hm : ModOk w w.heap.size m) (ht : TabOk w) (hin2 : RowsAt w w.heap.size A l.length 2 fun k => spV (nthS l k)) :
    Calls Tryd.prog 10 #[m.val, .int .i64 kf, .int .i64 frm, .int .i64 tw, .slice A l.length c] w (WayOk l.length (edgeD m kf frm tw l) w) := by
  obtain ⟨k0, rfl, hk0c⟩ := in_next hin
  have hr1 := (f_ok hmay hfn).regs
  have HY := Lib.hid (fun h3 => edge_yes hmay hfn hin hreg h3)
  have HNo := Lib.hid (fun (k : Nat) (s : Sp) (hs : l[k]? = some s) (h : s.hi < s.lo) => edge_no4 (m := m) (kf := kf) (frm := k0) (tw := tw) hs h)
  have AJ := Lib.hid (fun (g cp : Nat) (hcr : l.length ≤ cp) (hcp : cp ≤ maxLen) (w4 : World) (hM : ModOk w4 w.heap.size m) (hB : w.heap.size ≤ g) (hBw : w.heap.size ≤ w4.heap.size) (hR : RowS w4 g cp l) => awayJ m wm hmay hfn hk0c tw g cp w.heap.size l hreg hcr hcp hwf w4 hM hB hBw hR)
  obtain ⟨iS, hiS, zS0, zS1, zS2⟩ := info_parts infoS
  have hl0 : 0 < l.length := by omega
  have hl64 : l.length ≤ 64 := by omega
  have HM0 := Lib.hid hm
  have HIN2 := Lib.hid hin2
  obtain ⟨D, hD⟩ : ∃ D, edgeD m kf k0 tw l = D := ⟨_, rfl⟩
  rw [hD] at HY HNo ⊢
  have hcells0 := hin2
  clear hD hin2 hwf hr1
  have hnx : ∀ k, k < (nthF m.funcs kf).code.length → known (nthX (nthF m.funcs kf).code k).op = true ∧ (nthX (nthF m.funcs kf).code k).Wf := fun k hk => ⟨(i_ok ((f_ok hmay hfn).ins k hk)).known, (wm.funcs _ (nthF_mem hfn)).code _ (nthX_mem hk)⟩
  have hcl : (nthF m.funcs kf).code.length * 40 ≤ 140737488351232 := by have := (f_ok2 hmay hfn).2.1; omega
  have hme : ((mayD m).e != 0) = false := by rw [hmay]; rfl
  have hcells := funcs_cells hm.funcs hfn
  obtain ⟨fb, fo, hfa, hfb, u0, u1, u2, u3, u4⟩ := hcells
  have hI := (hm.each kf hfn).code
  have H := Lib.hid (And.intro hm ht)
  obtain ⟨F, hF⟩ : ∃ F, nthF m.funcs kf = F := ⟨_, rfl⟩
  rw [hF] at hnx hcl u0 u1 u2 u3 u4 hI
  have hkf : ((kf : Nat) : Int) < (m.funcs.length : Int) := by omega
  have hk0 : decide (((kf : Nat) : Int) < 0) = false := by simp
  have hk1 : decide (m.funcs.length ≤ kf) = false := by simp; omega
  have MB := Whl.new w 25 #[.slice m.ta m.ths.length m.tc, .slice m.fa m.funcs.length m.fc]
  clear hm ht
  have HFF := Lib.hid hF
  have HMY := Lib.hid hmay
  have HFA := Lib.hid hfa
  clear hF hmay hfa
  have hfe := fieldE
  have HN := Lib.hid hnx
  have HI := Lib.hid hI
  clear hnx hI
  go_enter Tryd.func10, Tryd.ntmps10
  go_wp2_with fail
  go_at_call 26
  refine (mayP m _ wm (H.out.1.below (below_alloc (Below.refl _ _) _) (Nat.le_refl _) |>.more (by simp)) (H.out.2.alloc _)).mono ?_
  rintro e w1 ⟨rfl, hb1⟩
  have B1 : Below w.heap.size w w1 := below_step (below_alloc (Below.refl _ _) _) hb1
  have M1 := MB.below' hb1
  have q1 := M1.cell 1
  rw [HFA.out] at q1
  rw [← B1.cell (p := ⟨fb, fo + kf * 5, none⟩) hfb] at u0
  rw [← B1.cell (p := ⟨fb, fo + kf * 5 + 1, none⟩) hfb] at u1
  rw [← B1.cell (p := ⟨fb, fo + kf * 5 + 2, none⟩) hfb] at u2
  rw [← B1.cell (p := ⟨fb, fo + kf * 5 + 3, none⟩) hfb] at u3
  rw [← B1.cell (p := ⟨fb, fo + kf * 5 + 4, none⟩) hfb] at u4
  simp at q1
  clear hb1 MB
  go_wp2_with fail
  go_at_call 28
  refine (nextP F hcl (k0 : Int) hfr _ (HI.out.below (below_alloc B1 _) (Nat.le_refl _) |>.more (below_alloc B1 _).size) HN.out).mono ?_
  rintro e w2 ⟨⟨v2, rfl, own2⟩, hb2⟩
  obtain ⟨A2, c2, rfl, hn2⟩ := own_slice own2
  have hv2 := vals_own (l := (nextD F (k0 : Int)).map (Value.int .i64)) (by rw [List.length_map]; exact own2)
  have hl2 : (nextD F (k0 : Int)).length ≤ maxLen := next_len F (k0 : Int)
  have B2 := below_step (below_alloc B1 _) hb2
  have FB2 := (Whl.new w1 48 #[.string F.name, .slice F.pa F.params.length F.pc, .int .i64 F.regs, .int .i64 F.words, .slice F.ca F.code.length F.cc]).below' hb2
  have M2 := (M1.alloc _).below' hb2
  have q2 := FB2.cell 2
  simp at q2
  clear u0 u1 u2 u3 u4 q1 hb2
  go_wp2_with fail
  go_at_call 27
  refine (containsI (nextD F (k0 : Int)) tw A2 c2 w2 hl2 hv2).mono ?_
  rintro e w3 ⟨rfl, rfl⟩
  have hd : decide (tw ∈ nextD F (k0 : Int)) = true := by rw [← HFF.out]; simpa using hin
  have hne : ((l.length : Int) != F.regs) = false := by rw [← HFF.out]; simpa using hreg
  rw [hd]
  rw [HFF.out] at HY AJ
  clear hv2 hin hreg hd
  go_wp2_with fail
  generalize hfb : w1.heap.size = fbx at *
  go_loopw [51] (fun i V => EdgeRel w #[.slice m.ta m.ths.length m.tc, .slice m.fa m.funcs.length m.fc] #[.string F.name, .slice F.pa F.params.length F.pc, .int .i64 F.regs, .int .i64 F.words, .slice F.ca F.code.length F.cc] fbx l i V) (fun i _ => l.length - (intOf i).toNat)
  case atStart => exact ⟨0, Nat.zero_le _, rfl, fun _ _ h => absurd h (by omega), B2, M2, FB2⟩
  case round =>
    obtain ⟨k, hk, rfl, hok, B4, M4, F4⟩ := hrel
    have HOK := Lib.hid hok
    clear hok B2 M2 FB2 q2
    by_cases hlt : k < l.length
    · obtain ⟨ib, io, hA, hib, hic⟩ := hcells0 (by omega)
      have z0 := hic k hlt 0 (by omega)
      have z1 := hic k hlt 1 (by omega)
      simp only [spV, Nat.add_zero] at z0 z1
      rw [← B4.cell (p := ⟨ib, io + k * 2, none⟩) hib] at z0
      rw [← B4.cell (p := ⟨ib, io + k * 2 + 1, none⟩) hib] at z1
      obtain ⟨s, hs⟩ : ∃ s, l[k]? = some s := ⟨_, List.getElem?_eq_getElem hlt⟩
      have es : nthS l k = s := by rw [nthS, List.getD_eq_getElem?_getD, hs]; rfl
      rw [es] at z0 z1
      have hki : (k : Int) < (l.length : Int) := by omega
      have HS := Lib.hid hs
      subst hA
      clear hic es hs hcells0
      by_cases hlo : s.lo ≤ s.hi
      · have hg : decide (s.hi < s.lo) = false := by simp; omega
        go_wp2
        all_goals
          go_roundw
          case rel =>
            refine ⟨k + 1, by omega, by go_num, fun j t hj ht => ?_, below_alloc B4 _, M4.alloc _, F4.alloc _⟩
            rcases Nat.lt_or_ge j k with q | q
            · exact HOK.out j t q ht
            · obtain rfl : j = k := by omega
              rw [HS.out] at ht
              cases ht
              exact hlo
          case measure => simp [intOf]; omega
      · have hg : decide (s.hi < s.lo) = true := by simp; omega
        go_wp2
        go_ret2
        rw [HNo.out k s HS.out (by omega)]
        exact ⟨below_alloc B4 _, _, rfl, rfl⟩
    · have hk2 : k = l.length := by omega
      subst hk2
      have HYY := HY.out HOK.out
      have HD := Lib.hid HYY
      have hnil : A = none → c = 0 := fun e => by obtain ⟨b, o, e2, _⟩ := HIN2.out hl0; rw [e] at e2; cases e2
      clear HYY hcells0 hlt
      go_wp2_with (at_builtin; refine wpList_append_any rfl _ _ _ rfl w.heap.size 34 iS (.agg #[.int .i64 0, .int .i64 0]) 2 16 Tryd.underlying26 hiS zS0 zS1 zS2 rfl (by decide) (.slice none 0 0) 0 [] (by rfl) (World.ownsRow_nil _ _ _ _) A l.length c (fun k => spV (nthS l k)) rfl ((HIN2.out.below B4 (Nat.le_refl _)).more B4.size) hnil (fun k j => spV_one _ j) (by unfold maxLen; omega) (by omega) B4.size ?_; intro v5 w5 own5 hg5; obtain ⟨g, cp, rfl, hb5, hcr, hcp, R5⟩ := outOwn (w := w) hl0 own5; have M5 := M4.grown hg5 (by simp [Value.ownBlock]); have F5 := F4.grown hg5 (by simp [Value.ownBlock]); have m0 := M5.cell 0; have m1 := M5.cell 1; have f0 := F5.cell 0; have f1 := F5.cell 1; have f2 := F5.cell 2; have f3 := F5.cell 3; have f4 := F5.cell 4; simp at m0 m1 f0 f1 f2 f3 f4)
      go_at_call 29
      have B5 : Below w.heap.size w w5 := B4.trans ⟨hg5.os, hg5.tape, hg5.output, hg5.size, fun i hi => hg5.block i (Nat.lt_of_lt_of_le hi B4.size) (by simp [Value.ownBlock])⟩
      refine (AJ.out g cp hcr hcp w5 (HM0.out.below B5 (Nat.le_refl _)) hb5 B5.size R5).mono ?_
      rintro e w6 ⟨rfl, ⟨r6, hR6, hrl, hq⟩, hg6⟩
      have B6 : Below w.heap.size w w6 := B5.trans (belowOfGw hg6 hb5 B5.size)
      have HR6 := Lib.hid hR6
      clear hR6 M5 F5 m0 m1 f0 f1 f2 f3 f4 R5 own5 hg5 hg6
      cases ho : awayD m F k0 tw (nthX F.code k0) l with
      | none =>
        clear hq
        have e := HD.out
        rw [ho] at e
        have HE := Lib.hid e
        clear e
        go_wp2
        go_ret2
        rw [HE.out]
        exact ⟨B6, _, rfl, rfl⟩
      | some q =>
        have e := HD.out
        rw [ho] at e
        have hrq := hq q ho
        subst hrq
        have HE := Lib.hid e
        clear e
        have HRL := Lib.hid hrl
        clear hq hrl
        go_wp2
        go_ret2
        rw [HE.out]
        exact ⟨B6, _, rfl, ⟨g, cp, by rw [HRL.out]; rfl, hb5, by rw [HRL.out]; exact hcr, hcp, HR6.out⟩, HRL.out⟩
theorem edgeP (m : ModD) (fn frm tw : Int) (A : Option Addr) (c : Nat) (l : List Sp) (wm : m.Wf) (hfr : In64 frm) (hl : l.length ≤ maxLen) (hwf : ∀ (k : Nat) (s : Sp), l[k]? = some s → s.Wf) (w : World) (hm : ModOk w w.heap.size m) (ht : TabOk w) (hin2 : RowsAt w w.heap.size A l.length 2 fun k => spV (nthS l k)) :
    Calls Tryd.prog 10 #[m.val, .int .i64 fn, .int .i64 frm, .int .i64 tw, .slice A l.length c] w (WayOk l.length (edgeD m fn frm tw l) w) := by
  cases h : ((mayD m).e != 0)
  · have hmay : mayD m = ⟨0, 0, 0⟩ := may_e (by simpa using h)
    by_cases hf : fn < 0 ∨ (m.funcs.length : Int) ≤ fn
    · exact edgeP2 m fn frm tw A _ c l wm h hf w hm ht
    · obtain ⟨kf, rfl, hkf⟩ := nat_of (show 0 ≤ fn ∧ fn < (m.funcs.length : Int) by omega)
      have hfn : kf < m.funcs.length := by omega
      by_cases hno : tw ∉ nextD (nthF m.funcs kf) frm ∨ (l.length : Int) ≠ (nthF m.funcs kf).regs
      · exact edgeP3 m kf frm tw A c l wm hmay hfn hfr hl hno w hm ht
      · have h1 : tw ∈ nextD (nthF m.funcs kf) frm := Classical.byContradiction fun h => hno (.inl h)
        have h2 : (l.length : Int) = (nthF m.funcs kf).regs := Classical.byContradiction fun h => hno (.inr h)
        exact edgeP4 m kf frm tw A c l wm hmay hfn hfr hl h1 h2 hwf w hm ht hin2
  · exact edgeP1 m fn frm tw A _ c l wm h w hm ht
end Go.Proofs.YtddobhneplfddaaDoor

namespace Go.Proofs.YtddobhneplfddaaDoor
set_option maxRecDepth 100000
open Go.RowKit
set_option linter.unusedSimpArgs false
set_option linter.unusedVariables false
/-- What Clone hands back. -/
def CloneOk (w : World) (A : Option Addr) (l : List Sp) (e : Ending) (w' : World) : Prop :=
  ∃ v, e = .returned v ∧ (A = none → v = .slice none 0 0) ∧ w'.ownsRow w.heap.size 34 2 v l.length (rowsL l.length 2 fun k => spV (nthS l k)) ∧ Below w.heap.size w w'
set_option maxHeartbeats 2000000 in
theorem cloneP (A : Option Addr) (c : Nat) (l : List Sp) (hl : l.length ≤ 64) (hnil : A = none → c = 0 ∧ l = []) (w : World) (h : RowsAt w w.heap.size A l.length 2 fun k => spV (nthS l k)) :
    Calls Tryd.prog 33 #[.slice A l.length c] w (CloneOk w A l) := by
  obtain ⟨iS, hiS, zS0, zS1, zS2⟩ := info_parts infoS
  have hcm := fun (w : World) (a : Option Addr) (p q : Nat) => Lib.run_eql_slice_nil (P := Tryd.prog) w 26 34 a p q 0 0 Tryd.underlying26
  have H := Lib.hid h
  have HN := Lib.hid hnil
  clear h
  cases A with
  | none =>
    obtain ⟨rfl, rfl⟩ := hnil rfl
    clear hnil
    go_enter Tryd.func33, Tryd.ntmps33
    go_wp2
    go_ret
    exact ⟨_, rfl, fun _ => rfl, World.ownsRow_nil _ _ _ _, Below.refl _ _⟩
  | some a =>
    clear hnil
    go_enter Tryd.func33, Tryd.ntmps33
    go_wp2_with (at_builtin; refine wpList_append_any rfl _ _ _ rfl w.heap.size 34 iS (.agg #[.int .i64 0, .int .i64 0]) 2 16 Tryd.underlying26 hiS zS0 zS1 zS2 rfl (by decide) _ 0 [] rfl (own_made0 _ _ _ (Nat.le_refl _) rfl) (some a) l.length c (fun k => spV (nthS l k)) rfl ((H.out.below (below_alloc (Below.refl _ _) _) (Nat.le_refl _)).more (by simp)) (fun e => by cases e) (fun k j => spV_one _ j) (by unfold maxLen; omega) (by omega) (by simp) ?_; intro v5 w5 own5 hg5)
    go_ret
    rw [Nat.zero_add, List.nil_append] at own5
    exact ⟨_, rfl, (fun e => by cases e), own5, (below_alloc (Below.refl _ _) _).trans (belowOfGw hg5 (Nat.le_refl _) (by simp))⟩
set_option maxHeartbeats 2000000 in
theorem clipP (A : Option Addr) (n c : Nat) (hc : n ≤ c) (hm : c ≤ maxLen) (hnil : A = none → n = 0) (w : World) :
    Calls Tryd.prog 32 #[.slice A n c] w fun e w' => e = .returned (.slice A n n) ∧ w = w' := by
  unfold maxLen at hm
  cases A with
  | none =>
    obtain rfl := hnil rfl
    go_enter Tryd.func32, Tryd.ntmps32
    go_wp2
    go_ret
    exact ⟨rfl, rfl⟩
  | some a =>
    clear hnil
    go_enter Tryd.func32, Tryd.ntmps32
    go_wp2
    go_ret
    exact ⟨rfl, rfl⟩
end Go.Proofs.YtddobhneplfddaaDoor
