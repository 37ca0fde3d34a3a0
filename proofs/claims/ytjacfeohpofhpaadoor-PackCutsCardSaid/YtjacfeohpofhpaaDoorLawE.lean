/-
  Layer 11 (pack): the walk of the law PackEncodes.
-/
import Derived.Test.YtjacfeohpofhpaaDoorFixed
namespace Go.Proofs.YtjacfeohpofhpaaDoor
open Go.RowKit
set_option linter.unusedSimpArgs false
set_option linter.unusedVariables false
/-- What lies in memory while b is written over. -/
structure EL (w : World) (c : ModD) (v vR : Value) (n : Nat) (LR : List UInt8) (gx gg : Nat) (d : FaultD) (W : World) : Prop where
  below : Below w.heap.size w W
  ob : ∃ l, l.length = n ∧ OwnB W w.heap.size v l
  oc : OwnM W w.heap.size c
  or : OwnB W w.heap.size vR LR
  ne : vR.ownBlock = none ∨ vR.ownBlock ≠ v.ownBlock
  bo : Whl W gx 25 #[.slice c.ta c.ths.length c.tc, .slice c.fa c.funcs.length c.fc]
  bg : Whl W gg 30 #[.int .i64 d.e, .int .i64 d.f, .int .i64 d.a]
variable {w W W' : World} {c : ModD} {v vR v2 : Value} {n : Nat} {LR : List UInt8} {gx gg : Nat} {d : FaultD}
theorem OwnM.low {base base' : Nat} (h : OwnM W base c) (hb : base' ≤ base) : OwnM W base' c := ⟨Joins.ownsRow_le h.ths hb, Joins.ownsRow_le h.funcs hb, fun k hk => (h.each k hk).low hb⟩
theorem EL.go (h : EL w c v vR n LR gx gg d W) (hb : Below W.heap.size W W') : EL w c v vR n LR gx gg d W' := by
  obtain ⟨l, hl, ho⟩ := h.ob
  exact ⟨below_step h.below hb, ⟨l, hl, own_below ho hb⟩, h.oc.below hb, own_below h.or hb, h.ne, h.bo.below' hb, h.bg.below' hb⟩
theorem EL.put {g cc i : Nat} (h : EL w c (.slice (some ⟨g, 0, none⟩) n cc) vR n LR gx gg d W) (hi : i < n) (b : UInt8) : EL w c (.slice (some ⟨g, 0, none⟩) n cc) vR n LR gx gg d (W.setCell ⟨g, i, none⟩ (u8V b)) := by
  obtain ⟨l, hl, ho⟩ := h.ob
  subst hl
  obtain ⟨g', c', cs, e, hw, hb, _⟩ := ownB_whl ho (by intro e; subst e; simp at hi)
  cases e
  refine ⟨h.below.setCell hb _, ⟨l.set i b, by simp, by have := ownB_put ho i b; simpa using this⟩, h.oc.far8 hw _ _, own_far h.or _ ?_, h.ne, h.bo.far ?_ _, h.bg.far ?_ _⟩
  · rcases h.ne with q | q
    · rw [q]; simp
    · exact q
  · intro e
    have h2 := h.bo
    unfold Whl at h2 hw
    rw [show gx = g from e, hw] at h2
    have := h2
    injection this with this
    injection this with _ this
    exact absurd this (by decide)
  · intro e
    have h2 := h.bg
    unfold Whl at h2 hw
    rw [show gg = g from e, hw] at h2
    have := h2
    injection this with this
    injection this with _ this
    exact absurd this (by decide)
theorem encL_len (m : ModD) : (encL m).length ≤ 400000 := by
  unfold encL
  split
  · rename_i h; exact encM_len (small_of (may_zero h))
  · simp
theorem fault_cells {g : Nat} {a b c : Value} (h : Whl W g 30 #[a, b, c]) : W.cell? ⟨g, 0, none⟩ = some a ∧ W.cell? ⟨g, 1, none⟩ = some b ∧ W.cell? ⟨g, 2, none⟩ = some c := ⟨h.cell 0, h.cell 1, h.cell 2⟩
theorem EL.app {o : Obj} {b : UInt8} (h : EL w c v vR n LR gx gg d W) (hg : (W.alloc o).grownBy W' v.ownBlock) :
    Below w.heap.size w W' ∧ OwnM W' w.heap.size c ∧ OwnB W' w.heap.size vR LR ∧ Whl W' gx 25 #[.slice c.ta c.ths.length c.tc, .slice c.fa c.funcs.length c.fc] ∧ Whl W' gg 30 #[.int .i64 d.e, .int .i64 d.f, .int .i64 d.a] := by
  obtain ⟨l, hl, ho⟩ := h.ob
  refine ⟨(below_alloc h.below o).grown hg (below_alloc h.below o).size (fun k hk => (ho.lt k hk).1), (h.oc.alloc o).kept8 (ho.alloc o) hg, (h.or.alloc o).kept hg h.ne, (h.bo.alloc o).grown hg (own_whl (ho.alloc o) (h.bo.alloc o) (by decide)), (h.bg.alloc o).grown hg (own_whl (ho.alloc o) (h.bg.alloc o) (by decide))⟩
set_option maxHeartbeats 2000000 in
set_option maxRecDepth 100000 in
theorem encodesL (m : ModD) (w : World) (ht : TabOk w) (wm : m.Wf) (hm : ModOk w w.heap.size m) (nm : m.Nils) : Calls Tryd.prog 3 #[m.val] w fun e w' => e = .returned (.bool true) ∧ Below w.heap.size w w' := by
  obtain ⟨iB, hiB, zB0, zB1, zB2⟩ := info_parts infoB
  have B0 := below_alloc (Below.refl w.heap.size w) (.cells #[.slice m.ta m.ths.length m.tc, .slice m.fa m.funcs.length m.fc] 25)
  have X0 := Whl.new w 25 #[.slice m.ta m.ths.length m.tc, .slice m.fa m.funcs.length m.fc]
  have HM := Lib.hid (hm.step B0)
  have HT := Lib.hid ht
  clear hm ht
  go_enter Tryd.func3, Tryd.ntmps3
  go_upto_block 0 with (first
    | (go_at_call 7
       refine (copyR m _ wm nm HM.out).mono ?_
       rintro e w1 ⟨⟨c, rfl, hs, ho⟩, b1⟩
       have B1 := below_step B0 b1
       have X1 := (X0.below' b1).alloc (.cells #[.slice c.ta c.ths.length c.tc, .slice c.fa c.funcs.length c.fc] 25)
       have Y1 := Whl.new w1 25 #[.slice c.ta c.ths.length c.tc, .slice c.fa c.funcs.length c.fc]
       have M1 := (HM.out.step b1).step (below_alloc (Below.refl _ _) (.cells #[.slice c.ta c.ths.length c.tc, .slice c.fa c.funcs.length c.fc] 25))
       have O1 := (ho.low (by simp : w.heap.size ≤ _)).alloc (.cells #[.slice c.ta c.ths.length c.tc, .slice c.fa c.funcs.length c.fc] 25)
       have D1 := below_alloc B1 (.cells #[.slice c.ta c.ths.length c.tc, .slice c.fa c.funcs.length c.fc] 25)
       have wc := wf_same hs wm
       have HS := Lib.hid hs
       clear hs)
    | (fail_if_success (have _t := b2)
       go_at_call 8
       refine (encP c _ wc O1.ok (HT.out.below D1 HT.out.size)).mono ?_
       rintro e w2 ⟨⟨v, rfl, o2⟩, b2⟩
       rw [mayD_same HS.out]
       rw [encL_same HS.out] at o2
       have B2 := below_step D1 b2
       have D2 := below_alloc B2 (.cells #[.int .i64 (mayD m).e, .int .i64 (mayD m).f, .int .i64 (mayD m).a] 30)
       have X2 := (X1.below' b2).alloc (.cells #[.int .i64 (mayD m).e, .int .i64 (mayD m).f, .int .i64 (mayD m).a] 30)
       have Y2 := (Y1.below' b2).alloc (.cells #[.int .i64 (mayD m).e, .int .i64 (mayD m).f, .int .i64 (mayD m).a] 30)
       have F2 := Whl.new w2 30 #[.int .i64 (mayD m).e, .int .i64 (mayD m).f, .int .i64 (mayD m).a]
       have M2 := (M1.step b2).step (below_alloc (Below.refl _ _) (.cells #[.int .i64 (mayD m).e, .int .i64 (mayD m).f, .int .i64 (mayD m).a] 30))
       have O2 := (O1.below b2).alloc (.cells #[.int .i64 (mayD m).e, .int .i64 (mayD m).f, .int .i64 (mayD m).a] 30)
       have P2 := (Joins.ownsRow_le o2 D1.size).alloc (.cells #[.int .i64 (mayD m).e, .int .i64 (mayD m).f, .int .i64 (mayD m).a] 30)
       obtain ⟨x0, x1, _, _⟩ := Whl.two X2
       have lx := X2.lt)
    | (fail_if_success (have _t := b3)
       go_at_call 9
       refine (encR m _ wm M2).mono ?_
       rintro e w3 ⟨⟨vR, rfl, o3⟩, b3⟩
       have hne : vR.ownBlock = none ∨ vR.ownBlock ≠ v.ownBlock := by
         cases hv : vR.ownBlock with
         | none => exact .inl rfl
         | some k =>
           refine .inr fun e => ?_
           have q1 := (o3.lt k hv).1
           have q2 := (P2.lt k e.symm).2
           omega
       have HNE := Lib.hid hne
       clear hne
       have o3' := Joins.ownsRow_le o3 D2.size
       have B3 := below_step D2 b3
       have D3 := below_alloc B3 (.cells #[.int .i64 (mayD m).e, .int .i64 (mayD m).f, .int .i64 (mayD m).a] 30)
       have X3 := (X2.below' b3).alloc (.cells #[.int .i64 (mayD m).e, .int .i64 (mayD m).f, .int .i64 (mayD m).a] 30)
       have F3 := (F2.below' b3).alloc (.cells #[.int .i64 (mayD m).e, .int .i64 (mayD m).f, .int .i64 (mayD m).a] 30)
       have M3 := (M2.step b3).step (below_alloc (Below.refl _ _) (.cells #[.int .i64 (mayD m).e, .int .i64 (mayD m).f, .int .i64 (mayD m).a] 30))
       have E3 : EL w c v vR (encL m).length (encL m) w1.heap.size w3.heap.size (mayD m) (w3.alloc (.cells #[.int .i64 (mayD m).e, .int .i64 (mayD m).f, .int .i64 (mayD m).a] 30)) :=
         ⟨D3, ⟨_, rfl, (own_below P2 b3).alloc _⟩, (O2.below b3).alloc _, o3'.alloc _, HNE.out, (Y2.below' b3).alloc _, Whl.new _ _ _⟩
       obtain ⟨x0, x1, _, _⟩ := Whl.two X3
       obtain ⟨y0, y1, _, _⟩ := Whl.two E3.bo
       have lx := X3.lt
       have ly := E3.bo.lt)
    | (go_at_call 10
       refine (sameC HS.out _ wm E3.oc.ok M3).mono ?_
       rintro e w4 ⟨rfl, b4⟩
       have E4 := E3.go b4
       have F4 := F3.below' b4)
    | (go_at_call 11
       refine (fixedL _ (HT.out.below E4.below HT.out.size)).mono ?_
       rintro e w5 ⟨rfl, b5⟩
       have E5 := E4.go b5
       have F5 := F4.below' b5
       have K5 : ByteR w5 w5.heap.size v (encL m) := (ByteR.of_own ((own_below (own_below (own_below P2 b3 |>.alloc (.cells #[.int .i64 (mayD m).e, .int .i64 (mayD m).f, .int .i64 (mayD m).a] 30)) b4) b5)))
       obtain ⟨f0, f1, f2⟩ := fault_cells F5
       obtain ⟨g0, g1, g2⟩ := fault_cells E5.bg
       have lf := F5.lt
       have lg := E5.bg.lt)
    | (go_at_call 12
       refine (equalT K5 (ByteR.of_own E5.or)).mono ?_
       rintro e w6 ⟨rfl, rfl⟩))
  clear X0 X1 X2 X3 Y1 Y2 F2 F3 F4 F5 M1 M2 M3 O1 O2 P2 o2 o3 o3' b1 b2 b3 b4 b5 B1 B2 B3 D1 D2 D3 x0 x1 y0 y1 lx ly f0 f1 f2 g0 g1 g2 lf lg E3 E4 ho K5 B0
  have HE := Lib.hid E5
  obtain ⟨l0, hl0, ob0⟩ := E5.ob
  obtain ⟨A, cc, rfl, hA⟩ := own_slice ob0
  rw [hl0] at *
  clear E5 ob0 hl0 l0
  go_wp2_with fail
  go_loopw [9] (fun i wr => ∃ k : Nat, k ≤ (encL m).length ∧ i = .int .i64 k ∧ EL w c (.slice A (encL m).length cc) vR (encL m).length (encL m) w1.heap.size w3.heap.size (mayD m) wr) (fun i _ => (encL m).length - (intOf i).toNat)
  case atStart => exact ⟨0, Nat.zero_le _, rfl, HE.out⟩
  case round =>
    obtain ⟨k, hk, rfl, hE⟩ := hrel
    by_cases hlt : k < (encL m).length
    · obtain ⟨l1, hl1, ob1⟩ := hE.ob
      obtain ⟨g, c2, cs, e, hw, hb, hcells⟩ := ownB_whl ob1 (by intro e; rw [e] at hl1; simp at hl1; omega)
      injection e with e1 e2 e3
      subst e1 e3
      obtain ⟨x, hx⟩ := hcells k (by omega)
      have hz := hw.frozen k
      have lw := hw.lt
      have hE2 := hE.put hlt 9
      have HE2 := Lib.hid hE2
      have hel := encL_len m
      have hk4 : k < 400000 := by omega
      clear hE hE2 hcells ob1 hl1 hw hb HE e2 hel
      go_wp2
      refine ⟨⟨k + 1, by omega, by go_num, HE2.out⟩, by simp only [intOf]; omega⟩
    · obtain rfl : k = (encL m).length := by omega
      clear hlt hk
      obtain ⟨l1, hl1, ob1⟩ := hE.ob
      have hE1 := Lib.hid hE
      have HO := Lib.hid ob1
      have hel := encL_len m
      have hl2 : l1.length ≤ 400000 := by omega
      clear hE HE ob1 hl1 hel
      go_wp2_with (first
        | (fail_if_success (have _t := hown)
           at_builtin
           refine wpList_append_lies _ rfl _ _ _ rfl w.heap.size 5 iB (.int .u8 0) 1 1 Tryd.underlying27 hiB zB0 zB1 zB2 rfl (by decide) (.slice A (encL m).length cc) l1.length (U8s l1) rfl (HO.out.alloc _) ⟨wr.heap.size, 0, none⟩ 1 1 [u8V 7] rfl rfl (cell_one_new wr (u8V 7) 5) (by simp [Value.oneCell']) (by decide) (by unfold maxLen; omega) (by omega) (Nat.le_trans hE1.out.below.size (by simp)) _ rfl ?_
           intro g2 cap w7 hown hgrow hat hlt7
           obtain ⟨A7, O7, R7, Y7, G7⟩ := hE1.out.app (b := 7) hgrow
           obtain ⟨y0, y1, _, _⟩ := Whl.two Y7
           have ly := Y7.lt)
        | (go_at_call 8
           refine (encP c _ wc O7.ok (HT.out.below A7 HT.out.size)).mono ?_
           rintro e w8 ⟨⟨v8, rfl, o8⟩, b8⟩
           rw [mayD_same HS.out]
           rw [encL_same HS.out] at o8
           have A8 := below_step A7 b8
           have G8 := (G7.below' b8).alloc (.cells #[.int .i64 (mayD m).e, .int .i64 (mayD m).f, .int .i64 (mayD m).a] 30)
           have F8 := Whl.new w8 30 #[.int .i64 (mayD m).e, .int .i64 (mayD m).f, .int .i64 (mayD m).a]
           have K8 := ByteR.of_own (o8.alloc (.cells #[.int .i64 (mayD m).e, .int .i64 (mayD m).f, .int .i64 (mayD m).a] 30))
           have K9 := ByteR.of_own ((own_below R7 b8).alloc (.cells #[.int .i64 (mayD m).e, .int .i64 (mayD m).f, .int .i64 (mayD m).a] 30))
           obtain ⟨f0, f1, f2⟩ := fault_cells F8
           obtain ⟨g0, g1, g2⟩ := fault_cells G8
           have lf := F8.lt
           have lg := G8.lt)
        | (go_at_call 12
           refine (equalT K8 K9).mono ?_
           rintro e w9 ⟨rfl, rfl⟩))
      go_ret
      exact ⟨by simp, below_alloc A8 _⟩
end Go.Proofs.YtjacfeohpofhpaaDoor
