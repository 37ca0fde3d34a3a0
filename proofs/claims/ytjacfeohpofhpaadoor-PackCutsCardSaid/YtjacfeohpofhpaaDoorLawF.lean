/-
  Layer 11 (pack): the walk of the law PackDecodes.
-/
import Derived.Test.YtjacfeohpofhpaaDoorLawE
import Derived.Test.YtjacfeohpofhpaaDoorOpenB
namespace Go.Proofs.YtjacfeohpofhpaaDoor
open Go.RowKit
set_option linter.unusedSimpArgs false
set_option linter.unusedVariables false
abbrev mCells (c : ModD) : Array Value := #[.slice c.ta c.ths.length c.tc, .slice c.fa c.funcs.length c.fc]
/-- What lies in memory while own is written over. -/
structure FL (w : World) (c1 c2 : ModD) (v : Value) (n g1 g2 : Nat) (W : World) : Prop where
  below : Below w.heap.size w W
  ob : ∃ l, l.length = n ∧ OwnB W w.heap.size v l
  o1 : OwnM W w.heap.size c1
  o2 : OwnM W w.heap.size c2
  b1 : Whl W g1 25 (mCells c1)
  b2 : Whl W g2 25 (mCells c2)
variable {w W W' : World} {c1 c2 : ModD} {v : Value} {n g1 g2 : Nat}
theorem FL.go (h : FL w c1 c2 v n g1 g2 W) (hb : Below W.heap.size W W') : FL w c1 c2 v n g1 g2 W' := by
  obtain ⟨l, hl, ho⟩ := h.ob
  exact ⟨below_step h.below hb, ⟨l, hl, own_below ho hb⟩, h.o1.below hb, h.o2.below hb, h.b1.below' hb, h.b2.below' hb⟩
theorem whl_apart {W : World} {g k : Nat} {t t' : TypeId} {cs cs' : Array Value} (h : Whl W g t cs) (h' : Whl W k t' cs') (ht : t ≠ t') : g ≠ k := fun e => by
  subst e
  unfold Whl at h h'
  rw [h] at h'
  injection h' with h'
  injection h' with _ h'
  exact ht h'
theorem FL.put {g cc i : Nat} (h : FL w c1 c2 (.slice (some ⟨g, 0, none⟩) n cc) n g1 g2 W) (hi : i < n) (b : UInt8) : FL w c1 c2 (.slice (some ⟨g, 0, none⟩) n cc) n g1 g2 (W.setCell ⟨g, i, none⟩ (u8V b)) := by
  obtain ⟨l, hl, ho⟩ := h.ob
  subst hl
  obtain ⟨g', c', cs, e, hw, hb, _⟩ := ownB_whl ho (by intro e; subst e; simp at hi)
  cases e
  exact ⟨h.below.setCell hb _, ⟨l.set i b, by simp, by have := ownB_put ho i b; simpa using this⟩, h.o1.far8 hw _ _, h.o2.far8 hw _ _, h.b1.far (whl_apart h.b1 hw (by decide)) _, h.b2.far (whl_apart h.b2 hw (by decide)) _⟩
set_option maxHeartbeats 2000000 in
set_option maxRecDepth 100000 in
theorem decodesL (v : Value) (l : List UInt8) (w : World) (ht : TabOk w) (hr : ByteR w w.heap.size v l) (hl : l.length ≤ 140737488351232) : Calls Tryd.prog 4 #[v] w fun e w' => e = .returned (.bool true) ∧ Below w.heap.size w w' := by
  obtain ⟨iB, hiB, zB0, zB1, zB2⟩ := info_parts infoB
  have HR := Lib.hid hr
  obtain ⟨A, c, rfl, hc, hn, _⟩ := hr.row
  have hrows := hr.rows
  have B0 := below_alloc (Below.refl w.heap.size w) (.cells #[] 5)
  have h00 : (w.alloc (.cells #[] 5)).ownsRow w.heap.size 5 1 (.slice (some ⟨w.heap.size, 0, none⟩) 0 0) 0 [] := own_made0 _ _ _ (Nat.le_refl _) rfl
  have HT := Lib.hid ht
  have HRR := Lib.hid hrows.2.2
  clear hr ht hrows hc
  go_enter Tryd.func4, Tryd.ntmps4
  go_upto_block 0 with (first
    | (fail_if_success (have _t := B1)
       at_builtin
       refine wpList_append_any rfl _ _ _ rfl w.heap.size 5 iB (.int .u8 0) 1 1 Tryd.underlying27 hiB zB0 zB1 zB2 rfl (by decide) _ 0 [] rfl h00 A l.length c (fun k _ => u8V (l.getD k 0)) rfl ((HRR.out.below B0 (Nat.le_refl _)).more B0.size) hn (fun k j => rfl) (by unfold maxLen; omega) (by omega) B0.size ?_
       intro v1 w1 own1 hg1
       rw [Nat.zero_add, List.nil_append, rowsL_U8s] at own1
       have B1 : Below w.heap.size w w1 := B0.grown hg1 B0.size (fun k hk => by cases hk; exact Nat.le_refl _)
       have o1 : OwnB w1 w.heap.size v1 l := own1
       have R1 := HR.out.step B1)
    | (fail_if_success (have _t := b2)
       go_at_call 13
       refine (decP (ByteR.of_own o1)).mono ?_
       rintro e w2 ⟨c1, rfl, hs1, om1, b2⟩
       have D2 := below_alloc (below_step B1 b2) (.cells (mCells c1) 25)
       have R2 := (R1.step b2).step (below_alloc (Below.refl _ _) (.cells (mCells c1) 25))
       have P2 := (own_below o1 b2).alloc (.cells (mCells c1) 25)
       have M2 := (om1.low B1.size).alloc (.cells (mCells c1) 25)
       have Y2 := Whl.new w2 25 (mCells c1)
       have HS1 := Lib.hid hs1
       clear hs1)
    | (go_at_call 14
       refine (decQ R2).mono ?_
       rintro e w3 ⟨c2, rfl, hs2, om2, b3⟩
       have R3 := (R2.step b3).step (below_alloc (Below.refl _ _) (.cells (mCells c2) 25))
       have P3 := (own_below P2 b3).alloc (.cells (mCells c2) 25)
       have E3 : FL w c1 c2 v1 l.length w2.heap.size w3.heap.size (w3.alloc (.cells (mCells c2) 25)) :=
         ⟨below_alloc (below_step D2 b3) _, ⟨l, rfl, P3⟩, (M2.below b3).alloc _, (om2.low D2.size).alloc _, (Y2.below' b3).alloc _, Whl.new _ _ _⟩
       have HS2 := Lib.hid hs2
       clear hs2)
    | (go_at_call 11
       refine (fixedL _ (HT.out.below E3.below HT.out.size)).mono ?_
       rintro e w5 ⟨rfl, b5⟩
       have E5 := E3.go b5
       have R5 := R3.step b5
       have K5 := ByteR.of_own (own_below P3 b5))
    | (go_at_call 12
       refine (equalT K5 R5).mono ?_
       rintro e w6 ⟨rfl, rfl⟩))
  have HE := Lib.hid E5
  obtain ⟨A1, cc, rfl, hA⟩ := own_slice o1
  clear E3 E5 R1 R2 R3 R5 K5 P2 P3 M2 Y2 b2 b3 b5 B1 D2 o1 own1 hg1 h00 B0 om1 om2 hn hA
  go_wp2_with fail
  go_loopw [10] (fun i wr => ∃ k : Nat, k ≤ l.length ∧ i = .int .i64 k ∧ FL w c1 c2 (.slice A1 l.length cc) l.length w2.heap.size w3.heap.size wr) (fun i _ => l.length - (intOf i).toNat)
  case atStart => exact ⟨0, Nat.zero_le _, rfl, HE.out⟩
  case round =>
    obtain ⟨k, hk, rfl, hE⟩ := hrel
    by_cases hlt : k < l.length
    · obtain ⟨l1, hl1, ob1⟩ := hE.ob
      obtain ⟨g, c2', cs, e, hw, hb, hcells⟩ := ownB_whl ob1 (by intro e; rw [e] at hl1; simp at hl1; omega)
      injection e with e1 e2 e3
      subst e1 e3
      obtain ⟨x, hx⟩ := hcells k (by omega)
      have hz := hw.frozen k
      have lw := hw.lt
      have HE2 := Lib.hid (hE.put hlt 77)
      clear hE hcells ob1 hl1 hw hb HE e2
      go_wp2
      refine ⟨⟨k + 1, by omega, by go_num, HE2.out⟩, by simp only [intOf]; omega⟩
    · obtain rfl : k = l.length := by omega
      clear hlt hk HE
      obtain ⟨y0, y1, _, _⟩ := Whl.two hE.b1
      obtain ⟨z0, z1, _, _⟩ := Whl.two hE.b2
      have l1 := hE.b1.lt
      have l2 := hE.b2.lt
      have hE1 := Lib.hid hE
      clear hE
      go_wp2_with (
        go_at_call 10
        refine (sameMR c1 c2 _ (wf_same HS1.out decM_wf) (wf_same HS2.out decM_wf) hE1.out.o1.ok hE1.out.o2.ok).mono ?_
        rintro e w8 ⟨rfl, b8⟩
        rw [sameD_left HS1.out, sameD_right HS2.out, sameD_self])
      go_ret
      exact ⟨rfl, below_step hE1.out.below b8⟩
end Go.Proofs.YtjacfeohpofhpaaDoor
