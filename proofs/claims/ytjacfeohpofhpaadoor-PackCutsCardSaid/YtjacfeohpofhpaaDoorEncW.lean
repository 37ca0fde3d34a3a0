/-
  Layer 11 (pack): the walk of Encode: a module's bytes.
-/
import Derived.Test.YtjacfeohpofhpaaDoorEncP
import Derived.Test.YtjacfeohpofhpaaDoorMayP
import Derived.Test.YtjacfeohpofhpaaDoorStepC
import Derived.Lib.AppendStr
import Derived.Lib.SlBytesConst
import Derived.ArgAppend
import Derived.Deep.RegionHeldLaw
import Derived.Deep.RegionLaw
import Derived.Deep.CutBlock
import Derived.Deep.DeepCutAuto
namespace Go.Proofs.YtjacfeohpofhpaaDoor
open Go.RowKit
set_option linter.unusedSimpArgs false
set_option linter.unusedVariables false
/-- What lies in memory while Encode runs: the bytes so far, the module's box and the result's. -/
structure EM (w : World) (TA FA : Option Addr) (m : ModD) (v : Value) (l : List UInt8) (W : World) : Prop where
  below : Below w.heap.size w W
  own : OwnB W w.heap.size v l
  bm : Whl W w.heap.size 25 #[.slice TA m.ths.length m.tc, .slice FA m.funcs.length m.fc]
  br : Whl W (w.heap.size + 1) 30 #[.int .i64 0, .int .i64 0, .int .i64 0]
theorem old4 (W : World) (o : Obj) (j : Nat) (u : Value) (h : [u8V 83, u8V 70, u8V 84, u8V 1][j]? = some u) : ((W.alloc (.cells #[.int .u8 83, .int .u8 70, .int .u8 84, .int .u8 1] 5 (4, 5))).alloc o).cell? ((⟨W.heap.size, 0, none⟩ : Addr).add j) = some u := by
  have h0 : (W.alloc (.cells #[.int .u8 83, .int .u8 70, .int .u8 84, .int .u8 1] 5 (4, 5))).heap[W.heap.size]? = some (.cells #[.int .u8 83, .int .u8 70, .int .u8 84, .int .u8 1] 5 (4, 5)) := by
    show (W.heap.push _)[W.heap.size]? = _
    simp
  have h1 := (Below.heap_alloc (W.alloc (.cells #[.int .u8 83, .int .u8 70, .int .u8 84, .int .u8 1] 5 (4, 5))) o W.heap.size (by simp)).trans h0
  rw [Go.WideShapes.add_plain]
  simp only [World.cell?, h1]
  rcases j with _ | _ | _ | _ | j
  · exact h
  · exact h
  · exact h
  · exact h
  · simp at h
variable {w W W2 : World} {TA FA : Option Addr} {m : ModD} {v v2 : Value} {l l2 : List UInt8}
theorem EM.size (h : EM w TA FA m v l W) : w.heap.size ≤ W.heap.size := h.below.size
theorem EM.alloc (h : EM w TA FA m v l W) (o : Obj) : EM w TA FA m v l (W.alloc o) := ⟨below_alloc h.below _, h.own.alloc _, h.bm.alloc _, h.br.alloc _⟩
theorem EM.drew (h : EM w TA FA m v l W) : EM w TA FA m v l W.drew := ⟨h.below.drew, h.own.drew, h.bm.drew, h.br.drew⟩
theorem EM.grow (h : EM w TA FA m v l W) (k : Grow W w.heap.size v2 l2 W2) : EM w TA FA m v2 l2 W2 :=
  ⟨h.below.trans k.below, k.own, k.keep _ _ _ (by decide) h.bm, k.keep _ _ _ (by decide) h.br⟩
theorem EM.step {x : List UInt8} (h : EM w TA FA m v l W) (hg : W.grownBy W2 v.ownBlock) (hown : W2.ownsRow w.heap.size 5 1 v2 (l.length + x.length) (U8s l ++ U8s x)) : EM w TA FA m v2 (l ++ x) W2 :=
  h.grow ((Grow.refl h.own).step h.size hg hown)
/-- The module's box, for the walk. -/
theorem EM.cells (h : EM w TA FA m v l W) : W.cell? ⟨w.heap.size, 0, none⟩ = some (.slice TA m.ths.length m.tc) ∧ W.cell? ⟨w.heap.size, 1, none⟩ = some (.slice FA m.funcs.length m.fc) := ⟨h.bm.cell 0, h.bm.cell 1⟩
theorem EM.bytes (h : EM w TA FA m v l W) {g : Nat} {t : TypeId} {cs : Array Value} (ht : t ≠ 5) (hw : Whl W g t cs) (hg : W.grownBy W2 v.ownBlock) : Whl W2 g t cs := hw.grown hg (own_whl h.own hw ht)
theorem encStart {w w1 w2 : World} {TA FA : Option Addr} {m : ModD} {v2 : Value} {o1 o2 o3 : Obj} (B1 : Below w.heap.size w w1) (R1 : Whl w1 w.heap.size 25 #[.slice TA m.ths.length m.tc, .slice FA m.funcs.length m.fc])
    (R2 : Whl w1 (w.heap.size + 1) 30 #[.int .i64 0, .int .i64 0, .int .i64 0]) (hg : (((w1.alloc o1).alloc o2).alloc o3).grownBy w2 none)
    (hown : w2.ownsRow (((w1.alloc o1).alloc o2).alloc o3).heap.size 5 1 v2 (4 + 1) ([u8V 83, u8V 70, u8V 84, u8V 1] ++ [u8V (byteB m.ths.length)])) : EM w TA FA m v2 (encT m 0) w2 := by
  have hB := below_alloc (below_alloc (below_alloc B1 o1) o2) o3
  refine ⟨hB.grown hg hB.size (fun k hk => by cases hk), ?_, (((R1.alloc o1).alloc o2).alloc o3).grown hg (fun h => by cases h), (((R2.alloc o1).alloc o2).alloc o3).grown hg (fun h => by cases h)⟩
  refine ⟨hown.1, ?_⟩
  rcases hown.2 with q | ⟨g, cap, cur, e, hb, rest⟩
  · exact .inl q
  · exact .inr ⟨g, cap, cur, e, Nat.le_trans hB.size hb, rest⟩
theorem nthI_ths {m : ModD} {w W : World} (h : ModOk w w.heap.size m) (hb : Below w.heap.size w W) {TA : Option Addr} (e : m.ta = TA) {k : Nat} (hk : k < m.ths.length) : ∃ b off, TA = some ⟨b, off, none⟩ ∧ W.cell? ⟨b, off + k, none⟩ = some (.int .i64 (nthI m.ths k)) := by
  obtain ⟨b, off, e2, hlt, hc⟩ := h.ths (by omega)
  exact ⟨b, off, by rw [← e, e2], (hb.cell (p := ⟨b, off + k, none⟩) hlt).trans (hc k hk)⟩
/-- append of a string's bytes, as a step of a region that draws. -/
theorem step_append_str {P : Program} {w : World} {ops : Array Oper} {o : Oper} {a : Act} {K : Act → World → Prop} {Q : Exit → Act → World → Prop} {E : Prop} (hgd : o.guard = none) (sl x : Operand) (t u : TypeId)
    (ho : o.op = .call { callee := .builtin .append, args := #[sl, x], argTypes := #[t, u] })
    (base : Nat) (e : TypeId) (i : TypeInfo) (ht : P.underlying t = some (.slice e)) (hu : P.underlying u = some .string) (hi : P.info? e = some i) (hz : i.zero = some (.int .u8 0))
    (hsize : i.size = 1) (hby : i.bytes = 1)
    (v : Value) (n : Nat) (xs : List Value) (hs : a.eval sl = v) (hown : w.ownsRow base e 1 v n xs) (s : ByteArray) (hx : a.eval x = .string s)
    (h63 : n + s.size ≤ maxLen) (hbytes : n + s.size ≤ 140737488355328) (hbase : base ≤ w.heap.size)
    (h : ∀ v' w', w'.ownsRow base e 1 v' (n + s.size) (xs ++ Lib.strCells s) → w.grownBy w' v.ownBlock → K (a.put o.dst v') w') :
    if Region.wanted o (yielded ops a.tmps) = true then Oper.wp P o a w K Q else E := by
  have hw : Region.wanted o (yielded ops a.tmps) = true := by simp [Region.wanted, hgd]
  rw [if_pos hw]
  obtain ⟨v', w', hr, h2, h3, h4⟩ := Lib.run_append_own_string (P := P) w base t u o.type e i ht hu hi hz hsize hby v n xs hown s h63 hbytes hbase
  unfold Oper.wp execOp
  simp only [ho, resolve, invoke, builtin, Sem.run_bind, Sem.run_pure, Result.andThen_ok, List.map_toArray, List.map_cons, List.map_nil, hs, hx, hr]
  exact h v' w' h2 h3
theorem Whl.two {w : World} {g : Nat} {t : TypeId} {u v : Value} (h : Whl w g t #[u, v]) : w.cell? ⟨g, 0, none⟩ = some u ∧ w.cell? ⟨g, 1, none⟩ = some v ∧ w.frozen? ⟨g, 0, none⟩ = false ∧ w.frozen? ⟨g, 1, none⟩ = false := ⟨h.cell 0, h.cell 1, h.frozen 0, h.frozen 1⟩
theorem cell4 {w : World} {g : Nat} {t : TypeId} {a b c d e : Value} (h : Whl w g t #[a, b, c, d, e]) : w.cell? ⟨g, 4, none⟩ = some e := h.cell 4
theorem ins_cells {w : World} {g : Nat} {t : TypeId} {a b c d e : Value} (h : Whl w g t #[a, b, c, d, e]) : w.cell? ⟨g, 0, none⟩ = some a ∧ w.cell? ⟨g, 1, none⟩ = some b ∧ w.cell? ⟨g, 2, none⟩ = some c ∧ w.cell? ⟨g, 3, none⟩ = some d ∧ w.cell? ⟨g, 4, none⟩ = some e := ⟨h.cell 0, h.cell 1, h.cell 2, h.cell 3, h.cell 4⟩
theorem new4_cell {W : World} {k : Nat} {a b c d : UInt8} (hk : W.heap.size = k) : ∀ j u, [u8V a, u8V b, u8V c, u8V d][j]? = some u → (W.alloc (.cells #[u8V a, u8V b, u8V c, u8V d] 5)).cell? ((⟨k, 0, none⟩ : Addr).add j) = some u := by
  subst hk
  intro j u h
  rw [Go.WideShapes.add_plain, (Whl.new W 5 #[u8V a, u8V b, u8V c, u8V d]).cell]
  simpa using h
theorem cell3 {w : World} {g : Nat} {t : TypeId} {a b c d e : Value} (h : Whl w g t #[a, b, c, d, e]) : w.cell? ⟨g, 3, none⟩ = some d := h.cell 3
theorem new1_cell {W : World} {k : Nat} {z : Int} {b : UInt8} (h : ((b.toNat : Nat) : Int) = z) (hk : W.heap.size = k) : ∀ j u, [u8V b][j]? = some u → (W.alloc (.cells #[.int .u8 z] 5)).cell? ((⟨k, 0, none⟩ : Addr).add j) = some u := by
  subst hk h
  exact cell_one_new W (u8V b) 5
theorem str_U8s (s : ByteArray) : Lib.strCells s = U8s s.data.toList := rfl
abbrev fCells (f : FuncD) (PA CA : Option Addr) : Array Value := #[.string f.name, .slice PA f.params.length f.pc, .int .i64 f.regs, .int .i64 f.words, .slice CA f.code.length f.cc]
set_option maxHeartbeats 16000000 in
set_option maxRecDepth 100000 in
theorem encodeP (m : ModD) (w : World) (wm : m.Wf) (hm : ModOk w w.heap.size m) (ht : TabOk w) (hmay : mayD m = ⟨0, 0, 0⟩) : Calls Tryd.prog 8 #[m.val] w fun e w' =>
    (∃ v, e = .returned (.tuple #[v, .agg #[.int .i64 0, .int .i64 0, .int .i64 0]]) ∧ OwnB w' w.heap.size v (encM m)) ∧ Below w.heap.size w w' := by
  have hs := small_of hmay
  have hlen := encFs_len hs
  have h1 := hs.ths
  have h2 := hs.funcs
  have HP := Lib.hid (show ∀ W, TabOk W → ModOk W W.heap.size m → Calls Tryd.prog 16 #[m.val] W fun e w' => e = .returned (.agg #[.int .i64 0, .int .i64 0, .int .i64 0]) ∧ Below W.heap.size W w' from fun W ht hm => by
    have := mayP m W wm hm ht
    rwa [hmay] at this)
  have HM := Lib.hid hm
  have HT := Lib.hid ht
  have HS := Lib.hid hs
  have HL := Lib.hid hlen
  clear hm ht hs hlen hmay
  obtain ⟨TA, hTA⟩ : ∃ A, m.ta = A := ⟨_, rfl⟩
  obtain ⟨FA, hFA⟩ : ∃ A, m.fa = A := ⟨_, rfl⟩
  unfold ModD.val at HP ⊢
  rw [hTA, hFA] at HP ⊢
  have HTA := Lib.hid hTA
  have HFA := Lib.hid hFA
  clear hTA hFA
  obtain ⟨i0, hi, hz0, hz1, hz2⟩ := info_parts infoB
  have B0 : Below w.heap.size w ((w.alloc (.cells #[.slice TA m.ths.length m.tc, .slice FA m.funcs.length m.fc] 25)).alloc (.cells #[.int .i64 0, .int .i64 0, .int .i64 0] 30)) := below_alloc (below_alloc (Below.refl _ _) _) _
  have kc := fun (W : World) (o : Obj) (C : Array Value) (n c : Nat) => by
    have := Lib.run_convert_bytes_const (P := Tryd.prog) (W.alloc o) 27 5 C n c Tryd.underlying27 Tryd.underlying5
    rw [World.size_alloc] at this
    exact this
  have hbt : ((byteB (m.ths.length : Int)).toNat : Int) = (m.ths.length : Int) := by rw [byteB_nat]; omega
  have HBT := Lib.hid hbt
  clear hbt
  go_enter Tryd.func8, Tryd.ntmps8
  go_upto_block 0 with (first
    | (go_at_call 16; with_reducible refine (HP.out _ (HT.out.below B0 HT.out.size) ((HM.out.below B0 (Nat.le_refl _)).more B0.size)).mono ?_; rintro e w1 ⟨rfl, hb1⟩; have R1 := ((Whl.new w 25 #[.slice TA m.ths.length m.tc, .slice FA m.funcs.length m.fc]).alloc (.cells #[.int .i64 0, .int .i64 0, .int .i64 0] 30)).below' hb1; have R2 := (Whl.new1 w (.cells #[.slice TA m.ths.length m.tc, .slice FA m.funcs.length m.fc] 25) 30 #[.int .i64 0, .int .i64 0, .int .i64 0]).below' hb1; have B1 := below_step B0 hb1; have l1 := R1.lt; have l2 := R2.lt; have c0 := R1.cell 0; have c1 := R1.cell 1)
    | (at_builtin
       refine wpList_append_grows _ rfl _ _ _ rfl 5 i0 (.int .u8 0) 1 1 Tryd.underlying27 hi hz0 hz1 hz2 rfl (by decide) (some ⟨w1.heap.size + 1, 0, none⟩) 4 4 [u8V 83, u8V 70, u8V 84, u8V 1] rfl (fun h => by cases h) rfl ?c1 ⟨w1.heap.size + 1 + 1, 0, none⟩ 1 1 [u8V (byteB m.ths.length)] rfl rfl ?c2 (by simp [Value.oneCell']) (by decide) (by decide) (by decide) ?_
       case c1 =>
         intro b hb j u hj
         cases hb
         have := old4 (w1.alloc (.cells #[.int .i64 0, .int .i64 0, .int .i64 0] 30)) (.cells #[.int .u8 (m.ths.length : Int)] 5) j u hj
         simpa using this
       case c2 =>
         have := cell_one_new ((w1.alloc (.cells #[.int .i64 0, .int .i64 0, .int .i64 0] 30)).alloc (.cells #[.int .u8 83, .int .u8 70, .int .u8 84, .int .u8 1] 5 (4, 5))) (.int .u8 (m.ths.length : Int)) 5
         simp only [u8V, HBT.out]
         simpa using this
       intro v2 w2 hown hgrow
       have hE : EM w TA FA m v2 (encT m 0) w2 := encStart B1 R1 R2 hgrow hown
       obtain ⟨d0, d1⟩ := hE.cells
       have l3 := hE.bm.lt))
  clear d0 d1 l3 R1 R2 B1 l1 l2 c0 c1 HP HT HBT
  go_cut [5] (fun s W => EM w TA FA m s (encT m m.ths.length) W)
  case first =>
    go_wp2_with fail
    go_loopw [5, 31] (fun s i wr => ∃ k : Nat, k ≤ m.ths.length ∧ i = .int .i64 k ∧ EM w TA FA m s (encT m k) wr) (fun _ i _ => m.ths.length - (intOf i).toNat)
    case atStart => exact ⟨0, Nat.zero_le _, rfl, hE⟩
    case round =>
      clear hE
      obtain ⟨k, hk, rfl, hE⟩ := hrel
      by_cases hlt : k < m.ths.length
      · obtain ⟨tb, tf, rfl, hc⟩ := nthI_ths HM.out hE.below HTA.out hlt
        have hlen := encT_len m k
        have hsz := hE.size
        have HE := Lib.hid hE
        have hlt2 := (HE.out.below).size
        go_wp2_with (go_at_call 17; with_reducible refine (num8P _ (encT m k) (nthI m.ths k) w.heap.size _ hsz (by omega) HE.out.own).mono ?_; rintro e w3 ⟨v3, rfl, hG⟩; have hE3 := HE.out.grow hG)
        refine ⟨⟨k + 1, by omega, by go_num, hE3⟩, by simp [intOf]; omega⟩
      · obtain rfl : k = m.ths.length := by omega
        go_wp2
        go_meet
        exact hE
  case rest =>
    clear hE hown hgrow
    have hE := hcut
    obtain ⟨d0, d1⟩ := hE.cells
    have l3 := hE.bm.lt
    have hsz := hE.size
    have hlen := encT_len m m.ths.length
    have hbt : ((byteB (m.funcs.length : Int)).toNat : Int) = (m.funcs.length : Int) := by rw [byteB_nat]; omega
    have HBT := Lib.hid hbt
    clear hbt
    have HE := Lib.hid hE
    clear hcut hE
    go_upto_block 2 with (
      at_builtin
      refine wpList_append_lies _ rfl _ _ _ rfl w.heap.size 5 i0 (.int .u8 0) 1 1 Tryd.underlying27 hi hz0 hz1 hz2 rfl (by decide) _ _ _ rfl (HE.out.own.alloc _) ⟨wc.heap.size, 0, none⟩ 1 1 [u8V (byteB m.funcs.length)] rfl rfl ?c2 (by simp [Value.oneCell']) (by decide) (by unfold maxLen; omega) (by omega) (by simp; omega) _ rfl ?_
      case c2 =>
        simp only [u8V, HBT.out]
        exact cell_one_new wc (.int .u8 (m.funcs.length : Int)) 5
      intro g cap w3 hown hgrow hat hlt2
      have hE3 := (HE.out.alloc _).step (x := [byteB m.funcs.length]) hgrow hown
      obtain ⟨d2, d3⟩ := hE3.cells
      have l4 := hE3.bm.lt)
    clear d0 d1 d2 d3 l3 l4 hown hgrow hat
    simp only [hlen] at hE3
    rw [show encT m m.ths.length ++ [byteB (m.funcs.length : Int)] = encFs m 0 from rfl] at hE3
    clear HE hsz hlen HBT
    go_wp2_with fail
    go_loopw [5, 49] (fun s i wr => ∃ k : Nat, k ≤ m.funcs.length ∧ i = .int .i64 k ∧ EM w TA FA m s (encFs m k) wr) (fun _ i _ => m.funcs.length - (intOf i).toNat)
    case atStart => exact ⟨0, Nat.zero_le _, rfl, hE3⟩
    case round =>
      clear hE3
      obtain ⟨k, hk, rfl, hE⟩ := hrel
      by_cases hlt : k < m.funcs.length
      · have hfs := HM.out.funcs
        have hff := HM.out.each k hlt
        rw [HFA.out] at hfs
        obtain ⟨fb, fo, rfl, hfb, y0, y1, y2, y3, y4⟩ := funcs_cells (hfs.below hE.below (Nat.le_refl _)) hlt
        have hll := HL.out (k + 1) hlt
        have hl0 : (encFs m (k + 1)) = encFs m k ++ encF (nthF m.funcs k) := rfl
        have n1 := HS.out.name k hlt
        have n2 := HS.out.params k hlt
        have n3 := HS.out.code k hlt
        clear hfs
        generalize hf : nthF m.funcs k = f at *
        rw [hl0, List.length_append, encF_len] at hll
        obtain ⟨PA, hPA⟩ : ∃ A, f.pa = A := ⟨_, rfl⟩
        obtain ⟨CA, hCA⟩ : ∃ A, f.ca = A := ⟨_, rfl⟩
        rw [hPA] at y1
        rw [hCA] at y4
        have HPA := Lib.hid hPA
        have HCA := Lib.hid hCA
        have HFF := Lib.hid hff
        have HF := Lib.hid hf
        have HL0 := Lib.hid hl0
        clear hPA hCA hff hf hl0
        have hsz := hE.size
        have hE1 := hE.alloc (.cells (fCells f PA CA) 45)
        have hW1 := Whl.new wr 45 (fCells f PA CA)
        have hbn : ((byteB (f.name.size : Int)).toNat : Int) = (f.name.size : Int) := by rw [byteB_nat]; omega
        have hwn : IntKind.u8.wrap (f.name.size : Int) = (f.name.size : Int) := by rw [wrap_byte, hbn]
        have HBN := Lib.hid hbn
        clear hbn
        have l5 := hW1.lt
        have b0 : (wr.alloc (.cells (fCells f PA CA) 45)).cell? ⟨wr.heap.size, 0, none⟩ = some (.string f.name) := hW1.cell 0
        go_upto_region 14 with fail
        clear y0 y1 y2 y3 y4 hE B0 hb1
        go_cut [5] (fun s W => EM w TA (some ⟨fb, fo, none⟩) m s ((encFs m k ++ [byteB f.name.size]) ++ f.name.data.toList) W ∧ Whl W wr.heap.size 45 (fCells f PA CA))
        case first =>
          go_region_law (first
            | (refine step_append_lies _ rfl _ _ _ rfl w.heap.size 5 i0 (.int .u8 0) 1 1 Tryd.underlying27 hi hz0 hz1 hz2 rfl (by decide) _ _ _ rfl (hE1.own.drew.alloc _) ⟨wr.heap.size + 1, 0, none⟩ 1 1 [u8V (byteB f.name.size)] rfl rfl (new1_cell (W := (wr.alloc (.cells (fCells f PA CA) 45)).drew) HBN.out (by simp)) (by simp [Value.oneCell']) (by decide) (by unfold maxLen; omega) (by omega) (by simp; omega) _ rfl ?_
               intro g cap w4 hown hgrow hat hlt2
               have hE2 := (hE1.drew.alloc _).step (x := [byteB f.name.size]) hgrow hown
               have hW2 := (hE1.drew.alloc _).bytes (by decide) (hW1.drew.alloc _) hgrow
               have l6 := hW2.lt
               have b1 := hW2.cell 0)
            | (refine step_append_str rfl _ _ _ _ rfl w.heap.size 5 i0 Tryd.underlying27 Tryd.underlying9 hi hz0 hz1 hz2 _ _ _ rfl hE2.own f.name rfl (by unfold maxLen; simp; omega) (by simp; omega) hE2.size ?_
               intro v6 w6 hown6 hgrow6
               have hE3 := hE2.step (x := f.name.data.toList) hgrow6 hown6
               have hW3 := hE2.bytes (by decide) hW2 hgrow6))
          all_goals go_wp2_with fail
          all_goals go_meet
          all_goals exact ⟨hE3, hW3⟩
        case rest =>
          obtain ⟨hE2, hW2⟩ := hcut
          clear hE1 hW1 l5 b0 hwn HBN
          have l5 := hW2.lt
          have b0 : wc.cell? ⟨wr.heap.size, 1, none⟩ = some (.slice PA f.params.length f.pc) := hW2.cell 1
          have hbn : ((byteB (f.params.length : Int)).toNat : Int) = (f.params.length : Int) := by rw [byteB_nat]; omega
          have HBN := Lib.hid hbn
          clear hbn
          have hL : encFs m k ++ headF f = (encFs m k ++ [byteB f.name.size]) ++ f.name.data.toList ++ [byteB f.params.length] := by simp [headF]
          have hLl : ((encFs m k ++ [byteB f.name.size]) ++ f.name.data.toList).length ≤ (encFs m k).length + 1 + f.name.size := by
            have : f.name.data.toList.length = f.name.size := rfl
            simp only [List.length_append, List.length_cons, List.length_nil, this]; omega
          generalize (encFs m k ++ [byteB f.name.size]) ++ f.name.data.toList = L1 at *
          go_upto_block 4 with (
            at_builtin
            refine wpList_append_lies _ rfl _ _ _ rfl w.heap.size 5 i0 (.int .u8 0) 1 1 Tryd.underlying27 hi hz0 hz1 hz2 rfl (by decide) _ _ _ rfl (hE2.own.alloc _) ⟨wc.heap.size, 0, none⟩ 1 1 [u8V (byteB f.params.length)] rfl rfl (new1_cell (W := wc) HBN.out rfl) (by simp [Value.oneCell']) (by decide) (by unfold maxLen; omega) (by omega) (by have := hE2.size; simp; omega) _ rfl ?_
            intro g cap w5 hown hgrow hat hlt2
            have hE3 := (hE2.alloc _).step (x := [byteB f.params.length]) hgrow hown
            have hW3 := (hE2.alloc _).bytes (by decide) (hW2.alloc _) hgrow
            have l6 := hW3.lt
            have b1 : w5.cell? ⟨wr.heap.size, 1, none⟩ = some (.slice PA f.params.length f.pc) := hW3.cell 1)
          rw [← hL] at hE3
          have hL2 : (encFs m k ++ headF f).length ≤ (encFs m k).length + 2 + f.name.size := by rw [List.length_append, headF_len]; omega
          have hLF : encFs m k ++ encF f = ((encFs m k ++ headF f) ++ encPs f f.params.length) ++ midF f ++ encC f f.code.length := by simp [encF, List.append_assoc]
          rw [hLF] at HL0
          generalize encFs m k ++ headF f = L2 at *
          generalize wr.heap.size = gf at *
          clear hL hLl b0 b1 l5 l6 hE2 hW2 hown hgrow hat HBN hLF
          go_cut [5] (fun s W => EM w TA (some ⟨fb, fo, none⟩) m s (L2 ++ encPs f f.params.length) W ∧ Whl W gf 45 (fCells f PA CA))
          case first =>
            go_wp2_with fail
            go_loopw [5, 73] (fun s i W => ∃ j : Nat, j ≤ f.params.length ∧ i = .int .i64 j ∧ EM w TA (some ⟨fb, fo, none⟩) m s (L2 ++ encPs f j) W ∧ Whl W gf 45 (fCells f PA CA)) (fun _ i _ => f.params.length - (intOf i).toNat)
            case atStart => exact ⟨0, Nat.zero_le _, rfl, by simpa [encPs] using hE3, hW3⟩
            case round =>
              clear hE3 hW3
              obtain ⟨j, hj, rfl, hE, hW⟩ := hrel
              by_cases hlt2 : j < f.params.length
              · have hpp := HFF.out.params
                rw [HPA.out] at hpp
                obtain ⟨pb, po, rfl, hpb, hpc⟩ := hpp (by omega)
                have z0 : wr.cell? ⟨pb, po + j * 2, none⟩ = some (.int .i64 (nthS f.params j).lo) := (hE.below.cell (p := ⟨pb, po + j * 2, none⟩) hpb).trans (hpc j hlt2 0 (by omega))
                have z1 : wr.cell? ⟨pb, po + j * 2 + 1, none⟩ = some (.int .i64 (nthS f.params j).hi) := (hE.below.cell (p := ⟨pb, po + j * 2 + 1, none⟩) hpb).trans (hpc j hlt2 1 (by omega))
                have hnx : L2 ++ encPs f (j + 1) = (L2 ++ encPs f j) ++ encNum (nthS f.params j).lo 8 ++ encNum (nthS f.params j).hi 8 := by simp [encPs, encSp]
                have hlp : (L2 ++ encPs f j).length ≤ L2.length + 16 * j := by rw [List.length_append, encPs_len]; omega
                clear hpc hpp
                generalize (nthS f.params j).lo = pl at *
                generalize (nthS f.params j).hi = ph at *
                generalize L2 ++ encPs f j = L3 at *
                have hE1 := hE.alloc (.cells #[.int .i64 pl, .int .i64 ph] 50)
                have hW1 := hW.alloc (.cells #[.int .i64 pl, .int .i64 ph] 50)
                have hP1 := Whl.new wr 50 #[.int .i64 pl, .int .i64 ph]
                have hln : (L3 ++ encNum pl 8).length ≤ L3.length + 8 := by rw [List.length_append, encNum_len]; omega
                have hsz1 := hE1.size
                have c0 : (wr.alloc (.cells #[.int .i64 pl, .int .i64 ph] 50)).cell? ⟨wr.heap.size, 0, none⟩ = some (.int .i64 pl) := hP1.cell 0
                have c1 : (wr.alloc (.cells #[.int .i64 pl, .int .i64 ph] 50)).cell? ⟨wr.heap.size, 1, none⟩ = some (.int .i64 ph) := hP1.cell 1
                go_upto_region 19 with fail
                go_region_with (first
                  | (go_at_call 17; with_reducible refine (num8P _ L3 pl w.heap.size _ (by first | exact hE1.size | exact hE1.drew.size) (by omega) (by first | exact hE1.own | exact hE1.own.drew)).mono ?_; rintro e w6 ⟨v6, rfl, hG6⟩; have hE6 : EM w TA (some ⟨fb, fo, none⟩) m v6 (L3 ++ encNum pl 8) w6 := (by first | exact hE1.grow hG6 | exact hE1.drew.grow hG6); have hW6 := hG6.keep _ _ _ (by decide) hW1.drew; have hP6 := hG6.keep _ _ _ (by decide) hP1.drew; obtain ⟨x0, x1, -, -⟩ := hP6.two)
                  | (go_at_call 17; with_reducible refine (num8P v6 (L3 ++ encNum pl 8) ph w.heap.size _ (by first | exact hE6.size | exact hE6.drew.size) (by omega) (by first | exact hE6.own | exact hE6.own.drew)).mono ?_; rintro e w7 ⟨v7, rfl, hG7⟩; have hE7 : EM w TA (some ⟨fb, fo, none⟩) m v7 (L3 ++ encNum pl 8 ++ encNum ph 8) w7 := (by first | exact hE6.grow hG7 | exact hE6.drew.grow hG7); have hW7 := hG7.keep _ _ _ (by decide) hW6))
                all_goals go_wp2
                all_goals
                  rw [← hnx] at hE7
                  refine ⟨⟨j + 1, by omega, by go_num, hE7, hW7⟩, by simp [intOf]; omega⟩
              · obtain rfl : j = f.params.length := by omega
                go_wp2
                go_meet
                exact ⟨hE, hW⟩
          case rest =>
            clear hE3 hW3
            obtain ⟨hE2, hW2⟩ := hcut
            have hL3 : (L2 ++ encPs f f.params.length).length ≤ L2.length + 16 * f.params.length := by rw [List.length_append, encPs_len]; omega
            generalize L2 ++ encPs f f.params.length = L3 at *
            have hwr := wrap_byte f.regs
            have b2 : wc.cell? ⟨gf, 2, none⟩ = some (.int .i64 f.regs) := hW2.cell 2
            have b3 : wc.cell? ⟨gf, 3, none⟩ = some (.int .i64 f.words) := hW2.cell 3
            have l5 := hW2.lt
            have hsz2 := hE2.size
            go_upto_region 21 with fail
            go_cut [5] (fun s W => EM w TA (some ⟨fb, fo, none⟩) m s (L3 ++ [byteB f.regs] ++ encNum f.words 2) W ∧ Whl W gf 45 (fCells f PA CA))
            case first =>
              go_region_law (first
                | (refine step_append_lies _ rfl _ _ _ rfl w.heap.size 5 i0 (.int .u8 0) 1 1 Tryd.underlying27 hi hz0 hz1 hz2 rfl (by decide) _ _ _ rfl (hE2.own.drew.alloc _) ⟨wc.heap.size, 0, none⟩ 1 1 [u8V (byteB f.regs)] rfl rfl (new1_cell (W := wc.drew) rfl (by simp)) (by simp [Value.oneCell']) (by decide) (by unfold maxLen; omega) (by omega) (by simp; omega) _ rfl ?_
                   intro g cap w6 hown hgrow hat hlt2
                   have hE6 := (hE2.drew.alloc _).step (x := [byteB f.regs]) hgrow hown
                   have hW6 := (hE2.drew.alloc _).bytes (by decide) (hW2.drew.alloc _) hgrow
                   have l6 := hW6.lt
                   have x3 := cell3 hW6)
                | (refine step_call rfl _ _ _ _ _ Tryd.func17 (by kernel_rfl) rfl rfl (num2P _ (L3 ++ [byteB f.regs]) f.words w.heap.size _ hE6.size (by simp; omega) hE6.own) ?_
                   intro v7 w7 hG7
                   have hE7 := hE6.grow hG7
                   have hW7 := hG7.keep _ _ _ (by decide) hW6))
              all_goals go_wp2_with fail
              all_goals go_meet
              all_goals exact ⟨hE7, hW7⟩
            case rest =>
              clear hE2 hW2 b2 b3 l5 hsz2
              obtain ⟨hE2, hW2⟩ := hcut
              have hMid : L3 ++ midF f = (L3 ++ [byteB f.regs] ++ encNum f.words 2) ++ encNum f.code.length 2 := by simp [midF, List.append_assoc]
              have hL4 : (L3 ++ [byteB f.regs] ++ encNum f.words 2).length ≤ L3.length + 3 := by rw [List.length_append, List.length_append, encNum_len]; simp
              have hL5 : (L3 ++ midF f).length ≤ L3.length + 5 := by rw [List.length_append, midF_len]; omega
              generalize L3 ++ [byteB f.regs] ++ encNum f.words 2 = L4 at *
              have b4 : wc.cell? ⟨gf, 4, none⟩ = some (.slice CA f.code.length f.cc) := hW2.cell 4
              have l5 := hW2.lt
              have hsz2 := hE2.size
              clear hwr
              go_upto_block 6 with (go_at_call 17; with_reducible refine (num2P _ L4 (f.code.length : Int) w.heap.size _ hsz2 (by omega) hE2.own).mono ?_; rintro e w7 ⟨v7, rfl, hG7⟩; have hE7 := hE2.grow hG7; have hW7 := hG7.keep _ _ _ (by decide) hW2; have x4 := cell4 hW7; have l6 := hW7.lt)
              rw [← hMid] at hE7
              generalize L3 ++ midF f = L5 at *
              clear hMid hL4 hE2 hW2 hW7 b4 x4 l5 l6 hsz2 hG7
              go_wp2_with fail
              go_loopw [5, 102] (fun s i W => ∃ j : Nat, j ≤ f.code.length ∧ i = .int .i64 j ∧ EM w TA (some ⟨fb, fo, none⟩) m s (L5 ++ encC f j) W) (fun _ i _ => f.code.length - (intOf i).toNat)
              case atStart => exact ⟨0, Nat.zero_le _, rfl, by simpa [encC] using hE7⟩
              case round =>
                clear hE7
                obtain ⟨j, hj, rfl, hE⟩ := hrel
                by_cases hlt2 : j < f.code.length
                · have hpp := HFF.out.code
                  rw [HCA.out] at hpp
                  obtain ⟨pb, po, rfl, hpb, hpc⟩ := hpp (by omega)
                  have z0 : wr.cell? ⟨pb, po + j * 5, none⟩ = some (.int .i64 (nthX f.code j).op) := (hE.below.cell (p := ⟨pb, po + j * 5, none⟩) hpb).trans (hpc j hlt2 0 (by omega))
                  have z1 : wr.cell? ⟨pb, po + j * 5 + 1, none⟩ = some (.int .i64 (nthX f.code j).a) := (hE.below.cell (p := ⟨pb, po + j * 5 + 1, none⟩) hpb).trans (hpc j hlt2 1 (by omega))
                  have z2 : wr.cell? ⟨pb, po + j * 5 + 2, none⟩ = some (.int .i64 (nthX f.code j).b) := (hE.below.cell (p := ⟨pb, po + j * 5 + 2, none⟩) hpb).trans (hpc j hlt2 2 (by omega))
                  have z3 : wr.cell? ⟨pb, po + j * 5 + 3, none⟩ = some (.int .i64 (nthX f.code j).c) := (hE.below.cell (p := ⟨pb, po + j * 5 + 3, none⟩) hpb).trans (hpc j hlt2 3 (by omega))
                  have z4 : wr.cell? ⟨pb, po + j * 5 + 4, none⟩ = some (.int .i64 (nthX f.code j).n) := (hE.below.cell (p := ⟨pb, po + j * 5 + 4, none⟩) hpb).trans (hpc j hlt2 4 (by omega))
                  have hnx : L5 ++ encC f (j + 1) = (L5 ++ encC f j) ++ [byteB (nthX f.code j).op, byteB (nthX f.code j).a, byteB (nthX f.code j).b, byteB (nthX f.code j).c] ++ encNum (nthX f.code j).n 8 := by simp [encC, encX]
                  have hlp : (L5 ++ encC f j).length ≤ L5.length + 12 * j := by rw [List.length_append, encC_len]; omega
                  generalize nthX f.code j = x at *
                  clear hpc hpp
                  generalize L5 ++ encC f j = L6 at *
                  have hE1 := hE.alloc (.cells #[.int .i64 x.op, .int .i64 x.a, .int .i64 x.b, .int .i64 x.c, .int .i64 x.n] 52)
                  have hX1 := Whl.new wr 52 #[.int .i64 x.op, .int .i64 x.a, .int .i64 x.b, .int .i64 x.c, .int .i64 x.n]
                  have w0 := wrap_byte x.op
                  have w1 := wrap_byte x.a
                  have w2 := wrap_byte x.b
                  have w3 := wrap_byte x.c
                  have hsz1 := hE.size
                  have HS0 := ins_cells hX1
                  go_upto_region 26 with fail
                  clear z0 z1 z2 z3 z4
                  go_region_held_law (fun W' => W'.cell? ⟨wr.heap.size, 0, none⟩ = some (.int .i64 x.op) ∧ W'.cell? ⟨wr.heap.size, 1, none⟩ = some (.int .i64 x.a) ∧ W'.cell? ⟨wr.heap.size, 2, none⟩ = some (.int .i64 x.b) ∧ W'.cell? ⟨wr.heap.size, 3, none⟩ = some (.int .i64 x.c) ∧ W'.cell? ⟨wr.heap.size, 4, none⟩ = some (.int .i64 x.n))
                    (first | exact ins_cells hX7 | exact ins_cells hX6 | exact ins_cells hX1.drew | exact ins_cells (hX1.drew.alloc _) | exact ins_cells hX1)
                    (first
                      | (refine step_append_lies _ rfl _ _ _ rfl w.heap.size 5 i0 (.int .u8 0) 1 1 Tryd.underlying27 hi hz0 hz1 hz2 rfl (by decide) _ _ _ rfl (hE1.own.drew.alloc _) ⟨wr.heap.size + 1, 0, none⟩ 4 4 [u8V (byteB x.op), u8V (byteB x.a), u8V (byteB x.b), u8V (byteB x.c)] rfl rfl (new4_cell (W := (wr.alloc (.cells #[.int .i64 x.op, .int .i64 x.a, .int .i64 x.b, .int .i64 x.c, .int .i64 x.n] 52)).drew) (by simp)) (by simp [Value.oneCell']) (by decide) (by unfold maxLen; omega) (by omega) (by simp; omega) _ rfl ?_
                         intro g cap w6 hown hgrow hat hlt2
                         have hE6 := (hE1.drew.alloc _).step (x := [byteB x.op, byteB x.a, byteB x.b, byteB x.c]) hgrow hown
                         have hX6 := (hE1.drew.alloc _).bytes (by decide) (hX1.drew.alloc _) hgrow)
                      | (refine step_call rfl _ _ _ _ _ Tryd.func17 (by kernel_rfl) rfl rfl (num8P _ (L6 ++ [byteB x.op, byteB x.a, byteB x.b, byteB x.c]) x.n w.heap.size _ hE6.size (by simp; omega) hE6.own) ?_
                         intro v7 w7 hG7
                         have hE7 := hE6.grow hG7
                         have hX7 := hG7.keep _ _ _ (by decide) hX6))
                  all_goals go_wp2
                  all_goals refine ⟨⟨j + 1, by omega, by go_num, by rw [hnx]; exact hE7⟩, by simp [intOf]; omega⟩
                · obtain rfl : j = f.code.length := by omega
                  go_wp2
                  rw [← HL0.out] at hE
                  refine ⟨⟨k + 1, by omega, by go_num, hE⟩, by simp [intOf]; omega⟩
      · obtain rfl : k = m.funcs.length := by omega
        have hbr := hE.br
        have r0 : wr.cell? ⟨w.heap.size + 1, 0, none⟩ = some (.int .i64 0) := hbr.cell 0
        have r1 : wr.cell? ⟨w.heap.size + 1, 1, none⟩ = some (.int .i64 0) := hbr.cell 1
        have r2 : wr.cell? ⟨w.heap.size + 1, 2, none⟩ = some (.int .i64 0) := hbr.cell 2
        have s0 := hbr.frozen 0
        have s1 := hbr.frozen 1
        have s2 := hbr.frozen 2
        have lr := hbr.lt
        have hne : Value.ownBlock u5 ≠ some (w.heap.size + 1) := fun e => own_whl hE.own hbr (by decide) e.symm
        have HE := Lib.hid hE
        clear hE
        go_wp2
        refine ret_of ?_ rfl
        refine ⟨.tuple #[u5, .agg #[.int .i64 0, .int .i64 0, .int .i64 0]], ?_, ⟨u5, rfl, ?_⟩, ?_⟩
        rotate_left
        · exact own_far (own_far (own_far HE.out.own _ hne) _ hne) _ hne
        · exact ((HE.out.below.setCell (by simp) _).setCell (by simp) _).setCell (by simp) _
        · simp [results, Tryd.results8, go_sem, r0, r1, r2, s0, s1, s2, lr]
end Go.Proofs.YtjacfeohpofhpaaDoor
