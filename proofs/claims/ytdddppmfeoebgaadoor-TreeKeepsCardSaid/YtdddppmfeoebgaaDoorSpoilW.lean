/-
  Layer 2 (tree): the walks of roomE, roomS, Room: the room behind the lists of a copy reads as it did.
-/
import Derived.Test.YtdddppmfeoebgaaDoorOwnW
import Derived.Deep.CutBlock
import Derived.Deep.MidRow
namespace Go.Proofs.YtdddppmfeoebgaaDoor
open Go.RowKit
set_option linter.unusedSimpArgs false
set_option linter.unusedVariables false
theorem Whl.cOwn {w : World} {g : Nat} {t : TypeId} {x : StD} {c : Ch} (h : Whl w g t (stC x (hdOf x c))) : w.cell? ⟨g, 6, none⟩ = some (.slice (some ⟨c.a, 0, none⟩) x.a.args.length (x.a.args.length + 1)) ∧ w.cell? ⟨g, 10, none⟩ = some (.slice (some ⟨c.b, 0, none⟩) x.b.args.length (x.b.args.length + 1)) ∧ w.cell? ⟨g, 11, none⟩ = some (.slice (some ⟨c.body, 0, none⟩) x.body.length (x.body.length + 1)) ∧ w.cell? ⟨g, 12, none⟩ = some (.slice (some ⟨c.els, 0, none⟩) x.els.length (x.els.length + 1)) ∧ w.cell? ⟨g, 13, none⟩ = some (.slice (some ⟨c.cases, 0, none⟩) x.cases.length (x.cases.length + 1)) :=
  ⟨h.cell 6, h.cell 10, h.cell 11, h.cell 12, h.cell 13⟩
def ReAt (w0 : World) (B0 N : Nat) : Prop := ∀ (l : List ExD) (lo hi g : Nat) (A : Option Addr) (w : World), SizeOf.sizeOf l < N → ExsAt w0 B0 A l → ExsOwn w lo hi g l →
    Calls Tryd.prog 73 #[.slice (some ⟨g, 0, none⟩) l.length (l.length + 1)] w fun e w' => e = .returned (.bool true) ∧ w = w'
set_option maxRecDepth 100000 in
set_option maxHeartbeats 4000000 in
theorem roomEN (w0 : World) (B0 N : Nat) : ReAt w0 B0 N := by
  induction N with
  | zero => intro l lo hi g A w hN; omega
  | succ N ih =>
    intro l lo hi g A w hN h0 hs
    have IH := Lib.hid ih
    obtain ⟨ch, lo', hi', HO⟩ := hs.opened
    obtain @⟨_, _, hd, len, rows, wf, kids⟩ := h0
    have HK := Lib.hid kids
    have cl := HO.last
    have lg := HO.row.lt
    have HHO := Lib.hid HO
    clear ih hs HO rows wf kids
    go_enter Tryd.func73, Tryd.ntmps73
    go_wp2
    go_loop [3] (fun i => ∃ k : Nat, k ≤ l.length ∧ i = .int .i64 k) (fun i => l.length - (intOf i).toNat)
    case atStart => exact ⟨0, Nat.zero_le _, rfl⟩
    case round =>
      obtain ⟨k, hk, rfl⟩ := hrel
      by_cases hlt : k < l.length
      · have c3 := HHO.out.c3 hlt
        have hsz : SizeOf.sizeOf (nthE l k) < SizeOf.sizeOf l := getD_size _ hlt
        have hsa := args_size (nthE l k)
        have HC := Lib.hid (IH.out (nthE l k).args (lo' k) (hi' k) (ch k) _ w (by omega) (HK.out k hlt) (HHO.out.kids k hlt))
        clear cl
        go_wp2_with (go_at_call 73; go_must (refine HC.out.mono ?_; rintro e w1 ⟨rfl, rfl⟩))
        go_round
        case rel => exact ⟨k + 1, by omega, by go_num⟩
        case measure => simp [intOf]; omega
      · obtain rfl : k = l.length := by omega
        go_wp2
        go_ret
        exact ⟨rfl, rfl⟩
def RsAt (w0 : World) (B0 N : Nat) : Prop := ∀ (l : List StD) (lo hi g : Nat) (w : World), SizeOf.sizeOf l < N → StsWf w0 B0 l → StsOwn w lo hi g l → hi ≤ w.heap.size →
    Calls Tryd.prog 46 #[.slice (some ⟨g, 0, none⟩) l.length (l.length + 1)] w fun e w' => e = .returned (.bool true) ∧ Below w.heap.size w w'
set_option maxRecDepth 100000 in
set_option maxHeartbeats 8000000 in
theorem roomSN (w0 : World) (B0 N : Nat) : RsAt w0 B0 N := by
  induction N with
  | zero => intro l lo hi g w hN; omega
  | succ N ih =>
    intro l lo hi g w hN h0 hs hhi
    have IH := Lib.hid ih
    obtain ⟨ch, cb, iv, lc, hc, HO⟩ := hs.opened
    obtain @⟨_, len, wf, ea, eb, body, els, clen, cwf, cbody⟩ := h0
    have WA := Lib.hid ea
    have WZ := Lib.hid eb
    have WB := Lib.hid body
    have WE := Lib.hid els
    have WC := Lib.hid cbody
    have WL := Lib.hid clen
    have lg := HO.row.lt
    have HHO := Lib.hid HO
    clear ih hs HO ea eb body els cbody clen wf cwf
    go_enter Tryd.func46, Tryd.ntmps46
    (try simp only [List.append_eq, List.cons_append, List.nil_append])
    go_wp2
    go_loopw [3] (fun i W => ∃ k : Nat, k ≤ l.length ∧ i = .int .i64 k ∧ Below w.heap.size w W) (fun i _ => l.length - (intOf i).toNat)
    case atStart => exact ⟨0, Nat.zero_le _, rfl, Below.refl _ _⟩
    case round =>
      obtain ⟨k, hk, rfl, hgr⟩ := hrel
      have l1 := hgr.size
      have HOW : Hid (SOpen wr lo hi g l ch cb iv lc hc) := Lib.hid (HHO.out.keep (Agree.below hgr hhi))
      have lg1 := HOW.out.row.lt
      by_cases hlt : k < l.length
      · obtain ⟨c0, c1, c2, c3, c4, c5, c6, c7, c8, c9, c10, c11, c12, c13⟩ := HOW.out.st hlt
        have HP := Lib.hid (HOW.out.each k hlt)
        have O := HOW.out.ord k hlt
        obtain ⟨o0, o1, o2, o3, o4, o5, o6, o7, o8, o9, o10, o11⟩ := O
        have hsz : SizeOf.sizeOf (nthS l k) < SizeOf.sizeOf l := getD_size _ hlt
        obtain ⟨A1, wA⟩ := WA.out k hlt
        obtain ⟨A2, wZ⟩ := WZ.out k hlt
        have HA := Lib.hid wA
        have HZ := Lib.hid wZ
        have HWB := Lib.hid (WB.out k hlt)
        have HWE := Lib.hid (WE.out k hlt)
        have HWC := Lib.hid (WC.out k hlt)
        have wcl := WL.out k hlt
        clear wA wZ
        generalize nthS l k = x at c0 c1 c2 c3 c4 c5 c6 c7 c8 c9 c10 c11 c12 c13 HP hsz HA HZ HWB HWE HWC wcl
        have sb := body_size x
        have se := els_size x
        have sc := cases_size x
        have ha : Hid (∀ W, Below w.heap.size w W → Below wr.heap.size wr W → Calls Tryd.prog 73 #[.slice (some ⟨(ch k).a, 0, none⟩) x.a.args.length (x.a.args.length + 1)] W fun e W' => e = .returned (.bool true) ∧ W = W') := Lib.hid fun W _ hW => roomEN w0 B0 _ x.a.args _ _ _ _ W (Nat.lt_succ_self _) HA.out (HP.out.ea.keep (Agree.below hW (by omega)))
        have hb : Hid (∀ W, Below w.heap.size w W → Below wr.heap.size wr W → Calls Tryd.prog 73 #[.slice (some ⟨(ch k).b, 0, none⟩) x.b.args.length (x.b.args.length + 1)] W fun e W' => e = .returned (.bool true) ∧ W = W') := Lib.hid fun W _ hW => roomEN w0 B0 _ x.b.args _ _ _ _ W (Nat.lt_succ_self _) HZ.out (HP.out.eb.keep (Agree.below hW (by omega)))
        have hbo : Hid (∀ W, Below wr.heap.size wr W → Calls Tryd.prog 46 #[.slice (some ⟨(ch k).body, 0, none⟩) x.body.length (x.body.length + 1)] W fun e W' => e = .returned (.bool true) ∧ Below W.heap.size W W') := Lib.hid fun W hW => IH.out x.body _ _ _ W (by omega) HWB.out (HP.out.body.keep (Agree.below hW (by omega))) (by have := hW.size; omega)
        have hel : Hid (∀ W, Below wr.heap.size wr W → Calls Tryd.prog 46 #[.slice (some ⟨(ch k).els, 0, none⟩) x.els.length (x.els.length + 1)] W fun e W' => e = .returned (.bool true) ∧ Below W.heap.size W W') := Lib.hid fun W hW => IH.out x.els _ _ _ W (by omega) HWE.out (HP.out.els.keep (Agree.below hW (by omega))) (by have := hW.size; omega)
        have hca : Hid (∀ j, j < x.cases.length → ∀ W, Below wr.heap.size wr W → Calls Tryd.prog 46 #[.slice (some ⟨cb k j, 0, none⟩) (nthC x.cases j).body.length ((nthC x.cases j).body.length + 1)] W fun e W' => e = .returned (.bool true) ∧ Below W.heap.size W W') := Lib.hid fun j hj W hW => by
          have s1 : SizeOf.sizeOf (nthC x.cases j) < SizeOf.sizeOf x.cases := getD_size _ hj
          have s2 := cbody_size (nthC x.cases j)
          have ci := HP.out.cinto j hj
          exact IH.out _ _ _ _ W (by omega) (HWC.out j hj) ((HP.out.cbody j hj).keep (Agree.below hW (by omega))) (by have := hW.size; omega)
        go_upto_region 5 with fail
        clear c0 c1 c2 c3 c4 c5 c6 c7 c8 c9 c10 c11 c12 c13
        obtain ⟨wo, rfl⟩ : ∃ wo : World, wo = wr := ⟨_, rfl⟩
        have X0 : Whl (wo.alloc (.cells #[.int .i64 x.kind, .string x.name, .int .i64 x.n, .int .i64 x.a.kind, .int .i64 x.a.n, .string x.a.name, .slice (some ⟨(ch k).a, 0, none⟩) x.a.args.length (x.a.args.length + 1), .int .i64 x.b.kind, .int .i64 x.b.n, .string x.b.name, .slice (some ⟨(ch k).b, 0, none⟩) x.b.args.length (x.b.args.length + 1), .slice (some ⟨(ch k).body, 0, none⟩) x.body.length (x.body.length + 1), .slice (some ⟨(ch k).els, 0, none⟩) x.els.length (x.els.length + 1), .slice (some ⟨(ch k).cases, 0, none⟩) x.cases.length (x.cases.length + 1)] 53)) wo.heap.size 53 (stC x (hdOf x (ch k))) := Whl.new wo 53 _
        have K0 := below_alloc (Below.refl wo.heap.size wo) (.cells #[.int .i64 x.kind, .string x.name, .int .i64 x.n, .int .i64 x.a.kind, .int .i64 x.a.n, .string x.a.name, .slice (some ⟨(ch k).a, 0, none⟩) x.a.args.length (x.a.args.length + 1), .int .i64 x.b.kind, .int .i64 x.b.n, .string x.b.name, .slice (some ⟨(ch k).b, 0, none⟩) x.b.args.length (x.b.args.length + 1), .slice (some ⟨(ch k).body, 0, none⟩) x.body.length (x.body.length + 1), .slice (some ⟨(ch k).els, 0, none⟩) x.els.length (x.els.length + 1), .slice (some ⟨(ch k).cases, 0, none⟩) x.cases.length (x.cases.length + 1)] 53)
        generalize wo.alloc (.cells #[.int .i64 x.kind, .string x.name, .int .i64 x.n, .int .i64 x.a.kind, .int .i64 x.a.n, .string x.a.name, .slice (some ⟨(ch k).a, 0, none⟩) x.a.args.length (x.a.args.length + 1), .int .i64 x.b.kind, .int .i64 x.b.n, .string x.b.name, .slice (some ⟨(ch k).b, 0, none⟩) x.b.args.length (x.b.args.length + 1), .slice (some ⟨(ch k).body, 0, none⟩) x.body.length (x.body.length + 1), .slice (some ⟨(ch k).els, 0, none⟩) x.els.length (x.els.length + 1), .slice (some ⟨(ch k).cases, 0, none⟩) x.cases.length (x.cases.length + 1)] 53) = W1 at X0 K0 ⊢
        obtain ⟨x6, x10, x11, x12, x13⟩ := X0.cOwn
        have lx := X0.lt
        have hgr1 := below_step hgr K0
        go_upto_region 7 with (first | (go_at_call 73; ((with_reducible refine (ha.out _ hgr1 K0).mono ?_); rintro e u1 ⟨rfl, rfl⟩)) | (go_at_call 73; ((with_reducible refine (hb.out _ hgr1 K0).mono ?_); rintro e u1 ⟨rfl, rfl⟩)) | (go_at_call 46; ((with_reducible refine (hbo.out _ K0).mono ?_); rintro e u2 ⟨rfl, hb2⟩; have X2 := X0.below' hb2; have K2 := below_step K0 hb2; have lx2 := X2.lt; clear x6 x10 x11 x12 x13; obtain ⟨x6, x10, x11, x12, x13⟩ := X2.cOwn)) | (go_at_call 46; ((with_reducible refine (hel.out _ K2).mono ?_); rintro e u3 ⟨rfl, hb3⟩; have X3 := X2.below' hb3; have K3 := below_step K2 hb3; have lx3 := X3.lt; clear x6 x10 x11 x12 x13; obtain ⟨x6, x10, x11, x12, x13⟩ := X3.cOwn)))
        go_wp2
        go_loopw [5] (fun i W => ∃ j : Nat, j ≤ x.cases.length ∧ i = .int .i64 j ∧ Below wo.heap.size wo W ∧ Whl W wo.heap.size 53 (stC x (hdOf x (ch k)))) (fun i _ => x.cases.length - (intOf i).toNat)
        case atStart => exact ⟨0, Nat.zero_le _, rfl, K3, X3⟩
        case round =>
          clear x6 x10 x11 x12 x13 hb2 hb3 X0 X2 X3 K0 K2 K3 lx lx2 lx3
          obtain ⟨j, hj, rfl, K4, X4⟩ := hrel
          have x13 : wr.cell? ⟨wo.heap.size, 13, none⟩ = some (.slice (some ⟨(ch k).cases, 0, none⟩) x.cases.length (x.cases.length + 1)) := X4.cell 13
          have lx := X4.lt
          have HP4 : Hid (POpen wr x (ch k) (cb k) (iv k) (lc k) (hc k)) := Lib.hid (HP.out.keep (HHO.out.ord k hlt) (Agree.below K4 (by omega)))
          have lc1 := HP4.out.crow.lt
          by_cases hjt : j < x.cases.length
          · have cc := HP4.out.c1 hjt
            go_wp2_with (go_at_call 46; go_must (refine (hca.out j hjt _ K4).mono ?_; rintro e u5 ⟨rfl, hb5⟩))
            have hfin := (⟨j + 1, by omega, by go_num, below_step K4 hb5, X4.below' hb5⟩ : ∃ j' : Nat, j' ≤ x.cases.length ∧ Value.int .i64 ((j : Int) + 1) = .int .i64 j' ∧ Below wo.heap.size wo u5 ∧ Whl u5 wo.heap.size 53 (stC x (hdOf x (ch k))))
            have HF := Lib.hid hfin
            clear hfin
            go_roundw
            case rel => first | exact HF.out | ((repeat apply Exists.intro); exact ⟨HF.out, rfl⟩)
            case measure => first | (simp [intOf]; done) | (simp [intOf]; omega)
          · obtain rfl : j = x.cases.length := by omega
            have cl2 := HP4.out.clast
            have hK5 := below_step hgr K4
            go_wp2
            go_roundw
            case rel =>
              have hfin := (⟨k + 1, by omega, by go_num, hK5⟩ : ∃ k' : Nat, k' ≤ l.length ∧ Value.int .i64 ((k : Int) + 1) = .int .i64 k' ∧ Below w.heap.size w wr)
              first | exact hfin | ((repeat apply Exists.intro); exact ⟨hfin, rfl⟩)
            case measure => first | (simp [intOf]; done) | (simp [intOf]; omega)
      · obtain rfl : k = l.length := by omega
        have cl := HOW.out.last
        go_wp2
        go_ret
        exact ⟨rfl, hgr⟩
theorem paRow_end {l : List PaD} : (paL l ++ endPa).toArray[l.length * 3]? = some (.string ⟨#[63]⟩) := by
  rw [List.getElem?_toArray, paL, List.getElem?_append_right (by rw [rowsL_len]; omega), rowsL_len, Nat.sub_self]; rfl
theorem wiRow_end {l : List Int} : (wiL l ++ endWi).toArray[l.length]? = some (.int .i64 (-77)) := by
  rw [List.getElem?_toArray, wiL, List.getElem?_append_right (by rw [rowsL_len]; omega), rowsL_len, Nat.mul_one, Nat.sub_self]; rfl
theorem fnRow_end {l : List FnD} {gp gb : Nat → Nat} : (fnRow l gp gb l.length ++ endFn).toArray[l.length * 3]? = some (.string ⟨#[63]⟩) := by
  rw [List.getElem?_toArray, List.getElem?_append_right (by rw [fnRow_len]; omega), fnRow_len, Nat.sub_self]; rfl
theorem fnRow_at {l : List FnD} {gp gb : Nat → Nat} {k j : Nat} (hk : k < l.length) (hj : j < 3) : (fnRow l gp gb l.length ++ endFn).toArray[k * 3 + j]? = some (fnV (nthF l k) ⟨⟨some ⟨gp k, 0, none⟩, (nthF l k).params.length + 1⟩, ⟨some ⟨gb k, 0, none⟩, (nthF l k).body.length + 1⟩⟩ j) := by
  rw [List.getElem?_toArray, List.getElem?_append_left (by rw [fnRow_len]; omega)]
  exact fnRow_get hk hj
set_option maxRecDepth 100000 in
set_option maxHeartbeats 8000000 in
theorem roomR (p : PrD) (w0 : World) (B0 : Nat) (wa fa : Option Addr) (lo gw gf : Nat) (gp gb lb hb : Nat → Nat) (w : World) (h0 : PrOk w0 B0 p wa fa) (hp : PrOwn w lo p gw gf gp gb lb hb) :
    Calls Tryd.prog 22 #[.agg #[.slice (some ⟨gw, 0, none⟩) p.widen.length (p.widen.length + 1), .slice (some ⟨gf, 0, none⟩) p.funcs.length (p.funcs.length + 1)]] w fun e w' => e = .returned (.bool true) ∧ Below w.heap.size w w' := by
  obtain ⟨wlen, _, _, ⟨hd, flen, _, each⟩⟩ := h0
  have HE := Lib.hid each
  have HP := Lib.hid hp
  clear each hp
  have P1 := Whl.new w 26 #[.slice (some ⟨gw, 0, none⟩) p.widen.length (p.widen.length + 1), .slice (some ⟨gf, 0, none⟩) p.funcs.length (p.funcs.length + 1)]
  have B1 := below_alloc (Below.refl w.heap.size w) (.cells #[.slice (some ⟨gw, 0, none⟩) p.widen.length (p.widen.length + 1), .slice (some ⟨gf, 0, none⟩) p.funcs.length (p.funcs.length + 1)] 26)
  go_enter Tryd.func22, Tryd.ntmps22
  (try simp only [List.append_eq, List.cons_append, List.nil_append])
  go_wp2
  go_loopw [3] (fun i W => ∃ k : Nat, k ≤ p.funcs.length ∧ i = .int .i64 k ∧ Below w.heap.size w W ∧ Whl W w.heap.size 26 #[.slice (some ⟨gw, 0, none⟩) p.widen.length (p.widen.length + 1), .slice (some ⟨gf, 0, none⟩) p.funcs.length (p.funcs.length + 1)]) (fun i _ => p.funcs.length - (intOf i).toNat)
  case atStart => exact ⟨0, Nat.zero_le _, rfl, B1, P1⟩
  case round =>
    clear P1 B1
    obtain ⟨k, hk, rfl, hgr, PP⟩ := hrel
    have l1 := hgr.size
    have l2 := PP.lt
    obtain ⟨e0, e1⟩ := PP.c2
    have HO := Lib.hid (HP.out.below hgr)
    have lf := HO.out.frow.lt
    have lw := HO.out.wrow.lt
    by_cases hlt : k < p.funcs.length
    · have c : ∀ j, j < 3 → wr.cell? ⟨gf, k * 3 + j, none⟩ = some (fnV (nthF p.funcs k) ⟨⟨some ⟨gp k, 0, none⟩, (nthF p.funcs k).params.length + 1⟩, ⟨some ⟨gb k, 0, none⟩, (nthF p.funcs k).body.length + 1⟩⟩ j) := fun j hj => (HO.out.frow.cell _).trans (fnRow_at hlt hj)
      obtain ⟨c0, c1, c2⟩ := (show wr.cell? ⟨gf, k * 3, none⟩ = some (.string (nthF p.funcs k).name) ∧ wr.cell? ⟨gf, k * 3 + 1, none⟩ = some (.slice (some ⟨gp k, 0, none⟩) (nthF p.funcs k).params.length ((nthF p.funcs k).params.length + 1)) ∧ wr.cell? ⟨gf, k * 3 + 2, none⟩ = some (.slice (some ⟨gb k, 0, none⟩) (nthF p.funcs k).body.length ((nthF p.funcs k).body.length + 1)) from ⟨c 0 (by omega), c 1 (by omega), c 2 (by omega)⟩)
      have one := HO.out.one k hlt
      have into := HP.out.into k hlt
      have e0' := HE.out k hlt
      have plen := e0'.plen
      have cp : wr.cell? ⟨gp k, (nthF p.funcs k).params.length * 3, none⟩ = some (.string ⟨#[63]⟩) := (one.prow.cell _).trans paRow_end
      have lp := one.prow.lt
      have hwf := Lib.hid e0'.body.wfs
      have hbo := Lib.hid one.body
      clear e0' one c
      generalize nthF p.funcs k = f at c0 c1 c2 plen cp hwf hbo
      have HB : Hid (∀ W, Below wr.heap.size wr W → Calls Tryd.prog 46 #[.slice (some ⟨gb k, 0, none⟩) f.body.length (f.body.length + 1)] W fun e W' => e = .returned (.bool true) ∧ Below W.heap.size W W') := Lib.hid fun W hW => roomSN w0 B0 _ f.body _ _ _ W (Nat.lt_succ_self _) hwf.out (hbo.out.keep (Agree.below hW (by omega))) (by have := hW.size; omega)
      have l3 : w.heap.size < wr.heap.size := l2
      clear l2
      have HPP := Lib.hid PP
      clear PP
      go_wp2_with (go_at_call 46; go_must (refine (HB.out _ (below_alloc (Below.refl wr.heap.size wr) _)).mono ?_; rintro e u1 ⟨rfl, hb1⟩))
      have K1 := below_step (below_alloc hgr (.cells #[.string f.name, .slice (some ⟨gp k, 0, none⟩) f.params.length (f.params.length + 1), .slice (some ⟨gb k, 0, none⟩) f.body.length (f.body.length + 1)] 41)) hb1
      have P2 := (HPP.out.alloc (.cells #[.string f.name, .slice (some ⟨gp k, 0, none⟩) f.params.length (f.params.length + 1), .slice (some ⟨gb k, 0, none⟩) f.body.length (f.body.length + 1)] 41)).below' hb1
      go_roundw
      case rel => exact ⟨k + 1, by omega, by go_num, K1, P2⟩
      case measure => first | (simp [intOf]; done) | (simp [intOf]; omega)
    · obtain rfl : k = p.funcs.length := by omega
      have cf : wr.cell? ⟨gf, p.funcs.length * 3, none⟩ = some (.string ⟨#[63]⟩) := (HO.out.frow.cell _).trans fnRow_end
      have cw : wr.cell? ⟨gw, p.widen.length, none⟩ = some (.int .i64 (-77)) := (HO.out.wrow.cell _).trans wiRow_end
      clear PP
      go_wp2
      go_ret
      exact ⟨rfl, hgr⟩
end Go.Proofs.YtdddppmfeoebgaaDoor

/-
  Layer 2 (tree): the walks of spoilE and spoilS: what lies in blocks of its own is written over, and nothing else.
-/
namespace Go.Proofs.YtdddppmfeoebgaaDoor
open Go.RowKit
set_option linter.unusedSimpArgs false
set_option linter.unusedVariables false
theorem SpS.puts {w W : World} {lo hi g : Nat} {l : List StD} {ch : Nat → Ch} {cb : Nat → Nat → Nat} {iv : Nat → Iv} {lc hc : Nat → Nat → Nat} {k i : Nat} (h : SpS w W lo hi g l ch cb iv lc hc k i) (HO : SOpen w lo hi g l ch cb iv lc hc) : ∀ {vs : List Value} {m : Nat}, m + vs.length ≤ i → SpS w (W.setCells g m vs) lo hi g l ch cb iv lc hc k i := by
  intro vs
  induction vs generalizing W with
  | nil => intro m _; exact h
  | cons v vs ih =>
    intro m hm
    rw [List.length_cons] at hm
    exact ih (h.put HO (by omega) v) (by omega)
def SeAt (w0 : World) (B0 N : Nat) : Prop := ∀ (l : List ExD) (lo hi g : Nat) (A : Option Addr) (w : World), SizeOf.sizeOf l < N → ExsAt w0 B0 A l → ExsOwn w lo hi g l → hi ≤ w.heap.size →
    Calls Tryd.prog 74 #[.slice (some ⟨g, 0, none⟩) l.length (l.length + 1)] w fun e w' => e = .returned (.tuple #[]) ∧ Mod (fun b => lo ≤ b ∧ b < hi) w w'
set_option maxRecDepth 100000 in
set_option maxHeartbeats 4000000 in
theorem spoilEN (w0 : World) (B0 N : Nat) : SeAt w0 B0 N := by
  induction N with
  | zero => intro l lo hi g A w hN; omega
  | succ N ih =>
    intro l lo hi g A w hN h0 hs hhi
    have IH := Lib.hid ih
    obtain ⟨ch, lo', hi', HO⟩ := hs.opened
    obtain @⟨_, _, hd, len, rows, wf, kids⟩ := h0
    have HK := Lib.hid kids
    have HHO := Lib.hid HO
    clear ih hs HO rows wf kids
    go_enter Tryd.func74, Tryd.ntmps74
    go_wp2
    go_loopw [2] (fun i W => ∃ k : Nat, k ≤ l.length ∧ i = .int .i64 k ∧ Hid (SpE w W lo hi g l ch lo' hi' k (k * 4))) (fun i _ => l.length - (intOf i).toNat)
    case atStart => exact ⟨0, Nat.zero_le _, rfl, Lib.hid (by rw [Nat.zero_mul]; exact SpE.start HHO.out)⟩
    case round =>
      obtain ⟨k, hk, rfl, HM⟩ := hrel
      by_cases hlt : k < l.length
      · obtain ⟨c0, c1, c2, c3⟩ := HM.out.cells hlt
        have sz := HM.out.mod.size
        have into := HHO.out.into k hlt
        have lg := HM.out.rest.lt
        have hsz : SizeOf.sizeOf (nthE l k) < SizeOf.sizeOf l := getD_size _ hlt
        have hsa := args_size (nthE l k)
        have HC := Lib.hid (IH.out (nthE l k).args (lo' k) (hi' k) (ch k) _ wr (by omega) (HK.out k hlt) (HM.out.kids k (Nat.le_refl _) hlt) (by omega))
        go_upto_region 4 with (go_at_call 74; go_must (refine HC.out.mono ?_; rintro e w1 ⟨rfl, hm⟩))
        have M1 := HM.out.kid HHO.out hlt hhi hm
        have HM1 := Lib.hid M1
        have d : ∀ j, j < 4 → w1.cell? ⟨g, k * 4 + j, none⟩ = some (exV (nthE l k) ⟨some ⟨ch k, 0, none⟩, (nthE l k).args.length + 1⟩ j) := fun j hj => (M1.rest.cell (by omega) (by omega)).trans (exRow_at hlt hj)
        obtain ⟨d0, d1, d2, d3⟩ := (show w1.cell? ⟨g, k * 4, none⟩ = some (.int .i64 (nthE l k).kind) ∧ w1.cell? ⟨g, k * 4 + 1, none⟩ = some (.int .i64 (nthE l k).n) ∧ w1.cell? ⟨g, k * 4 + 2, none⟩ = some (.string (nthE l k).name) ∧ w1.cell? ⟨g, k * 4 + 3, none⟩ = some (.slice (some ⟨ch k, 0, none⟩) (nthE l k).args.length ((nthE l k).args.length + 1)) from ⟨d 0 (by omega), d 1 (by omega), d 2 (by omega), d 3 (by omega)⟩)
        obtain ⟨z0, z1, z2, z3⟩ := (show w1.frozen? ⟨g, k * 4, none⟩ = false ∧ w1.frozen? ⟨g, k * 4 + 1, none⟩ = false ∧ w1.frozen? ⟨g, k * 4 + 2, none⟩ = false ∧ w1.frozen? ⟨g, k * 4 + 3, none⟩ = false from ⟨M1.rest.frozen, M1.rest.frozen, M1.rest.frozen, M1.rest.frozen⟩)
        have lg1 := M1.rest.lt
        clear c0 c1 c2 c3 d M1 hm lg
        go_wp2
        go_roundw
        case rel => exact ⟨k + 1, by omega, by go_num, Lib.hid (by repeat (first | exact HM1.out.next (by omega) | refine SpE.put ?_ HHO.out (by omega) _))⟩
        case measure => first | (simp [intOf]; done) | (simp [intOf]; omega)
      · obtain rfl : k = l.length := by omega
        have hm := HM.out.mod
        go_wp2
        refine end_of ?_ rfl
        exact ⟨_, by simp [results, Tryd.results74, go_sem], rfl, hm⟩
def SsAt_ (w0 : World) (B0 N : Nat) : Prop := ∀ (l : List StD) (lo hi g : Nat) (w : World), SizeOf.sizeOf l < N → StsWf w0 B0 l → StsOwn w lo hi g l → hi ≤ w.heap.size →
    Calls Tryd.prog 47 #[.slice (some ⟨g, 0, none⟩) l.length (l.length + 1)] w fun e w' => e = .returned (.tuple #[]) ∧ Mod (fun b => lo ≤ b ∧ b < hi) w w'
set_option maxRecDepth 100000 in
set_option maxHeartbeats 8000000 in
theorem spoilSN (w0 : World) (B0 N : Nat) : SsAt_ w0 B0 N := by
  induction N with
  | zero => intro l lo hi g w hN; omega
  | succ N ih =>
    intro l lo hi g w hN h0 hs hhi
    have IH := Lib.hid ih
    obtain ⟨ch, cb, iv, lc, hc, HO⟩ := hs.opened
    obtain @⟨_, len, wf, ea, eb, body, els, clen, cwf, cbody⟩ := h0
    have WA := Lib.hid ea
    have WZ := Lib.hid eb
    have WB := Lib.hid body
    have WE := Lib.hid els
    have WC := Lib.hid cbody
    have WL := Lib.hid clen
    have HHO := Lib.hid HO
    clear ih hs HO ea eb body els cbody clen wf cwf
    go_enter Tryd.func47, Tryd.ntmps47
    (try simp only [List.append_eq, List.cons_append, List.nil_append])
    go_wp2
    go_loopw [2] (fun i W => ∃ k : Nat, k ≤ l.length ∧ i = .int .i64 k ∧ Hid (SpS w W lo hi g l ch cb iv lc hc k (k * 14))) (fun i _ => l.length - (intOf i).toNat)
    case atStart => exact ⟨0, Nat.zero_le _, rfl, Lib.hid (by rw [Nat.zero_mul]; exact SpS.start HHO.out)⟩
    case round =>
      obtain ⟨k, hk, rfl, HM⟩ := hrel
      by_cases hlt : k < l.length
      · have sz := HM.out.mod.size
        have HP := Lib.hid (HM.out.each k (Nat.le_refl _) hlt)
        have O := HHO.out.ord k hlt
        have HORD := Lib.hid O
        obtain ⟨o0, o1, o2, o3, o4, o5, o6, o7, o8, o9, o10, o11⟩ := O
        have lol := HHO.out.low
        have hsz : SizeOf.sizeOf (nthS l k) < SizeOf.sizeOf l := getD_size _ hlt
        obtain ⟨A1, wA⟩ := WA.out k hlt
        obtain ⟨A2, wZ⟩ := WZ.out k hlt
        have HA := Lib.hid wA
        have HZ := Lib.hid wZ
        have HWB := Lib.hid (WB.out k hlt)
        have HWE := Lib.hid (WE.out k hlt)
        have HWC := Lib.hid (WC.out k hlt)
        have wcl := WL.out k hlt
        have HCELL := Lib.hid fun (W : World) (hr : Rest W g (l.length * 14) (k * 14) 53 (stRow l ch l.length ++ endSt).toArray) (j : Nat) (hj : j < 14) => (hr.cell (by omega) (by omega)).trans (stRow_at (l := l) (ch := ch) hlt hj)
        clear wA wZ
        generalize nthS l k = x at HP hsz HA HZ HWB HWE HWC wcl HCELL
        have sb := body_size x
        have se := els_size x
        have sc := cases_size x
        obtain ⟨wo, rfl⟩ : ∃ wo : World, wo = wr := ⟨_, rfl⟩
        have lg := HM.out.rest.lt
        have c6 : wo.cell? ⟨g, k * 14 + 3 + 3, none⟩ = some (.slice (some ⟨(ch k).a, 0, none⟩) x.a.args.length (x.a.args.length + 1)) := HCELL.out wo HM.out.rest 6 (by omega)
        have hA := Lib.hid (spoilEN w0 B0 _ x.a.args _ _ _ _ wo (Nat.lt_succ_self _) HA.out HP.out.ea (by omega))
        go_upto_region 4 with (go_at_call 74; go_must (refine hA.out.mono ?_; rintro e w1 ⟨rfl, hm1⟩))
        have N1 : Mod (fun b => (iv k).la ≤ b ∧ b < (iv k).ha) wo w1 := hm1
        have R1 := HM.out.rest.mod hm1 (by omega)
        have sz1 := hm1.size
        have lg1 := R1.lt
        clear c6
        have c10 : w1.cell? ⟨g, k * 14 + 7 + 3, none⟩ = some (.slice (some ⟨(ch k).b, 0, none⟩) x.b.args.length (x.b.args.length + 1)) := HCELL.out w1 R1 10 (by omega)
        have hB := Lib.hid (spoilEN w0 B0 _ x.b.args _ _ _ _ w1 (Nat.lt_succ_self _) HZ.out (HP.out.eb.keep (N1.agree (by omega) fun b _ _ => by omega)) (by omega))
        have HR1 := Lib.hid R1
        clear R1 hm1
        go_upto_region 5 with (go_at_call 74; go_must (refine hB.out.mono ?_; rintro e w2 ⟨rfl, hm2⟩))
        have N2 : Mod (fun b => (iv k).la ≤ b ∧ b < (iv k).hb) wo w2 := (N1.mono fun b _ _ => by omega).trans (hm2.mono fun b _ _ => by omega)
        have R2 := HR1.out.mod hm2 (by omega)
        have sz2 := hm2.size
        have lg2 := R2.lt
        clear c10
        have c11 : w2.cell? ⟨g, k * 14 + 11, none⟩ = some (.slice (some ⟨(ch k).body, 0, none⟩) x.body.length (x.body.length + 1)) := HCELL.out w2 R2 11 (by omega)
        have hC := Lib.hid (IH.out x.body _ _ _ w2 (by omega) HWB.out (HP.out.body.keep (N2.agree (by omega) fun b _ _ => by omega)) (by omega))
        have HR2 := Lib.hid R2
        clear R2 hm2
        go_upto_region 6 with (go_at_call 47; go_must (refine hC.out.mono ?_; rintro e w3 ⟨rfl, hm3⟩))
        have N3 : Mod (fun b => (iv k).la ≤ b ∧ b < (iv k).hB) wo w3 := (N2.mono fun b _ _ => by omega).trans (hm3.mono fun b _ _ => by omega)
        have R3 := HR2.out.mod hm3 (by omega)
        have sz3 := hm3.size
        have lg3 := R3.lt
        clear c11
        have c12 : w3.cell? ⟨g, k * 14 + 12, none⟩ = some (.slice (some ⟨(ch k).els, 0, none⟩) x.els.length (x.els.length + 1)) := HCELL.out w3 R3 12 (by omega)
        have hD := Lib.hid (IH.out x.els _ _ _ w3 (by omega) HWE.out (HP.out.els.keep (N3.agree (by omega) fun b _ _ => by omega)) (by omega))
        have HR3 := Lib.hid R3
        clear R3 hm3
        go_upto_region 7 with (go_at_call 47; go_must (refine hD.out.mono ?_; rintro e w4 ⟨rfl, hm4⟩))
        have N4 : Mod (fun b => (iv k).la ≤ b ∧ b < (iv k).hE) wo w4 := (N3.mono fun b _ _ => by omega).trans (hm4.mono fun b _ _ => by omega)
        have HR4 := Lib.hid (HR3.out.mod hm4 (by omega))
        have HS0 := Lib.hid (SpC.start HP.out HORD.out (by omega) N4)
        clear c12 N1 N2 N3 N4 hm4
        go_wp2
        go_loopw [3] (fun i W => ∃ j : Nat, j ≤ x.cases.length ∧ i = .int .i64 j ∧ Hid (SpC wo W x (ch k) (cb k) (iv k) (lc k) (hc k) j (j * 2)) ∧ Hid (Rest W g (l.length * 14) (k * 14) 53 (stRow l ch l.length ++ endSt).toArray)) (fun i _ => x.cases.length - (intOf i).toNat)
        case atStart => exact ⟨0, Nat.zero_le _, rfl, Lib.hid (by rw [Nat.zero_mul]; exact HS0.out), HR4⟩
        case round =>
          clear HS0 HR4
          obtain ⟨j, hj, rfl, HC, HR⟩ := hrel
          have sz5 := HC.out.mod.size
          have lg5 := HR.out.lt
          have lc5 := HC.out.rest.lt
          have c13 : wr.cell? ⟨g, k * 14 + 13, none⟩ = some (.slice (some ⟨(ch k).cases, 0, none⟩) x.cases.length (x.cases.length + 1)) := HCELL.out wr HR.out 13 (by omega)
          by_cases hjt : j < x.cases.length
          · obtain ⟨e0, e1⟩ := HC.out.cells hjt
            have ci := HP.out.cinto j hjt
            have s1 : SizeOf.sizeOf (nthC x.cases j) < SizeOf.sizeOf x.cases := getD_size _ hjt
            have s2 := cbody_size (nthC x.cases j)
            have hC := Lib.hid (IH.out (nthC x.cases j).body _ _ _ wr (by omega) (HWC.out j hjt) (HC.out.kids j (Nat.le_refl _) hjt) (by omega))
            go_upto_region 11 with (go_at_call 47; go_must (refine hC.out.mono ?_; rintro e w6 ⟨rfl, hm6⟩))
            have C6 := HC.out.kid HP.out HORD.out hjt (by omega) hm6
            have R6 := HR.out.mod hm6 (by omega)
            clear c13 e0 e1
            have c13 : w6.cell? ⟨g, k * 14 + 13, none⟩ = some (.slice (some ⟨(ch k).cases, 0, none⟩) x.cases.length (x.cases.length + 1)) := HCELL.out w6 R6 13 (by omega)
            have lg6 := R6.lt
            have lc6 := C6.rest.lt
            obtain ⟨e0, e1⟩ := (show w6.cell? ⟨(ch k).cases, j * 2, none⟩ = some (.int .i64 (nthC x.cases j).n) ∧ w6.cell? ⟨(ch k).cases, j * 2 + 1, none⟩ = some (.slice (some ⟨cb k j, 0, none⟩) (nthC x.cases j).body.length ((nthC x.cases j).body.length + 1)) from ⟨(C6.rest.cell (by omega) (by omega)).trans (caRow_at (j := 0) hjt (by omega)), (C6.rest.cell (by omega) (by omega)).trans (caRow_at (j := 1) hjt (by omega))⟩)
            obtain ⟨z0, z1⟩ := (show w6.frozen? ⟨(ch k).cases, j * 2, none⟩ = false ∧ w6.frozen? ⟨(ch k).cases, j * 2 + 1, none⟩ = false from ⟨C6.rest.frozen, C6.rest.frozen⟩)
            have HC6 := Lib.hid C6
            have HR6 := Lib.hid R6
            have hne : g ≠ (ch k).cases := by omega
            clear C6 R6 hm6 HC
            go_wp2
            go_roundw
            case rel =>
              have hfin : ∃ j' : Nat, j' ≤ x.cases.length ∧ Value.int .i64 ((j : Int) + 1) = .int .i64 j' ∧ Hid (SpC wo ((w6.setCell ⟨(ch k).cases, j * 2, none⟩ (.int .i64 99)).setCell ⟨(ch k).cases, j * 2 + 1, none⟩ (.slice none 0 0)) x (ch k) (cb k) (iv k) (lc k) (hc k) j' (j' * 2)) ∧ Hid (Rest ((w6.setCell ⟨(ch k).cases, j * 2, none⟩ (.int .i64 99)).setCell ⟨(ch k).cases, j * 2 + 1, none⟩ (.slice none 0 0)) g (l.length * 14) (k * 14) 53 (stRow l ch l.length ++ endSt).toArray) :=
                ⟨j + 1, by omega, by go_num, Lib.hid (((HC6.out.next (by omega)).put HP.out HORD.out (by omega) _).put HP.out HORD.out (by omega) _), Lib.hid (HR6.out.mod (((Mod.refl (fun b => b = (ch k).cases) _).setCell (p := ⟨(ch k).cases, j * 2, none⟩) rfl _).setCell (p := ⟨(ch k).cases, j * 2 + 1, none⟩) rfl _) hne)⟩
              first | exact hfin | ((repeat apply Exists.intro); exact ⟨hfin, rfl⟩)
            case measure => first | (simp [intOf]; done) | (simp [intOf]; omega)
          · obtain rfl : j = x.cases.length := by omega
            go_upto_region 12 with fail
            have M7 := HM.out.one HHO.out hlt hhi HC.out.mod
            have HM7 := Lib.hid M7
            have TH : wr.there g (k * 14) 14 := fun j hj => ⟨by rw [HCELL.out wr HR.out j hj]; rfl, HR.out.frozen⟩
            clear c13 M7
            go_wp2_with (refine wpList_store_mid rfl _ (.tmp 67) (.tmp 66) rfl _ _ (List.toArray _) rfl rfl ?_ ?_ ?_ ?_)
            · exact TH
            · kernel_rfl
            · kernel_rfl
            · have HFIN : ∀ W : World, SpS w W lo hi g l ch cb iv lc hc (k + 1) ((k + 1) * 14) → ∃ k' : Nat, k' ≤ l.length ∧ Value.int .i64 ((k : Int) + 1) = .int .i64 k' ∧ Hid (SpS w W lo hi g l ch cb iv lc hc k' (k' * 14)) := fun W h => ⟨k + 1, by omega, by go_num, Lib.hid h⟩
              go_roundw
              case rel =>
                first
                  | exact HFIN _ ((HM7.out.next (by omega)).puts HHO.out (by simp; omega))
                  | ((repeat apply Exists.intro); exact ⟨HFIN _ ((HM7.out.next (by omega)).puts HHO.out (by simp; omega)), rfl⟩)
              case measure => first | (simp [intOf]; done) | (simp [intOf]; omega)
      · obtain rfl : k = l.length := by omega
        have hm := HM.out.mod
        go_wp2
        refine end_of ?_ rfl
        exact ⟨_, by simp [results, Tryd.results47, go_sem], rfl, hm⟩
end Go.Proofs.YtdddppmfeoebgaaDoor

/-
  Layer 2 (tree): the walk of Spoil: a program in blocks of its own is written over, and nothing below it.
-/
namespace Go.Proofs.YtdddppmfeoebgaaDoor
open Go.RowKit
set_option linter.unusedSimpArgs false
set_option linter.unusedVariables false
structure SpF (w W : World) (B gw gf : Nat) (p : PrD) (gp gb lb hb : Nat → Nat) (k i : Nat) : Prop where
  rest : Rest W gf (p.funcs.length * 3) i 41 (fnRow p.funcs gp gb p.funcs.length ++ endFn).toArray
  each : ∀ j, k ≤ j → j < p.funcs.length → FnOne W (nthF p.funcs j) (gp j) (gb j) (lb j) (hb j)
  mod : Mod (fun b => gw ≤ b ∧ b < B) w W
section
variable {w W W2 : World} {B gw gf lo : Nat} {p : PrD} {gp gb lb hb : Nat → Nat} {k i : Nat}
theorem SpF.one (h : SpF w W B gw gf p gp gb lb hb k i) (HO : PrOwn w lo p gw gf gp gb lb hb) (hB : ∀ j, j < p.funcs.length → hb j ≤ B) (hk : k < p.funcs.length) (hm : Mod (fun b => gp k ≤ b ∧ b < hb k) W W2) : SpF w W2 B gw gf p gp gb lb hb (k + 1) i := by
  have a := HO.into k hk
  have aB := hB k hk
  have low := HO.lt
  have sz := h.mod.size
  refine ⟨h.rest.mod hm (by omega), fun j h1 h2 => (h.each j (by omega) h2).keep (lo := gp j) (hi := hb j) (hm.agree (by have := HO.into j h2; omega) fun b c d => ?_) (Nat.le_refl _) (HO.into j h2).2.1 (Nat.le_refl _), h.mod.trans (hm.mono fun b _ hb => by omega)⟩
  have := HO.apart k j (by omega) h2
  omega
theorem SpF.next (h : SpF w W B gw gf p gp gb lb hb k i) {i2 : Nat} (hi2 : i ≤ i2) : SpF w W B gw gf p gp gb lb hb k i2 := ⟨h.rest.more hi2, h.each, h.mod⟩
theorem SpF.put (h : SpF w W B gw gf p gp gb lb hb k i) (HO : PrOwn w lo p gw gf gp gb lb hb) (hB : gf < B) {m : Nat} (hm : m < i) (v : Value) : SpF w (W.setCell ⟨gf, m, none⟩ v) B gw gf p gp gb lb hb k i := by
  have low := HO.lt
  have lg := HO.frow.lt
  refine ⟨h.rest.put hm v, fun j h1 h2 => (h.each j h1 h2).keep (lo := gp j) (hi := hb j) (fun b c d => Below.heap_setCell _ _ _ _ (by have := HO.into j h2; simp only; omega)) (Nat.le_refl _) (HO.into j h2).2.1 (Nat.le_refl _), h.mod.setCell (p := ⟨gf, m, none⟩) ⟨by simp only; omega, by simp only; omega⟩ v⟩
end
theorem paRow_at {l : List PaD} {k j : Nat} (hk : k < l.length) (hj : j < 3) : (paL l ++ endPa).toArray[k * 3 + j]? = some (paV (nthP l k) j) := by
  rw [List.getElem?_toArray, paL, List.getElem?_append_left (by rw [rowsL_len]; omega)]
  exact rowsL_get hk hj
theorem wiRow_at {l : List Int} {k : Nat} (hk : k < l.length) : (wiL l ++ endWi).toArray[k]? = some (.int .i64 (l.getD k 0)) := by
  rw [List.getElem?_toArray, wiL, List.getElem?_append_left (by rw [rowsL_len]; omega)]
  have := rowsL_get (val := fun k _ => Value.int .i64 (l.getD k 0)) hk (show 0 < 1 by omega)
  rwa [Nat.mul_one, Nat.add_zero] at this
set_option maxRecDepth 100000 in
set_option maxHeartbeats 8000000 in
theorem spoilR (p : PrD) (w0 : World) (B0 : Nat) (wa fa : Option Addr) (lo B gw gf : Nat) (gp gb lb hb : Nat → Nat) (w : World) (h0 : PrOk w0 B0 p wa fa) (hp : PrOwn w lo p gw gf gp gb lb hb) (hgB : gf < B) (hbB : ∀ j, j < p.funcs.length → hb j ≤ B) (hBw : B ≤ w.heap.size) :
    Calls Tryd.prog 23 #[.agg #[.slice (some ⟨gw, 0, none⟩) p.widen.length (p.widen.length + 1), .slice (some ⟨gf, 0, none⟩) p.funcs.length (p.funcs.length + 1)]] w fun e w' => e = .returned (.tuple #[]) ∧ Mod (fun b => gw ≤ b ∧ b < B) w w' := by
  obtain ⟨wlen, _, _, ⟨hd, flen, _, each⟩⟩ := h0
  have HE := Lib.hid each
  have P1 := Whl.new w 26 #[.slice (some ⟨gw, 0, none⟩) p.widen.length (p.widen.length + 1), .slice (some ⟨gf, 0, none⟩) p.funcs.length (p.funcs.length + 1)]
  have HBB := Lib.hid hbB
  clear hbB
  have HP := Lib.hid hp
  have hlow := hp.low
  have hlt0 := hp.lt
  have R1 := Rest.of (n := p.widen.length) (hp.wrow.alloc (.cells #[.slice (some ⟨gw, 0, none⟩) p.widen.length (p.widen.length + 1), .slice (some ⟨gf, 0, none⟩) p.funcs.length (p.funcs.length + 1)] 26)) 0
  have hgw := hp.wrow.lt
  have hgf := hp.frow.lt
  have S1 : Mod (fun b => b = gw) w (w.alloc (.cells #[.slice (some ⟨gw, 0, none⟩) p.widen.length (p.widen.length + 1), .slice (some ⟨gf, 0, none⟩) p.funcs.length (p.funcs.length + 1)] 26)) := (Mod.refl _ _).alloc _
  clear each hp
  go_enter Tryd.func23, Tryd.ntmps23
  go_wp2
  go_loopw [2] (fun i W => ∃ k : Nat, k ≤ p.widen.length ∧ i = .int .i64 k ∧ Hid (Rest W gw p.widen.length k 2 (wiL p.widen ++ endWi).toArray) ∧ Whl W w.heap.size 26 #[.slice (some ⟨gw, 0, none⟩) p.widen.length (p.widen.length + 1), .slice (some ⟨gf, 0, none⟩) p.funcs.length (p.funcs.length + 1)] ∧ Mod (fun b => b = gw) w W) (fun i _ => p.widen.length - (intOf i).toNat)
  case atStart => exact ⟨0, Nat.zero_le _, rfl, Lib.hid R1, P1, S1⟩
  case round =>
    clear P1 R1 S1
    obtain ⟨k, hk, rfl, HR, PP, HM⟩ := hrel
    have l2 := PP.lt
    obtain ⟨e0, e1⟩ := PP.c2
    have lr := HR.out.lt
    by_cases hlt : k < p.widen.length
    · have c0 : wr.cell? ⟨gw, k, none⟩ = some (.int .i64 (p.widen.getD k 0)) := (HR.out.cell (Nat.le_refl _) hlt).trans (wiRow_at hlt)
      have z0 : wr.frozen? ⟨gw, k, none⟩ = false := HR.out.frozen
      have HPP := Lib.hid PP
      clear PP
      go_wp2
      go_roundw
      case rel => exact ⟨k + 1, by omega, by go_num, Lib.hid ((HR.out.more (by omega)).put (by omega) _), HPP.out.far (by simp only; omega) _, HM.setCell rfl _⟩
      case measure => first | (simp [intOf]; done) | (simp [intOf]; omega)
    · obtain rfl : k = p.widen.length := by omega
      have HO : PrOwn w lo p gw gf gp gb lb hb := HP.out
      have F0 : Hid (SpF w wr B gw gf p gp gb lb hb 0 0) := Lib.hid ⟨Rest.of (HM.whl HO.frow (by omega)) 0, fun j _ hj => (HO.one j hj).keep (lo := gp j) (hi := hb j) (HM.agree (HO.into j hj).2.2 fun b c d => by have := HO.into j hj; omega) (Nat.le_refl _) (HO.into j hj).2.1 (Nat.le_refl _), HM.mono fun b _ hb => by omega⟩
      clear HM HR HO
      obtain ⟨wo, rfl⟩ : ∃ wo : World, wo = wr := ⟨_, rfl⟩
      go_wp2
      go_loopw [3] (fun i W => ∃ k : Nat, k ≤ p.funcs.length ∧ i = .int .i64 k ∧ Hid (SpF w W B gw gf p gp gb lb hb k (k * 3)) ∧ Whl W w.heap.size 26 #[.slice (some ⟨gw, 0, none⟩) p.widen.length (p.widen.length + 1), .slice (some ⟨gf, 0, none⟩) p.funcs.length (p.funcs.length + 1)]) (fun i _ => p.funcs.length - (intOf i).toNat)
      case atStart => exact ⟨0, Nat.zero_le _, rfl, Lib.hid (by rw [Nat.zero_mul]; exact F0.out), PP⟩
      case round =>
        clear F0 PP l2 e0 e1 lr
        obtain ⟨k, hk, rfl, HM, PP⟩ := hrel
        have l2 := PP.lt
        obtain ⟨e0, e1⟩ := PP.c2
        have sz := HM.out.mod.size
        have lr := HM.out.rest.lt
        by_cases hlt : k < p.funcs.length
        · have into := HP.out.into k hlt
          have intoB := HBB.out k hlt
          have one := HM.out.each k (Nat.le_refl _) hlt
          have e := HE.out k hlt
          have plen := e.plen
          have HWF := Lib.hid e.body.wfs
          have HONE := Lib.hid one
          have HCELL := Lib.hid fun (W : World) (hr : Rest W gf (p.funcs.length * 3) (k * 3) 41 (fnRow p.funcs gp gb p.funcs.length ++ endFn).toArray) (j : Nat) (hj : j < 3) => (hr.cell (by omega) (by omega)).trans (fnRow_at (l := p.funcs) (gp := gp) (gb := gb) hlt hj)
          clear one e
          generalize nthF p.funcs k = x at plen HWF HONE HCELL
          obtain ⟨c0, c1, c2⟩ := (show wr.cell? ⟨gf, k * 3, none⟩ = some (.string x.name) ∧ wr.cell? ⟨gf, k * 3 + 1, none⟩ = some (.slice (some ⟨gp k, 0, none⟩) x.params.length (x.params.length + 1)) ∧ wr.cell? ⟨gf, k * 3 + 2, none⟩ = some (.slice (some ⟨gb k, 0, none⟩) x.body.length (x.body.length + 1)) from ⟨HCELL.out wr HM.out.rest 0 (by omega), HCELL.out wr HM.out.rest 1 (by omega), HCELL.out wr HM.out.rest 2 (by omega)⟩)
          have HB := Lib.hid (spoilSN w0 B0 _ x.body _ _ _ wr (Nat.lt_succ_self _) HWF.out HONE.out.body (by omega))
          have HPP := Lib.hid PP
          clear PP
          obtain ⟨wo2, rfl⟩ : ∃ wo2 : World, wo2 = wr := ⟨_, rfl⟩
          have hble := HONE.out.body.le
          go_upto_region 9 with (go_at_call 47; go_must (refine HB.out.mono ?_; rintro e w1 ⟨rfl, hm⟩))
          clear e0 e1 c0 c1 c2
          have Q1 := HPP.out
          have P2 := hm.whl Q1 (by omega)
          have R2 := HM.out.rest.mod hm (by omega)
          have N2 : Mod (fun b => gp k ≤ b ∧ b < hb k) wo2 w1 := hm.mono fun b _ _ => by omega
          have A2 := Lib.hid (Rest.of (n := x.params.length * 3) (hm.whl HONE.out.prow (by omega)) 0)
          have HR2 := Lib.hid R2
          have HN2 := Lib.hid N2
          obtain ⟨e0, e1⟩ := P2.c2
          obtain ⟨c0, c1, c2⟩ := (show w1.cell? ⟨gf, k * 3, none⟩ = some (.string x.name) ∧ w1.cell? ⟨gf, k * 3 + 1, none⟩ = some (.slice (some ⟨gp k, 0, none⟩) x.params.length (x.params.length + 1)) ∧ w1.cell? ⟨gf, k * 3 + 2, none⟩ = some (.slice (some ⟨gb k, 0, none⟩) x.body.length (x.body.length + 1)) from ⟨HCELL.out w1 HR2.out 0 (by omega), HCELL.out w1 HR2.out 1 (by omega), HCELL.out w1 HR2.out 2 (by omega)⟩)
          have lp := P2.lt
          have lr2 := HR2.out.lt
          have HP2 := Lib.hid P2
          clear P2 R2 N2 hm Q1
          go_wp2
          clear e0 e1 c0 c1 c2 lp lr2
          go_loopw [4] (fun i W => ∃ j : Nat, j ≤ x.params.length ∧ i = .int .i64 j ∧ Hid (Rest W (gp k) (x.params.length * 3) (j * 3) 50 (paL x.params ++ endPa).toArray) ∧ Hid (Rest W gf (p.funcs.length * 3) (k * 3) 41 (fnRow p.funcs gp gb p.funcs.length ++ endFn).toArray) ∧ Hid (Mod (fun b => gp k ≤ b ∧ b < hb k) wo2 W) ∧ Hid (Whl W w.heap.size 26 #[.slice (some ⟨gw, 0, none⟩) p.widen.length (p.widen.length + 1), .slice (some ⟨gf, 0, none⟩) p.funcs.length (p.funcs.length + 1)])) (fun i _ => x.params.length - (intOf i).toNat)
          case atStart => exact ⟨0, Nat.zero_le _, rfl, by rw [Nat.zero_mul]; exact A2, HR2, HN2, HP2⟩
          case round =>
            clear A2 HR2 HN2 HP2 HPP l2 lr
            obtain ⟨j, hj, rfl, A2, HR2, HN2, HP2⟩ := hrel
            obtain ⟨e0, e1⟩ := HP2.out.c2
            obtain ⟨c0, c1, c2⟩ := (show wr.cell? ⟨gf, k * 3, none⟩ = some (.string x.name) ∧ wr.cell? ⟨gf, k * 3 + 1, none⟩ = some (.slice (some ⟨gp k, 0, none⟩) x.params.length (x.params.length + 1)) ∧ wr.cell? ⟨gf, k * 3 + 2, none⟩ = some (.slice (some ⟨gb k, 0, none⟩) x.body.length (x.body.length + 1)) from ⟨HCELL.out wr HR2.out 0 (by omega), HCELL.out wr HR2.out 1 (by omega), HCELL.out wr HR2.out 2 (by omega)⟩)
            have lp := HP2.out.lt
            have lr2 := HR2.out.lt
            have la := A2.out.lt
            have hne1 : gp k ≠ w.heap.size := by omega
            have hne2 : gp k ≠ gf := by omega
            by_cases hjt : j < x.params.length
            · have d : ∀ i, i < 3 → wr.cell? ⟨gp k, j * 3 + i, none⟩ = some (paV (nthP x.params j) i) := fun i hi => (A2.out.cell (by omega) (by omega)).trans (paRow_at hjt hi)
              obtain ⟨d0, d1, d2⟩ := (show wr.cell? ⟨gp k, j * 3, none⟩ = some (.string (nthP x.params j).name) ∧ wr.cell? ⟨gp k, j * 3 + 1, none⟩ = some (.int .i64 (nthP x.params j).lo) ∧ wr.cell? ⟨gp k, j * 3 + 2, none⟩ = some (.int .i64 (nthP x.params j).hi) from ⟨d 0 (by omega), d 1 (by omega), d 2 (by omega)⟩)
              obtain ⟨z0, z1, z2⟩ := (show wr.frozen? ⟨gp k, j * 3, none⟩ = false ∧ wr.frozen? ⟨gp k, j * 3 + 1, none⟩ = false ∧ wr.frozen? ⟨gp k, j * 3 + 2, none⟩ = false from ⟨A2.out.frozen, A2.out.frozen, A2.out.frozen⟩)
              clear d
              go_wp2
              go_roundw
              case rel =>
                have hfin := (⟨j + 1, by omega, by go_num, Lib.hid ((((A2.out.more (by omega)).put (by omega) _).put (by omega) _).put (by omega) _), Lib.hid (HR2.out.mod ((((Mod.refl (fun b => b = gp k) _).setCell (p := ⟨gp k, j * 3, none⟩) rfl _).setCell (p := ⟨gp k, j * 3 + 1, none⟩) rfl _).setCell (p := ⟨gp k, j * 3 + 2, none⟩) rfl _) (by omega)), Lib.hid (((HN2.out.setCell (p := ⟨gp k, j * 3, none⟩) (by simp only; omega) _).setCell (p := ⟨gp k, j * 3 + 1, none⟩) (by simp only; omega) _).setCell (p := ⟨gp k, j * 3 + 2, none⟩) (by simp only; omega) _), Lib.hid (((HP2.out.far (p := ⟨gp k, j * 3, none⟩) (by simp only; omega) _).far (p := ⟨gp k, j * 3 + 1, none⟩) (by simp only; omega) _).far (p := ⟨gp k, j * 3 + 2, none⟩) (by simp only; omega) _)⟩ : ∃ j' : Nat, j' ≤ x.params.length ∧ Value.int .i64 ((j : Int) + 1) = .int .i64 j' ∧ Hid (Rest (((wr.setCell ⟨gp k, j * 3, none⟩ (.string ⟨#[115, 112, 111, 105, 108, 116]⟩)).setCell ⟨gp k, j * 3 + 1, none⟩ (.int .i64 0)).setCell ⟨gp k, j * 3 + 2, none⟩ (.int .i64 0)) (gp k) (x.params.length * 3) (j' * 3) 50 (paL x.params ++ endPa).toArray) ∧ Hid (Rest (((wr.setCell ⟨gp k, j * 3, none⟩ (.string ⟨#[115, 112, 111, 105, 108, 116]⟩)).setCell ⟨gp k, j * 3 + 1, none⟩ (.int .i64 0)).setCell ⟨gp k, j * 3 + 2, none⟩ (.int .i64 0)) gf (p.funcs.length * 3) (k * 3) 41 (fnRow p.funcs gp gb p.funcs.length ++ endFn).toArray) ∧ Hid (Mod (fun b => gp k ≤ b ∧ b < hb k) wo2 (((wr.setCell ⟨gp k, j * 3, none⟩ (.string ⟨#[115, 112, 111, 105, 108, 116]⟩)).setCell ⟨gp k, j * 3 + 1, none⟩ (.int .i64 0)).setCell ⟨gp k, j * 3 + 2, none⟩ (.int .i64 0))) ∧ Hid (Whl (((wr.setCell ⟨gp k, j * 3, none⟩ (.string ⟨#[115, 112, 111, 105, 108, 116]⟩)).setCell ⟨gp k, j * 3 + 1, none⟩ (.int .i64 0)).setCell ⟨gp k, j * 3 + 2, none⟩ (.int .i64 0)) w.heap.size 26 #[.slice (some ⟨gw, 0, none⟩) p.widen.length (p.widen.length + 1), .slice (some ⟨gf, 0, none⟩) p.funcs.length (p.funcs.length + 1)]))
                first | exact hfin | ((repeat apply Exists.intro); exact ⟨hfin, rfl⟩)
              case measure => first | (simp [intOf]; done) | (simp [intOf]; omega)
            · obtain rfl : j = x.params.length := by omega
              obtain ⟨z0, z1, z2⟩ := (show wr.frozen? ⟨gf, k * 3, none⟩ = false ∧ wr.frozen? ⟨gf, k * 3 + 1, none⟩ = false ∧ wr.frozen? ⟨gf, k * 3 + 2, none⟩ = false from ⟨HR2.out.frozen, HR2.out.frozen, HR2.out.frozen⟩)
              have M3 := Lib.hid (HM.out.one HP.out HBB.out hlt HN2.out)
              have hne3 : gf ≠ w.heap.size := by omega
              go_wp2
              go_roundw
              case rel =>
                have hfin := (⟨k + 1, by omega, by go_num, Lib.hid ((((M3.out.next (by omega)).put HP.out hgB (by omega) _).put HP.out hgB (by omega) _).put HP.out hgB (by omega) _), ((HP2.out.far (p := ⟨gf, k * 3, none⟩) (by simp only; omega) _).far (p := ⟨gf, k * 3 + 1, none⟩) (by simp only; omega) _).far (p := ⟨gf, k * 3 + 2, none⟩) (by simp only; omega) _⟩ : ∃ k' : Nat, k' ≤ p.funcs.length ∧ Value.int .i64 ((k : Int) + 1) = .int .i64 k' ∧ Hid (SpF w (((wr.setCell ⟨gf, k * 3, none⟩ (.string ⟨#[115, 112, 111, 105, 108, 116]⟩)).setCell ⟨gf, k * 3 + 1, none⟩ (.slice none 0 0)).setCell ⟨gf, k * 3 + 2, none⟩ (.slice none 0 0)) B gw gf p gp gb lb hb k' (k' * 3)) ∧ Whl (((wr.setCell ⟨gf, k * 3, none⟩ (.string ⟨#[115, 112, 111, 105, 108, 116]⟩)).setCell ⟨gf, k * 3 + 1, none⟩ (.slice none 0 0)).setCell ⟨gf, k * 3 + 2, none⟩ (.slice none 0 0)) w.heap.size 26 #[.slice (some ⟨gw, 0, none⟩) p.widen.length (p.widen.length + 1), .slice (some ⟨gf, 0, none⟩) p.funcs.length (p.funcs.length + 1)])
                first | exact hfin | ((repeat apply Exists.intro); exact ⟨hfin, rfl⟩)
              case measure => first | (simp [intOf]; done) | (simp [intOf]; omega)
        · obtain rfl : k = p.funcs.length := by omega
          have hfin := HM.out.mod
          go_wp2
          refine end_of ?_ rfl
          exact ⟨_, by simp [results, Tryd.results23, go_sem], rfl, hfin⟩
end Go.Proofs.YtdddppmfeoebgaaDoor
