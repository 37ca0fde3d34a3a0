/-
  Layer 2 (tree): the walk of TreeLines.
-/
import Derived.Test.YtdddppmfeoebgaaDoorAwakeA
import Derived.Test.YtdddppmfeoebgaaDoorLinesA
import Derived.Test.YtdddppmfeoebgaaDoorTreeG
namespace Go.Proofs.YtdddppmfeoebgaaDoor
open Go.RowKit
set_option linter.unusedSimpArgs false
set_option linter.unusedVariables false
set_option maxRecDepth 100000
set_option maxHeartbeats 8000000 in
theorem lines_bad (p : PrD) (wa fa : Option Addr) (wc fc : Nat) (w : World) (hp : PrOk w w.heap.size p wa fa) (ht : Pow10 w) (he : ¬ (printD p).2.e = 0) :
    Calls Tryd.prog 10 #[prV p wa fa wc fc] w fun e w' => e = .returned (.bool true) ∧ Below w.heap.size w w' := by
  have HP := Lib.hid hp
  have HT := Lib.hid ht
  have HAW := Lib.hid (awakeL _ (ht.step (below_alloc (Below.refl _ _) (.cells (prC p wa fa wc fc) 26))))
  obtain ⟨hs, hor⟩ := print_bad he
  have HPR : Hid (∀ W, PrOk W W.heap.size p wa fa → Pow10 W → Calls Tryd.prog 20 #[prV p wa fa wc fc] W fun e w' => e = .returned (.tuple #[strV [], faultV (printD p).2]) ∧ Below W.heap.size W w') := Lib.hid fun W h1 h2 => by
    have := printP p wa fa wc fc _ W (Nat.le_refl _) h1 h2
    rwa [hs] at this
  clear hp ht hs hor
  revert he HPR
  generalize (printD p).2 = F
  intro he HPR
  have g0 : (F.e != 0) = true := by simpa using he
  clear he
  go_enter Tryd.func10, Tryd.ntmps10
  go_wp2_with (first
    | (go_at_call 11; go_must (refine HAW.out.mono ?_; rintro e w1 ⟨rfl, hb1⟩; have X1 := (Whl.new w 26 (prC p wa fa wc fc)).below' hb1; have B1 := below_step (below_alloc (Below.refl _ _) _) hb1; have HP1 := Lib.hid (HP.out.step B1); obtain ⟨q0, q1⟩ := X1.c2; have lx := X1.lt; have T1 := Lib.hid (HT.out.step B1)))
    | (go_at_call 20; go_must (refine (HPR.out w1 HP1.out T1.out).mono ?_; rintro e w2 ⟨rfl, hb2⟩; have B2 := below_alloc (below_step B1 hb2) (.cells #[.int .i64 F.e, .int .i64 (F.fn : Int), .int .i64 (F.at_ : Int)] 29); have X2 := (X1.below' hb2).alloc (.cells #[.int .i64 F.e, .int .i64 (F.fn : Int), .int .i64 (F.at_ : Int)] 29); obtain ⟨q2, q3⟩ := X2.c2; have lx2 := X2.lt)))
  go_ret
  exact ⟨rfl, B2⟩
theorem linFs_snoc {l : List FnD} {k : Nat} (h : k < l.length) : linFs (l.take (k + 1)) = linFs (l.take k) + (2 + linSs (nthF l k).body) :=
  fold_snoc (op := (· + ·)) (e := 0) (g := fun f : FnD => 2 + linSs f.body) Nat.zero_add Nat.add_zero Nat.add_assoc (by rw [linFs]) (fun x r => by rw [linFs]) _ h
theorem linFs_le : ∀ l : List FnD, linFs l ≤ 2 * l.length + 6 * cntFs l
  | [] => by rw [linFs]; omega
  | f :: r => by have h1 := linSs_le f.body; have h2 := linFs_le r; rw [linFs, cntFs, List.length_cons]; omega
/-- The byte at a place. -/
theorem byte_at {L : List UInt8} {j : Nat} (h : j < (⟨L.toArray⟩ : ByteArray).size) : (⟨L.toArray⟩ : ByteArray)[j] = L.getD j 0 := by
  have h2 : j < L.length := h
  rw [List.getD_eq_getElem?_getD, List.getElem?_eq_getElem h2]; rfl
theorem byte_cut {L : List UInt8} {a b j : Nat} (h : j < ((⟨L.toArray⟩ : ByteArray).extract a b).size) : ((⟨L.toArray⟩ : ByteArray).extract a b)[j] = L.getD (a + j) 0 := by
  rw [ByteArray.getElem_extract, byte_at]
theorem byte_yes {a : UInt8} {n : Nat} (h : a = UInt8.ofNat n) (hn : n < 256 := by decide) : ((a.toNat : Int) == (n : Int)) = true := by
  subst h; rw [beq_iff_eq, UInt8.toNat_ofNat', Nat.mod_eq_of_lt (by omega)]
theorem byte_no {a : UInt8} {n : Nat} (h : ¬ a = UInt8.ofNat n) : ((a.toNat : Int) == (n : Int)) = false := by
  rw [beq_eq_false_iff_ne]; intro e; apply h
  rw [← UInt8.ofNat_toNat (x := a), show a.toNat = n by omega]
set_option maxHeartbeats 8000000 in
theorem lines_ok (p : PrD) (wa fa : Option Addr) (uc vc : Nat) (w : World) (hp : PrOk w w.heap.size p wa fa) (ht : Pow10 w) (he : (printD p).2.e = 0) :
    Calls Tryd.prog 10 #[prV p wa fa uc vc] w fun e w' => e = .returned (.bool true) ∧ Below w.heap.size w w' := by
  obtain ⟨hc, hpr, hlen⟩ := print_ok he
  have hce : (checkD p).e = 0 := by rw [hc]
  have hwl := hp.wlen
  obtain ⟨h1, _⟩ := checkD_ok hce
  obtain ⟨_, _, _, hfl, hno⟩ := headD_ok h1
  obtain ⟨off, d, dep, s, hlin⟩ := lines_of (prT_lin hce)
  have HLI := Lib.hid hlin
  have HP := Lib.hid hp
  have HT := Lib.hid ht
  have HAW := Lib.hid (awakeL _ (ht.step (below_alloc (Below.refl _ _) (.cells (prC p wa fa uc vc) 26))))
  have HPR : Hid (∀ W, PrOk W W.heap.size p wa fa → Pow10 W → Calls Tryd.prog 20 #[prV p wa fa uc vc] W fun e w' => e = .returned (.tuple #[strV (prT p), .agg #[.int .i64 0, .int .i64 0, .int .i64 0]]) ∧ Below W.heap.size W w') := Lib.hid fun W h1 h2 => by
    have := printP p wa fa uc vc _ W (Nat.le_refl _) h1 h2
    rwa [hpr] at this
  clear hp ht hc hpr he hce h1 hlin
  generalize hnw : (if p.widen.length = 0 then 0 else 1 : Nat) = nw at HLI
  have hnw1 : nw ≤ 1 := by rw [← hnw]; split <;> omega
  have HNW := Lib.hid hnw
  clear hnw
  go_enter Tryd.func10, Tryd.ntmps10
  go_upto_if 29 with (first
    | (go_at_call 11; go_must (refine HAW.out.mono ?_; rintro e w1 ⟨rfl, hb1⟩; have X1 := (Whl.new w 26 (prC p wa fa uc vc)).below' hb1; have B1 := below_step (below_alloc (Below.refl _ _) _) hb1; have HP1 := Lib.hid (HP.out.step B1); obtain ⟨q0, q1⟩ := X1.c2; have lx := X1.lt; have T1 := Lib.hid (HT.out.step B1)))
    | (go_at_call 20; go_must (refine (HPR.out w1 HP1.out T1.out).mono ?_; rintro e w2 ⟨rfl, hb2⟩; have B2 := below_alloc (below_step B1 hb2) (.cells #[.int .i64 0, .int .i64 0, .int .i64 0] 29); have X2 := (X1.below' hb2).alloc (.cells #[.int .i64 0, .int .i64 0, .int .i64 0] 29); obtain ⟨q2, q3⟩ := X2.c2; have lx2 := X2.lt)))
  generalize hdz : decide (0 < p.widen.length) = dz
  have HDZ := Lib.hid hdz
  clear hdz
  go_cut [5] (fun v w' => v = .int .i64 (nw : Int) ∧ Below w.heap.size w w' ∧ Whl w' w.heap.size 26 (prC p wa fa uc vc))
  case first =>
    cases dz
    · have he : p.widen.length = 0 := by simpa using HDZ.out
      have HEQ := Lib.hid he
      clear he
      go_wp2
      go_meet
      exact ⟨by rw [← HNW.out, if_pos HEQ.out]; rfl, B2, X2⟩
    · have he : 0 < p.widen.length := by simpa using HDZ.out
      go_wp2
      go_meet
      exact ⟨by rw [← HNW.out, if_neg (by omega)]; rfl, B2, X2⟩
  case rest =>
    obtain ⟨rfl, hBc, hXc⟩ := hcut
    obtain ⟨hd, rows, each, _⟩ := HP.out.funcs.open_
    have HR := Lib.hid rows
    have HEA := Lib.hid each
    obtain ⟨y0, y1⟩ := hXc.c2
    have lxc := hXc.lt
    clear rows each q0 q1 q2 q3 lx lx2 X1 X2 B1 B2
    go_wp2
    go_loopw [5, 33] (fun v i W => ∃ k : Nat, k ≤ p.funcs.length ∧ i = .int .i64 k ∧ v = .int .i64 (nw + linFs (p.funcs.take k) : Nat) ∧ Below w.heap.size w W) (fun _ i _ => p.funcs.length - (intOf i).toNat)
    case atStart => exact ⟨0, Nat.zero_le _, rfl, by simp [linFs], hBc⟩
    case round =>
      obtain ⟨k, hk, rfl, rfl, hW⟩ := hrel
      have hWl := hW.size
      by_cases hlt : k < p.funcs.length
      · obtain ⟨b, off, rfl, c0, c1, c2⟩ := HR.out wr hW k hlt
        have lb : b < wr.heap.size := World.block_lt_of_cell? _ _ c0
        have hle := linFs_le (p.funcs.take k)
        have hll : (p.funcs.take k).length ≤ 32 := by rw [List.length_take]; omega
        have hcc := cntFs_cut p.funcs (k + 1)
        have hcs := cntFs_snoc hlt
        have hsn := Lib.hid (linFs_snoc hlt)
        have hlb := linSs_le (nthF p.funcs k).body
        have HC := Lib.hid (linesN _ (nthF p.funcs k).body (hd k).body.a (hd k).body.c w.heap.size (wr.alloc (.cells (fnC (nthF p.funcs k) (hd k)) 41)) (Nat.lt_succ_self _) (by rw [World.size_alloc]; omega) (((HEA.out k hlt).keep (below_alloc hW _) (Nat.le_refl _)).body) (by omega))
        revert HC hsn hlb
        generalize linSs (nthF p.funcs k).body = nb
        intro hsn hlb HC
        go_wp2_with (go_at_call 24; go_must (refine HC.out.mono ?_; rintro e w4 ⟨rfl, hb4⟩))
        go_roundw
        case rel => exact ⟨k + 1, by omega, by go_num, by rw [hsn.out]; go_num, below_step (below_alloc hW _) hb4⟩
        case measure => simp [intOf]; omega
      · obtain rfl : k = p.funcs.length := by omega
        rw [List.take_length]
        have hle := linFs_le p.funcs
        revert HLI hlen
        generalize prT p = L
        generalize hm : nw + linFs p.funcs = m
        intro hlen HLI
        have hm2 : m ≤ 30000 := by omega
        clear hm hle y0 y1
        go_wp2
        go_loop [8, 9, 10, 11] (fun n dp fr i => ∃ k j : Nat, k ≤ m ∧ n = .int .i64 k ∧ dp = .int .i64 (dep k) ∧ fr = .int .i64 (off k) ∧ i = .int .i64 (off k + j : Nat) ∧ (k < m → j ≤ 2 * d k + (s k).length) ∧ (k = m → j = 0)) (fun _ _ _ i => L.length - (intOf i).toNat)
        case atStart => exact ⟨0, 0, Nat.zero_le _, rfl, by rw [HLI.out.dep0]; rfl, by rw [HLI.out.off0]; rfl, by rw [HLI.out.off0]; rfl, fun _ => Nat.zero_le _, fun _ => rfl⟩
        case round =>
          obtain ⟨k, j, hk, rfl, rfl, rfl, rfl, hj1, hj2⟩ := hrel
          by_cases hlt : k < m
          · have la := HLI.out.at_ k hlt
            have hgd0 := HLI.out.good k hlt
            have hst0 := HLI.out.step k hlt
            have hdn := HLI.out.down k hlt
            have hj := hj1 hlt
            clear hj1 hj2
            obtain ⟨sp, tx, nl, fits⟩ := la
            have hst := Lib.hid hst0
            obtain ⟨hd1, hd2, hd3⟩ := hdn
            have hdn3 := Lib.hid hd3
            have hgl := Lib.hid hgd0
            clear hd3 hgd0 hst0
            revert hst hdn3 hgl sp tx nl fits hj hd1 hd2
            generalize ho : off k = o
            generalize hdd : d k = dd
            generalize htt : s k = t
            generalize hdk : dep k = dk
            intro hj sp tx nl fits hst hd1 hd2 hdn3 hgl
            have HO := Lib.hid ho
            have HDD := Lib.hid hdd
            have HTT := Lib.hid htt
            have HDK := Lib.hid hdk
            clear ho hdd htt hdk
            have hd2a : dd + dn t ≤ dk := by omega
            have hd2b : dk ≤ dd + dn t := by omega
            clear hd2 hd1
            have hoj : o + j < L.length := by omega
            by_cases je : j = 2 * dd + t.length
            · have hb : ((((⟨L.toArray⟩ : ByteArray)[o + j]'(show o + j < L.length from hoj)).toNat : Int) != 10) = false := by rw [byte_at, je, ← Nat.add_assoc, nl]; rfl
              have je1 : 2 * dd + t.length ≤ j := by omega
              clear je nl
              go_upto_region 20 with fail
              obtain ⟨T, hT⟩ : ∃ T, T = (⟨L.toArray⟩ : ByteArray).extract o (o + j) := ⟨_, rfl⟩
              have hTs : T.size = 2 * dd + t.length := by rw [hT, ByteArray.size_extract]; show min (o + j) L.length - o = _; omega
              have hTb : ∀ x (hx : x < T.size), T[x] = L.getD (o + x) 0 := fun x hx => by subst hT; exact byte_cut hx
              rw [← hT]
              clear hT hb
              obtain ⟨e, he⟩ : ∃ e, e = 2 * dd := ⟨_, rfl⟩
              have e1 : e ≤ 2 * dd := by omega
              have e2 : 2 * dd ≤ e := by omega
              have ht1 : 1 ≤ t.length := by cases ht : t with
                | nil => exact absurd ht hgl.out.ne
                | cons a r => simp
              have hs1 : e + t.length ≤ T.size := by omega
              have hs2 : T.size ≤ e + t.length := by omega
              obtain ⟨z, hzz⟩ : ∃ z, z + 1 = T.size := ⟨T.size - 1, by omega⟩
              have hz : z < T.size := by omega
              have hez : e < T.size := by omega
              have bs : ∀ x (hx : x < T.size), x < e → (((T[x]'hx).toNat : Int) == 32) = true := fun x hx h => byte_yes (by rw [hTb x hx, sp x (by omega)]; rfl)
              have be0 : T[e]'hez = t.getD 0 0 := by rw [hTb e hez, he]; have := tx 0 (by omega); rwa [Nat.add_zero] at this
              have bz : T[z]'hz = t.getD (t.length - 1) 0 := by rw [hTb z hz, show o + z = o + 2 * dd + (t.length - 1) by omega]; exact tx _ (by omega)
              have b0 : (((T[e]'hez).toNat : Int) == 32) = false := byte_no (by rw [be0]; exact hgl.out.bl)
              have hlast : t.getLast? = some 123 ↔ t.getD (t.length - 1) 0 = 123 := by
                rw [List.getLast?_eq_getElem?, List.getD_eq_getElem?_getD, List.getElem?_eq_getElem (by omega : t.length - 1 < t.length)]; simp
              have HLA := Lib.hid hlast
              have hz0 : (0 : Int) ≤ (T.size : Int) - 1 := by omega
              have hz1 : ((T.size : Int) - 1).toNat = z := by omega
              have HBS := Lib.hid bs
              have HE0 := Lib.hid be0
              have HZZ := Lib.hid bz
              clear hTs hTb he hzz bs tx sp hlast be0 bz
              go_wp2
              go_loop [13] (fun b => ∃ x : Nat, x ≤ e ∧ b = .int .i64 x) (fun b => e - (intOf b).toNat)
              case atStart => exact ⟨0, Nat.zero_le _, rfl⟩
              case round =>
                obtain ⟨x, hx, rfl⟩ := hrel
                by_cases hxe : x < e
                · have hxs : x < T.size := by omega
                  have bx := HBS.out x hxs hxe
                  go_wp2
                  go_round
                  case rel => exact ⟨x + 1, by omega, by go_num⟩
                  case measure => simp [intOf]; omega
                · obtain rfl : x = e := by omega
                  have bl : ((x : Int) == (T.size : Int)) = false := by simp only [beq_eq_false_iff_ne]; omega
                  by_cases q5 : t.getD 0 0 = 125
                  · have be : (((T[x]'hez).toNat : Int) == 125) = true := byte_yes (by rw [HE0.out, q5]; rfl)
                    by_cases q3 : t.getLast? = some 123
                    · have q4 := HLA.out.1 q3
                      have HD := Lib.hid (show dn t = 1 from if_pos q5)
                      have HU := Lib.hid (show up t = 1 from if_pos q3)
                      rw [HD.out] at hd2a hd2b
                      have b3 : (((T[z]'hz).toNat : Int) == 123) = true := byte_yes (by rw [HZZ.out, q4]; rfl)
                      have bd : ((x : Int) != 2 * ((dk : Int) - 1)) = false := by simp only [bne_eq_false_iff_eq]; omega
                      clear q3 q4 q5
                      go_wp2
                      go_round
                      case rel => exact ⟨k + 1, 0, by omega, by go_num, by rw [hdn3.out, HD.out, HU.out]; go_num, by rw [hst.out]; go_num, by rw [hst.out]; go_num, fun _ => Nat.zero_le _, fun _ => rfl⟩
                      case measure => simp [intOf]; omega
                    · have q4 : ¬ t.getD (t.length - 1) 0 = 123 := fun h => q3 (HLA.out.2 h)
                      have HD := Lib.hid (show dn t = 1 from if_pos q5)
                      have HU := Lib.hid (show up t = 0 from if_neg q3)
                      rw [HD.out] at hd2a hd2b
                      have b3 : (((T[z]'hz).toNat : Int) == 123) = false := byte_no (by rw [HZZ.out]; exact q4)
                      have bd : ((x : Int) != 2 * ((dk : Int) - 1)) = false := by simp only [bne_eq_false_iff_eq]; omega
                      clear q3 q4 q5
                      go_wp2
                      go_round
                      case rel => exact ⟨k + 1, 0, by omega, by go_num, by rw [hdn3.out, HD.out, HU.out]; go_num, by rw [hst.out]; go_num, by rw [hst.out]; go_num, fun _ => Nat.zero_le _, fun _ => rfl⟩
                      case measure => simp [intOf]; omega
                  · have be : (((T[x]'hez).toNat : Int) == 125) = false := byte_no (by rw [HE0.out]; exact q5)
                    by_cases q3 : t.getLast? = some 123
                    · have q4 := HLA.out.1 q3
                      have HD := Lib.hid (show dn t = 0 from if_neg q5)
                      have HU := Lib.hid (show up t = 1 from if_pos q3)
                      rw [HD.out] at hd2a hd2b
                      have b3 : (((T[z]'hz).toNat : Int) == 123) = true := byte_yes (by rw [HZZ.out, q4]; rfl)
                      have bd : ((x : Int) != 2 * (dk : Int)) = false := by simp only [bne_eq_false_iff_eq]; omega
                      clear q3 q4 q5
                      go_wp2
                      go_round
                      case rel => exact ⟨k + 1, 0, by omega, by go_num, by rw [hdn3.out, HD.out, HU.out]; go_num, by rw [hst.out]; go_num, by rw [hst.out]; go_num, fun _ => Nat.zero_le _, fun _ => rfl⟩
                      case measure => simp [intOf]; omega
                    · have q4 : ¬ t.getD (t.length - 1) 0 = 123 := fun h => q3 (HLA.out.2 h)
                      have HD := Lib.hid (show dn t = 0 from if_neg q5)
                      have HU := Lib.hid (show up t = 0 from if_neg q3)
                      rw [HD.out] at hd2a hd2b
                      have b3 : (((T[z]'hz).toNat : Int) == 123) = false := byte_no (by rw [HZZ.out]; exact q4)
                      have bd : ((x : Int) != 2 * (dk : Int)) = false := by simp only [bne_eq_false_iff_eq]; omega
                      clear q3 q4 q5
                      go_wp2
                      go_round
                      case rel => exact ⟨k + 1, 0, by omega, by go_num, by rw [hdn3.out, HD.out, HU.out]; go_num, by rw [hst.out]; go_num, by rw [hst.out]; go_num, fun _ => Nat.zero_le _, fun _ => rfl⟩
                      case measure => simp [intOf]; omega
            · have hb : ((((⟨L.toArray⟩ : ByteArray)[o + j]'(show o + j < L.length from hoj)).toNat : Int) != 10) = true := by
                rw [byte_at]
                have hne : L.getD (o + j) 0 ≠ 10 := by
                  by_cases h2 : j < 2 * dd
                  · rw [sp j h2]; decide
                  · have e := tx (j - 2 * dd) (by omega)
                    rw [show o + 2 * dd + (j - 2 * dd) = o + j by omega] at e
                    rw [e]
                    exact fun h10 => hgl.out.nl (by rw [← h10, List.getD_eq_getElem?_getD, List.getElem?_eq_getElem (by omega : j - 2 * dd < t.length)]; exact List.getElem_mem _)
                have : (L.getD (o + j) 0).toNat ≠ 10 := fun h => hne (UInt8.toNat_inj.1 h)
                simp only [bne_iff_ne, ne_eq]; omega
              clear sp tx nl
              go_wp2
              go_round
              case rel => exact ⟨k, j + 1, by omega, rfl, by rw [HDK.out], by rw [HO.out], by rw [HO.out]; go_num, fun _ => by rw [HDD.out, HTT.out]; omega, fun h => absurd h (by omega)⟩
              case measure => simp [intOf]; omega
          · obtain rfl : k = m := by omega
            obtain rfl := hj2 rfl
            rw [HLI.out.depm, HLI.out.offm, Nat.add_zero]
            go_wp2
            go_ret
            exact ⟨rfl, hW⟩
theorem linesL (p : PrD) (wa fa : Option Addr) (wc fc : Nat) (w : World) (hp : PrOk w w.heap.size p wa fa) (ht : Pow10 w) :
    Calls Tryd.prog 10 #[prV p wa fa wc fc] w fun e w' => e = .returned (.bool true) ∧ Below w.heap.size w w' := by
  by_cases he : (printD p).2.e = 0
  · exact lines_ok p wa fa wc fc w hp ht he
  · exact lines_bad p wa fa wc fc w hp ht he
end Go.Proofs.YtdddppmfeoebgaaDoor
