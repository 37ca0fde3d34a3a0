/-
  Layer 2 (tree): the walk of the law's own turned: one statement of a row in blocks of its own loses its kind.
-/
import Derived.Test.YtdddppmfeoebgaaDoorOwnW
import Derived.Deep.CutBlock
namespace Go.Proofs.YtdddppmfeoebgaaDoor
open Go.RowKit
set_option linter.unusedSimpArgs false
set_option linter.unusedVariables false
theorem mk_cases (k : Int) (s : ByteArray) (n : Int) (a b : ExD) (bo el : List StD) (ca : List CaD) : StD.cases (.mk k s n a b bo el ca) = ca := rfl
def TnPost (lo hi g bx : Nat) (v : Int) (l : List StD) (w : World) (e : Ending) (w' : World) : Prop := e = .returned (.tuple #[]) ∧ StsOwn w' lo hi g l ∧ Whl w' bx 3 #[.int .i64 v] ∧ Mod (fun b => (lo ≤ b ∧ b < hi) ∨ b = bx) w w'
def TnAt (w0 : World) (B0 N : Nat) : Prop := ∀ (l : List StD) (lo hi g bx c t : Nat) (v at_ : Int) (w : World), SizeOf.sizeOf l < N → StsWf w0 B0 l → StsOwn w lo hi g l → hi ≤ w.heap.size → (bx < lo ∨ hi ≤ bx) → v = (c : Int) → Whl w bx 3 #[.int .i64 v] → t = (at_ - (c : Int)).toNat → c + numSs l ≤ 1000000 →
    Calls Tryd.prog 21 #[.slice (some ⟨g, 0, none⟩) l.length (l.length + 1), .int .i64 at_, .pointer (some ⟨bx, 0, none⟩)] w (TnPost lo hi g bx ((c + numSs l : Nat) : Int) (brkSs l t) w)
set_option maxRecDepth 100000 in
set_option maxHeartbeats 8000000 in
theorem turnedN (w0 : World) (B0 N : Nat) : TnAt w0 B0 N := by
  induction N with
  | zero => intro l lo hi g bx c t v at_ w hN; omega
  | succ N ih =>
    intro l lo hi g bx c t v at_ w hN hwf hs hhi hout hv hbx ht hc
    subst hv
    have IH := Lib.hid ih
    have HS0 := Lib.hid hs
    have HW := Lib.hid hwf
    have HT := Lib.hid ht
    have HB0 := Lib.hid hbx
    have hlen := len_num l
    have HOUT := Lib.hid hout
    clear ih hs hwf ht hbx hout
    go_enter Tryd.func21, Tryd.ntmps21
    (try simp only [List.append_eq, List.cons_append, List.nil_append])
    go_wp2
    go_loopw [10] (fun i W => ∃ k : Nat, k ≤ l.length ∧ i = .int .i64 k ∧ StsOwn W lo hi g (mixS l t k) ∧ Whl W bx 3 #[.int .i64 ((c + numSs (l.take k) : Nat) : Int)] ∧ Mod (fun b => (lo ≤ b ∧ b < hi) ∨ b = bx) w W) (fun i _ => l.length - (intOf i).toNat)
    case atStart => exact ⟨0, Nat.zero_le _, rfl, by rw [mixS_0]; exact HS0.out, by simpa [numSs] using HB0.out, Mod.refl _ _⟩
    case round =>
      obtain ⟨k, hk, rfl, hs, hbx, hM⟩ := hrel
      have hMs := hM.size
      by_cases hlt : k < l.length
      · have hout := HOUT.out
        obtain ⟨ch, cb, iv, lc, hc', HO⟩ := hs.opened
        have hml := mixS_len t hk
        have hkm : k < (mixS l t k).length := by omega
        have hat := mixS_at t hlt
        have hnx : Hid (mixS l t (k + 1) = (mixS l t k).set k (brkS (nthS l k) (t - numSs (l.take k)))) := Lib.hid (mixS_succ t hlt)
        have hsn := Lib.hid (numSs_snoc hlt)
        have hcut := numSs_cut l (k + 1)
        have hne := numS_eq (nthS l k)
        rw [hsn.out, hne] at hcut
        have hsz : SizeOf.sizeOf (nthS l k) < SizeOf.sizeOf l := getD_size _ hlt
        have sb := body_size (nthS l k)
        have se := els_size (nthS l k)
        have sc := cases_size (nthS l k)
        obtain @⟨_, wlen, wwf, wea, web, wbody, wels, wclen, wcwf, wcbody⟩ := HW.out
        have WB := Lib.hid (wbody k hlt)
        have WE := Lib.hid (wels k hlt)
        have WC := Lib.hid (wcbody k hlt)
        have wcl := wclen k hlt
        clear wlen wwf wea web wbody wels wclen wcwf wcbody
        have HBK := Lib.hid (brkS_eq (nthS l k) (t - numSs (l.take k)))
        obtain ⟨ck, hck, hck0, hck1⟩ : ∃ ck : Int, ((c + numSs (l.take k) : Nat) : Int) = ck ∧ 0 ≤ ck ∧ ck ≤ 999999 := ⟨_, rfl, by omega, by omega⟩
        rw [hck] at hbx
        have HCK := Lib.hid hck
        clear hck
        have hbl := hbx.lt
        have hbc : wr.cell? ⟨bx, 0, none⟩ = some (.int .i64 ck) := hbx.cell 0
        have hbz := hbx.frozen 0
        have hgl := HO.row.lt
        have hgz : wr.frozen? ⟨g, k * 14, none⟩ = false := HO.row.frozen _
        have hg0 : wr.cell? ⟨g, k * 14, none⟩ = some (.int .i64 (nthS l k).kind) := (HO.row.cell _).trans (by rw [List.getElem?_toArray, List.getElem?_append_left (by rw [stRow_len]; omega)]; have := stRow_get (l := mixS l t k) (ch := ch) hkm (j := 0) (by omega); rwa [Nat.add_zero, hat] at this)
        have O := HO.ord k hkm
        have lol := HO.low
        have hil := HO.lt
        obtain ⟨o0, o1, o2, o3, o4, o5, o6, o7, o8, o9, o10, o11⟩ := O
        have hne2 : g ≠ bx := by omega
        have hne3 : bx ≠ g := by omega
        have HTK : Hid (t - numSs (l.take k) = (at_ - ck).toNat) := Lib.hid (by rw [HT.out, ← HCK.out]; omega)
        have HHO := Lib.hid HO
        have HHB := Lib.hid hbx
        have hhw : hi ≤ wr.heap.size := by omega
        clear hs HO hbx
        obtain ⟨T, hTT⟩ : ∃ T, t - numSs (l.take k) = T := ⟨_, rfl⟩
        rw [hTT] at HTK HBK hnx
        have HTT := Lib.hid hTT
        have HMM := Lib.hid hM
        clear hTT hM
        by_cases hit : T = 1
        · have hq : ((ck + 1 : Int) == at_) = true := by have := HTK.out; simp; omega
          have M0 := TMid.hit HHO.out hkm HHB.out hout (ck + 1)
          rw [hat] at M0
          have HKD : Hid ((0 : Int) = if T = 1 then 0 else (nthS l k).kind) := Lib.hid (by rw [if_pos hit])
          have HM0 := Lib.hid M0
          clear M0 hit
          go_upto_region 6 with fail
          have M1 := HM0.out
          clear HM0
          generalize ((wr.setCell ⟨bx, 0, none⟩ (.int .i64 (ck + 1))).setCell ⟨g, k * 14, none⟩ (.int .i64 0)) = W1 at M1 ⊢
          obtain ⟨kd, hkd⟩ : ∃ kd : Int, kd = 0 := ⟨_, rfl⟩
          rw [← hkd] at M1
          have HKD : Hid (kd = if T = 1 then 0 else (nthS l k).kind) := Lib.hid (by rw [hkd]; exact HKD.out)
          clear hkd
          obtain ⟨wo, rfl⟩ : ∃ wo : World, wo = wr := ⟨_, rfl⟩
          clear hbc hbz hgz hg0 hbl hgl hq hat
          generalize nthS l k = x at M1 HKD HBK hnx hsz sb se sc WB WE WC wcl hcut hne hsn ⊢
          have hs1 := M1.mod.size
          have c11 : W1.cell? ⟨g, k * 14 + 11, none⟩ = some (.slice (some ⟨(ch k).body, 0, none⟩) x.body.length (x.body.length + 1)) := (M1.cells hkm).1
          have lg1 := M1.row.lt
          have HM1 := Lib.hid M1
          clear M1
          go_upto_region 7 with (go_at_call 21; go_must (refine (IH.out x.body _ _ _ bx (c + numSs (l.take k) + 1) (T - 1) _ at_ _ (by omega) WB.out HM1.out.pop.body (by omega) (by omega) (by rw [← HCK.out]; omega) HM1.out.box (by rw [HTK.out, ← HCK.out]; omega) (by omega)).mono ?_; rintro e W2 ⟨rfl, s2, b2, m2⟩))
          have M2 : TMid wo W2 lo hi g bx (mixS l t k) ch cb iv lc hc' k (.mk kd x.name x.n x.a x.b (brkSs x.body (T - 1)) x.els x.cases) ((c + numSs (l.take k) + 1 + numSs x.body : Nat) : Int) := HM1.out.body HHO.out hkm (by omega) hout (brkSs_len _ _) s2 b2 m2
          clear s2 b2 m2 c11 lg1 HM1 hs1
          have c13 : W2.cell? ⟨g, k * 14 + 13, none⟩ = some (.slice (some ⟨(ch k).cases, 0, none⟩) x.cases.length (x.cases.length + 1)) := (M2.cells hkm).2.2
          have lg1 := M2.row.lt
          have HM2 := Lib.hid M2
          clear M2
          go_wp2
          clear c13 lg1
          go_loopw [41] (fun i W => ∃ j : Nat, j ≤ x.cases.length ∧ i = .int .i64 j ∧ Hid (TMid wo W lo hi g bx (mixS l t k) ch cb iv lc hc' k (.mk kd x.name x.n x.a x.b (brkSs x.body (T - 1)) x.els (mixC x.cases (T - 1 - numSs x.body) j)) ((c + numSs (l.take k) + 1 + numSs x.body + numCs (x.cases.take j) : Nat) : Int))) (fun i _ => x.cases.length - (intOf i).toNat)
          case atStart => exact ⟨0, Nat.zero_le _, rfl, Lib.hid (by rw [mixC_0]; simpa [numCs] using HM2.out)⟩
          case round =>
            clear HM2
            obtain ⟨j, hj, rfl, HM2⟩ := hrel
            have hs2 := HM2.out.mod.size
            by_cases hjt : j < x.cases.length
            · have hml2 := mixC_len (l := x.cases) (T - 1 - numSs x.body) hj
              have hat2 := mixC_at (l := x.cases) (T - 1 - numSs x.body) hjt
              have c13 : wr.cell? ⟨g, k * 14 + 13, none⟩ = some (.slice (some ⟨(ch k).cases, 0, none⟩) x.cases.length (x.cases.length + 1)) := by have h := (HM2.out.cells hkm).2.2; simp only [mk_cases, hml2] at h; exact h
              have cc : wr.cell? ⟨(ch k).cases, j * 2 + 1, none⟩ = some (.slice (some ⟨cb k j, 0, none⟩) (nthC x.cases j).body.length ((nthC x.cases j).body.length + 1)) := by have h := HM2.out.case (j := j) (by simp only [mk_cases, hml2]; exact hjt); simp only [mk_cases, hat2] at h; exact h
              have lg1 := HM2.out.row.lt
              have lg2 := HM2.out.pop.crow.lt
              have ci := HM2.out.pop.cinto j (by simp only [mk_cases, hml2]; exact hjt)
              have ob : StsOwn wr (lc k j) (hc' k j) (cb k j) (nthC x.cases j).body := by have h := HM2.out.pop.cbody j (by simp only [mk_cases, hml2]; exact hjt); simp only [mk_cases, hat2] at h; exact h
              have HOB := Lib.hid ob
              have hcs2 := Lib.hid (numCs_snoc hjt)
              have hce2 := Lib.hid (numC_eq (nthC x.cases j))
              have hcc := numCs_cut x.cases (j + 1)
              rw [hcs2.out, hce2.out] at hcc
              have s1 : SizeOf.sizeOf (nthC x.cases j) < SizeOf.sizeOf x.cases := getD_size _ hjt
              have s2 := cbody_size (nthC x.cases j)
              have hle := ob.le
              have HML := Lib.hid hml2
              have HAT := Lib.hid hat2
              clear hml2 hat2 ob
              go_wp2_with (go_at_call 21; go_must (refine (IH.out (nthC x.cases j).body _ _ _ bx (c + numSs (l.take k) + 1 + numSs x.body + numCs (x.cases.take j)) (T - 1 - numSs x.body - numCs (x.cases.take j)) _ at_ _ (by omega) (WC.out j hjt) HOB.out (by omega) (by omega) rfl HM2.out.box (by rw [HTK.out, ← HCK.out]; omega) (by omega)).mono ?_; rintro e W3 ⟨rfl, s3, b3, m3⟩))
              have M3 := HM2.out.caseOf HHO.out hkm (by omega) hout (j := j) (by simp only [mk_cases, HML.out]; exact hjt) (l := brkSs (nthC x.cases j).body (T - 1 - numSs x.body - numCs (x.cases.take j))) (by simp only [mk_cases, HAT.out, brkSs_len]) s3 b3 m3
              have HM3 : Hid (TMid wo W3 lo hi g bx (mixS l t k) ch cb iv lc hc' k (.mk kd x.name x.n x.a x.b (brkSs x.body (T - 1)) x.els (mixC x.cases (T - 1 - numSs x.body) (j + 1))) ((c + numSs (l.take k) + 1 + numSs x.body + numCs (x.cases.take (j + 1)) : Nat) : Int)) := Lib.hid (by
                rw [mixC_succ _ hjt, brkC_eq, hcs2.out, hce2.out, ← Nat.add_assoc]
                simp only [mk_cases, HAT.out] at M3
                exact M3)
              clear M3 s3 b3 m3 c13 cc
              go_roundw
              case rel =>
                have hfin := (⟨j + 1, by omega, by go_num, HM3⟩ : ∃ j' : Nat, j' ≤ x.cases.length ∧ Value.int .i64 ((j : Int) + 1) = .int .i64 j' ∧ Hid (TMid wo W3 lo hi g bx (mixS l t k) ch cb iv lc hc' k (.mk kd x.name x.n x.a x.b (brkSs x.body (T - 1)) x.els (mixC x.cases (T - 1 - numSs x.body) j')) ((c + numSs (l.take k) + 1 + numSs x.body + numCs (x.cases.take j') : Nat) : Int)))
                first | exact hfin | ((repeat apply Exists.intro); exact ⟨hfin, rfl⟩)
              case measure => first | (simp [intOf]; done) | (simp [intOf]; omega)
            · obtain rfl : j = x.cases.length := by omega
              have M3 := HM2.out
              rw [mixC_all, List.take_length] at M3
              have HM3 := Lib.hid M3
              clear M3 HM2
              have c12 : wr.cell? ⟨g, k * 14 + 12, none⟩ = some (.slice (some ⟨(ch k).els, 0, none⟩) x.els.length (x.els.length + 1)) := (HM3.out.cells hkm).2.1
              have lg1 := HM3.out.row.lt
              go_wp2_with (go_at_call 21; go_must (refine (IH.out x.els _ _ _ bx (c + numSs (l.take k) + 1 + numSs x.body + numCs x.cases) (T - 1 - numSs x.body - numCs x.cases) _ at_ _ (by omega) WE.out HM3.out.pop.els (by omega) (by omega) rfl HM3.out.box (by rw [HTK.out, ← HCK.out]; omega) (by omega)).mono ?_; rintro e W4 ⟨rfl, s4, b4, m4⟩))
              have M4 : TMid wo W4 lo hi g bx (mixS l t k) ch cb iv lc hc' k (.mk kd x.name x.n x.a x.b (brkSs x.body (T - 1)) (brkSs x.els (T - 1 - numSs x.body - numCs x.cases)) (brkCs x.cases (T - 1 - numSs x.body))) ((c + numSs (l.take k) + 1 + numSs x.body + numCs x.cases + numSs x.els : Nat) : Int) := HM3.out.els HHO.out hkm (by omega) hout (brkSs_len _ _) s4 b4 m4
              clear s4 b4 m4
              have hbk := HBK.out
              rw [← HKD.out] at hbk
              rw [← hbk] at M4
              have hS : Hid (StsOwn W4 lo hi g (mixS l t (k + 1))) := Lib.hid (by rw [hnx.out]; exact M4.fin HHO.out hkm hhw hout)
              have hB : Hid (Whl W4 bx 3 #[.int .i64 ((c + numSs (l.take (k + 1)) : Nat) : Int)]) := Lib.hid (by have := M4.box; rw [hsn.out, hne]; rwa [show c + (numSs (l.take k) + (1 + numSs x.body + numCs x.cases + numSs x.els)) = c + numSs (l.take k) + 1 + numSs x.body + numCs x.cases + numSs x.els by omega])
              have hMM := HMM.out.trans (M4.mod' HHO.out hkm)
              clear M4 hbk c12
              go_roundw
              case rel =>
                have hfin := (⟨k + 1, by omega, by go_num, hS.out, hB.out, hMM⟩ : ∃ k' : Nat, k' ≤ l.length ∧ Value.int .i64 ((k : Int) + 1) = .int .i64 k' ∧ StsOwn W4 lo hi g (mixS l t k') ∧ Whl W4 bx 3 #[.int .i64 ((c + numSs (l.take k') : Nat) : Int)] ∧ Mod (fun b => (lo ≤ b ∧ b < hi) ∨ b = bx) w W4)
                first | exact hfin | ((repeat apply Exists.intro); exact ⟨hfin, rfl⟩)
              case measure => first | (simp [intOf]; done) | (simp [intOf]; omega)
        · have hq : ((ck + 1 : Int) == at_) = false := by have := HTK.out; simp; omega
          have M0 := TMid.no HHO.out hkm HHB.out hout (ck + 1)
          rw [hat] at M0
          have HKD : Hid ((nthS l k).kind = if T = 1 then 0 else (nthS l k).kind) := Lib.hid (by rw [if_neg hit])
          have HM0 : Hid (TMid wr (wr.setCell ⟨bx, 0, none⟩ (.int .i64 (ck + 1))) lo hi g bx (mixS l t k) ch cb iv lc hc' k (.mk (nthS l k).kind (nthS l k).name (nthS l k).n (nthS l k).a (nthS l k).b (nthS l k).body (nthS l k).els (nthS l k).cases) (ck + 1)) := Lib.hid (by
            have e : StD.mk (nthS l k).kind (nthS l k).name (nthS l k).n (nthS l k).a (nthS l k).b (nthS l k).body (nthS l k).els (nthS l k).cases = nthS l k := by cases nthS l k; rfl
            rw [e]; exact M0)
          clear M0 hit
          go_upto_region 6 with fail
          have M1 := HM0.out
          clear HM0
          generalize (wr.setCell ⟨bx, 0, none⟩ (.int .i64 (ck + 1))) = W1 at M1 ⊢
          obtain ⟨kd, hkd⟩ : ∃ kd : Int, kd = (nthS l k).kind := ⟨_, rfl⟩
          rw [← hkd] at M1
          have HKD : Hid (kd = if T = 1 then 0 else (nthS l k).kind) := Lib.hid (by rw [hkd]; exact HKD.out)
          clear hkd
          obtain ⟨wo, rfl⟩ : ∃ wo : World, wo = wr := ⟨_, rfl⟩
          clear hbc hbz hgz hg0 hbl hgl hq hat
          generalize nthS l k = x at M1 HKD HBK hnx hsz sb se sc WB WE WC wcl hcut hne hsn ⊢
          have hs1 := M1.mod.size
          have c11 : W1.cell? ⟨g, k * 14 + 11, none⟩ = some (.slice (some ⟨(ch k).body, 0, none⟩) x.body.length (x.body.length + 1)) := (M1.cells hkm).1
          have lg1 := M1.row.lt
          have HM1 := Lib.hid M1
          clear M1
          go_upto_region 7 with (go_at_call 21; go_must (refine (IH.out x.body _ _ _ bx (c + numSs (l.take k) + 1) (T - 1) _ at_ _ (by omega) WB.out HM1.out.pop.body (by omega) (by omega) (by rw [← HCK.out]; omega) HM1.out.box (by rw [HTK.out, ← HCK.out]; omega) (by omega)).mono ?_; rintro e W2 ⟨rfl, s2, b2, m2⟩))
          have M2 : TMid wo W2 lo hi g bx (mixS l t k) ch cb iv lc hc' k (.mk kd x.name x.n x.a x.b (brkSs x.body (T - 1)) x.els x.cases) ((c + numSs (l.take k) + 1 + numSs x.body : Nat) : Int) := HM1.out.body HHO.out hkm (by omega) hout (brkSs_len _ _) s2 b2 m2
          clear s2 b2 m2 c11 lg1 HM1 hs1
          have c13 : W2.cell? ⟨g, k * 14 + 13, none⟩ = some (.slice (some ⟨(ch k).cases, 0, none⟩) x.cases.length (x.cases.length + 1)) := (M2.cells hkm).2.2
          have lg1 := M2.row.lt
          have HM2 := Lib.hid M2
          clear M2
          go_wp2
          clear c13 lg1
          go_loopw [41] (fun i W => ∃ j : Nat, j ≤ x.cases.length ∧ i = .int .i64 j ∧ Hid (TMid wo W lo hi g bx (mixS l t k) ch cb iv lc hc' k (.mk kd x.name x.n x.a x.b (brkSs x.body (T - 1)) x.els (mixC x.cases (T - 1 - numSs x.body) j)) ((c + numSs (l.take k) + 1 + numSs x.body + numCs (x.cases.take j) : Nat) : Int))) (fun i _ => x.cases.length - (intOf i).toNat)
          case atStart => exact ⟨0, Nat.zero_le _, rfl, Lib.hid (by rw [mixC_0]; simpa [numCs] using HM2.out)⟩
          case round =>
            clear HM2
            obtain ⟨j, hj, rfl, HM2⟩ := hrel
            have hs2 := HM2.out.mod.size
            by_cases hjt : j < x.cases.length
            · have hml2 := mixC_len (l := x.cases) (T - 1 - numSs x.body) hj
              have hat2 := mixC_at (l := x.cases) (T - 1 - numSs x.body) hjt
              have c13 : wr.cell? ⟨g, k * 14 + 13, none⟩ = some (.slice (some ⟨(ch k).cases, 0, none⟩) x.cases.length (x.cases.length + 1)) := by have h := (HM2.out.cells hkm).2.2; simp only [mk_cases, hml2] at h; exact h
              have cc : wr.cell? ⟨(ch k).cases, j * 2 + 1, none⟩ = some (.slice (some ⟨cb k j, 0, none⟩) (nthC x.cases j).body.length ((nthC x.cases j).body.length + 1)) := by have h := HM2.out.case (j := j) (by simp only [mk_cases, hml2]; exact hjt); simp only [mk_cases, hat2] at h; exact h
              have lg1 := HM2.out.row.lt
              have lg2 := HM2.out.pop.crow.lt
              have ci := HM2.out.pop.cinto j (by simp only [mk_cases, hml2]; exact hjt)
              have ob : StsOwn wr (lc k j) (hc' k j) (cb k j) (nthC x.cases j).body := by have h := HM2.out.pop.cbody j (by simp only [mk_cases, hml2]; exact hjt); simp only [mk_cases, hat2] at h; exact h
              have HOB := Lib.hid ob
              have hcs2 := Lib.hid (numCs_snoc hjt)
              have hce2 := Lib.hid (numC_eq (nthC x.cases j))
              have hcc := numCs_cut x.cases (j + 1)
              rw [hcs2.out, hce2.out] at hcc
              have s1 : SizeOf.sizeOf (nthC x.cases j) < SizeOf.sizeOf x.cases := getD_size _ hjt
              have s2 := cbody_size (nthC x.cases j)
              have hle := ob.le
              have HML := Lib.hid hml2
              have HAT := Lib.hid hat2
              clear hml2 hat2 ob
              go_wp2_with (go_at_call 21; go_must (refine (IH.out (nthC x.cases j).body _ _ _ bx (c + numSs (l.take k) + 1 + numSs x.body + numCs (x.cases.take j)) (T - 1 - numSs x.body - numCs (x.cases.take j)) _ at_ _ (by omega) (WC.out j hjt) HOB.out (by omega) (by omega) rfl HM2.out.box (by rw [HTK.out, ← HCK.out]; omega) (by omega)).mono ?_; rintro e W3 ⟨rfl, s3, b3, m3⟩))
              have M3 := HM2.out.caseOf HHO.out hkm (by omega) hout (j := j) (by simp only [mk_cases, HML.out]; exact hjt) (l := brkSs (nthC x.cases j).body (T - 1 - numSs x.body - numCs (x.cases.take j))) (by simp only [mk_cases, HAT.out, brkSs_len]) s3 b3 m3
              have HM3 : Hid (TMid wo W3 lo hi g bx (mixS l t k) ch cb iv lc hc' k (.mk kd x.name x.n x.a x.b (brkSs x.body (T - 1)) x.els (mixC x.cases (T - 1 - numSs x.body) (j + 1))) ((c + numSs (l.take k) + 1 + numSs x.body + numCs (x.cases.take (j + 1)) : Nat) : Int)) := Lib.hid (by
                rw [mixC_succ _ hjt, brkC_eq, hcs2.out, hce2.out, ← Nat.add_assoc]
                simp only [mk_cases, HAT.out] at M3
                exact M3)
              clear M3 s3 b3 m3 c13 cc
              go_roundw
              case rel =>
                have hfin := (⟨j + 1, by omega, by go_num, HM3⟩ : ∃ j' : Nat, j' ≤ x.cases.length ∧ Value.int .i64 ((j : Int) + 1) = .int .i64 j' ∧ Hid (TMid wo W3 lo hi g bx (mixS l t k) ch cb iv lc hc' k (.mk kd x.name x.n x.a x.b (brkSs x.body (T - 1)) x.els (mixC x.cases (T - 1 - numSs x.body) j')) ((c + numSs (l.take k) + 1 + numSs x.body + numCs (x.cases.take j') : Nat) : Int)))
                first | exact hfin | ((repeat apply Exists.intro); exact ⟨hfin, rfl⟩)
              case measure => first | (simp [intOf]; done) | (simp [intOf]; omega)
            · obtain rfl : j = x.cases.length := by omega
              have M3 := HM2.out
              rw [mixC_all, List.take_length] at M3
              have HM3 := Lib.hid M3
              clear M3 HM2
              have c12 : wr.cell? ⟨g, k * 14 + 12, none⟩ = some (.slice (some ⟨(ch k).els, 0, none⟩) x.els.length (x.els.length + 1)) := (HM3.out.cells hkm).2.1
              have lg1 := HM3.out.row.lt
              go_wp2_with (go_at_call 21; go_must (refine (IH.out x.els _ _ _ bx (c + numSs (l.take k) + 1 + numSs x.body + numCs x.cases) (T - 1 - numSs x.body - numCs x.cases) _ at_ _ (by omega) WE.out HM3.out.pop.els (by omega) (by omega) rfl HM3.out.box (by rw [HTK.out, ← HCK.out]; omega) (by omega)).mono ?_; rintro e W4 ⟨rfl, s4, b4, m4⟩))
              have M4 : TMid wo W4 lo hi g bx (mixS l t k) ch cb iv lc hc' k (.mk kd x.name x.n x.a x.b (brkSs x.body (T - 1)) (brkSs x.els (T - 1 - numSs x.body - numCs x.cases)) (brkCs x.cases (T - 1 - numSs x.body))) ((c + numSs (l.take k) + 1 + numSs x.body + numCs x.cases + numSs x.els : Nat) : Int) := HM3.out.els HHO.out hkm (by omega) hout (brkSs_len _ _) s4 b4 m4
              clear s4 b4 m4
              have hbk := HBK.out
              rw [← HKD.out] at hbk
              rw [← hbk] at M4
              have hS : Hid (StsOwn W4 lo hi g (mixS l t (k + 1))) := Lib.hid (by rw [hnx.out]; exact M4.fin HHO.out hkm hhw hout)
              have hB : Hid (Whl W4 bx 3 #[.int .i64 ((c + numSs (l.take (k + 1)) : Nat) : Int)]) := Lib.hid (by have := M4.box; rw [hsn.out, hne]; rwa [show c + (numSs (l.take k) + (1 + numSs x.body + numCs x.cases + numSs x.els)) = c + numSs (l.take k) + 1 + numSs x.body + numCs x.cases + numSs x.els by omega])
              have hMM := HMM.out.trans (M4.mod' HHO.out hkm)
              clear M4 hbk c12
              go_roundw
              case rel =>
                have hfin := (⟨k + 1, by omega, by go_num, hS.out, hB.out, hMM⟩ : ∃ k' : Nat, k' ≤ l.length ∧ Value.int .i64 ((k : Int) + 1) = .int .i64 k' ∧ StsOwn W4 lo hi g (mixS l t k') ∧ Whl W4 bx 3 #[.int .i64 ((c + numSs (l.take k') : Nat) : Int)] ∧ Mod (fun b => (lo ≤ b ∧ b < hi) ∨ b = bx) w W4)
                first | exact hfin | ((repeat apply Exists.intro); exact ⟨hfin, rfl⟩)
              case measure => first | (simp [intOf]; done) | (simp [intOf]; omega)
      · obtain rfl : k = l.length := by omega
        have hs2 := Lib.hid hs
        have hb2 := Lib.hid hbx
        clear hs hbx
        go_wp2
        refine end_of ?_ rfl
        exact ⟨_, by simp [results, Tryd.results21, go_sem], rfl, by rw [← mixS_all]; exact hs2.out, by have := hb2.out; rwa [List.take_length] at this, hM⟩
end Go.Proofs.YtdddppmfeoebgaaDoor
