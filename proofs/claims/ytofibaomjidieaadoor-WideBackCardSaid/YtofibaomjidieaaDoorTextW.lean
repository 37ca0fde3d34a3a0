/-
  Layer 7 (wide): the walk of Text of package wide: a number's decimal digits.
-/
import Derived.Test.YtofibaomjidieaaDoorTextP
import Derived.Test.YtofibaomjidieaaDoorAddR
namespace Go.Proofs.YtofibaomjidieaaDoor
open Go.RowKit Go.Shelf
set_option linter.unusedSimpArgs false
set_option linter.unusedVariables false
/-- What is known ahead of each round: the digits of n are those of m and then t. -/
structure TInv (w : World) (n m : Nat) (t : List UInt8) (W : World) : Prop where
  below : Below w.heap.size w W
  box : Whl W w.heap.size 24 #[.int .u64 ((wd m).hi : Int), .int .u64 ((wd m).lo : Int)]
  small : m < 340282366920938463463374607431768211456
  dec : Lib.decDigits n = Lib.decDigits m ++ t
  pos : 1 ≤ m ∨ t = []
theorem Whl.set0 {w : World} {g : Nat} {t : TypeId} {x y u : Value} (h : Whl w g t #[x, y]) : Whl (w.setCell ⟨g, 0, none⟩ u) g t #[u, y] := h.put 0 u
theorem Whl.set1 {w : World} {g : Nat} {t : TypeId} {x y u : Value} (h : Whl w g t #[x, y]) : Whl (w.setCell ⟨g, 1, none⟩ u) g t #[x, u] := h.put 1 u
theorem TInv.len {w W : World} {n m : Nat} {t : List UInt8} (h : TInv w n m t W) : t.length ≤ Lib.nDigits n := by
  have := congrArg List.length h.dec
  rw [Lib.decDigits_length, List.length_append] at this
  omega
def hiOf (w : World) (g : Nat) : Nat := match w.cell? ⟨g, 0, none⟩ with | some v => (intOf v).toNat | none => 0
theorem hiOf_whl {w : World} {g : Nat} {t : TypeId} {x : Nat} {v : Value} (h : Whl w g t #[.int .u64 (x : Int), v]) : hiOf w g = x := by
  have : w.cell? ⟨g, 0, none⟩ = some (.int .u64 (x : Int)) := h.cell 0
  simp [hiOf, this, intOf]
/-- One round of Text: what the division leaves. -/
theorem text_step {hi lo h2 hr q r : Nat} (hh : hi < 18446744073709551616) (hl : lo < 18446744073709551616) (h0 : 1 ≤ hi) (e1 : hi / 10000000000000000000 = h2) (e2 : hi % 10000000000000000000 = hr) (e3 : (hr * 18446744073709551616 + lo) / 10000000000000000000 = q) (e4 : (hr * 18446744073709551616 + lo) % 10000000000000000000 = r) :
    hi * 18446744073709551616 + lo = (h2 * 18446744073709551616 + q) * 10000000000000000000 + r ∧ q < 18446744073709551616 ∧ r < 10000000000000000000 ∧ h2 < hi ∧ 1 ≤ h2 * 18446744073709551616 + q := by
  subst e1 e2 e3 e4
  refine ⟨by omega, by omega, by omega, by omega, by omega⟩
set_option maxHeartbeats 16000000 in
set_option maxRecDepth 100000 in
theorem textP (a : Wd) (ha : a.Wf) (w : World) (ht : Pow10 w) : Calls Tryd.prog 23 #[a.v] w fun e w' => e = .returned (.string (BA (Lib.decDigits a.val))) ∧ Below w.heap.size w w' := by
  have H0 : TInv w a.val a.val [] (w.alloc (.cells #[.int .u64 (a.hi : Int), .int .u64 (a.lo : Int)] 24)) := ⟨below_alloc (Below.refl _ _) _, by rw [wd_of ha]; exact Whl.new _ _ _, val_lt ha, by simp, .inr rfl⟩
  have hnn : Lib.nDigits a.val ≤ 39 := nDigits_le (by omega) (Nat.lt_of_lt_of_le (val_lt ha) (by decide))
  generalize a.val = n at *
  go_enter Tryd.func23, Tryd.ntmps23
  go_upto_block 0 with fail
  go_cut [3] (fun s W => ∃ m t, s = .string (BA t) ∧ TInv w n m t W ∧ (wd m).hi = 0)
  case first =>
    go_wp2_with fail
    go_loopw [3] (fun s wr => ∃ m t, s = .string (BA t) ∧ TInv w n m t wr) (fun _ wr => hiOf wr w.heap.size)
    case atStart => exact ⟨n, [], rfl, H0⟩
    case round =>
      clear H0
      obtain ⟨m, t, rfl, hI⟩ := hrel
      have hb := hI.box
      have hB := hI.below
      obtain ⟨c0, c1, f0, f1⟩ := hb.two
      have l0 := hb.lt
      have hmes := hiOf_whl hb
      by_cases hz : (wd m).hi = 0
      · have u1 : (((wd m).hi : Int) != 0) = false := by simp [hz]
        have u2 : (((wd m).hi : Int) == 0) = true := by simp [hz]
        have HZ := Lib.hid (And.intro hz hI)
        clear hz hI
        go_wp2
        go_meet
        exact ⟨m, t, rfl, HZ.out.2, HZ.out.1⟩
      · have u1 : (((wd m).hi : Int) != 0) = true := by simp [hz]
        have u2 : (((wd m).hi : Int) == 0) = false := by simp [hz]
        obtain ⟨hi, hhi⟩ : ∃ hi, (wd m).hi = hi := ⟨_, rfl⟩
        obtain ⟨lo, hlo⟩ : ∃ lo, (wd m).lo = lo := ⟨_, rfl⟩
        have hm : m = hi * 18446744073709551616 + lo := by rw [← hhi, ← hlo]; exact (wd_val m).symm
        have hil : hi < 18446744073709551616 := by rw [← hhi]; exact (wd_wf hI.small).hi
        have lol : lo < 18446744073709551616 := by rw [← hlo]; exact (wd_wf hI.small).lo
        rw [hhi] at c0 hz hmes u1 u2 hb
        rw [hlo] at c1 hb
        obtain ⟨h2, e1⟩ : ∃ h2, hi / 10000000000000000000 = h2 := ⟨_, rfl⟩
        obtain ⟨hr, e2⟩ : ∃ hr, hi % 10000000000000000000 = hr := ⟨_, rfl⟩
        obtain ⟨q, e3⟩ : ∃ q, (hr * 18446744073709551616 + lo) / 10000000000000000000 = q := ⟨_, rfl⟩
        obtain ⟨r, e4⟩ : ∃ r, (hr * 18446744073709551616 + lo) % 10000000000000000000 = r := ⟨_, rfl⟩
        obtain ⟨j1, ql, rl, j2, j3⟩ := text_step hil lol (by omega) e1 e2 e3 e4
        rw [← hm] at j1
        have hrl : hr < 10000000000000000000 := by rw [← e2]; exact Nat.mod_lt _ (by decide)
        have hd := fun W => div64 hr lo hrl lol W
        rw [e3, e4] at hd
        have rl2 : r < 18446744073709551616 := by omega
        have d1 : (hi : Int).tdiv 10000000000000000000 = (h2 : Int) := by rw [Int.tdiv_eq_ediv_of_nonneg (Int.natCast_nonneg _), ← e1]; omega
        have d2 : (hi : Int).tmod 10000000000000000000 = (hr : Int) := by rw [Int.tmod_eq_emod_of_nonneg (Int.natCast_nonneg _), ← e2]; omega
        have d3 : IntKind.u64.wrap (h2 : Int) = (h2 : Int) := wrap_lt (by omega)
        have d4 : IntKind.u64.wrap (hr : Int) = (hr : Int) := wrap_lt (by omega)
        have hdec : Lib.decDigits n = Lib.decDigits (h2 * 18446744073709551616 + q) ++ ((List.replicate (19 - Lib.nDigits r) 48 ++ Lib.decDigits r) ++ t) := by
          rw [hI.dec, dec_part j1 j3 rl]; simp
        have hnd := nDigits_le (r := r) (k := 19) (by omega) (by simpa using rl)
        have hwd : wd (h2 * 18446744073709551616 + q) = ⟨h2, q⟩ := by have := wd_of (a := ⟨h2, q⟩) ⟨by show h2 < _; omega, ql⟩; exact this
        have hsm : h2 * 18446744073709551616 + q < 340282366920938463463374607431768211456 := by have := hI.small; omega
        have tl := hI.len
        have HD := Lib.hid hd
        have HI := Lib.hid (And.intro hdec (And.intro j3 (And.intro hsm (And.intro hwd j2))))
        clear e1 e2 e3 e4 j1 j2 j3 hm hil hhi hlo hI hd hdec hsm hwd hrl
        go_wp2_with (first
          | (go_at_call 33; with_reducible refine (HD.out _).mono ?_; rintro e w1 ⟨rfl, hb1⟩; have W1 := hb.below' hb1; have B1 := below_step hB hb1; obtain ⟨hcc1, hff1⟩ := bcell hb1; have l1 := W1.lt)
          | (go_at_call 34; with_reducible refine (fmtU r rl2 _ (ht.step B1)).mono ?_; rintro e w2 ⟨rfl, hb2⟩; have W2 := W1.below' hb2; have B2 := below_step B1 hb2; have l2 := W2.lt))
        obtain ⟨x0, x1, g0, g1⟩ := W2.two
        go_loopw [7] (fun d wr => ∃ j, d = .string (BA (List.replicate j 48 ++ Lib.decDigits r)) ∧ j + Lib.nDigits r ≤ 19 ∧ wr = w2) (fun d _ => 19 - lenOf d)
        case atStart => exact ⟨0, by simp, by omega, rfl⟩
        case round =>
          obtain ⟨j, rfl, hj, hwr⟩ := hrel
          rw [hwr]
          have hlen : (BA (List.replicate j 48 ++ Lib.decDigits r)).size = j + Lib.nDigits r := by rw [BA_size]; simp [Lib.decDigits_length]
          by_cases hlt : j + Lib.nDigits r < 19
          · have c2 : decide (((BA (List.replicate j 48 ++ Lib.decDigits r)).size : Int) < 19) = true := by rw [hlen]; simp; omega
            have ha : (⟨#[48]⟩ : ByteArray) ++ BA (List.replicate j 48 ++ Lib.decDigits r) = BA (List.replicate (j + 1) 48 ++ Lib.decDigits r) := by
              rw [show (⟨#[48]⟩ : ByteArray) = BA [48] from rfl, BA_app, List.replicate_succ]; rfl
            have hlen2 : (BA (List.replicate (j + 1) 48 ++ Lib.decDigits r)).size = j + 1 + Lib.nDigits r := by rw [BA_size]; simp [Lib.decDigits_length]
            go_wp2
            refine ⟨⟨j + 1, rfl, by omega, by first | rfl | trivial⟩, ?_⟩
            show 19 - (BA (List.replicate (j + 1) 48 ++ Lib.decDigits r)).size < 19 - (BA (List.replicate j 48 ++ Lib.decDigits r)).size
            rw [hlen, hlen2]; omega
          · have c2 : decide (((BA (List.replicate j 48 ++ Lib.decDigits r)).size : Int) < 19) = false := by rw [hlen]; simp; omega
            have hdl := Lib.decDigits_length r
            have c3 : decide ((j : Int) + ((Lib.decDigits r).length : Int) < 19) = false := by rw [hdl]; simp; omega
            have c4 : j + (Lib.decDigits r).length + t.length ≤ 9223372036854775807 := by omega
            have hj19 : (j : Int) + (Lib.nDigits r : Int) = 19 := by omega
            have hj2 : 19 - Lib.nDigits r = j := by omega
            rw [hj2] at HI
            clear hlt hlen hj c2 hj2
            go_wp2
            go_roundw
            case rel =>
              refine ⟨h2 * 18446744073709551616 + q, (List.replicate j 48 ++ Lib.decDigits r) ++ t, ?_, ?_, ?_, HI.out.2.2.1, HI.out.1, .inl HI.out.2.1⟩
              · rw [BA_app]
              · repeat (first | exact B2 | with_reducible apply Below.drew | with_reducible apply below_alloc | (with_reducible refine Below.setCell ?_ (by simp <;> omega) _))
              · rw [HI.out.2.2.2.1]
                with_reducible apply Whl.set1
                with_reducible apply Whl.set0
                exact W2
            case measure =>
              have z : Whl ((w2.setCell ⟨w.heap.size, 0, none⟩ (.int .u64 (h2 : Int))).setCell ⟨w.heap.size, 1, none⟩ (.int .u64 (q : Int))) w.heap.size 24 #[.int .u64 (h2 : Int), .int .u64 (q : Int)] := (W2.put 0 _).put 1 _
              rw [hiOf_whl z, hmes]
              exact HI.out.2.2.2.2
  case rest =>
    obtain ⟨m, t, rfl, hI, hz⟩ := hcut
    have hb := hI.box
    have hB := hI.below
    have hm : m = (wd m).lo := by have := wd_val m; rw [Wd.val, hz] at this; omega
    have hml : m < 18446744073709551616 := by rw [hm]; exact (wd_wf hI.small).lo
    rw [← hm, hz] at hb
    obtain ⟨c0, c1, f0, f1⟩ := hb.two
    have l0 := hb.lt
    have hdec := hI.dec
    have tl := hI.len
    have c4 : (Lib.decDigits m).length + t.length ≤ 9223372036854775807 := by
      rw [Lib.decDigits_length]
      have := nDigits_le (r := m) (k := 20) (by omega) (Nat.lt_of_lt_of_le hml (by decide))
      omega
    have HD := Lib.hid hdec
    clear hdec hm hz
    by_cases h0 : m = 0
    · have u1 : ((m : Int) == 0) = true := by rw [beq_iff_eq]; omega
      obtain rfl : t = [] := by have := hI.pos; rcases this with q | q; omega; exact q
      clear hI H0 h0
      go_wp2_with (go_at_call 34; with_reducible refine (fmtU m hml _ (ht.step hB)).mono ?_; rintro e w3 ⟨rfl, hb3⟩; have B3 := below_step hB hb3)
      go_ret
      refine ⟨?_, B3⟩
      rw [HD.out, ← BA_app]
      rfl
    · have u1 : ((m : Int) == 0) = false := by rw [beq_eq_false_iff_ne]; omega
      clear hI H0
      go_wp2_with (go_at_call 34; with_reducible refine (fmtU m hml _ (ht.step hB)).mono ?_; rintro e w3 ⟨rfl, hb3⟩; have B3 := below_step hB hb3)
      go_ret
      refine ⟨?_, B3⟩
      rw [HD.out, ← BA_app]
      rfl
end Go.Proofs.YtofibaomjidieaaDoor
