/-
  Layer 16 (bounds): Beg, RunC, LayR, StartP, VisA, VisC, VisB, VisD.
-/
import Derived.Test.YtddobhneplfddaaDoorV35
namespace Go.Proofs.YtddobhneplfddaaDoor
set_option maxRecDepth 100000
open Go.RowKit
set_option linter.unusedSimpArgs false
set_option linter.unusedVariables false
theorem zeroC (k : Nat) : (Builtin.zeroCells #[.int .i64 0, .int .i64 0] k).toList = rowSp (List.replicate k (⟨0, 0⟩ : Sp)) := by
  apply List.ext_getElem?
  intro j
  rcases Nat.lt_or_ge j (k * 2) with h | h
  · have h1 : (rowSp (List.replicate k (⟨0, 0⟩ : Sp)))[j]? = some (.int .i64 0) := by
      have hk : j / 2 < (List.replicate k (⟨0, 0⟩ : Sp)).length := by simp; omega
      obtain ⟨a, b⟩ := rowSp_get _ _ hk
      rcases Nat.mod_two_eq_zero_or_one j with e | e
      · rw [show j / 2 * 2 = j by omega] at a; simpa using a
      · rw [show j / 2 * 2 + 1 = j by omega] at b; simpa using b
    rw [h1]
    rcases Nat.mod_two_eq_zero_or_one j with e | e <;> simp [Builtin.zeroCells, h, e]
  · rw [List.getElem?_eq_none (by simp [Builtin.zeroCells]; omega), List.getElem?_eq_none (by rw [rowSp_len]; simp; omega)]
theorem rowSp_app (a b : List Sp) : rowSp (a ++ b) = rowSp a ++ rowSp b := List.flatMap_append ..
theorem begin_app (w : World) (base ty : Nat) (A : Option Addr) (c R : Nat) (l : List Sp) (hR : 0 < R) (hR2 : R ≤ 64) (hn : l.length ≤ R) (hb : base ≤ w.heap.size)
    (own : w.ownsRow base 34 2 (.slice A l.length c) l.length (rowsL l.length 2 fun k => spV (nthS l k))) :
    ∃ g cp w', (Builtin.append_ #[26, 3] ty #[.slice A l.length l.length, .int .i64 ((R - l.length : Nat) : Int)]).run Tryd.prog w = .ok (.slice (some ⟨g, 0, none⟩) R cp) w' ∧ base ≤ g ∧ R ≤ cp ∧ cp ≤ maxLen ∧ RowE w' g cp (l ++ List.replicate (R - l.length) ⟨0, 0⟩) ∧ w.grownBy w' none := by
  obtain ⟨iS, hiS, zS0, zS1, zS2⟩ := info_parts infoS
  have hu : Tryd.prog.underlying 3 = some (.int .i64) := by kernel_rfl
  have ht := Tryd.underlying26
  have hzs : (Value.agg #[.int .i64 0, .int .i64 0]).cells = #[.int .i64 0, .int .i64 0] := rfl
  have hmk : ∀ (need old : Nat), need ≤ 64 → R = need → ∀ (pre : List Value) (r : List Sp), pre = rowSp r → r.length = R → RowS (w.drew.alloc (.cells (pre.toArray ++ Builtin.zeroCells #[.int .i64 0, .int .i64 0] (grownCap w need old 34 - need)) 34)) w.heap.size (grownCap w need old 34) r := fun need old hm e pre r hp hl => by
    have hge := grownCap_ge w need old 34
    refine ⟨_, Whl.new w.drew _ _, ⟨?_, ?_⟩, ?_⟩
    · simp only [Array.size_append, List.size_toArray, size_zeroCells, hp, rowSp_len]
      omega
    · simp only [Array.size_append, List.size_toArray, size_zeroCells, hp, rowSp_len]
      simp
      omega
    · rw [Array.toList_append, hp, ← rowSp_len]
      exact List.take_left
  have hgr : ∀ o, w.grownBy (w.drew.alloc o) none := fun o => ⟨rfl, rfl, rfl, by simp, fun k hk _ => Below.heap_alloc w.drew _ k hk⟩
  rcases own.2 with ⟨hv, h0⟩ | ⟨g, cap, cur, hv, hbg, hh, hnc, hm, hs, htk⟩
  · injection hv with e1 e2 e3
    subst e1
    have hl : l = [] := List.eq_nil_of_length_eq_zero h0
    subst hl
    have hr := run_append_make_nil (P := Tryd.prog) w 26 3 ty 34 iS _ ht hu hiS zS0 R hR (by omega) (by omega) (by omega)
    rw [hzs] at hr
    refine ⟨_, _, _, hr, hb, grownCap_ge _ _ _ _, grownCap_le_maxLen w R 0 _ (by unfold maxLen; omega), ?_, hgr _⟩
    have := hmk R 0 (by omega) rfl (Builtin.zeroCells #[.int .i64 0, .int .i64 0] R).toList (List.replicate R ⟨0, 0⟩) (zeroC R) (by simp)
    exact RowS.toE (by simpa using this)
  · injection hv with e1 e2 e3
    subst e1
    subst e3
    rw [rowsL_rowSp] at htk
    by_cases hk : R - l.length = 0
    · have hl : l.length = R := by omega
      rw [hk]
      have hr := run_append_make_zero (P := Tryd.prog) w 26 3 ty 34 iS ht hu hiS (some ⟨g, 0, none⟩) l.length l.length (Nat.le_refl _)
      refine ⟨g, l.length, w, by rw [← hl]; exact hr, hbg, by omega, by unfold maxLen; omega, ⟨c, hnc, ⟨cur, hh, ⟨?_, hs⟩, ?_⟩⟩, ⟨rfl, rfl, rfl, Nat.le_refl _, fun _ _ _ => rfl⟩⟩
      · simp; omega
      · simpa using htk
    · have hcell : ∀ j v, (rowSp l)[j]? = some v → w.cell? ((⟨g, 0, none⟩ : Addr).add j) = some v := fun j v hv => by
        have hadd : (⟨g, 0, none⟩ : Addr).add j = ⟨g, j, none⟩ := by unfold Addr.add; split <;> simp_all
        rw [hadd, cell_of_row w g j cur _ (0, 0) hh]
        rw [← htk, List.getElem?_take] at hv
        split at hv
        · simpa using hv
        · cases hv
      have hr := run_append_make_grow (P := Tryd.prog) w 26 3 ty 34 iS _ ht hu hiS zS0 ⟨g, 0, none⟩ l.length l.length (rowSp l) (by rw [rowSp_len, zS1]) hcell (R - l.length) (by omega) (by omega) (by omega) (by omega) (by omega) (by
        exact growslice_fits (by omega) (by rw [zS2]; omega))
      rw [hzs] at hr
      have e : l.length + (R - l.length) = R := by omega
      rw [e] at hr
      refine ⟨_, _, _, hr, hb, grownCap_ge _ _ _ _, grownCap_le_maxLen w R _ _ (by unfold maxLen; omega), ?_, hgr _⟩
      have := hmk R l.length (by omega) rfl (rowSp l ++ (Builtin.zeroCells #[.int .i64 0, .int .i64 0] (R - l.length)).toList) (l ++ List.replicate (R - l.length) ⟨0, 0⟩) (by rw [zeroC, rowSp_app]) (by simp; omega)
      refine RowS.toE ?_
      have e2 : ∀ (a : List Value) (b d : Array Value), (a ++ b.toList).toArray ++ d = a.toArray ++ b ++ d := fun a b d => by apply Array.ext'; simp
      rw [e2] at this
      exact this
end Go.Proofs.YtddobhneplfddaaDoor

namespace Go.Proofs.YtddobhneplfddaaDoor
set_option maxRecDepth 100000
open Go.RowKit
set_option linter.unusedSimpArgs false
set_option linter.unusedVariables false
theorem own_room {w : World} {base sz : Nat} {e : TypeId} {A : Option Addr} {m c : Nat} {xs : List Value} (h : w.ownsRow base e sz (.slice A m c) m xs) : m ≤ c := by
  rcases h.2 with ⟨h1, h2⟩ | ⟨g, cap, cur, h1, _, _, h2, _⟩
  · omega
  · injection h1 with _ _ e3; omega
theorem own_max {w : World} {base sz : Nat} {e : TypeId} {A : Option Addr} {m c : Nat} {xs : List Value} (h : w.ownsRow base e sz (.slice A m c) m xs) : c ≤ maxLen := by
  rcases h.2 with ⟨h1, h2⟩ | ⟨g, cap, cur, h1, _, _, _, h2, _⟩
  · injection h1 with _ _ e3; omega
  · injection h1 with _ _ e3; omega
theorem own_none {w : World} {base sz : Nat} {e : TypeId} {A : Option Addr} {m c : Nat} {xs : List Value} (h : w.ownsRow base e sz (.slice A m c) m xs) : A = none → m = 0 := fun e0 => by
  rcases h.2 with ⟨h1, h2⟩ | ⟨g, cap, cur, h1, _⟩
  · exact h2
  · injection h1 with e1 _ _; rw [e0] at e1; cases e1
set_option maxHeartbeats 4000000 in
theorem region14 {n R b1 bx bp fb c : Nat} {A : Option Addr} {l : List Sp} {cs : Array Value} {w : World} {Q : Exit → Act → World → Prop} {x0 x1 x2 x3 x4 x5 x6 x8 x10 x11 x12 x13 x14 x15 x16 x17 x18 x19 x20 x21 x22 x23 x24 x25 x26 x27 x28 x29 x30 x31 x32 x33 x34 x35 x36 x37 x38 x39 x40 x41 x42 x43 x44 x45 x46 x47 x48 x49 x50 x51 x52 x53 x54 x55 x56 x57 x58 x59 x60 x61 x62 x63 x64 x65 x66 x67 x68 x69 x70 x71 x72 x73 x74 x75 x76 x77 x78 x79 x80 x81 x82 x83 x84 x85 x86 x87 x88 x89 x90 x91 x92 x93 x94 x95 x96 x97 x98 x99 x100 x101 x102 x103 x104 x105 x106 x107 x108 x109 x110 x111 x112 x113 x114 x115 x116 x117 x118 x119 x120 x121 x122 x123 x124 x125 x126 x127 x128 x129 x130 x131 x132 x133 x134 x135 x136 x137 x138 x139 x140 x141 x142 : Value}
    (hQp : ∀ ch a a2 w, Q (.panic ch) a w → Q (.panic ch) a2 w) (hn : 0 < n) (hn2 : n ≤ 1024) (hR : 0 < R) (hR6 : R ≤ 64) (hlR : l.length ≤ R) (hl6 : l.length ≤ 64) (hnil : A = none → c = 0 ∧ l = []) (hr : RowsAt w w.heap.size A l.length 2 fun k => spV (nthS l k))
    (cP : w.cell? ⟨bp, 0, none⟩ = some (.pointer (some ⟨bx, 0, none⟩))) (cX : w.cell? ⟨bx, 0, none⟩ = some (.slice (some ⟨b1, 0, none⟩) n n)) (cF1 : w.cell? ⟨fb, 1, none⟩ = some (.slice A l.length c)) (cF2 : w.cell? ⟨fb, 2, none⟩ = some (.int .i64 (R : Int)))
    (lP : bp < w.heap.size) (lX : bx < w.heap.size) (lF : fb < w.heap.size) (nP : bp ≠ b1) (nX : bx ≠ b1) (nF : fb ≠ b1) (f1 : Whl w b1 26 cs) (hc0 : cs[0]? = some (.slice none 0 0))
    (hK : ∀ g cp W u68 u69 u70 u71 u72 u73 u74 u75 u76 u77 u78 u79 u80 u81 u82 u83 u84, w.heap.size ≤ g → R ≤ cp → cp ≤ maxLen → RowE W g cp (l ++ List.replicate (R - l.length) ⟨0, 0⟩) → Below w.heap.size w W → Q .normal { tmps := #[x0, x1, x2, x3, x4, x5, x6, .pointer (some ⟨fb, 0, none⟩), x8, .pointer (some ⟨bp, 0, none⟩), x10, x11, x12, x13, x14, x15, x16, x17, x18, x19, x20, x21, x22, x23, x24, x25, x26, x27, x28, x29, x30, x31, x32, x33, x34, x35, x36, x37, x38, x39, x40, x41, x42, x43, x44, x45, x46, x47, x48, x49, x50, x51, x52, x53, x54, x55, x56, x57, x58, x59, x60, x61, x62, x63, x64, x65, x66, x67, u68, u69, u70, u71, u72, u73, u74, u75, u76, u77, u78, u79, u80, u81, u82, u83, u84, x85, x86, x87, x88, x89, x90, x91, x92, x93, x94, x95, x96, x97, x98, x99, x100, x101, x102, x103, x104, x105, x106, x107, x108, x109, x110, x111, x112, x113, x114, x115, x116, x117, x118, x119, x120, x121, x122, x123, x124, x125, x126, x127, x128, x129, x130, x131, x132, x133, x134, x135, x136, x137, x138, x139, x140, x141, x142], defers := [] } (W.setCell ⟨b1, 0, none⟩ (.slice (some ⟨g, 0, none⟩) R cp))) :
    ∃ c, findR 14 (bodyOf Tryd.f15) = some c ∧ Code.wp Tryd.prog c Q { tmps := #[x0, x1, x2, x3, x4, x5, x6, .pointer (some ⟨fb, 0, none⟩), x8, .pointer (some ⟨bp, 0, none⟩), x10, x11, x12, x13, x14, x15, x16, x17, x18, x19, x20, x21, x22, x23, x24, x25, x26, x27, x28, x29, x30, x31, x32, x33, x34, x35, x36, x37, x38, x39, x40, x41, x42, x43, x44, x45, x46, x47, x48, x49, x50, x51, x52, x53, x54, x55, x56, x57, x58, x59, x60, x61, x62, x63, x64, x65, x66, x67, x68, x69, x70, x71, x72, x73, x74, x75, x76, x77, x78, x79, x80, x81, x82, x83, x84, x85, x86, x87, x88, x89, x90, x91, x92, x93, x94, x95, x96, x97, x98, x99, x100, x101, x102, x103, x104, x105, x106, x107, x108, x109, x110, x111, x112, x113, x114, x115, x116, x117, x118, x119, x120, x121, x122, x123, x124, x125, x126, x127, x128, x129, x130, x131, x132, x133, x134, x135, x136, x137, x138, x139, x140, x141, x142], defers := [] } w := by
  refine ⟨_, rfl, ?_⟩
  have HR := Lib.hid hr
  have HKK := Lib.hid hK
  clear hr hK
  have hw1 : IntKind.i64.wrap ((R : Int) - (l.length : Int)) = ((R - l.length : Nat) : Int) := by rw [show ((R : Int) - (l.length : Int)) = ((R - l.length : Nat) : Int) by omega]; exact IntWalk.i64_in _ (by omega)
  have hS4 : ∀ w' : World, (w'.cell? ⟨bp, 0, none⟩ = w.cell? ⟨bp, 0, none⟩) → (w'.cell? ⟨bx, 0, none⟩ = w.cell? ⟨bx, 0, none⟩) → (w'.cell? ⟨fb, 1, none⟩ = w.cell? ⟨fb, 1, none⟩) → (w'.cell? ⟨fb, 2, none⟩ = w.cell? ⟨fb, 2, none⟩) → w'.cell? ⟨bp, 0, none⟩ = some (.pointer (some ⟨bx, 0, none⟩)) ∧ w'.cell? ⟨bx, 0, none⟩ = some (.slice (some ⟨b1, 0, none⟩) n n) ∧ w'.cell? ⟨fb, 1, none⟩ = some (.slice A l.length c) ∧ w'.cell? ⟨fb, 2, none⟩ = some (.int .i64 (R : Int)) := fun w' e1 e2 e3 e4 => ⟨e1.trans cP, e2.trans cX, e3.trans cF1, e4.trans cF2⟩
  have HS : ∀ w' : World, Below w.heap.size w w' → w'.cell? ⟨bp, 0, none⟩ = some (.pointer (some ⟨bx, 0, none⟩)) ∧ w'.cell? ⟨bx, 0, none⟩ = some (.slice (some ⟨b1, 0, none⟩) n n) ∧ w'.cell? ⟨fb, 1, none⟩ = some (.slice A l.length c) ∧ w'.cell? ⟨fb, 2, none⟩ = some (.int .i64 (R : Int)) := fun w' hb => hS4 w' (hb.cell (p := ⟨bp, 0, none⟩) lP) (hb.cell (p := ⟨bx, 0, none⟩) lX) (hb.cell (p := ⟨fb, 1, none⟩) lF) (hb.cell (p := ⟨fb, 2, none⟩) lF)
  have HS2 : ∀ w' : World, Below w.heap.size w w' → ∀ g cp : Nat, (w'.setCell ⟨b1, 0, none⟩ (.slice (some ⟨g, 0, none⟩) R cp)).cell? ⟨bp, 0, none⟩ = some (.pointer (some ⟨bx, 0, none⟩)) ∧ (w'.setCell ⟨b1, 0, none⟩ (.slice (some ⟨g, 0, none⟩) R cp)).cell? ⟨bx, 0, none⟩ = some (.slice (some ⟨b1, 0, none⟩) n n) ∧ (w'.setCell ⟨b1, 0, none⟩ (.slice (some ⟨g, 0, none⟩) R cp)).cell? ⟨fb, 1, none⟩ = some (.slice A l.length c) ∧ (w'.setCell ⟨b1, 0, none⟩ (.slice (some ⟨g, 0, none⟩) R cp)).cell? ⟨fb, 2, none⟩ = some (.int .i64 (R : Int)) := fun w' hb g cp => by
    obtain ⟨a, b, c1, d⟩ := HS w' hb
    exact ⟨(World.cell?_of_block (Below.heap_setCell _ _ _ _ nP)).trans a, (World.cell?_of_block (Below.heap_setCell _ _ _ _ nX)).trans b, (World.cell?_of_block (Below.heap_setCell _ _ _ _ nF)).trans c1, (World.cell?_of_block (Below.heap_setCell _ _ _ _ nF)).trans d⟩
  clear hS4
  refine wp_region_held_drew (S := (fun (w' : World) => w'.cell? ⟨bp, 0, none⟩ = some (.pointer (some ⟨bx, 0, none⟩)) ∧ w'.cell? ⟨bx, 0, none⟩ = some (.slice (some ⟨b1, 0, none⟩) n n) ∧ w'.cell? ⟨fb, 1, none⟩ = some (.slice A l.length c) ∧ w'.cell? ⟨fb, 2, none⟩ = some (.int .i64 (R : Int)))) (by kernel_rfl) ?_ (fun hHeld => ?_)
  · (exact HS _ (Below.refl _ _).drew)
  refine wpAnyH_take (i := 0) (v := ?_) rfl (by kernel_rfl) (by kernel_rfl) (by kernel_rfl) (fun _ _ _ h => hQp _ _ _ _ h) (Or.inl ⟨by rfl, ?_⟩) (by assumption) ?_
  rotate_left
  · (intro w' hSw; (try dsimp only at hSw); go_simp <;> with_reducible rfl)
  (try simp only [Act.put, List.setIfInBounds_toArray, List.set_cons_zero, List.set_cons_succ])
  refine wpAnyH_take (i := 1) (v := ?_) rfl (by kernel_rfl) (by kernel_rfl) (by kernel_rfl) (fun _ _ _ h => hQp _ _ _ _ h) (Or.inl ⟨by rfl, ?_⟩) (by assumption) ?_
  rotate_left
  · (intro w' hSw; (try dsimp only at hSw); go_simp <;> with_reducible rfl)
  (try simp only [Act.put, List.setIfInBounds_toArray, List.set_cons_zero, List.set_cons_succ])
  refine wpAnyH_take (i := 2) (v := ?_) rfl (by kernel_rfl) (by kernel_rfl) (by kernel_rfl) (fun _ _ _ h => hQp _ _ _ _ h) (Or.inl ⟨by rfl, ?_⟩) (by assumption) ?_
  rotate_left
  · (intro w' hSw; (try dsimp only at hSw); go_simp <;> with_reducible rfl)
  (try simp only [Act.put, List.setIfInBounds_toArray, List.set_cons_zero, List.set_cons_succ])
  refine wpAnyH_take (i := 3) (v := ?_) rfl (by kernel_rfl) (by kernel_rfl) (by kernel_rfl) (fun _ _ _ h => hQp _ _ _ _ h) (Or.inl ⟨by rfl, ?_⟩) (by assumption) ?_
  rotate_left
  · (intro w' hSw; (try dsimp only at hSw); go_simp <;> with_reducible rfl)
  (try simp only [Act.put, List.setIfInBounds_toArray, List.set_cons_zero, List.set_cons_succ])
  refine wpAnyH_take (i := 4) (v := ?_) rfl (by kernel_rfl) (by kernel_rfl) (by kernel_rfl) (fun _ _ _ h => hQp _ _ _ _ h) (Or.inl ⟨by rfl, ?_⟩) (by assumption) ?_
  rotate_left
  · (intro w' hSw; (try dsimp only at hSw); go_simp <;> with_reducible rfl)
  (try simp only [Act.put, List.setIfInBounds_toArray, List.set_cons_zero, List.set_cons_succ])
  refine wpAnyH_take (i := 5) (v := ?_) rfl (by kernel_rfl) (by kernel_rfl) (by kernel_rfl) (fun _ _ _ h => hQp _ _ _ _ h) (Or.inl ⟨by rfl, ?_⟩) (by assumption) ?_
  rotate_left
  · (intro w' hSw; (try dsimp only at hSw); go_simp <;> with_reducible rfl)
  (try simp only [Act.put, List.setIfInBounds_toArray, List.set_cons_zero, List.set_cons_succ])
  refine wpAnyH_take (i := 6) (v := ?_) rfl (by kernel_rfl) (by kernel_rfl) (by kernel_rfl) (fun _ _ _ h => hQp _ _ _ _ h) (Or.inl ⟨by rfl, ?_⟩) (by assumption) ?_
  rotate_left
  · (intro w' hSw; (try dsimp only at hSw); go_simp <;> with_reducible rfl)
  (try simp only [Act.put, List.setIfInBounds_toArray, List.set_cons_zero, List.set_cons_succ])
  refine wpAnyH_take (i := 9) (v := ?_) rfl (by kernel_rfl) (by kernel_rfl) (by kernel_rfl) (fun _ _ _ h => hQp _ _ _ _ h) (Or.inl ⟨by rfl, ?_⟩) (by assumption) ?_
  rotate_left
  · (intro w' hSw; (try dsimp only at hSw); go_simp <;> with_reducible rfl)
  (try simp only [Act.put, List.setIfInBounds_toArray, List.set_cons_zero, List.set_cons_succ])
  refine wpAnyH_take (i := 10) (v := ?_) rfl (by kernel_rfl) (by kernel_rfl) (by kernel_rfl) (fun _ _ _ h => hQp _ _ _ _ h) (Or.inl ⟨by rfl, ?_⟩) (by assumption) ?_
  rotate_left
  · (intro w' hSw; (try dsimp only at hSw); go_simp <;> with_reducible rfl)
  (try simp only [Act.put, List.setIfInBounds_toArray, List.set_cons_zero, List.set_cons_succ])
  refine wpAnyH_take (i := 11) (v := ?_) rfl (by kernel_rfl) (by kernel_rfl) (by kernel_rfl) (fun _ _ _ h => hQp _ _ _ _ h) (Or.inl ⟨by rfl, ?_⟩) (by assumption) ?_
  rotate_left
  · (intro w' hSw; (try dsimp only at hSw); go_simp <;> with_reducible rfl)
  (try simp only [Act.put, List.setIfInBounds_toArray, List.set_cons_zero, List.set_cons_succ])
  refine wpAnyH_take (i := 12) (v := ?_) rfl (by kernel_rfl) (by kernel_rfl) (by kernel_rfl) (fun _ _ _ h => hQp _ _ _ _ h) (Or.inl ⟨by rfl, ?_⟩) (by assumption) ?_
  rotate_left
  · (intro w' hSw; (try dsimp only at hSw); go_simp <;> with_reducible rfl)
  (try simp only [Act.put, List.setIfInBounds_toArray, List.set_cons_zero, List.set_cons_succ])
  refine wpAnyH_take (i := 13) (v := ?_) rfl (by kernel_rfl) (by kernel_rfl) (by kernel_rfl) (fun _ _ _ h => hQp _ _ _ _ h) (Or.inl ⟨by rfl, ?_⟩) (by assumption) ?_
  rotate_left
  · (intro w' hSw; (try dsimp only at hSw); go_simp <;> with_reducible rfl)
  (try simp only [Act.put, List.setIfInBounds_toArray, List.set_cons_zero, List.set_cons_succ])
  refine wpAnyH_take (i := 14) (v := ?_) rfl (by kernel_rfl) (by kernel_rfl) (by kernel_rfl) (fun _ _ _ h => hQp _ _ _ _ h) (Or.inl ⟨by rfl, ?_⟩) (by assumption) ?_
  rotate_left
  · (intro w' hSw; (try dsimp only at hSw); go_simp <;> with_reducible rfl)
  (try simp only [Act.put, List.setIfInBounds_toArray, List.set_cons_zero, List.set_cons_succ])
  refine wpAnyH_ready (rs := [7]) (by kernel_rfl) (by simp) ?_
  refine AllReadyH.cons rfl (fun K hK => ?_) AllReadyH.nil
  go_simp; go_at_call 33; refine (cloneP A c l hl6 hnil w.drew (HR.out.below (Below.refl _ _).drew (Nat.le_refl _))).mono ?_; rintro e w2 hC; obtain ⟨v2, rfl, hv0, own2, hb2⟩ := hC; obtain ⟨A2, c2, rfl, hn2⟩ := own_slice own2; have hlc : l.length ≤ c2 := own_room own2; have hcm : c2 ≤ maxLen := own_max own2; have hn0 : A2 = none → l.length = 0 := own_none own2; go_wp2_with fail; have B2 : Below w.heap.size w w2 := (Below.refl _ _).drew.trans hb2
  refine hK.out _ _ ?_ (fun hHeld => ?_)
  · (exact HS _ B2)
  clear hK K
  (try simp only [Act.put, List.setIfInBounds_toArray, List.set_cons_zero, List.set_cons_succ])
  refine wpAnyH_ready (rs := [8]) (by kernel_rfl) (by simp) ?_
  refine AllReadyH.cons rfl (fun K hK => ?_) AllReadyH.nil
  go_simp; go_at_call 32; refine (clipP A2 l.length c2 hlc hcm hn0 w2).mono ?_; rintro e w2' ⟨rfl, rfl⟩; go_wp2_with fail
  refine hK.out _ _ ?_ (fun hHeld => ?_)
  · (exact HS _ B2)
  clear hK K
  (try simp only [Act.put, List.setIfInBounds_toArray, List.set_cons_zero, List.set_cons_succ])
  obtain ⟨g, cp, w3, hrun, hg, hcR, hcp, hrow, hgr⟩ := begin_app w2 w.heap.size 26 A2 c2 R l hR hR6 hlR B2.size own2
  have B3 : Below w.heap.size w w3 := B2.trans ⟨hgr.os, hgr.tape, hgr.output, hgr.size, fun i hi => hgr.block i (Nat.lt_of_lt_of_le hi B2.size) (by simp)⟩
  refine wpAnyH_ready (rs := [15]) (by kernel_rfl) (by simp) ?_
  refine AllReadyH.cons rfl (fun K hK2 => ?_) AllReadyH.nil
  refine step_append_run rfl _ _ _ _ rfl hrun ?_
  refine hK2.out _ _ ?_ (fun hHeld => ?_)
  · (exact HS _ B3)
  clear hK2 K
  (try simp only [Act.put, List.setIfInBounds_toArray, List.set_cons_zero, List.set_cons_succ])
  have f3 := f1.below' B3
  have d0 := f3.cell 0
  have e0 := f3.frozen 0
  rw [hc0] at d0
  refine wpAnyH_take (i := 16) (v := ?_) rfl (by kernel_rfl) (by kernel_rfl) (by kernel_rfl) (fun _ _ _ h => hQp _ _ _ _ h) (Or.inl ⟨by rfl, ?_⟩) (by assumption) ?_
  rotate_left
  · (intro w' hSw; (try dsimp only at hSw); go_simp <;> with_reducible rfl)
  (try simp only [Act.put, List.setIfInBounds_toArray, List.set_cons_zero, List.set_cons_succ])
  refine wpAnyH_ready (rs := [17]) (by kernel_rfl) (by simp) ?_
  refine AllReadyH.cons rfl (fun K hK => ?_) AllReadyH.nil
  go_simp
  refine hK.out _ _ ?_ (fun hHeld => ?_)
  · (exact HS2 _ B3 g cp)
  clear hK K
  (try simp only [Act.put, List.setIfInBounds_toArray, List.set_cons_zero, List.set_cons_succ])
  refine wpAnyH_done (by kernel_rfl) ?_ _
  exact HKK.out g cp w3 _ _ _ _ _ _ _ _ _ _ _ _ _ _ _ _ _ hg hcR hcp hrow B3
end Go.Proofs.YtddobhneplfddaaDoor

namespace Go.Proofs.YtddobhneplfddaaDoor
set_option maxRecDepth 100000
open Go.RowKit
set_option linter.unusedSimpArgs false
set_option linter.unusedVariables false
theorem use_wp {P : Program} {F : Code → Option Code} {b d : Code} {Q : Exit → Act → World → Prop} {a : Act} {w : World} (h : ∃ c, F b = some c ∧ Code.wp P c Q a w) (hd : F b = some d) : Code.wp P d Q a w := use_found (W := fun c => Code.wp P c Q a w) h hd
def onlyN (K : Act → World → Prop) : Exit → Act → World → Prop
  | .normal, a, w => K a w
  | _, _, _ => False
theorem wp_only {P : Program} {c : Code} {Q : Exit → Act → World → Prop} {a : Act} {w : World} (h : Code.wp P c (onlyN (Q .normal)) a w) : Code.wp P c Q a w :=
  wp_mono h fun e a w h => by cases e <;> first | exact h | exact h.elim
def chsV (n R k : Nat) (ca : Nat → Nat) : Array Value := ((List.range n).map fun j => if j < k then Value.slice (some ⟨ca j, 0, none⟩) R R else .slice none 0 0).toArray
theorem made1 (v : Value) (n : Nat) : madeCells #[v] n = (List.replicate n v).toArray := by
  apply Array.ext_getElem?
  intro j
  rcases Nat.lt_or_ge j n with h | h
  · simp [madeCells, h, Nat.mod_one]
  · rw [Array.getElem?_eq_none (by simp [madeCells]; omega), Array.getElem?_eq_none (by simp; omega)]
theorem chs0 (n R : Nat) (ca : Nat → Nat) : chsV n R 0 ca = madeCells #[.slice none 0 0] n := by
  rw [made1]
  unfold chsV
  congr 1
  apply List.ext_getElem (by simp)
  intro j h1 h2
  simp
/-- What lies in memory while the counts are laid. -/
structure LayR (wa : World) (n R fb b1 b3 b6 b8 bx bp : Nat) (fcs : Array Value) (k : Nat) (ca : Nat → Nat) (V : World) : Prop where
  bel : Below wa.heap.size wa V
  fb : Whl V fb 48 fcs
  ib : AtB wa V b1 26 (madeCells #[.slice none 0 0] n)
  chb : AtB wa V b3 44 (chsV n R k ca)
  mb : AtB wa V b6 4 (madeCells #[.bool false] n)
  jb : AtB wa V b8 3 (madeCells #[.int .i64 0] n)
  xb : AtB wa V bx 69 #[.slice (some ⟨b1, 0, none⟩) n n, .slice (some ⟨b3, 0, none⟩) n n, .slice (some ⟨b6, 0, none⟩) n n, .slice (some ⟨b8, 0, none⟩) n n]
  pb : AtB wa V bp 66 #[.pointer (some ⟨bx, 0, none⟩)]
  cs : ∀ j, j < k → AtB wa V (ca j) 3 (madeCells #[.int .i64 0] R)
  ne : ∀ j, j < k → ca j ≠ b8
  inj : ∀ i j, i < k → j < k → ca i = ca j → i = j
theorem LayR.step {wa V : World} {n R fb b1 b3 b6 b8 bx bp k : Nat} {fcs : Array Value} {ca : Nat → Nat} (h : LayR wa n R fb b1 b3 b6 b8 bx bp fcs k ca V) (hk : k < n) :
    LayR wa n R fb b1 b3 b6 b8 bx bp fcs (k + 1) (fun j => if j = k then V.heap.size else ca j) ((V.drew.alloc (.cells (madeCells #[.int .i64 0] R) 3)).setCell ⟨b3, k, none⟩ (.slice (some ⟨V.heap.size, 0, none⟩) R R)) := by
  have hd := h.bel.drew
  have n1 := whl_apart h.ib.2 h.chb.2 (by decide)
  have n2 := whl_apart h.mb.2 h.chb.2 (by decide)
  have n3 := whl_apart h.jb.2 h.chb.2 (by decide)
  have n4 := whl_apart h.xb.2 h.chb.2 (by decide)
  have n5 := whl_apart h.pb.2 h.chb.2 (by decide)
  have n6 := whl_apart h.fb h.chb.2 (by decide)
  have n8 : V.heap.size ≠ b3 := fun e => by have := h.chb.2.lt; omega
  have al : ∀ {b t cs}, AtB wa V b t cs → b ≠ b3 → AtB wa ((V.drew.alloc (.cells (madeCells #[.int .i64 0] R) 3)).setCell ⟨b3, k, none⟩ (.slice (some ⟨V.heap.size, 0, none⟩) R R)) b t cs := fun hb hne => ⟨hb.1, (Whl.alloc (w := V.drew) hb.2 _).far hne _⟩
  refine ⟨(below_alloc hd _).setCell (p := ⟨b3, k, none⟩) h.chb.1 _, (Whl.alloc (w := V.drew) h.fb _).far n6 _, al h.ib n1, ⟨h.chb.1, ?_⟩, al h.mb n2, al h.jb n3, al h.xb n4, al h.pb n5, fun j hj => ?_, fun j hj => ?_, fun i j hi hj e => ?_⟩
  · have h1 := (Whl.alloc (w := V.drew) h.chb.2 (.cells (madeCells #[.int .i64 0] R) 3)).put k (.slice (some ⟨V.heap.size, 0, none⟩) R R)
    have e : (chsV n R k ca).setIfInBounds k (.slice (some ⟨V.heap.size, 0, none⟩) R R) = chsV n R (k + 1) (fun j => if j = k then V.heap.size else ca j) := by
      unfold chsV
      rw [List.setIfInBounds_toArray]
      congr 1
      apply List.ext_getElem?
      intro j
      rw [List.getElem?_set, List.getElem?_map, List.getElem?_map]
      by_cases hj : j < n
      · rw [List.getElem?_range hj]
        by_cases e : k = j
        · subst e; simp [hk]
        · rw [if_neg e]
          have e1 : j ≠ k := fun q => e q.symm
          have e2 : (j < k + 1) ↔ (j < k) := by omega
          simp only [Option.map_some, e1, if_false, e2]
      · rw [List.getElem?_eq_none (by simp; omega), if_neg (by omega)]
        rfl
    rw [← e]; exact h1
  · by_cases e : j = k
    · subst e
      rw [if_pos rfl]
      have hw : Whl (V.drew.alloc (.cells (madeCells #[.int .i64 0] R) 3)) V.heap.size 3 (madeCells #[.int .i64 0] R) := Whl.new V.drew _ _
      exact ⟨h.bel.size, hw.far n8 _⟩
    · rw [if_neg e]
      have hb := h.cs j (by omega)
      exact al hb (whl_apart hb.2 h.chb.2 (by decide))
  · have := h.jb.2.lt
    by_cases e : j = k
    · rw [if_pos e]; omega
    · rw [if_neg e]; exact h.ne j (by omega)
  · have hlt : ∀ q, q < k → ca q < V.heap.size := fun q hq => (h.cs q hq).2.lt
    by_cases e1 : i = k <;> by_cases e2 : j = k
    · omega
    · rw [if_pos e1, if_neg e2] at e; have := hlt j (by omega); omega
    · rw [if_neg e1, if_pos e2] at e; have := hlt i (by omega); omega
    · rw [if_neg e1, if_neg e2] at e; exact h.inj i j (by omega) (by omega) e
end Go.Proofs.YtddobhneplfddaaDoor

namespace Go.Proofs.YtddobhneplfddaaDoor
set_option maxRecDepth 100000
open Go.RowKit
set_option linter.unusedSimpArgs false
set_option linter.unusedVariables false
def lay0 (b1 b3 b6 b8 g cp : Nat) (ca : Nat → Nat) : Lay := ⟨b1, b3, b6, b8, fun _ => g, fun _ => cp, ca⟩
def bareD (n R : Nat) : StD := { ins := List.replicate n none, marked := List.replicate n false, joined := List.replicate n 0, changes := List.replicate n (List.replicate R 0) }
theorem getD_rep {α : Type} (n i : Nat) (v d : α) (h : i < n) : (List.replicate n v).getD i d = v := by
  rw [List.getD_eq_getElem?_getD, List.getElem?_replicate, if_pos h]; rfl
theorem getD_rep_none {α : Type} (n i : Nat) : (List.replicate n (none : Option α)).getD i none = none := by
  rw [List.getD_eq_getElem?_getD, List.getElem?_replicate]; split <;> rfl
theorem emptyP {wa V : World} {B n R fb b1 b3 b6 b8 bx bp g cp : Nat} {fcs : Array Value} {ca : Nat → Nat} (h : LayR wa n R fb b1 b3 b6 b8 bx bp fcs n ca V) (hB : B ≤ wa.heap.size) :
    StP V B n R bx (lay0 b1 b3 b6 b8 g cp ca) (bareD n R) := by
  refine ⟨h.xb.2, ?_, ?_, ?_, ?_, fun i l hl => ?_, fun i hi => ?_, fun i hi => h.ne i hi, fun i j hi hj e => h.inj i j hi hj e, fun i j l m hl => ?_, fun k hk => ?_⟩
  · have e : (List.range n).map (inV (lay0 b1 b3 b6 b8 g cp ca) R (bareD n R)) = List.replicate n (.slice none 0 0) := by
      apply List.ext_getElem (by simp)
      intro j h1 h2
      simp only [List.getElem_map, List.getElem_replicate, inV]
      rw [show (bareD n R).ins = List.replicate n none from rfl, getD_rep_none]
    show Whl V b1 _ _
    rw [e, ← made1]
    exact h.ib.2
  · have e : ((List.range n).map (chV (lay0 b1 b3 b6 b8 g cp ca) R)).toArray = chsV n R n ca := by
      unfold chsV
      congr 1
      apply List.map_congr_left
      intro j hj
      rw [if_pos (List.mem_range.1 hj)]; rfl
    show Whl V b3 _ _
    rw [e]
    exact h.chb.2
  · have := h.mb.2
    rw [made1] at this
    show Whl V b6 _ _
    simpa [bareD] using this
  · have := h.jb.2
    rw [made1] at this
    show Whl V b8 _ _
    simpa [bareD, cellsN] using this
  · rw [show (bareD n R).ins = List.replicate n none from rfl, getD_rep_none] at hl; cases hl
  · have := (h.cs i hi).2
    rw [made1] at this
    rw [show (bareD n R).changes = List.replicate n (List.replicate R 0) from rfl, getD_rep _ _ _ _ hi]
    show Whl V (ca i) _ _
    simpa [cellsN] using this
  · rw [show (bareD n R).ins = List.replicate n none from rfl, getD_rep_none] at hl; cases hl
  · rcases hk with q | q | q | q | q | ⟨i, hi, q⟩ | ⟨i, l, hl, q⟩
    · have := h.xb.1; omega
    · have := h.ib.1; have e : k = b1 := q; omega
    · have := h.chb.1; have e : k = b3 := q; omega
    · have := h.mb.1; have e : k = b6 := q; omega
    · have := h.jb.1; have e : k = b8 := q; omega
    · have := (h.cs i hi).1; have e : k = ca i := q; omega
    · rw [show (bareD n R).ins = List.replicate n none from rfl, getD_rep_none] at hl; cases hl
theorem startP {wa V W2 : World} {B n R fb b1 b3 b6 b8 bx bp g cp : Nat} {fcs : Array Value} {ca : Nat → Nat} {F : FuncD} (h : LayR wa n R fb b1 b3 b6 b8 bx bp fcs n ca V) (hB : B ≤ wa.heap.size) (hn0 : 0 < n) (hb : Below V.heap.size V W2) (hg : V.heap.size ≤ g)
    (hr : RowE W2 g cp (beginD F)) (hc : R ≤ cp) (hm : cp ≤ maxLen) (hN : F.code.length = n) (hR : F.regs.toNat = R) :
    StP ((W2.setCell ⟨b1, 0, none⟩ (.slice (some ⟨g, 0, none⟩) R cp)).setCell ⟨b6, 0, none⟩ (.bool true)) B n R bx (StP.lay' (lay0 b1 b3 b6 b8 g cp ca) 0 g cp) (startD F) := by
  have h0 := emptyP (g := g) (cp := cp) (B := B) h hB
  have hlt : ∀ k, (lay0 b1 b3 b6 b8 g cp ca).has bx n (bareD n R) k → k < V.heap.size := fun k hk => h0.lt hk
  have h1 := h0.below' hb
  have h2 := h1.setIns (i := 0) (g := g) (c := cp) (nx := beginD F) (by simp [bareD]) hn0 (getD_rep_none _ _) hr hc hm (fun hh => by have := hlt g hh; omega) (by have := h.bel.size; omega)
  have h3 := h2.setMark 0 true
  have e : startD F = { ins := (bareD n R).ins.set 0 (some (beginD F)), marked := (bareD n R).marked.set 0 true, joined := (bareD n R).joined, changes := (bareD n R).changes } := by
    unfold startD bareD
    rw [hN, hR]
  rw [e]
  exact h3
set_option maxHeartbeats 1000000 in
theorem roundsF (sb : Nat) (w : World) : Calls Tryd.prog 34 #[.pointer (some ⟨sb, 0, none⟩)] w fun e w' =>
    e = .returned (.func (.func 60) #[] #[.pointer (some ⟨w.heap.size, 0, none⟩)]) ∧ w.alloc (.cells #[.pointer (some ⟨sb, 0, none⟩)] 66) = w' := by
  go_enter Tryd.func34, Tryd.ntmps34
  go_wp2
  go_ret
  exact ⟨rfl, rfl⟩
end Go.Proofs.YtddobhneplfddaaDoor

namespace Go.Proofs.YtddobhneplfddaaDoor
set_option maxRecDepth 100000
open Go.RowKit
set_option linter.unusedSimpArgs false
set_option linter.unusedVariables false
theorem stepD_snoc (m : ModD) (f : FuncD) (frm : Nat) (inn : List Sp) (tw : Int) : ∀ (l : List Int) (s : StD), stepD m f frm inn (l ++ [tw]) s = match awayD m f frm tw (nthX f.code frm) inn with
    | none => stepD m f frm inn l s
    | some out => mergeD (stepD m f frm inn l s) tw.toNat out m.ths
  | [], s => by
    simp only [List.nil_append, stepD]
    cases awayD m f frm tw (nthX f.code frm) inn <;> rfl
  | b :: l, s => by
    rw [List.cons_append, stepD, stepD_snoc m f frm inn tw l]
    rw [stepD]
theorem RowE.rowsAt {w : World} {g cp B : Nat} {r : List Sp} (h : RowE w g cp r) (hB : g < B) : RowsAt w B (some ⟨g, 0, none⟩) r.length 2 fun k => spV (nthS r k) := fun h0 => ⟨g, 0, rfl, hB, fun k hk j hj => by
    obtain ⟨a, b, _, _⟩ := cellsE h hk
    have e : nthS r k = r.getD k z0 := by simp [nthS, List.getD_eq_getElem?_getD, List.getElem?_eq_getElem hk]
    show w.cell? _ = some (spV (nthS r k) j)
    rw [e]
    have hj2 : j = 0 ∨ j = 1 := by omega
    rcases hj2 with rfl | rfl
    · rw [show 0 + k * 2 + 0 = k * 2 by omega]; exact a
    · rw [show 0 + k * 2 + 1 = k * 2 + 1 by omega]; exact b⟩
/-- A whole block of a type that the state has none of is no part of the state. -/
theorem whl_out {W : World} {B n R sb b : Nat} {L : Lay} {s : StD} {t : TypeId} {cs : Array Value} (h : StP W B n R sb L s) (hb : Whl W b t cs) (h1 : t ≠ 69) (h2 : t ≠ 26) (h3 : t ≠ 44) (h4 : t ≠ 4) (h5 : t ≠ 3) (h6 : t ≠ 34) : ¬ L.has sb n s b := by
  rintro (q | q | q | q | q | ⟨i, hi, q⟩ | ⟨i, l, hl, q⟩)
  · exact whl_apart hb h.st h1 q
  · exact whl_apart hb h.ins h2 q
  · exact whl_apart hb h.chs h3 q
  · exact whl_apart hb h.mks h4 q
  · exact whl_apart hb h.jns h5 q
  · exact whl_apart hb (h.cnts i hi) h5 q
  · obtain ⟨cur, hw⟩ := row_whl (h.rows i l hl).1
    exact whl_apart hb hw h6 q
/-- What stands between the rounds. -/
structure RunI (w : World) (n R bx f7 bp br b : Nat) (mcs fcs : Array Value) (s : StD) (W : World) : Prop where
  st : ∃ L, StP W w.heap.size n R bx L s ∧ ¬ L.has bx n s b ∧ ¬ L.has bx n s (b + 1)
  bel : Below w.heap.size w W
  mb : Whl W w.heap.size 25 mcs
  rb : Whl W (w.heap.size + 1) 39 #[.slice none 0 0, .slice none 0 0]
  fb : Whl W f7 48 fcs
  pb : Whl W bp 66 #[.pointer (some ⟨bx, 0, none⟩)]
  it : Whl W br 66 #[.pointer (some ⟨bx, 0, none⟩)]
end Go.Proofs.YtddobhneplfddaaDoor

namespace Go.Proofs.YtddobhneplfddaaDoor
set_option maxRecDepth 100000
open Go.RowKit
set_option linter.unusedSimpArgs false
set_option linter.unusedVariables false
/-- The state, where it lies; other blocks that stay as they were. -/
structure VisL (w V0 : World) (n R bx : Nat) (K : List Nat) (L : Lay) (s : StD) (V : World) : Prop where
  st : StP V w.heap.size n R bx L s
  far : ∀ k, k ∈ K → ¬ L.has bx n s k
  bel : Below w.heap.size w V
  size : V0.heap.size ≤ V.heap.size
  same : ∀ k, k ∈ K → k < V.heap.size ∧ V.heap[k]? = V0.heap[k]?
namespace VisL
variable {w V0 V V1 V2 V3 : World} {n R bx : Nat} {K : List Nat} {L : Lay} {s s' : StD} {g : Nat} {e : Ending}
theorem below (h : VisL w V0 n R bx K L s V) (hb : Below V.heap.size V V1) : VisL w V0 n R bx K L s V1 :=
  ⟨h.st.below' hb, h.far, h.bel.trans (hb.mono h.bel.size), Nat.le_trans h.size hb.size, fun k hk => ⟨Nat.lt_of_lt_of_le (h.same k hk).1 hb.size, (hb.block k (h.same k hk).1).trans (h.same k hk).2⟩⟩
theorem whl (h : VisL w V0 n R bx K L s V) {k : Nat} {t : TypeId} {cs : Array Value} (hk : k ∈ K) (hw : Whl V0 k t cs) : Whl V k t cs := (h.same k hk).2.trans hw
theorem fresh (h : VisL w V0 n R bx K L s V) (hg : V.heap.size ≤ g) : ¬ L.has bx n s g := fun q => by have := h.st.lt q; omega
theorem merged (h : VisL w V0 n R bx K L s V2) (hg : ∀ k, k ∈ K → k ≠ g) (hm : MergeOk w.heap.size n R bx L s s' g V2 e V3) : ∃ L', VisL w V0 n R bx K L' s' V3 := by
  obtain ⟨_, hb, L', hS, hk, hl⟩ := hm
  refine ⟨L', hS, fun k hkk q => ?_, h.bel.trans hb, Nat.le_trans h.size hb.size, fun k hkk => ⟨Nat.lt_of_lt_of_le (h.same k hkk).1 hb.size, (hk k (h.same k hkk).1 (h.far k hkk)).trans (h.same k hkk).2⟩⟩
  rcases hl k q with q | q
  · exact h.far k hkk q
  · exact hg k hkk q
/-- How it stands ahead of the first way. -/
theorem start {W1 : World} {b f7 bp br g0 tb : Nat} {mcs fcs it : Array Value} (hS : StP W1 w.heap.size n R bx L s) (hB : Below w.heap.size w W1) (M1 : Whl W1 w.heap.size 25 mcs) (A1 : Whl W1 (w.heap.size + 1) 39 it) (F1 : Whl W1 f7 48 fcs)
    (P1 : Whl W1 bp 66 #[.pointer (some ⟨bx, 0, none⟩)]) (I1 : Whl W1 br 66 #[.pointer (some ⟨bx, 0, none⟩)]) (hb1 : ¬ L.has bx n s b) (hb2 : ¬ L.has bx n s (b + 1)) (hbl : b + 1 < W1.heap.size)
    (hg0 : W1.heap.size ≤ g0) (htb : W1.heap.size ≤ tb) (hV : Below W1.heap.size W1 V0) (hg1 : g0 < V0.heap.size) (ht1 : tb < V0.heap.size) :
    VisL w V0 n R bx [w.heap.size, w.heap.size + 1, f7, bp, br, b, b + 1, g0, tb] L s V0 := by
  refine ⟨hS.below' hV, fun k hk => ?_, hB.trans (hV.mono hB.size), Nat.le_refl _, fun k hk => ⟨?_, rfl⟩⟩
  · simp only [List.mem_cons, List.not_mem_nil, or_false] at hk
    rcases hk with rfl | rfl | rfl | rfl | rfl | rfl | rfl | rfl | rfl
    · exact whl_out hS M1 (by decide) (by decide) (by decide) (by decide) (by decide) (by decide)
    · exact whl_out hS A1 (by decide) (by decide) (by decide) (by decide) (by decide) (by decide)
    · exact whl_out hS F1 (by decide) (by decide) (by decide) (by decide) (by decide) (by decide)
    · exact whl_out hS P1 (by decide) (by decide) (by decide) (by decide) (by decide) (by decide)
    · exact whl_out hS I1 (by decide) (by decide) (by decide) (by decide) (by decide) (by decide)
    · exact hb1
    · exact hb2
    · exact fun q => by have := hS.lt q; omega
    · exact fun q => by have := hS.lt q; omega
  · simp only [List.mem_cons, List.not_mem_nil, or_false] at hk
    have := hV.size
    have := M1.lt
    have := A1.lt
    have := F1.lt
    have := P1.lt
    have := I1.lt
    rcases hk with rfl | rfl | rfl | rfl | rfl | rfl | rfl | rfl | rfl <;> omega
/-- What is left behind the last way. -/
theorem done {W W1 : World} {b f7 bp br g0 tb : Nat} {mcs fcs : Array Value} (h : VisL w V0 n R bx [w.heap.size, w.heap.size + 1, f7, bp, br, b, b + 1, g0, tb] L s V) (M1 : Whl W1 w.heap.size 25 mcs) (A1 : Whl W1 (w.heap.size + 1) 39 #[.slice none 0 0, .slice none 0 0]) (F1 : Whl W1 f7 48 fcs)
    (P1 : Whl W1 bp 66 #[.pointer (some ⟨bx, 0, none⟩)]) (I1 : Whl W1 br 66 #[.pointer (some ⟨bx, 0, none⟩)]) (hV : Below W1.heap.size W1 V0) (hbl : b + 1 < W1.heap.size) (e1 : W1.heap.size = W.heap.size) (eb : ∀ k, k = b ∨ k = b + 1 → W1.heap[k]? = W.heap[k]?) :
    KeepM b W V ∧ RunI w n R bx f7 bp br b mcs fcs s V := by
  have key : ∀ {k t cs}, k ∈ [w.heap.size, w.heap.size + 1, f7, bp, br, b, b + 1, g0, tb] → Whl W1 k t cs → Whl V k t cs := fun hk hw => h.whl hk (hw.below' hV)
  refine ⟨⟨by have := h.size; have := hV.size; omega, fun k hk => ?_⟩, ⟨L, h.st, h.far _ (by simp), h.far _ (by simp)⟩, h.bel, key (by simp) M1, key (by simp) A1, key (by simp) F1, key (by simp) P1, key (by simp) I1⟩
  have hm : k ∈ [w.heap.size, w.heap.size + 1, f7, bp, br, b, b + 1, g0, tb] := by rcases hk with rfl | rfl <;> simp
  rw [(h.same k hm).2, hV.block k (by rcases hk with rfl | rfl <;> omega), eb k hk]
end VisL
/-- A row of whole numbers that the call has made, in a block of its own. -/
def RowI (w : World) (tb : Nat) (l : List Int) : Prop := ∃ cur, Whl w tb 3 cur ∧ ∀ k, k < l.length → cur[k]? = some (.int .i64 (l.getD k 0))
theorem RowI.cell {w : World} {tb : Nat} {l : List Int} (h : RowI w tb l) {k : Nat} (hk : k < l.length) : w.cell? ⟨tb, k, none⟩ = some (.int .i64 (l.getD k 0)) := by
  obtain ⟨cur, hw, hc⟩ := h
  rw [hw.cell]; exact hc k hk
theorem RowI.whl {w : World} {tb : Nat} {l : List Int} (h : RowI w tb l) : ∃ cur, Whl w tb 3 cur := by obtain ⟨cur, hw, _⟩ := h; exact ⟨cur, hw⟩
theorem rowI_of_own {w : World} {base c : Nat} {A : Option Addr} {l : List Int} (h : OwnI w base (.slice A l.length c) l) (h0 : 0 < l.length) : ∃ tb, A = some ⟨tb, 0, none⟩ ∧ base ≤ tb ∧ RowI w tb l := by
  rcases h.2 with ⟨_, e0⟩ | ⟨g, cap, cur, e0, hb, hh, _, _, _, ht⟩
  · omega
  · cases e0
    refine ⟨g, rfl, hb, cur, hh, fun k hk => ?_⟩
    have e : (l.map (Value.int .i64))[k]? = some (.int .i64 (l.getD k 0)) := by
      rw [List.getElem?_map, List.getD_eq_getElem?_getD, List.getElem?_eq_getElem hk]; rfl
    rw [← ht, List.getElem?_take] at e
    split at e
    · simpa using e
    · cases e
theorem stepD_take (m : ModD) (f : FuncD) (frm : Nat) (inn : List Sp) (l : List Int) (s : StD) {k : Nat} (hk : k < l.length) : stepD m f frm inn (l.take (k + 1)) s = match awayD m f frm (l.getD k 0) (nthX f.code frm) inn with
    | none => stepD m f frm inn (l.take k) s
    | some out => mergeD (stepD m f frm inn (l.take k) s) (l.getD k 0).toNat out m.ths := by
  have e : l.take (k + 1) = l.take k ++ [l.getD k 0] := by
    rw [List.take_succ_eq_append_getElem hk, List.getD_eq_getElem?_getD, List.getElem?_eq_getElem hk]; rfl
  rw [e, stepD_snoc]
  all_goals cases awayD m f (frm : Int) (l.getD k 0) (nthX f.code frm) inn <;> rfl
end Go.Proofs.YtddobhneplfddaaDoor

namespace Go.Proofs.YtddobhneplfddaaDoor
set_option maxRecDepth 100000
open Go.RowKit Go.Shelf
set_option linter.unusedSimpArgs false
set_option linter.unusedVariables false
attribute [local go_sem] Oper.semAt_some
set_option maxHeartbeats 4000000 in
theorem visitP0 {w W : World} {n R bx f7 bp br b i l : Nat} {m : ModD} {F : FuncD} {mcs fcs : Array Value} {s : StD} {pre : List Nat} {x0 x1 x3 x4 x5 x6 x8 x10 x12 x13 x14 x15 x16 x17 x18 x19 x20 x21 x22 x23 x24 x25 x26 x27 x28 x29 x30 x31 x32 x33 x34 x35 x36 x37 x38 x39 x40 x41 x42 x43 x44 x45 x46 x47 x48 x49 x50 x51 x52 x53 x54 x55 x56 x57 x58 x59 x60 x61 x62 x63 x64 x65 x66 x67 x68 x69 x70 x71 x72 x73 x74 x75 x76 x77 x78 x79 x80 x81 x82 x83 x84 x85 x86 x87 x88 x89 x90 x91 x92 x93 x94 x95 x96 x97 x98 x99 x100 x101 x102 x103 x104 x105 x106 x107 x108 x109 x110 x111 x112 x113 x114 x115 x116 x117 x118 x119 x120 x121 x122 x123 x124 x125 x126 x127 x128 x129 x130 x131 x132 x133 x134 x135 x136 x137 x138 x139 x140 x141 x142 : Value} (h : RunI w n R bx f7 bp br b mcs fcs s W) (hn : n ≤ 1024) (hi : i < n) (hl : s.marked.length = n) (hm : s.marked.getD i false = false) :
    ∃ c, findB (bodyOf Tryd.f15) = some c ∧ c.wpIn (Fence.wide.inRound l) 8 Tryd.prog (postM b (fun (_ : List Nat) V => RunI w n R bx f7 bp br b mcs fcs (visitD m F s i) V) pre W) { tmps := #[x0, x1, .pointer (some ⟨w.heap.size, 0, none⟩), x3, x4, x5, x6, .pointer (some ⟨f7, 0, none⟩), x8, .pointer (some ⟨bp, 0, none⟩), x10, .int .i64 (i : Int), x12, x13, x14, x15, x16, x17, x18, x19, x20, x21, x22, x23, x24, x25, x26, x27, x28, x29, x30, x31, x32, x33, x34, x35, x36, x37, x38, x39, x40, x41, x42, x43, x44, x45, x46, x47, x48, x49, x50, x51, x52, x53, x54, x55, x56, x57, x58, x59, x60, x61, x62, x63, x64, x65, x66, x67, x68, x69, x70, x71, x72, x73, x74, x75, x76, x77, x78, x79, x80, x81, x82, x83, x84, x85, x86, x87, x88, x89, x90, x91, x92, x93, x94, x95, x96, x97, x98, x99, x100, x101, x102, x103, x104, x105, x106, x107, x108, x109, x110, x111, x112, x113, x114, x115, x116, x117, x118, x119, x120, x121, x122, x123, x124, x125, x126, x127, x128, x129, x130, x131, x132, x133, x134, x135, x136, x137, x138, x139, x140, x141, x142], defers := [] } W := by
  refine ⟨_, rfl, ?_⟩
  have H := Lib.hid h
  obtain ⟨L, hS, hb1, hb2⟩ := h.st
  have c0 := h.pb.cell 0
  have c1 := hS.c2
  have c2 := hS.mksC (i := i) (by omega)
  rw [hm] at c2
  simp only [List.getElem?_toArray, List.getElem?_cons_zero, List.getElem?_cons_succ] at c0
  have hii : (i : Int) < (n : Int) := by omega
  have HV := Lib.hid (visit_no (m := m) (f := F) hm)
  clear h hS hm
  gi_wp2
  refine ⟨⟨Nat.le_refl _, fun _ _ => rfl⟩, ?_⟩
  rw [HV.out]
  exact H.out
end Go.Proofs.YtddobhneplfddaaDoor

namespace Go.Proofs.YtddobhneplfddaaDoor
set_option maxRecDepth 100000
open Go.RowKit Go.Shelf
set_option linter.unusedSimpArgs false
set_option linter.unusedVariables false
attribute [local go_sem] Oper.semAt_some
set_option maxHeartbeats 8000000 in
theorem visitP1 {w W : World} {R bx f7 bp br b i l kf : Nat} {m : ModD} {F : FuncD} {s : StD} {pre : List Nat} {x0 x1 x3 x4 x5 x6 x8 x10 x12 x13 x14 x15 x16 x17 x18 x19 x20 x21 x22 x23 x24 x25 x26 x27 x28 x29 x30 x31 x32 x33 x34 x35 x36 x37 x38 x39 x40 x41 x42 x43 x44 x45 x46 x47 x48 x49 x50 x51 x52 x53 x54 x55 x56 x57 x58 x59 x60 x61 x62 x63 x64 x65 x66 x67 x68 x69 x70 x71 x72 x73 x74 x75 x76 x77 x78 x79 x80 x81 x82 x83 x84 x85 x86 x87 x88 x89 x90 x91 x92 x93 x94 x95 x96 x97 x98 x99 x100 x101 x102 x103 x104 x105 x106 x107 x108 x109 x110 x111 x112 x113 x114 x115 x116 x117 x118 x119 x120 x121 x122 x123 x124 x125 x126 x127 x128 x129 x130 x131 x132 x133 x134 x135 x136 x137 x138 x139 x140 x141 x142 : Value} (wm : m.Wf) (hmay : mayD m = ⟨0, 0, 0⟩) (hkm : kf < m.funcs.length) (hF : nthF m.funcs kf = F) (hM : ModOk w w.heap.size m) (hRR : F.regs = (R : Int))
    (h : RunI w F.code.length R bx f7 bp br b #[.slice m.ta m.ths.length m.tc, .slice m.fa m.funcs.length m.fc] #[.string F.name, .slice F.pa F.params.length F.pc, .int .i64 (R : Int), .int .i64 F.words, .slice F.ca F.code.length F.cc] s W) (hi : i < F.code.length) (hg : GoodS m F s) (hm : s.marked.getD i false = true) (hbl : b + 1 < W.heap.size) :
    ∃ c, findB (bodyOf Tryd.f15) = some c ∧ c.wpIn (Fence.wide.inRound l) 8 Tryd.prog (postM b (fun (_ : List Nat) V => RunI w F.code.length R bx f7 bp br b #[.slice m.ta m.ths.length m.tc, .slice m.fa m.funcs.length m.fc] #[.string F.name, .slice F.pa F.params.length F.pc, .int .i64 (R : Int), .int .i64 F.words, .slice F.ca F.code.length F.cc] (visitD m F s i) V) pre W) { tmps := #[x0, x1, .pointer (some ⟨w.heap.size, 0, none⟩), x3, x4, x5, x6, .pointer (some ⟨f7, 0, none⟩), x8, .pointer (some ⟨bp, 0, none⟩), x10, .int .i64 (i : Int), x12, x13, x14, x15, x16, x17, x18, x19, x20, x21, x22, x23, x24, x25, x26, x27, x28, x29, x30, x31, x32, x33, x34, x35, x36, x37, x38, x39, x40, x41, x42, x43, x44, x45, x46, x47, x48, x49, x50, x51, x52, x53, x54, x55, x56, x57, x58, x59, x60, x61, x62, x63, x64, x65, x66, x67, x68, x69, x70, x71, x72, x73, x74, x75, x76, x77, x78, x79, x80, x81, x82, x83, x84, x85, x86, x87, x88, x89, x90, x91, x92, x93, x94, x95, x96, x97, x98, x99, x100, x101, x102, x103, x104, x105, x106, x107, x108, x109, x110, x111, x112, x113, x114, x115, x116, x117, x118, x119, x120, x121, x122, x123, x124, x125, x126, x127, x128, x129, x130, x131, x132, x133, x134, x135, x136, x137, x138, x139, x140, x141, x142], defers := [] } W := by
  refine ⟨_, rfl, ?_⟩
  obtain ⟨l0, hl0, hlen, hgd⟩ := row_at hg hm
  have hv := visit_yes (m := m) (f := F) hm
  rw [hl0] at hv
  simp only [Option.getD_some] at hv
  have hn1 := (f_ok2 hmay hkm).2.1
  have hr1 := (f_ok hmay hkm).regs
  rw [hF] at hn1 hr1
  have hgu := unmark_good hg i
  obtain ⟨L, hS, hb1, hb2⟩ := h.st
  have c0 := h.pb.cell 0
  have c1 := hS.c2
  have c2 := hS.mksC (i := i) (by rw [hg.ok.lm]; exact hi)
  have z2 := hS.mks.frozen i
  rw [hm] at c2
  simp only [List.getElem?_toArray, List.getElem?_cons_zero, List.getElem?_cons_succ] at c0
  have hii : (i : Int) < (F.code.length : Int) := by omega
  obtain rfl : l0.length = R := by omega
  have hR1 : 0 < l0.length := by omega
  have hR64 : l0.length ≤ 64 := by omega
  have hSm := hS.setMark i false
  have nm : ∀ {q t cs}, Whl W q t cs → t ≠ 4 → q ≠ L.mkb := fun hq ht => whl_apart hq hS.mks ht
  have P1 := h.pb.far (p := ⟨L.mkb, i, none⟩) (nm h.pb (by decide)) (.bool false)
  have d0 := P1.cell 0
  have d1 := hSm.c0
  have d3 := hSm.insC hi
  have lmk := hS.mks.lt
  have lpb := h.pb.lt
  have lst := hSm.st.lt
  have lin := hSm.ins.lt
  obtain ⟨W1, hW1⟩ : ∃ W1, W.setCell ⟨L.mkb, i, none⟩ (.bool false) = W1 := ⟨_, rfl⟩
  rw [hW1] at hSm P1
  have hrow := (hSm.rows i l0 hl0).1
  have F1 := h.fb.far (p := ⟨L.mkb, i, none⟩) (nm h.fb (by decide)) (.bool false)
  have M1 := h.mb.far (p := ⟨L.mkb, i, none⟩) (nm h.mb (by decide)) (.bool false)
  have A1 := h.rb.far (p := ⟨L.mkb, i, none⟩) (nm h.rb (by decide)) (.bool false)
  have I1 := h.it.far (p := ⟨L.mkb, i, none⟩) (nm h.it (by decide)) (.bool false)
  have B1 : Below w.heap.size w (W.setCell ⟨L.mkb, i, none⟩ (.bool false)) := h.bel.setCell (hS.old _ (.inr (.inr (.inr (.inl rfl))))) _
  have e1 : ∀ k, k ≠ L.mkb → (W.setCell ⟨L.mkb, i, none⟩ (.bool false)).heap[k]? = W.heap[k]? := fun k hk => Below.heap_setCell _ _ _ k hk
  have s1 : (W.setCell ⟨L.mkb, i, none⟩ (.bool false)).heap.size = W.heap.size := by simp
  have nb1 : b ≠ L.mkb := fun e => hb1 (.inr (.inr (.inr (.inl e))))
  have nb2 : b + 1 ≠ L.mkb := fun e => hb2 (.inr (.inr (.inr (.inl e))))
  rw [hW1] at F1 M1 A1 I1 B1 e1 s1
  have hins : ({ s with marked := s.marked.set i false } : StD).ins.getD i none = some l0 := hl0
  simp only [inV, hl0] at d3
  simp only [List.getElem?_toArray, List.getElem?_cons_zero, List.getElem?_cons_succ] at d0
  have HW1 := Lib.hid hW1
  have HH := Lib.hid h
  have HS := Lib.hid hS
  have HSm := Lib.hid hSm
  have HV := Lib.hid hv
  have HF := Lib.hid hF
  have HMY := Lib.hid hmay
  have HRR := Lib.hid hRR
  have HL0 := Lib.hid hl0
  have HLN := Lib.hid hlen
  have HE1 := Lib.hid e1
  have HGU := Lib.hid hgu
  clear h hS hSm hW1 hv hF hmay hRR hl0 hlen nm hins e1 hm hgu hg
  have hM1 : ModOk W1 w.heap.size m := hM.below B1 (Nat.le_refl _)
  have hnx : ∀ k, k < F.code.length → known (nthX F.code k).op = true ∧ (nthX F.code k).Wf := fun k hk => by
    rw [← HF.out] at hk ⊢
    exact ⟨(i_ok ((f_ok HMY.out hkm).ins k hk)).known, (wm.funcs _ (nthF_mem hkm)).code _ (nthX_mem hk)⟩
  have HN := Lib.hid hnx
  have AJ := Lib.hid (fun (too : Int) (g cp : Nat) (hcr : l0.length ≤ cp) (hcp : cp ≤ maxLen) (V : World) (hMV : ModOk V w.heap.size m) (hB : w.heap.size ≤ g) (hBV : w.heap.size ≤ V.heap.size) (hRV : RowS V g cp l0) => awayJ m wm HMY.out hkm (frm := i) (by rw [HF.out]; exact hi) too g cp w.heap.size l0 (by rw [HF.out]; exact HRR.out.symm) hcr hcp (fun k q hq => by have := hgd k; rw [List.getD_eq_getElem?_getD, hq] at this; exact this.2) V hMV hB hBV hRV)
  rw [HF.out] at AJ
  have NX := Lib.hid (fun (V : World) (hIV : InsAt V V.heap.size F.ca F.code) => nextP F (by omega) (i : Int) ⟨by omega, by omega⟩ V hIV HN.out)
  have hval : F.val = .agg #[.string F.name, .slice F.pa F.params.length F.pc, .int .i64 (l0.length : Int), .int .i64 F.words, .slice F.ca F.code.length F.cc] := by rw [FuncD.val, HRR.out]
  simp only [hval] at AJ NX
  clear hval
  have WF : F.Wf := HF.out ▸ wm.funcs _ (nthF_mem hkm)
  have HST := Lib.hid (fun k => (step_ok wm WF hi hgd HLN.out ((nextD F (i : Int)).take k) _ (fun c hc => nextD_lt (List.mem_of_mem_take hc)) HGU.out).1)
  have hf0 := may_few HMY.out
  have HTW := Lib.hid (fun (k : Nat) (hk : k < (nextD F (i : Int)).length) => nextD_lt (f := F) (a := i) (b := (nextD F (i : Int)).getD k 0) (by rw [List.getD_eq_getElem?_getD, List.getElem?_eq_getElem hk]; exact List.getElem_mem hk))
  have HTK := Lib.hid (fun (k : Nat) (hk : k < (nextD F (i : Int)).length) => stepD_take m F i l0 (nextD F (i : Int)) { s with marked := s.marked.set i false } hk)
  have hl2 : (nextD F (i : Int)).length ≤ maxLen := next_len F (i : Int)
  unfold maxLen at hl2
  have HI := Lib.hid (show InsAt W1 W1.heap.size F.ca F.code from by have := ((hM1.each kf hkm).code).more B1.size; rw [HF.out] at this; exact this)
  clear hnx
  gi_wp2_with fail
  refine ⟨trivial, ?_⟩
  gi_at_call 33
  refine (CallsIn.inRound l (callsIn_wide.2 (cloneP (some ⟨L.ga i, 0, none⟩) (L.cp i) l0 (by omega) (fun e => by cases e) _ (by rw [HW1.out]; exact hrow.rowsAt hrow.lt)))).mono ?_
  rw [HW1.out]
  rintro e V1 ⟨v1, rfl, -, own1, hv1⟩
  obtain ⟨g0, cp0, rfl, hgb, hgc, hgm, row0⟩ := outOwn (w := w) (l := l0) (by omega) (by rw [Nat.zero_add, List.nil_append]; exact own1)
  have FV1 := F1.below' hv1
  have q0 := FV1.cell 0
  have q1 := FV1.cell 1
  have q2 := FV1.cell 2
  have q3 := FV1.cell 3
  have q4 := FV1.cell 4
  have lq := FV1.lt
  simp only [List.getElem?_toArray, List.getElem?_cons_zero, List.getElem?_cons_succ] at q0 q1 q2 q3 q4
  have HS1 := Lib.hid s1
  have HB1 := Lib.hid hb1
  have HB2 := Lib.hid hb2
  have HNB1 := Lib.hid nb1
  have HNB2 := Lib.hid nb2
  clear own1 s1 hb1 hb2 nb1 nb2 c0 c1 c2 d0 d1 d3 z2
  gi_wp2_with fail
  refine ⟨trivial, ?_⟩
  gi_at_call 28
  refine (CallsIn.inRound l (callsIn_wide.2 (NX.out _ ((HI.out.below hv1 (Nat.le_refl _)).more hv1.size)))).mono ?_
  rintro e V2 ⟨⟨v2, rfl, own2⟩, hv2⟩
  obtain ⟨A2, c2', rfl, hn2⟩ := own_slice own2
  have hV12 : Below W1.heap.size W1 V2 := hv1.trans (hv2.mono hv1.size)
  have hg1 : g0 < V2.heap.size := Nat.lt_of_lt_of_le row0.lt hv2.size
  have row2 : RowS V2 g0 cp0 l0 := row0.below hv2 row0.lt
  obtain ⟨tb, htb, ht1, hT⟩ : ∃ tb, W1.heap.size ≤ tb ∧ tb < V2.heap.size ∧ (0 < (nextD F (i : Int)).length → A2 = some ⟨tb, 0, none⟩ ∧ RowI V2 tb (nextD F (i : Int))) := by
    by_cases h0 : 0 < (nextD F (i : Int)).length
    · obtain ⟨tb, e, hb, hr⟩ := rowI_of_own own2 h0
      obtain ⟨cur, hw⟩ := hr.whl
      exact ⟨tb, Nat.le_trans hv1.size hb, hw.lt, fun _ => ⟨e, hr⟩⟩
    · exact ⟨g0, hgb, hg1, fun h => absurd h h0⟩
  have HL0' : VisL w V2 F.code.length l0.length bx [w.heap.size, w.heap.size + 1, f7, bp, br, b, b + 1, g0, tb] L { s with marked := s.marked.set i false } V2 :=
    VisL.start HSm.out B1 M1 A1 F1 P1 I1 (fun q => HB1.out ((has_same rfl _).1 q)) (fun q => HB2.out ((has_same rfl _).1 q)) (by have := HS1.out; omega) hgb htb hV12 hg1 ht1
  have MV2 := M1.below' hV12
  have FV2 := F1.below' hV12
  have PV2 := P1.below' hV12
  have HHT := Lib.hid hT
  have HM2 := Lib.hid (hM1.below (hV12.mono B1.size) (Nat.le_refl _))
  clear own2 hT q0 q1 q2 q3 q4 FV1 hn2
  generalize nextD F (i : Int) = tos at *
  gi_wp2_with fail
  gi_loopw [120] (fun ix V => ∃ (k : Nat) (L : Lay), k ≤ tos.length ∧ ix = .int .i64 k ∧ VisL w V2 F.code.length l0.length bx [w.heap.size, w.heap.size + 1, f7, bp, br, b, b + 1, g0, tb] L (stepD m F i l0 (tos.take k) { s with marked := s.marked.set i false }) V) (fun ix _ => tos.length - (intOf ix).toNat)
  case atStart => exact ⟨0, L, Nat.zero_le _, rfl, HL0'⟩
  case round =>
    obtain ⟨k, L3, hk, rfl, hvl⟩ := hrel
    clear HL0'
    by_cases hlt : k < tos.length
    · have hki : (k : Int) < (tos.length : Int) := by omega
      obtain ⟨hA2, hrI⟩ := HHT.out (Nat.lt_of_le_of_lt (Nat.zero_le _) hlt)
      subst hA2
      obtain ⟨tw, htw, htl⟩ : ∃ tw : Nat, tos.getD k 0 = (tw : Int) ∧ tw < F.code.length := by
        have := HTW.out k hlt
        exact ⟨(tos.getD k 0).toNat, by omega, by omega⟩
      have hst := HST.out k
      have hpos : 0 < tos.length := by omega
      have hsn := HTK.out k hlt
      rw [htw] at hsn
      obtain ⟨sk, hsk⟩ : ∃ sk, stepD m F i l0 (tos.take k) { s with marked := s.marked.set i false } = sk := ⟨_, rfl⟩
      rw [hsk] at hst hsn hvl
      obtain ⟨cur, hwt⟩ := hrI.whl
      have tc := hrI.cell hlt
      rw [htw] at tc
      have tc3 : wr.cell? ⟨tb, k, none⟩ = some (.int .i64 (tw : Int)) := by
        have e1 := (hvl.whl (k := tb) (by simp) hwt).cell k
        have e2 := hwt.cell k
        rw [e1, ← e2]; exact tc
      have rw3 : RowS wr g0 cp0 l0 := by
        obtain ⟨cr, hcr, hcc⟩ := row2
        exact ⟨cr, hvl.whl (by simp) hcr, hcc⟩
      have MV3 := hvl.whl (by simp) MV2
      have FV3 := hvl.whl (by simp) FV2
      have PV3 := hvl.whl (by simp) PV2
      have HSN := Lib.hid hsn
      have HST3 := Lib.hid hst
      have HMV3 := Lib.hid (hM.below hvl.bel (Nat.le_refl _))
      have lg0 := rw3.lt
      clear hsk hsn hst tc htw
      gi_wp2_with fail
      refine ⟨trivial, ?_⟩
      gi_at_call 33
      refine (CallsIn.inRound l (callsIn_wide.2 (cloneP (some ⟨g0, 0, none⟩) cp0 l0 (by omega) (fun e => by cases e) _ (rw3.toE.rowsAt lg0)))).mono ?_
      rintro e V3 ⟨v3, rfl, -, own3, hv3⟩
      obtain ⟨g, cp, rfl, hgb3, hgc3, hgm3, row3⟩ := outOwn (w := w) (l := l0) (by omega) (by rw [Nat.zero_add, List.nil_append]; exact own3)
      have MV4 := MV3.below' hv3
      have FV4 := FV3.below' hv3
      have PV4 := PV3.below' hv3
      have q0 := FV4.cell 0
      have q1 := FV4.cell 1
      have q2 := FV4.cell 2
      have q3 := FV4.cell 3
      have q4 := FV4.cell 4
      have m0 := MV4.cell 0
      have m1 := MV4.cell 1
      have lq := FV4.lt
      have lm := MV4.lt
      simp only [List.getElem?_toArray, List.getElem?_cons_zero, List.getElem?_cons_succ] at q0 q1 q2 q3 q4 m0 m1
      have hsz3 := hvl.bel.size
      have hsz4 := hv3.size
      clear own3
      gi_wp2_with fail
      refine ⟨trivial, ?_⟩
      gi_at_call 29
      refine (CallsIn.inRound l (callsIn_wide.2 (AJ.out (tw : Int) g cp hgc3 hgm3 _ (HMV3.out.below (hv3.mono hsz3) (Nat.le_refl _)) (by omega) (by omega) row3))).mono ?_
      rintro e V4 ⟨rfl, ⟨r4, hR4, hrl, hq⟩, hg4⟩
      have hB4 : Below wr.heap.size wr V4 := hv3.trans (belowOfGw hg4 hgb3 hv3.size)
      have VL4 := hvl.below hB4
      have MV5 := MV3.below' hB4
      have PV5 := PV3.below' hB4
      have p0 := PV5.cell 0
      have n0 := MV5.cell 0
      have lm5 := MV5.lt
      simp only [List.getElem?_toArray, List.getElem?_cons_zero, List.getElem?_cons_succ] at p0 n0
      have HR4 := Lib.hid hR4
      have HRL := Lib.hid hrl
      clear q0 q1 q2 q3 q4 m0 m1 tc3 MV4 FV4 PV4 hR4 hg4 row3 hrl
      cases ho : awayD m F i (tw : Int) (nthX F.code i) l0 with
      | none =>
        have e := HSN.out
        rw [ho] at e
        have HE := Lib.hid e
        clear hq e ho
        gi_wp2
        go_roundw
        case rel => exact ⟨k + 1, L3, by omega, by go_num, by rw [HE.out]; exact VL4⟩
        case measure => simp [intOf]; omega
      | some q =>
        have e := HSN.out
        rw [ho] at e
        obtain rfl := hq q ho
        have hrq := HRL.out
        have ga := (away_good (WF.code _ (nthX_mem hi)).2.2.2.2 hgd ho).2
        have HE := Lib.hid e
        have HG := Lib.hid ga
        have HRQ := Lib.hid hrq
        clear hq e ho hrq ga
        gi_wp2_with fail
        refine ⟨trivial, ?_⟩
        gi_at_call 35
        refine (CallsIn.inRound l (callsIn_wide.2 (mergeP w.heap.size F.code.length l0.length bx L3 sk tw g cp m.tc m.ta r4 m.ths _ VL4.st VL4.bel.size (by unfold maxLen; omega) (by omega) (by have := HST3.out.ok; rw [HRR.out, Int.toNat_natCast] at this; exact this) htl HRQ.out HR4.out hgc3 hgm3 (hvl.fresh hgb3) (by omega) hf0.1 (hM.below VL4.bel (Nat.le_refl _)).ths (by
          have := joined_le HST3.out htl
          rw [HRR.out, Int.toNat_natCast] at this
          have h2 : l0.length * (4 + m.ths.length + 2) ≤ 64 * 22 := Nat.mul_le_mul (by omega) (by omega)
          omega)))).mono ?_
        rintro e V5 hmo
        have hvv := hmo.1
        obtain ⟨vv, rfl⟩ := hvv
        obtain ⟨L5, VL5⟩ := VL4.merged (g := g) (fun k hk e => by have := (hvl.same k hk).1; omega) hmo
        clear hmo
        gi_wp2
        go_roundw
        case rel => exact ⟨k + 1, L5, by omega, by go_num, by rw [HE.out]; exact VL5⟩
        case measure => simp [intOf]; omega
    · have hkk : k = tos.length := by omega
      subst hkk
      clear hlt
      gi_wp2
      rw [HV.out]
      rw [List.take_length] at hvl
      exact hvl.done M1 A1 F1 P1 I1 hV12 (by have := HS1.out; omega) HS1.out (fun k hk => HE1.out k (by rcases hk with rfl | rfl; exact HNB1.out; exact HNB2.out))
end Go.Proofs.YtddobhneplfddaaDoor
