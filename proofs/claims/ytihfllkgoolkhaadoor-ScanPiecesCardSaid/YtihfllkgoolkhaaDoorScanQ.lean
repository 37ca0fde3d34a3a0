/-
  Layer 1 (scan), in plain Lean: two sources with a line's end between: their tokens, and their tokens' texts.
-/
import Derived.Test.YtihfllkgoolkhaaDoorScanP
import Derived.Test.YtihfllkgoolkhaaDoorScanN
import Derived.Test.YtihfllkgoolkhaaDoorScanD
namespace Go.Proofs.YtihfllkgoolkhaaDoor
set_option linter.unusedSimpArgs false
set_option linter.unusedVariables false
def joinS (a b : ByteArray) : ByteArray := a ++ { data := #[10] } ++ b
theorem joinS_bytes (a b : ByteArray) : bytesOf (joinS a b) = bytesOf a ++ 10 :: bytesOf b := by
  show (a ++ { data := #[10] } ++ b).data.toList = _
  rw [ByteArray.data_append, ByteArray.data_append, Array.toList_append, Array.toList_append, List.append_assoc]; rfl
theorem joinS_size (a b : ByteArray) : (joinS a b).size = a.size + 1 + b.size := by
  rw [← bytes_len, joinS_bytes, List.length_append, List.length_cons, bytes_len, bytes_len]; omega
theorem scanD_join (a b : ByteArray) (h : a.size + b.size < 65536) : scanD (bytesOf (joinS a b)) = joinR (a.size + 1) (scanD (bytesOf a)) (scanD (bytesOf b)) := by
  rw [scanD, if_neg (by rw [bytes_len, joinS_size]; omega), joinS_bytes, aheadD_app (bytesOf a) (bytesOf b) (bytesOf a).length 0 (by omega) (by omega), scanD, if_neg (by rw [bytes_len]; omega), scanD, if_neg (by rw [bytes_len]; omega)]; rfl
theorem ext_of {s t : ByteArray} {i j m n : Nat} (h : ((bytesOf s).drop i).take (j - i) = ((bytesOf t).drop m).take (n - m)) : s.extract i j = t.extract m n :=
  ByteArray.ext (Array.toList_inj.1 (by rw [cut_ext, cut_ext, h]))
theorem join_text1 (a b : ByteArray) {k n : Nat} (h : k + n ≤ a.size) : (joinS a b).extract k (k + n) = a.extract k (k + n) := by
  apply ext_of
  rw [joinS_bytes, List.drop_append_of_le_length (by rw [bytes_len]; omega), List.take_append_of_le_length (by rw [List.length_drop, bytes_len]; omega)]
theorem join_text2 (a b : ByteArray) (k n : Nat) : (joinS a b).extract (a.size + 1 + k) (a.size + 1 + k + n) = b.extract k (k + n) := by
  apply ext_of
  have := drop_sh (bytesOf a ++ [10]) (bytesOf b) k
  rw [List.length_append, bytes_len, List.append_assoc] at this
  rw [joinS_bytes, show bytesOf a ++ 10 :: bytesOf b = bytesOf a ++ ([10] ++ bytesOf b) from rfl, show a.size + 1 + k = a.size + [(10 : UInt8)].length + k from rfl, this, Nat.add_sub_cancel_left, Nat.add_sub_cancel_left]
/-- What All tells of the two, joined. -/
theorem allD_join (a b : ByteArray) (h : a.size + b.size < 65536) :
    ((scanD (bytesOf a)).e ≠ 0 → allD (bytesOf (joinS a b)) = ⟨[], (scanD (bytesOf a)).e, (scanD (bytesOf a)).p⟩) ∧
    ((scanD (bytesOf a)).e = 0 → (scanD (bytesOf b)).e ≠ 0 → allD (bytesOf (joinS a b)) = ⟨[], (scanD (bytesOf b)).e, a.size + 1 + (scanD (bytesOf b)).p⟩) ∧
    ((scanD (bytesOf a)).e = 0 → (scanD (bytesOf b)).e = 0 → allD (bytesOf (joinS a b)) = ⟨(scanD (bytesOf a)).toks ++ (scanD (bytesOf b)).toks.map (shT (a.size + 1)), 0, 0⟩) := by
  refine ⟨fun h1 => ?_, fun h1 h2 => ?_, fun h1 h2 => ?_⟩
  · rw [allD, scanD_join a b h, joinR, if_neg h1, if_neg h1]
  · rw [allD, scanD_join a b h, joinR, if_pos h1]
    simp [h2]
  · have h3 : (scanD (bytesOf b)).p = 0 := scanD_p h2
    rw [allD, scanD_join a b h, joinR, if_pos h1]
    simp [h2, h3]
theorem rising_fits {L : List UInt8} : ∀ {ts : List TokD} {k : Nat}, Rising L k ts → ∀ t ∈ ts, t.at_ + t.len ≤ L.length
  | [], _, _ => by simp
  | t :: ts, k, h => fun u hu => by
    rcases List.mem_cons.1 hu with rfl | hu
    · exact h.2.2.1
    · exact rising_fits h.2.2.2 u hu
end Go.Proofs.YtihfllkgoolkhaaDoor
