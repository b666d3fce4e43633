/-
  code.Int, Text, and the reference's Int, Text, Eight: their contracts. Condition: the number is an int; the text has at most 1000000000 bytes.
-/
import Derived.Test.YtmgafcblbbbanaaCdU
namespace Go.Proofs.Ytmgafcblbbbanaa
open Go.RowKit

theorem uintR_exact (n : Nat) (hn : n < 18446744073709551616) (w : World) : Calls Try.prog 34 #[.int .u64 (n : Int)] w fun e w' => e = .returned (.string (bstr (Cd.enc n))) ∧ Below w.heap.size w w' :=
  uintR_any 9 n w (Cd.u64_bound hn) hn (Nat.le_refl _)
theorem text_bstr (s : ByteArray) : bstr (Cd.enc s.size) ++ s = bstr (Cd.text s) := by
  unfold Cd.text; rw [← bstr_append, bstr_of]
set_option maxRecDepth 100000 in
theorem text_any (s : ByteArray) (hs : s.size ≤ 1000000000) (w : World) : Calls Try.prog 31 #[.string s] w fun e w' => e = .returned (.string (bstr (Cd.text s))) ∧ Below w.heap.size w w' := by
  have hl : (bstr (Cd.enc s.size)).size ≤ 10 := (Cd.enc_length s.size).2
  go_enter Try.func31, Try.ntmps31
  go_wp2_with fail
  refine (uint_any s.size (by omega) _).mono ?_; rintro e w1 ⟨rfl, hb1⟩
  go_wp2_with fail
  go_ret
  exact ⟨ret_str (text_bstr s), hb1⟩
set_option maxRecDepth 100000 in
theorem textR_any (s : ByteArray) (hs : s.size ≤ 1000000000) (w : World) : Calls Try.prog 33 #[.string s] w fun e w' => e = .returned (.string (bstr (Cd.text s))) ∧ Below w.heap.size w w' := by
  have hl : (bstr (Cd.enc s.size)).size ≤ 10 := (Cd.enc_length s.size).2
  go_enter Try.func33, Try.ntmps33
  go_wp2_with fail
  refine (uintR_exact s.size (by omega) _).mono ?_; rintro e w1 ⟨rfl, hb1⟩
  go_wp2_with fail
  go_ret
  exact ⟨ret_str (text_bstr s), hb1⟩
end Go.Proofs.Ytmgafcblbbbanaa
