/-
  CodeZig answers true at any two numbers. No condition.
-/
import Derived.Test.YtimcmpcfnddioaaCdL
import Derived.Test.YtimcmpcfnddioaaKn
import Derived.Lib.SlicesS
namespace Go.Proofs.Ytimcmpcfnddioaa
open Go.RowKit

theorem i64_of {n : Int} (h : (Lit.int .i64 n).wf = true) : -9223372036854775808 ≤ n ∧ n ≤ 9223372036854775807 := by
  simpa [Lit.wf, IntKind.min, IntKind.max, IntKind.signed, IntKind.bits] using h
theorem u64_of {n : Int} (h : (Lit.int .u64 n).wf = true) : ∃ k : Nat, n = (k : Int) ∧ k < 18446744073709551616 := by
  have hx : 0 ≤ n ∧ n ≤ 18446744073709551615 := by simpa [Lit.wf, IntKind.min, IntKind.max, IntKind.signed, IntKind.bits] using h
  exact ⟨n.toNat, by omega, by omega⟩
theorem toList_eqb (a b : ByteArray) (d : Bool) (h : a = b ↔ d = true) : (a.toList == b.toList) = d := by
  cases d
  · rw [Go.Lib.bytes_beq_false_iff]; intro e; simpa using h.1 e
  · rw [Go.Lib.bytes_beq_iff]; exact h.2 rfl
end Go.Proofs.Ytimcmpcfnddioaa
