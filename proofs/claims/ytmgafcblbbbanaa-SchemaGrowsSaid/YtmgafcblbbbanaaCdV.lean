/-
  code.Value and the reference's Value: their contracts. Condition: the bits are below 2^64, the number is an int, the text is no longer than an int.
-/
import Derived.Test.YtmgafcblbbbanaaCdI
namespace Go.Proofs.Ytmgafcblbbbanaa
open Go.RowKit

/-- a value in a box -/
def VBox (w : World) (g : Nat) (k n : Int) (b : Nat) (s : ByteArray) : Prop :=
  w.cell? ⟨g, 0, none⟩ = some (.int .i64 k) ∧ w.cell? ⟨g, 1, none⟩ = some (.int .i64 n) ∧ w.cell? ⟨g, 2, none⟩ = some (.int .u64 (b : Int)) ∧ w.cell? ⟨g, 3, none⟩ = some (.string s)
theorem VBox.keep {w w' : World} {g : Nat} {k n : Int} {b : Nat} {s : ByteArray} (h : VBox w g k n b s) (hb : Below w.heap.size w w') : VBox w' g k n b s := ⟨hkeep h.1 hb, hkeep h.2.1 hb, hkeep h.2.2.1 hb, hkeep h.2.2.2 hb⟩
theorem VBox.new (w : World) (k n : Int) (b : Nat) (s : ByteArray) : VBox (w.alloc (.cells #[.int .i64 k, .int .i64 n, .int .u64 (b : Int), .string s] 46)) w.heap.size k n b s := ⟨by simp, by simp, by simp, by simp⟩

end Go.Proofs.Ytmgafcblbbbanaa
