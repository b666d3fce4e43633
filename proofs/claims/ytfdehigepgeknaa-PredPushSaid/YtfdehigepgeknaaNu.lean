/-
  value's number: its contract. Condition: the text has at most 1000000 bytes.
-/
import Derived.Test.YtfdehigepgeknaaQu
namespace Go.Proofs.Ytfdehigepgeknaa
open Go.RowKit

/-- a text's bytes, laid for a loop over them -/
theorem cells_text (w1 : World) (l : List UInt8) (cap : Nat) (hc : l.length ≤ cap) (j : Nat) (hj : j < l.length) :
    ((w1.alloc (.cells (bytesRow (bstr l) cap) 5 ((bytesRow (bstr l) cap).size, (bytesRow (bstr l) cap).size + 1))).drew).cell? ⟨w1.heap.size, j, none⟩ = some (.int .u8 (l[j].toNat : Int)) :=
  cells_of_string w1 (bstr l) cap 5 hc l rfl j hj
end Go.Proofs.Ytfdehigepgeknaa
