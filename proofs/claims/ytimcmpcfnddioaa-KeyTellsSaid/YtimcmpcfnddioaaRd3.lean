/-
  code's value of a reader: its contract. Condition: the text has at most 1000000000 bytes.
-/
import Derived.Test.YtimcmpcfnddioaaRd
namespace Go.Proofs.Ytimcmpcfnddioaa
open Go.RowKit

/-- a value in a block of its own -/
def BV (w : World) (g : Nat) (k n : Int) (b : Nat) (s : ByteArray) : Prop := w.heap[g]? = some (.cells #[.int .i64 k, .int .i64 n, .int .u64 (b : Int), .string s] 39 (0, 0))
theorem BV.cells {w : World} {g : Nat} {k n : Int} {b : Nat} {s : ByteArray} (h : BV w g k n b s) : w.cell? ⟨g, 0, none⟩ = some (.int .i64 k) ∧ w.cell? ⟨g, 1, none⟩ = some (.int .i64 n) ∧ w.cell? ⟨g, 2, none⟩ = some (.int .u64 (b : Int)) ∧ w.cell? ⟨g, 3, none⟩ = some (.string s) ∧
    w.frozen? ⟨g, 0, none⟩ = false ∧ w.frozen? ⟨g, 1, none⟩ = false ∧ w.frozen? ⟨g, 2, none⟩ = false ∧ w.frozen? ⟨g, 3, none⟩ = false ∧ g < w.heap.size :=
  ⟨cell_of_row w g 0 _ _ _ h, cell_of_row w g 1 _ _ _ h, cell_of_row w g 2 _ _ _ h, cell_of_row w g 3 _ _ _ h, frozen_of_row w g 0 _ _ h, frozen_of_row w g 1 _ _ h, frozen_of_row w g 2 _ _ h, frozen_of_row w g 3 _ _ h, (Array.getElem?_eq_some_iff.1 h).1⟩
theorem BV.keep {w w' : World} {g : Nat} {k n : Int} {b : Nat} {s : ByteArray} (h : BV w g k n b s) (hb : Below w.heap.size w w') : BV w' g k n b s := keepBlock h hb

end Go.Proofs.Ytimcmpcfnddioaa
