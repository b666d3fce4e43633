/-
  code's value of a reader: its contract. Condition: the text has at most 1000000000 bytes.
-/
import Derived.Test.YtmgafcblbbbanaaRd2
namespace Go.Proofs.Ytmgafcblbbbanaa
open Go.RowKit

/-- a value in a block of its own -/
def BV (w : World) (g : Nat) (k n : Int) (b : Nat) (s : ByteArray) : Prop := w.heap[g]? = some (.cells #[.int .i64 k, .int .i64 n, .int .u64 (b : Int), .string s] 46 (0, 0))
theorem BV.cells {w : World} {g : Nat} {k n : Int} {b : Nat} {s : ByteArray} (h : BV w g k n b s) : w.cell? ⟨g, 0, none⟩ = some (.int .i64 k) ∧ w.cell? ⟨g, 1, none⟩ = some (.int .i64 n) ∧ w.cell? ⟨g, 2, none⟩ = some (.int .u64 (b : Int)) ∧ w.cell? ⟨g, 3, none⟩ = some (.string s) ∧
    w.frozen? ⟨g, 0, none⟩ = false ∧ w.frozen? ⟨g, 1, none⟩ = false ∧ w.frozen? ⟨g, 2, none⟩ = false ∧ w.frozen? ⟨g, 3, none⟩ = false ∧ g < w.heap.size :=
  ⟨cell_of_row w g 0 _ _ _ h, cell_of_row w g 1 _ _ _ h, cell_of_row w g 2 _ _ _ h, cell_of_row w g 3 _ _ _ h, frozen_of_row w g 0 _ _ h, frozen_of_row w g 1 _ _ h, frozen_of_row w g 2 _ _ h, frozen_of_row w g 3 _ _ h, (Array.getElem?_eq_some_iff.1 h).1⟩
theorem BV.keep {w w' : World} {g : Nat} {k n : Int} {b : Nat} {s : ByteArray} (h : BV w g k n b s) (hb : Below w.heap.size w w') : BV w' g k n b s := keepBlock h hb
theorem BV.upd {w w' : World} {g r : Nat} {k n : Int} {b : Nat} {s : ByteArray} (h : BV w g k n b s) (hb : Upd r w w') (hne : g ≠ r) : BV w' g k n b s := by
  show w'.heap[g]? = _
  rw [hb.block g h.cells.2.2.2.2.2.2.2.2 (by simpa using hne)]; exact h
theorem BV.new (w : World) (k n : Int) (b : Nat) (s : ByteArray) : BV (w.alloc (.cells #[.int .i64 k, .int .i64 n, .int .u64 (b : Int), .string s] 46)) w.heap.size k n b s := heap_alloc_new w _
theorem BV.setO {w : World} {g r o : Nat} {k n : Int} {b : Nat} {s : ByteArray} (h : BV w g k n b s) (v : Value) (hne : r ≠ g) : BV (w.setCell ⟨r, o, none⟩ v) g k n b s :=
  (heap_setCell_other w ⟨r, o, none⟩ g v (by simpa [eq_comm] using hne)).trans h
theorem Rdr.setO {w : World} {g r o : Nat} {s : ByteArray} {i : Nat} {er : Int} (h : Rdr w g s i er) (v : Value) (hne : r ≠ g) : Rdr (w.setCell ⟨r, o, none⟩ v) g s i er :=
  (heap_setCell_other w ⟨r, o, none⟩ g v (by simpa [eq_comm] using hne)).trans h

end Go.Proofs.Ytmgafcblbbbanaa
