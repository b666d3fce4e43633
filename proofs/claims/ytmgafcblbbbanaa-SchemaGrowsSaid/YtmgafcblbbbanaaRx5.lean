/-
  The reference's value of a reader: its contract. Condition: the text has at most 1000000000 bytes.
-/
import Derived.Test.YtmgafcblbbbanaaRx4
namespace Go.Proofs.Ytmgafcblbbbanaa
open Go.RowKit

theorem Rfx.setO {w : World} {g r o : Nat} {s : ByteArray} {i : Nat} {er : Int} (h : Rfx w g s i er) (v : Value) (hne : r ≠ g) : Rfx (w.setCell ⟨r, o, none⟩ v) g s i er :=
  (heap_setCell_other w ⟨r, o, none⟩ g v (by simpa [eq_comm] using hne)).trans h
end Go.Proofs.Ytmgafcblbbbanaa
