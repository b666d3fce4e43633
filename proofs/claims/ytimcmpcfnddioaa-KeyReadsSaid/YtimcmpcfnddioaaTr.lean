/-
  code's try: its contracts, and those of what it defers. No condition.
-/
import Derived.Test.YtimcmpcfnddioaaRd4
import Derived.Defers
import Derived.Recover
import Derived.Laws.Pointers
namespace Go.Proofs.Ytimcmpcfnddioaa
open Go.RowKit

/-- all blocks below B but the block g are as they were -/
structure UB (B g : Nat) (w w' : World) : Prop where
  os : w'.os = w.os
  tape : w'.tape = w.tape
  output : w'.output = w.output
  size : w.heap.size ≤ w'.heap.size
  block : ∀ k, k < B → k ≠ g → w'.heap[k]? = w.heap[k]?
theorem UB.refl (B g : Nat) (w : World) : UB B g w w := ⟨rfl, rfl, rfl, Nat.le_refl _, fun _ _ _ => rfl⟩
theorem UB.trans {B g : Nat} {a b c : World} (h : UB B g a b) (k : UB B g b c) : UB B g a c :=
  ⟨k.os.trans h.os, k.tape.trans h.tape, k.output.trans h.output, Nat.le_trans h.size k.size, fun i hi hn => (k.block i hi hn).trans (h.block i hi hn)⟩
theorem UB.of {B g : Nat} {a b : World} (h : Below B a b) : UB B g a b := ⟨h.os, h.tape, h.output, h.size, fun i hi _ => h.block i hi⟩
/-- a variable of the call's own -/
def Var (w : World) (b : Nat) (cs : Array Value) (t : TypeId) : Prop := w.heap[b]? = some (.cells cs t (0, 0))
theorem Var.keep {w w' : World} {b : Nat} {cs : Array Value} {t : TypeId} (h : Var w b cs t) (hb : Below w.heap.size w w') : Var w' b cs t := keepBlock h hb
theorem Var.lt {w : World} {b : Nat} {cs : Array Value} {t : TypeId} (h : Var w b cs t) : b < w.heap.size := (Array.getElem?_eq_some_iff.1 h).1
theorem Var.cell {w : World} {b : Nat} {cs : Array Value} {t : TypeId} (h : Var w b cs t) (o : Nat) : w.cell? ⟨b, o, none⟩ = cs[o]? := cell_of_row w b o _ _ _ h

end Go.Proofs.Ytimcmpcfnddioaa
