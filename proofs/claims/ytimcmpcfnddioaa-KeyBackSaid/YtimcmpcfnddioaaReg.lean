/-
  Regions that draw their order, walked by hand: lemmas over any program. No condition.
-/
import Derived.Deep.RegionHeld3
import Derived.Below
import Derived.Deep.Draws
namespace Go.Proofs.Ytimcmpcfnddioaa
open Go.RowKit

section
variable {P : Program} {ops : Array Oper} {Q : Exit → Act → World → Prop} {md : Region.Mode} {S S' : World → Prop}
end
theorem hba (w : World) (o : Obj) : Below w.heap.size w (w.alloc o) := (Below.refl _ _).alloc (Nat.le_refl _) o
theorem hnext {w a b : World} (h : Below w.heap.size w a) (k : Below a.heap.size a b) : Below w.heap.size w b := h.trans (k.mono h.size)
theorem hkeep {W W' : World} {p : Addr} {v : Value} (h : W.cell? p = some v) (hb : Below W.heap.size W W') : W'.cell? p = some v :=
  (hb.cell (World.block_lt_of_cell? W p h)).trans h
theorem hdrewN {B : Nat} {a w : World} (h : Below B a w) (n : Nat) : Below B a (w.drewN n) := ⟨h.os, h.tape, h.output, h.size, h.block⟩
end Go.Proofs.Ytimcmpcfnddioaa
