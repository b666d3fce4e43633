/-
  A reader in memory; code's next, uint, int, text: their contracts. Condition: the text has at most 1000000000 bytes.
-/
import Derived.Test.YtimcmpcfnddioaaCdR
import Derived.Test.YtimcmpcfnddioaaRdP
import Derived.WalkSmall
namespace Go.Proofs.Ytimcmpcfnddioaa
open Go.RowKit

/-- all but the block g is as it was -/
abbrev Upd (g : Nat) (w w' : World) : Prop := w.grownBy w' (some g)
theorem Upd.refl (g : Nat) (w : World) : Upd g w w := ⟨rfl, rfl, rfl, Nat.le_refl _, fun _ _ _ => rfl⟩
theorem Upd.trans {g : Nat} {a b c : World} (h : Upd g a b) (k : Upd g b c) : Upd g a c :=
  ⟨k.os.trans h.os, k.tape.trans h.tape, k.output.trans h.output, Nat.le_trans h.size k.size, fun i hi hn => (k.block i (Nat.lt_of_lt_of_le hi h.size) hn).trans (h.block i hi hn)⟩
theorem Upd.of {g : Nat} {a b : World} (h : Below a.heap.size a b) : Upd g a b := ⟨h.os, h.tape, h.output, h.size, fun i hi _ => h.block i hi⟩
theorem Upd.cell {g : Nat} {w w' : World} {p : Addr} {v : Value} (h : w.cell? p = some v) (hb : Upd g w w') (hne : p.block ≠ g) : w'.cell? p = some v :=
  (World.cell?_of_block (hb.block p.block (World.block_lt_of_cell? w p h) (by simpa using hne))).trans h
theorem Upd.below {B g : Nat} {a w w' : World} (h : Below B a w) (k : Upd g w w') (hg : B ≤ g) (hB : B ≤ w.heap.size) : Below B a w' :=
  h.grown k hB (fun q hq => by cases hq; exact hg)

end Go.Proofs.Ytimcmpcfnddioaa
