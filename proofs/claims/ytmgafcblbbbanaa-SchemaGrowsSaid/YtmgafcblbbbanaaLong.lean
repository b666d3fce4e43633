/-
  CodeLong answers true at any number and text. No condition.
-/
import Derived.Test.YtmgafcblbbbanaaZig
namespace Go.Proofs.Ytmgafcblbbbanaa
open Go.RowKit

theorem Rdr.upd {w w' : World} {g g2 : Nat} {s : ByteArray} {i : Nat} {er : Int} (h : Rdr w g2 s i er) (hu : Upd g w w') (hne : g2 ≠ g) : Rdr w' g2 s i er := Var.upd (w := w) (b := g2) (cs := #[.string s, .int .i64 (i : Int), .int .i64 er]) h hu hne
theorem Cd.textR_of {s : ByteArray} {most n j i : Nat} (h : Cd.uintR s.data.toList i = .ok (n, j)) : Cd.textR s most i = if most < n then .error 19 else if s.size < j + n then .error 8 else .ok (s.extract j (j + n), j + n) := by
  unfold Cd.textR; rw [h]

end Go.Proofs.Ytmgafcblbbbanaa
