/-
  Texts, values and rows: what is written is read as it was. No program in sight. No condition.
-/
import Derived.Test.YtimcmpcfnddioaaCdL
import Derived.Test.YtimcmpcfnddioaaCdR
namespace Go.Proofs.Ytimcmpcfnddioaa
namespace Cd

theorem drop_more {l a r : List UInt8} {i : Nat} (h : l.drop i = a ++ r) : l.drop (i + a.length) = r := by
  rw [← List.drop_drop, h, List.drop_left]
end Cd
end Go.Proofs.Ytimcmpcfnddioaa
