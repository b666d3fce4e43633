/-
  'known' of the statements of the bytes answers true. No condition.
-/
import Derived.Test.YtimcmpcfnddioaaTr
import Derived.Test.YtimcmpcfnddioaaRo
namespace Go.Proofs.Ytimcmpcfnddioaa
open Go.RowKit

theorem own_upd {w w' : World} {g B e size : Nat} {v : Value} {n : Nat} {xs : List Value} (h : w.ownsRow B e size v n xs) (hu : Upd g w w') (hg : g < B) : w'.ownsRow B e size v n xs :=
  h.kept (row := some g) hu (Or.inr (fun e => by have := (h.lt g e).1; omega))
end Go.Proofs.Ytimcmpcfnddioaa
