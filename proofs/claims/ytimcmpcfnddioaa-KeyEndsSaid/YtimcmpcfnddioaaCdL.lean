/-
  What is written is read as it was; lengths; no two numbers have the same bytes. No program in sight. No condition.
-/
import Derived.Test.YtimcmpcfnddioaaRdP
import Derived.Test.YtimcmpcfnddioaaVaR
import Derived.Test.YtimcmpcfnddioaaCd
namespace Go.Proofs.Ytimcmpcfnddioaa
namespace Cd

end Cd
theorem bstr_inj {a b : List UInt8} (h : bstr a = bstr b) : a = b := by
  have h2 : (bstr a).data.toList = (bstr b).data.toList := by rw [h]
  exact h2
end Go.Proofs.Ytimcmpcfnddioaa
