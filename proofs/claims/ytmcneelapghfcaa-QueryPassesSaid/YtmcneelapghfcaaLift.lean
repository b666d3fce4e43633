/-
  Contracts and laws of the layers below, put together: Lift. Conditions: where they are named.
-/
import Derived.Test.YtmcneelapghfcaaRows
import Derived.WalkKit
import Derived.ProofKit
import Derived.OpenShut
import Derived.ShutString
import Derived.Below

namespace Go.Proofs.Ytmcneelapghfcaa
theorem Try.own : ownKnob Try.prog.godebug = none := by kernel_rfl
theorem Try.laidOut : laidOutB Try.prog = true := by kernel_rfl
end Go.Proofs.Ytmcneelapghfcaa
