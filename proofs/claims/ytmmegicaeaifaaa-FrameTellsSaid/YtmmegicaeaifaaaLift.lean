/-
  Two closed facts on the program, for the statements' last step. No condition.
-/
import Derived.Test.YtmmegicaeaifaaaRows
import Derived.WalkKit
import Derived.ProofKit
import Derived.OpenShut
import Derived.ShutString
import Derived.Below
namespace Go.Proofs.Ytmmegicaeaifaaa
theorem Try.own : ownKnob Try.prog.godebug = none := by kernel_rfl
theorem Try.laidOut : laidOutB Try.prog = true := by kernel_rfl
end Go.Proofs.Ytmmegicaeaifaaa
