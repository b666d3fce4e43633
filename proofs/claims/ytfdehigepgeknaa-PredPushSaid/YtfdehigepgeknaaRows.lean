/-
  No cell of these rows narrows 'for every input' (looked for: loops, veiled, ifaces, maps, wideKeys, modest, calm, conditions, laid).
  DERIVED. THE GIVEN ROWS OF THIS SEAT. 6 by the template 'for every input the law returns true; each argument reads behind the call as it read before'; 0 by the template 'total and deterministic' (their statements: YtfdehigepgeknaaTotals.lean).
  GIVEN WITH THE SEED: the statements are not yours to turn. If you find one false, say at which input.
  Laid BY PROGRAM, IN A SANDBOX (cutbox-rows.mjs): the forced cells as the released guide's own fill.sh prints them over the translation 62f44cfea6edadc8… (all of the seat's roots in one cut). By AI agents, Wed Nov 11 2026. No macro, syntax, notation, axiom, sorry.
-/
import Derived.Test.YtfdehigepgeknaaChecked
import GoSem.Claim
import GoSem.ClaimJoined
import GoSem.ClaimMapViews
import Derived.JoinedTies
import Derived.KernelRfl
namespace Go.Proofs.Ytfdehigepgeknaa
/- THE CELL 'sum', in the pinned program and in every row, IS THE sha256 OF THE DUMP (.gsa) THAT YtfdehigepgeknaaProg.lean LOADS. Nothing in Lean hashes anything: it is a label: what it is worth is what the hold of that sum in a sandbox is worth. -/
noncomputable def Try.pinned : Pinned := { name := "ytfdehigepgeknaa", sum := "62f44cfea6edadc8578a14e2f5a158b9a59bbe036e92058d592f27188a710937", checked := Try.checked }
namespace Rows
def none {H : Type} : Left H := { results := [], args := [] }

/-- 'memoirlaw16.PredRights': WHATEVER THE INPUT: true; the input reads as it did. -/
def predRightsSpec : ChangeSpec := { name := "predRights", fn := fun _ => fun
  | [d1, d2, d3] => { results := [.lit (.bool true)], args := [d1, d2, d3] }
  | _ => none }
def predRightsRow : OpenClaim := { program := "ytfdehigepgeknaa", sum := "62f44cfea6edadc8578a14e2f5a158b9a59bbe036e92058d592f27188a710937", func := "memoir/memoirlaw16.PredRights", spec := "predRights", inPlace := ["math.Float64frombits", "math.Float64bits"], unfollowed := true, recurses := true, apart := false }
def PredRightsSaid : Prop := predRightsRow.holds Try.pinned (OpenSpec.ofChange predRightsSpec)

/-- ITS FALSE NEIGHBOUR: 'it returns false'. Refute it at one input. -/
def predRightsWrong : ChangeSpec := { name := "predRights", fn := fun _ => fun
  | [d1, d2, d3] => { results := [.lit (.bool false)], args := [d1, d2, d3] }
  | _ => none }
def PredRightsWrongFalsely : Prop := predRightsRow.holds Try.pinned (OpenSpec.ofChange predRightsWrong)

/-- 'memoirlaw16.PredPush': WHATEVER THE INPUT: true; the input reads as it did. -/
def predPushSpec : ChangeSpec := { name := "predPush", fn := fun _ => fun
  | [d1, d2, d3] => { results := [.lit (.bool true)], args := [d1, d2, d3] }
  | _ => none }
def predPushRow : OpenClaim := { program := "ytfdehigepgeknaa", sum := "62f44cfea6edadc8578a14e2f5a158b9a59bbe036e92058d592f27188a710937", func := "memoir/memoirlaw16.PredPush", spec := "predPush", inPlace := ["math.Float64frombits", "math.Float64bits"], unfollowed := true, recurses := true, apart := false }
def PredPushSaid : Prop := predPushRow.holds Try.pinned (OpenSpec.ofChange predPushSpec)

/-- ITS FALSE NEIGHBOUR: 'it returns false'. Refute it at one input. -/
def predPushWrong : ChangeSpec := { name := "predPush", fn := fun _ => fun
  | [d1, d2, d3] => { results := [.lit (.bool false)], args := [d1, d2, d3] }
  | _ => none }
def PredPushWrongFalsely : Prop := predPushRow.holds Try.pinned (OpenSpec.ofChange predPushWrong)

/-- 'memoirlaw16.PredThree': WHATEVER THE INPUT: true; the input reads as it did. -/
def predThreeSpec : ChangeSpec := { name := "predThree", fn := fun _ => fun
  | [d1, d2, d3] => { results := [.lit (.bool true)], args := [d1, d2, d3] }
  | _ => none }
def predThreeRow : OpenClaim := { program := "ytfdehigepgeknaa", sum := "62f44cfea6edadc8578a14e2f5a158b9a59bbe036e92058d592f27188a710937", func := "memoir/memoirlaw16.PredThree", spec := "predThree", inPlace := ["math.Float64frombits", "math.Float64bits"], unfollowed := true, recurses := true, apart := false }
def PredThreeSaid : Prop := predThreeRow.holds Try.pinned (OpenSpec.ofChange predThreeSpec)

/-- ITS FALSE NEIGHBOUR: 'it returns false'. Refute it at one input. -/
def predThreeWrong : ChangeSpec := { name := "predThree", fn := fun _ => fun
  | [d1, d2, d3] => { results := [.lit (.bool false)], args := [d1, d2, d3] }
  | _ => none }
def PredThreeWrongFalsely : Prop := predThreeRow.holds Try.pinned (OpenSpec.ofChange predThreeWrong)

/-- 'memoirlaw16.PredLeaves': WHATEVER THE INPUT: true; the input reads as it did. -/
def predLeavesSpec : ChangeSpec := { name := "predLeaves", fn := fun _ => fun
  | [d1, d2] => { results := [.lit (.bool true)], args := [d1, d2] }
  | _ => none }
def predLeavesRow : OpenClaim := { program := "ytfdehigepgeknaa", sum := "62f44cfea6edadc8578a14e2f5a158b9a59bbe036e92058d592f27188a710937", func := "memoir/memoirlaw16.PredLeaves", spec := "predLeaves", inPlace := ["math.Float64frombits", "math.Float64bits"], unfollowed := true, recurses := true, apart := false }
def PredLeavesSaid : Prop := predLeavesRow.holds Try.pinned (OpenSpec.ofChange predLeavesSpec)

/-- ITS FALSE NEIGHBOUR: 'it returns false'. Refute it at one input. -/
def predLeavesWrong : ChangeSpec := { name := "predLeaves", fn := fun _ => fun
  | [d1, d2] => { results := [.lit (.bool false)], args := [d1, d2] }
  | _ => none }
def PredLeavesWrongFalsely : Prop := predLeavesRow.holds Try.pinned (OpenSpec.ofChange predLeavesWrong)

/-- 'memoirlaw16.PredText': WHATEVER THE INPUT: true; the input reads as it did. -/
def predTextSpec : ChangeSpec := { name := "predText", fn := fun _ => fun
  | [d1, d2, d3] => { results := [.lit (.bool true)], args := [d1, d2, d3] }
  | _ => none }
def predTextRow : OpenClaim := { program := "ytfdehigepgeknaa", sum := "62f44cfea6edadc8578a14e2f5a158b9a59bbe036e92058d592f27188a710937", func := "memoir/memoirlaw16.PredText", spec := "predText", inPlace := ["math.Float64frombits", "math.Float64bits"], unfollowed := true, recurses := true, apart := false }
def PredTextSaid : Prop := predTextRow.holds Try.pinned (OpenSpec.ofChange predTextSpec)

/-- ITS FALSE NEIGHBOUR: 'it returns false'. Refute it at one input. -/
def predTextWrong : ChangeSpec := { name := "predText", fn := fun _ => fun
  | [d1, d2, d3] => { results := [.lit (.bool false)], args := [d1, d2, d3] }
  | _ => none }
def PredTextWrongFalsely : Prop := predTextRow.holds Try.pinned (OpenSpec.ofChange predTextWrong)

/-- 'memoirlaw16.PredTwice': WHATEVER THE INPUT: true; the input reads as it did. -/
def predTwiceSpec : ChangeSpec := { name := "predTwice", fn := fun _ => fun
  | [d1, d2] => { results := [.lit (.bool true)], args := [d1, d2] }
  | _ => none }
def predTwiceRow : OpenClaim := { program := "ytfdehigepgeknaa", sum := "62f44cfea6edadc8578a14e2f5a158b9a59bbe036e92058d592f27188a710937", func := "memoir/memoirlaw16.PredTwice", spec := "predTwice", inPlace := ["math.Float64frombits", "math.Float64bits"], unfollowed := true, recurses := true, apart := false }
def PredTwiceSaid : Prop := predTwiceRow.holds Try.pinned (OpenSpec.ofChange predTwiceSpec)

/-- ITS FALSE NEIGHBOUR: 'it returns false'. Refute it at one input. -/
def predTwiceWrong : ChangeSpec := { name := "predTwice", fn := fun _ => fun
  | [d1, d2] => { results := [.lit (.bool false)], args := [d1, d2] }
  | _ => none }
def PredTwiceWrongFalsely : Prop := predTwiceRow.holds Try.pinned (OpenSpec.ofChange predTwiceWrong)

/- THE SECOND FORM. 'bulk': how many values and letters a reading holds, each counted each time it is reached (what is shared counts as often as it is met; a slice's spare places count too). A statement '..UptoSaid' is the law's where the arguments, and the package variables that the reading takes, are together of bulk at most 1048576: NARROWER than '..Said'. Prove '..Said' where nothing that the law and all that it calls make is longer than what came in: it says more and counts as full. Else prove '..UptoSaid'. A law counts once. -/
mutual
def uptoBulk {H : Type} : DataW H → Nat
  | .lit (.string bytes) => bytes.length + 1
  | .lit _ => 1
  | .nil => 1
  | .ptr d => uptoBulk d + 1
  | .slice elems spare => uptoBulkAll elems + uptoBulkAll spare + 1
  | .agg parts => uptoBulkAll parts + 1
  | .iface _ d => uptoBulk d + 1
  | .map entries => uptoBulkEntries entries + 1
  | .held _ => 1
def uptoBulkAll {H : Type} : List (DataW H) → Nat
  | [] => 0
  | d :: r => uptoBulk d + uptoBulkAll r
def uptoBulkEntries {H : Type} : List (Lit × DataW H) → Nat
  | [] => 0
  | x :: r => uptoBulkEntry x + uptoBulkEntries r
def uptoBulkEntry {H : Type} : Lit × DataW H → Nat
  | (.string bytes, d) => bytes.length + uptoBulk d + 1
  | (_, d) => uptoBulk d + 1
 end
def uptoSmall : (H : Type) → List (DataW H) → Bool := fun _ ds => decide (uptoBulkAll ds ≤ 1048576)
def OpenSpec.upto (s : _root_.Go.ChangeSpec) : _root_.Go.OpenSpec := { _root_.Go.OpenSpec.ofChange s with cond := some uptoSmall }

/-- 'memoirlaw16.PredRights', WHERE WHAT IT READS IS OF BULK AT MOST 1048576: true; the input reads as it did. -/
def predRightsUptoRow : OpenClaim := { program := "ytfdehigepgeknaa", sum := "62f44cfea6edadc8578a14e2f5a158b9a59bbe036e92058d592f27188a710937", func := "memoir/memoirlaw16.PredRights", spec := "predRights", inPlace := ["math.Float64frombits", "math.Float64bits"], unfollowed := true, recurses := true, apart := false, narrowed := true }
def PredRightsUptoSaid : Prop := predRightsUptoRow.holds Try.pinned (OpenSpec.upto predRightsSpec)

/-- 'memoirlaw16.PredPush', WHERE WHAT IT READS IS OF BULK AT MOST 1048576: true; the input reads as it did. -/
def predPushUptoRow : OpenClaim := { program := "ytfdehigepgeknaa", sum := "62f44cfea6edadc8578a14e2f5a158b9a59bbe036e92058d592f27188a710937", func := "memoir/memoirlaw16.PredPush", spec := "predPush", inPlace := ["math.Float64frombits", "math.Float64bits"], unfollowed := true, recurses := true, apart := false, narrowed := true }
def PredPushUptoSaid : Prop := predPushUptoRow.holds Try.pinned (OpenSpec.upto predPushSpec)

/-- 'memoirlaw16.PredThree', WHERE WHAT IT READS IS OF BULK AT MOST 1048576: true; the input reads as it did. -/
def predThreeUptoRow : OpenClaim := { program := "ytfdehigepgeknaa", sum := "62f44cfea6edadc8578a14e2f5a158b9a59bbe036e92058d592f27188a710937", func := "memoir/memoirlaw16.PredThree", spec := "predThree", inPlace := ["math.Float64frombits", "math.Float64bits"], unfollowed := true, recurses := true, apart := false, narrowed := true }
def PredThreeUptoSaid : Prop := predThreeUptoRow.holds Try.pinned (OpenSpec.upto predThreeSpec)

/-- 'memoirlaw16.PredLeaves', WHERE WHAT IT READS IS OF BULK AT MOST 1048576: true; the input reads as it did. -/
def predLeavesUptoRow : OpenClaim := { program := "ytfdehigepgeknaa", sum := "62f44cfea6edadc8578a14e2f5a158b9a59bbe036e92058d592f27188a710937", func := "memoir/memoirlaw16.PredLeaves", spec := "predLeaves", inPlace := ["math.Float64frombits", "math.Float64bits"], unfollowed := true, recurses := true, apart := false, narrowed := true }
def PredLeavesUptoSaid : Prop := predLeavesUptoRow.holds Try.pinned (OpenSpec.upto predLeavesSpec)

/-- 'memoirlaw16.PredText', WHERE WHAT IT READS IS OF BULK AT MOST 1048576: true; the input reads as it did. -/
def predTextUptoRow : OpenClaim := { program := "ytfdehigepgeknaa", sum := "62f44cfea6edadc8578a14e2f5a158b9a59bbe036e92058d592f27188a710937", func := "memoir/memoirlaw16.PredText", spec := "predText", inPlace := ["math.Float64frombits", "math.Float64bits"], unfollowed := true, recurses := true, apart := false, narrowed := true }
def PredTextUptoSaid : Prop := predTextUptoRow.holds Try.pinned (OpenSpec.upto predTextSpec)

/-- 'memoirlaw16.PredTwice', WHERE WHAT IT READS IS OF BULK AT MOST 1048576: true; the input reads as it did. -/
def predTwiceUptoRow : OpenClaim := { program := "ytfdehigepgeknaa", sum := "62f44cfea6edadc8578a14e2f5a158b9a59bbe036e92058d592f27188a710937", func := "memoir/memoirlaw16.PredTwice", spec := "predTwice", inPlace := ["math.Float64frombits", "math.Float64bits"], unfollowed := true, recurses := true, apart := false, narrowed := true }
def PredTwiceUptoSaid : Prop := predTwiceUptoRow.holds Try.pinned (OpenSpec.upto predTwiceSpec)

end Rows
end Go.Proofs.Ytfdehigepgeknaa
