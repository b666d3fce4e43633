/-
  No cell of these rows narrows 'for every input' (looked for: loops, veiled, ifaces, maps, wideKeys, modest, calm, conditions, laid).
  DERIVED. THE GIVEN ROWS OF THIS SEAT. 7 by the template 'for every input the law returns true; each argument reads behind the call as it read before'; 0 by the template 'total and deterministic' (their statements: YtgdegoacjobpdaaTotals.lean).
  GIVEN WITH THE SEED: the statements are not yours to turn. If you find one false, say at which input.
  Laid BY PROGRAM, IN A SANDBOX (cutbox-rows.mjs): the forced cells as the released guide's own fill.sh prints them over the translation 788d8f79c6634fee… (all of the seat's roots in one cut). By AI agents, Wed Nov 11 2026. No macro, syntax, notation, axiom, sorry.
-/
import Derived.Test.YtgdegoacjobpdaaChecked
import GoSem.Claim
import GoSem.ClaimJoined
import GoSem.ClaimMapViews
import Derived.JoinedTies
import Derived.KernelRfl
namespace Go.Proofs.Ytgdegoacjobpdaa
/- THE CELL 'sum', in the pinned program and in every row, IS THE sha256 OF THE DUMP (.gsa) THAT YtgdegoacjobpdaaProg.lean LOADS. Nothing in Lean hashes anything: it is a label: what it is worth is what the hold of that sum in a sandbox is worth. -/
noncomputable def Try.pinned : Pinned := { name := "ytgdegoacjobpdaa", sum := "788d8f79c6634feea416c68dcdab038b2553ee68943c571d1f569a96ba2f35b6", checked := Try.checked }
namespace Rows
def none {H : Type} : Left H := { results := [], args := [] }

/-- 'memoirlaw01.ValueTells': WHATEVER THE INPUT: true; the input reads as it did. -/
def valueTellsSpec : ChangeSpec := { name := "valueTells", fn := fun _ => fun
  | [d1, d2] => { results := [.lit (.bool true)], args := [d1, d2] }
  | _ => none }
def valueTellsRow : OpenClaim := { program := "ytgdegoacjobpdaa", sum := "788d8f79c6634feea416c68dcdab038b2553ee68943c571d1f569a96ba2f35b6", func := "memoir/memoirlaw01.ValueTells", spec := "valueTells", inPlace := ["math.Float64frombits", "math.Float64bits"], unfollowed := true, recurses := true, apart := false }
def ValueTellsSaid : Prop := valueTellsRow.holds Try.pinned (OpenSpec.ofChange valueTellsSpec)

/-- ITS FALSE NEIGHBOUR: 'it returns false'. Refute it at one input. -/
def valueTellsWrong : ChangeSpec := { name := "valueTells", fn := fun _ => fun
  | [d1, d2] => { results := [.lit (.bool false)], args := [d1, d2] }
  | _ => none }
def ValueTellsWrongFalsely : Prop := valueTellsRow.holds Try.pinned (OpenSpec.ofChange valueTellsWrong)

/-- 'memoirlaw01.ValueReads': WHATEVER THE INPUT: true; the input reads as it did. -/
def valueReadsSpec : ChangeSpec := { name := "valueReads", fn := fun _ => fun
  | [d] => { results := [.lit (.bool true)], args := [d] }
  | _ => none }
def valueReadsRow : OpenClaim := { program := "ytgdegoacjobpdaa", sum := "788d8f79c6634feea416c68dcdab038b2553ee68943c571d1f569a96ba2f35b6", func := "memoir/memoirlaw01.ValueReads", spec := "valueReads", inPlace := ["math.Float64frombits", "math.Float64bits"], unfollowed := true, recurses := true, apart := false }
def ValueReadsSaid : Prop := valueReadsRow.holds Try.pinned (OpenSpec.ofChange valueReadsSpec)

/-- ITS FALSE NEIGHBOUR: 'it returns false'. Refute it at one input. -/
def valueReadsWrong : ChangeSpec := { name := "valueReads", fn := fun _ => fun
  | [d] => { results := [.lit (.bool false)], args := [d] }
  | _ => none }
def ValueReadsWrongFalsely : Prop := valueReadsRow.holds Try.pinned (OpenSpec.ofChange valueReadsWrong)

/-- 'memoirlaw01.ValueOrders': WHATEVER THE INPUT: true; the input reads as it did. -/
def valueOrdersSpec : ChangeSpec := { name := "valueOrders", fn := fun _ => fun
  | [d1, d2, d3] => { results := [.lit (.bool true)], args := [d1, d2, d3] }
  | _ => none }
def valueOrdersRow : OpenClaim := { program := "ytgdegoacjobpdaa", sum := "788d8f79c6634feea416c68dcdab038b2553ee68943c571d1f569a96ba2f35b6", func := "memoir/memoirlaw01.ValueOrders", spec := "valueOrders", inPlace := ["math.Float64frombits", "math.Float64bits"], unfollowed := true, recurses := true, apart := false }
def ValueOrdersSaid : Prop := valueOrdersRow.holds Try.pinned (OpenSpec.ofChange valueOrdersSpec)

/-- ITS FALSE NEIGHBOUR: 'it returns false'. Refute it at one input. -/
def valueOrdersWrong : ChangeSpec := { name := "valueOrders", fn := fun _ => fun
  | [d1, d2, d3] => { results := [.lit (.bool false)], args := [d1, d2, d3] }
  | _ => none }
def ValueOrdersWrongFalsely : Prop := valueOrdersRow.holds Try.pinned (OpenSpec.ofChange valueOrdersWrong)

/-- 'memoirlaw01.ValueBack': WHATEVER THE INPUT: true; the input reads as it did. -/
def valueBackSpec : ChangeSpec := { name := "valueBack", fn := fun _ => fun
  | [d1, d2] => { results := [.lit (.bool true)], args := [d1, d2] }
  | _ => none }
def valueBackRow : OpenClaim := { program := "ytgdegoacjobpdaa", sum := "788d8f79c6634feea416c68dcdab038b2553ee68943c571d1f569a96ba2f35b6", func := "memoir/memoirlaw01.ValueBack", spec := "valueBack", inPlace := ["math.Float64frombits", "math.Float64bits"], unfollowed := true, recurses := true, apart := false }
def ValueBackSaid : Prop := valueBackRow.holds Try.pinned (OpenSpec.ofChange valueBackSpec)

/-- ITS FALSE NEIGHBOUR: 'it returns false'. Refute it at one input. -/
def valueBackWrong : ChangeSpec := { name := "valueBack", fn := fun _ => fun
  | [d1, d2] => { results := [.lit (.bool false)], args := [d1, d2] }
  | _ => none }
def ValueBackWrongFalsely : Prop := valueBackRow.holds Try.pinned (OpenSpec.ofChange valueBackWrong)

/-- 'memoirlaw01.ValueFloats': WHATEVER THE INPUT: true; the input reads as it did. -/
def valueFloatsSpec : ChangeSpec := { name := "valueFloats", fn := fun _ => fun
  | [d1, d2] => { results := [.lit (.bool true)], args := [d1, d2] }
  | _ => none }
def valueFloatsRow : OpenClaim := { program := "ytgdegoacjobpdaa", sum := "788d8f79c6634feea416c68dcdab038b2553ee68943c571d1f569a96ba2f35b6", func := "memoir/memoirlaw01.ValueFloats", spec := "valueFloats", inPlace := ["math.Float64frombits", "math.Float64bits"], unfollowed := true, recurses := true, apart := false }
def ValueFloatsSaid : Prop := valueFloatsRow.holds Try.pinned (OpenSpec.ofChange valueFloatsSpec)

/-- ITS FALSE NEIGHBOUR: 'it returns false'. Refute it at one input. -/
def valueFloatsWrong : ChangeSpec := { name := "valueFloats", fn := fun _ => fun
  | [d1, d2] => { results := [.lit (.bool false)], args := [d1, d2] }
  | _ => none }
def ValueFloatsWrongFalsely : Prop := valueFloatsRow.holds Try.pinned (OpenSpec.ofChange valueFloatsWrong)

/-- 'memoirlaw01.ValueInts': WHATEVER THE INPUT: true; the input reads as it did. -/
def valueIntsSpec : ChangeSpec := { name := "valueInts", fn := fun _ => fun
  | [d1, d2] => { results := [.lit (.bool true)], args := [d1, d2] }
  | _ => none }
def valueIntsRow : OpenClaim := { program := "ytgdegoacjobpdaa", sum := "788d8f79c6634feea416c68dcdab038b2553ee68943c571d1f569a96ba2f35b6", func := "memoir/memoirlaw01.ValueInts", spec := "valueInts", inPlace := ["math.Float64frombits", "math.Float64bits"], unfollowed := true, recurses := true, apart := false }
def ValueIntsSaid : Prop := valueIntsRow.holds Try.pinned (OpenSpec.ofChange valueIntsSpec)

/-- ITS FALSE NEIGHBOUR: 'it returns false'. Refute it at one input. -/
def valueIntsWrong : ChangeSpec := { name := "valueInts", fn := fun _ => fun
  | [d1, d2] => { results := [.lit (.bool false)], args := [d1, d2] }
  | _ => none }
def ValueIntsWrongFalsely : Prop := valueIntsRow.holds Try.pinned (OpenSpec.ofChange valueIntsWrong)

/-- 'memoirlaw01.ValueOdd': WHATEVER THE INPUT: true; the input reads as it did. -/
def valueOddSpec : ChangeSpec := { name := "valueOdd", fn := fun _ => fun
  | [d1, d2] => { results := [.lit (.bool true)], args := [d1, d2] }
  | _ => none }
def valueOddRow : OpenClaim := { program := "ytgdegoacjobpdaa", sum := "788d8f79c6634feea416c68dcdab038b2553ee68943c571d1f569a96ba2f35b6", func := "memoir/memoirlaw01.ValueOdd", spec := "valueOdd", inPlace := ["math.Float64frombits", "math.Float64bits"], unfollowed := true, recurses := true, apart := false }
def ValueOddSaid : Prop := valueOddRow.holds Try.pinned (OpenSpec.ofChange valueOddSpec)

/-- ITS FALSE NEIGHBOUR: 'it returns false'. Refute it at one input. -/
def valueOddWrong : ChangeSpec := { name := "valueOdd", fn := fun _ => fun
  | [d1, d2] => { results := [.lit (.bool false)], args := [d1, d2] }
  | _ => none }
def ValueOddWrongFalsely : Prop := valueOddRow.holds Try.pinned (OpenSpec.ofChange valueOddWrong)

/- THE SECOND FORM. 'bulk': how many values and letters a reading holds, each counted each time it is reached (what is shared counts as often as it is met; a slice's spare places count too). A statement '..UptoSaid' is the law's where the arguments, and the package variables that the reading takes, are together of bulk at most 1048576: NARROWER than '..Said'. Prove '..Said' where nothing that the law and all that it calls make is longer than what came in: it says more and counts as full. Else prove '..UptoSaid'. A law counts once. -/
mutual
def uptoBulk {H : Type} : DataW H → Nat
  | .lit (.string bytes) => bytes.length + 1
  | .lit _ => 1
  | .nil => 1
  | .ptr d => uptoBulk d + 1
  | .slice elems spare => uptoBulkAll elems + uptoBulkAll spare + 1
  | .agg parts => uptoBulkAll parts + 1
  | .iface _ d => uptoBulk d + 1
  | .map entries => uptoBulkEntries entries + 1
  | .held _ => 1
def uptoBulkAll {H : Type} : List (DataW H) → Nat
  | [] => 0
  | d :: r => uptoBulk d + uptoBulkAll r
def uptoBulkEntries {H : Type} : List (Lit × DataW H) → Nat
  | [] => 0
  | x :: r => uptoBulkEntry x + uptoBulkEntries r
def uptoBulkEntry {H : Type} : Lit × DataW H → Nat
  | (.string bytes, d) => bytes.length + uptoBulk d + 1
  | (_, d) => uptoBulk d + 1
 end
def uptoSmall : (H : Type) → List (DataW H) → Bool := fun _ ds => decide (uptoBulkAll ds ≤ 1048576)
def OpenSpec.upto (s : _root_.Go.ChangeSpec) : _root_.Go.OpenSpec := { _root_.Go.OpenSpec.ofChange s with cond := some uptoSmall }

/-- 'memoirlaw01.ValueTells', WHERE WHAT IT READS IS OF BULK AT MOST 1048576: true; the input reads as it did. -/
def valueTellsUptoRow : OpenClaim := { program := "ytgdegoacjobpdaa", sum := "788d8f79c6634feea416c68dcdab038b2553ee68943c571d1f569a96ba2f35b6", func := "memoir/memoirlaw01.ValueTells", spec := "valueTells", inPlace := ["math.Float64frombits", "math.Float64bits"], unfollowed := true, recurses := true, apart := false, narrowed := true }
def ValueTellsUptoSaid : Prop := valueTellsUptoRow.holds Try.pinned (OpenSpec.upto valueTellsSpec)

/-- 'memoirlaw01.ValueReads', WHERE WHAT IT READS IS OF BULK AT MOST 1048576: true; the input reads as it did. -/
def valueReadsUptoRow : OpenClaim := { program := "ytgdegoacjobpdaa", sum := "788d8f79c6634feea416c68dcdab038b2553ee68943c571d1f569a96ba2f35b6", func := "memoir/memoirlaw01.ValueReads", spec := "valueReads", inPlace := ["math.Float64frombits", "math.Float64bits"], unfollowed := true, recurses := true, apart := false, narrowed := true }
def ValueReadsUptoSaid : Prop := valueReadsUptoRow.holds Try.pinned (OpenSpec.upto valueReadsSpec)

/-- 'memoirlaw01.ValueOrders', WHERE WHAT IT READS IS OF BULK AT MOST 1048576: true; the input reads as it did. -/
def valueOrdersUptoRow : OpenClaim := { program := "ytgdegoacjobpdaa", sum := "788d8f79c6634feea416c68dcdab038b2553ee68943c571d1f569a96ba2f35b6", func := "memoir/memoirlaw01.ValueOrders", spec := "valueOrders", inPlace := ["math.Float64frombits", "math.Float64bits"], unfollowed := true, recurses := true, apart := false, narrowed := true }
def ValueOrdersUptoSaid : Prop := valueOrdersUptoRow.holds Try.pinned (OpenSpec.upto valueOrdersSpec)

/-- 'memoirlaw01.ValueBack', WHERE WHAT IT READS IS OF BULK AT MOST 1048576: true; the input reads as it did. -/
def valueBackUptoRow : OpenClaim := { program := "ytgdegoacjobpdaa", sum := "788d8f79c6634feea416c68dcdab038b2553ee68943c571d1f569a96ba2f35b6", func := "memoir/memoirlaw01.ValueBack", spec := "valueBack", inPlace := ["math.Float64frombits", "math.Float64bits"], unfollowed := true, recurses := true, apart := false, narrowed := true }
def ValueBackUptoSaid : Prop := valueBackUptoRow.holds Try.pinned (OpenSpec.upto valueBackSpec)

/-- 'memoirlaw01.ValueFloats', WHERE WHAT IT READS IS OF BULK AT MOST 1048576: true; the input reads as it did. -/
def valueFloatsUptoRow : OpenClaim := { program := "ytgdegoacjobpdaa", sum := "788d8f79c6634feea416c68dcdab038b2553ee68943c571d1f569a96ba2f35b6", func := "memoir/memoirlaw01.ValueFloats", spec := "valueFloats", inPlace := ["math.Float64frombits", "math.Float64bits"], unfollowed := true, recurses := true, apart := false, narrowed := true }
def ValueFloatsUptoSaid : Prop := valueFloatsUptoRow.holds Try.pinned (OpenSpec.upto valueFloatsSpec)

/-- 'memoirlaw01.ValueInts', WHERE WHAT IT READS IS OF BULK AT MOST 1048576: true; the input reads as it did. -/
def valueIntsUptoRow : OpenClaim := { program := "ytgdegoacjobpdaa", sum := "788d8f79c6634feea416c68dcdab038b2553ee68943c571d1f569a96ba2f35b6", func := "memoir/memoirlaw01.ValueInts", spec := "valueInts", inPlace := ["math.Float64frombits", "math.Float64bits"], unfollowed := true, recurses := true, apart := false, narrowed := true }
def ValueIntsUptoSaid : Prop := valueIntsUptoRow.holds Try.pinned (OpenSpec.upto valueIntsSpec)

/-- 'memoirlaw01.ValueOdd', WHERE WHAT IT READS IS OF BULK AT MOST 1048576: true; the input reads as it did. -/
def valueOddUptoRow : OpenClaim := { program := "ytgdegoacjobpdaa", sum := "788d8f79c6634feea416c68dcdab038b2553ee68943c571d1f569a96ba2f35b6", func := "memoir/memoirlaw01.ValueOdd", spec := "valueOdd", inPlace := ["math.Float64frombits", "math.Float64bits"], unfollowed := true, recurses := true, apart := false, narrowed := true }
def ValueOddUptoSaid : Prop := valueOddUptoRow.holds Try.pinned (OpenSpec.upto valueOddSpec)

end Rows
end Go.Proofs.Ytgdegoacjobpdaa
