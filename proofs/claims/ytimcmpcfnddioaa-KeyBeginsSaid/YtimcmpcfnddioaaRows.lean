/-
  No cell of these rows narrows 'for every input' (looked for: loops, veiled, ifaces, maps, wideKeys, modest, calm, conditions, laid).
  DERIVED. THE GIVEN ROWS OF THIS SEAT. 7 by the template 'for every input the law returns true; each argument reads behind the call as it read before'; 0 by the template 'total and deterministic' (their statements: YtimcmpcfnddioaaTotals.lean).
  GIVEN WITH THE SEED: the statements are not yours to turn. If you find one false, say at which input.
  Laid BY PROGRAM, IN A SANDBOX (cutbox-rows.mjs): the forced cells as the released guide's own fill.sh prints them over the translation 4137ced9e6abed1a… (all of the seat's roots in one cut). By AI agents, Wed Nov 11 2026. No macro, syntax, notation, axiom, sorry.
-/
import Derived.Test.YtimcmpcfnddioaaChecked
import GoSem.Claim
import GoSem.ClaimJoined
import GoSem.ClaimMapViews
import Derived.JoinedTies
import Derived.KernelRfl
namespace Go.Proofs.Ytimcmpcfnddioaa
/- THE CELL 'sum', in the pinned program and in every row, IS THE sha256 OF THE DUMP (.gsa) THAT YtimcmpcfnddioaaProg.lean LOADS. Nothing in Lean hashes anything: it is a label: what it is worth is what the hold of that sum in a sandbox is worth. -/
noncomputable def Try.pinned : Pinned := { name := "ytimcmpcfnddioaa", sum := "4137ced9e6abed1a35f8cc1c1d270d4aa6af71493ae19a85b917fe041fa7d9cb", checked := Try.checked }
namespace Rows
def none {H : Type} : Left H := { results := [], args := [] }

/-- 'memoirlaw04.KeyTells': WHATEVER THE INPUT: true; the input reads as it did. -/
def keyTellsSpec : ChangeSpec := { name := "keyTells", fn := fun _ => fun
  | [d1, d2] => { results := [.lit (.bool true)], args := [d1, d2] }
  | _ => none }
def keyTellsRow : OpenClaim := { program := "ytimcmpcfnddioaa", sum := "4137ced9e6abed1a35f8cc1c1d270d4aa6af71493ae19a85b917fe041fa7d9cb", func := "memoir/memoirlaw04.KeyTells", spec := "keyTells", inPlace := ["math.Float64frombits", "math.Float64bits"], unfollowed := true, recurses := true, apart := false }
def KeyTellsSaid : Prop := keyTellsRow.holds Try.pinned (OpenSpec.ofChange keyTellsSpec)

/-- ITS FALSE NEIGHBOUR: 'it returns false'. Refute it at one input. -/
def keyTellsWrong : ChangeSpec := { name := "keyTells", fn := fun _ => fun
  | [d1, d2] => { results := [.lit (.bool false)], args := [d1, d2] }
  | _ => none }
def KeyTellsWrongFalsely : Prop := keyTellsRow.holds Try.pinned (OpenSpec.ofChange keyTellsWrong)

/-- 'memoirlaw04.KeyReads': WHATEVER THE INPUT: true; the input reads as it did. -/
def keyReadsSpec : ChangeSpec := { name := "keyReads", fn := fun _ => fun
  | [d] => { results := [.lit (.bool true)], args := [d] }
  | _ => none }
def keyReadsRow : OpenClaim := { program := "ytimcmpcfnddioaa", sum := "4137ced9e6abed1a35f8cc1c1d270d4aa6af71493ae19a85b917fe041fa7d9cb", func := "memoir/memoirlaw04.KeyReads", spec := "keyReads", inPlace := ["math.Float64frombits", "math.Float64bits"], unfollowed := true, recurses := true, apart := false }
def KeyReadsSaid : Prop := keyReadsRow.holds Try.pinned (OpenSpec.ofChange keyReadsSpec)

/-- ITS FALSE NEIGHBOUR: 'it returns false'. Refute it at one input. -/
def keyReadsWrong : ChangeSpec := { name := "keyReads", fn := fun _ => fun
  | [d] => { results := [.lit (.bool false)], args := [d] }
  | _ => none }
def KeyReadsWrongFalsely : Prop := keyReadsRow.holds Try.pinned (OpenSpec.ofChange keyReadsWrong)

/-- 'memoirlaw04.KeyOrders': WHATEVER THE INPUT: true; the input reads as it did. -/
def keyOrdersSpec : ChangeSpec := { name := "keyOrders", fn := fun _ => fun
  | [d1, d2] => { results := [.lit (.bool true)], args := [d1, d2] }
  | _ => none }
def keyOrdersRow : OpenClaim := { program := "ytimcmpcfnddioaa", sum := "4137ced9e6abed1a35f8cc1c1d270d4aa6af71493ae19a85b917fe041fa7d9cb", func := "memoir/memoirlaw04.KeyOrders", spec := "keyOrders", inPlace := ["math.Float64frombits", "math.Float64bits"], unfollowed := true, recurses := true, apart := false }
def KeyOrdersSaid : Prop := keyOrdersRow.holds Try.pinned (OpenSpec.ofChange keyOrdersSpec)

/-- ITS FALSE NEIGHBOUR: 'it returns false'. Refute it at one input. -/
def keyOrdersWrong : ChangeSpec := { name := "keyOrders", fn := fun _ => fun
  | [d1, d2] => { results := [.lit (.bool false)], args := [d1, d2] }
  | _ => none }
def KeyOrdersWrongFalsely : Prop := keyOrdersRow.holds Try.pinned (OpenSpec.ofChange keyOrdersWrong)

/-- 'memoirlaw04.KeyBack': WHATEVER THE INPUT: true; the input reads as it did. -/
def keyBackSpec : ChangeSpec := { name := "keyBack", fn := fun _ => fun
  | [d1, d2] => { results := [.lit (.bool true)], args := [d1, d2] }
  | _ => none }
def keyBackRow : OpenClaim := { program := "ytimcmpcfnddioaa", sum := "4137ced9e6abed1a35f8cc1c1d270d4aa6af71493ae19a85b917fe041fa7d9cb", func := "memoir/memoirlaw04.KeyBack", spec := "keyBack", inPlace := ["math.Float64frombits", "math.Float64bits"], unfollowed := true, recurses := true, apart := false }
def KeyBackSaid : Prop := keyBackRow.holds Try.pinned (OpenSpec.ofChange keyBackSpec)

/-- ITS FALSE NEIGHBOUR: 'it returns false'. Refute it at one input. -/
def keyBackWrong : ChangeSpec := { name := "keyBack", fn := fun _ => fun
  | [d1, d2] => { results := [.lit (.bool false)], args := [d1, d2] }
  | _ => none }
def KeyBackWrongFalsely : Prop := keyBackRow.holds Try.pinned (OpenSpec.ofChange keyBackWrong)

/-- 'memoirlaw04.KeyBegins': WHATEVER THE INPUT: true; the input reads as it did. -/
def keyBeginsSpec : ChangeSpec := { name := "keyBegins", fn := fun _ => fun
  | [d1, d2, d3] => { results := [.lit (.bool true)], args := [d1, d2, d3] }
  | _ => none }
def keyBeginsRow : OpenClaim := { program := "ytimcmpcfnddioaa", sum := "4137ced9e6abed1a35f8cc1c1d270d4aa6af71493ae19a85b917fe041fa7d9cb", func := "memoir/memoirlaw04.KeyBegins", spec := "keyBegins", inPlace := ["math.Float64frombits", "math.Float64bits"], unfollowed := true, recurses := true, apart := false }
def KeyBeginsSaid : Prop := keyBeginsRow.holds Try.pinned (OpenSpec.ofChange keyBeginsSpec)

/-- ITS FALSE NEIGHBOUR: 'it returns false'. Refute it at one input. -/
def keyBeginsWrong : ChangeSpec := { name := "keyBegins", fn := fun _ => fun
  | [d1, d2, d3] => { results := [.lit (.bool false)], args := [d1, d2, d3] }
  | _ => none }
def KeyBeginsWrongFalsely : Prop := keyBeginsRow.holds Try.pinned (OpenSpec.ofChange keyBeginsWrong)

/-- 'memoirlaw04.KeyNext': WHATEVER THE INPUT: true; the input reads as it did. -/
def keyNextSpec : ChangeSpec := { name := "keyNext", fn := fun _ => fun
  | [d1, d2] => { results := [.lit (.bool true)], args := [d1, d2] }
  | _ => none }
def keyNextRow : OpenClaim := { program := "ytimcmpcfnddioaa", sum := "4137ced9e6abed1a35f8cc1c1d270d4aa6af71493ae19a85b917fe041fa7d9cb", func := "memoir/memoirlaw04.KeyNext", spec := "keyNext", inPlace := ["math.Float64frombits", "math.Float64bits"], unfollowed := true, recurses := true, apart := false }
def KeyNextSaid : Prop := keyNextRow.holds Try.pinned (OpenSpec.ofChange keyNextSpec)

/-- ITS FALSE NEIGHBOUR: 'it returns false'. Refute it at one input. -/
def keyNextWrong : ChangeSpec := { name := "keyNext", fn := fun _ => fun
  | [d1, d2] => { results := [.lit (.bool false)], args := [d1, d2] }
  | _ => none }
def KeyNextWrongFalsely : Prop := keyNextRow.holds Try.pinned (OpenSpec.ofChange keyNextWrong)

/-- 'memoirlaw04.KeyEnds': WHATEVER THE INPUT: true; the input reads as it did. -/
def keyEndsSpec : ChangeSpec := { name := "keyEnds", fn := fun _ => fun
  | [d1, d2] => { results := [.lit (.bool true)], args := [d1, d2] }
  | _ => none }
def keyEndsRow : OpenClaim := { program := "ytimcmpcfnddioaa", sum := "4137ced9e6abed1a35f8cc1c1d270d4aa6af71493ae19a85b917fe041fa7d9cb", func := "memoir/memoirlaw04.KeyEnds", spec := "keyEnds", inPlace := ["math.Float64frombits", "math.Float64bits"], unfollowed := true, recurses := true, apart := false }
def KeyEndsSaid : Prop := keyEndsRow.holds Try.pinned (OpenSpec.ofChange keyEndsSpec)

/-- ITS FALSE NEIGHBOUR: 'it returns false'. Refute it at one input. -/
def keyEndsWrong : ChangeSpec := { name := "keyEnds", fn := fun _ => fun
  | [d1, d2] => { results := [.lit (.bool false)], args := [d1, d2] }
  | _ => none }
def KeyEndsWrongFalsely : Prop := keyEndsRow.holds Try.pinned (OpenSpec.ofChange keyEndsWrong)

/- THE SECOND FORM. 'bulk': how many values and letters a reading holds, each counted each time it is reached (what is shared counts as often as it is met; a slice's spare places count too). A statement '..UptoSaid' is the law's where the arguments, and the package variables that the reading takes, are together of bulk at most 1048576: NARROWER than '..Said'. Prove '..Said' where nothing that the law and all that it calls make is longer than what came in: it says more and counts as full. Else prove '..UptoSaid'. A law counts once. -/
mutual
def uptoBulk {H : Type} : DataW H → Nat
  | .lit (.string bytes) => bytes.length + 1
  | .lit _ => 1
  | .nil => 1
  | .ptr d => uptoBulk d + 1
  | .slice elems spare => uptoBulkAll elems + uptoBulkAll spare + 1
  | .agg parts => uptoBulkAll parts + 1
  | .iface _ d => uptoBulk d + 1
  | .map entries => uptoBulkEntries entries + 1
  | .held _ => 1
def uptoBulkAll {H : Type} : List (DataW H) → Nat
  | [] => 0
  | d :: r => uptoBulk d + uptoBulkAll r
def uptoBulkEntries {H : Type} : List (Lit × DataW H) → Nat
  | [] => 0
  | x :: r => uptoBulkEntry x + uptoBulkEntries r
def uptoBulkEntry {H : Type} : Lit × DataW H → Nat
  | (.string bytes, d) => bytes.length + uptoBulk d + 1
  | (_, d) => uptoBulk d + 1
 end
def uptoSmall : (H : Type) → List (DataW H) → Bool := fun _ ds => decide (uptoBulkAll ds ≤ 1048576)
def OpenSpec.upto (s : _root_.Go.ChangeSpec) : _root_.Go.OpenSpec := { _root_.Go.OpenSpec.ofChange s with cond := some uptoSmall }

/-- 'memoirlaw04.KeyTells', WHERE WHAT IT READS IS OF BULK AT MOST 1048576: true; the input reads as it did. -/
def keyTellsUptoRow : OpenClaim := { program := "ytimcmpcfnddioaa", sum := "4137ced9e6abed1a35f8cc1c1d270d4aa6af71493ae19a85b917fe041fa7d9cb", func := "memoir/memoirlaw04.KeyTells", spec := "keyTells", inPlace := ["math.Float64frombits", "math.Float64bits"], unfollowed := true, recurses := true, apart := false, narrowed := true }
def KeyTellsUptoSaid : Prop := keyTellsUptoRow.holds Try.pinned (OpenSpec.upto keyTellsSpec)

/-- 'memoirlaw04.KeyReads', WHERE WHAT IT READS IS OF BULK AT MOST 1048576: true; the input reads as it did. -/
def keyReadsUptoRow : OpenClaim := { program := "ytimcmpcfnddioaa", sum := "4137ced9e6abed1a35f8cc1c1d270d4aa6af71493ae19a85b917fe041fa7d9cb", func := "memoir/memoirlaw04.KeyReads", spec := "keyReads", inPlace := ["math.Float64frombits", "math.Float64bits"], unfollowed := true, recurses := true, apart := false, narrowed := true }
def KeyReadsUptoSaid : Prop := keyReadsUptoRow.holds Try.pinned (OpenSpec.upto keyReadsSpec)

/-- 'memoirlaw04.KeyOrders', WHERE WHAT IT READS IS OF BULK AT MOST 1048576: true; the input reads as it did. -/
def keyOrdersUptoRow : OpenClaim := { program := "ytimcmpcfnddioaa", sum := "4137ced9e6abed1a35f8cc1c1d270d4aa6af71493ae19a85b917fe041fa7d9cb", func := "memoir/memoirlaw04.KeyOrders", spec := "keyOrders", inPlace := ["math.Float64frombits", "math.Float64bits"], unfollowed := true, recurses := true, apart := false, narrowed := true }
def KeyOrdersUptoSaid : Prop := keyOrdersUptoRow.holds Try.pinned (OpenSpec.upto keyOrdersSpec)

/-- 'memoirlaw04.KeyBack', WHERE WHAT IT READS IS OF BULK AT MOST 1048576: true; the input reads as it did. -/
def keyBackUptoRow : OpenClaim := { program := "ytimcmpcfnddioaa", sum := "4137ced9e6abed1a35f8cc1c1d270d4aa6af71493ae19a85b917fe041fa7d9cb", func := "memoir/memoirlaw04.KeyBack", spec := "keyBack", inPlace := ["math.Float64frombits", "math.Float64bits"], unfollowed := true, recurses := true, apart := false, narrowed := true }
def KeyBackUptoSaid : Prop := keyBackUptoRow.holds Try.pinned (OpenSpec.upto keyBackSpec)

/-- 'memoirlaw04.KeyBegins', WHERE WHAT IT READS IS OF BULK AT MOST 1048576: true; the input reads as it did. -/
def keyBeginsUptoRow : OpenClaim := { program := "ytimcmpcfnddioaa", sum := "4137ced9e6abed1a35f8cc1c1d270d4aa6af71493ae19a85b917fe041fa7d9cb", func := "memoir/memoirlaw04.KeyBegins", spec := "keyBegins", inPlace := ["math.Float64frombits", "math.Float64bits"], unfollowed := true, recurses := true, apart := false, narrowed := true }
def KeyBeginsUptoSaid : Prop := keyBeginsUptoRow.holds Try.pinned (OpenSpec.upto keyBeginsSpec)

/-- 'memoirlaw04.KeyNext', WHERE WHAT IT READS IS OF BULK AT MOST 1048576: true; the input reads as it did. -/
def keyNextUptoRow : OpenClaim := { program := "ytimcmpcfnddioaa", sum := "4137ced9e6abed1a35f8cc1c1d270d4aa6af71493ae19a85b917fe041fa7d9cb", func := "memoir/memoirlaw04.KeyNext", spec := "keyNext", inPlace := ["math.Float64frombits", "math.Float64bits"], unfollowed := true, recurses := true, apart := false, narrowed := true }
def KeyNextUptoSaid : Prop := keyNextUptoRow.holds Try.pinned (OpenSpec.upto keyNextSpec)

/-- 'memoirlaw04.KeyEnds', WHERE WHAT IT READS IS OF BULK AT MOST 1048576: true; the input reads as it did. -/
def keyEndsUptoRow : OpenClaim := { program := "ytimcmpcfnddioaa", sum := "4137ced9e6abed1a35f8cc1c1d270d4aa6af71493ae19a85b917fe041fa7d9cb", func := "memoir/memoirlaw04.KeyEnds", spec := "keyEnds", inPlace := ["math.Float64frombits", "math.Float64bits"], unfollowed := true, recurses := true, apart := false, narrowed := true }
def KeyEndsUptoSaid : Prop := keyEndsUptoRow.holds Try.pinned (OpenSpec.upto keyEndsSpec)

end Rows
end Go.Proofs.Ytimcmpcfnddioaa
