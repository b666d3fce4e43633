/-
  No cell of these rows narrows 'for every input' (looked for: loops, veiled, ifaces, maps, wideKeys, modest, calm, conditions, laid).
  DERIVED. THE GIVEN ROWS OF THIS SEAT. 6 by the template 'for every input the law returns true; each argument reads behind the call as it read before'; 0 by the template 'total and deterministic' (their statements: YtmcneelapghfcaaTotals.lean).
  GIVEN WITH THE SEED: the statements are not yours to turn. If you find one false, say at which input.
  Laid BY PROGRAM, IN A SANDBOX (cutbox-rows.mjs): the forced cells as the released guide's own fill.sh prints them over the translation 06e7a4b9d3fa57d0… (all of the seat's roots in one cut). By AI agents, Wed Nov 11 2026. No macro, syntax, notation, axiom, sorry.
-/
import Derived.Test.YtmcneelapghfcaaChecked
import GoSem.Claim
import GoSem.ClaimJoined
import GoSem.ClaimMapViews
import Derived.JoinedTies
import Derived.KernelRfl
namespace Go.Proofs.Ytmcneelapghfcaa
/- THE CELL 'sum', in the pinned program and in every row, IS THE sha256 OF THE DUMP (.gsa) THAT YtmcneelapghfcaaProg.lean LOADS. Nothing in Lean hashes anything: it is a label: what it is worth is what the hold of that sum in a sandbox is worth. -/
noncomputable def Try.pinned : Pinned := { name := "ytmcneelapghfcaa", sum := "06e7a4b9d3fa57d0bb6f34a36737fad6be83fec0ef90e93ccf6355b8e5c4a2f7", checked := Try.checked }
namespace Rows
def none {H : Type} : Left H := { results := [], args := [] }

/-- 'memoirlaw17.QueryTells': WHATEVER THE INPUT: true; the input reads as it did. -/
def queryTellsSpec : ChangeSpec := { name := "queryTells", fn := fun _ => fun
  | [d1, d2, d3] => { results := [.lit (.bool true)], args := [d1, d2, d3] }
  | _ => none }
def queryTellsRow : OpenClaim := { program := "ytmcneelapghfcaa", sum := "06e7a4b9d3fa57d0bb6f34a36737fad6be83fec0ef90e93ccf6355b8e5c4a2f7", func := "memoir/memoirlaw17.QueryTells", spec := "queryTells", inPlace := ["math.Float64frombits", "math.Float64bits"], unfollowed := true, recurses := true, apart := false }
def QueryTellsSaid : Prop := queryTellsRow.holds Try.pinned (OpenSpec.ofChange queryTellsSpec)

/-- ITS FALSE NEIGHBOUR: 'it returns false'. Refute it at one input. -/
def queryTellsWrong : ChangeSpec := { name := "queryTells", fn := fun _ => fun
  | [d1, d2, d3] => { results := [.lit (.bool false)], args := [d1, d2, d3] }
  | _ => none }
def QueryTellsWrongFalsely : Prop := queryTellsRow.holds Try.pinned (OpenSpec.ofChange queryTellsWrong)

/-- 'memoirlaw17.QueryReads': WHATEVER THE INPUT: true; the input reads as it did. -/
def queryReadsSpec : ChangeSpec := { name := "queryReads", fn := fun _ => fun
  | [d] => { results := [.lit (.bool true)], args := [d] }
  | _ => none }
def queryReadsRow : OpenClaim := { program := "ytmcneelapghfcaa", sum := "06e7a4b9d3fa57d0bb6f34a36737fad6be83fec0ef90e93ccf6355b8e5c4a2f7", func := "memoir/memoirlaw17.QueryReads", spec := "queryReads", inPlace := ["math.Float64frombits", "math.Float64bits"], unfollowed := true, recurses := true, apart := false }
def QueryReadsSaid : Prop := queryReadsRow.holds Try.pinned (OpenSpec.ofChange queryReadsSpec)

/-- ITS FALSE NEIGHBOUR: 'it returns false'. Refute it at one input. -/
def queryReadsWrong : ChangeSpec := { name := "queryReads", fn := fun _ => fun
  | [d] => { results := [.lit (.bool false)], args := [d] }
  | _ => none }
def QueryReadsWrongFalsely : Prop := queryReadsRow.holds Try.pinned (OpenSpec.ofChange queryReadsWrong)

/-- 'memoirlaw17.QueryBack': WHATEVER THE INPUT: true; the input reads as it did. -/
def queryBackSpec : ChangeSpec := { name := "queryBack", fn := fun _ => fun
  | [d1, d2] => { results := [.lit (.bool true)], args := [d1, d2] }
  | _ => none }
def queryBackRow : OpenClaim := { program := "ytmcneelapghfcaa", sum := "06e7a4b9d3fa57d0bb6f34a36737fad6be83fec0ef90e93ccf6355b8e5c4a2f7", func := "memoir/memoirlaw17.QueryBack", spec := "queryBack", inPlace := ["math.Float64frombits", "math.Float64bits"], unfollowed := true, recurses := true, apart := false }
def QueryBackSaid : Prop := queryBackRow.holds Try.pinned (OpenSpec.ofChange queryBackSpec)

/-- ITS FALSE NEIGHBOUR: 'it returns false'. Refute it at one input. -/
def queryBackWrong : ChangeSpec := { name := "queryBack", fn := fun _ => fun
  | [d1, d2] => { results := [.lit (.bool false)], args := [d1, d2] }
  | _ => none }
def QueryBackWrongFalsely : Prop := queryBackRow.holds Try.pinned (OpenSpec.ofChange queryBackWrong)

/-- 'memoirlaw17.QueryGrows': WHATEVER THE INPUT: true; the input reads as it did. -/
def queryGrowsSpec : ChangeSpec := { name := "queryGrows", fn := fun _ => fun
  | [d1, d2, d3] => { results := [.lit (.bool true)], args := [d1, d2, d3] }
  | _ => none }
def queryGrowsRow : OpenClaim := { program := "ytmcneelapghfcaa", sum := "06e7a4b9d3fa57d0bb6f34a36737fad6be83fec0ef90e93ccf6355b8e5c4a2f7", func := "memoir/memoirlaw17.QueryGrows", spec := "queryGrows", inPlace := ["math.Float64frombits", "math.Float64bits"], unfollowed := true, recurses := true, apart := false }
def QueryGrowsSaid : Prop := queryGrowsRow.holds Try.pinned (OpenSpec.ofChange queryGrowsSpec)

/-- ITS FALSE NEIGHBOUR: 'it returns false'. Refute it at one input. -/
def queryGrowsWrong : ChangeSpec := { name := "queryGrows", fn := fun _ => fun
  | [d1, d2, d3] => { results := [.lit (.bool false)], args := [d1, d2, d3] }
  | _ => none }
def QueryGrowsWrongFalsely : Prop := queryGrowsRow.holds Try.pinned (OpenSpec.ofChange queryGrowsWrong)

/-- 'memoirlaw17.QueryCols': WHATEVER THE INPUT: true; the input reads as it did. -/
def queryColsSpec : ChangeSpec := { name := "queryCols", fn := fun _ => fun
  | [d1, d2] => { results := [.lit (.bool true)], args := [d1, d2] }
  | _ => none }
def queryColsRow : OpenClaim := { program := "ytmcneelapghfcaa", sum := "06e7a4b9d3fa57d0bb6f34a36737fad6be83fec0ef90e93ccf6355b8e5c4a2f7", func := "memoir/memoirlaw17.QueryCols", spec := "queryCols", inPlace := ["math.Float64frombits", "math.Float64bits"], unfollowed := true, recurses := true, apart := false }
def QueryColsSaid : Prop := queryColsRow.holds Try.pinned (OpenSpec.ofChange queryColsSpec)

/-- ITS FALSE NEIGHBOUR: 'it returns false'. Refute it at one input. -/
def queryColsWrong : ChangeSpec := { name := "queryCols", fn := fun _ => fun
  | [d1, d2] => { results := [.lit (.bool false)], args := [d1, d2] }
  | _ => none }
def QueryColsWrongFalsely : Prop := queryColsRow.holds Try.pinned (OpenSpec.ofChange queryColsWrong)

/-- 'memoirlaw17.QueryPasses': WHATEVER THE INPUT: true; the input reads as it did. -/
def queryPassesSpec : ChangeSpec := { name := "queryPasses", fn := fun _ => fun
  | [d1, d2] => { results := [.lit (.bool true)], args := [d1, d2] }
  | _ => none }
def queryPassesRow : OpenClaim := { program := "ytmcneelapghfcaa", sum := "06e7a4b9d3fa57d0bb6f34a36737fad6be83fec0ef90e93ccf6355b8e5c4a2f7", func := "memoir/memoirlaw17.QueryPasses", spec := "queryPasses", inPlace := ["math.Float64frombits", "math.Float64bits"], unfollowed := true, recurses := true, apart := false }
def QueryPassesSaid : Prop := queryPassesRow.holds Try.pinned (OpenSpec.ofChange queryPassesSpec)

/-- ITS FALSE NEIGHBOUR: 'it returns false'. Refute it at one input. -/
def queryPassesWrong : ChangeSpec := { name := "queryPasses", fn := fun _ => fun
  | [d1, d2] => { results := [.lit (.bool false)], args := [d1, d2] }
  | _ => none }
def QueryPassesWrongFalsely : Prop := queryPassesRow.holds Try.pinned (OpenSpec.ofChange queryPassesWrong)

/- THE SECOND FORM. 'bulk': how many values and letters a reading holds, each counted each time it is reached (what is shared counts as often as it is met; a slice's spare places count too). A statement '..UptoSaid' is the law's where the arguments, and the package variables that the reading takes, are together of bulk at most 1048576: NARROWER than '..Said'. Prove '..Said' where nothing that the law and all that it calls make is longer than what came in: it says more and counts as full. Else prove '..UptoSaid'. A law counts once. -/
mutual
def uptoBulk {H : Type} : DataW H → Nat
  | .lit (.string bytes) => bytes.length + 1
  | .lit _ => 1
  | .nil => 1
  | .ptr d => uptoBulk d + 1
  | .slice elems spare => uptoBulkAll elems + uptoBulkAll spare + 1
  | .agg parts => uptoBulkAll parts + 1
  | .iface _ d => uptoBulk d + 1
  | .map entries => uptoBulkEntries entries + 1
  | .held _ => 1
def uptoBulkAll {H : Type} : List (DataW H) → Nat
  | [] => 0
  | d :: r => uptoBulk d + uptoBulkAll r
def uptoBulkEntries {H : Type} : List (Lit × DataW H) → Nat
  | [] => 0
  | x :: r => uptoBulkEntry x + uptoBulkEntries r
def uptoBulkEntry {H : Type} : Lit × DataW H → Nat
  | (.string bytes, d) => bytes.length + uptoBulk d + 1
  | (_, d) => uptoBulk d + 1
 end
def uptoSmall : (H : Type) → List (DataW H) → Bool := fun _ ds => decide (uptoBulkAll ds ≤ 1048576)
def OpenSpec.upto (s : _root_.Go.ChangeSpec) : _root_.Go.OpenSpec := { _root_.Go.OpenSpec.ofChange s with cond := some uptoSmall }

/-- 'memoirlaw17.QueryTells', WHERE WHAT IT READS IS OF BULK AT MOST 1048576: true; the input reads as it did. -/
def queryTellsUptoRow : OpenClaim := { program := "ytmcneelapghfcaa", sum := "06e7a4b9d3fa57d0bb6f34a36737fad6be83fec0ef90e93ccf6355b8e5c4a2f7", func := "memoir/memoirlaw17.QueryTells", spec := "queryTells", inPlace := ["math.Float64frombits", "math.Float64bits"], unfollowed := true, recurses := true, apart := false, narrowed := true }
def QueryTellsUptoSaid : Prop := queryTellsUptoRow.holds Try.pinned (OpenSpec.upto queryTellsSpec)

/-- 'memoirlaw17.QueryReads', WHERE WHAT IT READS IS OF BULK AT MOST 1048576: true; the input reads as it did. -/
def queryReadsUptoRow : OpenClaim := { program := "ytmcneelapghfcaa", sum := "06e7a4b9d3fa57d0bb6f34a36737fad6be83fec0ef90e93ccf6355b8e5c4a2f7", func := "memoir/memoirlaw17.QueryReads", spec := "queryReads", inPlace := ["math.Float64frombits", "math.Float64bits"], unfollowed := true, recurses := true, apart := false, narrowed := true }
def QueryReadsUptoSaid : Prop := queryReadsUptoRow.holds Try.pinned (OpenSpec.upto queryReadsSpec)

/-- 'memoirlaw17.QueryBack', WHERE WHAT IT READS IS OF BULK AT MOST 1048576: true; the input reads as it did. -/
def queryBackUptoRow : OpenClaim := { program := "ytmcneelapghfcaa", sum := "06e7a4b9d3fa57d0bb6f34a36737fad6be83fec0ef90e93ccf6355b8e5c4a2f7", func := "memoir/memoirlaw17.QueryBack", spec := "queryBack", inPlace := ["math.Float64frombits", "math.Float64bits"], unfollowed := true, recurses := true, apart := false, narrowed := true }
def QueryBackUptoSaid : Prop := queryBackUptoRow.holds Try.pinned (OpenSpec.upto queryBackSpec)

/-- 'memoirlaw17.QueryGrows', WHERE WHAT IT READS IS OF BULK AT MOST 1048576: true; the input reads as it did. -/
def queryGrowsUptoRow : OpenClaim := { program := "ytmcneelapghfcaa", sum := "06e7a4b9d3fa57d0bb6f34a36737fad6be83fec0ef90e93ccf6355b8e5c4a2f7", func := "memoir/memoirlaw17.QueryGrows", spec := "queryGrows", inPlace := ["math.Float64frombits", "math.Float64bits"], unfollowed := true, recurses := true, apart := false, narrowed := true }
def QueryGrowsUptoSaid : Prop := queryGrowsUptoRow.holds Try.pinned (OpenSpec.upto queryGrowsSpec)

/-- 'memoirlaw17.QueryCols', WHERE WHAT IT READS IS OF BULK AT MOST 1048576: true; the input reads as it did. -/
def queryColsUptoRow : OpenClaim := { program := "ytmcneelapghfcaa", sum := "06e7a4b9d3fa57d0bb6f34a36737fad6be83fec0ef90e93ccf6355b8e5c4a2f7", func := "memoir/memoirlaw17.QueryCols", spec := "queryCols", inPlace := ["math.Float64frombits", "math.Float64bits"], unfollowed := true, recurses := true, apart := false, narrowed := true }
def QueryColsUptoSaid : Prop := queryColsUptoRow.holds Try.pinned (OpenSpec.upto queryColsSpec)

/-- 'memoirlaw17.QueryPasses', WHERE WHAT IT READS IS OF BULK AT MOST 1048576: true; the input reads as it did. -/
def queryPassesUptoRow : OpenClaim := { program := "ytmcneelapghfcaa", sum := "06e7a4b9d3fa57d0bb6f34a36737fad6be83fec0ef90e93ccf6355b8e5c4a2f7", func := "memoir/memoirlaw17.QueryPasses", spec := "queryPasses", inPlace := ["math.Float64frombits", "math.Float64bits"], unfollowed := true, recurses := true, apart := false, narrowed := true }
def QueryPassesUptoSaid : Prop := queryPassesUptoRow.holds Try.pinned (OpenSpec.upto queryPassesSpec)

end Rows
end Go.Proofs.Ytmcneelapghfcaa
