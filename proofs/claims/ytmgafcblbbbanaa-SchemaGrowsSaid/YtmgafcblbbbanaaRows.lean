/-
  No cell of these rows narrows 'for every input' (looked for: loops, veiled, ifaces, maps, wideKeys, modest, calm, conditions, laid).
  DERIVED. THE GIVEN ROWS OF THIS SEAT. 6 by the template 'for every input the law returns true; each argument reads behind the call as it read before'; 0 by the template 'total and deterministic' (their statements: YtmgafcblbbbanaaTotals.lean).
  GIVEN WITH THE SEED: the statements are not yours to turn. If you find one false, say at which input.
  Laid BY PROGRAM, IN A SANDBOX (cutbox-rows.mjs): the forced cells as the released guide's own fill.sh prints them over the translation ce36a7826052f750… (all of the seat's roots in one cut). By AI agents, Wed Nov 11 2026. No macro, syntax, notation, axiom, sorry.
-/
import Derived.Test.YtmgafcblbbbanaaChecked
import GoSem.Claim
import GoSem.ClaimJoined
import GoSem.ClaimMapViews
import Derived.JoinedTies
import Derived.KernelRfl
namespace Go.Proofs.Ytmgafcblbbbanaa
/- THE CELL 'sum', in the pinned program and in every row, IS THE sha256 OF THE DUMP (.gsa) THAT YtmgafcblbbbanaaProg.lean LOADS. Nothing in Lean hashes anything: it is a label: what it is worth is what the hold of that sum in a sandbox is worth. -/
noncomputable def Try.pinned : Pinned := { name := "ytmgafcblbbbanaa", sum := "ce36a7826052f750ac03e1e689a4558c93b5824adc7accaf66a6ab1e1567e4f2", checked := Try.checked }
namespace Rows
def none {H : Type} : Left H := { results := [], args := [] }

/-- 'memoirlaw05.SchemaTells': WHATEVER THE INPUT: true; the input reads as it did. -/
def schemaTellsSpec : ChangeSpec := { name := "schemaTells", fn := fun _ => fun
  | [d1, d2, d3] => { results := [.lit (.bool true)], args := [d1, d2, d3] }
  | _ => none }
def schemaTellsRow : OpenClaim := { program := "ytmgafcblbbbanaa", sum := "ce36a7826052f750ac03e1e689a4558c93b5824adc7accaf66a6ab1e1567e4f2", func := "memoir/memoirlaw05.SchemaTells", spec := "schemaTells", inPlace := ["math.Float64frombits", "math.Float64bits"], unfollowed := true, recurses := true, apart := false }
def SchemaTellsSaid : Prop := schemaTellsRow.holds Try.pinned (OpenSpec.ofChange schemaTellsSpec)

/-- ITS FALSE NEIGHBOUR: 'it returns false'. Refute it at one input. -/
def schemaTellsWrong : ChangeSpec := { name := "schemaTells", fn := fun _ => fun
  | [d1, d2, d3] => { results := [.lit (.bool false)], args := [d1, d2, d3] }
  | _ => none }
def SchemaTellsWrongFalsely : Prop := schemaTellsRow.holds Try.pinned (OpenSpec.ofChange schemaTellsWrong)

/-- 'memoirlaw05.SchemaRows': WHATEVER THE INPUT: true; the input reads as it did. -/
def schemaRowsSpec : ChangeSpec := { name := "schemaRows", fn := fun _ => fun
  | [d1, d2] => { results := [.lit (.bool true)], args := [d1, d2] }
  | _ => none }
def schemaRowsRow : OpenClaim := { program := "ytmgafcblbbbanaa", sum := "ce36a7826052f750ac03e1e689a4558c93b5824adc7accaf66a6ab1e1567e4f2", func := "memoir/memoirlaw05.SchemaRows", spec := "schemaRows", inPlace := ["math.Float64frombits", "math.Float64bits"], unfollowed := true, recurses := true, apart := false }
def SchemaRowsSaid : Prop := schemaRowsRow.holds Try.pinned (OpenSpec.ofChange schemaRowsSpec)

/-- ITS FALSE NEIGHBOUR: 'it returns false'. Refute it at one input. -/
def schemaRowsWrong : ChangeSpec := { name := "schemaRows", fn := fun _ => fun
  | [d1, d2] => { results := [.lit (.bool false)], args := [d1, d2] }
  | _ => none }
def SchemaRowsWrongFalsely : Prop := schemaRowsRow.holds Try.pinned (OpenSpec.ofChange schemaRowsWrong)

/-- 'memoirlaw05.SchemaReads': WHATEVER THE INPUT: true; the input reads as it did. -/
def schemaReadsSpec : ChangeSpec := { name := "schemaReads", fn := fun _ => fun
  | [d] => { results := [.lit (.bool true)], args := [d] }
  | _ => none }
def schemaReadsRow : OpenClaim := { program := "ytmgafcblbbbanaa", sum := "ce36a7826052f750ac03e1e689a4558c93b5824adc7accaf66a6ab1e1567e4f2", func := "memoir/memoirlaw05.SchemaReads", spec := "schemaReads", inPlace := ["math.Float64frombits", "math.Float64bits"], unfollowed := true, recurses := true, apart := false }
def SchemaReadsSaid : Prop := schemaReadsRow.holds Try.pinned (OpenSpec.ofChange schemaReadsSpec)

/-- ITS FALSE NEIGHBOUR: 'it returns false'. Refute it at one input. -/
def schemaReadsWrong : ChangeSpec := { name := "schemaReads", fn := fun _ => fun
  | [d] => { results := [.lit (.bool false)], args := [d] }
  | _ => none }
def SchemaReadsWrongFalsely : Prop := schemaReadsRow.holds Try.pinned (OpenSpec.ofChange schemaReadsWrong)

/-- 'memoirlaw05.SchemaBack': WHATEVER THE INPUT: true; the input reads as it did. -/
def schemaBackSpec : ChangeSpec := { name := "schemaBack", fn := fun _ => fun
  | [d1, d2] => { results := [.lit (.bool true)], args := [d1, d2] }
  | _ => none }
def schemaBackRow : OpenClaim := { program := "ytmgafcblbbbanaa", sum := "ce36a7826052f750ac03e1e689a4558c93b5824adc7accaf66a6ab1e1567e4f2", func := "memoir/memoirlaw05.SchemaBack", spec := "schemaBack", inPlace := ["math.Float64frombits", "math.Float64bits"], unfollowed := true, recurses := true, apart := false }
def SchemaBackSaid : Prop := schemaBackRow.holds Try.pinned (OpenSpec.ofChange schemaBackSpec)

/-- ITS FALSE NEIGHBOUR: 'it returns false'. Refute it at one input. -/
def schemaBackWrong : ChangeSpec := { name := "schemaBack", fn := fun _ => fun
  | [d1, d2] => { results := [.lit (.bool false)], args := [d1, d2] }
  | _ => none }
def SchemaBackWrongFalsely : Prop := schemaBackRow.holds Try.pinned (OpenSpec.ofChange schemaBackWrong)

/-- 'memoirlaw05.SchemaGrows': WHATEVER THE INPUT: true; the input reads as it did. -/
def schemaGrowsSpec : ChangeSpec := { name := "schemaGrows", fn := fun _ => fun
  | [d1, d2] => { results := [.lit (.bool true)], args := [d1, d2] }
  | _ => none }
def schemaGrowsRow : OpenClaim := { program := "ytmgafcblbbbanaa", sum := "ce36a7826052f750ac03e1e689a4558c93b5824adc7accaf66a6ab1e1567e4f2", func := "memoir/memoirlaw05.SchemaGrows", spec := "schemaGrows", inPlace := ["math.Float64frombits", "math.Float64bits"], unfollowed := true, recurses := true, apart := false }
def SchemaGrowsSaid : Prop := schemaGrowsRow.holds Try.pinned (OpenSpec.ofChange schemaGrowsSpec)

/-- ITS FALSE NEIGHBOUR: 'it returns false'. Refute it at one input. -/
def schemaGrowsWrong : ChangeSpec := { name := "schemaGrows", fn := fun _ => fun
  | [d1, d2] => { results := [.lit (.bool false)], args := [d1, d2] }
  | _ => none }
def SchemaGrowsWrongFalsely : Prop := schemaGrowsRow.holds Try.pinned (OpenSpec.ofChange schemaGrowsWrong)

/-- 'memoirlaw05.SchemaKeys': WHATEVER THE INPUT: true; the input reads as it did. -/
def schemaKeysSpec : ChangeSpec := { name := "schemaKeys", fn := fun _ => fun
  | [d1, d2, d3] => { results := [.lit (.bool true)], args := [d1, d2, d3] }
  | _ => none }
def schemaKeysRow : OpenClaim := { program := "ytmgafcblbbbanaa", sum := "ce36a7826052f750ac03e1e689a4558c93b5824adc7accaf66a6ab1e1567e4f2", func := "memoir/memoirlaw05.SchemaKeys", spec := "schemaKeys", inPlace := ["math.Float64frombits", "math.Float64bits"], unfollowed := true, recurses := true, apart := false }
def SchemaKeysSaid : Prop := schemaKeysRow.holds Try.pinned (OpenSpec.ofChange schemaKeysSpec)

/-- ITS FALSE NEIGHBOUR: 'it returns false'. Refute it at one input. -/
def schemaKeysWrong : ChangeSpec := { name := "schemaKeys", fn := fun _ => fun
  | [d1, d2, d3] => { results := [.lit (.bool false)], args := [d1, d2, d3] }
  | _ => none }
def SchemaKeysWrongFalsely : Prop := schemaKeysRow.holds Try.pinned (OpenSpec.ofChange schemaKeysWrong)

/- THE SECOND FORM. 'bulk': how many values and letters a reading holds, each counted each time it is reached (what is shared counts as often as it is met; a slice's spare places count too). A statement '..UptoSaid' is the law's where the arguments, and the package variables that the reading takes, are together of bulk at most 1048576: NARROWER than '..Said'. Prove '..Said' where nothing that the law and all that it calls make is longer than what came in: it says more and counts as full. Else prove '..UptoSaid'. A law counts once. -/
mutual
def uptoBulk {H : Type} : DataW H → Nat
  | .lit (.string bytes) => bytes.length + 1
  | .lit _ => 1
  | .nil => 1
  | .ptr d => uptoBulk d + 1
  | .slice elems spare => uptoBulkAll elems + uptoBulkAll spare + 1
  | .agg parts => uptoBulkAll parts + 1
  | .iface _ d => uptoBulk d + 1
  | .map entries => uptoBulkEntries entries + 1
  | .held _ => 1
def uptoBulkAll {H : Type} : List (DataW H) → Nat
  | [] => 0
  | d :: r => uptoBulk d + uptoBulkAll r
def uptoBulkEntries {H : Type} : List (Lit × DataW H) → Nat
  | [] => 0
  | x :: r => uptoBulkEntry x + uptoBulkEntries r
def uptoBulkEntry {H : Type} : Lit × DataW H → Nat
  | (.string bytes, d) => bytes.length + uptoBulk d + 1
  | (_, d) => uptoBulk d + 1
 end
def uptoSmall : (H : Type) → List (DataW H) → Bool := fun _ ds => decide (uptoBulkAll ds ≤ 1048576)
def OpenSpec.upto (s : _root_.Go.ChangeSpec) : _root_.Go.OpenSpec := { _root_.Go.OpenSpec.ofChange s with cond := some uptoSmall }

/-- 'memoirlaw05.SchemaTells', WHERE WHAT IT READS IS OF BULK AT MOST 1048576: true; the input reads as it did. -/
def schemaTellsUptoRow : OpenClaim := { program := "ytmgafcblbbbanaa", sum := "ce36a7826052f750ac03e1e689a4558c93b5824adc7accaf66a6ab1e1567e4f2", func := "memoir/memoirlaw05.SchemaTells", spec := "schemaTells", inPlace := ["math.Float64frombits", "math.Float64bits"], unfollowed := true, recurses := true, apart := false, narrowed := true }
def SchemaTellsUptoSaid : Prop := schemaTellsUptoRow.holds Try.pinned (OpenSpec.upto schemaTellsSpec)

/-- 'memoirlaw05.SchemaRows', WHERE WHAT IT READS IS OF BULK AT MOST 1048576: true; the input reads as it did. -/
def schemaRowsUptoRow : OpenClaim := { program := "ytmgafcblbbbanaa", sum := "ce36a7826052f750ac03e1e689a4558c93b5824adc7accaf66a6ab1e1567e4f2", func := "memoir/memoirlaw05.SchemaRows", spec := "schemaRows", inPlace := ["math.Float64frombits", "math.Float64bits"], unfollowed := true, recurses := true, apart := false, narrowed := true }
def SchemaRowsUptoSaid : Prop := schemaRowsUptoRow.holds Try.pinned (OpenSpec.upto schemaRowsSpec)

/-- 'memoirlaw05.SchemaReads', WHERE WHAT IT READS IS OF BULK AT MOST 1048576: true; the input reads as it did. -/
def schemaReadsUptoRow : OpenClaim := { program := "ytmgafcblbbbanaa", sum := "ce36a7826052f750ac03e1e689a4558c93b5824adc7accaf66a6ab1e1567e4f2", func := "memoir/memoirlaw05.SchemaReads", spec := "schemaReads", inPlace := ["math.Float64frombits", "math.Float64bits"], unfollowed := true, recurses := true, apart := false, narrowed := true }
def SchemaReadsUptoSaid : Prop := schemaReadsUptoRow.holds Try.pinned (OpenSpec.upto schemaReadsSpec)

/-- 'memoirlaw05.SchemaBack', WHERE WHAT IT READS IS OF BULK AT MOST 1048576: true; the input reads as it did. -/
def schemaBackUptoRow : OpenClaim := { program := "ytmgafcblbbbanaa", sum := "ce36a7826052f750ac03e1e689a4558c93b5824adc7accaf66a6ab1e1567e4f2", func := "memoir/memoirlaw05.SchemaBack", spec := "schemaBack", inPlace := ["math.Float64frombits", "math.Float64bits"], unfollowed := true, recurses := true, apart := false, narrowed := true }
def SchemaBackUptoSaid : Prop := schemaBackUptoRow.holds Try.pinned (OpenSpec.upto schemaBackSpec)

/-- 'memoirlaw05.SchemaGrows', WHERE WHAT IT READS IS OF BULK AT MOST 1048576: true; the input reads as it did. -/
def schemaGrowsUptoRow : OpenClaim := { program := "ytmgafcblbbbanaa", sum := "ce36a7826052f750ac03e1e689a4558c93b5824adc7accaf66a6ab1e1567e4f2", func := "memoir/memoirlaw05.SchemaGrows", spec := "schemaGrows", inPlace := ["math.Float64frombits", "math.Float64bits"], unfollowed := true, recurses := true, apart := false, narrowed := true }
def SchemaGrowsUptoSaid : Prop := schemaGrowsUptoRow.holds Try.pinned (OpenSpec.upto schemaGrowsSpec)

/-- 'memoirlaw05.SchemaKeys', WHERE WHAT IT READS IS OF BULK AT MOST 1048576: true; the input reads as it did. -/
def schemaKeysUptoRow : OpenClaim := { program := "ytmgafcblbbbanaa", sum := "ce36a7826052f750ac03e1e689a4558c93b5824adc7accaf66a6ab1e1567e4f2", func := "memoir/memoirlaw05.SchemaKeys", spec := "schemaKeys", inPlace := ["math.Float64frombits", "math.Float64bits"], unfollowed := true, recurses := true, apart := false, narrowed := true }
def SchemaKeysUptoSaid : Prop := schemaKeysUptoRow.holds Try.pinned (OpenSpec.upto schemaKeysSpec)

end Rows
end Go.Proofs.Ytmgafcblbbbanaa
