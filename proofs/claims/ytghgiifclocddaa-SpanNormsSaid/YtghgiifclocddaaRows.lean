/-
  No cell of these rows narrows 'for every input' (looked for: loops, veiled, ifaces, maps, wideKeys, modest, calm, conditions, laid).
  DERIVED. THE GIVEN ROWS OF THIS SEAT. 7 by the template 'for every input the law returns true; each argument reads behind the call as it read before'; 0 by the template 'total and deterministic' (their statements: YtghgiifclocddaaTotals.lean).
  GIVEN WITH THE SEED: the statements are not yours to turn. If you find one false, say at which input.
  Laid BY PROGRAM, IN A SANDBOX (cutbox-rows.mjs): the forced cells as the released guide's own fill.sh prints them over the translation 27ce68281258d114… (all of the seat's roots in one cut). By AI agents, Wed Nov 11 2026. No macro, syntax, notation, axiom, sorry.
-/
import Derived.Test.YtghgiifclocddaaChecked
import GoSem.Claim
import GoSem.ClaimJoined
import GoSem.ClaimMapViews
import Derived.JoinedTies
import Derived.KernelRfl
namespace Go.Proofs.Ytghgiifclocddaa
/- THE CELL 'sum', in the pinned program and in every row, IS THE sha256 OF THE DUMP (.gsa) THAT YtghgiifclocddaaProg.lean LOADS. Nothing in Lean hashes anything: it is a label: what it is worth is what the hold of that sum in a sandbox is worth. -/
noncomputable def Try.pinned : Pinned := { name := "ytghgiifclocddaa", sum := "27ce68281258d1146d72d1cf676c1a4c1902099dbc6bf49f8de48842716b2e5b", checked := Try.checked }
namespace Rows
def none {H : Type} : Left H := { results := [], args := [] }

/-- 'memoirlaw11.SpanTells': WHATEVER THE INPUT: true; the input reads as it did. -/
def spanTellsSpec : ChangeSpec := { name := "spanTells", fn := fun _ => fun
  | [d1, d2, d3] => { results := [.lit (.bool true)], args := [d1, d2, d3] }
  | _ => none }
def spanTellsRow : OpenClaim := { program := "ytghgiifclocddaa", sum := "27ce68281258d1146d72d1cf676c1a4c1902099dbc6bf49f8de48842716b2e5b", func := "memoir/memoirlaw11.SpanTells", spec := "spanTells", apart := false }
def SpanTellsSaid : Prop := spanTellsRow.holds Try.pinned (OpenSpec.ofChange spanTellsSpec)

/-- ITS FALSE NEIGHBOUR: 'it returns false'. Refute it at one input. -/
def spanTellsWrong : ChangeSpec := { name := "spanTells", fn := fun _ => fun
  | [d1, d2, d3] => { results := [.lit (.bool false)], args := [d1, d2, d3] }
  | _ => none }
def SpanTellsWrongFalsely : Prop := spanTellsRow.holds Try.pinned (OpenSpec.ofChange spanTellsWrong)

/-- 'memoirlaw11.SpanNorms': WHATEVER THE INPUT: true; the input reads as it did. -/
def spanNormsSpec : ChangeSpec := { name := "spanNorms", fn := fun _ => fun
  | [d1, d2] => { results := [.lit (.bool true)], args := [d1, d2] }
  | _ => none }
def spanNormsRow : OpenClaim := { program := "ytghgiifclocddaa", sum := "27ce68281258d1146d72d1cf676c1a4c1902099dbc6bf49f8de48842716b2e5b", func := "memoir/memoirlaw11.SpanNorms", spec := "spanNorms", apart := false }
def SpanNormsSaid : Prop := spanNormsRow.holds Try.pinned (OpenSpec.ofChange spanNormsSpec)

/-- ITS FALSE NEIGHBOUR: 'it returns false'. Refute it at one input. -/
def spanNormsWrong : ChangeSpec := { name := "spanNorms", fn := fun _ => fun
  | [d1, d2] => { results := [.lit (.bool false)], args := [d1, d2] }
  | _ => none }
def SpanNormsWrongFalsely : Prop := spanNormsRow.holds Try.pinned (OpenSpec.ofChange spanNormsWrong)

/-- 'memoirlaw11.SpanTimes': WHATEVER THE INPUT: true; the input reads as it did. -/
def spanTimesSpec : ChangeSpec := { name := "spanTimes", fn := fun _ => fun
  | [d1, d2, d3] => { results := [.lit (.bool true)], args := [d1, d2, d3] }
  | _ => none }
def spanTimesRow : OpenClaim := { program := "ytghgiifclocddaa", sum := "27ce68281258d1146d72d1cf676c1a4c1902099dbc6bf49f8de48842716b2e5b", func := "memoir/memoirlaw11.SpanTimes", spec := "spanTimes", apart := false }
def SpanTimesSaid : Prop := spanTimesRow.holds Try.pinned (OpenSpec.ofChange spanTimesSpec)

/-- ITS FALSE NEIGHBOUR: 'it returns false'. Refute it at one input. -/
def spanTimesWrong : ChangeSpec := { name := "spanTimes", fn := fun _ => fun
  | [d1, d2, d3] => { results := [.lit (.bool false)], args := [d1, d2, d3] }
  | _ => none }
def SpanTimesWrongFalsely : Prop := spanTimesRow.holds Try.pinned (OpenSpec.ofChange spanTimesWrong)

/-- 'memoirlaw11.SpanFew': WHATEVER THE INPUT: true; the input reads as it did. -/
def spanFewSpec : ChangeSpec := { name := "spanFew", fn := fun _ => fun
  | [d1, d2] => { results := [.lit (.bool true)], args := [d1, d2] }
  | _ => none }
def spanFewRow : OpenClaim := { program := "ytghgiifclocddaa", sum := "27ce68281258d1146d72d1cf676c1a4c1902099dbc6bf49f8de48842716b2e5b", func := "memoir/memoirlaw11.SpanFew", spec := "spanFew", apart := false }
def SpanFewSaid : Prop := spanFewRow.holds Try.pinned (OpenSpec.ofChange spanFewSpec)

/-- ITS FALSE NEIGHBOUR: 'it returns false'. Refute it at one input. -/
def spanFewWrong : ChangeSpec := { name := "spanFew", fn := fun _ => fun
  | [d1, d2] => { results := [.lit (.bool false)], args := [d1, d2] }
  | _ => none }
def SpanFewWrongFalsely : Prop := spanFewRow.holds Try.pinned (OpenSpec.ofChange spanFewWrong)

/-- 'memoirlaw11.SpanCovers': WHATEVER THE INPUT: true; the input reads as it did. -/
def spanCoversSpec : ChangeSpec := { name := "spanCovers", fn := fun _ => fun
  | [d1, d2, d3] => { results := [.lit (.bool true)], args := [d1, d2, d3] }
  | _ => none }
def spanCoversRow : OpenClaim := { program := "ytghgiifclocddaa", sum := "27ce68281258d1146d72d1cf676c1a4c1902099dbc6bf49f8de48842716b2e5b", func := "memoir/memoirlaw11.SpanCovers", spec := "spanCovers", apart := false }
def SpanCoversSaid : Prop := spanCoversRow.holds Try.pinned (OpenSpec.ofChange spanCoversSpec)

/-- ITS FALSE NEIGHBOUR: 'it returns false'. Refute it at one input. -/
def spanCoversWrong : ChangeSpec := { name := "spanCovers", fn := fun _ => fun
  | [d1, d2, d3] => { results := [.lit (.bool false)], args := [d1, d2, d3] }
  | _ => none }
def SpanCoversWrongFalsely : Prop := spanCoversRow.holds Try.pinned (OpenSpec.ofChange spanCoversWrong)

/-- 'memoirlaw11.SpanBoth': WHATEVER THE INPUT: true; the input reads as it did. -/
def spanBothSpec : ChangeSpec := { name := "spanBoth", fn := fun _ => fun
  | [d1, d2, d3] => { results := [.lit (.bool true)], args := [d1, d2, d3] }
  | _ => none }
def spanBothRow : OpenClaim := { program := "ytghgiifclocddaa", sum := "27ce68281258d1146d72d1cf676c1a4c1902099dbc6bf49f8de48842716b2e5b", func := "memoir/memoirlaw11.SpanBoth", spec := "spanBoth", apart := false }
def SpanBothSaid : Prop := spanBothRow.holds Try.pinned (OpenSpec.ofChange spanBothSpec)

/-- ITS FALSE NEIGHBOUR: 'it returns false'. Refute it at one input. -/
def spanBothWrong : ChangeSpec := { name := "spanBoth", fn := fun _ => fun
  | [d1, d2, d3] => { results := [.lit (.bool false)], args := [d1, d2, d3] }
  | _ => none }
def SpanBothWrongFalsely : Prop := spanBothRow.holds Try.pinned (OpenSpec.ofChange spanBothWrong)

/-- 'memoirlaw11.SpanParts': WHATEVER THE INPUT: true; the input reads as it did. -/
def spanPartsSpec : ChangeSpec := { name := "spanParts", fn := fun _ => fun
  | [d1, d2] => { results := [.lit (.bool true)], args := [d1, d2] }
  | _ => none }
def spanPartsRow : OpenClaim := { program := "ytghgiifclocddaa", sum := "27ce68281258d1146d72d1cf676c1a4c1902099dbc6bf49f8de48842716b2e5b", func := "memoir/memoirlaw11.SpanParts", spec := "spanParts", apart := false }
def SpanPartsSaid : Prop := spanPartsRow.holds Try.pinned (OpenSpec.ofChange spanPartsSpec)

/-- ITS FALSE NEIGHBOUR: 'it returns false'. Refute it at one input. -/
def spanPartsWrong : ChangeSpec := { name := "spanParts", fn := fun _ => fun
  | [d1, d2] => { results := [.lit (.bool false)], args := [d1, d2] }
  | _ => none }
def SpanPartsWrongFalsely : Prop := spanPartsRow.holds Try.pinned (OpenSpec.ofChange spanPartsWrong)

/- THE SECOND FORM. 'bulk': how many values and letters a reading holds, each counted each time it is reached (what is shared counts as often as it is met; a slice's spare places count too). A statement '..UptoSaid' is the law's where the arguments, and the package variables that the reading takes, are together of bulk at most 1048576: NARROWER than '..Said'. Prove '..Said' where nothing that the law and all that it calls make is longer than what came in: it says more and counts as full. Else prove '..UptoSaid'. A law counts once. -/
mutual
def uptoBulk {H : Type} : DataW H → Nat
  | .lit (.string bytes) => bytes.length + 1
  | .lit _ => 1
  | .nil => 1
  | .ptr d => uptoBulk d + 1
  | .slice elems spare => uptoBulkAll elems + uptoBulkAll spare + 1
  | .agg parts => uptoBulkAll parts + 1
  | .iface _ d => uptoBulk d + 1
  | .map entries => uptoBulkEntries entries + 1
  | .held _ => 1
def uptoBulkAll {H : Type} : List (DataW H) → Nat
  | [] => 0
  | d :: r => uptoBulk d + uptoBulkAll r
def uptoBulkEntries {H : Type} : List (Lit × DataW H) → Nat
  | [] => 0
  | x :: r => uptoBulkEntry x + uptoBulkEntries r
def uptoBulkEntry {H : Type} : Lit × DataW H → Nat
  | (.string bytes, d) => bytes.length + uptoBulk d + 1
  | (_, d) => uptoBulk d + 1
 end
def uptoSmall : (H : Type) → List (DataW H) → Bool := fun _ ds => decide (uptoBulkAll ds ≤ 1048576)
def OpenSpec.upto (s : _root_.Go.ChangeSpec) : _root_.Go.OpenSpec := { _root_.Go.OpenSpec.ofChange s with cond := some uptoSmall }

/-- 'memoirlaw11.SpanTells', WHERE WHAT IT READS IS OF BULK AT MOST 1048576: true; the input reads as it did. -/
def spanTellsUptoRow : OpenClaim := { program := "ytghgiifclocddaa", sum := "27ce68281258d1146d72d1cf676c1a4c1902099dbc6bf49f8de48842716b2e5b", func := "memoir/memoirlaw11.SpanTells", spec := "spanTells", apart := false, narrowed := true }
def SpanTellsUptoSaid : Prop := spanTellsUptoRow.holds Try.pinned (OpenSpec.upto spanTellsSpec)

/-- 'memoirlaw11.SpanNorms', WHERE WHAT IT READS IS OF BULK AT MOST 1048576: true; the input reads as it did. -/
def spanNormsUptoRow : OpenClaim := { program := "ytghgiifclocddaa", sum := "27ce68281258d1146d72d1cf676c1a4c1902099dbc6bf49f8de48842716b2e5b", func := "memoir/memoirlaw11.SpanNorms", spec := "spanNorms", apart := false, narrowed := true }
def SpanNormsUptoSaid : Prop := spanNormsUptoRow.holds Try.pinned (OpenSpec.upto spanNormsSpec)

/-- 'memoirlaw11.SpanTimes', WHERE WHAT IT READS IS OF BULK AT MOST 1048576: true; the input reads as it did. -/
def spanTimesUptoRow : OpenClaim := { program := "ytghgiifclocddaa", sum := "27ce68281258d1146d72d1cf676c1a4c1902099dbc6bf49f8de48842716b2e5b", func := "memoir/memoirlaw11.SpanTimes", spec := "spanTimes", apart := false, narrowed := true }
def SpanTimesUptoSaid : Prop := spanTimesUptoRow.holds Try.pinned (OpenSpec.upto spanTimesSpec)

/-- 'memoirlaw11.SpanFew', WHERE WHAT IT READS IS OF BULK AT MOST 1048576: true; the input reads as it did. -/
def spanFewUptoRow : OpenClaim := { program := "ytghgiifclocddaa", sum := "27ce68281258d1146d72d1cf676c1a4c1902099dbc6bf49f8de48842716b2e5b", func := "memoir/memoirlaw11.SpanFew", spec := "spanFew", apart := false, narrowed := true }
def SpanFewUptoSaid : Prop := spanFewUptoRow.holds Try.pinned (OpenSpec.upto spanFewSpec)

/-- 'memoirlaw11.SpanCovers', WHERE WHAT IT READS IS OF BULK AT MOST 1048576: true; the input reads as it did. -/
def spanCoversUptoRow : OpenClaim := { program := "ytghgiifclocddaa", sum := "27ce68281258d1146d72d1cf676c1a4c1902099dbc6bf49f8de48842716b2e5b", func := "memoir/memoirlaw11.SpanCovers", spec := "spanCovers", apart := false, narrowed := true }
def SpanCoversUptoSaid : Prop := spanCoversUptoRow.holds Try.pinned (OpenSpec.upto spanCoversSpec)

/-- 'memoirlaw11.SpanBoth', WHERE WHAT IT READS IS OF BULK AT MOST 1048576: true; the input reads as it did. -/
def spanBothUptoRow : OpenClaim := { program := "ytghgiifclocddaa", sum := "27ce68281258d1146d72d1cf676c1a4c1902099dbc6bf49f8de48842716b2e5b", func := "memoir/memoirlaw11.SpanBoth", spec := "spanBoth", apart := false, narrowed := true }
def SpanBothUptoSaid : Prop := spanBothUptoRow.holds Try.pinned (OpenSpec.upto spanBothSpec)

/-- 'memoirlaw11.SpanParts', WHERE WHAT IT READS IS OF BULK AT MOST 1048576: true; the input reads as it did. -/
def spanPartsUptoRow : OpenClaim := { program := "ytghgiifclocddaa", sum := "27ce68281258d1146d72d1cf676c1a4c1902099dbc6bf49f8de48842716b2e5b", func := "memoir/memoirlaw11.SpanParts", spec := "spanParts", apart := false, narrowed := true }
def SpanPartsUptoSaid : Prop := spanPartsUptoRow.holds Try.pinned (OpenSpec.upto spanPartsSpec)

end Rows
end Go.Proofs.Ytghgiifclocddaa
