/-
  No cell of these rows narrows 'for every input' (looked for: loops, veiled, ifaces, maps, wideKeys, modest, calm, conditions, laid).
  DERIVED. THE GIVEN ROWS OF THIS SEAT. 8 by the template 'for every input the law returns true; each argument reads behind the call as it read before'; 0 by the template 'total and deterministic' (their statements: YtanmomlkdfnakaaTotals.lean).
  GIVEN WITH THE SEED: the statements are not yours to turn. If you find one false, say at which input.
  Laid BY PROGRAM, IN A SANDBOX (cutbox-rows.mjs): the forced cells as the released guide's own fill.sh prints them over the translation 29c5f5b9e27800d2… (all of the seat's roots in one cut). By AI agents, Wed Nov 11 2026. No macro, syntax, notation, axiom, sorry.
-/
import Derived.Test.YtanmomlkdfnakaaChecked
import GoSem.Claim
import GoSem.ClaimJoined
import GoSem.ClaimMapViews
import Derived.JoinedTies
import Derived.KernelRfl
namespace Go.Proofs.Ytanmomlkdfnakaa
/- THE CELL 'sum', in the pinned program and in every row, IS THE sha256 OF THE DUMP (.gsa) THAT YtanmomlkdfnakaaProg.lean LOADS. Nothing in Lean hashes anything: it is a label: what it is worth is what the hold of that sum in a sandbox is worth. -/
noncomputable def Try.pinned : Pinned := { name := "ytanmomlkdfnakaa", sum := "29c5f5b9e27800d21864bf9ba94f8efc6add30d4f2f979100a79120729b0f9a3", checked := Try.checked }
namespace Rows
def none {H : Type} : Left H := { results := [], args := [] }

/-- 'memoirlaw02.CodeWrites': WHATEVER THE INPUT: true; the input reads as it did. -/
def codeWritesSpec : ChangeSpec := { name := "codeWrites", fn := fun _ => fun
  | [d1, d2, d3] => { results := [.lit (.bool true)], args := [d1, d2, d3] }
  | _ => none }
def codeWritesRow : OpenClaim := { program := "ytanmomlkdfnakaa", sum := "29c5f5b9e27800d21864bf9ba94f8efc6add30d4f2f979100a79120729b0f9a3", func := "memoir/memoirlaw02.CodeWrites", spec := "codeWrites", inPlace := ["math.Float64frombits", "math.Float64bits"], unfollowed := true, recurses := true, apart := false }
def CodeWritesSaid : Prop := codeWritesRow.holds Try.pinned (OpenSpec.ofChange codeWritesSpec)

/-- ITS FALSE NEIGHBOUR: 'it returns false'. Refute it at one input. -/
def codeWritesWrong : ChangeSpec := { name := "codeWrites", fn := fun _ => fun
  | [d1, d2, d3] => { results := [.lit (.bool false)], args := [d1, d2, d3] }
  | _ => none }
def CodeWritesWrongFalsely : Prop := codeWritesRow.holds Try.pinned (OpenSpec.ofChange codeWritesWrong)

/-- 'memoirlaw02.CodeReads': WHATEVER THE INPUT: true; the input reads as it did. -/
def codeReadsSpec : ChangeSpec := { name := "codeReads", fn := fun _ => fun
  | [d1, d2] => { results := [.lit (.bool true)], args := [d1, d2] }
  | _ => none }
def codeReadsRow : OpenClaim := { program := "ytanmomlkdfnakaa", sum := "29c5f5b9e27800d21864bf9ba94f8efc6add30d4f2f979100a79120729b0f9a3", func := "memoir/memoirlaw02.CodeReads", spec := "codeReads", inPlace := ["math.Float64frombits", "math.Float64bits"], unfollowed := true, recurses := true, apart := false }
def CodeReadsSaid : Prop := codeReadsRow.holds Try.pinned (OpenSpec.ofChange codeReadsSpec)

/-- ITS FALSE NEIGHBOUR: 'it returns false'. Refute it at one input. -/
def codeReadsWrong : ChangeSpec := { name := "codeReads", fn := fun _ => fun
  | [d1, d2] => { results := [.lit (.bool false)], args := [d1, d2] }
  | _ => none }
def CodeReadsWrongFalsely : Prop := codeReadsRow.holds Try.pinned (OpenSpec.ofChange codeReadsWrong)

/-- 'memoirlaw02.CodeBack': WHATEVER THE INPUT: true; the input reads as it did. -/
def codeBackSpec : ChangeSpec := { name := "codeBack", fn := fun _ => fun
  | [d1, d2, d3] => { results := [.lit (.bool true)], args := [d1, d2, d3] }
  | _ => none }
def codeBackRow : OpenClaim := { program := "ytanmomlkdfnakaa", sum := "29c5f5b9e27800d21864bf9ba94f8efc6add30d4f2f979100a79120729b0f9a3", func := "memoir/memoirlaw02.CodeBack", spec := "codeBack", inPlace := ["math.Float64frombits", "math.Float64bits"], unfollowed := true, recurses := true, apart := false }
def CodeBackSaid : Prop := codeBackRow.holds Try.pinned (OpenSpec.ofChange codeBackSpec)

/-- ITS FALSE NEIGHBOUR: 'it returns false'. Refute it at one input. -/
def codeBackWrong : ChangeSpec := { name := "codeBack", fn := fun _ => fun
  | [d1, d2, d3] => { results := [.lit (.bool false)], args := [d1, d2, d3] }
  | _ => none }
def CodeBackWrongFalsely : Prop := codeBackRow.holds Try.pinned (OpenSpec.ofChange codeBackWrong)

/-- 'memoirlaw02.CodeOne': WHATEVER THE INPUT: true; the input reads as it did. -/
def codeOneSpec : ChangeSpec := { name := "codeOne", fn := fun _ => fun
  | [d1, d2] => { results := [.lit (.bool true)], args := [d1, d2] }
  | _ => none }
def codeOneRow : OpenClaim := { program := "ytanmomlkdfnakaa", sum := "29c5f5b9e27800d21864bf9ba94f8efc6add30d4f2f979100a79120729b0f9a3", func := "memoir/memoirlaw02.CodeOne", spec := "codeOne", inPlace := ["math.Float64frombits", "math.Float64bits"], unfollowed := true, recurses := true, apart := false }
def CodeOneSaid : Prop := codeOneRow.holds Try.pinned (OpenSpec.ofChange codeOneSpec)

/-- ITS FALSE NEIGHBOUR: 'it returns false'. Refute it at one input. -/
def codeOneWrong : ChangeSpec := { name := "codeOne", fn := fun _ => fun
  | [d1, d2] => { results := [.lit (.bool false)], args := [d1, d2] }
  | _ => none }
def CodeOneWrongFalsely : Prop := codeOneRow.holds Try.pinned (OpenSpec.ofChange codeOneWrong)

/-- 'memoirlaw02.CodeFew': WHATEVER THE INPUT: true; the input reads as it did. -/
def codeFewSpec : ChangeSpec := { name := "codeFew", fn := fun _ => fun
  | [d1, d2] => { results := [.lit (.bool true)], args := [d1, d2] }
  | _ => none }
def codeFewRow : OpenClaim := { program := "ytanmomlkdfnakaa", sum := "29c5f5b9e27800d21864bf9ba94f8efc6add30d4f2f979100a79120729b0f9a3", func := "memoir/memoirlaw02.CodeFew", spec := "codeFew", inPlace := ["math.Float64frombits", "math.Float64bits"], unfollowed := true, recurses := true, apart := false }
def CodeFewSaid : Prop := codeFewRow.holds Try.pinned (OpenSpec.ofChange codeFewSpec)

/-- ITS FALSE NEIGHBOUR: 'it returns false'. Refute it at one input. -/
def codeFewWrong : ChangeSpec := { name := "codeFew", fn := fun _ => fun
  | [d1, d2] => { results := [.lit (.bool false)], args := [d1, d2] }
  | _ => none }
def CodeFewWrongFalsely : Prop := codeFewRow.holds Try.pinned (OpenSpec.ofChange codeFewWrong)

/-- 'memoirlaw02.CodeNil': WHATEVER THE INPUT: true; the input reads as it did. -/
def codeNilSpec : ChangeSpec := { name := "codeNil", fn := fun _ => fun
  | [d] => { results := [.lit (.bool true)], args := [d] }
  | _ => none }
def codeNilRow : OpenClaim := { program := "ytanmomlkdfnakaa", sum := "29c5f5b9e27800d21864bf9ba94f8efc6add30d4f2f979100a79120729b0f9a3", func := "memoir/memoirlaw02.CodeNil", spec := "codeNil", inPlace := ["math.Float64frombits", "math.Float64bits"], unfollowed := true, recurses := true, apart := false }
def CodeNilSaid : Prop := codeNilRow.holds Try.pinned (OpenSpec.ofChange codeNilSpec)

/-- ITS FALSE NEIGHBOUR: 'it returns false'. Refute it at one input. -/
def codeNilWrong : ChangeSpec := { name := "codeNil", fn := fun _ => fun
  | [d] => { results := [.lit (.bool false)], args := [d] }
  | _ => none }
def CodeNilWrongFalsely : Prop := codeNilRow.holds Try.pinned (OpenSpec.ofChange codeNilWrong)

/-- 'memoirlaw02.CodeZig': WHATEVER THE INPUT: true; the input reads as it did. -/
def codeZigSpec : ChangeSpec := { name := "codeZig", fn := fun _ => fun
  | [d1, d2] => { results := [.lit (.bool true)], args := [d1, d2] }
  | _ => none }
def codeZigRow : OpenClaim := { program := "ytanmomlkdfnakaa", sum := "29c5f5b9e27800d21864bf9ba94f8efc6add30d4f2f979100a79120729b0f9a3", func := "memoir/memoirlaw02.CodeZig", spec := "codeZig", inPlace := ["math.Float64frombits", "math.Float64bits"], unfollowed := true, recurses := true, apart := false }
def CodeZigSaid : Prop := codeZigRow.holds Try.pinned (OpenSpec.ofChange codeZigSpec)

/-- ITS FALSE NEIGHBOUR: 'it returns false'. Refute it at one input. -/
def codeZigWrong : ChangeSpec := { name := "codeZig", fn := fun _ => fun
  | [d1, d2] => { results := [.lit (.bool false)], args := [d1, d2] }
  | _ => none }
def CodeZigWrongFalsely : Prop := codeZigRow.holds Try.pinned (OpenSpec.ofChange codeZigWrong)

/-- 'memoirlaw02.CodeLong': WHATEVER THE INPUT: true; the input reads as it did. -/
def codeLongSpec : ChangeSpec := { name := "codeLong", fn := fun _ => fun
  | [d1, d2] => { results := [.lit (.bool true)], args := [d1, d2] }
  | _ => none }
def codeLongRow : OpenClaim := { program := "ytanmomlkdfnakaa", sum := "29c5f5b9e27800d21864bf9ba94f8efc6add30d4f2f979100a79120729b0f9a3", func := "memoir/memoirlaw02.CodeLong", spec := "codeLong", inPlace := ["math.Float64frombits", "math.Float64bits"], unfollowed := true, recurses := true, apart := false }
def CodeLongSaid : Prop := codeLongRow.holds Try.pinned (OpenSpec.ofChange codeLongSpec)

/-- ITS FALSE NEIGHBOUR: 'it returns false'. Refute it at one input. -/
def codeLongWrong : ChangeSpec := { name := "codeLong", fn := fun _ => fun
  | [d1, d2] => { results := [.lit (.bool false)], args := [d1, d2] }
  | _ => none }
def CodeLongWrongFalsely : Prop := codeLongRow.holds Try.pinned (OpenSpec.ofChange codeLongWrong)

/- THE SECOND FORM. 'bulk': how many values and letters a reading holds, each counted each time it is reached (what is shared counts as often as it is met; a slice's spare places count too). A statement '..UptoSaid' is the law's where the arguments, and the package variables that the reading takes, are together of bulk at most 1048576: NARROWER than '..Said'. Prove '..Said' where nothing that the law and all that it calls make is longer than what came in: it says more and counts as full. Else prove '..UptoSaid'. A law counts once. -/
mutual
def uptoBulk {H : Type} : DataW H → Nat
  | .lit (.string bytes) => bytes.length + 1
  | .lit _ => 1
  | .nil => 1
  | .ptr d => uptoBulk d + 1
  | .slice elems spare => uptoBulkAll elems + uptoBulkAll spare + 1
  | .agg parts => uptoBulkAll parts + 1
  | .iface _ d => uptoBulk d + 1
  | .map entries => uptoBulkEntries entries + 1
  | .held _ => 1
def uptoBulkAll {H : Type} : List (DataW H) → Nat
  | [] => 0
  | d :: r => uptoBulk d + uptoBulkAll r
def uptoBulkEntries {H : Type} : List (Lit × DataW H) → Nat
  | [] => 0
  | x :: r => uptoBulkEntry x + uptoBulkEntries r
def uptoBulkEntry {H : Type} : Lit × DataW H → Nat
  | (.string bytes, d) => bytes.length + uptoBulk d + 1
  | (_, d) => uptoBulk d + 1
 end
def uptoSmall : (H : Type) → List (DataW H) → Bool := fun _ ds => decide (uptoBulkAll ds ≤ 1048576)
def OpenSpec.upto (s : _root_.Go.ChangeSpec) : _root_.Go.OpenSpec := { _root_.Go.OpenSpec.ofChange s with cond := some uptoSmall }

/-- 'memoirlaw02.CodeWrites', WHERE WHAT IT READS IS OF BULK AT MOST 1048576: true; the input reads as it did. -/
def codeWritesUptoRow : OpenClaim := { program := "ytanmomlkdfnakaa", sum := "29c5f5b9e27800d21864bf9ba94f8efc6add30d4f2f979100a79120729b0f9a3", func := "memoir/memoirlaw02.CodeWrites", spec := "codeWrites", inPlace := ["math.Float64frombits", "math.Float64bits"], unfollowed := true, recurses := true, apart := false, narrowed := true }
def CodeWritesUptoSaid : Prop := codeWritesUptoRow.holds Try.pinned (OpenSpec.upto codeWritesSpec)

/-- 'memoirlaw02.CodeReads', WHERE WHAT IT READS IS OF BULK AT MOST 1048576: true; the input reads as it did. -/
def codeReadsUptoRow : OpenClaim := { program := "ytanmomlkdfnakaa", sum := "29c5f5b9e27800d21864bf9ba94f8efc6add30d4f2f979100a79120729b0f9a3", func := "memoir/memoirlaw02.CodeReads", spec := "codeReads", inPlace := ["math.Float64frombits", "math.Float64bits"], unfollowed := true, recurses := true, apart := false, narrowed := true }
def CodeReadsUptoSaid : Prop := codeReadsUptoRow.holds Try.pinned (OpenSpec.upto codeReadsSpec)

/-- 'memoirlaw02.CodeBack', WHERE WHAT IT READS IS OF BULK AT MOST 1048576: true; the input reads as it did. -/
def codeBackUptoRow : OpenClaim := { program := "ytanmomlkdfnakaa", sum := "29c5f5b9e27800d21864bf9ba94f8efc6add30d4f2f979100a79120729b0f9a3", func := "memoir/memoirlaw02.CodeBack", spec := "codeBack", inPlace := ["math.Float64frombits", "math.Float64bits"], unfollowed := true, recurses := true, apart := false, narrowed := true }
def CodeBackUptoSaid : Prop := codeBackUptoRow.holds Try.pinned (OpenSpec.upto codeBackSpec)

/-- 'memoirlaw02.CodeOne', WHERE WHAT IT READS IS OF BULK AT MOST 1048576: true; the input reads as it did. -/
def codeOneUptoRow : OpenClaim := { program := "ytanmomlkdfnakaa", sum := "29c5f5b9e27800d21864bf9ba94f8efc6add30d4f2f979100a79120729b0f9a3", func := "memoir/memoirlaw02.CodeOne", spec := "codeOne", inPlace := ["math.Float64frombits", "math.Float64bits"], unfollowed := true, recurses := true, apart := false, narrowed := true }
def CodeOneUptoSaid : Prop := codeOneUptoRow.holds Try.pinned (OpenSpec.upto codeOneSpec)

/-- 'memoirlaw02.CodeFew', WHERE WHAT IT READS IS OF BULK AT MOST 1048576: true; the input reads as it did. -/
def codeFewUptoRow : OpenClaim := { program := "ytanmomlkdfnakaa", sum := "29c5f5b9e27800d21864bf9ba94f8efc6add30d4f2f979100a79120729b0f9a3", func := "memoir/memoirlaw02.CodeFew", spec := "codeFew", inPlace := ["math.Float64frombits", "math.Float64bits"], unfollowed := true, recurses := true, apart := false, narrowed := true }
def CodeFewUptoSaid : Prop := codeFewUptoRow.holds Try.pinned (OpenSpec.upto codeFewSpec)

/-- 'memoirlaw02.CodeNil', WHERE WHAT IT READS IS OF BULK AT MOST 1048576: true; the input reads as it did. -/
def codeNilUptoRow : OpenClaim := { program := "ytanmomlkdfnakaa", sum := "29c5f5b9e27800d21864bf9ba94f8efc6add30d4f2f979100a79120729b0f9a3", func := "memoir/memoirlaw02.CodeNil", spec := "codeNil", inPlace := ["math.Float64frombits", "math.Float64bits"], unfollowed := true, recurses := true, apart := false, narrowed := true }
def CodeNilUptoSaid : Prop := codeNilUptoRow.holds Try.pinned (OpenSpec.upto codeNilSpec)

/-- 'memoirlaw02.CodeZig', WHERE WHAT IT READS IS OF BULK AT MOST 1048576: true; the input reads as it did. -/
def codeZigUptoRow : OpenClaim := { program := "ytanmomlkdfnakaa", sum := "29c5f5b9e27800d21864bf9ba94f8efc6add30d4f2f979100a79120729b0f9a3", func := "memoir/memoirlaw02.CodeZig", spec := "codeZig", inPlace := ["math.Float64frombits", "math.Float64bits"], unfollowed := true, recurses := true, apart := false, narrowed := true }
def CodeZigUptoSaid : Prop := codeZigUptoRow.holds Try.pinned (OpenSpec.upto codeZigSpec)

/-- 'memoirlaw02.CodeLong', WHERE WHAT IT READS IS OF BULK AT MOST 1048576: true; the input reads as it did. -/
def codeLongUptoRow : OpenClaim := { program := "ytanmomlkdfnakaa", sum := "29c5f5b9e27800d21864bf9ba94f8efc6add30d4f2f979100a79120729b0f9a3", func := "memoir/memoirlaw02.CodeLong", spec := "codeLong", inPlace := ["math.Float64frombits", "math.Float64bits"], unfollowed := true, recurses := true, apart := false, narrowed := true }
def CodeLongUptoSaid : Prop := codeLongUptoRow.holds Try.pinned (OpenSpec.upto codeLongSpec)

end Rows
end Go.Proofs.Ytanmomlkdfnakaa
