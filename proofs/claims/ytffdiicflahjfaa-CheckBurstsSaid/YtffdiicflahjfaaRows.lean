/-
  No cell of these rows narrows 'for every input' (looked for: loops, veiled, ifaces, maps, wideKeys, modest, calm, conditions, laid).
  DERIVED. THE GIVEN ROWS OF THIS SEAT. 10 by the template 'for every input the law returns true; each argument reads behind the call as it read before'; 0 by the template 'total and deterministic' (their statements: YtffdiicflahjfaaTotals.lean).
  GIVEN WITH THE SEED: the statements are not yours to turn. If you find one false, say at which input.
  Laid BY PROGRAM, IN A SANDBOX (cutbox-rows.mjs): the forced cells as the released guide's own fill.sh prints them over the translation ef7893d0e7c428a4… (all of the seat's roots in one cut). By AI agents, Wed Nov 11 2026. No macro, syntax, notation, axiom, sorry.
-/
import Derived.Test.YtffdiicflahjfaaChecked
import GoSem.Claim
import GoSem.ClaimJoined
import GoSem.ClaimMapViews
import Derived.JoinedTies
import Derived.KernelRfl
namespace Go.Proofs.Ytffdiicflahjfaa
/- THE CELL 'sum', in the pinned program and in every row, IS THE sha256 OF THE DUMP (.gsa) THAT YtffdiicflahjfaaProg.lean LOADS. Nothing in Lean hashes anything: it is a label: what it is worth is what the hold of that sum in a sandbox is worth. -/
noncomputable def Try.pinned : Pinned := { name := "ytffdiicflahjfaa", sum := "ef7893d0e7c428a45c582342b7a38b7ed09ded3f77b4327235c000ddf0aaecd0", checked := Try.checked }
namespace Rows
def none {H : Type} : Left H := { results := [], args := [] }

/-- 'copyistlaw07.SpanMakes': WHATEVER THE INPUT: true; the input reads as it did. -/
def spanMakesSpec : ChangeSpec := { name := "spanMakes", fn := fun _ => fun
  | [d] => { results := [.lit (.bool true)], args := [d] }
  | _ => none }
def spanMakesRow : OpenClaim := { program := "ytffdiicflahjfaa", sum := "ef7893d0e7c428a45c582342b7a38b7ed09ded3f77b4327235c000ddf0aaecd0", func := "copyist/copyistlaw07.SpanMakes", spec := "spanMakes", apart := false }
def SpanMakesSaid : Prop := spanMakesRow.holds Try.pinned (OpenSpec.ofChange spanMakesSpec)

/-- ITS FALSE NEIGHBOUR: 'it returns false'. Refute it at one input. -/
def spanMakesWrong : ChangeSpec := { name := "spanMakes", fn := fun _ => fun
  | [d] => { results := [.lit (.bool false)], args := [d] }
  | _ => none }
def SpanMakesWrongFalsely : Prop := spanMakesRow.holds Try.pinned (OpenSpec.ofChange spanMakesWrong)

/-- 'copyistlaw06.CheckSums': WHATEVER THE INPUT: true; the input reads as it did. -/
def checkSumsSpec : ChangeSpec := { name := "checkSums", fn := fun _ => fun
  | [d1, d2] => { results := [.lit (.bool true)], args := [d1, d2] }
  | _ => none }
def checkSumsRow : OpenClaim := { program := "ytffdiicflahjfaa", sum := "ef7893d0e7c428a45c582342b7a38b7ed09ded3f77b4327235c000ddf0aaecd0", func := "copyist/copyistlaw06.CheckSums", spec := "checkSums", apart := false }
def CheckSumsSaid : Prop := checkSumsRow.holds Try.pinned (OpenSpec.ofChange checkSumsSpec)

/-- ITS FALSE NEIGHBOUR: 'it returns false'. Refute it at one input. -/
def checkSumsWrong : ChangeSpec := { name := "checkSums", fn := fun _ => fun
  | [d1, d2] => { results := [.lit (.bool false)], args := [d1, d2] }
  | _ => none }
def CheckSumsWrongFalsely : Prop := checkSumsRow.holds Try.pinned (OpenSpec.ofChange checkSumsWrong)

/-- 'copyistlaw06.CheckSeals': WHATEVER THE INPUT: true; the input reads as it did. -/
def checkSealsSpec : ChangeSpec := { name := "checkSeals", fn := fun _ => fun
  | [d1, d2] => { results := [.lit (.bool true)], args := [d1, d2] }
  | _ => none }
def checkSealsRow : OpenClaim := { program := "ytffdiicflahjfaa", sum := "ef7893d0e7c428a45c582342b7a38b7ed09ded3f77b4327235c000ddf0aaecd0", func := "copyist/copyistlaw06.CheckSeals", spec := "checkSeals", apart := false }
def CheckSealsSaid : Prop := checkSealsRow.holds Try.pinned (OpenSpec.ofChange checkSealsSpec)

/-- ITS FALSE NEIGHBOUR: 'it returns false'. Refute it at one input. -/
def checkSealsWrong : ChangeSpec := { name := "checkSeals", fn := fun _ => fun
  | [d1, d2] => { results := [.lit (.bool false)], args := [d1, d2] }
  | _ => none }
def CheckSealsWrongFalsely : Prop := checkSealsRow.holds Try.pinned (OpenSpec.ofChange checkSealsWrong)

/-- 'copyistlaw06.CheckBursts': WHATEVER THE INPUT: true; the input reads as it did. -/
def checkBurstsSpec : ChangeSpec := { name := "checkBursts", fn := fun _ => fun
  | [d1, d2, d3] => { results := [.lit (.bool true)], args := [d1, d2, d3] }
  | _ => none }
def checkBurstsRow : OpenClaim := { program := "ytffdiicflahjfaa", sum := "ef7893d0e7c428a45c582342b7a38b7ed09ded3f77b4327235c000ddf0aaecd0", func := "copyist/copyistlaw06.CheckBursts", spec := "checkBursts", apart := false }
def CheckBurstsSaid : Prop := checkBurstsRow.holds Try.pinned (OpenSpec.ofChange checkBurstsSpec)

/-- ITS FALSE NEIGHBOUR: 'it returns false'. Refute it at one input. -/
def checkBurstsWrong : ChangeSpec := { name := "checkBursts", fn := fun _ => fun
  | [d1, d2, d3] => { results := [.lit (.bool false)], args := [d1, d2, d3] }
  | _ => none }
def CheckBurstsWrongFalsely : Prop := checkBurstsRow.holds Try.pinned (OpenSpec.ofChange checkBurstsWrong)

/-- 'copyistlaw01.IdentOrders': WHATEVER THE INPUT: true; the input reads as it did. -/
def identOrdersSpec : ChangeSpec := { name := "identOrders", fn := fun _ => fun
  | [d1, d2, d3] => { results := [.lit (.bool true)], args := [d1, d2, d3] }
  | _ => none }
def identOrdersRow : OpenClaim := { program := "ytffdiicflahjfaa", sum := "ef7893d0e7c428a45c582342b7a38b7ed09ded3f77b4327235c000ddf0aaecd0", func := "copyist/copyistlaw01.IdentOrders", spec := "identOrders", apart := false }
def IdentOrdersSaid : Prop := identOrdersRow.holds Try.pinned (OpenSpec.ofChange identOrdersSpec)

/-- ITS FALSE NEIGHBOUR: 'it returns false'. Refute it at one input. -/
def identOrdersWrong : ChangeSpec := { name := "identOrders", fn := fun _ => fun
  | [d1, d2, d3] => { results := [.lit (.bool false)], args := [d1, d2, d3] }
  | _ => none }
def IdentOrdersWrongFalsely : Prop := identOrdersRow.holds Try.pinned (OpenSpec.ofChange identOrdersWrong)

/-- 'copyistlaw01.IdentCounts': WHATEVER THE INPUT: true; the input reads as it did. -/
def identCountsSpec : ChangeSpec := { name := "identCounts", fn := fun _ => fun
  | [d1, d2, d3, d4] => { results := [.lit (.bool true)], args := [d1, d2, d3, d4] }
  | _ => none }
def identCountsRow : OpenClaim := { program := "ytffdiicflahjfaa", sum := "ef7893d0e7c428a45c582342b7a38b7ed09ded3f77b4327235c000ddf0aaecd0", func := "copyist/copyistlaw01.IdentCounts", spec := "identCounts", apart := false }
def IdentCountsSaid : Prop := identCountsRow.holds Try.pinned (OpenSpec.ofChange identCountsSpec)

/-- ITS FALSE NEIGHBOUR: 'it returns false'. Refute it at one input. -/
def identCountsWrong : ChangeSpec := { name := "identCounts", fn := fun _ => fun
  | [d1, d2, d3, d4] => { results := [.lit (.bool false)], args := [d1, d2, d3, d4] }
  | _ => none }
def IdentCountsWrongFalsely : Prop := identCountsRow.holds Try.pinned (OpenSpec.ofChange identCountsWrong)

/-- 'copyistlaw05.PackCuts': WHATEVER THE INPUT: true; the input reads as it did. -/
def packCutsSpec : ChangeSpec := { name := "packCuts", fn := fun _ => fun
  | [d1, d2] => { results := [.lit (.bool true)], args := [d1, d2] }
  | _ => none }
def packCutsRow : OpenClaim := { program := "ytffdiicflahjfaa", sum := "ef7893d0e7c428a45c582342b7a38b7ed09ded3f77b4327235c000ddf0aaecd0", func := "copyist/copyistlaw05.PackCuts", spec := "packCuts", recurses := true, apart := false }
def PackCutsSaid : Prop := packCutsRow.holds Try.pinned (OpenSpec.ofChange packCutsSpec)

/-- ITS FALSE NEIGHBOUR: 'it returns false'. Refute it at one input. -/
def packCutsWrong : ChangeSpec := { name := "packCuts", fn := fun _ => fun
  | [d1, d2] => { results := [.lit (.bool false)], args := [d1, d2] }
  | _ => none }
def PackCutsWrongFalsely : Prop := packCutsRow.holds Try.pinned (OpenSpec.ofChange packCutsWrong)

/-- 'copyistlaw05.PackReads': WHATEVER THE INPUT: true; the input reads as it did. -/
def packReadsSpec : ChangeSpec := { name := "packReads", fn := fun _ => fun
  | [d1, d2] => { results := [.lit (.bool true)], args := [d1, d2] }
  | _ => none }
def packReadsRow : OpenClaim := { program := "ytffdiicflahjfaa", sum := "ef7893d0e7c428a45c582342b7a38b7ed09ded3f77b4327235c000ddf0aaecd0", func := "copyist/copyistlaw05.PackReads", spec := "packReads", apart := false }
def PackReadsSaid : Prop := packReadsRow.holds Try.pinned (OpenSpec.ofChange packReadsSpec)

/-- ITS FALSE NEIGHBOUR: 'it returns false'. Refute it at one input. -/
def packReadsWrong : ChangeSpec := { name := "packReads", fn := fun _ => fun
  | [d1, d2] => { results := [.lit (.bool false)], args := [d1, d2] }
  | _ => none }
def PackReadsWrongFalsely : Prop := packReadsRow.holds Try.pinned (OpenSpec.ofChange packReadsWrong)

/-- 'copyistlaw07.SpanBytes': WHATEVER THE INPUT: true; the input reads as it did. -/
def spanBytesSpec : ChangeSpec := { name := "spanBytes", fn := fun _ => fun
  | [d1, d2] => { results := [.lit (.bool true)], args := [d1, d2] }
  | _ => none }
def spanBytesRow : OpenClaim := { program := "ytffdiicflahjfaa", sum := "ef7893d0e7c428a45c582342b7a38b7ed09ded3f77b4327235c000ddf0aaecd0", func := "copyist/copyistlaw07.SpanBytes", spec := "spanBytes", recurses := true, apart := false }
def SpanBytesSaid : Prop := spanBytesRow.holds Try.pinned (OpenSpec.ofChange spanBytesSpec)

/-- ITS FALSE NEIGHBOUR: 'it returns false'. Refute it at one input. -/
def spanBytesWrong : ChangeSpec := { name := "spanBytes", fn := fun _ => fun
  | [d1, d2] => { results := [.lit (.bool false)], args := [d1, d2] }
  | _ => none }
def SpanBytesWrongFalsely : Prop := spanBytesRow.holds Try.pinned (OpenSpec.ofChange spanBytesWrong)

/-- 'copyistlaw05.PackWrites': WHATEVER THE INPUT: true; the input reads as it did. -/
def packWritesSpec : ChangeSpec := { name := "packWrites", fn := fun _ => fun
  | [d] => { results := [.lit (.bool true)], args := [d] }
  | _ => none }
def packWritesRow : OpenClaim := { program := "ytffdiicflahjfaa", sum := "ef7893d0e7c428a45c582342b7a38b7ed09ded3f77b4327235c000ddf0aaecd0", func := "copyist/copyistlaw05.PackWrites", spec := "packWrites", recurses := true, apart := false }
def PackWritesSaid : Prop := packWritesRow.holds Try.pinned (OpenSpec.ofChange packWritesSpec)

/-- ITS FALSE NEIGHBOUR: 'it returns false'. Refute it at one input. -/
def packWritesWrong : ChangeSpec := { name := "packWrites", fn := fun _ => fun
  | [d] => { results := [.lit (.bool false)], args := [d] }
  | _ => none }
def PackWritesWrongFalsely : Prop := packWritesRow.holds Try.pinned (OpenSpec.ofChange packWritesWrong)

/- THE SECOND FORM. 'bulk': how many values and letters a reading holds, each counted each time it is reached (what is shared counts as often as it is met; a slice's spare places count too). A statement '..UptoSaid' is the law's where the arguments, and the package variables that the reading takes, are together of bulk at most 1048576: NARROWER than '..Said'. Prove '..Said' where nothing that the law and all that it calls make is longer than what came in: it says more and counts as full. Else prove '..UptoSaid'. A law counts once. -/
mutual
def uptoBulk {H : Type} : DataW H → Nat
  | .lit (.string bytes) => bytes.length + 1
  | .lit _ => 1
  | .nil => 1
  | .ptr d => uptoBulk d + 1
  | .slice elems spare => uptoBulkAll elems + uptoBulkAll spare + 1
  | .agg parts => uptoBulkAll parts + 1
  | .iface _ d => uptoBulk d + 1
  | .map entries => uptoBulkEntries entries + 1
  | .held _ => 1
def uptoBulkAll {H : Type} : List (DataW H) → Nat
  | [] => 0
  | d :: r => uptoBulk d + uptoBulkAll r
def uptoBulkEntries {H : Type} : List (Lit × DataW H) → Nat
  | [] => 0
  | x :: r => uptoBulkEntry x + uptoBulkEntries r
def uptoBulkEntry {H : Type} : Lit × DataW H → Nat
  | (.string bytes, d) => bytes.length + uptoBulk d + 1
  | (_, d) => uptoBulk d + 1
 end
def uptoSmall : (H : Type) → List (DataW H) → Bool := fun _ ds => decide (uptoBulkAll ds ≤ 1048576)
def OpenSpec.upto (s : _root_.Go.ChangeSpec) : _root_.Go.OpenSpec := { _root_.Go.OpenSpec.ofChange s with cond := some uptoSmall }

/-- 'copyistlaw07.SpanMakes', WHERE WHAT IT READS IS OF BULK AT MOST 1048576: true; the input reads as it did. -/
def spanMakesUptoRow : OpenClaim := { program := "ytffdiicflahjfaa", sum := "ef7893d0e7c428a45c582342b7a38b7ed09ded3f77b4327235c000ddf0aaecd0", func := "copyist/copyistlaw07.SpanMakes", spec := "spanMakes", apart := false, narrowed := true }
def SpanMakesUptoSaid : Prop := spanMakesUptoRow.holds Try.pinned (OpenSpec.upto spanMakesSpec)

/-- 'copyistlaw06.CheckSums', WHERE WHAT IT READS IS OF BULK AT MOST 1048576: true; the input reads as it did. -/
def checkSumsUptoRow : OpenClaim := { program := "ytffdiicflahjfaa", sum := "ef7893d0e7c428a45c582342b7a38b7ed09ded3f77b4327235c000ddf0aaecd0", func := "copyist/copyistlaw06.CheckSums", spec := "checkSums", apart := false, narrowed := true }
def CheckSumsUptoSaid : Prop := checkSumsUptoRow.holds Try.pinned (OpenSpec.upto checkSumsSpec)

/-- 'copyistlaw06.CheckSeals', WHERE WHAT IT READS IS OF BULK AT MOST 1048576: true; the input reads as it did. -/
def checkSealsUptoRow : OpenClaim := { program := "ytffdiicflahjfaa", sum := "ef7893d0e7c428a45c582342b7a38b7ed09ded3f77b4327235c000ddf0aaecd0", func := "copyist/copyistlaw06.CheckSeals", spec := "checkSeals", apart := false, narrowed := true }
def CheckSealsUptoSaid : Prop := checkSealsUptoRow.holds Try.pinned (OpenSpec.upto checkSealsSpec)

/-- 'copyistlaw06.CheckBursts', WHERE WHAT IT READS IS OF BULK AT MOST 1048576: true; the input reads as it did. -/
def checkBurstsUptoRow : OpenClaim := { program := "ytffdiicflahjfaa", sum := "ef7893d0e7c428a45c582342b7a38b7ed09ded3f77b4327235c000ddf0aaecd0", func := "copyist/copyistlaw06.CheckBursts", spec := "checkBursts", apart := false, narrowed := true }
def CheckBurstsUptoSaid : Prop := checkBurstsUptoRow.holds Try.pinned (OpenSpec.upto checkBurstsSpec)

/-- 'copyistlaw01.IdentOrders', WHERE WHAT IT READS IS OF BULK AT MOST 1048576: true; the input reads as it did. -/
def identOrdersUptoRow : OpenClaim := { program := "ytffdiicflahjfaa", sum := "ef7893d0e7c428a45c582342b7a38b7ed09ded3f77b4327235c000ddf0aaecd0", func := "copyist/copyistlaw01.IdentOrders", spec := "identOrders", apart := false, narrowed := true }
def IdentOrdersUptoSaid : Prop := identOrdersUptoRow.holds Try.pinned (OpenSpec.upto identOrdersSpec)

/-- 'copyistlaw01.IdentCounts', WHERE WHAT IT READS IS OF BULK AT MOST 1048576: true; the input reads as it did. -/
def identCountsUptoRow : OpenClaim := { program := "ytffdiicflahjfaa", sum := "ef7893d0e7c428a45c582342b7a38b7ed09ded3f77b4327235c000ddf0aaecd0", func := "copyist/copyistlaw01.IdentCounts", spec := "identCounts", apart := false, narrowed := true }
def IdentCountsUptoSaid : Prop := identCountsUptoRow.holds Try.pinned (OpenSpec.upto identCountsSpec)

/-- 'copyistlaw05.PackCuts', WHERE WHAT IT READS IS OF BULK AT MOST 1048576: true; the input reads as it did. -/
def packCutsUptoRow : OpenClaim := { program := "ytffdiicflahjfaa", sum := "ef7893d0e7c428a45c582342b7a38b7ed09ded3f77b4327235c000ddf0aaecd0", func := "copyist/copyistlaw05.PackCuts", spec := "packCuts", recurses := true, apart := false, narrowed := true }
def PackCutsUptoSaid : Prop := packCutsUptoRow.holds Try.pinned (OpenSpec.upto packCutsSpec)

/-- 'copyistlaw05.PackReads', WHERE WHAT IT READS IS OF BULK AT MOST 1048576: true; the input reads as it did. -/
def packReadsUptoRow : OpenClaim := { program := "ytffdiicflahjfaa", sum := "ef7893d0e7c428a45c582342b7a38b7ed09ded3f77b4327235c000ddf0aaecd0", func := "copyist/copyistlaw05.PackReads", spec := "packReads", apart := false, narrowed := true }
def PackReadsUptoSaid : Prop := packReadsUptoRow.holds Try.pinned (OpenSpec.upto packReadsSpec)

/-- 'copyistlaw07.SpanBytes', WHERE WHAT IT READS IS OF BULK AT MOST 1048576: true; the input reads as it did. -/
def spanBytesUptoRow : OpenClaim := { program := "ytffdiicflahjfaa", sum := "ef7893d0e7c428a45c582342b7a38b7ed09ded3f77b4327235c000ddf0aaecd0", func := "copyist/copyistlaw07.SpanBytes", spec := "spanBytes", recurses := true, apart := false, narrowed := true }
def SpanBytesUptoSaid : Prop := spanBytesUptoRow.holds Try.pinned (OpenSpec.upto spanBytesSpec)

/-- 'copyistlaw05.PackWrites', WHERE WHAT IT READS IS OF BULK AT MOST 1048576: true; the input reads as it did. -/
def packWritesUptoRow : OpenClaim := { program := "ytffdiicflahjfaa", sum := "ef7893d0e7c428a45c582342b7a38b7ed09ded3f77b4327235c000ddf0aaecd0", func := "copyist/copyistlaw05.PackWrites", spec := "packWrites", recurses := true, apart := false, narrowed := true }
def PackWritesUptoSaid : Prop := packWritesUptoRow.holds Try.pinned (OpenSpec.upto packWritesSpec)

end Rows
end Go.Proofs.Ytffdiicflahjfaa
