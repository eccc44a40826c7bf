/-
  NARROWER THAN 'FOR EVERY INPUT', by the rows' own cells (each row's printed sentence says how): TxnReads: laid · TxnBytes: laid.
  DERIVED. THE GIVEN ROWS OF THIS SEAT. 2 by the template 'for every input the law returns true; each argument reads behind the call as it read before'; 0 by the template 'total and deterministic' (their statements: YtolbmgkoifchfaaDoorTotals.lean).
  GIVEN WITH THE SEED: the statements are not yours to turn. If you find one false, say at which input.
  Laid BY PROGRAM, IN A SANDBOX (cutbox-rows.mjs): the forced cells as the released guide's own fill.sh prints them over the translation cd9afbcf3e8c4cf9… (all of the seat's roots in one cut). By AI agents, Wed Nov 11 2026. No macro, syntax, notation, axiom, sorry.
-/
import Derived.Test.YtolbmgkoifchfaaDoorChecked
import GoSem.Claim
import GoSem.ClaimJoined
import GoSem.ClaimMapViews
import Derived.JoinedTies
import Derived.KernelRfl
namespace Go.Proofs.YtolbmgkoifchfaaDoor
/- THE CELL 'sum', in the pinned program and in every row, IS THE sha256 OF THE DUMP (.gsa) THAT YtolbmgkoifchfaaDoorProg.lean LOADS. Nothing in Lean hashes anything: it is a label: what it is worth is what the hold of that sum in a sandbox is worth. -/
noncomputable def Tryd.pinned : Pinned := { name := "ytolbmgkoifchfaadoor", sum := "cd9afbcf3e8c4cf9f740086963e287239f01f65f8c8982a8bb3b525cdc13476b", checked := Tryd.checked }
namespace Rows
def none {H : Type} : Left H := { results := [], args := [] }

/- WHAT THE LISTED PACKAGE-LEVEL VARIABLES READ AS WHEN THE CALL BEGINS. Each datum BY PROGRAM (the guide's laid-datum.mjs) off the statement by which the dump's own 'gosem.cut.vars' lays the variable. In a bare row this is a premise. The card (YtolbmgkoifchfaaDoorCards.lean) ties it to the program's text. -/
def laid_copyist_ident_root {H : Type} : DataW H := .agg [.lit (.int .u16 0), .lit (.int .u32 0)]

/-- 'copyistlaw09.TxnReads': WHATEVER THE INPUT: true; the input reads as it did. -/
def txnReadsSpec : ChangeSpec := { name := "txnReads", fn := fun _ => fun
  | [d] => { results := [.lit (.bool true)], args := [d] }
  | _ => none }
def txnReadsRow : OpenClaim := { program := "ytolbmgkoifchfaadoor", sum := "cd9afbcf3e8c4cf9f740086963e287239f01f65f8c8982a8bb3b525cdc13476b", func := "copyist/copyistlaw09.TxnReads", spec := "txnReads", unfollowed := true, recurses := true, named := ["copyist/ident.root"], apart := false, laid := [("copyist/ident.root", laid_copyist_ident_root)] }
def TxnReadsSaid : Prop := txnReadsRow.holds Tryd.pinned (OpenSpec.ofChange txnReadsSpec)

/-- ITS FALSE NEIGHBOUR: 'it returns false'. Refute it at one input. -/
def txnReadsWrong : ChangeSpec := { name := "txnReads", fn := fun _ => fun
  | [d] => { results := [.lit (.bool false)], args := [d] }
  | _ => none }
def TxnReadsWrongFalsely : Prop := txnReadsRow.holds Tryd.pinned (OpenSpec.ofChange txnReadsWrong)

/-- 'copyistlaw09.TxnBytes': WHATEVER THE INPUT: true; the input reads as it did. -/
def txnBytesSpec : ChangeSpec := { name := "txnBytes", fn := fun _ => fun
  | [d] => { results := [.lit (.bool true)], args := [d] }
  | _ => none }
def txnBytesRow : OpenClaim := { program := "ytolbmgkoifchfaadoor", sum := "cd9afbcf3e8c4cf9f740086963e287239f01f65f8c8982a8bb3b525cdc13476b", func := "copyist/copyistlaw09.TxnBytes", spec := "txnBytes", unfollowed := true, recurses := true, named := ["copyist/ident.root"], apart := false, laid := [("copyist/ident.root", laid_copyist_ident_root)] }
def TxnBytesSaid : Prop := txnBytesRow.holds Tryd.pinned (OpenSpec.ofChange txnBytesSpec)

/-- ITS FALSE NEIGHBOUR: 'it returns false'. Refute it at one input. -/
def txnBytesWrong : ChangeSpec := { name := "txnBytes", fn := fun _ => fun
  | [d] => { results := [.lit (.bool false)], args := [d] }
  | _ => none }
def TxnBytesWrongFalsely : Prop := txnBytesRow.holds Tryd.pinned (OpenSpec.ofChange txnBytesWrong)

/- THE SECOND FORM. 'bulk': how many values and letters a reading holds, each counted each time it is reached (what is shared counts as often as it is met; a slice's spare places count too). A statement '..UptoSaid' is the law's where the arguments, and the package variables that the reading takes, are together of bulk at most 1048576: NARROWER than '..Said'. Prove '..Said' where nothing that the law and all that it calls make is longer than what came in: it says more and counts as full. Else prove '..UptoSaid'. A law counts once. -/
mutual
def uptoBulk {H : Type} : DataW H → Nat
  | .lit (.string bytes) => bytes.length + 1
  | .lit _ => 1
  | .nil => 1
  | .ptr d => uptoBulk d + 1
  | .slice elems spare => uptoBulkAll elems + uptoBulkAll spare + 1
  | .agg parts => uptoBulkAll parts + 1
  | .iface _ d => uptoBulk d + 1
  | .map entries => uptoBulkEntries entries + 1
  | .held _ => 1
def uptoBulkAll {H : Type} : List (DataW H) → Nat
  | [] => 0
  | d :: r => uptoBulk d + uptoBulkAll r
def uptoBulkEntries {H : Type} : List (Lit × DataW H) → Nat
  | [] => 0
  | x :: r => uptoBulkEntry x + uptoBulkEntries r
def uptoBulkEntry {H : Type} : Lit × DataW H → Nat
  | (.string bytes, d) => bytes.length + uptoBulk d + 1
  | (_, d) => uptoBulk d + 1
 end
def uptoSmall : (H : Type) → List (DataW H) → Bool := fun _ ds => decide (uptoBulkAll ds ≤ 1048576)
def OpenSpec.upto (s : _root_.Go.ChangeSpec) : _root_.Go.OpenSpec := { _root_.Go.OpenSpec.ofChange s with cond := some uptoSmall }

/-- 'copyistlaw09.TxnReads', WHERE WHAT IT READS IS OF BULK AT MOST 1048576: true; the input reads as it did. -/
def txnReadsUptoRow : OpenClaim := { program := "ytolbmgkoifchfaadoor", sum := "cd9afbcf3e8c4cf9f740086963e287239f01f65f8c8982a8bb3b525cdc13476b", func := "copyist/copyistlaw09.TxnReads", spec := "txnReads", unfollowed := true, recurses := true, named := ["copyist/ident.root"], apart := false, laid := [("copyist/ident.root", laid_copyist_ident_root)], narrowed := true }
def TxnReadsUptoSaid : Prop := txnReadsUptoRow.holds Tryd.pinned (OpenSpec.upto txnReadsSpec)

/-- 'copyistlaw09.TxnBytes', WHERE WHAT IT READS IS OF BULK AT MOST 1048576: true; the input reads as it did. -/
def txnBytesUptoRow : OpenClaim := { program := "ytolbmgkoifchfaadoor", sum := "cd9afbcf3e8c4cf9f740086963e287239f01f65f8c8982a8bb3b525cdc13476b", func := "copyist/copyistlaw09.TxnBytes", spec := "txnBytes", unfollowed := true, recurses := true, named := ["copyist/ident.root"], apart := false, laid := [("copyist/ident.root", laid_copyist_ident_root)], narrowed := true }
def TxnBytesUptoSaid : Prop := txnBytesUptoRow.holds Tryd.pinned (OpenSpec.upto txnBytesSpec)

end Rows
end Go.Proofs.YtolbmgkoifchfaaDoor
