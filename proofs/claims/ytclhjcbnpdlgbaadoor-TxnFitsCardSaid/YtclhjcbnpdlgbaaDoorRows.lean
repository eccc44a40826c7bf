/-
  NARROWER THAN 'FOR EVERY INPUT', by the rows' own cells (each row's printed sentence says how): OpFits: laid · TxnFits: laid.
  DERIVED. THE GIVEN ROWS OF THIS SEAT. 2 by the template 'for every input the law returns true; each argument reads behind the call as it read before'; 0 by the template 'total and deterministic' (their statements: YtclhjcbnpdlgbaaDoorTotals.lean).
  GIVEN WITH THE SEED: the statements are not yours to turn. If you find one false, say at which input.
  Laid BY PROGRAM, IN A SANDBOX (cutbox-rows.mjs): the forced cells as the released guide's own fill.sh prints them over the translation 31bed9241dcb55ac… (all of the seat's roots in one cut). By AI agents, Wed Nov 11 2026. No macro, syntax, notation, axiom, sorry.
-/
import Derived.Test.YtclhjcbnpdlgbaaDoorChecked
import GoSem.Claim
import GoSem.ClaimJoined
import GoSem.ClaimMapViews
import Derived.JoinedTies
import Derived.KernelRfl
namespace Go.Proofs.YtclhjcbnpdlgbaaDoor
/- THE CELL 'sum', in the pinned program and in every row, IS THE sha256 OF THE DUMP (.gsa) THAT YtclhjcbnpdlgbaaDoorProg.lean LOADS. Nothing in Lean hashes anything: it is a label: what it is worth is what the hold of that sum in a sandbox is worth. -/
noncomputable def Tryd.pinned : Pinned := { name := "ytclhjcbnpdlgbaadoor", sum := "31bed9241dcb55acc9c736cd22bf72b6e4308dfb9399606ad090af66d528ecba", checked := Tryd.checked }
namespace Rows
def none {H : Type} : Left H := { results := [], args := [] }

/- WHAT THE LISTED PACKAGE-LEVEL VARIABLES READ AS WHEN THE CALL BEGINS. Each datum BY PROGRAM (the guide's laid-datum.mjs) off the statement by which the dump's own 'gosem.cut.vars' lays the variable. In a bare row this is a premise. The card (YtclhjcbnpdlgbaaDoorCards.lean) ties it to the program's text. -/
def laid_copyist_ident_root {H : Type} : DataW H := .agg [.lit (.int .u16 0), .lit (.int .u32 0)]

/-- 'copyistlaw08.OpFits': WHATEVER THE INPUT: true; the input reads as it did. -/
def opFitsSpec : ChangeSpec := { name := "opFits", fn := fun _ => fun
  | [d] => { results := [.lit (.bool true)], args := [d] }
  | _ => none }
def opFitsRow : OpenClaim := { program := "ytclhjcbnpdlgbaadoor", sum := "31bed9241dcb55acc9c736cd22bf72b6e4308dfb9399606ad090af66d528ecba", func := "copyist/copyistlaw08.OpFits", spec := "opFits", unfollowed := true, recurses := true, named := ["copyist/ident.root"], apart := false, laid := [("copyist/ident.root", laid_copyist_ident_root)] }
def OpFitsSaid : Prop := opFitsRow.holds Tryd.pinned (OpenSpec.ofChange opFitsSpec)

/-- ITS FALSE NEIGHBOUR: 'it returns false'. Refute it at one input. -/
def opFitsWrong : ChangeSpec := { name := "opFits", fn := fun _ => fun
  | [d] => { results := [.lit (.bool false)], args := [d] }
  | _ => none }
def OpFitsWrongFalsely : Prop := opFitsRow.holds Tryd.pinned (OpenSpec.ofChange opFitsWrong)

/-- 'copyistlaw09.TxnFits': WHATEVER THE INPUT: true; the input reads as it did. -/
def txnFitsSpec : ChangeSpec := { name := "txnFits", fn := fun _ => fun
  | [d1, d2] => { results := [.lit (.bool true)], args := [d1, d2] }
  | _ => none }
def txnFitsRow : OpenClaim := { program := "ytclhjcbnpdlgbaadoor", sum := "31bed9241dcb55acc9c736cd22bf72b6e4308dfb9399606ad090af66d528ecba", func := "copyist/copyistlaw09.TxnFits", spec := "txnFits", unfollowed := true, recurses := true, named := ["copyist/ident.root"], apart := false, laid := [("copyist/ident.root", laid_copyist_ident_root)] }
def TxnFitsSaid : Prop := txnFitsRow.holds Tryd.pinned (OpenSpec.ofChange txnFitsSpec)

/-- ITS FALSE NEIGHBOUR: 'it returns false'. Refute it at one input. -/
def txnFitsWrong : ChangeSpec := { name := "txnFits", fn := fun _ => fun
  | [d1, d2] => { results := [.lit (.bool false)], args := [d1, d2] }
  | _ => none }
def TxnFitsWrongFalsely : Prop := txnFitsRow.holds Tryd.pinned (OpenSpec.ofChange txnFitsWrong)

/- THE SECOND FORM. 'bulk': how many values and letters a reading holds, each counted each time it is reached (what is shared counts as often as it is met; a slice's spare places count too). A statement '..UptoSaid' is the law's where the arguments, and the package variables that the reading takes, are together of bulk at most 1048576: NARROWER than '..Said'. Prove '..Said' where nothing that the law and all that it calls make is longer than what came in: it says more and counts as full. Else prove '..UptoSaid'. A law counts once. -/
mutual
def uptoBulk {H : Type} : DataW H → Nat
  | .lit (.string bytes) => bytes.length + 1
  | .lit _ => 1
  | .nil => 1
  | .ptr d => uptoBulk d + 1
  | .slice elems spare => uptoBulkAll elems + uptoBulkAll spare + 1
  | .agg parts => uptoBulkAll parts + 1
  | .iface _ d => uptoBulk d + 1
  | .map entries => uptoBulkEntries entries + 1
  | .held _ => 1
def uptoBulkAll {H : Type} : List (DataW H) → Nat
  | [] => 0
  | d :: r => uptoBulk d + uptoBulkAll r
def uptoBulkEntries {H : Type} : List (Lit × DataW H) → Nat
  | [] => 0
  | x :: r => uptoBulkEntry x + uptoBulkEntries r
def uptoBulkEntry {H : Type} : Lit × DataW H → Nat
  | (.string bytes, d) => bytes.length + uptoBulk d + 1
  | (_, d) => uptoBulk d + 1
 end
def uptoSmall : (H : Type) → List (DataW H) → Bool := fun _ ds => decide (uptoBulkAll ds ≤ 1048576)
def OpenSpec.upto (s : _root_.Go.ChangeSpec) : _root_.Go.OpenSpec := { _root_.Go.OpenSpec.ofChange s with cond := some uptoSmall }

/-- 'copyistlaw08.OpFits', WHERE WHAT IT READS IS OF BULK AT MOST 1048576: true; the input reads as it did. -/
def opFitsUptoRow : OpenClaim := { program := "ytclhjcbnpdlgbaadoor", sum := "31bed9241dcb55acc9c736cd22bf72b6e4308dfb9399606ad090af66d528ecba", func := "copyist/copyistlaw08.OpFits", spec := "opFits", unfollowed := true, recurses := true, named := ["copyist/ident.root"], apart := false, laid := [("copyist/ident.root", laid_copyist_ident_root)], narrowed := true }
def OpFitsUptoSaid : Prop := opFitsUptoRow.holds Tryd.pinned (OpenSpec.upto opFitsSpec)

/-- 'copyistlaw09.TxnFits', WHERE WHAT IT READS IS OF BULK AT MOST 1048576: true; the input reads as it did. -/
def txnFitsUptoRow : OpenClaim := { program := "ytclhjcbnpdlgbaadoor", sum := "31bed9241dcb55acc9c736cd22bf72b6e4308dfb9399606ad090af66d528ecba", func := "copyist/copyistlaw09.TxnFits", spec := "txnFits", unfollowed := true, recurses := true, named := ["copyist/ident.root"], apart := false, laid := [("copyist/ident.root", laid_copyist_ident_root)], narrowed := true }
def TxnFitsUptoSaid : Prop := txnFitsUptoRow.holds Tryd.pinned (OpenSpec.upto txnFitsSpec)

end Rows
end Go.Proofs.YtclhjcbnpdlgbaaDoor
