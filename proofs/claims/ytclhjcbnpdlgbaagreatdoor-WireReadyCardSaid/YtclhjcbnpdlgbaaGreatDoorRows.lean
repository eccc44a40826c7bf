/-
  NARROWER THAN 'FOR EVERY INPUT', by the rows' own cells (each row's printed sentence says how): WireBytes: laid · WireReads: laid · WireSpoilt: laid · WireReady: laid.
  DERIVED. THE GIVEN ROWS OF THIS SEAT. 4 by the template 'for every input the law returns true; each argument reads behind the call as it read before'; 0 by the template 'total and deterministic' (their statements: YtclhjcbnpdlgbaaGreatDoorTotals.lean).
  GIVEN WITH THE SEED: the statements are not yours to turn. If you find one false, say at which input.
  Laid BY PROGRAM, IN A SANDBOX (cutbox-rows.mjs): the forced cells as the released guide's own fill.sh prints them over the translation a86679f2e034d297… (all of the seat's roots in one cut). By AI agents, Wed Nov 11 2026. No macro, syntax, notation, axiom, sorry.
-/
import Derived.Test.YtclhjcbnpdlgbaaGreatDoorChecked
import GoSem.Claim
import GoSem.ClaimJoined
import GoSem.ClaimMapViews
import Derived.JoinedTies
import Derived.KernelRfl
namespace Go.Proofs.YtclhjcbnpdlgbaaGreatDoor
/- THE CELL 'sum', in the pinned program and in every row, IS THE sha256 OF THE DUMP (.gsa) THAT YtclhjcbnpdlgbaaGreatDoorProg.lean LOADS. Nothing in Lean hashes anything: it is a label: what it is worth is what the hold of that sum in a sandbox is worth. -/
noncomputable def Tryz.pinned : Pinned := { name := "ytclhjcbnpdlgbaagreatdoor", sum := "a86679f2e034d297376fcc3b8368b9f8fb500ebc993dacc8d6e8ced7ba4786cd", checked := Tryz.checked }
namespace Rows
def none {H : Type} : Left H := { results := [], args := [] }

/- WHAT THE LISTED PACKAGE-LEVEL VARIABLES READ AS WHEN THE CALL BEGINS. Each datum BY PROGRAM (the guide's laid-datum.mjs) off the statement by which the dump's own 'gosem.cut.vars' lays the variable. In a bare row this is a premise. The card (YtclhjcbnpdlgbaaGreatDoorCards.lean) ties it to the program's text. -/
def laid_copyist_ident_root {H : Type} : DataW H := .agg [.lit (.int .u16 0), .lit (.int .u32 0)]

/-- 'copyistlaw10.WireBytes': WHATEVER THE INPUT: true; the input reads as it did. -/
def wireBytesSpec : ChangeSpec := { name := "wireBytes", fn := fun _ => fun
  | [d] => { results := [.lit (.bool true)], args := [d] }
  | _ => none }
def wireBytesRow : OpenClaim := { program := "ytclhjcbnpdlgbaagreatdoor", sum := "a86679f2e034d297376fcc3b8368b9f8fb500ebc993dacc8d6e8ced7ba4786cd", func := "copyist/copyistlaw10.WireBytes", spec := "wireBytes", unfollowed := true, recurses := true, named := ["copyist/ident.root"], apart := false, laid := [("copyist/ident.root", laid_copyist_ident_root)] }
def WireBytesSaid : Prop := wireBytesRow.holds Tryz.pinned (OpenSpec.ofChange wireBytesSpec)

/-- ITS FALSE NEIGHBOUR: 'it returns false'. Refute it at one input. -/
def wireBytesWrong : ChangeSpec := { name := "wireBytes", fn := fun _ => fun
  | [d] => { results := [.lit (.bool false)], args := [d] }
  | _ => none }
def WireBytesWrongFalsely : Prop := wireBytesRow.holds Tryz.pinned (OpenSpec.ofChange wireBytesWrong)

/-- 'copyistlaw10.WireReads': WHATEVER THE INPUT: true; the input reads as it did. -/
def wireReadsSpec : ChangeSpec := { name := "wireReads", fn := fun _ => fun
  | [d] => { results := [.lit (.bool true)], args := [d] }
  | _ => none }
def wireReadsRow : OpenClaim := { program := "ytclhjcbnpdlgbaagreatdoor", sum := "a86679f2e034d297376fcc3b8368b9f8fb500ebc993dacc8d6e8ced7ba4786cd", func := "copyist/copyistlaw10.WireReads", spec := "wireReads", unfollowed := true, recurses := true, named := ["copyist/ident.root"], apart := false, laid := [("copyist/ident.root", laid_copyist_ident_root)] }
def WireReadsSaid : Prop := wireReadsRow.holds Tryz.pinned (OpenSpec.ofChange wireReadsSpec)

/-- ITS FALSE NEIGHBOUR: 'it returns false'. Refute it at one input. -/
def wireReadsWrong : ChangeSpec := { name := "wireReads", fn := fun _ => fun
  | [d] => { results := [.lit (.bool false)], args := [d] }
  | _ => none }
def WireReadsWrongFalsely : Prop := wireReadsRow.holds Tryz.pinned (OpenSpec.ofChange wireReadsWrong)

/-- 'copyistlaw10.WireSpoilt': WHATEVER THE INPUT: true; the input reads as it did. -/
def wireSpoiltSpec : ChangeSpec := { name := "wireSpoilt", fn := fun _ => fun
  | [d1, d2, d3, d4, d5] => { results := [.lit (.bool true)], args := [d1, d2, d3, d4, d5] }
  | _ => none }
def wireSpoiltRow : OpenClaim := { program := "ytclhjcbnpdlgbaagreatdoor", sum := "a86679f2e034d297376fcc3b8368b9f8fb500ebc993dacc8d6e8ced7ba4786cd", func := "copyist/copyistlaw10.WireSpoilt", spec := "wireSpoilt", unfollowed := true, recurses := true, named := ["copyist/ident.root"], apart := false, laid := [("copyist/ident.root", laid_copyist_ident_root)] }
def WireSpoiltSaid : Prop := wireSpoiltRow.holds Tryz.pinned (OpenSpec.ofChange wireSpoiltSpec)

/-- ITS FALSE NEIGHBOUR: 'it returns false'. Refute it at one input. -/
def wireSpoiltWrong : ChangeSpec := { name := "wireSpoilt", fn := fun _ => fun
  | [d1, d2, d3, d4, d5] => { results := [.lit (.bool false)], args := [d1, d2, d3, d4, d5] }
  | _ => none }
def WireSpoiltWrongFalsely : Prop := wireSpoiltRow.holds Tryz.pinned (OpenSpec.ofChange wireSpoiltWrong)

/-- 'copyistlaw10.WireReady': WHATEVER THE INPUT: true; the input reads as it did. -/
def wireReadySpec : ChangeSpec := { name := "wireReady", fn := fun _ => fun
  | [d1, d2, d3] => { results := [.lit (.bool true)], args := [d1, d2, d3] }
  | _ => none }
def wireReadyRow : OpenClaim := { program := "ytclhjcbnpdlgbaagreatdoor", sum := "a86679f2e034d297376fcc3b8368b9f8fb500ebc993dacc8d6e8ced7ba4786cd", func := "copyist/copyistlaw10.WireReady", spec := "wireReady", inPlace := ["slices.overlaps[copyist/vector.Entry]"], unfollowed := true, recurses := true, named := ["copyist/ident.root"], apart := false, laid := [("copyist/ident.root", laid_copyist_ident_root)] }
def WireReadySaid : Prop := wireReadyRow.holds Tryz.pinned (OpenSpec.ofChange wireReadySpec)

/-- ITS FALSE NEIGHBOUR: 'it returns false'. Refute it at one input. -/
def wireReadyWrong : ChangeSpec := { name := "wireReady", fn := fun _ => fun
  | [d1, d2, d3] => { results := [.lit (.bool false)], args := [d1, d2, d3] }
  | _ => none }
def WireReadyWrongFalsely : Prop := wireReadyRow.holds Tryz.pinned (OpenSpec.ofChange wireReadyWrong)

/- THE SECOND FORM. 'bulk': how many values and letters a reading holds, each counted each time it is reached (what is shared counts as often as it is met; a slice's spare places count too). A statement '..UptoSaid' is the law's where the arguments, and the package variables that the reading takes, are together of bulk at most 1048576: NARROWER than '..Said'. Prove '..Said' where nothing that the law and all that it calls make is longer than what came in: it says more and counts as full. Else prove '..UptoSaid'. A law counts once. -/
mutual
def uptoBulk {H : Type} : DataW H → Nat
  | .lit (.string bytes) => bytes.length + 1
  | .lit _ => 1
  | .nil => 1
  | .ptr d => uptoBulk d + 1
  | .slice elems spare => uptoBulkAll elems + uptoBulkAll spare + 1
  | .agg parts => uptoBulkAll parts + 1
  | .iface _ d => uptoBulk d + 1
  | .map entries => uptoBulkEntries entries + 1
  | .held _ => 1
def uptoBulkAll {H : Type} : List (DataW H) → Nat
  | [] => 0
  | d :: r => uptoBulk d + uptoBulkAll r
def uptoBulkEntries {H : Type} : List (Lit × DataW H) → Nat
  | [] => 0
  | x :: r => uptoBulkEntry x + uptoBulkEntries r
def uptoBulkEntry {H : Type} : Lit × DataW H → Nat
  | (.string bytes, d) => bytes.length + uptoBulk d + 1
  | (_, d) => uptoBulk d + 1
 end
def uptoSmall : (H : Type) → List (DataW H) → Bool := fun _ ds => decide (uptoBulkAll ds ≤ 1048576)
def OpenSpec.upto (s : _root_.Go.ChangeSpec) : _root_.Go.OpenSpec := { _root_.Go.OpenSpec.ofChange s with cond := some uptoSmall }

/-- 'copyistlaw10.WireBytes', WHERE WHAT IT READS IS OF BULK AT MOST 1048576: true; the input reads as it did. -/
def wireBytesUptoRow : OpenClaim := { program := "ytclhjcbnpdlgbaagreatdoor", sum := "a86679f2e034d297376fcc3b8368b9f8fb500ebc993dacc8d6e8ced7ba4786cd", func := "copyist/copyistlaw10.WireBytes", spec := "wireBytes", unfollowed := true, recurses := true, named := ["copyist/ident.root"], apart := false, laid := [("copyist/ident.root", laid_copyist_ident_root)], narrowed := true }
def WireBytesUptoSaid : Prop := wireBytesUptoRow.holds Tryz.pinned (OpenSpec.upto wireBytesSpec)

/-- 'copyistlaw10.WireReads', WHERE WHAT IT READS IS OF BULK AT MOST 1048576: true; the input reads as it did. -/
def wireReadsUptoRow : OpenClaim := { program := "ytclhjcbnpdlgbaagreatdoor", sum := "a86679f2e034d297376fcc3b8368b9f8fb500ebc993dacc8d6e8ced7ba4786cd", func := "copyist/copyistlaw10.WireReads", spec := "wireReads", unfollowed := true, recurses := true, named := ["copyist/ident.root"], apart := false, laid := [("copyist/ident.root", laid_copyist_ident_root)], narrowed := true }
def WireReadsUptoSaid : Prop := wireReadsUptoRow.holds Tryz.pinned (OpenSpec.upto wireReadsSpec)

/-- 'copyistlaw10.WireSpoilt', WHERE WHAT IT READS IS OF BULK AT MOST 1048576: true; the input reads as it did. -/
def wireSpoiltUptoRow : OpenClaim := { program := "ytclhjcbnpdlgbaagreatdoor", sum := "a86679f2e034d297376fcc3b8368b9f8fb500ebc993dacc8d6e8ced7ba4786cd", func := "copyist/copyistlaw10.WireSpoilt", spec := "wireSpoilt", unfollowed := true, recurses := true, named := ["copyist/ident.root"], apart := false, laid := [("copyist/ident.root", laid_copyist_ident_root)], narrowed := true }
def WireSpoiltUptoSaid : Prop := wireSpoiltUptoRow.holds Tryz.pinned (OpenSpec.upto wireSpoiltSpec)

/-- 'copyistlaw10.WireReady', WHERE WHAT IT READS IS OF BULK AT MOST 1048576: true; the input reads as it did. -/
def wireReadyUptoRow : OpenClaim := { program := "ytclhjcbnpdlgbaagreatdoor", sum := "a86679f2e034d297376fcc3b8368b9f8fb500ebc993dacc8d6e8ced7ba4786cd", func := "copyist/copyistlaw10.WireReady", spec := "wireReady", inPlace := ["slices.overlaps[copyist/vector.Entry]"], unfollowed := true, recurses := true, named := ["copyist/ident.root"], apart := false, laid := [("copyist/ident.root", laid_copyist_ident_root)], narrowed := true }
def WireReadyUptoSaid : Prop := wireReadyUptoRow.holds Tryz.pinned (OpenSpec.upto wireReadySpec)

end Rows
end Go.Proofs.YtclhjcbnpdlgbaaGreatDoor
