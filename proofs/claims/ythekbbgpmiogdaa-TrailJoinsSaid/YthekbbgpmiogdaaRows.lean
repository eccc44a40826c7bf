/-
  No cell of these rows narrows 'for every input' (looked for: loops, veiled, ifaces, maps, wideKeys, modest, calm, conditions, laid).
  DERIVED. THE GIVEN ROWS OF THIS SEAT. 4 by the template 'for every input the law returns true; each argument reads behind the call as it read before'; 0 by the template 'total and deterministic' (their statements: YthekbbgpmiogdaaTotals.lean).
  GIVEN WITH THE SEED: the statements are not yours to turn. If you find one false, say at which input.
  Laid BY PROGRAM, IN A SANDBOX (cutbox-rows.mjs): the forced cells as the released guide's own fill.sh prints them over the translation f7c8dfe6238e92a1… (all of the seat's roots in one cut). By AI agents, Wed Nov 11 2026. No macro, syntax, notation, axiom, sorry.
-/
import Derived.Test.YthekbbgpmiogdaaChecked
import GoSem.Claim
import GoSem.ClaimJoined
import GoSem.ClaimMapViews
import Derived.JoinedTies
import Derived.KernelRfl
namespace Go.Proofs.Ythekbbgpmiogdaa
/- THE CELL 'sum', in the pinned program and in every row, IS THE sha256 OF THE DUMP (.gsa) THAT YthekbbgpmiogdaaProg.lean LOADS. Nothing in Lean hashes anything: it is a label: what it is worth is what the hold of that sum in a sandbox is worth. -/
noncomputable def Try.pinned : Pinned := { name := "ythekbbgpmiogdaa", sum := "f7c8dfe6238e92a10bacc4a40a39208f4a0d0b63026c2e413027a8ecb66d1b49", checked := Try.checked }
namespace Rows
def none {H : Type} : Left H := { results := [], args := [] }

/-- 'copyistlaw04.WalkJoins': WHATEVER THE INPUT: true; the input reads as it did. -/
def walkJoinsSpec : ChangeSpec := { name := "walkJoins", fn := fun _ => fun
  | [d1, d2] => { results := [.lit (.bool true)], args := [d1, d2] }
  | _ => none }
def walkJoinsRow : OpenClaim := { program := "ythekbbgpmiogdaa", sum := "f7c8dfe6238e92a10bacc4a40a39208f4a0d0b63026c2e413027a8ecb66d1b49", func := "copyist/copyistlaw04.WalkJoins", spec := "walkJoins", apart := false }
def WalkJoinsSaid : Prop := walkJoinsRow.holds Try.pinned (OpenSpec.ofChange walkJoinsSpec)

/-- ITS FALSE NEIGHBOUR: 'it returns false'. Refute it at one input. -/
def walkJoinsWrong : ChangeSpec := { name := "walkJoins", fn := fun _ => fun
  | [d1, d2] => { results := [.lit (.bool false)], args := [d1, d2] }
  | _ => none }
def WalkJoinsWrongFalsely : Prop := walkJoinsRow.holds Try.pinned (OpenSpec.ofChange walkJoinsWrong)

/-- 'copyistlaw34.TrailJoins': WHATEVER THE INPUT: true; the input reads as it did. -/
def trailJoinsSpec : ChangeSpec := { name := "trailJoins", fn := fun _ => fun
  | [d1, d2] => { results := [.lit (.bool true)], args := [d1, d2] }
  | _ => none }
def trailJoinsRow : OpenClaim := { program := "ythekbbgpmiogdaa", sum := "f7c8dfe6238e92a10bacc4a40a39208f4a0d0b63026c2e413027a8ecb66d1b49", func := "copyist/copyistlaw34.TrailJoins", spec := "trailJoins", apart := false }
def TrailJoinsSaid : Prop := trailJoinsRow.holds Try.pinned (OpenSpec.ofChange trailJoinsSpec)

/-- ITS FALSE NEIGHBOUR: 'it returns false'. Refute it at one input. -/
def trailJoinsWrong : ChangeSpec := { name := "trailJoins", fn := fun _ => fun
  | [d1, d2] => { results := [.lit (.bool false)], args := [d1, d2] }
  | _ => none }
def TrailJoinsWrongFalsely : Prop := trailJoinsRow.holds Try.pinned (OpenSpec.ofChange trailJoinsWrong)

/-- 'copyistlaw34.TrailFour': WHATEVER THE INPUT: true; the input reads as it did. -/
def trailFourSpec : ChangeSpec := { name := "trailFour", fn := fun _ => fun
  | [d] => { results := [.lit (.bool true)], args := [d] }
  | _ => none }
def trailFourRow : OpenClaim := { program := "ythekbbgpmiogdaa", sum := "f7c8dfe6238e92a10bacc4a40a39208f4a0d0b63026c2e413027a8ecb66d1b49", func := "copyist/copyistlaw34.TrailFour", spec := "trailFour", apart := false }
def TrailFourSaid : Prop := trailFourRow.holds Try.pinned (OpenSpec.ofChange trailFourSpec)

/-- ITS FALSE NEIGHBOUR: 'it returns false'. Refute it at one input. -/
def trailFourWrong : ChangeSpec := { name := "trailFour", fn := fun _ => fun
  | [d] => { results := [.lit (.bool false)], args := [d] }
  | _ => none }
def TrailFourWrongFalsely : Prop := trailFourRow.holds Try.pinned (OpenSpec.ofChange trailFourWrong)

/-- 'copyistlaw34.TrailTurns': WHATEVER THE INPUT: true; the input reads as it did. -/
def trailTurnsSpec : ChangeSpec := { name := "trailTurns", fn := fun _ => fun
  | [d1, d2, d3, d4] => { results := [.lit (.bool true)], args := [d1, d2, d3, d4] }
  | _ => none }
def trailTurnsRow : OpenClaim := { program := "ythekbbgpmiogdaa", sum := "f7c8dfe6238e92a10bacc4a40a39208f4a0d0b63026c2e413027a8ecb66d1b49", func := "copyist/copyistlaw34.TrailTurns", spec := "trailTurns", apart := false }
def TrailTurnsSaid : Prop := trailTurnsRow.holds Try.pinned (OpenSpec.ofChange trailTurnsSpec)

/-- ITS FALSE NEIGHBOUR: 'it returns false'. Refute it at one input. -/
def trailTurnsWrong : ChangeSpec := { name := "trailTurns", fn := fun _ => fun
  | [d1, d2, d3, d4] => { results := [.lit (.bool false)], args := [d1, d2, d3, d4] }
  | _ => none }
def TrailTurnsWrongFalsely : Prop := trailTurnsRow.holds Try.pinned (OpenSpec.ofChange trailTurnsWrong)

/- THE SECOND FORM. 'bulk': how many values and letters a reading holds, each counted each time it is reached (what is shared counts as often as it is met; a slice's spare places count too). A statement '..UptoSaid' is the law's where the arguments, and the package variables that the reading takes, are together of bulk at most 1048576: NARROWER than '..Said'. Prove '..Said' where nothing that the law and all that it calls make is longer than what came in: it says more and counts as full. Else prove '..UptoSaid'. A law counts once. -/
mutual
def uptoBulk {H : Type} : DataW H → Nat
  | .lit (.string bytes) => bytes.length + 1
  | .lit _ => 1
  | .nil => 1
  | .ptr d => uptoBulk d + 1
  | .slice elems spare => uptoBulkAll elems + uptoBulkAll spare + 1
  | .agg parts => uptoBulkAll parts + 1
  | .iface _ d => uptoBulk d + 1
  | .map entries => uptoBulkEntries entries + 1
  | .held _ => 1
def uptoBulkAll {H : Type} : List (DataW H) → Nat
  | [] => 0
  | d :: r => uptoBulk d + uptoBulkAll r
def uptoBulkEntries {H : Type} : List (Lit × DataW H) → Nat
  | [] => 0
  | x :: r => uptoBulkEntry x + uptoBulkEntries r
def uptoBulkEntry {H : Type} : Lit × DataW H → Nat
  | (.string bytes, d) => bytes.length + uptoBulk d + 1
  | (_, d) => uptoBulk d + 1
 end
def uptoSmall : (H : Type) → List (DataW H) → Bool := fun _ ds => decide (uptoBulkAll ds ≤ 1048576)
def OpenSpec.upto (s : _root_.Go.ChangeSpec) : _root_.Go.OpenSpec := { _root_.Go.OpenSpec.ofChange s with cond := some uptoSmall }

/-- 'copyistlaw04.WalkJoins', WHERE WHAT IT READS IS OF BULK AT MOST 1048576: true; the input reads as it did. -/
def walkJoinsUptoRow : OpenClaim := { program := "ythekbbgpmiogdaa", sum := "f7c8dfe6238e92a10bacc4a40a39208f4a0d0b63026c2e413027a8ecb66d1b49", func := "copyist/copyistlaw04.WalkJoins", spec := "walkJoins", apart := false, narrowed := true }
def WalkJoinsUptoSaid : Prop := walkJoinsUptoRow.holds Try.pinned (OpenSpec.upto walkJoinsSpec)

/-- 'copyistlaw34.TrailJoins', WHERE WHAT IT READS IS OF BULK AT MOST 1048576: true; the input reads as it did. -/
def trailJoinsUptoRow : OpenClaim := { program := "ythekbbgpmiogdaa", sum := "f7c8dfe6238e92a10bacc4a40a39208f4a0d0b63026c2e413027a8ecb66d1b49", func := "copyist/copyistlaw34.TrailJoins", spec := "trailJoins", apart := false, narrowed := true }
def TrailJoinsUptoSaid : Prop := trailJoinsUptoRow.holds Try.pinned (OpenSpec.upto trailJoinsSpec)

/-- 'copyistlaw34.TrailFour', WHERE WHAT IT READS IS OF BULK AT MOST 1048576: true; the input reads as it did. -/
def trailFourUptoRow : OpenClaim := { program := "ythekbbgpmiogdaa", sum := "f7c8dfe6238e92a10bacc4a40a39208f4a0d0b63026c2e413027a8ecb66d1b49", func := "copyist/copyistlaw34.TrailFour", spec := "trailFour", apart := false, narrowed := true }
def TrailFourUptoSaid : Prop := trailFourUptoRow.holds Try.pinned (OpenSpec.upto trailFourSpec)

/-- 'copyistlaw34.TrailTurns', WHERE WHAT IT READS IS OF BULK AT MOST 1048576: true; the input reads as it did. -/
def trailTurnsUptoRow : OpenClaim := { program := "ythekbbgpmiogdaa", sum := "f7c8dfe6238e92a10bacc4a40a39208f4a0d0b63026c2e413027a8ecb66d1b49", func := "copyist/copyistlaw34.TrailTurns", spec := "trailTurns", apart := false, narrowed := true }
def TrailTurnsUptoSaid : Prop := trailTurnsUptoRow.holds Try.pinned (OpenSpec.upto trailTurnsSpec)

end Rows
end Go.Proofs.Ythekbbgpmiogdaa
