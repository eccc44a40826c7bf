/- package op: writing an operation. -/
import Derived.Test.YtclhjcbnpdlgbaaDoorLXBO1
namespace Go.Proofs.YtclhjcbnpdlgbaaDoor
open Go Go.Lift
set_option maxHeartbeats 8000000
set_option linter.unusedSimpArgs false
set_option linter.unusedVariables false
attribute [local irreducible] WK IL IP IG IW DW

def opB (k r n m : Nat) (t : List UInt8) (s : List Sp) (q : Nat) : List UInt8 :=
  if k = 1 then numB k ++ numB r ++ numB n ++ numB m ++ numB t.length ++ t
  else if k = 2 then numB k ++ numB s.length ++ spsB s
  else if k = 3 then numB k ++ numB r ++ numB n ++ numB m ++ numB s.length ++ spsB s
  else numB k ++ numB q
end Go.Proofs.YtclhjcbnpdlgbaaDoor
