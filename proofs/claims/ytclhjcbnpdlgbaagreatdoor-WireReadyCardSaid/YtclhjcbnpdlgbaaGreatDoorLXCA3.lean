import Derived.Test.YtclhjcbnpdlgbaaGreatDoorProg
import Derived.RangeFuncNested
import Derived.RangeFuncBound
import Derived.RangeFuncCalls
import Derived.RangeFuncLeaves
import Derived.RangeFuncBox
import Derived.Shelf.Abstract
import Derived.Shelf.RegionOpen
import Derived.WalkKit
import Derived.OwnWalkIn
import Derived.TacticsInMore
import Derived.LoopNIn
import Derived.LoopIn
import Derived.Maps.AppendAt
import Derived.Deep.QuietTactic
import Derived.Shelf.RegionOpenPlain
import Derived.Deep.LoopGhost
import Derived.Lib.Walk
import Derived.LoopTactic
import Derived.Shelf.Spec.SlicesInsert
import Derived.Sort.Grow
import Derived.Shelf.SlSortCmp.WholeK
import Derived.Test.YtclhjcbnpdlgbaaGreatDoorLA3
import Derived.Test.YtclhjcbnpdlgbaaGreatDoorLA2
set_option linter.unusedVariables false
set_option linter.unusedSimpArgs false
/- PRINTED BY wip/tools/mktt.py: what the evaluator knows of the types of the program YtclhjcbnpdlgbaaGreatDoor. -/
namespace Go.Proofs.YtclhjcbnpdlgbaaGreatDoor
open Go Go.Lift
set_option maxRecDepth 20000

def TT : TTab := fun t => match t with
  | 2 => some ⟨(some .i64), none, 1, 8, false, true, [.v (.int .i64 0)], .oth⟩
  | 3 => some ⟨(some .i64), none, 1, 8, false, true, [.v (.int .i64 0)], .oth⟩
  | 4 => some ⟨none, none, 1, 1, false, true, [.v (.bool false)], .bool⟩
  | 5 => some ⟨(some .u8), none, 1, 1, false, true, [.v (.int .u8 0)], .oth⟩
  | 9 => some ⟨none, none, 1, 16, false, true, [.v (.string ⟨#[]⟩)], .str⟩
  | 12 => some ⟨(some .u64), none, 1, 8, false, true, [.v (.int .u64 0)], .oth⟩
  | 21 => some ⟨(some .i32), none, 1, 4, false, true, [.v (.int .i32 0)], .oth⟩
  | 22 => some ⟨none, none, 1, 24, false, false, [.row 88], (.slice 88)⟩
  | 23 => some ⟨none, none, 1, 24, false, false, [.row 88], (.slice 88)⟩
  | 24 => some ⟨(some .u16), none, 1, 2, false, true, [.v (.int .u16 0)], .oth⟩
  | 25 => some ⟨(some .u32), none, 1, 4, false, true, [.v (.int .u32 0)], .oth⟩
  | 26 => some ⟨(some .u64), none, 1, 8, false, true, [.v (.int .u64 0)], .oth⟩
  | 27 => some ⟨none, none, 1, 24, false, false, [.row 79], (.slice 79)⟩
  | 28 => some ⟨none, none, 5, 48, true, false, [.v (.int .u16 0), .v (.int .u32 0), .v (.int .u64 0), .v (.int .i64 0), .row 79], (.struct [(0, 24), (1, 25), (2, 26), (3, 3), (4, 27)])⟩
  | 29 => some ⟨none, none, 5, 48, true, false, [.v (.int .u16 0), .v (.int .u32 0), .v (.int .u64 0), .v (.int .i64 0), .row 79], (.struct [(0, 24), (1, 25), (2, 26), (3, 3), (4, 27)])⟩
  | 30 => some ⟨none, none, 6, 72, true, false, [.row 88, .v (.int .u16 0), .v (.int .u32 0), .v (.int .u64 0), .v (.int .i64 0), .row 79], (.struct [(0, 23), (1, 29)])⟩
  | 31 => some ⟨none, none, 6, 72, true, false, [.row 88, .v (.int .u16 0), .v (.int .u32 0), .v (.int .u64 0), .v (.int .i64 0), .row 79], (.struct [(0, 23), (1, 29)])⟩
  | 34 => some ⟨none, none, 1, 24, false, false, [.row 102], (.slice 102)⟩
  | 35 => some ⟨none, none, 1, 24, false, false, [.row 71], (.slice 71)⟩
  | 36 => some ⟨none, none, 5, 48, true, false, [.v (.int .u16 0), .v (.int .u32 0), .v (.int .u64 0), .v (.int .i64 0), .row 71], (.struct [(0, 24), (1, 25), (2, 26), (3, 3), (4, 35)])⟩
  | 37 => some ⟨none, none, 5, 48, true, false, [.v (.int .u16 0), .v (.int .u32 0), .v (.int .u64 0), .v (.int .i64 0), .row 71], (.struct [(0, 24), (1, 25), (2, 26), (3, 3), (4, 35)])⟩
  | 38 => some ⟨none, none, 6, 72, true, false, [.row 102, .v (.int .u16 0), .v (.int .u32 0), .v (.int .u64 0), .v (.int .i64 0), .row 71], (.struct [(0, 34), (1, 37)])⟩
  | 39 => some ⟨none, none, 6, 72, true, false, [.row 102, .v (.int .u16 0), .v (.int .u32 0), .v (.int .u64 0), .v (.int .i64 0), .row 71], (.struct [(0, 34), (1, 37)])⟩
  | 42 => some ⟨none, none, 1, 24, false, false, [.row 5], (.slice 5)⟩
  | 43 => some ⟨(some .i64), none, 1, 8, false, true, [.v (.int .i64 0)], .oth⟩
  | 54 => some ⟨(some .u64), none, 1, 8, false, true, [.v (.int .u64 0)], .oth⟩
  | 58 => some ⟨none, none, 1, 24, false, false, [.row 66], (.slice 66)⟩
  | 60 => some ⟨none, none, 1, 24, false, false, [.row 65], (.slice 65)⟩
  | 64 => some ⟨none, (some [.int .u16, .int .u32, .int .u32]), 3, 12, true, true, [.v (.int .u16 0), .v (.int .u32 0), .v (.int .u32 0)], (.struct [(0, 24), (1, 25), (2, 25)])⟩
  | 65 => some ⟨none, (some [.int .u16, .int .u32, .int .u32]), 3, 12, true, true, [.v (.int .u16 0), .v (.int .u32 0), .v (.int .u32 0)], (.struct [(0, 24), (1, 25), (2, 25)])⟩
  | 66 => some ⟨none, (some [.int .u16, .int .u32, .int .u32]), 3, 12, true, true, [.v (.int .u16 0), .v (.int .u32 0), .v (.int .u32 0)], (.struct [(0, 24), (1, 25), (2, 25)])⟩
  | 67 => some ⟨none, (some [.int .u16, .int .u32]), 2, 8, true, true, [.v (.int .u16 0), .v (.int .u32 0)], (.struct [(0, 24), (1, 25)])⟩
  | 68 => some ⟨none, (some [.int .u16, .int .u32]), 2, 8, true, true, [.v (.int .u16 0), .v (.int .u32 0)], (.struct [(0, 24), (1, 25)])⟩
  | 69 => some ⟨none, none, 1, 24, false, false, [.row 133], (.slice 133)⟩
  | 70 => some ⟨none, none, 7, 72, true, false, [.v (.int .i64 0), .v (.int .u16 0), .v (.int .u32 0), .v (.int .u32 0), .v (.string ⟨#[]⟩), .row 133, .v (.int .u32 0)], (.struct [(0, 3), (1, 68), (3, 25), (4, 9), (5, 69), (6, 25)])⟩
  | 71 => some ⟨none, none, 7, 72, true, false, [.v (.int .i64 0), .v (.int .u16 0), .v (.int .u32 0), .v (.int .u32 0), .v (.string ⟨#[]⟩), .row 133, .v (.int .u32 0)], (.struct [(0, 3), (1, 68), (3, 25), (4, 9), (5, 69), (6, 25)])⟩
  | 73 => some ⟨none, (some [.int .u16, .int .u32]), 2, 8, true, true, [.v (.int .u16 0), .v (.int .u32 0)], (.struct [(0, 24), (1, 25)])⟩
  | 77 => some ⟨none, none, 1, 24, false, false, [.row 156], (.slice 156)⟩
  | 78 => some ⟨none, none, 7, 72, true, false, [.v (.int .i64 0), .v (.int .u16 0), .v (.int .u32 0), .v (.int .u32 0), .v (.string ⟨#[]⟩), .row 156, .v (.int .u32 0)], (.struct [(0, 3), (1, 73), (3, 25), (4, 9), (5, 77), (6, 25)])⟩
  | 79 => some ⟨none, none, 7, 72, true, false, [.v (.int .i64 0), .v (.int .u16 0), .v (.int .u32 0), .v (.int .u32 0), .v (.string ⟨#[]⟩), .row 156, .v (.int .u32 0)], (.struct [(0, 3), (1, 73), (3, 25), (4, 9), (5, 77), (6, 25)])⟩
  | 84 => some ⟨none, none, 1, 24, true, false, [.row 5], (.struct [(0, 42)])⟩
  | 85 => some ⟨none, none, 1, 24, true, false, [.row 5], (.struct [(0, 42)])⟩
  | 87 => some ⟨none, (some [.int .u16, .int .u32]), 2, 8, true, true, [.v (.int .u16 0), .v (.int .u32 0)], (.struct [(0, 24), (1, 25)])⟩
  | 88 => some ⟨none, (some [.int .u16, .int .u32]), 2, 8, true, true, [.v (.int .u16 0), .v (.int .u32 0)], (.struct [(0, 24), (1, 25)])⟩
  | 90 => some ⟨none, none, 1, 8, false, false, [.v (.pointer none)], .oth⟩
  | 96 => some ⟨none, none, 1, 8, false, false, [.v (.pointer none)], .oth⟩
  | 102 => some ⟨none, (some [.int .u16, .int .u32]), 2, 8, true, true, [.v (.int .u16 0), .v (.int .u32 0)], (.struct [(0, 24), (1, 25)])⟩
  | 109 => some ⟨none, none, 1, 24, false, false, [.row 68], (.slice 68)⟩
  | 118 => some ⟨none, (some [.str, .int .i64, .int .i64]), 3, 32, true, true, [.v (.string ⟨#[]⟩), .v (.int .i64 0), .v (.int .i64 0)], (.struct [(0, 9), (1, 3), (2, 43)])⟩
  | 119 => some ⟨none, (some [.str, .int .i64, .int .i64]), 3, 32, true, true, [.v (.string ⟨#[]⟩), .v (.int .i64 0), .v (.int .i64 0)], (.struct [(0, 9), (1, 3), (2, 43)])⟩
  | 132 => some ⟨none, (some [.int .u16, .int .u32, .int .i64]), 3, 16, true, true, [.v (.int .u16 0), .v (.int .u32 0), .v (.int .i64 0)], (.struct [(0, 68), (2, 3)])⟩
  | 133 => some ⟨none, (some [.int .u16, .int .u32, .int .i64]), 3, 16, true, true, [.v (.int .u16 0), .v (.int .u32 0), .v (.int .i64 0)], (.struct [(0, 68), (2, 3)])⟩
  | 141 => some ⟨none, none, 1, 24, false, false, [.row 42], (.slice 42)⟩
  | 150 => some ⟨none, none, 5, 40, true, true, [.v (.int .u64 0), .v (.int .u64 0), .v (.int .u64 0), .v (.int .u64 0), .v (.int .u64 0)], (.arr 5 26)⟩
  | 155 => some ⟨none, (some [.int .u16, .int .u32, .int .i64]), 3, 16, true, true, [.v (.int .u16 0), .v (.int .u32 0), .v (.int .i64 0)], (.struct [(0, 73), (2, 3)])⟩
  | 156 => some ⟨none, (some [.int .u16, .int .u32, .int .i64]), 3, 16, true, true, [.v (.int .u16 0), .v (.int .u32 0), .v (.int .i64 0)], (.struct [(0, 73), (2, 3)])⟩
  | 160 => some ⟨none, none, 3, 24, true, true, [.v (.int .u64 0), .v (.int .u64 0), .v (.int .u64 0)], (.arr 3 26)⟩
  | 184 => some ⟨none, none, 1, 24, false, false, [.row 3], (.slice 3)⟩
  | 188 => some ⟨(some .i64), none, 1, 8, false, true, [.v (.int .i64 0)], .oth⟩
  | 196 => some ⟨(some .u64), none, 1, 8, false, true, [.v (.int .u64 0)], .oth⟩
  | 200 => some ⟨none, none, 1, 8, false, false, [.v (.pointer none)], .oth⟩
  | 202 => some ⟨none, none, 1, 8, false, false, [.v (.pointer none)], .oth⟩
  | 214 => some ⟨none, none, 1, 8, false, false, [.v (.pointer none)], .oth⟩
  | _ => none

@[go_sem] theorem TTe2 : TT 2 = some ⟨(some .i64), none, 1, 8, false, true, [.v (.int .i64 0)], .oth⟩ := rfl
@[go_sem] theorem TTe3 : TT 3 = some ⟨(some .i64), none, 1, 8, false, true, [.v (.int .i64 0)], .oth⟩ := rfl
@[go_sem] theorem TTe4 : TT 4 = some ⟨none, none, 1, 1, false, true, [.v (.bool false)], .bool⟩ := rfl
@[go_sem] theorem TTe5 : TT 5 = some ⟨(some .u8), none, 1, 1, false, true, [.v (.int .u8 0)], .oth⟩ := rfl
@[go_sem] theorem TTe9 : TT 9 = some ⟨none, none, 1, 16, false, true, [.v (.string ⟨#[]⟩)], .str⟩ := rfl
@[go_sem] theorem TTe12 : TT 12 = some ⟨(some .u64), none, 1, 8, false, true, [.v (.int .u64 0)], .oth⟩ := rfl
@[go_sem] theorem TTe21 : TT 21 = some ⟨(some .i32), none, 1, 4, false, true, [.v (.int .i32 0)], .oth⟩ := rfl
@[go_sem] theorem TTe22 : TT 22 = some ⟨none, none, 1, 24, false, false, [.row 88], (.slice 88)⟩ := rfl
@[go_sem] theorem TTe23 : TT 23 = some ⟨none, none, 1, 24, false, false, [.row 88], (.slice 88)⟩ := rfl
@[go_sem] theorem TTe24 : TT 24 = some ⟨(some .u16), none, 1, 2, false, true, [.v (.int .u16 0)], .oth⟩ := rfl
@[go_sem] theorem TTe25 : TT 25 = some ⟨(some .u32), none, 1, 4, false, true, [.v (.int .u32 0)], .oth⟩ := rfl
@[go_sem] theorem TTe26 : TT 26 = some ⟨(some .u64), none, 1, 8, false, true, [.v (.int .u64 0)], .oth⟩ := rfl
@[go_sem] theorem TTe27 : TT 27 = some ⟨none, none, 1, 24, false, false, [.row 79], (.slice 79)⟩ := rfl
@[go_sem] theorem TTe28 : TT 28 = some ⟨none, none, 5, 48, true, false, [.v (.int .u16 0), .v (.int .u32 0), .v (.int .u64 0), .v (.int .i64 0), .row 79], (.struct [(0, 24), (1, 25), (2, 26), (3, 3), (4, 27)])⟩ := rfl
@[go_sem] theorem TTe29 : TT 29 = some ⟨none, none, 5, 48, true, false, [.v (.int .u16 0), .v (.int .u32 0), .v (.int .u64 0), .v (.int .i64 0), .row 79], (.struct [(0, 24), (1, 25), (2, 26), (3, 3), (4, 27)])⟩ := rfl
@[go_sem] theorem TTe30 : TT 30 = some ⟨none, none, 6, 72, true, false, [.row 88, .v (.int .u16 0), .v (.int .u32 0), .v (.int .u64 0), .v (.int .i64 0), .row 79], (.struct [(0, 23), (1, 29)])⟩ := rfl
@[go_sem] theorem TTe31 : TT 31 = some ⟨none, none, 6, 72, true, false, [.row 88, .v (.int .u16 0), .v (.int .u32 0), .v (.int .u64 0), .v (.int .i64 0), .row 79], (.struct [(0, 23), (1, 29)])⟩ := rfl
@[go_sem] theorem TTe34 : TT 34 = some ⟨none, none, 1, 24, false, false, [.row 102], (.slice 102)⟩ := rfl
@[go_sem] theorem TTe35 : TT 35 = some ⟨none, none, 1, 24, false, false, [.row 71], (.slice 71)⟩ := rfl
@[go_sem] theorem TTe36 : TT 36 = some ⟨none, none, 5, 48, true, false, [.v (.int .u16 0), .v (.int .u32 0), .v (.int .u64 0), .v (.int .i64 0), .row 71], (.struct [(0, 24), (1, 25), (2, 26), (3, 3), (4, 35)])⟩ := rfl
@[go_sem] theorem TTe37 : TT 37 = some ⟨none, none, 5, 48, true, false, [.v (.int .u16 0), .v (.int .u32 0), .v (.int .u64 0), .v (.int .i64 0), .row 71], (.struct [(0, 24), (1, 25), (2, 26), (3, 3), (4, 35)])⟩ := rfl
@[go_sem] theorem TTe38 : TT 38 = some ⟨none, none, 6, 72, true, false, [.row 102, .v (.int .u16 0), .v (.int .u32 0), .v (.int .u64 0), .v (.int .i64 0), .row 71], (.struct [(0, 34), (1, 37)])⟩ := rfl
@[go_sem] theorem TTe39 : TT 39 = some ⟨none, none, 6, 72, true, false, [.row 102, .v (.int .u16 0), .v (.int .u32 0), .v (.int .u64 0), .v (.int .i64 0), .row 71], (.struct [(0, 34), (1, 37)])⟩ := rfl
@[go_sem] theorem TTe42 : TT 42 = some ⟨none, none, 1, 24, false, false, [.row 5], (.slice 5)⟩ := rfl
@[go_sem] theorem TTe43 : TT 43 = some ⟨(some .i64), none, 1, 8, false, true, [.v (.int .i64 0)], .oth⟩ := rfl
@[go_sem] theorem TTe54 : TT 54 = some ⟨(some .u64), none, 1, 8, false, true, [.v (.int .u64 0)], .oth⟩ := rfl
@[go_sem] theorem TTe58 : TT 58 = some ⟨none, none, 1, 24, false, false, [.row 66], (.slice 66)⟩ := rfl
@[go_sem] theorem TTe60 : TT 60 = some ⟨none, none, 1, 24, false, false, [.row 65], (.slice 65)⟩ := rfl
@[go_sem] theorem TTe64 : TT 64 = some ⟨none, (some [.int .u16, .int .u32, .int .u32]), 3, 12, true, true, [.v (.int .u16 0), .v (.int .u32 0), .v (.int .u32 0)], (.struct [(0, 24), (1, 25), (2, 25)])⟩ := rfl
@[go_sem] theorem TTe65 : TT 65 = some ⟨none, (some [.int .u16, .int .u32, .int .u32]), 3, 12, true, true, [.v (.int .u16 0), .v (.int .u32 0), .v (.int .u32 0)], (.struct [(0, 24), (1, 25), (2, 25)])⟩ := rfl
@[go_sem] theorem TTe66 : TT 66 = some ⟨none, (some [.int .u16, .int .u32, .int .u32]), 3, 12, true, true, [.v (.int .u16 0), .v (.int .u32 0), .v (.int .u32 0)], (.struct [(0, 24), (1, 25), (2, 25)])⟩ := rfl
@[go_sem] theorem TTe67 : TT 67 = some ⟨none, (some [.int .u16, .int .u32]), 2, 8, true, true, [.v (.int .u16 0), .v (.int .u32 0)], (.struct [(0, 24), (1, 25)])⟩ := rfl
@[go_sem] theorem TTe68 : TT 68 = some ⟨none, (some [.int .u16, .int .u32]), 2, 8, true, true, [.v (.int .u16 0), .v (.int .u32 0)], (.struct [(0, 24), (1, 25)])⟩ := rfl
@[go_sem] theorem TTe69 : TT 69 = some ⟨none, none, 1, 24, false, false, [.row 133], (.slice 133)⟩ := rfl
@[go_sem] theorem TTe70 : TT 70 = some ⟨none, none, 7, 72, true, false, [.v (.int .i64 0), .v (.int .u16 0), .v (.int .u32 0), .v (.int .u32 0), .v (.string ⟨#[]⟩), .row 133, .v (.int .u32 0)], (.struct [(0, 3), (1, 68), (3, 25), (4, 9), (5, 69), (6, 25)])⟩ := rfl
@[go_sem] theorem TTe71 : TT 71 = some ⟨none, none, 7, 72, true, false, [.v (.int .i64 0), .v (.int .u16 0), .v (.int .u32 0), .v (.int .u32 0), .v (.string ⟨#[]⟩), .row 133, .v (.int .u32 0)], (.struct [(0, 3), (1, 68), (3, 25), (4, 9), (5, 69), (6, 25)])⟩ := rfl
@[go_sem] theorem TTe73 : TT 73 = some ⟨none, (some [.int .u16, .int .u32]), 2, 8, true, true, [.v (.int .u16 0), .v (.int .u32 0)], (.struct [(0, 24), (1, 25)])⟩ := rfl
@[go_sem] theorem TTe77 : TT 77 = some ⟨none, none, 1, 24, false, false, [.row 156], (.slice 156)⟩ := rfl
@[go_sem] theorem TTe78 : TT 78 = some ⟨none, none, 7, 72, true, false, [.v (.int .i64 0), .v (.int .u16 0), .v (.int .u32 0), .v (.int .u32 0), .v (.string ⟨#[]⟩), .row 156, .v (.int .u32 0)], (.struct [(0, 3), (1, 73), (3, 25), (4, 9), (5, 77), (6, 25)])⟩ := rfl
@[go_sem] theorem TTe79 : TT 79 = some ⟨none, none, 7, 72, true, false, [.v (.int .i64 0), .v (.int .u16 0), .v (.int .u32 0), .v (.int .u32 0), .v (.string ⟨#[]⟩), .row 156, .v (.int .u32 0)], (.struct [(0, 3), (1, 73), (3, 25), (4, 9), (5, 77), (6, 25)])⟩ := rfl
@[go_sem] theorem TTe84 : TT 84 = some ⟨none, none, 1, 24, true, false, [.row 5], (.struct [(0, 42)])⟩ := rfl
@[go_sem] theorem TTe85 : TT 85 = some ⟨none, none, 1, 24, true, false, [.row 5], (.struct [(0, 42)])⟩ := rfl
@[go_sem] theorem TTe87 : TT 87 = some ⟨none, (some [.int .u16, .int .u32]), 2, 8, true, true, [.v (.int .u16 0), .v (.int .u32 0)], (.struct [(0, 24), (1, 25)])⟩ := rfl
@[go_sem] theorem TTe88 : TT 88 = some ⟨none, (some [.int .u16, .int .u32]), 2, 8, true, true, [.v (.int .u16 0), .v (.int .u32 0)], (.struct [(0, 24), (1, 25)])⟩ := rfl
@[go_sem] theorem TTe90 : TT 90 = some ⟨none, none, 1, 8, false, false, [.v (.pointer none)], .oth⟩ := rfl
@[go_sem] theorem TTe96 : TT 96 = some ⟨none, none, 1, 8, false, false, [.v (.pointer none)], .oth⟩ := rfl
@[go_sem] theorem TTe102 : TT 102 = some ⟨none, (some [.int .u16, .int .u32]), 2, 8, true, true, [.v (.int .u16 0), .v (.int .u32 0)], (.struct [(0, 24), (1, 25)])⟩ := rfl
@[go_sem] theorem TTe109 : TT 109 = some ⟨none, none, 1, 24, false, false, [.row 68], (.slice 68)⟩ := rfl
@[go_sem] theorem TTe118 : TT 118 = some ⟨none, (some [.str, .int .i64, .int .i64]), 3, 32, true, true, [.v (.string ⟨#[]⟩), .v (.int .i64 0), .v (.int .i64 0)], (.struct [(0, 9), (1, 3), (2, 43)])⟩ := rfl
@[go_sem] theorem TTe119 : TT 119 = some ⟨none, (some [.str, .int .i64, .int .i64]), 3, 32, true, true, [.v (.string ⟨#[]⟩), .v (.int .i64 0), .v (.int .i64 0)], (.struct [(0, 9), (1, 3), (2, 43)])⟩ := rfl
@[go_sem] theorem TTe132 : TT 132 = some ⟨none, (some [.int .u16, .int .u32, .int .i64]), 3, 16, true, true, [.v (.int .u16 0), .v (.int .u32 0), .v (.int .i64 0)], (.struct [(0, 68), (2, 3)])⟩ := rfl
@[go_sem] theorem TTe133 : TT 133 = some ⟨none, (some [.int .u16, .int .u32, .int .i64]), 3, 16, true, true, [.v (.int .u16 0), .v (.int .u32 0), .v (.int .i64 0)], (.struct [(0, 68), (2, 3)])⟩ := rfl
@[go_sem] theorem TTe141 : TT 141 = some ⟨none, none, 1, 24, false, false, [.row 42], (.slice 42)⟩ := rfl
@[go_sem] theorem TTe150 : TT 150 = some ⟨none, none, 5, 40, true, true, [.v (.int .u64 0), .v (.int .u64 0), .v (.int .u64 0), .v (.int .u64 0), .v (.int .u64 0)], (.arr 5 26)⟩ := rfl
@[go_sem] theorem TTe155 : TT 155 = some ⟨none, (some [.int .u16, .int .u32, .int .i64]), 3, 16, true, true, [.v (.int .u16 0), .v (.int .u32 0), .v (.int .i64 0)], (.struct [(0, 73), (2, 3)])⟩ := rfl
@[go_sem] theorem TTe156 : TT 156 = some ⟨none, (some [.int .u16, .int .u32, .int .i64]), 3, 16, true, true, [.v (.int .u16 0), .v (.int .u32 0), .v (.int .i64 0)], (.struct [(0, 73), (2, 3)])⟩ := rfl
@[go_sem] theorem TTe160 : TT 160 = some ⟨none, none, 3, 24, true, true, [.v (.int .u64 0), .v (.int .u64 0), .v (.int .u64 0)], (.arr 3 26)⟩ := rfl
@[go_sem] theorem TTe184 : TT 184 = some ⟨none, none, 1, 24, false, false, [.row 3], (.slice 3)⟩ := rfl
@[go_sem] theorem TTe188 : TT 188 = some ⟨(some .i64), none, 1, 8, false, true, [.v (.int .i64 0)], .oth⟩ := rfl
@[go_sem] theorem TTe196 : TT 196 = some ⟨(some .u64), none, 1, 8, false, true, [.v (.int .u64 0)], .oth⟩ := rfl
@[go_sem] theorem TTe200 : TT 200 = some ⟨none, none, 1, 8, false, false, [.v (.pointer none)], .oth⟩ := rfl
@[go_sem] theorem TTe202 : TT 202 = some ⟨none, none, 1, 8, false, false, [.v (.pointer none)], .oth⟩ := rfl
@[go_sem] theorem TTe214 : TT 214 = some ⟨none, none, 1, 8, false, false, [.v (.pointer none)], .oth⟩ := rfl
theorem tt2 : TIok Tryz.prog 2 ⟨(some .i64), none, 1, 8, false, true, [.v (.int .i64 0)], .oth⟩ :=
  TIok.mk' (z := ((.int .i64 0))) (by kernel_rfl) (by simp [zOk, Value.cells, Value.oneCell']) rfl (by decide) Tryz.underlying2 trivial rfl (fun k h => by cases h; exact Tryz.underlying2) (fun ks h => by cases h)
theorem tt3 : TIok Tryz.prog 3 ⟨(some .i64), none, 1, 8, false, true, [.v (.int .i64 0)], .oth⟩ :=
  TIok.mk' (z := ((.int .i64 0))) (by kernel_rfl) (by simp [zOk, Value.cells, Value.oneCell']) rfl (by decide) Tryz.underlying3 trivial rfl (fun k h => by cases h; exact Tryz.underlying3) (fun ks h => by cases h)
theorem tt4 : TIok Tryz.prog 4 ⟨none, none, 1, 1, false, true, [.v (.bool false)], .bool⟩ :=
  TIok.mk' (z := ((.bool false))) (by kernel_rfl) (by simp [zOk, Value.cells, Value.oneCell']) rfl (by decide) Tryz.underlying4 rfl rfl (fun k h => by cases h) (fun ks h => by cases h)
theorem tt5 : TIok Tryz.prog 5 ⟨(some .u8), none, 1, 1, false, true, [.v (.int .u8 0)], .oth⟩ :=
  TIok.mk' (z := ((.int .u8 0))) (by kernel_rfl) (by simp [zOk, Value.cells, Value.oneCell']) rfl (by decide) Tryz.underlying5 trivial rfl (fun k h => by cases h; exact Tryz.underlying5) (fun ks h => by cases h)
theorem tt9 : TIok Tryz.prog 9 ⟨none, none, 1, 16, false, true, [.v (.string ⟨#[]⟩)], .str⟩ :=
  TIok.mk' (z := ((.string ⟨#[]⟩))) (by kernel_rfl) (by simp [zOk, Value.cells, Value.oneCell']) rfl (by decide) Tryz.underlying9 rfl rfl (fun k h => by cases h) (fun ks h => by cases h)
theorem tt12 : TIok Tryz.prog 12 ⟨(some .u64), none, 1, 8, false, true, [.v (.int .u64 0)], .oth⟩ :=
  TIok.mk' (z := ((.int .u64 0))) (by kernel_rfl) (by simp [zOk, Value.cells, Value.oneCell']) rfl (by decide) Tryz.underlying12 trivial rfl (fun k h => by cases h; exact Tryz.underlying12) (fun ks h => by cases h)
theorem tt21 : TIok Tryz.prog 21 ⟨(some .i32), none, 1, 4, false, true, [.v (.int .i32 0)], .oth⟩ :=
  TIok.mk' (z := ((.int .i32 0))) (by kernel_rfl) (by simp [zOk, Value.cells, Value.oneCell']) rfl (by decide) Tryz.underlying21 trivial rfl (fun k h => by cases h; exact Tryz.underlying21) (fun ks h => by cases h)
theorem tt22 : TIok Tryz.prog 22 ⟨none, none, 1, 24, false, false, [.row 88], (.slice 88)⟩ :=
  TIok.mk' (z := ((.slice none 0 0))) (by kernel_rfl) (by simp [zOk, Value.cells, Value.oneCell']) rfl (by decide) Tryz.underlying22 rfl rfl (fun k h => by cases h) (fun ks h => by cases h)
theorem tt23 : TIok Tryz.prog 23 ⟨none, none, 1, 24, false, false, [.row 88], (.slice 88)⟩ :=
  TIok.mk' (z := ((.slice none 0 0))) (by kernel_rfl) (by simp [zOk, Value.cells, Value.oneCell']) rfl (by decide) Tryz.underlying23 rfl rfl (fun k h => by cases h) (fun ks h => by cases h)
theorem tt24 : TIok Tryz.prog 24 ⟨(some .u16), none, 1, 2, false, true, [.v (.int .u16 0)], .oth⟩ :=
  TIok.mk' (z := ((.int .u16 0))) (by kernel_rfl) (by simp [zOk, Value.cells, Value.oneCell']) rfl (by decide) Tryz.underlying24 trivial rfl (fun k h => by cases h; exact Tryz.underlying24) (fun ks h => by cases h)
theorem tt25 : TIok Tryz.prog 25 ⟨(some .u32), none, 1, 4, false, true, [.v (.int .u32 0)], .oth⟩ :=
  TIok.mk' (z := ((.int .u32 0))) (by kernel_rfl) (by simp [zOk, Value.cells, Value.oneCell']) rfl (by decide) Tryz.underlying25 trivial rfl (fun k h => by cases h; exact Tryz.underlying25) (fun ks h => by cases h)
theorem tt26 : TIok Tryz.prog 26 ⟨(some .u64), none, 1, 8, false, true, [.v (.int .u64 0)], .oth⟩ :=
  TIok.mk' (z := ((.int .u64 0))) (by kernel_rfl) (by simp [zOk, Value.cells, Value.oneCell']) rfl (by decide) Tryz.underlying26 trivial rfl (fun k h => by cases h; exact Tryz.underlying26) (fun ks h => by cases h)
theorem tt27 : TIok Tryz.prog 27 ⟨none, none, 1, 24, false, false, [.row 79], (.slice 79)⟩ :=
  TIok.mk' (z := ((.slice none 0 0))) (by kernel_rfl) (by simp [zOk, Value.cells, Value.oneCell']) rfl (by decide) Tryz.underlying27 rfl rfl (fun k h => by cases h) (fun ks h => by cases h)
theorem tt28 : TIok Tryz.prog 28 ⟨none, none, 5, 48, true, false, [.v (.int .u16 0), .v (.int .u32 0), .v (.int .u64 0), .v (.int .i64 0), .row 79], (.struct [(0, 24), (1, 25), (2, 26), (3, 3), (4, 27)])⟩ :=
  TIok.mk' (z := (.agg #[(.int .u16 0), (.int .u32 0), (.int .u64 0), (.int .i64 0), (.slice none 0 0)])) (by kernel_rfl) (by simp [zOk, Value.cells, Value.oneCell']) rfl (by decide) Tryz.underlying28 ⟨_, rfl, rfl⟩ rfl (fun k h => by cases h) (fun ks h => by cases h)
theorem tt29 : TIok Tryz.prog 29 ⟨none, none, 5, 48, true, false, [.v (.int .u16 0), .v (.int .u32 0), .v (.int .u64 0), .v (.int .i64 0), .row 79], (.struct [(0, 24), (1, 25), (2, 26), (3, 3), (4, 27)])⟩ :=
  TIok.mk' (z := (.agg #[(.int .u16 0), (.int .u32 0), (.int .u64 0), (.int .i64 0), (.slice none 0 0)])) (by kernel_rfl) (by simp [zOk, Value.cells, Value.oneCell']) rfl (by decide) Tryz.underlying29 ⟨_, rfl, rfl⟩ rfl (fun k h => by cases h) (fun ks h => by cases h)
theorem tt30 : TIok Tryz.prog 30 ⟨none, none, 6, 72, true, false, [.row 88, .v (.int .u16 0), .v (.int .u32 0), .v (.int .u64 0), .v (.int .i64 0), .row 79], (.struct [(0, 23), (1, 29)])⟩ :=
  TIok.mk' (z := (.agg #[(.slice none 0 0), (.int .u16 0), (.int .u32 0), (.int .u64 0), (.int .i64 0), (.slice none 0 0)])) (by kernel_rfl) (by simp [zOk, Value.cells, Value.oneCell']) rfl (by decide) Tryz.underlying30 ⟨_, rfl, rfl⟩ rfl (fun k h => by cases h) (fun ks h => by cases h)
theorem tt31 : TIok Tryz.prog 31 ⟨none, none, 6, 72, true, false, [.row 88, .v (.int .u16 0), .v (.int .u32 0), .v (.int .u64 0), .v (.int .i64 0), .row 79], (.struct [(0, 23), (1, 29)])⟩ :=
  TIok.mk' (z := (.agg #[(.slice none 0 0), (.int .u16 0), (.int .u32 0), (.int .u64 0), (.int .i64 0), (.slice none 0 0)])) (by kernel_rfl) (by simp [zOk, Value.cells, Value.oneCell']) rfl (by decide) Tryz.underlying31 ⟨_, rfl, rfl⟩ rfl (fun k h => by cases h) (fun ks h => by cases h)
theorem tt34 : TIok Tryz.prog 34 ⟨none, none, 1, 24, false, false, [.row 102], (.slice 102)⟩ :=
  TIok.mk' (z := ((.slice none 0 0))) (by kernel_rfl) (by simp [zOk, Value.cells, Value.oneCell']) rfl (by decide) Tryz.underlying34 rfl rfl (fun k h => by cases h) (fun ks h => by cases h)
theorem tt35 : TIok Tryz.prog 35 ⟨none, none, 1, 24, false, false, [.row 71], (.slice 71)⟩ :=
  TIok.mk' (z := ((.slice none 0 0))) (by kernel_rfl) (by simp [zOk, Value.cells, Value.oneCell']) rfl (by decide) Tryz.underlying35 rfl rfl (fun k h => by cases h) (fun ks h => by cases h)
theorem tt36 : TIok Tryz.prog 36 ⟨none, none, 5, 48, true, false, [.v (.int .u16 0), .v (.int .u32 0), .v (.int .u64 0), .v (.int .i64 0), .row 71], (.struct [(0, 24), (1, 25), (2, 26), (3, 3), (4, 35)])⟩ :=
  TIok.mk' (z := (.agg #[(.int .u16 0), (.int .u32 0), (.int .u64 0), (.int .i64 0), (.slice none 0 0)])) (by kernel_rfl) (by simp [zOk, Value.cells, Value.oneCell']) rfl (by decide) Tryz.underlying36 ⟨_, rfl, rfl⟩ rfl (fun k h => by cases h) (fun ks h => by cases h)
theorem tt37 : TIok Tryz.prog 37 ⟨none, none, 5, 48, true, false, [.v (.int .u16 0), .v (.int .u32 0), .v (.int .u64 0), .v (.int .i64 0), .row 71], (.struct [(0, 24), (1, 25), (2, 26), (3, 3), (4, 35)])⟩ :=
  TIok.mk' (z := (.agg #[(.int .u16 0), (.int .u32 0), (.int .u64 0), (.int .i64 0), (.slice none 0 0)])) (by kernel_rfl) (by simp [zOk, Value.cells, Value.oneCell']) rfl (by decide) Tryz.underlying37 ⟨_, rfl, rfl⟩ rfl (fun k h => by cases h) (fun ks h => by cases h)
theorem tt38 : TIok Tryz.prog 38 ⟨none, none, 6, 72, true, false, [.row 102, .v (.int .u16 0), .v (.int .u32 0), .v (.int .u64 0), .v (.int .i64 0), .row 71], (.struct [(0, 34), (1, 37)])⟩ :=
  TIok.mk' (z := (.agg #[(.slice none 0 0), (.int .u16 0), (.int .u32 0), (.int .u64 0), (.int .i64 0), (.slice none 0 0)])) (by kernel_rfl) (by simp [zOk, Value.cells, Value.oneCell']) rfl (by decide) Tryz.underlying38 ⟨_, rfl, rfl⟩ rfl (fun k h => by cases h) (fun ks h => by cases h)
theorem tt39 : TIok Tryz.prog 39 ⟨none, none, 6, 72, true, false, [.row 102, .v (.int .u16 0), .v (.int .u32 0), .v (.int .u64 0), .v (.int .i64 0), .row 71], (.struct [(0, 34), (1, 37)])⟩ :=
  TIok.mk' (z := (.agg #[(.slice none 0 0), (.int .u16 0), (.int .u32 0), (.int .u64 0), (.int .i64 0), (.slice none 0 0)])) (by kernel_rfl) (by simp [zOk, Value.cells, Value.oneCell']) rfl (by decide) Tryz.underlying39 ⟨_, rfl, rfl⟩ rfl (fun k h => by cases h) (fun ks h => by cases h)
theorem tt42 : TIok Tryz.prog 42 ⟨none, none, 1, 24, false, false, [.row 5], (.slice 5)⟩ :=
  TIok.mk' (z := ((.slice none 0 0))) (by kernel_rfl) (by simp [zOk, Value.cells, Value.oneCell']) rfl (by decide) Tryz.underlying42 rfl rfl (fun k h => by cases h) (fun ks h => by cases h)
theorem tt43 : TIok Tryz.prog 43 ⟨(some .i64), none, 1, 8, false, true, [.v (.int .i64 0)], .oth⟩ :=
  TIok.mk' (z := ((.int .i64 0))) (by kernel_rfl) (by simp [zOk, Value.cells, Value.oneCell']) rfl (by decide) Tryz.underlying43 trivial rfl (fun k h => by cases h; exact Tryz.underlying43) (fun ks h => by cases h)
theorem tt54 : TIok Tryz.prog 54 ⟨(some .u64), none, 1, 8, false, true, [.v (.int .u64 0)], .oth⟩ :=
  TIok.mk' (z := ((.int .u64 0))) (by kernel_rfl) (by simp [zOk, Value.cells, Value.oneCell']) rfl (by decide) Tryz.underlying54 trivial rfl (fun k h => by cases h; exact Tryz.underlying54) (fun ks h => by cases h)
theorem tt58 : TIok Tryz.prog 58 ⟨none, none, 1, 24, false, false, [.row 66], (.slice 66)⟩ :=
  TIok.mk' (z := ((.slice none 0 0))) (by kernel_rfl) (by simp [zOk, Value.cells, Value.oneCell']) rfl (by decide) Tryz.underlying58 rfl rfl (fun k h => by cases h) (fun ks h => by cases h)
theorem tt60 : TIok Tryz.prog 60 ⟨none, none, 1, 24, false, false, [.row 65], (.slice 65)⟩ :=
  TIok.mk' (z := ((.slice none 0 0))) (by kernel_rfl) (by simp [zOk, Value.cells, Value.oneCell']) rfl (by decide) Tryz.underlying60 rfl rfl (fun k h => by cases h) (fun ks h => by cases h)
theorem tt64_eq : EqTy Tryz.prog 2 64 [.int .u16, .int .u32, .int .u32] :=
  eqTy_struct Tryz.underlying64 (by kernel_rfl) (.one rfl rfl Tryz.underlying24 rfl (scEq_int 0 Tryz.underlying24) (.one rfl rfl Tryz.underlying25 rfl (scEq_int 0 Tryz.underlying25) (.one rfl rfl Tryz.underlying25 rfl (scEq_int 0 Tryz.underlying25) .nil)))
theorem tt64 : TIok Tryz.prog 64 ⟨none, (some [.int .u16, .int .u32, .int .u32]), 3, 12, true, true, [.v (.int .u16 0), .v (.int .u32 0), .v (.int .u32 0)], (.struct [(0, 24), (1, 25), (2, 25)])⟩ :=
  TIok.mk' (z := (.agg #[(.int .u16 0), (.int .u32 0), (.int .u32 0)])) (by kernel_rfl) (by simp [zOk, Value.cells, Value.oneCell']) rfl (by decide) Tryz.underlying64 ⟨_, rfl, rfl⟩ rfl (fun k h => by cases h) (eqk_flat (by kernel_rfl) (by decide) tt64_eq)
theorem tt65_eq : EqTy Tryz.prog 2 65 [.int .u16, .int .u32, .int .u32] :=
  eqTy_struct Tryz.underlying65 (by kernel_rfl) (.one rfl rfl Tryz.underlying24 rfl (scEq_int 0 Tryz.underlying24) (.one rfl rfl Tryz.underlying25 rfl (scEq_int 0 Tryz.underlying25) (.one rfl rfl Tryz.underlying25 rfl (scEq_int 0 Tryz.underlying25) .nil)))
theorem tt65 : TIok Tryz.prog 65 ⟨none, (some [.int .u16, .int .u32, .int .u32]), 3, 12, true, true, [.v (.int .u16 0), .v (.int .u32 0), .v (.int .u32 0)], (.struct [(0, 24), (1, 25), (2, 25)])⟩ :=
  TIok.mk' (z := (.agg #[(.int .u16 0), (.int .u32 0), (.int .u32 0)])) (by kernel_rfl) (by simp [zOk, Value.cells, Value.oneCell']) rfl (by decide) Tryz.underlying65 ⟨_, rfl, rfl⟩ rfl (fun k h => by cases h) (eqk_flat (by kernel_rfl) (by decide) tt65_eq)
theorem tt66_eq : EqTy Tryz.prog 2 66 [.int .u16, .int .u32, .int .u32] :=
  eqTy_struct Tryz.underlying66 (by kernel_rfl) (.one rfl rfl Tryz.underlying24 rfl (scEq_int 0 Tryz.underlying24) (.one rfl rfl Tryz.underlying25 rfl (scEq_int 0 Tryz.underlying25) (.one rfl rfl Tryz.underlying25 rfl (scEq_int 0 Tryz.underlying25) .nil)))
theorem tt66 : TIok Tryz.prog 66 ⟨none, (some [.int .u16, .int .u32, .int .u32]), 3, 12, true, true, [.v (.int .u16 0), .v (.int .u32 0), .v (.int .u32 0)], (.struct [(0, 24), (1, 25), (2, 25)])⟩ :=
  TIok.mk' (z := (.agg #[(.int .u16 0), (.int .u32 0), (.int .u32 0)])) (by kernel_rfl) (by simp [zOk, Value.cells, Value.oneCell']) rfl (by decide) Tryz.underlying66 ⟨_, rfl, rfl⟩ rfl (fun k h => by cases h) (eqk_flat (by kernel_rfl) (by decide) tt66_eq)
theorem tt67_eq : EqTy Tryz.prog 2 67 [.int .u16, .int .u32] :=
  eqTy_struct Tryz.underlying67 (by kernel_rfl) (.one rfl rfl Tryz.underlying24 rfl (scEq_int 0 Tryz.underlying24) (.one rfl rfl Tryz.underlying25 rfl (scEq_int 0 Tryz.underlying25) .nil))
theorem tt67 : TIok Tryz.prog 67 ⟨none, (some [.int .u16, .int .u32]), 2, 8, true, true, [.v (.int .u16 0), .v (.int .u32 0)], (.struct [(0, 24), (1, 25)])⟩ :=
  TIok.mk' (z := (.agg #[(.int .u16 0), (.int .u32 0)])) (by kernel_rfl) (by simp [zOk, Value.cells, Value.oneCell']) rfl (by decide) Tryz.underlying67 ⟨_, rfl, rfl⟩ rfl (fun k h => by cases h) (eqk_flat (by kernel_rfl) (by decide) tt67_eq)
theorem tt68_eq : EqTy Tryz.prog 2 68 [.int .u16, .int .u32] :=
  eqTy_struct Tryz.underlying68 (by kernel_rfl) (.one rfl rfl Tryz.underlying24 rfl (scEq_int 0 Tryz.underlying24) (.one rfl rfl Tryz.underlying25 rfl (scEq_int 0 Tryz.underlying25) .nil))
theorem tt68 : TIok Tryz.prog 68 ⟨none, (some [.int .u16, .int .u32]), 2, 8, true, true, [.v (.int .u16 0), .v (.int .u32 0)], (.struct [(0, 24), (1, 25)])⟩ :=
  TIok.mk' (z := (.agg #[(.int .u16 0), (.int .u32 0)])) (by kernel_rfl) (by simp [zOk, Value.cells, Value.oneCell']) rfl (by decide) Tryz.underlying68 ⟨_, rfl, rfl⟩ rfl (fun k h => by cases h) (eqk_flat (by kernel_rfl) (by decide) tt68_eq)
theorem tt69 : TIok Tryz.prog 69 ⟨none, none, 1, 24, false, false, [.row 133], (.slice 133)⟩ :=
  TIok.mk' (z := ((.slice none 0 0))) (by kernel_rfl) (by simp [zOk, Value.cells, Value.oneCell']) rfl (by decide) Tryz.underlying69 rfl rfl (fun k h => by cases h) (fun ks h => by cases h)
theorem tt70 : TIok Tryz.prog 70 ⟨none, none, 7, 72, true, false, [.v (.int .i64 0), .v (.int .u16 0), .v (.int .u32 0), .v (.int .u32 0), .v (.string ⟨#[]⟩), .row 133, .v (.int .u32 0)], (.struct [(0, 3), (1, 68), (3, 25), (4, 9), (5, 69), (6, 25)])⟩ :=
  TIok.mk' (z := (.agg #[(.int .i64 0), (.int .u16 0), (.int .u32 0), (.int .u32 0), (.string ⟨#[]⟩), (.slice none 0 0), (.int .u32 0)])) (by kernel_rfl) (by simp [zOk, Value.cells, Value.oneCell']) rfl (by decide) Tryz.underlying70 ⟨_, rfl, rfl⟩ rfl (fun k h => by cases h) (fun ks h => by cases h)
theorem tt71 : TIok Tryz.prog 71 ⟨none, none, 7, 72, true, false, [.v (.int .i64 0), .v (.int .u16 0), .v (.int .u32 0), .v (.int .u32 0), .v (.string ⟨#[]⟩), .row 133, .v (.int .u32 0)], (.struct [(0, 3), (1, 68), (3, 25), (4, 9), (5, 69), (6, 25)])⟩ :=
  TIok.mk' (z := (.agg #[(.int .i64 0), (.int .u16 0), (.int .u32 0), (.int .u32 0), (.string ⟨#[]⟩), (.slice none 0 0), (.int .u32 0)])) (by kernel_rfl) (by simp [zOk, Value.cells, Value.oneCell']) rfl (by decide) Tryz.underlying71 ⟨_, rfl, rfl⟩ rfl (fun k h => by cases h) (fun ks h => by cases h)
theorem tt73_eq : EqTy Tryz.prog 2 73 [.int .u16, .int .u32] :=
  eqTy_struct Tryz.underlying73 (by kernel_rfl) (.one rfl rfl Tryz.underlying24 rfl (scEq_int 0 Tryz.underlying24) (.one rfl rfl Tryz.underlying25 rfl (scEq_int 0 Tryz.underlying25) .nil))
theorem tt73 : TIok Tryz.prog 73 ⟨none, (some [.int .u16, .int .u32]), 2, 8, true, true, [.v (.int .u16 0), .v (.int .u32 0)], (.struct [(0, 24), (1, 25)])⟩ :=
  TIok.mk' (z := (.agg #[(.int .u16 0), (.int .u32 0)])) (by kernel_rfl) (by simp [zOk, Value.cells, Value.oneCell']) rfl (by decide) Tryz.underlying73 ⟨_, rfl, rfl⟩ rfl (fun k h => by cases h) (eqk_flat (by kernel_rfl) (by decide) tt73_eq)
theorem tt77 : TIok Tryz.prog 77 ⟨none, none, 1, 24, false, false, [.row 156], (.slice 156)⟩ :=
  TIok.mk' (z := ((.slice none 0 0))) (by kernel_rfl) (by simp [zOk, Value.cells, Value.oneCell']) rfl (by decide) Tryz.underlying77 rfl rfl (fun k h => by cases h) (fun ks h => by cases h)
theorem tt78 : TIok Tryz.prog 78 ⟨none, none, 7, 72, true, false, [.v (.int .i64 0), .v (.int .u16 0), .v (.int .u32 0), .v (.int .u32 0), .v (.string ⟨#[]⟩), .row 156, .v (.int .u32 0)], (.struct [(0, 3), (1, 73), (3, 25), (4, 9), (5, 77), (6, 25)])⟩ :=
  TIok.mk' (z := (.agg #[(.int .i64 0), (.int .u16 0), (.int .u32 0), (.int .u32 0), (.string ⟨#[]⟩), (.slice none 0 0), (.int .u32 0)])) (by kernel_rfl) (by simp [zOk, Value.cells, Value.oneCell']) rfl (by decide) Tryz.underlying78 ⟨_, rfl, rfl⟩ rfl (fun k h => by cases h) (fun ks h => by cases h)
theorem tt79 : TIok Tryz.prog 79 ⟨none, none, 7, 72, true, false, [.v (.int .i64 0), .v (.int .u16 0), .v (.int .u32 0), .v (.int .u32 0), .v (.string ⟨#[]⟩), .row 156, .v (.int .u32 0)], (.struct [(0, 3), (1, 73), (3, 25), (4, 9), (5, 77), (6, 25)])⟩ :=
  TIok.mk' (z := (.agg #[(.int .i64 0), (.int .u16 0), (.int .u32 0), (.int .u32 0), (.string ⟨#[]⟩), (.slice none 0 0), (.int .u32 0)])) (by kernel_rfl) (by simp [zOk, Value.cells, Value.oneCell']) rfl (by decide) Tryz.underlying79 ⟨_, rfl, rfl⟩ rfl (fun k h => by cases h) (fun ks h => by cases h)
theorem tt84 : TIok Tryz.prog 84 ⟨none, none, 1, 24, true, false, [.row 5], (.struct [(0, 42)])⟩ :=
  TIok.mk' (z := (.agg #[(.slice none 0 0)])) (by kernel_rfl) (by simp [zOk, Value.cells, Value.oneCell']) rfl (by decide) Tryz.underlying84 ⟨_, rfl, rfl⟩ rfl (fun k h => by cases h) (fun ks h => by cases h)
theorem tt85 : TIok Tryz.prog 85 ⟨none, none, 1, 24, true, false, [.row 5], (.struct [(0, 42)])⟩ :=
  TIok.mk' (z := (.agg #[(.slice none 0 0)])) (by kernel_rfl) (by simp [zOk, Value.cells, Value.oneCell']) rfl (by decide) Tryz.underlying85 ⟨_, rfl, rfl⟩ rfl (fun k h => by cases h) (fun ks h => by cases h)
theorem tt87_eq : EqTy Tryz.prog 2 87 [.int .u16, .int .u32] :=
  eqTy_struct Tryz.underlying87 (by kernel_rfl) (.one rfl rfl Tryz.underlying24 rfl (scEq_int 0 Tryz.underlying24) (.one rfl rfl Tryz.underlying25 rfl (scEq_int 0 Tryz.underlying25) .nil))
theorem tt87 : TIok Tryz.prog 87 ⟨none, (some [.int .u16, .int .u32]), 2, 8, true, true, [.v (.int .u16 0), .v (.int .u32 0)], (.struct [(0, 24), (1, 25)])⟩ :=
  TIok.mk' (z := (.agg #[(.int .u16 0), (.int .u32 0)])) (by kernel_rfl) (by simp [zOk, Value.cells, Value.oneCell']) rfl (by decide) Tryz.underlying87 ⟨_, rfl, rfl⟩ rfl (fun k h => by cases h) (eqk_flat (by kernel_rfl) (by decide) tt87_eq)
theorem tt88_eq : EqTy Tryz.prog 2 88 [.int .u16, .int .u32] :=
  eqTy_struct Tryz.underlying88 (by kernel_rfl) (.one rfl rfl Tryz.underlying24 rfl (scEq_int 0 Tryz.underlying24) (.one rfl rfl Tryz.underlying25 rfl (scEq_int 0 Tryz.underlying25) .nil))
theorem tt88 : TIok Tryz.prog 88 ⟨none, (some [.int .u16, .int .u32]), 2, 8, true, true, [.v (.int .u16 0), .v (.int .u32 0)], (.struct [(0, 24), (1, 25)])⟩ :=
  TIok.mk' (z := (.agg #[(.int .u16 0), (.int .u32 0)])) (by kernel_rfl) (by simp [zOk, Value.cells, Value.oneCell']) rfl (by decide) Tryz.underlying88 ⟨_, rfl, rfl⟩ rfl (fun k h => by cases h) (eqk_flat (by kernel_rfl) (by decide) tt88_eq)
theorem tt90 : TIok Tryz.prog 90 ⟨none, none, 1, 8, false, false, [.v (.pointer none)], .oth⟩ :=
  TIok.mk' (z := ((.pointer none))) (by kernel_rfl) (by simp [zOk, Value.cells, Value.oneCell']) rfl (by decide) Tryz.underlying90 trivial rfl (fun k h => by cases h) (fun ks h => by cases h)
theorem tt96 : TIok Tryz.prog 96 ⟨none, none, 1, 8, false, false, [.v (.pointer none)], .oth⟩ :=
  TIok.mk' (z := ((.pointer none))) (by kernel_rfl) (by simp [zOk, Value.cells, Value.oneCell']) rfl (by decide) Tryz.underlying96 trivial rfl (fun k h => by cases h) (fun ks h => by cases h)
theorem tt102_eq : EqTy Tryz.prog 2 102 [.int .u16, .int .u32] :=
  eqTy_struct Tryz.underlying102 (by kernel_rfl) (.one rfl rfl Tryz.underlying24 rfl (scEq_int 0 Tryz.underlying24) (.one rfl rfl Tryz.underlying25 rfl (scEq_int 0 Tryz.underlying25) .nil))
theorem tt102 : TIok Tryz.prog 102 ⟨none, (some [.int .u16, .int .u32]), 2, 8, true, true, [.v (.int .u16 0), .v (.int .u32 0)], (.struct [(0, 24), (1, 25)])⟩ :=
  TIok.mk' (z := (.agg #[(.int .u16 0), (.int .u32 0)])) (by kernel_rfl) (by simp [zOk, Value.cells, Value.oneCell']) rfl (by decide) Tryz.underlying102 ⟨_, rfl, rfl⟩ rfl (fun k h => by cases h) (eqk_flat (by kernel_rfl) (by decide) tt102_eq)
theorem tt109 : TIok Tryz.prog 109 ⟨none, none, 1, 24, false, false, [.row 68], (.slice 68)⟩ :=
  TIok.mk' (z := ((.slice none 0 0))) (by kernel_rfl) (by simp [zOk, Value.cells, Value.oneCell']) rfl (by decide) Tryz.underlying109 rfl rfl (fun k h => by cases h) (fun ks h => by cases h)
theorem tt118_eq : EqTy Tryz.prog 2 118 [.str, .int .i64, .int .i64] :=
  eqTy_struct Tryz.underlying118 (by kernel_rfl) (.one rfl rfl Tryz.underlying9 rfl (scEq_str 0 Tryz.underlying9) (.one rfl rfl Tryz.underlying3 rfl (scEq_int 0 Tryz.underlying3) (.one rfl rfl Tryz.underlying43 rfl (scEq_int 0 Tryz.underlying43) .nil)))
theorem tt118 : TIok Tryz.prog 118 ⟨none, (some [.str, .int .i64, .int .i64]), 3, 32, true, true, [.v (.string ⟨#[]⟩), .v (.int .i64 0), .v (.int .i64 0)], (.struct [(0, 9), (1, 3), (2, 43)])⟩ :=
  TIok.mk' (z := (.agg #[(.string ⟨#[]⟩), (.int .i64 0), (.int .i64 0)])) (by kernel_rfl) (by simp [zOk, Value.cells, Value.oneCell']) rfl (by decide) Tryz.underlying118 ⟨_, rfl, rfl⟩ rfl (fun k h => by cases h) (eqk_flat (by kernel_rfl) (by decide) tt118_eq)
theorem tt119_eq : EqTy Tryz.prog 2 119 [.str, .int .i64, .int .i64] :=
  eqTy_struct Tryz.underlying119 (by kernel_rfl) (.one rfl rfl Tryz.underlying9 rfl (scEq_str 0 Tryz.underlying9) (.one rfl rfl Tryz.underlying3 rfl (scEq_int 0 Tryz.underlying3) (.one rfl rfl Tryz.underlying43 rfl (scEq_int 0 Tryz.underlying43) .nil)))
theorem tt119 : TIok Tryz.prog 119 ⟨none, (some [.str, .int .i64, .int .i64]), 3, 32, true, true, [.v (.string ⟨#[]⟩), .v (.int .i64 0), .v (.int .i64 0)], (.struct [(0, 9), (1, 3), (2, 43)])⟩ :=
  TIok.mk' (z := (.agg #[(.string ⟨#[]⟩), (.int .i64 0), (.int .i64 0)])) (by kernel_rfl) (by simp [zOk, Value.cells, Value.oneCell']) rfl (by decide) Tryz.underlying119 ⟨_, rfl, rfl⟩ rfl (fun k h => by cases h) (eqk_flat (by kernel_rfl) (by decide) tt119_eq)
theorem tt132_eq : EqTy Tryz.prog 3 132 [.int .u16, .int .u32, .int .i64] :=
  eqTy_struct Tryz.underlying132 (by kernel_rfl) (.sub (ks1 := [.int .u16, .int .u32]) (ks := [.int .i64]) rfl rfl Tryz.underlying68 (by kernel_rfl) (tt68_eq.up (by decide)) (.one rfl rfl Tryz.underlying3 rfl (scEq_int 1 Tryz.underlying3) .nil))
theorem tt132 : TIok Tryz.prog 132 ⟨none, (some [.int .u16, .int .u32, .int .i64]), 3, 16, true, true, [.v (.int .u16 0), .v (.int .u32 0), .v (.int .i64 0)], (.struct [(0, 68), (2, 3)])⟩ :=
  TIok.mk' (z := (.agg #[(.int .u16 0), (.int .u32 0), (.int .i64 0)])) (by kernel_rfl) (by simp [zOk, Value.cells, Value.oneCell']) rfl (by decide) Tryz.underlying132 ⟨_, rfl, rfl⟩ rfl (fun k h => by cases h) (eqk_flat (by kernel_rfl) (by decide) tt132_eq)
theorem tt133_eq : EqTy Tryz.prog 3 133 [.int .u16, .int .u32, .int .i64] :=
  eqTy_struct Tryz.underlying133 (by kernel_rfl) (.sub (ks1 := [.int .u16, .int .u32]) (ks := [.int .i64]) rfl rfl Tryz.underlying68 (by kernel_rfl) (tt68_eq.up (by decide)) (.one rfl rfl Tryz.underlying3 rfl (scEq_int 1 Tryz.underlying3) .nil))
theorem tt133 : TIok Tryz.prog 133 ⟨none, (some [.int .u16, .int .u32, .int .i64]), 3, 16, true, true, [.v (.int .u16 0), .v (.int .u32 0), .v (.int .i64 0)], (.struct [(0, 68), (2, 3)])⟩ :=
  TIok.mk' (z := (.agg #[(.int .u16 0), (.int .u32 0), (.int .i64 0)])) (by kernel_rfl) (by simp [zOk, Value.cells, Value.oneCell']) rfl (by decide) Tryz.underlying133 ⟨_, rfl, rfl⟩ rfl (fun k h => by cases h) (eqk_flat (by kernel_rfl) (by decide) tt133_eq)
theorem tt141 : TIok Tryz.prog 141 ⟨none, none, 1, 24, false, false, [.row 42], (.slice 42)⟩ :=
  TIok.mk' (z := ((.slice none 0 0))) (by kernel_rfl) (by simp [zOk, Value.cells, Value.oneCell']) rfl (by decide) Tryz.underlying141 rfl rfl (fun k h => by cases h) (fun ks h => by cases h)
theorem tt150 : TIok Tryz.prog 150 ⟨none, none, 5, 40, true, true, [.v (.int .u64 0), .v (.int .u64 0), .v (.int .u64 0), .v (.int .u64 0), .v (.int .u64 0)], (.arr 5 26)⟩ :=
  TIok.mk' (z := (.agg #[(.int .u64 0), (.int .u64 0), (.int .u64 0), (.int .u64 0), (.int .u64 0)])) (by kernel_rfl) (by simp [zOk, Value.cells, Value.oneCell']) rfl (by decide) Tryz.underlying150 rfl rfl (fun k h => by cases h) (fun ks h => by cases h)
theorem tt155_eq : EqTy Tryz.prog 3 155 [.int .u16, .int .u32, .int .i64] :=
  eqTy_struct Tryz.underlying155 (by kernel_rfl) (.sub (ks1 := [.int .u16, .int .u32]) (ks := [.int .i64]) rfl rfl Tryz.underlying73 (by kernel_rfl) (tt73_eq.up (by decide)) (.one rfl rfl Tryz.underlying3 rfl (scEq_int 1 Tryz.underlying3) .nil))
theorem tt155 : TIok Tryz.prog 155 ⟨none, (some [.int .u16, .int .u32, .int .i64]), 3, 16, true, true, [.v (.int .u16 0), .v (.int .u32 0), .v (.int .i64 0)], (.struct [(0, 73), (2, 3)])⟩ :=
  TIok.mk' (z := (.agg #[(.int .u16 0), (.int .u32 0), (.int .i64 0)])) (by kernel_rfl) (by simp [zOk, Value.cells, Value.oneCell']) rfl (by decide) Tryz.underlying155 ⟨_, rfl, rfl⟩ rfl (fun k h => by cases h) (eqk_flat (by kernel_rfl) (by decide) tt155_eq)
theorem tt156_eq : EqTy Tryz.prog 3 156 [.int .u16, .int .u32, .int .i64] :=
  eqTy_struct Tryz.underlying156 (by kernel_rfl) (.sub (ks1 := [.int .u16, .int .u32]) (ks := [.int .i64]) rfl rfl Tryz.underlying73 (by kernel_rfl) (tt73_eq.up (by decide)) (.one rfl rfl Tryz.underlying3 rfl (scEq_int 1 Tryz.underlying3) .nil))
theorem tt156 : TIok Tryz.prog 156 ⟨none, (some [.int .u16, .int .u32, .int .i64]), 3, 16, true, true, [.v (.int .u16 0), .v (.int .u32 0), .v (.int .i64 0)], (.struct [(0, 73), (2, 3)])⟩ :=
  TIok.mk' (z := (.agg #[(.int .u16 0), (.int .u32 0), (.int .i64 0)])) (by kernel_rfl) (by simp [zOk, Value.cells, Value.oneCell']) rfl (by decide) Tryz.underlying156 ⟨_, rfl, rfl⟩ rfl (fun k h => by cases h) (eqk_flat (by kernel_rfl) (by decide) tt156_eq)
theorem tt160 : TIok Tryz.prog 160 ⟨none, none, 3, 24, true, true, [.v (.int .u64 0), .v (.int .u64 0), .v (.int .u64 0)], (.arr 3 26)⟩ :=
  TIok.mk' (z := (.agg #[(.int .u64 0), (.int .u64 0), (.int .u64 0)])) (by kernel_rfl) (by simp [zOk, Value.cells, Value.oneCell']) rfl (by decide) Tryz.underlying160 rfl rfl (fun k h => by cases h) (fun ks h => by cases h)
theorem tt184 : TIok Tryz.prog 184 ⟨none, none, 1, 24, false, false, [.row 3], (.slice 3)⟩ :=
  TIok.mk' (z := ((.slice none 0 0))) (by kernel_rfl) (by simp [zOk, Value.cells, Value.oneCell']) rfl (by decide) Tryz.underlying184 rfl rfl (fun k h => by cases h) (fun ks h => by cases h)
theorem tt188 : TIok Tryz.prog 188 ⟨(some .i64), none, 1, 8, false, true, [.v (.int .i64 0)], .oth⟩ :=
  TIok.mk' (z := ((.int .i64 0))) (by kernel_rfl) (by simp [zOk, Value.cells, Value.oneCell']) rfl (by decide) Tryz.underlying188 trivial rfl (fun k h => by cases h; exact Tryz.underlying188) (fun ks h => by cases h)
theorem tt196 : TIok Tryz.prog 196 ⟨(some .u64), none, 1, 8, false, true, [.v (.int .u64 0)], .oth⟩ :=
  TIok.mk' (z := ((.int .u64 0))) (by kernel_rfl) (by simp [zOk, Value.cells, Value.oneCell']) rfl (by decide) Tryz.underlying196 trivial rfl (fun k h => by cases h; exact Tryz.underlying196) (fun ks h => by cases h)
theorem tt200 : TIok Tryz.prog 200 ⟨none, none, 1, 8, false, false, [.v (.pointer none)], .oth⟩ :=
  TIok.mk' (z := ((.pointer none))) (by kernel_rfl) (by simp [zOk, Value.cells, Value.oneCell']) rfl (by decide) Tryz.underlying200 trivial rfl (fun k h => by cases h) (fun ks h => by cases h)
theorem tt202 : TIok Tryz.prog 202 ⟨none, none, 1, 8, false, false, [.v (.pointer none)], .oth⟩ :=
  TIok.mk' (z := ((.pointer none))) (by kernel_rfl) (by simp [zOk, Value.cells, Value.oneCell']) rfl (by decide) Tryz.underlying202 trivial rfl (fun k h => by cases h) (fun ks h => by cases h)
theorem tt214 : TIok Tryz.prog 214 ⟨none, none, 1, 8, false, false, [.v (.pointer none)], .oth⟩ :=
  TIok.mk' (z := ((.pointer none))) (by kernel_rfl) (by simp [zOk, Value.cells, Value.oneCell']) rfl (by decide) Tryz.underlying214 trivial rfl (fun k h => by cases h) (fun ks h => by cases h)
theorem ttok : TTok Tryz.prog TT := by
  intro t i h
  unfold TT at h
  split at h <;> first | (cases h; done) | (cases h; first | exact tt2 | exact tt3 | exact tt4 | exact tt5 | exact tt9 | exact tt12 | exact tt21 | exact tt22 | exact tt23 | exact tt24 | exact tt25 | exact tt26 | exact tt27 | exact tt28 | exact tt29 | exact tt30 | exact tt31 | exact tt34 | exact tt35 | exact tt36 | exact tt37 | exact tt38 | exact tt39 | exact tt42 | exact tt43 | exact tt54 | exact tt58 | exact tt60 | exact tt64 | exact tt65 | exact tt66 | exact tt67 | exact tt68 | exact tt69 | exact tt70 | exact tt71 | exact tt73 | exact tt77 | exact tt78 | exact tt79 | exact tt84 | exact tt85 | exact tt87 | exact tt88 | exact tt90 | exact tt96 | exact tt102 | exact tt109 | exact tt118 | exact tt119 | exact tt132 | exact tt133 | exact tt141 | exact tt150 | exact tt155 | exact tt156 | exact tt160 | exact tt184 | exact tt188 | exact tt196 | exact tt200 | exact tt202 | exact tt214)
theorem mixed : Tryz.prog.follows .mixedOrders = true := by kernel_rfl
theorem ent7 : Ent Tryz.prog 7 := ⟨_, Tryz.func7, by kernel_rfl, rfl⟩
theorem ent8 : Ent Tryz.prog 8 := ⟨_, Tryz.func8, by kernel_rfl, rfl⟩
theorem ent9 : Ent Tryz.prog 9 := ⟨_, Tryz.func9, by kernel_rfl, rfl⟩
theorem ent10 : Ent Tryz.prog 10 := ⟨_, Tryz.func10, by kernel_rfl, rfl⟩
theorem ent11 : Ent Tryz.prog 11 := ⟨_, Tryz.func11, by kernel_rfl, rfl⟩
theorem ent12 : Ent Tryz.prog 12 := ⟨_, Tryz.func12, by kernel_rfl, rfl⟩
theorem ent13 : Ent Tryz.prog 13 := ⟨_, Tryz.func13, by kernel_rfl, rfl⟩
theorem ent14 : Ent Tryz.prog 14 := ⟨_, Tryz.func14, by kernel_rfl, rfl⟩
theorem ent15 : Ent Tryz.prog 15 := ⟨_, Tryz.func15, by kernel_rfl, rfl⟩
theorem ent17 : Ent Tryz.prog 17 := ⟨_, Tryz.func17, by kernel_rfl, rfl⟩
theorem ent18 : Ent Tryz.prog 18 := ⟨_, Tryz.func18, by kernel_rfl, rfl⟩
theorem ent19 : Ent Tryz.prog 19 := ⟨_, Tryz.func19, by kernel_rfl, rfl⟩
theorem ent20 : Ent Tryz.prog 20 := ⟨_, Tryz.func20, by kernel_rfl, rfl⟩
theorem ent21 : Ent Tryz.prog 21 := ⟨_, Tryz.func21, by kernel_rfl, rfl⟩
theorem ent22 : Ent Tryz.prog 22 := ⟨_, Tryz.func22, by kernel_rfl, rfl⟩
theorem ent23 : Ent Tryz.prog 23 := ⟨_, Tryz.func23, by kernel_rfl, rfl⟩
theorem ent24 : Ent Tryz.prog 24 := ⟨_, Tryz.func24, by kernel_rfl, rfl⟩
theorem ent25 : Ent Tryz.prog 25 := ⟨_, Tryz.func25, by kernel_rfl, rfl⟩
theorem ent26 : Ent Tryz.prog 26 := ⟨_, Tryz.func26, by kernel_rfl, rfl⟩
theorem ent27 : Ent Tryz.prog 27 := ⟨_, Tryz.func27, by kernel_rfl, rfl⟩
theorem ent28 : Ent Tryz.prog 28 := ⟨_, Tryz.func28, by kernel_rfl, rfl⟩
theorem ent29 : Ent Tryz.prog 29 := ⟨_, Tryz.func29, by kernel_rfl, rfl⟩
theorem ent30 : Ent Tryz.prog 30 := ⟨_, Tryz.func30, by kernel_rfl, rfl⟩
theorem ent31 : Ent Tryz.prog 31 := ⟨_, Tryz.func31, by kernel_rfl, rfl⟩
theorem ent32 : Ent Tryz.prog 32 := ⟨_, Tryz.func32, by kernel_rfl, rfl⟩
theorem ent33 : Ent Tryz.prog 33 := ⟨_, Tryz.func33, by kernel_rfl, rfl⟩
theorem ent34 : Ent Tryz.prog 34 := ⟨_, Tryz.func34, by kernel_rfl, rfl⟩
theorem ent35 : Ent Tryz.prog 35 := ⟨_, Tryz.func35, by kernel_rfl, rfl⟩
theorem ent36 : Ent Tryz.prog 36 := ⟨_, Tryz.func36, by kernel_rfl, rfl⟩
theorem ent37 : Ent Tryz.prog 37 := ⟨_, Tryz.func37, by kernel_rfl, rfl⟩
theorem ent38 : Ent Tryz.prog 38 := ⟨_, Tryz.func38, by kernel_rfl, rfl⟩
theorem ent39 : Ent Tryz.prog 39 := ⟨_, Tryz.func39, by kernel_rfl, rfl⟩
theorem ent40 : Ent Tryz.prog 40 := ⟨_, Tryz.func40, by kernel_rfl, rfl⟩
theorem ent41 : Ent Tryz.prog 41 := ⟨_, Tryz.func41, by kernel_rfl, rfl⟩
theorem ent42 : Ent Tryz.prog 42 := ⟨_, Tryz.func42, by kernel_rfl, rfl⟩
theorem ent43 : Ent Tryz.prog 43 := ⟨_, Tryz.func43, by kernel_rfl, rfl⟩
theorem ent44 : Ent Tryz.prog 44 := ⟨_, Tryz.func44, by kernel_rfl, rfl⟩
theorem ent45 : Ent Tryz.prog 45 := ⟨_, Tryz.func45, by kernel_rfl, rfl⟩
theorem ent46 : Ent Tryz.prog 46 := ⟨_, Tryz.func46, by kernel_rfl, rfl⟩
theorem ent47 : Ent Tryz.prog 47 := ⟨_, Tryz.func47, by kernel_rfl, rfl⟩
theorem ent48 : Ent Tryz.prog 48 := ⟨_, Tryz.func48, by kernel_rfl, rfl⟩
theorem ent49 : Ent Tryz.prog 49 := ⟨_, Tryz.func49, by kernel_rfl, rfl⟩
theorem ent51 : Ent Tryz.prog 51 := ⟨_, Tryz.func51, by kernel_rfl, rfl⟩
theorem ent52 : Ent Tryz.prog 52 := ⟨_, Tryz.func52, by kernel_rfl, rfl⟩
theorem ent53 : Ent Tryz.prog 53 := ⟨_, Tryz.func53, by kernel_rfl, rfl⟩
theorem ent54 : Ent Tryz.prog 54 := ⟨_, Tryz.func54, by kernel_rfl, rfl⟩
theorem ent55 : Ent Tryz.prog 55 := ⟨_, Tryz.func55, by kernel_rfl, rfl⟩
theorem ent56 : Ent Tryz.prog 56 := ⟨_, Tryz.func56, by kernel_rfl, rfl⟩
theorem ent57 : Ent Tryz.prog 57 := ⟨_, Tryz.func57, by kernel_rfl, rfl⟩
theorem ent58 : Ent Tryz.prog 58 := ⟨_, Tryz.func58, by kernel_rfl, rfl⟩
theorem ent59 : Ent Tryz.prog 59 := ⟨_, Tryz.func59, by kernel_rfl, rfl⟩
theorem ent60 : Ent Tryz.prog 60 := ⟨_, Tryz.func60, by kernel_rfl, rfl⟩
theorem ent61 : Ent Tryz.prog 61 := ⟨_, Tryz.func61, by kernel_rfl, rfl⟩
theorem ent62 : Ent Tryz.prog 62 := ⟨_, Tryz.func62, by kernel_rfl, rfl⟩
theorem ent63 : Ent Tryz.prog 63 := ⟨_, Tryz.func63, by kernel_rfl, rfl⟩
theorem ent64 : Ent Tryz.prog 64 := ⟨_, Tryz.func64, by kernel_rfl, rfl⟩
theorem ent65 : Ent Tryz.prog 65 := ⟨_, Tryz.func65, by kernel_rfl, rfl⟩
theorem ent66 : Ent Tryz.prog 66 := ⟨_, Tryz.func66, by kernel_rfl, rfl⟩
theorem ent67 : Ent Tryz.prog 67 := ⟨_, Tryz.func67, by kernel_rfl, rfl⟩
theorem ent68 : Ent Tryz.prog 68 := ⟨_, Tryz.func68, by kernel_rfl, rfl⟩
theorem ent69 : Ent Tryz.prog 69 := ⟨_, Tryz.func69, by kernel_rfl, rfl⟩
theorem ent70 : Ent Tryz.prog 70 := ⟨_, Tryz.func70, by kernel_rfl, rfl⟩
theorem ent71 : Ent Tryz.prog 71 := ⟨_, Tryz.func71, by kernel_rfl, rfl⟩
theorem ent72 : Ent Tryz.prog 72 := ⟨_, Tryz.func72, by kernel_rfl, rfl⟩
theorem ent73 : Ent Tryz.prog 73 := ⟨_, Tryz.func73, by kernel_rfl, rfl⟩
theorem ent76 : Ent Tryz.prog 76 := ⟨_, Tryz.func76, by kernel_rfl, rfl⟩
theorem ent77 : Ent Tryz.prog 77 := ⟨_, Tryz.func77, by kernel_rfl, rfl⟩
theorem ent78 : Ent Tryz.prog 78 := ⟨_, Tryz.func78, by kernel_rfl, rfl⟩
theorem ent79 : Ent Tryz.prog 79 := ⟨_, Tryz.func79, by kernel_rfl, rfl⟩
theorem ent80 : Ent Tryz.prog 80 := ⟨_, Tryz.func80, by kernel_rfl, rfl⟩
theorem ent81 : Ent Tryz.prog 81 := ⟨_, Tryz.func81, by kernel_rfl, rfl⟩
theorem ent82 : Ent Tryz.prog 82 := ⟨_, Tryz.func82, by kernel_rfl, rfl⟩
theorem ent83 : Ent Tryz.prog 83 := ⟨_, Tryz.func83, by kernel_rfl, rfl⟩
theorem ent84 : Ent Tryz.prog 84 := ⟨_, Tryz.func84, by kernel_rfl, rfl⟩
theorem ent85 : Ent Tryz.prog 85 := ⟨_, Tryz.func85, by kernel_rfl, rfl⟩
theorem ent86 : Ent Tryz.prog 86 := ⟨_, Tryz.func86, by kernel_rfl, rfl⟩
theorem ent87 : Ent Tryz.prog 87 := ⟨_, Tryz.func87, by kernel_rfl, rfl⟩
theorem ent88 : Ent Tryz.prog 88 := ⟨_, Tryz.func88, by kernel_rfl, rfl⟩
theorem ent89 : Ent Tryz.prog 89 := ⟨_, Tryz.func89, by kernel_rfl, rfl⟩
theorem ent90 : Ent Tryz.prog 90 := ⟨_, Tryz.func90, by kernel_rfl, rfl⟩
theorem ent91 : Ent Tryz.prog 91 := ⟨_, Tryz.func91, by kernel_rfl, rfl⟩
theorem ent92 : Ent Tryz.prog 92 := ⟨_, Tryz.func92, by kernel_rfl, rfl⟩
theorem ent93 : Ent Tryz.prog 93 := ⟨_, Tryz.func93, by kernel_rfl, rfl⟩
theorem ent94 : Ent Tryz.prog 94 := ⟨_, Tryz.func94, by kernel_rfl, rfl⟩
theorem ent95 : Ent Tryz.prog 95 := ⟨_, Tryz.func95, by kernel_rfl, rfl⟩
theorem ent96 : Ent Tryz.prog 96 := ⟨_, Tryz.func96, by kernel_rfl, rfl⟩
theorem ent97 : Ent Tryz.prog 97 := ⟨_, Tryz.func97, by kernel_rfl, rfl⟩
theorem ent101 : Ent Tryz.prog 101 := ⟨_, Tryz.func101, by kernel_rfl, rfl⟩
theorem ent102 : Ent Tryz.prog 102 := ⟨_, Tryz.func102, by kernel_rfl, rfl⟩
theorem ent103 : Ent Tryz.prog 103 := ⟨_, Tryz.func103, by kernel_rfl, rfl⟩
theorem ent104 : Ent Tryz.prog 104 := ⟨_, Tryz.func104, by kernel_rfl, rfl⟩
theorem ent105 : Ent Tryz.prog 105 := ⟨_, Tryz.func105, by kernel_rfl, rfl⟩
theorem ent106 : Ent Tryz.prog 106 := ⟨_, Tryz.func106, by kernel_rfl, rfl⟩
theorem ent110 : Ent Tryz.prog 110 := ⟨_, Tryz.func110, by kernel_rfl, rfl⟩
theorem ent111 : Ent Tryz.prog 111 := ⟨_, Tryz.func111, by kernel_rfl, rfl⟩
theorem ent112 : Ent Tryz.prog 112 := ⟨_, Tryz.func112, by kernel_rfl, rfl⟩
theorem ent127 : Ent Tryz.prog 127 := ⟨_, Tryz.func127, by kernel_rfl, rfl⟩
theorem ent128 : Ent Tryz.prog 128 := ⟨_, Tryz.func128, by kernel_rfl, rfl⟩
end Go.Proofs.YtclhjcbnpdlgbaaGreatDoor
/- package ident, and the document's answer for it: what the functions give. -/
namespace Go.Proofs.YtclhjcbnpdlgbaaGreatDoor
open Go Go.Lift
set_option linter.unusedSimpArgs false
set_option linter.unusedVariables false
attribute [local irreducible] WK IL IP IG IW DW

theorem nan16 (a : Int) : SCall Tryz.prog 127 [.v (.int .u16 a)] (.v (.bool false)) [.v (.int .u16 a)] := by
  refine SCall.of_body' (TT := TT) (fun _ => false) [false] ttok Tryz.func127 rfl (Nat.le_of_ble_eq_true rfl) rfl fun fx hfx => WK.top ?_
  simp only [impl, imp, argT, List.append_nil, List.map_nil, List.nil_append, show Tryz.f127.ntmps = 6 from rfl, Nat.zero_add, Nat.reduceAdd]
  repeat' (first | refine WK.seq ?_ | refine WK.reg ?_ | refine IL.nil ?_ | (with_reducible refine IL.wr ?_ ?_; focus exact cW) | refine IL.sg ttok ?_ (h := by intro K hK; simp only [go_sem, reduceIte, bne_self_eq_false]; exact cK hK))
  ((first | refine WK.ret ⟨.inr rfl, ?_⟩ | refine ⟨.inl rfl, ?_⟩ | refine ⟨.inl trivial, ?_⟩); refine Fin.o ?_ ?_ (h1 := by first | rfl | (simp only [go_sem, show Tryz.f127.results.toList = [.tmp 2] from rfl, reduceIte] <;> rfl)); rotate_left 1; (focus (first | rfl | skip)); all_goals try with_reducible rfl)
theorem nan32 (a : Int) : SCall Tryz.prog 128 [.v (.int .u32 a)] (.v (.bool false)) [.v (.int .u32 a)] := by
  refine SCall.of_body' (TT := TT) (fun _ => false) [false] ttok Tryz.func128 rfl (Nat.le_of_ble_eq_true rfl) rfl fun fx hfx => WK.top ?_
  simp only [impl, imp, argT, List.append_nil, List.map_nil, List.nil_append, show Tryz.f128.ntmps = 6 from rfl, Nat.zero_add, Nat.reduceAdd]
  repeat' (first | refine WK.seq ?_ | refine WK.reg ?_ | refine IL.nil ?_ | (with_reducible refine IL.wr ?_ ?_; focus exact cW) | refine IL.sg ttok ?_ (h := by intro K hK; simp only [go_sem, reduceIte, bne_self_eq_false]; exact cK hK))
  ((first | refine WK.ret ⟨.inr rfl, ?_⟩ | refine ⟨.inl rfl, ?_⟩ | refine ⟨.inl trivial, ?_⟩); refine Fin.o ?_ ?_ (h1 := by first | rfl | (simp only [go_sem, show Tryz.f128.results.toList = [.tmp 2] from rfl, reduceIte] <;> rfl)); rotate_left 1; (focus (first | rfl | skip)); all_goals try with_reducible rfl)
def cmpI (a b : Int) : Int := if a < b then -1 else if a > b then 1 else 0
theorem cmp16 (a b : Int) : SCall Tryz.prog 122 [.v (.int .u16 a), .v (.int .u16 b)] (.v (.int .i64 (cmpI a b))) [.v (.int .u16 a), .v (.int .u16 b)] := by
  refine SCall.of_body' (TT := TT) (fun _ => false) [false, false] ttok Tryz.func122 rfl (Nat.le_of_ble_eq_true rfl) rfl fun fx hfx => WK.top ?_
  simp only [impl, imp, argT, List.append_nil, List.map_nil, List.nil_append, show Tryz.f122.ntmps = 20 from rfl, Nat.zero_add, Nat.reduceAdd]
  repeat' (first | refine WK.seq ?_ | refine WK.reg ?_ | refine IL.nil ?_ | refine WK.skip ?_ | (with_reducible refine IL.wr ?_ ?_; focus exact cW) | refine IL.sg ttok ?_ | refine IL.cS ttok ent127 [.bor] true ?_ (hS := by exact nan16 _) | (refine WK.cn (fun h => ?_) (fun h => ?_); all_goals first | (simp only [reduceCtorEq] at h; done) | (simp only [hsA, hsD, hsE, ne_eq] at h; first | done | (exfalso; omega; done) | skip) | skip))
  all_goals try ((first | refine WK.ret ⟨.inr rfl, ?_⟩ | refine ⟨.inl rfl, ?_⟩ | refine ⟨.inl trivial, ?_⟩); refine Fin.o ?_ ?_ (h1 := by first | rfl | (simp only [go_sem, show Tryz.f122.results.toList = [.tmp 4] from rfl, reduceIte] <;> rfl)); rotate_left 1; (focus (first | rfl | skip)); all_goals try with_reducible rfl)
  all_goals grind [cmpI]
theorem cmp32 (a b : Int) : SCall Tryz.prog 123 [.v (.int .u32 a), .v (.int .u32 b)] (.v (.int .i64 (cmpI a b))) [.v (.int .u32 a), .v (.int .u32 b)] := by
  refine SCall.of_body' (TT := TT) (fun _ => false) [false, false] ttok Tryz.func123 rfl (Nat.le_of_ble_eq_true rfl) rfl fun fx hfx => WK.top ?_
  simp only [impl, imp, argT, List.append_nil, List.map_nil, List.nil_append, show Tryz.f123.ntmps = 20 from rfl, Nat.zero_add, Nat.reduceAdd]
  repeat' (first | refine WK.seq ?_ | refine WK.reg ?_ | refine IL.nil ?_ | refine WK.skip ?_ | (with_reducible refine IL.wr ?_ ?_; focus exact cW) | refine IL.sg ttok ?_ | refine IL.cS ttok ent128 [.bor] true ?_ (hS := by exact nan32 _) | (refine WK.cn (fun h => ?_) (fun h => ?_); all_goals first | (simp only [reduceCtorEq] at h; done) | (simp only [hsA, hsD, hsE, ne_eq] at h; first | done | (exfalso; omega; done) | skip) | skip))
  all_goals try ((first | refine WK.ret ⟨.inr rfl, ?_⟩ | refine ⟨.inl rfl, ?_⟩ | refine ⟨.inl trivial, ?_⟩); refine Fin.o ?_ ?_ (h1 := by first | rfl | (simp only [go_sem, show Tryz.f123.results.toList = [.tmp 4] from rfl, reduceIte] <;> rfl)); rotate_left 1; (focus (first | rfl | skip)); all_goals try with_reducible rfl)
  all_goals grind [cmpI]
def orI : List Int → Int
  | [] => 0
  | a :: l => if a = 0 then orI l else a
def icells (l : List Int) : List IV := l.map fun a => .v (.int .i64 a)
theorem or_call (l : List Int) (hl : l.length < 2 ^ 62) : SCall Tryz.prog 121 [.tr l.length (icells l)] (.v (.int .i64 (orI l))) [.tr l.length (icells l)] := by
  refine SCall.of_body' (TT := TT) (fun _ => false) [false] ttok Tryz.func121 rfl (Nat.le_of_ble_eq_true rfl) rfl fun fx hfx => WK.top ?_
  simp only [impl, imp, argT, List.append_nil, List.map_nil, List.nil_append, show Tryz.f121.ntmps = 18 from rfl, Nat.zero_add, Nat.reduceAdd]
  repeat' (first | refine WK.seq ?_ | refine WK.reg ?_ | refine IL.nil ?_ | refine WK.skip ?_ | refine WK.block ?_ | refine WK.exit_here ?_ | refine WK.e1 ?_ | refine WK.e2 ?_ | (with_reducible refine IL.wr ?_ ?_; focus exact cW) | refine IL.sg ttok ?_ | (refine WK.cn (fun h => ?_) (fun h => ?_); all_goals first | (simp only [reduceCtorEq] at h; done) | (simp only [hsA, hsD, hsE, ne_eq] at h; first | done | (exfalso; omega; done) | skip) | skip))
  refine WK.forS l.length (fun k => orI (l.drop k) = orI l) (fun k => ⟨18, [(0, .tr l.length (icells l)), (3, .v (.int .i64 0)), (6, .tr l.length (icells l)), (7, .v (.int .i64 l.length)), (8, .v (.int .i64 k))], []⟩) ⟨rfl, ?_⟩ (fun k hk ho => ?_) (fun ho => ?_)
  · (refine Weak.cut' rfl rfl ?_; exact cA)
  · have hx : (icells l)[k]? = some (.v (.int .i64 (l[k]))) := by simp [icells, hk]
    have hne : icells l ≠ [] := by intro e; rw [e] at hx; simp at hx
    have hd : l.drop k = l[k] :: l.drop (k + 1) := List.drop_eq_getElem_cons hk
    rw [hd] at ho
    have FX := hx
    repeat' (first | refine WK.seq ?_ | refine WK.reg ?_ | refine IL.nil ?_ | refine WK.skip ?_ | refine WK.block ?_ | refine WK.exit_here ?_ | refine WK.e1 ?_ | refine WK.e2 ?_ | (with_reducible refine IL.wr ?_ ?_; focus exact cW) | refine IL.sgF ttok ?_ | (refine WK.cn (fun h => ?_) (fun h => ?_); all_goals first | (simp only [reduceCtorEq] at h; done) | (simp only [hsA, hsD, hsE, ne_eq] at h; first | done | (exfalso; omega; done) | skip) | skip))
    all_goals try ((first | refine WK.ret ⟨.inr rfl, ?_⟩ | refine ⟨.inl rfl, ?_⟩ | refine ⟨.inl trivial, ?_⟩); refine Fin.o ?_ ?_ (h1 := by first | rfl | (simp only [go_sem, show Tryz.f121.results.toList = [.tmp 2] from rfl, reduceIte] <;> rfl)); rotate_left 1; (focus (first | rfl | skip)); all_goals try with_reducible rfl)
    all_goals first | (refine Weak.cut' rfl rfl ?_; (first | (simp only [go_sem, reduceIte] <;> (try and_intros) <;> first | rfl | omega | grind [orI]))) | (refine ⟨?_, ?_⟩; rotate_left 1; (focus (refine Weak.cut' rfl rfl ?_; (first | (simp only [go_sem, reduceIte] <;> (try and_intros) <;> first | rfl | omega | grind [orI])))); grind [orI]) | grind [orI]
  · repeat' (first | refine WK.seq ?_ | refine WK.reg ?_ | refine IL.nil ?_ | refine WK.skip ?_ | refine WK.block ?_ | refine WK.exit_here ?_ | refine WK.e1 ?_ | refine WK.e2 ?_ | (with_reducible refine IL.wr ?_ ?_; focus exact cW) | refine IL.sg ttok ?_ | (refine WK.cn (fun h => ?_) (fun h => ?_); all_goals first | (simp only [reduceCtorEq] at h; done) | (simp only [hsA, hsD, hsE, ne_eq] at h; first | done | (exfalso; omega; done) | skip) | skip))
    all_goals try ((first | refine WK.ret ⟨.inr rfl, ?_⟩ | refine ⟨.inl rfl, ?_⟩ | refine ⟨.inl trivial, ?_⟩); refine Fin.o ?_ ?_ (h1 := by first | rfl | (simp only [go_sem, show Tryz.f121.results.toList = [.tmp 2] from rfl, reduceIte] <;> rfl)); rotate_left 1; (focus (first | rfl | skip)); all_goals try with_reducible rfl)
    rw [List.drop_length] at ho
    all_goals first | (refine Weak.cut' rfl rfl ?_; (first | (simp only [go_sem, reduceIte] <;> (try and_intros) <;> first | rfl | omega | grind [orI]))) | (refine ⟨?_, ?_⟩; rotate_left 1; (focus (refine Weak.cut' rfl rfl ?_; (first | (simp only [go_sem, reduceIte] <;> (try and_intros) <;> first | rfl | omega | grind [orI])))); grind [orI]) | grind [orI]
theorem or2 (a b : Int) : SCall Tryz.prog 121 [.tr 2 [.v (.int .i64 a), .v (.int .i64 b)]] (.v (.int .i64 (orI [a, b]))) [.tr 2 [.v (.int .i64 a), .v (.int .i64 b)]] := or_call [a, b] (by simp)
abbrev idIV (r n : Int) : IV := .agg [.v (.int .u16 r), .v (.int .u32 n)]
theorem idPlus_call (r n k : Int) : SCall Tryz.prog 59 [idIV r n, .v (.int .i64 k)] (idIV r (IntKind.u32.wrap (n + IntKind.u32.wrap k))) [idIV r n, .v (.int .i64 k)] := by
  refine SCall.of_body' (TT := TT) (fun _ => false) [false, false] ttok Tryz.func59 rfl (Nat.le_of_ble_eq_true rfl) rfl fun fx hfx => WK.top ?_
  simp only [impl, imp, argT, List.append_nil, List.map_nil, List.nil_append, show Tryz.f59.ntmps = 13 from rfl, Nat.zero_add, Nat.reduceAdd]
  repeat' (first | refine WK.seq ?_ | refine WK.reg ?_ | refine IL.nil ?_ | (with_reducible refine IL.wr ?_ ?_; focus exact cW) | refine IL.sg ttok ?_)
  all_goals try ((first | refine WK.ret ⟨.inr rfl, ?_⟩ | refine ⟨.inl rfl, ?_⟩ | refine ⟨.inl trivial, ?_⟩); refine Fin.o ?_ ?_ (h1 := by first | rfl | (simp only [go_sem, show Tryz.f59.results.toList = [.cell 4 73] from rfl, reduceIte] <;> rfl)); rotate_left 1; (focus (first | rfl | skip)); all_goals try with_reducible rfl)
  all_goals first | (refine Weak.cut' rfl rfl ?_; exact cA) | (refine ⟨?_, ?_⟩; rotate_left 1; (focus (refine Weak.cut' rfl rfl ?_; exact cA)); grind) | grind
theorem idPlus_in (r n k : Int) (h0 : 0 ≤ n) (h1 : 0 ≤ k) (h2 : n + k ≤ 4294967295) : SCall Tryz.prog 59 [idIV r n, .v (.int .i64 k)] (idIV r (n + k)) [idIV r n, .v (.int .i64 k)] := by
  have h := idPlus_call r n k
  rw [wrap_u32 (n := k) (by omega) (by omega), wrap_u32 (n := n + k) (by omega) (by omega)] at h
  exact h
end Go.Proofs.YtclhjcbnpdlgbaaGreatDoor
/- package span: the spans of names. -/
namespace Go.Proofs.YtclhjcbnpdlgbaaGreatDoor
open Go Go.Lift
set_option maxHeartbeats 4000000
set_option linter.unusedSimpArgs false
set_option linter.unusedVariables false
attribute [local irreducible] WK IL IP IG IW DW

abbrev Nm := Int × Int
abbrev Sp := Int × Int × Int
def nmC (a : Nm) : List IV := [.v (.int .u16 a.1), .v (.int .u32 a.2)]
def spC (a : Sp) : List IV := [.v (.int .u16 a.1), .v (.int .u32 a.2.1), .v (.int .i64 a.2.2)]
instance : Cells nmC 2 := ⟨fun _ => rfl, fun _ => rfl, fun _ => rfl⟩
instance : Cells spC 3 := ⟨fun _ => rfl, fun _ => rfl, fun _ => rfl⟩
theorem spC_length (a : Sp) : (spC a).length = 3 := rfl
end Go.Proofs.YtclhjcbnpdlgbaaGreatDoor
/- package pack: its reader and its writer. -/
namespace Go.Proofs.YtclhjcbnpdlgbaaGreatDoor
open Go Go.Lift
set_option maxHeartbeats 4000000
set_option linter.unusedSimpArgs false
set_option linter.unusedVariables false
attribute [local irreducible] WK IL IP IG IW DW

abbrev rdO (l : List UInt8) (p : Nat) (e : Int) : IV := .obj [.v (.string ⟨l.toArray⟩), .v (.int .i64 (p : Int)), .v (.int .i64 e)]
theorem error_call (l : List UInt8) (p : Nat) (e : Int) : SCall Tryz.prog 43 [rdO l p e] (.v (.int .i64 e)) [rdO l p e] := by
  refine SCall.of_body' (TT := TT) (fun k => decide (k < 1)) [false] ttok Tryz.func43 rfl (Nat.le_of_ble_eq_true rfl) rfl fun fx hfx => WK.top ?_
  simp only [impl, imp, argT, List.append_nil, List.map_nil, List.map_cons, List.nil_append, List.cons_append, List.length_cons, List.length_nil, show Tryz.f43.ntmps = 7 from rfl, Nat.zero_add, Nat.reduceAdd]
  repeat' (first | refine WK.seq ?_ | refine WK.reg ?_ | refine IL.nil ?_ | (with_reducible refine IL.wr ?_ ?_; focus exact cW) | refine IL.sg ttok ?_)
  all_goals try ((first | refine WK.ret ⟨.inr rfl, ?_⟩ | refine ⟨.inl rfl, ?_⟩ | refine ⟨.inl trivial, ?_⟩); refine Fin.o ?_ ?_ (h1 := by first | rfl | (simp only [go_sem, show Tryz.f43.results.toList = [.tmp 2] from rfl, reduceIte] <;> rfl)); rotate_left 1; (focus (first | rfl | skip)); all_goals try with_reducible rfl)
theorem left_call (l : List UInt8) (p : Nat) (e : Int) (hp : p ≤ l.length) (hl : l.length < 2 ^ 62) : SCall Tryz.prog 69 [rdO l p e] (.v (.int .i64 ((l.length : Int) - p))) [rdO l p e] := by
  refine SCall.of_body' (TT := TT) (fun k => decide (k < 1)) [false] ttok Tryz.func69 rfl (Nat.le_of_ble_eq_true rfl) rfl fun fx hfx => WK.top ?_
  simp only [impl, imp, argT, List.append_nil, List.map_nil, List.map_cons, List.nil_append, List.cons_append, List.length_cons, List.length_nil, show Tryz.f69.ntmps = 13 from rfl, Nat.zero_add, Nat.reduceAdd]
  repeat' (first | refine WK.seq ?_ | refine WK.reg ?_ | refine IL.nil ?_ | refine WK.drawnS (id := 1) mixed [] [] [] [] (by decide +kernel) ?_ | refine DW.nil ?_ | (with_reducible refine IL.wr ?_ ?_; focus exact cW) | (with_reducible refine DW.wr ?_ ?_; focus exact cW) | refine IL.sg ttok ?_ | refine DW.re ttok ?_ | refine DW.rm ttok ?_)
  all_goals try ((first | refine WK.ret ⟨.inr rfl, ?_⟩ | refine ⟨.inl rfl, ?_⟩ | refine ⟨.inl trivial, ?_⟩); refine Fin.o ?_ ?_ (h1 := by first | rfl | (simp only [go_sem, show Tryz.f69.results.toList = [.tmp 2] from rfl, reduceIte] <;> rfl)); rotate_left 1; (focus (first | rfl | skip)); all_goals try with_reducible rfl)
theorem fail_call (l : List UInt8) (p : Nat) (e f : Int) : SCall Tryz.prog 68 [rdO l p e, .v (.int .i64 f)] (.v (.int .u64 0)) [rdO l p (if e = 0 then f else e), .v (.int .i64 f)] := by
  refine SCall.of_body' (TT := TT) (fun k => decide (k < 1)) [false, false] ttok Tryz.func68 rfl (Nat.le_of_ble_eq_true rfl) rfl fun fx hfx => WK.top ?_
  simp only [impl, imp, argT, List.append_nil, List.map_nil, List.map_cons, List.nil_append, List.cons_append, List.length_cons, List.length_nil, show Tryz.f68.ntmps = 14 from rfl, Nat.zero_add, Nat.reduceAdd]
  repeat' (first | refine WK.seq ?_ | refine WK.reg ?_ | refine IL.nil ?_ | refine WK.skip ?_ | (with_reducible refine IL.wr ?_ ?_; focus exact cW) | refine IL.sg ttok ?_ | (refine WK.cn (fun h => ?_) (fun h => ?_); all_goals first | (simp only [reduceCtorEq] at h; done) | (simp only [hsA, hsD, hsE, ne_eq] at h; first | done | (exfalso; omega; done) | skip) | skip))
  all_goals try ((first | refine WK.ret ⟨.inr rfl, ?_⟩ | refine ⟨.inl rfl, ?_⟩ | refine ⟨.inl trivial, ?_⟩); refine Fin.o ?_ ?_ (h1 := by first | rfl | (simp only [go_sem, show Tryz.f68.results.toList = [.tmp 4] from rfl, reduceIte] <;> rfl)); rotate_left 1; (focus (first | rfl | skip)); all_goals try with_reducible rfl)
  all_goals first | (refine Weak.cut' rfl rfl ?_; exact cA) | (refine ⟨?_, ?_⟩; rotate_left 1; (focus (refine Weak.cut' rfl rfl ?_; exact cA)); grind) | grind
theorem done_call (l : List UInt8) (p : Nat) (e : Int) (hp : p ≤ l.length) (hl : l.length < 2 ^ 62) : SCall Tryz.prog 45 [rdO l p e] (.v (.int .i64 (if e = 0 ∧ p < l.length then 15 else e))) [rdO l p e] := by
  refine SCall.of_body' (TT := TT) (fun k => decide (k < 1)) [false] ttok Tryz.func45 rfl (Nat.le_of_ble_eq_true rfl) rfl fun fx hfx => WK.top ?_
  simp only [impl, imp, argT, List.append_nil, List.map_nil, List.map_cons, List.nil_append, List.cons_append, List.length_cons, List.length_nil, show Tryz.f45.ntmps = 17 from rfl, Nat.zero_add, Nat.reduceAdd]
  repeat' (first | refine WK.seq ?_ | refine WK.reg ?_ | refine IL.nil ?_ | refine WK.skip ?_ | (with_reducible refine IL.wr ?_ ?_; focus exact cW) | refine IL.sg ttok ?_ | refine IL.nn ?_ | refine IL.cS ttok ent69 [.own] true ?_ (hS := by refine left_call _ _ _ ?_ ?_ <;> exact cO) | ((first | ((first | refine IL.ag (fun h => ?_) (fun h => ?_) | refine IL.ap (fun h => ?_) (fun h => ?_)); (fail_if_success (focus (simp only [reduceCtorEq] at h)))) | refine WK.cn (fun h => ?_) (fun h => ?_)); all_goals first | (simp only [reduceCtorEq] at h; done) | (simp only [hsA, hsD, hsE, ne_eq] at h; first | done | (exfalso; omega; done) | skip) | skip))
  all_goals try ((first | refine WK.ret ⟨.inr rfl, ?_⟩ | refine ⟨.inl rfl, ?_⟩ | refine ⟨.inl trivial, ?_⟩); refine Fin.o ?_ ?_ (h1 := by first | rfl | (simp only [go_sem, show Tryz.f45.results.toList = [.tmp 2] from rfl, reduceIte] <;> rfl)); rotate_left 1; (focus (first | rfl | skip)); all_goals try with_reducible rfl)
  all_goals first | (refine Weak.cut' rfl rfl ?_; exact cA) | (refine ⟨?_, ?_⟩; rotate_left 1; (focus (refine Weak.cut' rfl rfl ?_; exact cA)); grind) | grind
theorem from_call (l : List UInt8) (n : Nat) (hn : n = l.length) : SCall Tryz.prog 41 [.tr n (bcells l)] (rdO l 0 0) [.tr n (bcells l)] := by
  subst hn
  refine SCall.of_body' (TT := TT) (fun _ => false) [false] ttok Tryz.func41 rfl (Nat.le_of_ble_eq_true rfl) rfl fun fx hfx => WK.top ?_
  simp only [impl, imp, argT, List.append_nil, List.map_nil, List.nil_append, show Tryz.f41.ntmps = 7 from rfl, Nat.zero_add, Nat.reduceAdd]
  repeat' (first | refine WK.seq ?_ | refine WK.reg ?_ | refine IL.nil ?_ | (with_reducible refine IL.wr ?_ ?_; focus exact cW) | refine IL.sg ttok ?_)
  all_goals try ((first | refine WK.ret ⟨.inr rfl, ?_⟩ | refine ⟨.inl rfl, ?_⟩ | refine ⟨.inl trivial, ?_⟩); refine Fin.o ?_ ?_ (h1 := by first | rfl | (simp only [go_sem, show Tryz.f41.results.toList = [.tmp 2] from rfl, reduceIte] <;> rfl)); rotate_left 1; (focus (first | rfl | skip)); all_goals try with_reducible rfl)
  rfl
def readN (lim : Nat) : Nat → List UInt8 → Nat → Nat → Nat × Nat × Nat
  | 0, _, _, _ => (0, 0, 11)
  | _ + 1, [], _, _ => (0, 0, 14)
  | f + 1, c :: r, k, n => if 128 ≤ c.toNat then readN lim f r (k + 1) (n + c.toNat % 128 * 128 ^ k) else if c.toNat = 0 ∧ 0 < k then (0, 0, 11) else if lim < n + c.toNat % 128 * 128 ^ k then (0, 0, 10) else (n + c.toNat % 128 * 128 ^ k, k + 1, 0)
def rNum (l : List UInt8) (p : Nat) (e : Int) (lim : Nat) : Nat × Nat × Int :=
  if e = 0 then (if (readN lim 9 (l.drop p) 0 0).2.2 = 0 then ((readN lim 9 (l.drop p) 0 0).1, p + (readN lim 9 (l.drop p) 0 0).2.1, 0) else (0, p, ((readN lim 9 (l.drop p) 0 0).2.2 : Int))) else (0, p, e)
theorem num_call (l : List UInt8) (p : Nat) (e : Int) (lim : Nat) (hp : p ≤ l.length) (hl : l.length < 2 ^ 62) (hlim : lim < 2 ^ 64) :
    SCall Tryz.prog 42 [rdO l p e, .v (.int .u64 (lim : Int))] (.v (.int .u64 ((rNum l p e lim).1 : Int))) [rdO l (rNum l p e lim).2.1 (rNum l p e lim).2.2, .v (.int .u64 (lim : Int))] := by
  refine SCall.of_body' (TT := TT) (fun k => decide (k < 1)) [false, false] ttok Tryz.func42 rfl (Nat.le_of_ble_eq_true rfl) rfl fun fx hfx => WK.top ?_
  simp only [impl, imp, argT, List.append_nil, List.map_nil, List.map_cons, List.nil_append, List.cons_append, List.length_cons, List.length_nil, show Tryz.f42.ntmps = 71 from rfl, Nat.zero_add, Nat.reduceAdd]
  repeat' (first | refine WK.seq ?_ | refine WK.reg ?_ | refine IL.nil ?_ | refine WK.skip ?_ | refine WK.block ?_ | refine WK.drawnS (id := 10) mixed [] [] [] [] (by decide +kernel) ?_ | refine DW.nil ?_ | (with_reducible refine IL.wr ?_ ?_; focus exact cW) | (with_reducible refine DW.wr ?_ ?_; focus exact cW) | refine IL.sg ttok ?_ | refine IL.nn ?_ | refine DW.re ttok ?_ | refine DW.rm ttok ?_ | refine IL.cS ttok ent68 [.own, .bor] true ?_ (hS := by exact fail_call _ _ _ _) | refine IL.cS ttok ent69 [.own] true ?_ (hS := by refine left_call _ _ _ ?_ ?_ <;> exact cO) | ((first | ((first | refine IL.ag (fun h => ?_) (fun h => ?_) | refine IL.ap (fun h => ?_) (fun h => ?_)); (fail_if_success (focus (simp only [reduceCtorEq] at h)))) | refine WK.cn (fun h => ?_) (fun h => ?_)); all_goals first | (simp only [reduceCtorEq] at h; done) | (simp only [hsA, hsD, hsE, ne_eq] at h; first | done | (exfalso; omega; done) | skip) | skip))
  refine WK.gotoL (α := Nat × Nat) 0 (rest := _) rfl (fun x => 9 - x.1) (fun x => e = 0 ∧ x.1 ≤ 9 ∧ x.2 < 128 ^ x.1 ∧ readN lim (9 - x.1) (l.drop (p + x.1)) x.1 x.2 = readN lim 9 (l.drop p) 0 0)
    (fun x => ⟨71, [(0, .ptr 0 0 0), (1, .v (.int .u64 (lim : Int))), (5, .v (.int .u64 (x.2 : Int))), (7, .v (.int .i64 (x.1 : Int)))], [some ⟨false, 0, 1, false, [.v (.string ⟨l.toArray⟩), .v (.int .i64 (p : Int)), .v (.int .i64 e)], 0, false⟩]⟩) ?_ ?_
  · rintro ⟨k, n⟩ ⟨he, hk, hn, hr⟩
    simp only at hk hn hr ⊢
    subst he
    have hand : ∀ c : UInt8, bits .and .u8 (c.toNat : Int) 127 = ((c.toNat % 128 : Nat) : Int) := fun c => and_127 _ c.toNat_lt
    rcases Nat.eq_or_lt_of_le hk with rfl | hk
    · rw [show 9 - 9 = 0 from rfl, readN] at hr
      repeat' (first | refine WK.seq ?_ | refine WK.reg ?_ | refine IL.nil ?_ | refine WK.skip ?_ | refine WK.block ?_ | refine WK.drawnS (id := 10) mixed [] [] [] [] (by decide +kernel) ?_ | refine DW.nil ?_ | (with_reducible refine IL.wr ?_ ?_; focus exact cW) | (with_reducible refine DW.wr ?_ ?_; focus exact cW) | refine IL.sg ttok ?_ | refine IL.nn ?_ | refine DW.re ttok ?_ | refine DW.rm ttok ?_ | refine IL.cS ttok ent68 [.own, .bor] true ?_ (hS := by exact fail_call _ _ _ _) | refine IL.cS ttok ent69 [.own] true ?_ (hS := by refine left_call _ _ _ ?_ ?_ <;> exact cO) | ((first | ((first | refine IL.ag (fun h => ?_) (fun h => ?_) | refine IL.ap (fun h => ?_) (fun h => ?_)); (fail_if_success (focus (simp only [reduceCtorEq] at h)))) | refine WK.cn (fun h => ?_) (fun h => ?_)); all_goals first | (simp only [reduceCtorEq] at h; done) | (simp only [hsA, hsD, hsE, ne_eq] at h; first | done | (exfalso; omega; done) | skip) | skip))
      all_goals try ((first | refine WK.ret ⟨.inr rfl, ?_⟩ | refine ⟨.inl rfl, ?_⟩ | refine ⟨.inl trivial, ?_⟩); refine Fin.o ?_ ?_ (h1 := by first | rfl | (simp only [go_sem, show Tryz.f42.results.toList = [.tmp 4] from rfl, reduceIte] <;> rfl)); rotate_left 1; (focus (first | rfl | skip)); all_goals try with_reducible rfl)
      all_goals first | (refine Weak.cut' rfl rfl ?_; (first | (simp only [go_sem, reduceIte] <;> (try and_intros) <;> first | rfl | omega | grind [rNum]))) | (refine ⟨?_, ?_⟩; rotate_left 1; (focus (refine Weak.cut' rfl rfl ?_; (first | (simp only [go_sem, reduceIte] <;> (try and_intros) <;> first | rfl | omega | grind [rNum])))); grind [rNum]) | grind [rNum]
    · rw [show 9 - k = (9 - (k + 1)) + 1 by omega] at hr
      by_cases hpk : p + k < l.length
      · have hx : l[p + k]? = some l[p + k] := List.getElem?_eq_getElem hpk
        have hgd : l.getD (p + k) 0 = l[p + k] := by simp [List.getD, hx]
        rw [List.drop_eq_getElem_cons hpk, readN] at hr
        have hc := l[p + k].toNat_lt
        generalize l[p + k] = c at *
        have hsh := or_shift n k (c.toNat % 128) hk hn (by omega)
        have hj : ((p : Int) + k).toNat = p + k := by omega
        have h7 : (7 * (k : Int)).toNat = 7 * k := by omega
        have hpw : n + c.toNat % 128 * 128 ^ k < 128 ^ (k + 1) := by
          have : c.toNat % 128 * 128 ^ k ≤ 127 * 128 ^ k := Nat.mul_le_mul_right _ (by omega)
          rw [Nat.pow_succ]; omega
        have hp9 : 128 ^ (k + 1) ≤ 128 ^ 9 := Nat.pow_le_pow_right (by decide) (by omega)
        have FX := And.intro hand (And.intro hsh (And.intro hj (And.intro h7 hgd)))
        repeat' (first | refine WK.seq ?_ | refine WK.reg ?_ | refine IL.nil ?_ | refine WK.skip ?_ | refine WK.block ?_ | refine WK.drawnS (id := 10) mixed [] [] [] [] (by decide +kernel) ?_ | refine DW.nil ?_ | (with_reducible refine IL.wr ?_ ?_; focus exact cW) | (with_reducible refine DW.wr ?_ ?_; focus exact cW) | refine IL.sgF ttok ?_ | refine IL.nn ?_ | refine DW.reF ttok ?_ | refine DW.rmF ttok ?_ | refine IL.cSF ttok ent68 [.own, .bor] true ?_ (hS := by exact fail_call _ _ _ _) | refine IL.cSF ttok ent69 [.own] true ?_ (hS := by refine left_call _ _ _ ?_ ?_ <;> exact cO) | ((first | ((first | refine IL.ag (fun h => ?_) (fun h => ?_) | refine IL.ap (fun h => ?_) (fun h => ?_)); (fail_if_success (focus (simp only [reduceCtorEq] at h)))) | refine WK.cn (fun h => ?_) (fun h => ?_)); all_goals first | (simp only [reduceCtorEq] at h; done) | (simp only [hsA, hsD, hsE, ne_eq] at h; first | done | (exfalso; omega; done) | skip) | skip))
        all_goals try ((first | refine WK.ret ⟨.inr rfl, ?_⟩ | refine ⟨.inl rfl, ?_⟩ | refine ⟨.inl trivial, ?_⟩); refine Fin.o ?_ ?_ (h1 := by first | rfl | (simp only [go_sem, show Tryz.f42.results.toList = [.tmp 4] from rfl, reduceIte] <;> rfl)); rotate_left 1; (focus (first | rfl | skip)); all_goals try with_reducible rfl)
        · refine WK.goto ⟨rfl, (k + 1, n + c.toNat % 128 * 128 ^ k), by simp only; omega, ⟨rfl, by simp only; omega, hpw, ?_⟩, ?_⟩
          · rw [if_pos (by omega)] at hr; exact hr
          · (refine Weak.cut' rfl rfl ?_; exact cA)
        all_goals first | (refine Weak.cut' rfl rfl ?_; (first | (simp only [go_sem, reduceIte] <;> (try and_intros) <;> first | rfl | omega | grind [rNum]))) | (refine ⟨?_, ?_⟩; rotate_left 1; (focus (refine Weak.cut' rfl rfl ?_; (first | (simp only [go_sem, reduceIte] <;> (try and_intros) <;> first | rfl | omega | grind [rNum])))); grind [rNum]) | grind [rNum]
      · rw [List.drop_eq_nil_of_le (by omega), readN] at hr
        repeat' (first | refine WK.seq ?_ | refine WK.reg ?_ | refine IL.nil ?_ | refine WK.skip ?_ | refine WK.block ?_ | refine WK.drawnS (id := 10) mixed [] [] [] [] (by decide +kernel) ?_ | refine DW.nil ?_ | (with_reducible refine IL.wr ?_ ?_; focus exact cW) | (with_reducible refine DW.wr ?_ ?_; focus exact cW) | refine IL.sg ttok ?_ | refine IL.nn ?_ | refine DW.re ttok ?_ | refine DW.rm ttok ?_ | refine IL.cS ttok ent68 [.own, .bor] true ?_ (hS := by exact fail_call _ _ _ _) | refine IL.cS ttok ent69 [.own] true ?_ (hS := by refine left_call _ _ _ ?_ ?_ <;> exact cO) | ((first | ((first | refine IL.ag (fun h => ?_) (fun h => ?_) | refine IL.ap (fun h => ?_) (fun h => ?_)); (fail_if_success (focus (simp only [reduceCtorEq] at h)))) | refine WK.cn (fun h => ?_) (fun h => ?_)); all_goals first | (simp only [reduceCtorEq] at h; done) | (simp only [hsA, hsD, hsE, ne_eq] at h; first | done | (exfalso; omega; done) | skip) | skip))
        all_goals try ((first | refine WK.ret ⟨.inr rfl, ?_⟩ | refine ⟨.inl rfl, ?_⟩ | refine ⟨.inl trivial, ?_⟩); refine Fin.o ?_ ?_ (h1 := by first | rfl | (simp only [go_sem, show Tryz.f42.results.toList = [.tmp 4] from rfl, reduceIte] <;> rfl)); rotate_left 1; (focus (first | rfl | skip)); all_goals try with_reducible rfl)
        all_goals first | (refine Weak.cut' rfl rfl ?_; (first | (simp only [go_sem, reduceIte] <;> (try and_intros) <;> first | rfl | omega | grind [rNum]))) | (refine ⟨?_, ?_⟩; rotate_left 1; (focus (refine Weak.cut' rfl rfl ?_; (first | (simp only [go_sem, reduceIte] <;> (try and_intros) <;> first | rfl | omega | grind [rNum])))); grind [rNum]) | grind [rNum]
  · intro again
    repeat' (first | refine WK.seq ?_ | refine WK.reg ?_ | refine IL.nil ?_ | refine WK.skip ?_ | refine WK.block ?_ | refine WK.drawnS (id := 10) mixed [] [] [] [] (by decide +kernel) ?_ | refine DW.nil ?_ | (with_reducible refine IL.wr ?_ ?_; focus exact cW) | (with_reducible refine DW.wr ?_ ?_; focus exact cW) | refine IL.sg ttok ?_ | refine IL.nn ?_ | refine DW.re ttok ?_ | refine DW.rm ttok ?_ | refine IL.cS ttok ent68 [.own, .bor] true ?_ (hS := by exact fail_call _ _ _ _) | refine IL.cS ttok ent69 [.own] true ?_ (hS := by refine left_call _ _ _ ?_ ?_ <;> exact cO) | ((first | ((first | refine IL.ag (fun h => ?_) (fun h => ?_) | refine IL.ap (fun h => ?_) (fun h => ?_)); (fail_if_success (focus (simp only [reduceCtorEq] at h)))) | refine WK.cn (fun h => ?_) (fun h => ?_)); all_goals first | (simp only [reduceCtorEq] at h; done) | (simp only [hsA, hsD, hsE, ne_eq] at h; first | done | (exfalso; omega; done) | skip) | skip))
    all_goals try ((first | refine WK.ret ⟨.inr rfl, ?_⟩ | refine ⟨.inl rfl, ?_⟩ | refine ⟨.inl trivial, ?_⟩); refine Fin.o ?_ ?_ (h1 := by first | rfl | (simp only [go_sem, show Tryz.f42.results.toList = [.tmp 4] from rfl, reduceIte] <;> rfl)); rotate_left 1; (focus (first | rfl | skip)); all_goals try with_reducible rfl)
    · all_goals first | (refine Weak.cut' rfl rfl ?_; (first | (simp only [go_sem, reduceIte] <;> (try and_intros) <;> first | rfl | omega | grind [rNum]))) | (refine ⟨?_, ?_⟩; rotate_left 1; (focus (refine Weak.cut' rfl rfl ?_; (first | (simp only [go_sem, reduceIte] <;> (try and_intros) <;> first | rfl | omega | grind [rNum])))); grind [rNum]) | grind [rNum]
    · all_goals first | (refine Weak.cut' rfl rfl ?_; (first | (simp only [go_sem, reduceIte] <;> (try and_intros) <;> first | rfl | omega | grind [rNum]))) | (refine ⟨?_, ?_⟩; rotate_left 1; (focus (refine Weak.cut' rfl rfl ?_; (first | (simp only [go_sem, reduceIte] <;> (try and_intros) <;> first | rfl | omega | grind [rNum])))); grind [rNum]) | grind [rNum]
    · refine WK.label ?_
      refine again _ (0, 0) ⟨by assumption, by decide, by decide, rfl⟩ ?_
      (refine Weak.cut' rfl rfl ?_; exact cA)
theorem readN_le (lim : Nat) : ∀ (f : Nat) (r : List UInt8) (k n : Nat), (readN lim f r k n).1 ≤ lim ∧ ((readN lim f r k n).2.2 = 0 → (readN lim f r k n).2.1 ≤ k + r.length)
  | 0, r, k, n => by simp [readN]
  | f + 1, [], k, n => by simp [readN]
  | f + 1, c :: r, k, n => by
    have ih := readN_le lim f r (k + 1) (n + c.toNat % 128 * 128 ^ k)
    rw [readN]
    split
    · refine ⟨ih.1, fun h => ?_⟩
      have := ih.2 h
      simp only [List.length_cons]; omega
    · split
      · exact ⟨Nat.zero_le _, fun h => by cases h⟩
      · split
        · exact ⟨Nat.zero_le _, fun h => by cases h⟩
        · refine ⟨by simp only; omega, fun _ => by simp only [List.length_cons]; omega⟩
theorem rNum_le (l : List UInt8) (p : Nat) (e : Int) (lim : Nat) (hp : p ≤ l.length) : (rNum l p e lim).1 ≤ lim ∧ (rNum l p e lim).2.1 ≤ l.length := by
  have h := readN_le lim 9 (l.drop p) 0 0
  unfold rNum
  split
  · split
    · have := h.2 ‹_›
      simp only [List.length_drop] at this ⊢
      exact ⟨h.1, by omega⟩
    · exact ⟨Nat.zero_le _, hp⟩
  · exact ⟨Nat.zero_le _, hp⟩
def rText (l : List UInt8) (p : Nat) (e : Int) (lim : Nat) : List UInt8 × Nat × Int :=
  if (rNum l p e lim).2.2 = 0 then (if l.length - (rNum l p e lim).2.1 < (rNum l p e lim).1 then ([], p, 14) else ((l.drop (rNum l p e lim).2.1).take (rNum l p e lim).1, (rNum l p e lim).2.1 + (rNum l p e lim).1, 0)) else ([], (rNum l p e lim).2.1, (rNum l p e lim).2.2)
theorem text_call (l : List UInt8) (p : Nat) (e : Int) (limit : Int) (hp : p ≤ l.length) (hl : l.length < 2 ^ 62) (hlim : limit ≤ 9223372036854775807) :
    SCall Tryz.prog 94 [rdO l p e, .v (.int .i64 limit)] (.v (.string ⟨(rText l p e limit.toNat).1.toArray⟩)) [rdO l (rText l p e limit.toNat).2.1 (rText l p e limit.toNat).2.2, .v (.int .i64 limit)] := by
  have hmax : (if (0 : Int) > limit then 0 else limit) = (limit.toNat : Int) := by split <;> omega
  have hln : limit.toNat < 2 ^ 63 := by omega
  obtain ⟨hn1, hn2⟩ := rNum_le l p e limit.toNat hp
  have hq1 : (0 : Int) ≤ ((rNum l p e limit.toNat).2.1 : Int) + ((rNum l p e limit.toNat).1 : Int) - ((rNum l p e limit.toNat).1 : Int) := by omega
  have hq2 : (((rNum l p e limit.toNat).2.1 : Int) + ((rNum l p e limit.toNat).1 : Int) - ((rNum l p e limit.toNat).1 : Int)).toNat = (rNum l p e limit.toNat).2.1 := by omega
  have hq3 : (0 : Int) ≤ ((rNum l p e limit.toNat).2.1 : Int) + ((rNum l p e limit.toNat).1 : Int) := by omega
  have hq4 : (((rNum l p e limit.toNat).2.1 : Int) + ((rNum l p e limit.toNat).1 : Int)).toNat = (rNum l p e limit.toNat).2.1 + (rNum l p e limit.toNat).1 := by omega
  have hq5 : (rNum l p e limit.toNat).2.1 + (rNum l p e limit.toNat).1 - (rNum l p e limit.toNat).2.1 = (rNum l p e limit.toNat).1 := by omega
  refine SCall.of_body' (TT := TT) (fun k => decide (k < 1)) [false, false] ttok Tryz.func94 rfl (Nat.le_of_ble_eq_true rfl) rfl fun fx hfx => WK.top ?_
  simp only [impl, imp, argT, List.append_nil, List.map_nil, List.map_cons, List.nil_append, List.cons_append, List.length_cons, List.length_nil, show Tryz.f94.ntmps = 55 from rfl, Nat.zero_add, Nat.reduceAdd]
  have FX := And.intro hmax (And.intro hq1 (And.intro hq2 (And.intro hq3 (And.intro hq4 hq5))))
  repeat' (first | refine WK.seq ?_ | refine WK.reg ?_ | refine IL.nil ?_ | refine WK.skip ?_ | refine WK.drawnS (id := 10) mixed [] [] [] [] (by decide +kernel) ?_ | refine DW.nil ?_ | (with_reducible refine IL.wr ?_ ?_; focus exact cW) | (with_reducible refine DW.wr ?_ ?_; focus exact cW) | refine IL.sgF ttok ?_ | refine DW.reF ttok ?_ | refine DW.rmF ttok ?_ | refine IL.cSF ttok ent42 [.own, .bor] true ?_ (hS := by refine num_call _ _ _ _ ?_ ?_ ?_ <;> exact cO) | refine IL.cSF ttok ent68 [.own, .bor] true ?_ (hS := by exact fail_call _ _ _ _) | refine IL.cSF ttok ent69 [.own] true ?_ (hS := by refine left_call _ _ _ ?_ ?_ <;> exact cO) | (refine WK.cn (fun h => ?_) (fun h => ?_); all_goals first | (simp only [reduceCtorEq] at h; done) | (simp only [hsA, hsD, hsE, ne_eq] at h; first | done | (exfalso; omega; done) | skip) | skip))
  all_goals try ((first | refine WK.ret ⟨.inr rfl, ?_⟩ | refine ⟨.inl rfl, ?_⟩ | refine ⟨.inl trivial, ?_⟩); refine Fin.o ?_ ?_ (h1 := by first | rfl | (simp only [go_sem, show Tryz.f94.results.toList = [.tmp 4] from rfl, reduceIte] <;> rfl)); rotate_left 1; (focus (first | rfl | skip)); all_goals try with_reducible rfl)
  all_goals first | (refine Weak.cut' rfl rfl ?_; (first | (simp only [go_sem, reduceIte] <;> (try and_intros) <;> first | rfl | omega | grind [rText]))) | (refine ⟨?_, ?_⟩; rotate_left 1; (focus (refine Weak.cut' rfl rfl ?_; (first | (simp only [go_sem, reduceIte] <;> (try and_intros) <;> first | rfl | omega | grind [rText])))); grind [rText]) | grind [rText]
abbrev wrO (l : List UInt8) : IV := .obj [.own 5 l.length true (bcells l)]
theorem wlen_call (l : List UInt8) : SCall Tryz.prog 33 [wrO l] (.v (.int .i64 l.length)) [wrO l] := by
  refine SCall.of_body' (TT := TT) (fun k => decide (k < 1)) [false] ttok Tryz.func33 rfl (Nat.le_of_ble_eq_true rfl) rfl fun fx hfx => WK.top ?_
  simp only [impl, imp, argT, List.append_nil, List.map_nil, List.map_cons, List.nil_append, List.cons_append, List.length_cons, List.length_nil, show Tryz.f33.ntmps = 8 from rfl, Nat.zero_add, Nat.reduceAdd]
  repeat' (first | refine WK.seq ?_ | refine WK.reg ?_ | refine IL.nil ?_ | (with_reducible refine IL.wr ?_ ?_; focus exact cW) | refine IL.sg ttok ?_)
  all_goals try ((first | refine WK.ret ⟨.inr rfl, ?_⟩ | refine ⟨.inl rfl, ?_⟩ | refine ⟨.inl trivial, ?_⟩); refine Fin.o ?_ ?_ (h1 := by first | rfl | (simp only [go_sem, show Tryz.f33.results.toList = [.tmp 2] from rfl, reduceIte] <;> rfl)); rotate_left 1; (focus (first | rfl | skip)); all_goals try with_reducible rfl)
theorem wraw_call (l r : List UInt8) (n : Nat) (hn : n = r.length) (hl : l.length + r.length < 2 ^ 46) : SCall Tryz.prog 34 [wrO l, .tr n (bcells r)] (.tup []) [wrO (l ++ r), .tr n (bcells r)] := by
  subst hn
  refine SCall.of_body' (TT := TT) (fun k => decide (k < 1)) [false, false] ttok Tryz.func34 rfl (Nat.le_of_ble_eq_true rfl) rfl fun fx hfx => WK.top ?_
  simp only [impl, imp, argT, List.append_nil, List.map_nil, List.map_cons, List.nil_append, List.cons_append, List.length_cons, List.length_nil, show Tryz.f34.ntmps = 13 from rfl, Nat.zero_add, Nat.reduceAdd]
  repeat' (first | refine WK.seq ?_ | refine WK.reg ?_ | refine IL.nil ?_ | (with_reducible refine IL.wr ?_ ?_; focus exact cW) | refine IL.sg ttok ?_)
  all_goals try ((first | refine WK.ret ⟨.inr rfl, ?_⟩ | refine ⟨.inl rfl, ?_⟩ | refine ⟨.inl trivial, ?_⟩); refine Fin.o ?_ ?_ (h1 := by first | rfl | (simp only [go_sem, show Tryz.f34.results.toList = [] from rfl, reduceIte] <;> rfl)); rotate_left 1; (focus (first | rfl | skip)); all_goals try with_reducible rfl)
  all_goals simp [wrO, bcells]
def numB (n : Nat) : List UInt8 := if n < 128 then [UInt8.ofNat n] else UInt8.ofNat (n % 128 + 128) :: numB (n / 128)
termination_by n
theorem numB_small (n : Nat) (h : n < 128) : numB n = [UInt8.ofNat n] := by rw [numB, if_pos h]
theorem numB_big (n : Nat) (h : ¬ n < 128) : numB n = UInt8.ofNat (n % 128 + 128) :: numB (n / 128) := by rw [numB, if_neg h]
theorem numB_le : ∀ (k n : Nat), n < 128 ^ k → (numB n).length ≤ k + 1
  | 0, n, h => by simp at h; subst h; rw [numB_small _ (by decide)]; simp
  | k + 1, n, h => by
    by_cases hn : n < 128
    · rw [numB_small _ hn]; simp
    · have := numB_le k (n / 128) (by rw [Nat.pow_succ] at h; omega)
      rw [numB_big _ hn, List.length_cons]; omega
theorem wnum_call (l : List UInt8) (n : Nat) (hn : n < 2 ^ 64) (hl : l.length < 2 ^ 46) : SCall Tryz.prog 31 [wrO l, .v (.int .u64 (n : Int))] (.tup []) [wrO (l ++ numB (n % 9223372036854775808)), .v (.int .u64 (n : Int))] := by
  have h63 := and_63 n hn
  have hlt : (n % 9223372036854775808) < 9223372036854775808 := Nat.mod_lt _ (by decide)
  generalize n % 9223372036854775808 = n0 at *
  have hnl := numB_le 9 n0 (by omega)
  refine SCall.of_body' (TT := TT) (fun k => decide (k < 1)) [false, false] ttok Tryz.func31 rfl (Nat.le_of_ble_eq_true rfl) rfl fun fx hfx => WK.top ?_
  simp only [impl, imp, argT, List.append_nil, List.map_nil, List.map_cons, List.nil_append, List.cons_append, List.length_cons, List.length_nil, show Tryz.f31.ntmps = 33 from rfl, Nat.zero_add, Nat.reduceAdd]
  refine WK.gotoL (α := List UInt8 × Nat) 0 (rest := _) rfl (fun x => x.2) (fun x => x.1 ++ numB x.2 = l ++ numB n0 ∧ x.2 < 9223372036854775808 ∧ x.1.length < 2 ^ 46 + 20)
    (fun x => ⟨33, [(0, .ptr 0 0 0), (1, .v (.int .u64 (x.2 : Int)))], [some ⟨false, 0, 1, false, [.sl 1 0 0 x.1.length], 0, false⟩, some ⟨true, 5, x.1.length, true, bcells x.1, 0, false⟩]⟩) ?_ ?_
  · rintro ⟨m, k⟩ ⟨h1, h2, h3⟩
    simp only at h1 h2 h3 ⊢
    have hor := or_128m k
    have hsh := shr_7 k
    by_cases hk : k < 128
    · rw [numB_small k hk] at h1
      have FX := And.intro hor hsh
      repeat' (first | refine WK.seq ?_ | refine WK.reg ?_ | refine IL.nil ?_ | refine WK.skip ?_ | (with_reducible refine IL.wr ?_ ?_; focus exact cW) | refine IL.sgF ttok ?_ | (refine WK.cn (fun h => ?_) (fun h => ?_); all_goals first | (simp only [reduceCtorEq] at h; done) | (simp only [hsA, hsD, hsE, ne_eq] at h; first | done | (exfalso; omega; done) | skip) | skip))
      all_goals try ((first | refine WK.ret ⟨.inr rfl, ?_⟩ | refine ⟨.inl rfl, ?_⟩ | refine ⟨.inl trivial, ?_⟩); refine Fin.o ?_ ?_ (h1 := by first | rfl | (simp only [go_sem, show Tryz.f31.results.toList = [] from rfl, reduceIte] <;> rfl)); rotate_left 1; (focus (first | rfl | skip)); all_goals try with_reducible rfl)
      have e : (UInt8.ofNat k).toNat = k := by rw [UInt8.toNat_ofNat']; omega
      rw [← h1]
      simp [wrO, bcells, e]
    · rw [numB_big k hk] at h1
      have FX := And.intro hor hsh
      repeat' (first | refine WK.seq ?_ | refine WK.reg ?_ | refine IL.nil ?_ | refine WK.skip ?_ | (with_reducible refine IL.wr ?_ ?_; focus exact cW) | refine IL.sgF ttok ?_ | (refine WK.cn (fun h => ?_) (fun h => ?_); all_goals first | (simp only [reduceCtorEq] at h; done) | (simp only [hsA, hsD, hsE, ne_eq] at h; first | done | (exfalso; omega; done) | skip) | skip))
      all_goals try ((first | refine WK.ret ⟨.inr rfl, ?_⟩ | refine ⟨.inl rfl, ?_⟩ | refine ⟨.inl trivial, ?_⟩); refine Fin.o ?_ ?_ (h1 := by first | rfl | (simp only [go_sem, show Tryz.f31.results.toList = [] from rfl, reduceIte] <;> rfl)); rotate_left 1; (focus (first | rfl | skip)); all_goals try with_reducible rfl)
      have e : (UInt8.ofNat (k % 128 + 128)).toNat = k % 128 + 128 := by rw [UInt8.toNat_ofNat']; omega
      have hbc : bcells (m ++ [UInt8.ofNat (k % 128 + 128)]) = bcells m ++ [.v (.int .u8 ((k % 128 + 128 : Nat) : Int))] := by simp only [bcells, List.map_append, List.map_cons, List.map_nil, e]
      have hml : (m ++ [UInt8.ofNat (k % 128 + 128)]).length = m.length + 1 := by simp
      have hlen := congrArg List.length h1
      simp only [List.length_append, List.length_cons] at hlen
      refine WK.goto ⟨rfl, (m ++ [UInt8.ofNat (k % 128 + 128)], k / 128), by simp only; omega, ⟨by simpa using h1, by simp only; omega, by simp only [hml]; omega⟩, ?_⟩
      (refine Weak.renP 1 [0, 1] hfx (fun k h => of_decide_eq_true h) (fun k hk => by obtain rfl : k = 0 := (by omega); exact ⟨rfl, _, rfl, rfl⟩) rfl ?_ ?_ rfl <;> (simp only [go_sem, reduceIte, exists_eq_left', exists_eq_left, Blk.mk.injEq, hbc, hml] <;> (try and_intros) <;> first | rfl | omega))
  · intro again
    have FX := h63
    repeat' (first | refine WK.seq ?_ | refine WK.reg ?_ | refine IL.nil ?_ | refine WK.skip ?_ | (with_reducible refine IL.wr ?_ ?_; focus exact cW) | refine IL.sgF ttok ?_ | (refine WK.cn (fun h => ?_) (fun h => ?_); all_goals first | (simp only [reduceCtorEq] at h; done) | (simp only [hsA, hsD, hsE, ne_eq] at h; first | done | (exfalso; omega; done) | skip) | skip))
    refine WK.label ?_
    refine again _ (l, n0) ⟨rfl, hlt, by simp only; omega⟩ ?_
    (refine Weak.cut' rfl rfl ?_; exact cA)
theorem wtext_call (l s : List UInt8) (hl : l.length < 2 ^ 45) (hs : s.length < 2 ^ 45) : SCall Tryz.prog 85 [wrO l, .v (.string ⟨s.toArray⟩)] (.tup []) [wrO (l ++ numB s.length ++ s), .v (.string ⟨s.toArray⟩)] := by
  have hnl := numB_le 9 s.length (by omega)
  have hla : (l ++ numB s.length).length ≤ l.length + 10 := by rw [List.length_append]; omega
  have hmod : s.length % 9223372036854775808 = s.length := Nat.mod_eq_of_lt (by omega)
  refine SCall.of_body' (TT := TT) (fun k => decide (k < 1)) [false, false] ttok Tryz.func85 rfl (Nat.le_of_ble_eq_true rfl) rfl fun fx hfx => WK.top ?_
  simp only [impl, imp, argT, List.append_nil, List.map_nil, List.map_cons, List.nil_append, List.cons_append, List.length_cons, List.length_nil, show Tryz.f85.ntmps = 18 from rfl, Nat.zero_add, Nat.reduceAdd]
  have FX := hmod
  repeat' (first | refine WK.seq ?_ | refine WK.reg ?_ | refine IL.nil ?_ | (with_reducible refine IL.wr ?_ ?_; focus exact cW) | refine IL.sgF ttok ?_ | refine IL.cSF ttok ent31 [.own, .bor] true ?_ (hS := by refine wnum_call _ _ ?_ ?_ <;> exact cO))
  all_goals try ((first | refine WK.ret ⟨.inr rfl, ?_⟩ | refine ⟨.inl rfl, ?_⟩ | refine ⟨.inl trivial, ?_⟩); refine Fin.o ?_ ?_ (h1 := by first | rfl | (simp only [go_sem, show Tryz.f85.results.toList = [] from rfl, reduceIte] <;> rfl)); rotate_left 1; (focus (first | rfl | skip)); all_goals try with_reducible rfl)
  all_goals (simp [wrO, bcells]; try omega)
theorem putAt_all : ∀ (xs cs : List IV) (o : List IV), xs.length = cs.length → putAt (o ++ cs) o.length xs = o ++ xs
  | [], cs, o, h => by
    have : cs = [] := List.eq_nil_of_length_eq_zero h.symm
    subst this; rfl
  | x :: xs, [], o, h => by simp at h
  | x :: xs, c :: cs, o, h => by
    have hs : (o ++ c :: cs).set o.length x = (o ++ [x]) ++ cs := by simp
    rw [putAt, hs]
    have := putAt_all xs cs (o ++ [x]) (by simpa using h)
    simp only [List.length_append, List.length_cons, List.length_nil, Nat.zero_add] at this
    rw [this]; simp
theorem putAt_zero (xs cs : List IV) (h : xs.length = cs.length) : putAt cs 0 xs = xs := by
  have := putAt_all xs cs [] h
  simpa using this
theorem wbytes_call (l : List UInt8) (hl : l.length < 2 ^ 47) : SCall Tryz.prog 35 [wrO l] (.own 5 l.length true (bcells l)) [wrO l] := by
  have hz : (zrow [.v (.int .u8 0)] l.length).length = l.length := by simp [zrow]
  have hp : putAt (zrow [.v (.int .u8 0)] l.length) 0 (bcells l) = bcells l := putAt_zero _ _ (by rw [bcells_length, hz])
  have hb : (1 : Int) * (l.length : Int) ≤ 281474976710656 := by omega
  refine SCall.of_body' (TT := TT) (fun k => decide (k < 1)) [false] ttok Tryz.func35 rfl (Nat.le_of_ble_eq_true rfl) rfl fun fx hfx => WK.top ?_
  simp only [impl, imp, argT, List.append_nil, List.map_nil, List.map_cons, List.nil_append, List.cons_append, List.length_cons, List.length_nil, show Tryz.f35.ntmps = 17 from rfl, Nat.zero_add, Nat.reduceAdd]
  have FX := And.intro hp hb
  repeat' (first | refine WK.seq ?_ | refine WK.reg ?_ | refine IL.nil ?_ | (with_reducible refine IL.wr ?_ ?_; focus exact cW) | refine IL.sgF ttok ?_ | refine IL.sxF ttok ?_)
  all_goals try ((first | refine WK.ret ⟨.inr rfl, ?_⟩ | refine ⟨.inl rfl, ?_⟩ | refine ⟨.inl trivial, ?_⟩); refine Fin.o ?_ ?_ (h1 := by first | rfl | (simp only [go_sem, show Tryz.f35.results.toList = [.tmp 2] from rfl, reduceIte] <;> rfl)); rotate_left 1; (focus (first | rfl | skip)); all_goals try with_reducible rfl)
end Go.Proofs.YtclhjcbnpdlgbaaGreatDoor
/- The document's answer for pack. -/
namespace Go.Proofs.YtclhjcbnpdlgbaaGreatDoor
open Go Go.Lift
set_option maxHeartbeats 4000000
set_option linter.unusedSimpArgs false
set_option linter.unusedVariables false
attribute [local irreducible] WK IL IP IG IW DW

theorem tmod_nat (a b : Nat) : Int.tmod (a : Int) (b : Int) = ((a % b : Nat) : Int) := by rw [Int.tmod_eq_emod_of_nonneg (by omega)]; simp
theorem tdiv_nat (a b : Nat) : Int.tdiv (a : Int) (b : Int) = ((a / b : Nat) : Int) := by rw [Int.tdiv_eq_ediv_of_nonneg (by omega)]; simp
theorem u8_of (n : Nat) (h : n < 256) : (UInt8.ofNat n).toNat = n := by rw [UInt8.toNat_ofNat']; omega
theorem refNum_call : ∀ (m n : Nat), n < m → n < 2 ^ 64 → SCall Tryz.prog 46 [.v (.int .u64 (n : Int))] (.own 5 (numB (n % 9223372036854775808)).length true (bcells (numB (n % 9223372036854775808)))) [.v (.int .u64 (n : Int))] := by
  intro m
  induction m with
  | zero => intro n h; omega
  | succ m ih =>
    intro n h hn
    have h1 : Int.tmod (n : Int) 9223372036854775808 = ((n % 9223372036854775808 : Nat) : Int) := tmod_nat n 9223372036854775808
    have hlt : (n % 9223372036854775808) < 9223372036854775808 := Nat.mod_lt _ (by decide)
    have hle : n % 9223372036854775808 ≤ n := Nat.mod_le _ _
    generalize n % 9223372036854775808 = k at *
    have h2 : Int.tmod (k : Int) 128 = ((k % 128 : Nat) : Int) := tmod_nat k 128
    have h3 : Int.tdiv (k : Int) 128 = ((k / 128 : Nat) : Int) := tdiv_nat k 128
    by_cases hk : k < 128
    · rw [numB_small k hk]
      have hu : (UInt8.ofNat k).toNat = k := u8_of k (by omega)
      have hb : bcells [UInt8.ofNat k] = [.v (.int .u8 (k : Int))] := by simp only [bcells, List.map_cons, List.map_nil, hu]
      rw [hb]
      refine SCall.of_body' (TT := TT) (fun _ => false) [false] ttok Tryz.func46 rfl (Nat.le_of_ble_eq_true rfl) rfl fun fx hfx => WK.top ?_
      simp only [impl, imp, argT, List.append_nil, List.map_nil, List.nil_append, show Tryz.f46.ntmps = 21 from rfl, Nat.zero_add, Nat.reduceAdd]
      have FX := And.intro h1 (And.intro h2 h3)
      repeat' (first | refine WK.seq ?_ | refine WK.reg ?_ | refine IL.nil ?_ | refine WK.skip ?_ | (with_reducible refine IL.wr ?_ ?_; focus exact cW) | refine IL.sgF ttok ?_ | (refine WK.cn (fun h => ?_) (fun h => ?_); all_goals first | (simp only [reduceCtorEq] at h; done) | (simp only [hsA, hsD, hsE, ne_eq] at h; first | done | (exfalso; omega; done) | skip) | skip))
      all_goals try ((first | refine WK.ret ⟨.inr rfl, ?_⟩ | refine ⟨.inl rfl, ?_⟩ | refine ⟨.inl trivial, ?_⟩); refine Fin.o ?_ ?_ (h1 := by first | rfl | (simp only [go_sem, show Tryz.f46.results.toList = [.tmp 2] from rfl, reduceIte] <;> rfl)); rotate_left 1; (focus (first | rfl | skip)); all_goals try with_reducible rfl)
      all_goals rfl
    · rw [numB_big k hk]
      have hu : (UInt8.ofNat (k % 128 + 128)).toNat = k % 128 + 128 := u8_of _ (by omega)
      have hb : ∀ r, bcells (UInt8.ofNat (k % 128 + 128) :: r) = .v (.int .u8 ((k % 128 + 128 : Nat) : Int)) :: bcells r := fun r => by simp only [bcells, List.map_cons, hu]
      have hrec := ih (k / 128) (by omega) (by omega)
      rw [Nat.mod_eq_of_lt (by omega)] at hrec
      have hnl := numB_le 9 (k / 128) (by omega)
      generalize numB (k / 128) = r at *
      rw [hb]
      refine SCall.of_body' (TT := TT) (fun _ => false) [false] ttok Tryz.func46 rfl (Nat.le_of_ble_eq_true rfl) rfl fun fx hfx => WK.top ?_
      simp only [impl, imp, argT, List.append_nil, List.map_nil, List.nil_append, show Tryz.f46.ntmps = 21 from rfl, Nat.zero_add, Nat.reduceAdd]
      have FX := And.intro h1 (And.intro h2 h3)
      repeat' (first | refine WK.seq ?_ | refine WK.reg ?_ | refine IL.nil ?_ | refine WK.skip ?_ | (with_reducible refine IL.wr ?_ ?_; focus exact cW) | refine IL.sgF ttok ?_ | refine IL.cSF ttok ent46 [.bor] true ?_ (hS := by exact hrec) | (refine WK.cn (fun h => ?_) (fun h => ?_); all_goals first | (simp only [reduceCtorEq] at h; done) | (simp only [hsA, hsD, hsE, ne_eq] at h; first | done | (exfalso; omega; done) | skip) | skip))
      all_goals try ((first | refine WK.ret ⟨.inr rfl, ?_⟩ | refine ⟨.inl rfl, ?_⟩ | refine ⟨.inl trivial, ?_⟩); refine Fin.o ?_ ?_ (h1 := by first | rfl | (simp only [go_sem, show Tryz.f46.results.toList = [.tmp 2] from rfl, reduceIte] <;> rfl)); rotate_left 1; (focus (first | rfl | skip)); all_goals try with_reducible rfl)
      all_goals (simp [Nat.add_comm]; try omega)
theorem refText_call (s : List UInt8) (hs : s.length < 2 ^ 45) : SCall Tryz.prog 96 [.v (.string ⟨s.toArray⟩)] (.own 5 (numB s.length ++ s).length true (bcells (numB s.length ++ s))) [.v (.string ⟨s.toArray⟩)] := by
  have hnl := numB_le 9 s.length (by omega)
  have hmod : s.length % 9223372036854775808 = s.length := Nat.mod_eq_of_lt (by omega)
  refine SCall.of_body' (TT := TT) (fun _ => false) [false] ttok Tryz.func96 rfl (Nat.le_of_ble_eq_true rfl) rfl fun fx hfx => WK.top ?_
  simp only [impl, imp, argT, List.append_nil, List.map_nil, List.nil_append, show Tryz.f96.ntmps = 10 from rfl, Nat.zero_add, Nat.reduceAdd]
  have FX := hmod
  repeat' (first | refine WK.seq ?_ | refine WK.reg ?_ | refine IL.nil ?_ | (with_reducible refine IL.wr ?_ ?_; focus exact cW) | refine IL.sgF ttok ?_ | refine IL.cSF ttok ent46 [.bor] true ?_ (hS := by refine refNum_call _ _ (Nat.lt_succ_self _) ?_ <;> exact cO))
  all_goals try ((first | refine WK.ret ⟨.inr rfl, ?_⟩ | refine ⟨.inl rfl, ?_⟩ | refine ⟨.inl trivial, ?_⟩); refine Fin.o ?_ ?_ (h1 := by first | rfl | (simp only [go_sem, show Tryz.f96.results.toList = [.tmp 2] from rfl, reduceIte] <;> rfl)); rotate_left 1; (focus (first | rfl | skip)); all_goals try with_reducible rfl)
  all_goals simp
abbrev Th := Int × Nat × List UInt8 × Int
def thC (a : Th) : List IV := [.v (.int .i64 a.1), .v (.int .u64 (a.2.1 : Int)), .v (.string ⟨a.2.2.1.toArray⟩), .v (.int .i64 a.2.2.2)]
instance : Cells thC 4 := ⟨fun _ => rfl, fun _ => rfl, fun _ => rfl⟩
end Go.Proofs.YtclhjcbnpdlgbaaGreatDoor
/- PackWrites: what is written is read again; its function. -/
namespace Go.Proofs.YtclhjcbnpdlgbaaGreatDoor
open Go Go.Lift
set_option maxHeartbeats 4000000
set_option linter.unusedSimpArgs false
set_option linter.unusedVariables false
attribute [local irreducible] WK IL IP IG IW DW

theorem numB_len : ∀ (k n : Nat), n < 128 ^ (k + 1) → (numB n).length ≤ k + 1
  | 0, n, h => by rw [numB_small _ (by simpa using h)]; simp
  | k + 1, n, h => by
    by_cases hn : n < 128
    · rw [numB_small _ hn]; simp
    · have := numB_len k (n / 128) (by rw [Nat.pow_succ] at h; omega)
      rw [numB_big _ hn, List.length_cons]; omega
theorem readN_numB (lim : Nat) : ∀ (m n k acc f : Nat) (r : List UInt8), n < m → (n ≠ 0 ∨ k = 0) → (numB n).length ≤ f → acc + n * 128 ^ k ≤ lim → readN lim f (numB n ++ r) k acc = (acc + n * 128 ^ k, k + (numB n).length, 0)
  | 0, n, k, acc, f, r, h, _, _, _ => by omega
  | m + 1, n, k, acc, f, r, h, h0, hf, hl => by
    by_cases hn : n < 128
    · rw [numB_small n hn] at hf ⊢
      obtain ⟨f, rfl⟩ : ∃ g, f = g + 1 := ⟨f - 1, by simp at hf; omega⟩
      have hc : (UInt8.ofNat n).toNat = n := u8_of n (by omega)
      simp only [List.cons_append, List.nil_append, readN, hc]
      rw [if_neg (by omega), if_neg (by omega), Nat.mod_eq_of_lt hn, if_neg (by omega)]
      rfl
    · rw [numB_big n hn] at hf ⊢
      obtain ⟨f, rfl⟩ : ∃ g, f = g + 1 := ⟨f - 1, by simp at hf; omega⟩
      have hc : (UInt8.ofNat (n % 128 + 128)).toNat = n % 128 + 128 := u8_of _ (by omega)
      simp only [List.cons_append, readN, hc]
      rw [if_pos (by omega)]
      have e : (n % 128 + 128) % 128 = n % 128 := by omega
      have e2 : n % 128 * 128 ^ k + n / 128 * 128 ^ (k + 1) = n * 128 ^ k := by
        rw [Nat.pow_succ, Nat.mul_comm (128 ^ k) 128, ← Nat.mul_assoc, ← Nat.add_mul]
        congr 1; omega
      rw [e, readN_numB lim m (n / 128) (k + 1) (acc + n % 128 * 128 ^ k) f r (by omega) (.inl (by omega)) (by simpa using hf) (by rw [Nat.add_assoc, e2]; exact hl)]
      rw [Nat.add_assoc, e2, List.length_cons, Nat.add_assoc, Nat.add_comm 1]
theorem rNum_numB (l : List UInt8) (p n lim : Nat) (r : List UInt8) (hd : l.drop p = numB n ++ r) (hn : n < 9223372036854775808) (hl : n ≤ lim) : rNum l p 0 lim = (n, p + (numB n).length, 0) := by
  have h9 := numB_len 8 n hn
  have := readN_numB lim (n + 1) n 0 0 9 r (by omega) (.inr rfl) (by omega) (by simpa using hl)
  unfold rNum
  rw [if_pos rfl, hd, this]
  simp
theorem rText_numB (l s : List UInt8) (p lim : Nat) (r : List UInt8) (hd : l.drop p = numB s.length ++ (s ++ r)) (hn : s.length < 9223372036854775808) (hl : s.length ≤ lim) (hp : p ≤ l.length) : rText l p 0 lim = (s, p + (numB s.length).length + s.length, 0) := by
  have h := rNum_numB l p s.length lim (s ++ r) hd hn hl
  have hlen := congrArg List.length hd
  simp only [List.length_drop, List.length_append] at hlen
  have hd2 : l.drop (p + (numB s.length).length) = s ++ r := by rw [← List.drop_drop, hd]; simp
  unfold rText
  rw [h]
  simp only
  rw [if_pos trivial, if_neg (by omega), hd2, List.take_left']
  rfl
end Go.Proofs.YtclhjcbnpdlgbaaGreatDoor
/- package span: which spans are right; their bytes. -/
namespace Go.Proofs.YtclhjcbnpdlgbaaGreatDoor
open Go Go.Lift
set_option maxHeartbeats 4000000
set_option linter.unusedSimpArgs false
set_option linter.unusedVariables false
attribute [local irreducible] WK IL IP IG IW DW

def rightI (s : Sp) : Prop := 1 ≤ s.2.1 ∧ 1 ≤ s.2.2 ∧ s.2.2 ≤ 1024 ∧ s.2.1 ≤ 268435456 ∧ s.2.1 + s.2.2 - 1 ≤ 268435456
instance (s : Sp) : Decidable (rightI s) := by unfold rightI; infer_instance
theorem refRight_call (s : Sp) : SCall Tryz.prog 101 [.agg (spC s)] (.v (.bool (decide (rightI s)))) [.agg (spC s)] := by
  obtain ⟨r, n, c⟩ := s
  unfold spC
  refine SCall.of_body' (TT := TT) (fun _ => false) [false] ttok Tryz.func101 rfl (Nat.le_of_ble_eq_true rfl) rfl fun fx hfx => WK.top ?_
  simp only [impl, imp, argT, List.append_nil, List.map_nil, List.nil_append, show Tryz.f101.ntmps = 34 from rfl, Nat.zero_add, Nat.reduceAdd]
  repeat' (first | refine WK.seq ?_ | refine WK.reg ?_ | refine IL.nil ?_ | (with_reducible refine IL.wr ?_ ?_; focus exact cW) | refine IL.sg ttok ?_ | refine IL.nn ?_ | (((first | refine IL.ag (fun h => ?_) (fun h => ?_) | refine IL.ap (fun h => ?_) (fun h => ?_)); (fail_if_success (focus (simp only [reduceCtorEq] at h)))); all_goals first | (simp only [reduceCtorEq] at h; done) | (simp only [hsA, hsD, hsE, ne_eq] at h; first | done | (exfalso; omega; done) | skip) | skip))
  all_goals try ((first | refine WK.ret ⟨.inr rfl, ?_⟩ | refine ⟨.inl rfl, ?_⟩ | refine ⟨.inl trivial, ?_⟩); refine Fin.o ?_ ?_ (h1 := by first | rfl | (simp only [go_sem, show Tryz.f101.results.toList = [.tmp 2] from rfl, reduceIte] <;> rfl)); rotate_left 1; (focus (first | rfl | skip)); all_goals try with_reducible rfl)
  all_goals grind [rightI]
def tot (l : List Sp) : Int := (l.map fun s => s.2.2).sum
def spB (s : Sp) : List UInt8 := numB s.1.toNat ++ (numB s.2.1.toNat ++ numB s.2.2.toNat)
def spsB (l : List Sp) : List UInt8 := l.flatMap spB
def spansB (l : List Sp) : List UInt8 := numB l.length ++ spsB l
def fits (s : Sp) : Prop := 0 ≤ s.1 ∧ s.1 ≤ 65535 ∧ 1 ≤ s.2.1 ∧ s.2.1 ≤ 268435456 ∧ 1 ≤ s.2.2 ∧ s.2.2 ≤ 1024
theorem fits_nat {s : Sp} (h : fits s) : ∃ a b c : Nat, s = ((a : Int), (b : Int), (c : Int)) ∧ a ≤ 65535 ∧ 1 ≤ b ∧ b ≤ 268435456 ∧ 1 ≤ c ∧ c ≤ 1024 := by
  obtain ⟨x, y, z⟩ := s
  obtain ⟨h1, h2, h3, h4, h5, h6⟩ := h
  simp only at h1 h2 h3 h4 h5 h6
  refine ⟨x.toNat, y.toNat, z.toNat, ?_, by omega, by omega, by omega, by omega, by omega⟩
  rw [Int.toNat_of_nonneg h1, Int.toNat_of_nonneg (by omega), Int.toNat_of_nonneg (by omega)]
theorem spsB_take (l : List Sp) (k : Nat) (s : Sp) (hx : l[k]? = some s) : spsB (l.take (k + 1)) = spsB (l.take k) ++ spB s := by
  rw [List.take_add_one, hx]; simp [spsB]
theorem spB_len {s : Sp} (h : fits s) : (spB s).length ≤ 30 := by
  obtain ⟨a, b, c, rfl, h1, h2, h3, h4, h5⟩ := fits_nat h
  have e1 := numB_le 9 a (by omega)
  have e2 := numB_le 9 b (by omega)
  have e3 := numB_le 9 c (by omega)
  simp only [spB, List.length_append, Int.toNat_natCast]; omega
theorem spsB_len (l : List Sp) (h : ∀ s ∈ l, fits s) : (spsB l).length ≤ l.length * 30 := by
  induction l with
  | nil => simp [spsB]
  | cons s l ih =>
    have h1 := spB_len (h s (by simp))
    have h2 := ih fun s hs => h s (by simp [hs])
    simp only [spsB, List.flatMap_cons, List.length_append, List.length_cons] at h2 ⊢
    omega
end Go.Proofs.YtclhjcbnpdlgbaaGreatDoor
/- package span: reading spans. -/
namespace Go.Proofs.YtclhjcbnpdlgbaaGreatDoor
open Go Go.Lift
set_option maxHeartbeats 4000000
set_option linter.unusedSimpArgs false
set_option linter.unusedVariables false
attribute [local irreducible] WK IL IP IG IW DW

theorem refBytes_call (l : List Sp) (n : Nat) (hn : n = l.length) (hl : l.length ≤ 100000) (hf : ∀ s ∈ l, fits s) : SCall Tryz.prog 97 [.tr n (encs spC l)] (.own 5 (spansB l).length true (bcells (spansB l))) [.tr n (encs spC l)] := by
  subst hn
  have hn0 := numB_le 9 l.length (by omega)
  have hm0 : l.length % 9223372036854775808 = l.length := Nat.mod_eq_of_lt (by omega)
  refine SCall.of_body' (TT := TT) (fun _ => false) [false] ttok Tryz.func97 rfl (Nat.le_of_ble_eq_true rfl) rfl fun fx hfx => WK.top ?_
  simp only [impl, imp, argT, List.append_nil, List.map_nil, List.nil_append, show Tryz.f97.ntmps = 45 from rfl, Nat.zero_add, Nat.reduceAdd]
  have FX := hm0
  repeat' (first | refine WK.seq ?_ | refine WK.reg ?_ | refine IL.nil ?_ | refine WK.skip ?_ | refine WK.block ?_ | refine WK.exit_here ?_ | refine WK.e1 ?_ | refine WK.e2 ?_ | (with_reducible refine IL.wr ?_ ?_; focus exact cW) | refine IL.sgF ttok ?_ | refine IL.cSF ttok ent46 [.bor] true ?_ (hS := by refine refNum_call _ _ (Nat.lt_succ_self _) ?_ <;> exact cO) | (refine WK.cn (fun h => ?_) (fun h => ?_); all_goals first | (simp only [reduceCtorEq] at h; done) | (simp only [hsA, hsD, hsE, ne_eq] at h; first | done | (exfalso; omega; done) | skip) | skip))
  refine WK.forS l.length (fun k => True) (fun k => ⟨45, [(0, .tr l.length (encs spC l)), (3, .sl 0 0 0 (numB l.length ++ spsB (l.take k)).length), (4, .v (.int .i64 k))], [some ⟨true, 5, (numB l.length ++ spsB (l.take k)).length, true, bcells (numB l.length ++ spsB (l.take k)), 0, false⟩]⟩) ⟨trivial, ?_⟩ (fun k hk ho => ?_) (fun ho => ?_)
  · have e0 : numB l.length ++ spsB (l.take 0) = numB l.length := by simp [spsB]
    rw [e0]
    (refine Weak.renS [1] hfx rfl ?_ ?_ rfl <;> (simp only [go_sem, reduceIte, exists_eq_left', exists_eq_left, Blk.mk.injEq] <;> (try and_intros) <;> first | rfl | omega))
  · have hx : l[k]? = some l[k] := List.getElem?_eq_getElem hk
    have htk := spsB_take l k _ hx
    have hlk := spsB_len (l.take k) fun s hs => hf s (List.mem_of_mem_take hs)
    rw [List.length_take] at hlk
    have hfk := hf l[k] (List.getElem_mem hk)
    generalize l[k] = s at *
    obtain ⟨a, b, c, rfl, h1, h2, h3, h4, h5⟩ := fits_nat hfk
    have hle : k * 3 + 3 ≤ l.length * 3 := by omega
    have hat : ((encs spC l).drop (k * 3)).take 3 = [.v (.int .u16 (a : Int)), .v (.int .u32 (b : Int)), .v (.int .i64 (c : Int))] := encs_at spC_length hx
    have hg0 : (encs spC l)[k * 3]? = some (.v (.int .u16 (a : Int))) := encs_get spC_length hx (j := 0) (by decide)
    have hg1 : (encs spC l)[k * 3 + 1]? = some (.v (.int .u32 (b : Int))) := encs_get spC_length hx (j := 1) (by decide)
    have hg2 : (encs spC l)[k * 3 + 2]? = some (.v (.int .i64 (c : Int))) := encs_get spC_length hx (j := 2) (by decide)
    have hne : encs spC l ≠ [] := encs_ne spC_length (by decide) hx
    have ma : a % 9223372036854775808 = a := Nat.mod_eq_of_lt (by omega)
    have mb : b % 9223372036854775808 = b := Nat.mod_eq_of_lt (by omega)
    have mc : c % 9223372036854775808 = c := Nat.mod_eq_of_lt (by omega)
    have e1 := numB_le 9 a (by omega)
    have e2 := numB_le 9 b (by omega)
    have e3 := numB_le 9 c (by omega)
    have hW : numB l.length ++ spsB (l.take (k + 1)) = numB l.length ++ spsB (l.take k) ++ numB a ++ numB b ++ numB c := by rw [htk]; simp [spB]
    have hWl : (numB l.length ++ spsB (l.take k)).length ≤ 3000010 := by rw [List.length_append]; omega
    have hb : ∀ x y : List UInt8, bcells x ++ bcells y = bcells (x ++ y) := fun x y => by simp [bcells]
    rw [hW]
    generalize numB l.length ++ spsB (l.take k) = W at *
    have ht1 : List.take (W.length + (numB a).length) (W ++ numB a) = W ++ numB a := List.take_of_length_le (by rw [List.length_append]; exact Nat.le_refl _)
    have ht2 : List.take (W.length + (numB a).length + (numB b).length) (W ++ numB a ++ numB b) = W ++ numB a ++ numB b := List.take_of_length_le (by rw [List.length_append, List.length_append]; exact Nat.le_refl _)
    have FX := And.intro hat (And.intro hle (And.intro hg0 (And.intro hg1 (And.intro hg2 (And.intro ma (And.intro mb mc))))))
    repeat' (first | refine WK.seq ?_ | refine WK.reg ?_ | refine IL.nil ?_ | refine WK.skip ?_ | refine WK.block ?_ | refine WK.exit_here ?_ | refine WK.e1 ?_ | refine WK.e2 ?_ | (with_reducible refine IL.wr ?_ ?_; focus exact cW) | refine IL.sgF ttok ?_ | refine IL.cSF ttok ent46 [.bor] true ?_ (hS := by refine refNum_call _ _ (Nat.lt_succ_self _) ?_ <;> exact cO) | (refine WK.cn (fun h => ?_) (fun h => ?_); all_goals first | (simp only [reduceCtorEq] at h; done) | (simp only [hsA, hsD, hsE, ne_eq] at h; first | done | (exfalso; omega; done) | skip) | skip))
    all_goals try ((first | refine WK.ret ⟨.inr rfl, ?_⟩ | refine ⟨.inl rfl, ?_⟩ | refine ⟨.inl trivial, ?_⟩); refine Fin.o ?_ ?_ (h1 := by first | rfl | (simp only [go_sem, show Tryz.f97.results.toList = [.tmp 2] from rfl, reduceIte] <;> rfl)); rotate_left 1; (focus (first | rfl | skip)); all_goals try with_reducible rfl)
    refine ⟨trivial, ?_⟩
    (refine Weak.renS [0] hfx rfl ?_ ?_ rfl <;> (simp only [go_sem, reduceIte, exists_eq_left', exists_eq_left, Blk.mk.injEq, hb, ht1, ht2, List.length_append] <;> (try and_intros) <;> first | rfl | omega))
  · rw [List.take_length]
    repeat' (first | refine WK.seq ?_ | refine WK.reg ?_ | refine IL.nil ?_ | refine WK.skip ?_ | refine WK.block ?_ | refine WK.exit_here ?_ | refine WK.e1 ?_ | refine WK.e2 ?_ | (with_reducible refine IL.wr ?_ ?_; focus exact cW) | refine IL.sg ttok ?_ | refine IL.cS ttok ent46 [.bor] true ?_ (hS := by refine refNum_call _ _ (Nat.lt_succ_self _) ?_ <;> exact cO) | (refine WK.cn (fun h => ?_) (fun h => ?_); all_goals first | (simp only [reduceCtorEq] at h; done) | (simp only [hsA, hsD, hsE, ne_eq] at h; first | done | (exfalso; omega; done) | skip) | skip))
    all_goals try ((first | refine WK.ret ⟨.inr rfl, ?_⟩ | refine ⟨.inl rfl, ?_⟩ | refine ⟨.inl trivial, ?_⟩); refine Fin.o ?_ ?_ (h1 := by first | rfl | (simp only [go_sem, show Tryz.f97.results.toList = [.tmp 2] from rfl, reduceIte] <;> rfl)); rotate_left 1; (focus (first | rfl | skip)); all_goals try with_reducible rfl)
    all_goals rfl
def rSp (l : List UInt8) (p : Nat) (e : Int) : Sp × Nat × Int :=
  (((rNum l p e 65535).1, (rNum l (rNum l p e 65535).2.1 (rNum l p e 65535).2.2 268435456).1, (rNum l (rNum l (rNum l p e 65535).2.1 (rNum l p e 65535).2.2 268435456).2.1 (rNum l (rNum l p e 65535).2.1 (rNum l p e 65535).2.2 268435456).2.2 1024).1),
   (rNum l (rNum l (rNum l p e 65535).2.1 (rNum l p e 65535).2.2 268435456).2.1 (rNum l (rNum l p e 65535).2.1 (rNum l p e 65535).2.2 268435456).2.2 1024).2)
theorem rSp_of {l : List UInt8} {p a p1 b p2 c p3 : Nat} {e e1 e2 e3 : Int} (h1 : rNum l p e 65535 = (a, p1, e1)) (h2 : rNum l p1 e1 268435456 = (b, p2, e2)) (h3 : rNum l p2 e2 1024 = (c, p3, e3)) : rSp l p e = (((a : Int), (b : Int), (c : Int)), p3, e3) := by
  unfold rSp; simp only [h1, h2, h3]
def getGo (l : List UInt8) : Nat → List Sp → Nat → Int → List Sp × Nat × Int
  | 0, out, p, e => (out, p, e)
  | n + 1, out, p, e => if (rSp l p e).2.2 = 0 then getGo l n (out ++ [(rSp l p e).1]) (rSp l p e).2.1 0 else ([], (rSp l p e).2)
def getS (l : List UInt8) (p : Nat) (e : Int) : List Sp × Nat × Int := getGo l (rNum l p e 1024).1 [] (rNum l p e 1024).2.1 (rNum l p e 1024).2.2
theorem get_call (l : List UInt8) (p : Nat) (e : Int) (hp : p ≤ l.length) (hl : l.length < 2 ^ 62) : SCall Tryz.prog 95 [rdO l p e] (.own 156 (getS l p e).1.length true (encs spC (getS l p e).1)) [rdO l (getS l p e).2.1 (getS l p e).2.2] := by
  have hN := rNum_le l p e 1024 hp
  unfold getS
  refine SCall.of_body' (TT := TT) (fun k => decide (k < 1)) [false] ttok Tryz.func95 rfl (Nat.le_of_ble_eq_true rfl) rfl fun fx hfx => WK.top ?_
  simp only [impl, imp, argT, List.append_nil, List.map_nil, List.map_cons, List.nil_append, List.cons_append, List.length_cons, List.length_nil, show Tryz.f95.ntmps = 29 from rfl, Nat.zero_add, Nat.reduceAdd]
  repeat' (first | refine WK.seq ?_ | refine WK.reg ?_ | refine IL.nil ?_ | refine WK.skip ?_ | refine WK.block ?_ | refine WK.exit_here ?_ | refine WK.e1 ?_ | refine WK.e2 ?_ | (with_reducible refine IL.wr ?_ ?_; focus exact cW) | refine IL.sg ttok ?_ | refine IL.cS ttok ent42 [.own, .bor] true ?_ (hS := by refine num_call _ _ _ _ ?_ ?_ ?_ <;> exact cO) | refine IL.cS ttok ent43 [.own] true ?_ (hS := by exact error_call _ _ _) | (refine WK.cn (fun h => ?_) (fun h => ?_); all_goals first | (simp only [reduceCtorEq] at h; done) | (simp only [hsA, hsD, hsE, ne_eq] at h; first | done | (exfalso; omega; done) | skip) | skip))
  generalize rNum l p e 1024 = r0 at *
  obtain ⟨n, p0, e0⟩ := r0
  simp only at hN ⊢
  generalize hG : getGo l n [] p0 e0 = G
  refine WK.whileS (α := Nat × List Sp × Nat × Int) (fun x => n - x.1) (fun x => x.1 ≤ n ∧ x.2.1.length = x.1 ∧ x.2.2.1 ≤ l.length ∧ getGo l (n - x.1) x.2.1 x.2.2.1 x.2.2.2 = G)
    (fun x => ⟨29, [(0, .ptr 0 0 0), (3, .sl 1 0 0 x.2.1.length), (6, .v (.int .u64 (n : Int))), (7, .v (.int .u64 (x.1 : Int)))], [some ⟨false, 0, 1, false, [.v (.string ⟨l.toArray⟩), .v (.int .i64 (x.2.2.1 : Int)), .v (.int .i64 x.2.2.2)], 0, false⟩, some ⟨true, 156, x.2.1.length, true, encs spC x.2.1, 0, false⟩]⟩) (0, [], p0, e0) ⟨⟨Nat.zero_le _, rfl, hN.2, by simpa using hG⟩, ?_⟩ ?_
  · (refine Weak.renP 1 [0, 2] hfx (fun k h => of_decide_eq_true h) (fun k hk => by obtain rfl : k = 0 := (by omega); exact ⟨rfl, _, rfl, rfl⟩) rfl ?_ ?_ rfl <;> (simp only [go_sem, reduceIte, exists_eq_left', exists_eq_left, Blk.mk.injEq] <;> (try and_intros) <;> first | rfl | omega))
  · rintro ⟨k, out, p, e⟩ ⟨hk, ho, hp, hg⟩
    simp only at hk ho hp hg ⊢
    rcases Nat.eq_or_lt_of_le hk with rfl | hk
    · rw [Nat.sub_self, getGo] at hg
      repeat' (first | refine WK.seq ?_ | refine WK.reg ?_ | refine IL.nil ?_ | refine WK.skip ?_ | refine WK.block ?_ | refine WK.exit_here ?_ | refine WK.e1 ?_ | refine WK.e2 ?_ | (with_reducible refine IL.wr ?_ ?_; focus exact cW) | refine IL.sg ttok ?_ | refine IL.cS ttok ent42 [.own, .bor] true ?_ (hS := by refine num_call _ _ _ _ ?_ ?_ ?_ <;> exact cO) | refine IL.cS ttok ent43 [.own] true ?_ (hS := by exact error_call _ _ _) | (refine WK.cn (fun h => ?_) (fun h => ?_); all_goals first | (simp only [reduceCtorEq] at h; done) | (simp only [hsA, hsD, hsE, ne_eq] at h; first | done | (exfalso; omega; done) | skip) | skip))
      all_goals try ((first | refine WK.ret ⟨.inr rfl, ?_⟩ | refine ⟨.inl rfl, ?_⟩ | refine ⟨.inl trivial, ?_⟩); refine Fin.o ?_ ?_ (h1 := by first | rfl | (simp only [go_sem, show Tryz.f95.results.toList = [.tmp 2] from rfl, reduceIte] <;> rfl)); rotate_left 1; (focus (first | rfl | skip)); all_goals try with_reducible rfl)
      all_goals (subst hg; rfl)
    · rw [show n - k = (n - (k + 1)) + 1 by omega, getGo] at hg
      have hA := rNum_le l p e 65535 hp
      rcases hra : rNum l p e 65535 with ⟨a, p1, e1⟩
      rw [hra] at hA
      obtain ⟨hA1, hA2⟩ := hA
      simp only at hA1 hA2
      have hB := rNum_le l p1 e1 268435456 hA2
      rcases hrb : rNum l p1 e1 268435456 with ⟨b, p2, e2⟩
      rw [hrb] at hB
      obtain ⟨hB1, hB2⟩ := hB
      simp only at hB1 hB2
      have hC := rNum_le l p2 e2 1024 hB2
      rcases hrc : rNum l p2 e2 1024 with ⟨c, p3, e3⟩
      rw [hrc] at hC
      obtain ⟨hC1, hC2⟩ := hC
      simp only at hC1 hC2
      rw [rSp_of hra hrb hrc] at hg
      simp only at hg
      have FX := And.intro hra (And.intro hrb hrc)
      repeat' (first | refine WK.seq ?_ | refine WK.reg ?_ | refine IL.nil ?_ | refine WK.skip ?_ | refine WK.block ?_ | refine WK.exit_here ?_ | refine WK.e1 ?_ | refine WK.e2 ?_ | (with_reducible refine IL.wr ?_ ?_; focus exact cW) | refine IL.sgF ttok ?_ | refine IL.cSF ttok ent42 [.own, .bor] true ?_ (hS := by refine num_call _ _ _ _ ?_ ?_ ?_ <;> exact cO) | refine IL.cSF ttok ent43 [.own] true ?_ (hS := by exact error_call _ _ _) | (refine WK.cn (fun h => ?_) (fun h => ?_); all_goals first | (simp only [reduceCtorEq] at h; done) | (simp only [hsA, hsD, hsE, ne_eq] at h; first | done | (exfalso; omega; done) | skip) | skip))
      all_goals try ((first | refine WK.ret ⟨.inr rfl, ?_⟩ | refine ⟨.inl rfl, ?_⟩ | refine ⟨.inl trivial, ?_⟩); refine Fin.o ?_ ?_ (h1 := by first | rfl | (simp only [go_sem, show Tryz.f95.results.toList = [.tmp 2] from rfl, reduceIte] <;> rfl)); rotate_left 1; (focus (first | rfl | skip)); all_goals try with_reducible rfl)
      · rw [if_neg (by assumption)] at hg; subst hg; rfl
      · rw [if_neg (by assumption)] at hg; subst hg; rfl
      · have he3 : e3 = 0 := by omega
        subst he3
        rw [if_pos rfl] at hg
        have hcs : encs spC out ++ [.v (.int .u16 (a : Int)), .v (.int .u32 (b : Int)), .v (.int .i64 (c : Int))] = encs spC (out ++ [((a : Int), (b : Int), (c : Int))]) := encs_snoc (f := spC) out (_, _, _)
        have hln : (out ++ [((a : Int), (b : Int), (c : Int))]).length = out.length + 1 := by simp
        refine ⟨(k + 1, out ++ [((a : Int), (b : Int), (c : Int))], p3, 0), by simp only; omega, ⟨by simp only; omega, by simp only [hln, ho], hC2, hg⟩, ?_⟩
        (refine Weak.renP 1 [0, 1] hfx (fun k h => of_decide_eq_true h) (fun k hk => by obtain rfl : k = 0 := (by omega); exact ⟨rfl, _, rfl, rfl⟩) rfl ?_ ?_ rfl <;> (simp only [go_sem, reduceIte, exists_eq_left', exists_eq_left, Blk.mk.injEq, hcs, hln] <;> (try and_intros) <;> first | rfl | omega))
end Go.Proofs.YtclhjcbnpdlgbaaGreatDoor
/- package op: operations, the document's and the program's; reading one. -/
namespace Go.Proofs.YtclhjcbnpdlgbaaGreatDoor
open Go Go.Lift
set_option maxHeartbeats 4000000
set_option linter.unusedSimpArgs false
set_option linter.unusedVariables false
attribute [local irreducible] WK IL IP IG IW DW

structure OpV where
  k : Int
  r : Int
  n : Int
  m : Int
  t : List UInt8
  s : List Sp
  q : Int
abbrev opL (k r n m : Int) (t : List UInt8) (x : IV) (q : Int) : List IV := [.v (.int .i64 k), .v (.int .u16 r), .v (.int .u32 n), .v (.int .u32 m), .v (.string ⟨t.toArray⟩), x, .v (.int .u32 q)]
def r3 (l : List UInt8) (p : Nat) (e : Int) : (Nat × Nat × Nat) × Nat × Int :=
  (((rNum l p e 65535).1, (rNum l (rNum l p e 65535).2.1 (rNum l p e 65535).2.2 268435456).1, (rNum l (rNum l (rNum l p e 65535).2.1 (rNum l p e 65535).2.2 268435456).2.1 (rNum l (rNum l p e 65535).2.1 (rNum l p e 65535).2.2 268435456).2.2 268435456).1),
   (rNum l (rNum l (rNum l p e 65535).2.1 (rNum l p e 65535).2.2 268435456).2.1 (rNum l (rNum l p e 65535).2.1 (rNum l p e 65535).2.2 268435456).2.2 268435456).2)
theorem r3_of {l : List UInt8} {p a p1 b p2 c p3 : Nat} {e e1 e2 e3 : Int} (h1 : rNum l p e 65535 = (a, p1, e1)) (h2 : rNum l p1 e1 268435456 = (b, p2, e2)) (h3 : rNum l p2 e2 268435456 = (c, p3, e3)) : r3 l p e = ((a, b, c), p3, e3) := by
  unfold r3; simp only [h1, h2, h3]
def opZ : OpV := ⟨0, 0, 0, 0, [], [], 0⟩
def fin3 (o : OpV) (x : Nat × Int) : OpV × Nat × Int := if x.2 = 0 then (o, x) else (opZ, x)
def rOpV (k : Nat) (x : Nat × Int) (l : List UInt8) : (Nat × Nat × Nat) × Nat × Int := if k = 1 ∨ k = 3 then r3 l x.1 x.2 else ((0, 0, 0), x)
def rOpE (l : List UInt8) (k : Nat) (v : (Nat × Nat × Nat) × Nat × Int) : OpV × Nat × Int :=
  if k = 1 then fin3 ⟨k, v.1.1, v.1.2.1, v.1.2.2, (rText l v.2.1 v.2.2 64).1, [], 0⟩ (rText l v.2.1 v.2.2 64).2
  else if k = 2 ∨ k = 3 then fin3 ⟨k, v.1.1, v.1.2.1, v.1.2.2, [], (getS l v.2.1 v.2.2).1, 0⟩ (getS l v.2.1 v.2.2).2
  else fin3 ⟨k, v.1.1, v.1.2.1, v.1.2.2, [], [], (rNum l v.2.1 v.2.2 268435456).1⟩ (rNum l v.2.1 v.2.2 268435456).2
def rOp (l : List UInt8) (p : Nat) (e : Int) : OpV × Nat × Int := rOpE l (rNum l p e 5).1 (rOpV (rNum l p e 5).1 (rNum l p e 5).2 l)
abbrev opO (v : OpV) (T : TypeId) : IV := .ago (opL v.k v.r v.n v.m v.t (.own T v.s.length true (encs spC v.s)) v.q)
theorem opGet_call (l : List UInt8) (p : Nat) (e : Int) (hp : p ≤ l.length) (hl : l.length < 2 ^ 62) : SCall Tryz.prog 70 [rdO l p e] (opO (rOp l p e).1 156) [rdO l (rOp l p e).2.1 (rOp l p e).2.2] := by
  have hK := rNum_le l p e 5 hp
  unfold rOp
  rcases hk : rNum l p e 5 with ⟨k, p1, e1⟩
  rw [hk] at hK
  obtain ⟨hK1, hK2⟩ := hK
  simp only at hK1 hK2 ⊢
  have hA := rNum_le l p1 e1 65535 hK2
  rcases hra : rNum l p1 e1 65535 with ⟨a, p2, e2⟩
  rw [hra] at hA
  obtain ⟨hA1, hA2⟩ := hA
  simp only at hA1 hA2
  have hB := rNum_le l p2 e2 268435456 hA2
  rcases hrb : rNum l p2 e2 268435456 with ⟨b, p3, e3⟩
  rw [hrb] at hB
  obtain ⟨hB1, hB2⟩ := hB
  simp only at hB1 hB2
  have hC := rNum_le l p3 e3 268435456 hB2
  rcases hrc : rNum l p3 e3 268435456 with ⟨c, p4, e4⟩
  rw [hrc] at hC
  obtain ⟨hC1, hC2⟩ := hC
  simp only at hC1 hC2
  have h3 := r3_of hra hrb hrc
  have hQ := rNum_le l p1 e1 268435456 hK2
  rcases hrq : rNum l p1 e1 268435456 with ⟨q, p5, e5⟩
  rw [hrq] at hQ
  obtain ⟨hQ1, hQ2⟩ := hQ
  simp only at hQ1 hQ2
  rcases hrt : rText l p4 e4 64 with ⟨t, p6, e6⟩
  rcases hg2 : getS l p1 e1 with ⟨s2, p7, e7⟩
  rcases hg3 : getS l p4 e4 with ⟨s3, p8, e8⟩
  obtain rfl | rfl | rfl | hk4 : k = 1 ∨ k = 2 ∨ k = 3 ∨ (¬ k = 1 ∧ ¬ k = 2 ∧ ¬ k = 3) := by omega
  · have e0 : rOpE l 1 (rOpV 1 (p1, e1) l) = fin3 ⟨1, a, b, c, t, [], 0⟩ (p6, e6) := by simp [rOpE, rOpV, h3, hrt]
    rw [e0]
    unfold fin3
    by_cases h0 : e6 = 0
    · rw [if_pos h0]
      refine SCall.of_body' (TT := TT) (fun k => decide (k < 1)) [false] ttok Tryz.func70 rfl (Nat.le_of_ble_eq_true rfl) rfl fun fx hfx => WK.top ?_
      simp only [impl, imp, argT, List.append_nil, List.map_nil, List.map_cons, List.nil_append, List.cons_append, List.length_cons, List.length_nil, show Tryz.f70.ntmps = 52 from rfl, Nat.zero_add, Nat.reduceAdd]
      have FX := And.intro hk (And.intro hra (And.intro hrb (And.intro hrc hrt)))
      repeat' (first | (refine WK.empRow (σ' := ?_) ttok 2 5 156 rfl rfl rfl rfl ?_ ?_; rotate_left 1; (focus (simp only [go_sem, nilRow, List.set_cons_zero, List.set_cons_succ, List.cons_append, List.nil_append, reduceIte]; rfl))) | refine WK.seq ?_ | refine WK.reg ?_ | refine IL.nil ?_ | refine WK.skip ?_ | refine WK.block ?_ | (with_reducible refine IL.wr ?_ ?_; focus exact cW) | refine IL.sgF ttok ?_ | refine IL.nn ?_ | refine IL.cSF ttok ent42 [.own, .bor] true ?_ (hS := by refine num_call _ _ _ _ ?_ ?_ ?_ <;> exact cO) | refine IL.cSF ttok ent43 [.own] true ?_ (hS := by exact error_call _ _ _) | refine IL.cSF ttok ent94 [.own, .bor] true ?_ (hS := by refine text_call _ _ _ _ ?_ ?_ ?_ <;> exact cO) | refine IL.cSF ttok ent95 [.own] true ?_ (hS := by refine get_call _ _ _ ?_ ?_ <;> exact cO) | ((first | ((first | refine IL.ag (fun h => ?_) (fun h => ?_) | refine IL.ap (fun h => ?_) (fun h => ?_)); (fail_if_success (focus (simp only [reduceCtorEq] at h)))) | refine WK.cn (fun h => ?_) (fun h => ?_)); all_goals first | (simp only [reduceCtorEq] at h; done) | (simp only [hsA, hsD, hsE, ne_eq] at h; first | done | (exfalso; omega; done) | skip) | skip))
      all_goals try ((first | refine WK.ret ⟨.inr rfl, ?_⟩ | refine ⟨.inl rfl, ?_⟩ | refine ⟨.inl trivial, ?_⟩); refine Fin.o ?_ ?_ (h1 := by first | rfl | (simp only [go_sem, show Tryz.f70.results.toList = [.cell 2 79] from rfl, reduceIte] <;> rfl)); rotate_left 1; (focus (first | rfl | skip)); all_goals try with_reducible rfl)
      all_goals rfl
    · rw [if_neg h0]
      unfold opZ
      refine SCall.of_body' (TT := TT) (fun k => decide (k < 1)) [false] ttok Tryz.func70 rfl (Nat.le_of_ble_eq_true rfl) rfl fun fx hfx => WK.top ?_
      simp only [impl, imp, argT, List.append_nil, List.map_nil, List.map_cons, List.nil_append, List.cons_append, List.length_cons, List.length_nil, show Tryz.f70.ntmps = 52 from rfl, Nat.zero_add, Nat.reduceAdd]
      have FX := And.intro hk (And.intro hra (And.intro hrb (And.intro hrc hrt)))
      repeat' (first | (refine WK.empRow (σ' := ?_) ttok 2 5 156 rfl rfl rfl rfl ?_ ?_; rotate_left 1; (focus (simp only [go_sem, nilRow, List.set_cons_zero, List.set_cons_succ, List.cons_append, List.nil_append, reduceIte]; rfl))) | refine WK.seq ?_ | refine WK.reg ?_ | refine IL.nil ?_ | refine WK.skip ?_ | refine WK.block ?_ | (with_reducible refine IL.wr ?_ ?_; focus exact cW) | refine IL.sgF ttok ?_ | refine IL.nn ?_ | refine IL.cSF ttok ent42 [.own, .bor] true ?_ (hS := by refine num_call _ _ _ _ ?_ ?_ ?_ <;> exact cO) | refine IL.cSF ttok ent43 [.own] true ?_ (hS := by exact error_call _ _ _) | refine IL.cSF ttok ent94 [.own, .bor] true ?_ (hS := by refine text_call _ _ _ _ ?_ ?_ ?_ <;> exact cO) | refine IL.cSF ttok ent95 [.own] true ?_ (hS := by refine get_call _ _ _ ?_ ?_ <;> exact cO) | ((first | ((first | refine IL.ag (fun h => ?_) (fun h => ?_) | refine IL.ap (fun h => ?_) (fun h => ?_)); (fail_if_success (focus (simp only [reduceCtorEq] at h)))) | refine WK.cn (fun h => ?_) (fun h => ?_)); all_goals first | (simp only [reduceCtorEq] at h; done) | (simp only [hsA, hsD, hsE, ne_eq] at h; first | done | (exfalso; omega; done) | skip) | skip))
      all_goals try ((first | refine WK.ret ⟨.inr rfl, ?_⟩ | refine ⟨.inl rfl, ?_⟩ | refine ⟨.inl trivial, ?_⟩); refine Fin.o ?_ ?_ (h1 := by first | rfl | (simp only [go_sem, show Tryz.f70.results.toList = [.cell 2 79] from rfl, reduceIte] <;> rfl)); rotate_left 1; (focus (first | rfl | skip)); all_goals try with_reducible rfl)
      all_goals rfl
  · have e0 : rOpE l 2 (rOpV 2 (p1, e1) l) = fin3 ⟨2, 0, 0, 0, [], s2, 0⟩ (p7, e7) := by simp [rOpE, rOpV, hg2]
    rw [e0]
    unfold fin3
    by_cases h0 : e7 = 0
    · rw [if_pos h0]
      refine SCall.of_body' (TT := TT) (fun k => decide (k < 1)) [false] ttok Tryz.func70 rfl (Nat.le_of_ble_eq_true rfl) rfl fun fx hfx => WK.top ?_
      simp only [impl, imp, argT, List.append_nil, List.map_nil, List.map_cons, List.nil_append, List.cons_append, List.length_cons, List.length_nil, show Tryz.f70.ntmps = 52 from rfl, Nat.zero_add, Nat.reduceAdd]
      have FX := And.intro hk hg2
      repeat' (first | (refine WK.empRow (σ' := ?_) ttok 2 5 156 rfl rfl rfl rfl ?_ ?_; rotate_left 1; (focus (simp only [go_sem, nilRow, List.set_cons_zero, List.set_cons_succ, List.cons_append, List.nil_append, reduceIte]; rfl))) | refine WK.seq ?_ | refine WK.reg ?_ | refine IL.nil ?_ | refine WK.skip ?_ | refine WK.block ?_ | (with_reducible refine IL.wr ?_ ?_; focus exact cW) | refine IL.sgF ttok ?_ | refine IL.nn ?_ | refine IL.cSF ttok ent42 [.own, .bor] true ?_ (hS := by refine num_call _ _ _ _ ?_ ?_ ?_ <;> exact cO) | refine IL.cSF ttok ent43 [.own] true ?_ (hS := by exact error_call _ _ _) | refine IL.cSF ttok ent94 [.own, .bor] true ?_ (hS := by refine text_call _ _ _ _ ?_ ?_ ?_ <;> exact cO) | refine IL.cSF ttok ent95 [.own] true ?_ (hS := by refine get_call _ _ _ ?_ ?_ <;> exact cO) | ((first | ((first | refine IL.ag (fun h => ?_) (fun h => ?_) | refine IL.ap (fun h => ?_) (fun h => ?_)); (fail_if_success (focus (simp only [reduceCtorEq] at h)))) | refine WK.cn (fun h => ?_) (fun h => ?_)); all_goals first | (simp only [reduceCtorEq] at h; done) | (simp only [hsA, hsD, hsE, ne_eq] at h; first | done | (exfalso; omega; done) | skip) | skip))
      all_goals try ((first | refine WK.ret ⟨.inr rfl, ?_⟩ | refine ⟨.inl rfl, ?_⟩ | refine ⟨.inl trivial, ?_⟩); refine Fin.o ?_ ?_ (h1 := by first | rfl | (simp only [go_sem, show Tryz.f70.results.toList = [.cell 2 79] from rfl, reduceIte] <;> rfl)); rotate_left 1; (focus (first | rfl | skip)); all_goals try with_reducible rfl)
      all_goals rfl
    · rw [if_neg h0]
      unfold opZ
      refine SCall.of_body' (TT := TT) (fun k => decide (k < 1)) [false] ttok Tryz.func70 rfl (Nat.le_of_ble_eq_true rfl) rfl fun fx hfx => WK.top ?_
      simp only [impl, imp, argT, List.append_nil, List.map_nil, List.map_cons, List.nil_append, List.cons_append, List.length_cons, List.length_nil, show Tryz.f70.ntmps = 52 from rfl, Nat.zero_add, Nat.reduceAdd]
      have FX := And.intro hk hg2
      repeat' (first | (refine WK.empRow (σ' := ?_) ttok 2 5 156 rfl rfl rfl rfl ?_ ?_; rotate_left 1; (focus (simp only [go_sem, nilRow, List.set_cons_zero, List.set_cons_succ, List.cons_append, List.nil_append, reduceIte]; rfl))) | refine WK.seq ?_ | refine WK.reg ?_ | refine IL.nil ?_ | refine WK.skip ?_ | refine WK.block ?_ | (with_reducible refine IL.wr ?_ ?_; focus exact cW) | refine IL.sgF ttok ?_ | refine IL.nn ?_ | refine IL.cSF ttok ent42 [.own, .bor] true ?_ (hS := by refine num_call _ _ _ _ ?_ ?_ ?_ <;> exact cO) | refine IL.cSF ttok ent43 [.own] true ?_ (hS := by exact error_call _ _ _) | refine IL.cSF ttok ent94 [.own, .bor] true ?_ (hS := by refine text_call _ _ _ _ ?_ ?_ ?_ <;> exact cO) | refine IL.cSF ttok ent95 [.own] true ?_ (hS := by refine get_call _ _ _ ?_ ?_ <;> exact cO) | ((first | ((first | refine IL.ag (fun h => ?_) (fun h => ?_) | refine IL.ap (fun h => ?_) (fun h => ?_)); (fail_if_success (focus (simp only [reduceCtorEq] at h)))) | refine WK.cn (fun h => ?_) (fun h => ?_)); all_goals first | (simp only [reduceCtorEq] at h; done) | (simp only [hsA, hsD, hsE, ne_eq] at h; first | done | (exfalso; omega; done) | skip) | skip))
      all_goals try ((first | refine WK.ret ⟨.inr rfl, ?_⟩ | refine ⟨.inl rfl, ?_⟩ | refine ⟨.inl trivial, ?_⟩); refine Fin.o ?_ ?_ (h1 := by first | rfl | (simp only [go_sem, show Tryz.f70.results.toList = [.cell 2 79] from rfl, reduceIte] <;> rfl)); rotate_left 1; (focus (first | rfl | skip)); all_goals try with_reducible rfl)
      all_goals rfl
  · have e0 : rOpE l 3 (rOpV 3 (p1, e1) l) = fin3 ⟨3, a, b, c, [], s3, 0⟩ (p8, e8) := by simp [rOpE, rOpV, h3, hg3]
    rw [e0]
    unfold fin3
    by_cases h0 : e8 = 0
    · rw [if_pos h0]
      refine SCall.of_body' (TT := TT) (fun k => decide (k < 1)) [false] ttok Tryz.func70 rfl (Nat.le_of_ble_eq_true rfl) rfl fun fx hfx => WK.top ?_
      simp only [impl, imp, argT, List.append_nil, List.map_nil, List.map_cons, List.nil_append, List.cons_append, List.length_cons, List.length_nil, show Tryz.f70.ntmps = 52 from rfl, Nat.zero_add, Nat.reduceAdd]
      have FX := And.intro hk (And.intro hra (And.intro hrb (And.intro hrc hg3)))
      repeat' (first | (refine WK.empRow (σ' := ?_) ttok 2 5 156 rfl rfl rfl rfl ?_ ?_; rotate_left 1; (focus (simp only [go_sem, nilRow, List.set_cons_zero, List.set_cons_succ, List.cons_append, List.nil_append, reduceIte]; rfl))) | refine WK.seq ?_ | refine WK.reg ?_ | refine IL.nil ?_ | refine WK.skip ?_ | refine WK.block ?_ | (with_reducible refine IL.wr ?_ ?_; focus exact cW) | refine IL.sgF ttok ?_ | refine IL.nn ?_ | refine IL.cSF ttok ent42 [.own, .bor] true ?_ (hS := by refine num_call _ _ _ _ ?_ ?_ ?_ <;> exact cO) | refine IL.cSF ttok ent43 [.own] true ?_ (hS := by exact error_call _ _ _) | refine IL.cSF ttok ent94 [.own, .bor] true ?_ (hS := by refine text_call _ _ _ _ ?_ ?_ ?_ <;> exact cO) | refine IL.cSF ttok ent95 [.own] true ?_ (hS := by refine get_call _ _ _ ?_ ?_ <;> exact cO) | ((first | ((first | refine IL.ag (fun h => ?_) (fun h => ?_) | refine IL.ap (fun h => ?_) (fun h => ?_)); (fail_if_success (focus (simp only [reduceCtorEq] at h)))) | refine WK.cn (fun h => ?_) (fun h => ?_)); all_goals first | (simp only [reduceCtorEq] at h; done) | (simp only [hsA, hsD, hsE, ne_eq] at h; first | done | (exfalso; omega; done) | skip) | skip))
      all_goals try ((first | refine WK.ret ⟨.inr rfl, ?_⟩ | refine ⟨.inl rfl, ?_⟩ | refine ⟨.inl trivial, ?_⟩); refine Fin.o ?_ ?_ (h1 := by first | rfl | (simp only [go_sem, show Tryz.f70.results.toList = [.cell 2 79] from rfl, reduceIte] <;> rfl)); rotate_left 1; (focus (first | rfl | skip)); all_goals try with_reducible rfl)
      all_goals rfl
    · rw [if_neg h0]
      unfold opZ
      refine SCall.of_body' (TT := TT) (fun k => decide (k < 1)) [false] ttok Tryz.func70 rfl (Nat.le_of_ble_eq_true rfl) rfl fun fx hfx => WK.top ?_
      simp only [impl, imp, argT, List.append_nil, List.map_nil, List.map_cons, List.nil_append, List.cons_append, List.length_cons, List.length_nil, show Tryz.f70.ntmps = 52 from rfl, Nat.zero_add, Nat.reduceAdd]
      have FX := And.intro hk (And.intro hra (And.intro hrb (And.intro hrc hg3)))
      repeat' (first | (refine WK.empRow (σ' := ?_) ttok 2 5 156 rfl rfl rfl rfl ?_ ?_; rotate_left 1; (focus (simp only [go_sem, nilRow, List.set_cons_zero, List.set_cons_succ, List.cons_append, List.nil_append, reduceIte]; rfl))) | refine WK.seq ?_ | refine WK.reg ?_ | refine IL.nil ?_ | refine WK.skip ?_ | refine WK.block ?_ | (with_reducible refine IL.wr ?_ ?_; focus exact cW) | refine IL.sgF ttok ?_ | refine IL.nn ?_ | refine IL.cSF ttok ent42 [.own, .bor] true ?_ (hS := by refine num_call _ _ _ _ ?_ ?_ ?_ <;> exact cO) | refine IL.cSF ttok ent43 [.own] true ?_ (hS := by exact error_call _ _ _) | refine IL.cSF ttok ent94 [.own, .bor] true ?_ (hS := by refine text_call _ _ _ _ ?_ ?_ ?_ <;> exact cO) | refine IL.cSF ttok ent95 [.own] true ?_ (hS := by refine get_call _ _ _ ?_ ?_ <;> exact cO) | ((first | ((first | refine IL.ag (fun h => ?_) (fun h => ?_) | refine IL.ap (fun h => ?_) (fun h => ?_)); (fail_if_success (focus (simp only [reduceCtorEq] at h)))) | refine WK.cn (fun h => ?_) (fun h => ?_)); all_goals first | (simp only [reduceCtorEq] at h; done) | (simp only [hsA, hsD, hsE, ne_eq] at h; first | done | (exfalso; omega; done) | skip) | skip))
      all_goals try ((first | refine WK.ret ⟨.inr rfl, ?_⟩ | refine ⟨.inl rfl, ?_⟩ | refine ⟨.inl trivial, ?_⟩); refine Fin.o ?_ ?_ (h1 := by first | rfl | (simp only [go_sem, show Tryz.f70.results.toList = [.cell 2 79] from rfl, reduceIte] <;> rfl)); rotate_left 1; (focus (first | rfl | skip)); all_goals try with_reducible rfl)
      all_goals rfl
  · have e0 : rOpE l k (rOpV k (p1, e1) l) = fin3 ⟨k, 0, 0, 0, [], [], q⟩ (p5, e5) := by simp [rOpE, rOpV, hrq, hk4.1, hk4.2.1, hk4.2.2]
    rw [e0]
    unfold fin3
    by_cases h0 : e5 = 0
    · rw [if_pos h0]
      refine SCall.of_body' (TT := TT) (fun k => decide (k < 1)) [false] ttok Tryz.func70 rfl (Nat.le_of_ble_eq_true rfl) rfl fun fx hfx => WK.top ?_
      simp only [impl, imp, argT, List.append_nil, List.map_nil, List.map_cons, List.nil_append, List.cons_append, List.length_cons, List.length_nil, show Tryz.f70.ntmps = 52 from rfl, Nat.zero_add, Nat.reduceAdd]
      have FX := And.intro hk hrq
      repeat' (first | (refine WK.empRow (σ' := ?_) ttok 2 5 156 rfl rfl rfl rfl ?_ ?_; rotate_left 1; (focus (simp only [go_sem, nilRow, List.set_cons_zero, List.set_cons_succ, List.cons_append, List.nil_append, reduceIte]; rfl))) | refine WK.seq ?_ | refine WK.reg ?_ | refine IL.nil ?_ | refine WK.skip ?_ | refine WK.block ?_ | (with_reducible refine IL.wr ?_ ?_; focus exact cW) | refine IL.sgF ttok ?_ | refine IL.nn ?_ | refine IL.cSF ttok ent42 [.own, .bor] true ?_ (hS := by refine num_call _ _ _ _ ?_ ?_ ?_ <;> exact cO) | refine IL.cSF ttok ent43 [.own] true ?_ (hS := by exact error_call _ _ _) | refine IL.cSF ttok ent94 [.own, .bor] true ?_ (hS := by refine text_call _ _ _ _ ?_ ?_ ?_ <;> exact cO) | refine IL.cSF ttok ent95 [.own] true ?_ (hS := by refine get_call _ _ _ ?_ ?_ <;> exact cO) | ((first | ((first | refine IL.ag (fun h => ?_) (fun h => ?_) | refine IL.ap (fun h => ?_) (fun h => ?_)); (fail_if_success (focus (simp only [reduceCtorEq] at h)))) | refine WK.cn (fun h => ?_) (fun h => ?_)); all_goals first | (simp only [reduceCtorEq] at h; done) | (simp only [hsA, hsD, hsE, ne_eq] at h; first | done | (exfalso; omega; done) | skip) | skip))
      all_goals try ((first | refine WK.ret ⟨.inr rfl, ?_⟩ | refine ⟨.inl rfl, ?_⟩ | refine ⟨.inl trivial, ?_⟩); refine Fin.o ?_ ?_ (h1 := by first | rfl | (simp only [go_sem, show Tryz.f70.results.toList = [.cell 2 79] from rfl, reduceIte] <;> rfl)); rotate_left 1; (focus (first | rfl | skip)); all_goals try with_reducible rfl)
      all_goals rfl
    · rw [if_neg h0]
      unfold opZ
      refine SCall.of_body' (TT := TT) (fun k => decide (k < 1)) [false] ttok Tryz.func70 rfl (Nat.le_of_ble_eq_true rfl) rfl fun fx hfx => WK.top ?_
      simp only [impl, imp, argT, List.append_nil, List.map_nil, List.map_cons, List.nil_append, List.cons_append, List.length_cons, List.length_nil, show Tryz.f70.ntmps = 52 from rfl, Nat.zero_add, Nat.reduceAdd]
      have FX := And.intro hk hrq
      repeat' (first | (refine WK.empRow (σ' := ?_) ttok 2 5 156 rfl rfl rfl rfl ?_ ?_; rotate_left 1; (focus (simp only [go_sem, nilRow, List.set_cons_zero, List.set_cons_succ, List.cons_append, List.nil_append, reduceIte]; rfl))) | refine WK.seq ?_ | refine WK.reg ?_ | refine IL.nil ?_ | refine WK.skip ?_ | refine WK.block ?_ | (with_reducible refine IL.wr ?_ ?_; focus exact cW) | refine IL.sgF ttok ?_ | refine IL.nn ?_ | refine IL.cSF ttok ent42 [.own, .bor] true ?_ (hS := by refine num_call _ _ _ _ ?_ ?_ ?_ <;> exact cO) | refine IL.cSF ttok ent43 [.own] true ?_ (hS := by exact error_call _ _ _) | refine IL.cSF ttok ent94 [.own, .bor] true ?_ (hS := by refine text_call _ _ _ _ ?_ ?_ ?_ <;> exact cO) | refine IL.cSF ttok ent95 [.own] true ?_ (hS := by refine get_call _ _ _ ?_ ?_ <;> exact cO) | ((first | ((first | refine IL.ag (fun h => ?_) (fun h => ?_) | refine IL.ap (fun h => ?_) (fun h => ?_)); (fail_if_success (focus (simp only [reduceCtorEq] at h)))) | refine WK.cn (fun h => ?_) (fun h => ?_)); all_goals first | (simp only [reduceCtorEq] at h; done) | (simp only [hsA, hsD, hsE, ne_eq] at h; first | done | (exfalso; omega; done) | skip) | skip))
      all_goals try ((first | refine WK.ret ⟨.inr rfl, ?_⟩ | refine ⟨.inl rfl, ?_⟩ | refine ⟨.inl trivial, ?_⟩); refine Fin.o ?_ ?_ (h1 := by first | rfl | (simp only [go_sem, show Tryz.f70.results.toList = [.cell 2 79] from rfl, reduceIte] <;> rfl)); rotate_left 1; (focus (first | rfl | skip)); all_goals try with_reducible rfl)
      all_goals rfl
end Go.Proofs.YtclhjcbnpdlgbaaGreatDoor
/- package op: writing an operation. -/
namespace Go.Proofs.YtclhjcbnpdlgbaaGreatDoor
open Go Go.Lift
set_option maxHeartbeats 8000000
set_option linter.unusedSimpArgs false
set_option linter.unusedVariables false
attribute [local irreducible] WK IL IP IG IW DW

theorem putW_call (V : List UInt8) (l : List Sp) (hV : V.length ≤ 10000000) (hl : l.length ≤ 100000) (hf : ∀ s ∈ l, fits s) (n : Nat) (hn : n = l.length) : SCall Tryz.prog 86 [wrO V, .tr n (encs spC l)] (.tup []) [wrO (V ++ numB l.length ++ spsB l), .tr n (encs spC l)] := by
  subst hn
  have hn0 := numB_le 9 l.length (by omega)
  have hV0 : (V ++ numB l.length).length ≤ 10000010 := by rw [List.length_append]; omega
  have hm0 : l.length % 9223372036854775808 = l.length := Nat.mod_eq_of_lt (by omega)
  refine SCall.of_body' (TT := TT) (fun k => decide (k < 1)) [false, false] ttok Tryz.func86 rfl (Nat.le_of_ble_eq_true rfl) rfl fun fx hfx => WK.top ?_
  simp only [impl, imp, argT, List.append_nil, List.map_nil, List.map_cons, List.nil_append, List.cons_append, List.length_cons, List.length_nil, show Tryz.f86.ntmps = 35 from rfl, Nat.zero_add, Nat.reduceAdd]
  have FX := hm0
  repeat' (first | refine WK.seq ?_ | refine WK.reg ?_ | refine IL.nil ?_ | refine WK.skip ?_ | refine WK.block ?_ | refine WK.exit_here ?_ | refine WK.e1 ?_ | refine WK.e2 ?_ | (with_reducible refine IL.wr ?_ ?_; focus exact cW) | refine IL.sgF ttok ?_ | refine IL.cSF ttok ent31 [.own, .bor] true ?_ (hS := by refine wnum_call _ _ ?_ ?_ <;> exact cO) | (refine WK.cn (fun h => ?_) (fun h => ?_); all_goals first | (simp only [reduceCtorEq] at h; done) | (simp only [hsA, hsD, hsE, ne_eq] at h; first | done | (exfalso; omega; done) | skip) | skip))
  refine WK.forS l.length (fun k => True) (fun k => ⟨35, [(0, .ptr 0 0 0), (1, .tr l.length (encs spC l)), (11, .tr l.length (encs spC l)), (12, .v (.int .i64 l.length)), (13, .v (.int .i64 k))], [some ⟨false, 0, 1, false, [.sl 1 0 0 (V ++ numB l.length ++ spsB (l.take k)).length], 0, false⟩, some ⟨true, 5, (V ++ numB l.length ++ spsB (l.take k)).length, true, bcells (V ++ numB l.length ++ spsB (l.take k)), 0, false⟩]⟩) ⟨trivial, ?_⟩ (fun k hk ho => ?_) (fun ho => ?_)
  · have e0 : V ++ numB l.length ++ spsB (l.take 0) = V ++ numB l.length := by simp [spsB]
    rw [e0]
    (refine Weak.renP 1 [0, 2] hfx (fun k h => of_decide_eq_true h) (fun k hk => by obtain rfl : k = 0 := (by omega); exact ⟨rfl, _, rfl, rfl⟩) rfl ?_ ?_ rfl <;> (simp only [go_sem, reduceIte, exists_eq_left', exists_eq_left, Blk.mk.injEq] <;> (try and_intros) <;> first | rfl | omega))
  · have hx : l[k]? = some l[k] := List.getElem?_eq_getElem hk
    have htk := spsB_take l k _ hx
    have hlk := spsB_len (l.take k) fun s hs => hf s (List.mem_of_mem_take hs)
    rw [List.length_take] at hlk
    have hfk := hf l[k] (List.getElem_mem hk)
    generalize l[k] = s at *
    obtain ⟨a, b, c, rfl, h1, h2, h3, h4, h5⟩ := fits_nat hfk
    have hle : k * 3 + 3 ≤ l.length * 3 := by omega
    have hat : ((encs spC l).drop (k * 3)).take 3 = [.v (.int .u16 (a : Int)), .v (.int .u32 (b : Int)), .v (.int .i64 (c : Int))] := encs_at spC_length hx
    have hne : encs spC l ≠ [] := encs_ne spC_length (by decide) hx
    have ma : a % 9223372036854775808 = a := Nat.mod_eq_of_lt (by omega)
    have mb : b % 9223372036854775808 = b := Nat.mod_eq_of_lt (by omega)
    have mc : c % 9223372036854775808 = c := Nat.mod_eq_of_lt (by omega)
    have e1 := numB_le 9 a (by omega)
    have e2 := numB_le 9 b (by omega)
    have hW : V ++ numB l.length ++ spsB (l.take (k + 1)) = V ++ numB l.length ++ spsB (l.take k) ++ numB a ++ numB b ++ numB c := by rw [htk]; simp [spB]
    have hWl : (V ++ numB l.length ++ spsB (l.take k)).length ≤ 14100010 := by rw [List.length_append]; omega
    have hWl1 : (V ++ numB l.length ++ spsB (l.take k) ++ numB a).length ≤ 14100020 := by rw [List.length_append]; omega
    have hWl2 : (V ++ numB l.length ++ spsB (l.take k) ++ numB a ++ numB b).length ≤ 14100030 := by rw [List.length_append]; omega
    rw [hW]
    generalize V ++ numB l.length ++ spsB (l.take k) = W at *
    have FX := And.intro hat (And.intro hle (And.intro ma (And.intro mb mc)))
    repeat' (first | refine WK.seq ?_ | refine WK.reg ?_ | refine IL.nil ?_ | refine WK.skip ?_ | refine WK.block ?_ | refine WK.exit_here ?_ | refine WK.e1 ?_ | refine WK.e2 ?_ | (with_reducible refine IL.wr ?_ ?_; focus exact cW) | refine IL.sgF ttok ?_ | refine IL.cSF ttok ent31 [.own, .bor] true ?_ (hS := by refine wnum_call _ _ ?_ ?_ <;> exact cO) | (refine WK.cn (fun h => ?_) (fun h => ?_); all_goals first | (simp only [reduceCtorEq] at h; done) | (simp only [hsA, hsD, hsE, ne_eq] at h; first | done | (exfalso; omega; done) | skip) | skip))
    all_goals try ((first | refine WK.ret ⟨.inr rfl, ?_⟩ | refine ⟨.inl rfl, ?_⟩ | refine ⟨.inl trivial, ?_⟩); refine Fin.o ?_ ?_ (h1 := by first | rfl | (simp only [go_sem, show Tryz.f86.results.toList = [] from rfl, reduceIte] <;> rfl)); rotate_left 1; (focus (first | rfl | skip)); all_goals try with_reducible rfl)
    refine ⟨trivial, ?_⟩
    (refine Weak.renP 1 [0, 5] hfx (fun k h => of_decide_eq_true h) (fun k hk => by obtain rfl : k = 0 := (by omega); exact ⟨rfl, _, rfl, rfl⟩) rfl ?_ ?_ rfl <;> (simp only [go_sem, reduceIte, exists_eq_left', exists_eq_left, Blk.mk.injEq] <;> (try and_intros) <;> first | rfl | omega))
  · rw [List.take_length]
    repeat' (first | refine WK.seq ?_ | refine WK.reg ?_ | refine IL.nil ?_ | refine WK.skip ?_ | refine WK.block ?_ | refine WK.exit_here ?_ | refine WK.e1 ?_ | refine WK.e2 ?_ | (with_reducible refine IL.wr ?_ ?_; focus exact cW) | refine IL.sg ttok ?_ | refine IL.cS ttok ent31 [.own, .bor] true ?_ (hS := by refine wnum_call _ _ ?_ ?_ <;> exact cO) | (refine WK.cn (fun h => ?_) (fun h => ?_); all_goals first | (simp only [reduceCtorEq] at h; done) | (simp only [hsA, hsD, hsE, ne_eq] at h; first | done | (exfalso; omega; done) | skip) | skip))
    all_goals try ((first | refine WK.ret ⟨.inr rfl, ?_⟩ | refine ⟨.inl rfl, ?_⟩ | refine ⟨.inl trivial, ?_⟩); refine Fin.o ?_ ?_ (h1 := by first | rfl | (simp only [go_sem, show Tryz.f86.results.toList = [] from rfl, reduceIte] <;> rfl)); rotate_left 1; (focus (first | rfl | skip)); all_goals try with_reducible rfl)
    all_goals skip
def opB (k r n m : Nat) (t : List UInt8) (s : List Sp) (q : Nat) : List UInt8 :=
  if k = 1 then numB k ++ numB r ++ numB n ++ numB m ++ numB t.length ++ t
  else if k = 2 then numB k ++ numB s.length ++ spsB s
  else if k = 3 then numB k ++ numB r ++ numB n ++ numB m ++ numB s.length ++ spsB s
  else numB k ++ numB q
end Go.Proofs.YtclhjcbnpdlgbaaGreatDoor
/- The document's Fit of spans; the names of spans. -/
namespace Go.Proofs.YtclhjcbnpdlgbaaGreatDoor
open Go Go.Lift
set_option maxHeartbeats 4000000
set_option linter.unusedSimpArgs false
set_option linter.unusedVariables false
attribute [local irreducible] WK IL IP IG IW DW

def meetI (a b : Sp) : Prop := a.1 = b.1 ∧ a.2.1 < b.2.1 + b.2.2 ∧ b.2.1 < a.2.1 + a.2.2
instance (a b : Sp) : Decidable (meetI a b) := by unfold meetI; infer_instance
theorem meet_call (r n c r' n' c' : Int) (h1 : rightI (r, n, c)) (h2 : rightI (r', n', c')) : SCall Tryz.prog 110 [.agg [.v (.int .u16 r), .v (.int .u32 n), .v (.int .i64 c)], .agg [.v (.int .u16 r'), .v (.int .u32 n'), .v (.int .i64 c')]] (.v (.bool (decide (meetI (r, n, c) (r', n', c'))))) [.agg [.v (.int .u16 r), .v (.int .u32 n), .v (.int .i64 c)], .agg [.v (.int .u16 r'), .v (.int .u32 n'), .v (.int .i64 c')]] := by
  unfold rightI at h1 h2
  simp only at h1 h2
  refine SCall.of_body' (TT := TT) (fun _ => false) [false, false] ttok Tryz.func110 rfl (Nat.le_of_ble_eq_true rfl) rfl fun fx hfx => WK.top ?_
  simp only [impl, imp, argT, List.append_nil, List.map_nil, List.nil_append, show Tryz.f110.ntmps = 40 from rfl, Nat.zero_add, Nat.reduceAdd]
  repeat' (first | refine WK.seq ?_ | refine WK.reg ?_ | refine IL.nil ?_ | (with_reducible refine IL.wr ?_ ?_; focus exact cW) | refine IL.sg ttok ?_ | refine IL.nn ?_ | (((first | refine IL.ag (fun h => ?_) (fun h => ?_) | refine IL.ap (fun h => ?_) (fun h => ?_)); (fail_if_success (focus (simp only [reduceCtorEq] at h)))); all_goals first | (simp only [reduceCtorEq] at h; done) | (simp only [hsA, hsD, hsE, ne_eq] at h; first | done | (exfalso; omega; done) | skip) | skip))
  all_goals try ((first | refine WK.ret ⟨.inr rfl, ?_⟩ | refine ⟨.inl rfl, ?_⟩ | refine ⟨.inl trivial, ?_⟩); refine Fin.o ?_ ?_ (h1 := by first | rfl | (simp only [go_sem, show Tryz.f110.results.toList = [.tmp 4] from rfl, reduceIte] <;> rfl)); rotate_left 1; (focus (first | rfl | skip)); all_goals try with_reducible rfl)
  all_goals grind [meetI]
def apartI (l : List Sp) : Prop := ∀ i (hi : i < l.length) k (hk : k < i), ¬ meetI l[i] (l[k]'(by omega))
open Classical in
theorem apart_call (l : List Sp) (nn : Nat) (hnn : nn = l.length) (hl : l.length ≤ 100000) (hr : ∀ s ∈ l, rightI s) : SCall Tryz.prog 102 [.tr nn (encs spC l)] (.v (.bool (decide (apartI l)))) [.tr nn (encs spC l)] := by
  subst hnn
  refine SCall.of_body' (TT := TT) (fun _ => false) [false] ttok Tryz.func102 rfl (Nat.le_of_ble_eq_true rfl) rfl fun fx hfx => WK.top ?_
  simp only [impl, imp, argT, List.append_nil, List.map_nil, List.nil_append, show Tryz.f102.ntmps = 25 from rfl, Nat.zero_add, Nat.reduceAdd]
  repeat' (first | refine WK.seq ?_ | refine WK.reg ?_ | refine IL.nil ?_ | refine WK.skip ?_ | refine WK.block ?_ | refine WK.exit_here ?_ | refine WK.e1 ?_ | refine WK.e2 ?_ | refine WK.drawnS (id := 7) mixed [] [8] [0, 0, 0, 0, 0, 0, 0, 0, 0] [0, 0, 0, 0, 0, 0, 0, 0, 0] (by decide +kernel) ?_ | refine DW.nil ?_ | (with_reducible refine IL.wr ?_ ?_; focus exact cW) | (with_reducible refine DW.wr ?_ ?_; focus exact cW) | refine IL.sg ttok ?_ | refine DW.re ttok ?_ | refine DW.rm ttok ?_ | refine DW.cS ttok ent110 [.bor, .bor] true ?_ (hS := by refine meet_call _ _ _ _ _ _ ?_ ?_ <;> exact cO) | (refine WK.cn (fun h => ?_) (fun h => ?_); all_goals first | (simp only [reduceCtorEq] at h; done) | (simp only [hsA, hsD, hsE, ne_eq] at h; first | done | (exfalso; omega; done) | skip) | skip))
  refine WK.forS l.length (fun i => ∀ i' (hi : i' < l.length) k (hk : k < i'), i' < i → ¬ meetI l[i'] (l[k]'(by omega))) (fun i => ⟨25, [(0, .tr l.length (encs spC l)), (3, .v (.int .i64 i))], []⟩) ⟨by intros; omega, ?_⟩ (fun i hi ho => ?_) (fun ho => ?_)
  · (refine Weak.cut' rfl rfl ?_; exact cA)
  · repeat' (first | refine WK.seq ?_ | refine WK.reg ?_ | refine IL.nil ?_ | refine WK.skip ?_ | refine WK.block ?_ | refine WK.exit_here ?_ | refine WK.e1 ?_ | refine WK.e2 ?_ | refine WK.drawnS (id := 7) mixed [] [8] [0, 0, 0, 0, 0, 0, 0, 0, 0] [0, 0, 0, 0, 0, 0, 0, 0, 0] (by decide +kernel) ?_ | refine DW.nil ?_ | (with_reducible refine IL.wr ?_ ?_; focus exact cW) | (with_reducible refine DW.wr ?_ ?_; focus exact cW) | refine IL.sg ttok ?_ | refine DW.re ttok ?_ | refine DW.rm ttok ?_ | refine DW.cS ttok ent110 [.bor, .bor] true ?_ (hS := by refine meet_call _ _ _ _ _ _ ?_ ?_ <;> exact cO) | (refine WK.cn (fun h => ?_) (fun h => ?_); all_goals first | (simp only [reduceCtorEq] at h; done) | (simp only [hsA, hsD, hsE, ne_eq] at h; first | done | (exfalso; omega; done) | skip) | skip))
    refine WK.forS i (fun k => ∀ k' (hk : k' < i), k' < k → ¬ meetI l[i] (l[k']'(by omega))) (fun k => ⟨25, [(0, .tr l.length (encs spC l)), (3, .v (.int .i64 i)), (4, .v (.int .i64 k))], []⟩) ⟨by intros; omega, ?_⟩ (fun k hk ho2 => ?_) (fun ho2 => ?_)
    · (refine Weak.cut' rfl rfl ?_; exact cA)
    · have hx : l[i]? = some l[i] := List.getElem?_eq_getElem hi
      have hy : l[k]? = some (l[k]'(by omega)) := List.getElem?_eq_getElem _
      have hra := hr _ (List.getElem_mem hi)
      have hrb := hr _ (List.getElem_mem (show k < l.length by omega))
      have hbad : meetI l[i] (l[k]'(by omega)) → ¬ apartI l := fun h ha => ha i hi k hk h
      have hgo : ¬ meetI l[i] (l[k]'(by omega)) → ∀ k' (hk' : k' < i), k' < k + 1 → ¬ meetI l[i] (l[k']'(by omega)) := fun h k' hk' h1 => by
        rcases Nat.lt_succ_iff_lt_or_eq.1 h1 with h2 | h2
        · exact ho2 k' hk' h2
        · subst h2; exact h
      generalize l[i] = a at *
      generalize (l[k]'(by omega)) = b at *
      obtain ⟨r, n, c⟩ := a
      obtain ⟨r', n', c'⟩ := b
      have hle : i * 3 + 3 ≤ l.length * 3 := by omega
      have hle2 : k * 3 + 3 ≤ l.length * 3 := by omega
      have hat : ((encs spC l).drop (i * 3)).take 3 = [.v (.int .u16 r), .v (.int .u32 n), .v (.int .i64 c)] := encs_at spC_length hx
      have hat2 : ((encs spC l).drop (k * 3)).take 3 = [.v (.int .u16 r'), .v (.int .u32 n'), .v (.int .i64 c')] := encs_at spC_length hy
      have hne : encs spC l ≠ [] := encs_ne spC_length (by decide) hx
      have FX := And.intro hat (And.intro hle (And.intro hat2 hle2))
      repeat' (first | refine WK.seq ?_ | refine WK.reg ?_ | refine IL.nil ?_ | refine WK.skip ?_ | refine WK.block ?_ | refine WK.exit_here ?_ | refine WK.e1 ?_ | refine WK.e2 ?_ | refine WK.drawnS (id := 7) mixed [] [8] [0, 0, 0, 0, 0, 0, 0, 0, 0] [0, 0, 0, 0, 0, 0, 0, 0, 0] (by decide +kernel) ?_ | refine DW.nil ?_ | (with_reducible refine IL.wr ?_ ?_; focus exact cW) | (with_reducible refine DW.wr ?_ ?_; focus exact cW) | refine IL.sgF ttok ?_ | refine DW.reF ttok ?_ | refine DW.rmF ttok ?_ | refine DW.cSF ttok ent110 [.bor, .bor] true ?_ (hS := by refine meet_call _ _ _ _ _ _ ?_ ?_ <;> exact cO) | (refine WK.cn (fun h => ?_) (fun h => ?_); all_goals first | (simp only [reduceCtorEq] at h; done) | (simp only [hsA, hsD, hsE, ne_eq] at h; first | done | (exfalso; omega; done) | skip) | skip))
      all_goals try ((first | refine WK.ret ⟨.inr rfl, ?_⟩ | refine ⟨.inl rfl, ?_⟩ | refine ⟨.inl trivial, ?_⟩); refine Fin.o ?_ ?_ (h1 := by first | rfl | (simp only [go_sem, show Tryz.f102.results.toList = [.tmp 2] from rfl, reduceIte] <;> rfl)); rotate_left 1; (focus (first | rfl | skip)); all_goals try with_reducible rfl)
      · rw [decide_eq_false (hbad (by assumption))]
      · refine ⟨hgo (by assumption), ?_⟩
        (refine Weak.cut' rfl rfl ?_; exact cA)
    · repeat' (first | refine WK.seq ?_ | refine WK.reg ?_ | refine IL.nil ?_ | refine WK.skip ?_ | refine WK.block ?_ | refine WK.exit_here ?_ | refine WK.e1 ?_ | refine WK.e2 ?_ | refine WK.drawnS (id := 7) mixed [] [8] [0, 0, 0, 0, 0, 0, 0, 0, 0] [0, 0, 0, 0, 0, 0, 0, 0, 0] (by decide +kernel) ?_ | refine DW.nil ?_ | (with_reducible refine IL.wr ?_ ?_; focus exact cW) | (with_reducible refine DW.wr ?_ ?_; focus exact cW) | refine IL.sg ttok ?_ | refine DW.re ttok ?_ | refine DW.rm ttok ?_ | refine DW.cS ttok ent110 [.bor, .bor] true ?_ (hS := by refine meet_call _ _ _ _ _ _ ?_ ?_ <;> exact cO) | (refine WK.cn (fun h => ?_) (fun h => ?_); all_goals first | (simp only [reduceCtorEq] at h; done) | (simp only [hsA, hsD, hsE, ne_eq] at h; first | done | (exfalso; omega; done) | skip) | skip))
      all_goals try ((first | refine WK.ret ⟨.inr rfl, ?_⟩ | refine ⟨.inl rfl, ?_⟩ | refine ⟨.inl trivial, ?_⟩); refine Fin.o ?_ ?_ (h1 := by first | rfl | (simp only [go_sem, show Tryz.f102.results.toList = [.tmp 2] from rfl, reduceIte] <;> rfl)); rotate_left 1; (focus (first | rfl | skip)); all_goals try with_reducible rfl)
      refine ⟨fun i' hi' k hk h1 => by
        rcases Nat.lt_succ_iff_lt_or_eq.1 h1 with h2 | h2
        · exact ho i' hi' k hk h2
        · subst h2; exact ho2 k hk hk, ?_⟩
      (refine Weak.cut' rfl rfl ?_; exact cA)
  · repeat' (first | refine WK.seq ?_ | refine WK.reg ?_ | refine IL.nil ?_ | refine WK.skip ?_ | refine WK.block ?_ | refine WK.exit_here ?_ | refine WK.e1 ?_ | refine WK.e2 ?_ | refine WK.drawnS (id := 7) mixed [] [8] [0, 0, 0, 0, 0, 0, 0, 0, 0] [0, 0, 0, 0, 0, 0, 0, 0, 0] (by decide +kernel) ?_ | refine DW.nil ?_ | (with_reducible refine IL.wr ?_ ?_; focus exact cW) | (with_reducible refine DW.wr ?_ ?_; focus exact cW) | refine IL.sg ttok ?_ | refine DW.re ttok ?_ | refine DW.rm ttok ?_ | refine DW.cS ttok ent110 [.bor, .bor] true ?_ (hS := by refine meet_call _ _ _ _ _ _ ?_ ?_ <;> exact cO) | (refine WK.cn (fun h => ?_) (fun h => ?_); all_goals first | (simp only [reduceCtorEq] at h; done) | (simp only [hsA, hsD, hsE, ne_eq] at h; first | done | (exfalso; omega; done) | skip) | skip))
    all_goals try ((first | refine WK.ret ⟨.inr rfl, ?_⟩ | refine ⟨.inl rfl, ?_⟩ | refine ⟨.inl trivial, ?_⟩); refine Fin.o ?_ ?_ (h1 := by first | rfl | (simp only [go_sem, show Tryz.f102.results.toList = [.tmp 2] from rfl, reduceIte] <;> rfl)); rotate_left 1; (focus (first | rfl | skip)); all_goals try with_reducible rfl)
    have ha : apartI l := fun i hi k hk => ho i hi k hk hi
    rw [decide_eq_true ha]
def fit7Go : List Sp → Int → Int
  | [], _ => 0
  | s :: r, n => if rightI s then (if 1024 < n + s.2.2 then 15 else fit7Go r (n + s.2.2)) else 11
theorem fit7Go_ok : ∀ (l : List Sp) (n : Int), n ≤ 1024 → fit7Go l n = 0 → (∀ s ∈ l, rightI s) ∧ n + tot l ≤ 1024
  | [], n, hn, _ => ⟨by simp, by simp [tot]; omega⟩
  | s :: r, n, hn, h => by
    rw [fit7Go] at h
    split at h
    · rename_i h1
      split at h
      · cases h
      · rename_i h2
        obtain ⟨g1, g2⟩ := fit7Go_ok r (n + s.2.2) (by omega) h
        refine ⟨fun x hx => ?_, ?_⟩
        · rcases List.mem_cons.1 hx with rfl | hx
          · exact h1
          · exact g1 x hx
        · simp only [tot, List.map_cons, List.sum_cons] at g2 ⊢; omega
    · cases h
open Classical in
noncomputable def fit7 (l : List Sp) : Int := if l = [] then 11 else if fit7Go l 0 = 0 then (if apartI l then 0 else 16) else fit7Go l 0
theorem fit7_ok {l : List Sp} (h : fit7 l = 0) : (∀ s ∈ l, rightI s) ∧ tot l ≤ 1024 := by
  unfold fit7 at h
  split at h
  · cases h
  · split at h
    · rename_i h2
      have := fit7Go_ok l 0 (by decide) h2
      exact ⟨this.1, by omega⟩
    · rename_i h2; exact absurd h h2
theorem fit7_call (l : List Sp) (nn : Nat) (hnn : nn = l.length) (hl : l.length ≤ 1024) : SCall Tryz.prog 84 [.tr nn (encs spC l)] (.v (.int .i64 (fit7 l))) [.tr nn (encs spC l)] := by
  subst hnn
  by_cases hnil : l = []
  · subst hnil
    have e : fit7 [] = 11 := by simp [fit7]
    rw [e]
    refine SCall.of_body' (TT := TT) (fun _ => false) [false] ttok Tryz.func84 rfl (Nat.le_of_ble_eq_true rfl) rfl fun fx hfx => WK.top ?_
    simp only [impl, imp, argT, List.append_nil, List.map_nil, List.nil_append, show Tryz.f84.ntmps = 35 from rfl, Nat.zero_add, Nat.reduceAdd]
    repeat' (first | refine WK.seq ?_ | refine WK.reg ?_ | refine IL.nil ?_ | refine WK.skip ?_ | refine WK.block ?_ | refine WK.exit_here ?_ | refine WK.e1 ?_ | refine WK.e2 ?_ | (with_reducible refine IL.wr ?_ ?_; focus exact cW) | refine IL.sg ttok ?_ (h := by intro K hK; simp only [go_sem, reduceIte, List.length_nil]; exact cK hK) | refine IL.cS ttok ent101 [.bor] true ?_ (hA := by first | rfl | (simp only [go_sem, reduceIte, List.length_nil] <;> rfl)) (hS := by exact refRight_call (_, _, _)) (hi := by first | rfl | (simp only [go_sem, reduceIte, List.length_nil] <;> rfl)) (hK := by intro K hK; simp only [go_sem, reduceIte, List.length_nil]; exact cK hK) | refine IL.cS ttok ent102 [.bor] true ?_ (hA := by first | rfl | (simp only [go_sem, reduceIte, List.length_nil] <;> rfl)) (hS := by refine apart_call _ _ ?_ ?_ ?_ <;> exact cO) (hi := by first | rfl | (simp only [go_sem, reduceIte, List.length_nil] <;> rfl)) (hK := by intro K hK; simp only [go_sem, reduceIte, List.length_nil]; exact cK hK) | (refine WK.cn (fun h => ?_) (fun h => ?_); all_goals first | (simp only [reduceCtorEq] at h; done) | (simp only [hsA, hsD, hsE, ne_eq] at h; first | done | (exfalso; omega; done) | skip) | skip))
    all_goals try ((first | refine WK.ret ⟨.inr rfl, ?_⟩ | refine ⟨.inl rfl, ?_⟩ | refine ⟨.inl trivial, ?_⟩); refine Fin.o ?_ ?_ (h1 := by first | rfl | (simp only [go_sem, show Tryz.f84.results.toList = [.tmp 2] from rfl, reduceIte] <;> rfl)); rotate_left 1; (focus (first | rfl | skip)); all_goals try with_reducible rfl)
  · have hpos : 0 < l.length := List.length_pos_iff.2 hnil
    refine SCall.of_body' (TT := TT) (fun _ => false) [false] ttok Tryz.func84 rfl (Nat.le_of_ble_eq_true rfl) rfl fun fx hfx => WK.top ?_
    simp only [impl, imp, argT, List.append_nil, List.map_nil, List.nil_append, show Tryz.f84.ntmps = 35 from rfl, Nat.zero_add, Nat.reduceAdd]
    repeat' (first | refine WK.seq ?_ | refine WK.reg ?_ | refine IL.nil ?_ | refine WK.skip ?_ | refine WK.block ?_ | refine WK.exit_here ?_ | refine WK.e1 ?_ | refine WK.e2 ?_ | (with_reducible refine IL.wr ?_ ?_; focus exact cW) | refine IL.sg ttok ?_ | refine IL.cS ttok ent101 [.bor] true ?_ (hS := by exact refRight_call (_, _, _)) | refine IL.cS ttok ent102 [.bor] true ?_ (hS := by refine apart_call _ _ ?_ ?_ ?_ <;> exact cO) | (refine WK.cn (fun h => ?_) (fun h => ?_); all_goals first | (simp only [reduceCtorEq] at h; done) | (simp only [hsA, hsD, hsE, ne_eq] at h; first | done | (exfalso; omega; done) | skip) | skip))
    generalize hG : fit7Go l 0 = G
    have hfit : ¬ G = 0 → fit7 l = G := fun h => by unfold fit7; rw [if_neg hnil, if_neg (by rw [hG]; exact h), hG]
    have hfit0 : G = 0 → (apartI l → fit7 l = 0) ∧ (¬ apartI l → fit7 l = 16) := fun h => by
      unfold fit7; rw [if_neg hnil, if_pos (by rw [hG]; exact h)]
      exact ⟨fun h => if_pos h, fun h => if_neg h⟩
    refine WK.whileS (α := Nat × Int) (fun x => l.length - x.1) (fun x => x.1 ≤ l.length ∧ 0 ≤ x.2 ∧ x.2 ≤ 1024 ∧ fit7Go (l.drop x.1) x.2 = G)
      (fun x => ⟨35, [(0, .tr l.length (encs spC l)), (3, .v (.int .i64 x.2)), (4, .v (.int .i64 (x.1 : Int)))], []⟩) (0, 0) ⟨⟨Nat.zero_le _, by decide, by decide, by simpa using hG⟩, ?_⟩ ?_
    · (refine Weak.cut' rfl rfl ?_; exact cA)
    · rintro ⟨i, n⟩ ⟨hi, hn0, hn1, hg⟩
      simp only at hi hn0 hn1 hg ⊢
      rcases Nat.eq_or_lt_of_le hi with rfl | hi
      · rw [List.drop_length, fit7Go] at hg
        have hok := fit7Go_ok l 0 (by decide) (by rw [hG]; exact hg.symm)
        obtain ⟨w1, w2⟩ := hfit0 hg.symm
        have hokr := hok.1
        repeat' (first | refine WK.seq ?_ | refine WK.reg ?_ | refine IL.nil ?_ | refine WK.skip ?_ | refine WK.block ?_ | refine WK.exit_here ?_ | refine WK.e1 ?_ | refine WK.e2 ?_ | (with_reducible refine IL.wr ?_ ?_; focus exact cW) | refine IL.sg ttok ?_ | refine IL.cS ttok ent101 [.bor] true ?_ (hS := by exact refRight_call (_, _, _)) | refine IL.cS ttok ent102 [.bor] true ?_ (hS := by refine apart_call _ _ ?_ ?_ ?_ <;> exact cO) | (refine WK.cn (fun h => ?_) (fun h => ?_); all_goals first | (simp only [reduceCtorEq] at h; done) | (simp only [hsA, hsD, hsE, ne_eq] at h; first | done | (exfalso; omega; done) | skip) | skip))
        all_goals try ((first | refine WK.ret ⟨.inr rfl, ?_⟩ | refine ⟨.inl rfl, ?_⟩ | refine ⟨.inl trivial, ?_⟩); refine Fin.o ?_ ?_ (h1 := by first | rfl | (simp only [go_sem, show Tryz.f84.results.toList = [.tmp 2] from rfl, reduceIte] <;> rfl)); rotate_left 1; (focus (first | rfl | skip)); all_goals try with_reducible rfl)
        all_goals first | rw [w1 (by assumption)] | rw [w2 (by assumption)]
      · have hx : l[i]? = some l[i] := List.getElem?_eq_getElem hi
        rw [List.drop_eq_getElem_cons hi, fit7Go] at hg
        generalize l[i] = s at *
        obtain ⟨r, m, c⟩ := s
        have hle : i * 3 + 3 ≤ l.length * 3 := by omega
        have hat : ((encs spC l).drop (i * 3)).take 3 = [.v (.int .u16 r), .v (.int .u32 m), .v (.int .i64 c)] := encs_at spC_length hx
        have hg2 : (encs spC l)[i * 3 + 2]? = some (.v (.int .i64 c)) := encs_get spC_length hx (j := 2) (by decide)
        have hne : encs spC l ≠ [] := encs_ne spC_length (by decide) hx
        by_cases hri : rightI (r, m, c)
        · rw [if_pos hri] at hg
          simp only at hg
          have hri' := hri
          unfold rightI at hri'
          simp only at hri'
          have hd : decide (rightI (r, m, c)) = true := decide_eq_true hri
          by_cases hbig : 1024 < n + c
          · rw [if_pos hbig] at hg
            subst hg
            rw [hfit (by decide)]
            have FX := And.intro hat (And.intro hle (And.intro hg2 hd))
            repeat' (first | refine WK.seq ?_ | refine WK.reg ?_ | refine IL.nil ?_ | refine WK.skip ?_ | refine WK.block ?_ | refine WK.exit_here ?_ | refine WK.e1 ?_ | refine WK.e2 ?_ | (with_reducible refine IL.wr ?_ ?_; focus exact cW) | refine IL.sgF ttok ?_ | refine IL.cSF ttok ent101 [.bor] true ?_ (hS := by exact refRight_call (_, _, _)) | refine IL.cSF ttok ent102 [.bor] true ?_ (hS := by refine apart_call _ _ ?_ ?_ ?_ <;> exact cO) | (refine WK.cn (fun h => ?_) (fun h => ?_); all_goals first | (simp only [reduceCtorEq] at h; done) | (simp only [hsA, hsD, hsE, ne_eq] at h; first | done | (exfalso; omega; done) | skip) | skip))
            all_goals try ((first | refine WK.ret ⟨.inr rfl, ?_⟩ | refine ⟨.inl rfl, ?_⟩ | refine ⟨.inl trivial, ?_⟩); refine Fin.o ?_ ?_ (h1 := by first | rfl | (simp only [go_sem, show Tryz.f84.results.toList = [.tmp 2] from rfl, reduceIte] <;> rfl)); rotate_left 1; (focus (first | rfl | skip)); all_goals try with_reducible rfl)
          · rw [if_neg hbig] at hg
            have FX := And.intro hat (And.intro hle (And.intro hg2 hd))
            repeat' (first | refine WK.seq ?_ | refine WK.reg ?_ | refine IL.nil ?_ | refine WK.skip ?_ | refine WK.block ?_ | refine WK.exit_here ?_ | refine WK.e1 ?_ | refine WK.e2 ?_ | (with_reducible refine IL.wr ?_ ?_; focus exact cW) | refine IL.sgF ttok ?_ | refine IL.cSF ttok ent101 [.bor] true ?_ (hS := by exact refRight_call (_, _, _)) | refine IL.cSF ttok ent102 [.bor] true ?_ (hS := by refine apart_call _ _ ?_ ?_ ?_ <;> exact cO) | (refine WK.cn (fun h => ?_) (fun h => ?_); all_goals first | (simp only [reduceCtorEq] at h; done) | (simp only [hsA, hsD, hsE, ne_eq] at h; first | done | (exfalso; omega; done) | skip) | skip))
            refine ⟨(i + 1, n + c), by simp only; omega, ⟨by simp only; omega, by simp only; omega, by simp only; omega, hg⟩, ?_⟩
            (refine Weak.cut' rfl rfl ?_; exact cA)
        · rw [if_neg hri] at hg
          subst hg
          rw [hfit (by decide)]
          have hd : decide (rightI (r, m, c)) = false := decide_eq_false hri
          have FX := And.intro hat (And.intro hle (And.intro hg2 hd))
          repeat' (first | refine WK.seq ?_ | refine WK.reg ?_ | refine IL.nil ?_ | refine WK.skip ?_ | refine WK.block ?_ | refine WK.exit_here ?_ | refine WK.e1 ?_ | refine WK.e2 ?_ | (with_reducible refine IL.wr ?_ ?_; focus exact cW) | refine IL.sgF ttok ?_ | refine IL.cSF ttok ent101 [.bor] true ?_ (hS := by exact refRight_call (_, _, _)) | refine IL.cSF ttok ent102 [.bor] true ?_ (hS := by refine apart_call _ _ ?_ ?_ ?_ <;> exact cO) | (refine WK.cn (fun h => ?_) (fun h => ?_); all_goals first | (simp only [reduceCtorEq] at h; done) | (simp only [hsA, hsD, hsE, ne_eq] at h; first | done | (exfalso; omega; done) | skip) | skip))
          all_goals try ((first | refine WK.ret ⟨.inr rfl, ?_⟩ | refine ⟨.inl rfl, ?_⟩ | refine ⟨.inl trivial, ?_⟩); refine Fin.o ?_ ?_ (h1 := by first | rfl | (simp only [go_sem, show Tryz.f84.results.toList = [.tmp 2] from rfl, reduceIte] <;> rfl)); rotate_left 1; (focus (first | rfl | skip)); all_goals try with_reducible rfl)
def idOf (s : Sp) (k : Nat) : Nm := (s.1, s.2.1 + k)
def idsS (s : Sp) (c : Nat) : List Nm := (List.range c).map (idOf s)
def idsL (l : List Sp) : List Nm := l.flatMap fun s => idsS s s.2.2.toNat
theorem idsS_succ (s : Sp) (k : Nat) : idsS s (k + 1) = idsS s k ++ [idOf s k] := by simp [idsS, List.range_succ]
theorem idsS_len (s : Sp) (k : Nat) : (idsS s k).length = k := by simp [idsS]
theorem idsL_len : ∀ (l : List Sp), (∀ s ∈ l, rightI s) → ((idsL l).length : Int) = tot l
  | [], _ => rfl
  | s :: r, h => by
    have ih := idsL_len r fun x hx => h x (by simp [hx])
    have hs := h s (by simp)
    unfold rightI at hs
    simp only [idsL, List.flatMap_cons, List.length_append, idsS_len, tot, List.map_cons, List.sum_cons] at ih ⊢
    omega
theorem idsL_take (l : List Sp) (i : Nat) (s : Sp) (hx : l[i]? = some s) : idsL (l.take (i + 1)) = idsL (l.take i) ++ idsS s s.2.2.toNat := by
  rw [List.take_add_one, hx]; simp [idsL]
theorem idsL_take_le (l : List Sp) (i : Nat) : (idsL (l.take i)).length ≤ (idsL l).length := by
  have h : idsL l = idsL (l.take i) ++ idsL (l.drop i) := by
    unfold idsL; rw [← List.flatMap_append, List.take_append_drop]
  rw [h, List.length_append]; omega
theorem ids_call (l : List Sp) (nn : Nat) (hnn : nn = l.length) (hl : l.length ≤ 100000) (hr : ∀ s ∈ l, rightI s) (ht : tot l ≤ 100000) : SCall Tryz.prog 57 [.tr nn (encs spC l)] (.own 68 (idsL l).length true (encs nmC (idsL l))) [.tr nn (encs spC l)] := by
  subst hnn
  have hlen := idsL_len l hr
  refine SCall.of_body' (TT := TT) (fun _ => false) [false] ttok Tryz.func57 rfl (Nat.le_of_ble_eq_true rfl) rfl fun fx hfx => WK.top ?_
  simp only [impl, imp, argT, List.append_nil, List.map_nil, List.nil_append, show Tryz.f57.ntmps = 41 from rfl, Nat.zero_add, Nat.reduceAdd]
  repeat' (first | refine WK.seq ?_ | refine WK.reg ?_ | refine IL.nil ?_ | refine WK.skip ?_ | refine WK.block ?_ | refine WK.exit_here ?_ | refine WK.e1 ?_ | refine WK.e2 ?_ | refine WK.drawnS (id := 8) mixed [0] [17, 18] [0, 0, 0, 0, 0, 0, 0, 0, 0, 0, 0, 0, 0, 0, 0, 0, 0, 0, 1, 2] [1, 0, 0, 0, 0, 0, 0, 0, 0, 0, 0, 0, 0, 0, 0, 0, 0, 0, 1, 2] (by decide +kernel) ?_ | refine DW.nil ?_ | (with_reducible refine IL.wr ?_ ?_; focus exact cW) | (with_reducible refine DW.wr ?_ ?_; focus exact cW) | refine IL.sg ttok ?_ | refine DW.re ttok ?_ | refine DW.rm ttok ?_ | refine DW.bk ttok ?_ | (refine WK.cn (fun h => ?_) (fun h => ?_); all_goals first | (simp only [reduceCtorEq] at h; done) | (simp only [hsA, hsD, hsE, ne_eq] at h; first | done | (exfalso; omega; done) | skip) | skip))
  refine WK.forS l.length (fun i => True) (fun i => ⟨41, [(0, .tr l.length (encs spC l)), (3, .sl 0 0 0 (idsL (l.take i)).length), (4, .v (.int .i64 i))], [some ⟨true, 68, (idsL (l.take i)).length, true, encs nmC (idsL (l.take i)), 0, false⟩]⟩) ⟨trivial, ?_⟩ (fun i hi ho => ?_) (fun ho => ?_)
  · have e0 : idsL (l.take 0) = [] := rfl
    rw [e0]
    (refine Weak.renS [1] hfx rfl ?_ ?_ rfl <;> (simp only [go_sem, reduceIte, exists_eq_left', exists_eq_left, Blk.mk.injEq] <;> (try and_intros) <;> first | rfl | omega))
  · have hx : l[i]? = some l[i] := List.getElem?_eq_getElem hi
    have hri := hr _ (List.getElem_mem hi)
    have htk := idsL_take l i _ hx
    have hlk := idsL_take_le l i
    generalize l[i] = s at *
    obtain ⟨r, n, c⟩ := s
    unfold rightI at hri
    simp only at hri htk
    have hle : i * 3 + 3 ≤ l.length * 3 := by omega
    have hat : ((encs spC l).drop (i * 3)).take 3 = [.v (.int .u16 r), .v (.int .u32 n), .v (.int .i64 c)] := encs_at spC_length hx
    have hg0 : (encs spC l)[i * 3]? = some (.v (.int .u16 r)) := encs_get spC_length hx (j := 0) (by decide)
    have hg1 : (encs spC l)[i * 3 + 1]? = some (.v (.int .u32 n)) := encs_get spC_length hx (j := 1) (by decide)
    have hg2 : (encs spC l)[i * 3 + 2]? = some (.v (.int .i64 c)) := encs_get spC_length hx (j := 2) (by decide)
    have hne : encs spC l ≠ [] := encs_ne spC_length (by decide) hx
    have hce : ((c.toNat : Nat) : Int) = c := by omega
    generalize c.toNat = cn at *
    subst hce
    rw [htk]
    have hl0 : (idsL (l.take i)).length ≤ 100000 := by omega
    generalize idsL (l.take i) = out at *
    have FX := hg2
    repeat' (first | refine WK.seq ?_ | refine WK.reg ?_ | refine IL.nil ?_ | refine WK.skip ?_ | refine WK.block ?_ | refine WK.exit_here ?_ | refine WK.e1 ?_ | refine WK.e2 ?_ | refine WK.drawnS (id := 8) mixed [0] [17, 18] [0, 0, 0, 0, 0, 0, 0, 0, 0, 0, 0, 0, 0, 0, 0, 0, 0, 0, 1, 2] [1, 0, 0, 0, 0, 0, 0, 0, 0, 0, 0, 0, 0, 0, 0, 0, 0, 0, 1, 2] (by decide +kernel) ?_ | refine DW.nil ?_ | (with_reducible refine IL.wr ?_ ?_; focus exact cW) | (with_reducible refine DW.wr ?_ ?_; focus exact cW) | refine IL.sgF ttok ?_ | refine DW.reF ttok ?_ | refine DW.rmF ttok ?_ | refine DW.bkF ttok ?_ | (refine WK.cn (fun h => ?_) (fun h => ?_); all_goals first | (simp only [reduceCtorEq] at h; done) | (simp only [hsA, hsD, hsE, ne_eq] at h; first | done | (exfalso; omega; done) | skip) | skip))
    refine WK.forS cn (fun k => True) (fun k => ⟨41, [(0, .tr l.length (encs spC l)), (3, .sl 0 0 0 (out ++ idsS (r, n, (cn : Int)) k).length), (4, .v (.int .i64 i)), (5, .v (.int .i64 k))], [some ⟨true, 68, (out ++ idsS (r, n, (cn : Int)) k).length, true, encs nmC (out ++ idsS (r, n, (cn : Int)) k), 0, false⟩]⟩) ⟨trivial, ?_⟩ (fun k hk ho2 => ?_) (fun ho2 => ?_)
    · have e0 : out ++ idsS (r, n, (cn : Int)) 0 = out := by simp [idsS]
      rw [e0]
      (refine Weak.renS [0] hfx rfl ?_ ?_ rfl <;> (simp only [go_sem, reduceIte, exists_eq_left', exists_eq_left, Blk.mk.injEq] <;> (try and_intros) <;> first | rfl | omega))
    · have hW : out ++ idsS (r, n, (cn : Int)) (k + 1) = (out ++ idsS (r, n, (cn : Int)) k) ++ [(r, n + k)] := by rw [idsS_succ, ← List.append_assoc]; rfl
      have hWl : (out ++ idsS (r, n, (cn : Int)) k).length ≤ 102000 := by rw [List.length_append, idsS_len]; omega
      rw [hW]
      generalize out ++ idsS (r, n, (cn : Int)) k = W at *
      have hcs : encs nmC W ++ [.v (.int .u16 r), .v (.int .u32 (n + k))] = encs nmC (W ++ [(r, n + (k : Int))]) := encs_snoc (f := nmC) W (_, _)
      have hln : (W ++ [(r, n + (k : Int))]).length = W.length + 1 := by simp
      have FX := And.intro hat (And.intro hle (And.intro hg0 (And.intro hg1 hg2)))
      repeat' (first | refine WK.seq ?_ | refine WK.reg ?_ | refine IL.nil ?_ | refine WK.skip ?_ | refine WK.block ?_ | refine WK.exit_here ?_ | refine WK.e1 ?_ | refine WK.e2 ?_ | refine WK.drawnS (id := 8) mixed [0] [17, 18] [0, 0, 0, 0, 0, 0, 0, 0, 0, 0, 0, 0, 0, 0, 0, 0, 0, 0, 1, 2] [1, 0, 0, 0, 0, 0, 0, 0, 0, 0, 0, 0, 0, 0, 0, 0, 0, 0, 1, 2] (by decide +kernel) ?_ | refine DW.nil ?_ | (with_reducible refine IL.wr ?_ ?_; focus exact cW) | (with_reducible refine DW.wr ?_ ?_; focus exact cW) | refine IL.sgF ttok ?_ | refine DW.reF ttok ?_ | refine DW.rmF ttok ?_ | refine DW.bkF ttok ?_ | (refine WK.cn (fun h => ?_) (fun h => ?_); all_goals first | (simp only [reduceCtorEq] at h; done) | (simp only [hsA, hsD, hsE, ne_eq] at h; first | done | (exfalso; omega; done) | skip) | skip))
      all_goals try ((first | refine WK.ret ⟨.inr rfl, ?_⟩ | refine ⟨.inl rfl, ?_⟩ | refine ⟨.inl trivial, ?_⟩); refine Fin.o ?_ ?_ (h1 := by first | rfl | (simp only [go_sem, show Tryz.f57.results.toList = [.tmp 2] from rfl, reduceIte] <;> rfl)); rotate_left 1; (focus (first | rfl | skip)); all_goals try with_reducible rfl)
      refine ⟨trivial, ?_⟩
      (refine Weak.renS [0] hfx rfl ?_ ?_ rfl <;> (simp only [go_sem, reduceIte, exists_eq_left', exists_eq_left, Blk.mk.injEq, hcs, hln] <;> (try and_intros) <;> first | rfl | omega))
    · have FX := hg2
      repeat' (first | refine WK.seq ?_ | refine WK.reg ?_ | refine IL.nil ?_ | refine WK.skip ?_ | refine WK.block ?_ | refine WK.exit_here ?_ | refine WK.e1 ?_ | refine WK.e2 ?_ | refine WK.drawnS (id := 8) mixed [0] [17, 18] [0, 0, 0, 0, 0, 0, 0, 0, 0, 0, 0, 0, 0, 0, 0, 0, 0, 0, 1, 2] [1, 0, 0, 0, 0, 0, 0, 0, 0, 0, 0, 0, 0, 0, 0, 0, 0, 0, 1, 2] (by decide +kernel) ?_ | refine DW.nil ?_ | (with_reducible refine IL.wr ?_ ?_; focus exact cW) | (with_reducible refine DW.wr ?_ ?_; focus exact cW) | refine IL.sgF ttok ?_ | refine DW.reF ttok ?_ | refine DW.rmF ttok ?_ | refine DW.bkF ttok ?_ | (refine WK.cn (fun h => ?_) (fun h => ?_); all_goals first | (simp only [reduceCtorEq] at h; done) | (simp only [hsA, hsD, hsE, ne_eq] at h; first | done | (exfalso; omega; done) | skip) | skip))
      refine ⟨trivial, ?_⟩
      (refine Weak.renS [0] hfx rfl ?_ ?_ rfl <;> (simp only [go_sem, reduceIte, exists_eq_left', exists_eq_left, Blk.mk.injEq] <;> (try and_intros) <;> first | rfl | omega))
  · rw [List.take_length]
    repeat' (first | refine WK.seq ?_ | refine WK.reg ?_ | refine IL.nil ?_ | refine WK.skip ?_ | refine WK.block ?_ | refine WK.exit_here ?_ | refine WK.e1 ?_ | refine WK.e2 ?_ | refine WK.drawnS (id := 8) mixed [0] [17, 18] [0, 0, 0, 0, 0, 0, 0, 0, 0, 0, 0, 0, 0, 0, 0, 0, 0, 0, 1, 2] [1, 0, 0, 0, 0, 0, 0, 0, 0, 0, 0, 0, 0, 0, 0, 0, 0, 0, 1, 2] (by decide +kernel) ?_ | refine DW.nil ?_ | (with_reducible refine IL.wr ?_ ?_; focus exact cW) | (with_reducible refine DW.wr ?_ ?_; focus exact cW) | refine IL.sg ttok ?_ | refine DW.re ttok ?_ | refine DW.rm ttok ?_ | refine DW.bk ttok ?_ | (refine WK.cn (fun h => ?_) (fun h => ?_); all_goals first | (simp only [reduceCtorEq] at h; done) | (simp only [hsA, hsD, hsE, ne_eq] at h; first | done | (exfalso; omega; done) | skip) | skip))
    all_goals try ((first | refine WK.ret ⟨.inr rfl, ?_⟩ | refine ⟨.inl rfl, ?_⟩ | refine ⟨.inl trivial, ?_⟩); refine Fin.o ?_ ?_ (h1 := by first | rfl | (simp only [go_sem, show Tryz.f57.results.toList = [.tmp 2] from rfl, reduceIte] <;> rfl)); rotate_left 1; (focus (first | rfl | skip)); all_goals try with_reducible rfl)
    all_goals rfl
end Go.Proofs.YtclhjcbnpdlgbaaGreatDoor
/- The document's Fit of an operation. -/
namespace Go.Proofs.YtclhjcbnpdlgbaaGreatDoor
open Go Go.Lift
set_option maxHeartbeats 4000000
set_option linter.unusedSimpArgs false
set_option linter.unusedVariables false
attribute [local irreducible] WK IL IP IG IW DW

def plainT (t : List UInt8) : Prop := ∀ c ∈ t, c.toNat = 10 ∨ (32 ≤ c.toNat ∧ c.toNat ≤ 126)
instance (t : List UInt8) : Decidable (plainT t) := by unfold plainT; infer_instance
theorem plain_call (t : List UInt8) (ht : t.length ≤ 100000) : SCall Tryz.prog 81 [.v (.string ⟨t.toArray⟩)] (.v (.bool (decide (plainT t)))) [.v (.string ⟨t.toArray⟩)] := by
  refine SCall.of_body' (TT := TT) (fun _ => false) [false] ttok Tryz.func81 rfl (Nat.le_of_ble_eq_true rfl) rfl fun fx hfx => WK.top ?_
  simp only [impl, imp, argT, List.append_nil, List.map_nil, List.nil_append, show Tryz.f81.ntmps = 26 from rfl, Nat.zero_add, Nat.reduceAdd]
  repeat' (first | refine WK.seq ?_ | refine WK.reg ?_ | refine IL.nil ?_ | refine WK.skip ?_ | refine WK.block ?_ | refine WK.exit_here ?_ | refine WK.e1 ?_ | refine WK.e2 ?_ | (with_reducible refine IL.wr ?_ ?_; focus exact cW) | refine IL.sg ttok ?_ | refine IL.nn ?_ | ((first | ((first | refine IL.ag (fun h => ?_) (fun h => ?_) | refine IL.ap (fun h => ?_) (fun h => ?_)); (fail_if_success (focus (simp only [reduceCtorEq] at h)))) | refine WK.cn (fun h => ?_) (fun h => ?_)); all_goals first | (simp only [reduceCtorEq] at h; done) | (simp only [hsA, hsD, hsE, ne_eq] at h; first | done | (exfalso; omega; done) | skip) | skip))
  refine WK.forS t.length (fun i => plainT (t.take i)) (fun i => ⟨26, [(0, .v (.string ⟨t.toArray⟩)), (3, .v (.int .i64 i))], []⟩) ⟨by simp [plainT], ?_⟩ (fun i hi ho => ?_) (fun ho => ?_)
  · (refine Weak.cut' rfl rfl ?_; exact cA)
  · have hx : t[i]? = some t[i] := List.getElem?_eq_getElem hi
    have htk : t.take (i + 1) = t.take i ++ [t[i]] := by rw [List.take_add_one, hx]; rfl
    have hbad : ¬ (t[i].toNat = 10 ∨ (32 ≤ t[i].toNat ∧ t[i].toNat ≤ 126)) → ¬ plainT t := fun h hp => h (hp _ (List.getElem_mem hi))
    have hgo : (t[i].toNat = 10 ∨ (32 ≤ t[i].toNat ∧ t[i].toNat ≤ 126)) → plainT (t.take (i + 1)) := fun h c hc => by
      rw [htk] at hc
      rcases List.mem_append.1 hc with hc | hc
      · exact ho c hc
      · simp only [List.mem_cons, List.not_mem_nil, or_false] at hc; subst hc; exact h
    have hgd : t.getD i 0 = t[i] := by simp [List.getD, hx]
    rw [← hgd] at hbad hgo
    have hc := (t.getD i 0).toNat_lt
    repeat' (first | refine WK.seq ?_ | refine WK.reg ?_ | refine IL.nil ?_ | refine WK.skip ?_ | refine WK.block ?_ | refine WK.exit_here ?_ | refine WK.e1 ?_ | refine WK.e2 ?_ | (with_reducible refine IL.wr ?_ ?_; focus exact cW) | refine IL.sg ttok ?_ | refine IL.nn ?_ | ((first | ((first | refine IL.ag (fun h => ?_) (fun h => ?_) | refine IL.ap (fun h => ?_) (fun h => ?_)); (fail_if_success (focus (simp only [reduceCtorEq] at h)))) | refine WK.cn (fun h => ?_) (fun h => ?_)); all_goals first | (simp only [reduceCtorEq] at h; done) | (simp only [hsA, hsD, hsE, ne_eq] at h; first | done | (exfalso; omega; done) | skip) | skip))
    all_goals try ((first | refine WK.ret ⟨.inr rfl, ?_⟩ | refine ⟨.inl rfl, ?_⟩ | refine ⟨.inl trivial, ?_⟩); refine Fin.o ?_ ?_ (h1 := by first | rfl | (simp only [go_sem, show Tryz.f81.results.toList = [.tmp 2] from rfl, reduceIte] <;> rfl)); rotate_left 1; (focus (first | rfl | skip)); all_goals try with_reducible rfl)
    all_goals first | rw [decide_eq_false (hbad (by omega))] | (refine ⟨hgo (by omega), ?_⟩; (refine Weak.cut' rfl rfl ?_; exact cA))
  · rw [List.take_length] at ho
    repeat' (first | refine WK.seq ?_ | refine WK.reg ?_ | refine IL.nil ?_ | refine WK.skip ?_ | refine WK.block ?_ | refine WK.exit_here ?_ | refine WK.e1 ?_ | refine WK.e2 ?_ | (with_reducible refine IL.wr ?_ ?_; focus exact cW) | refine IL.sg ttok ?_ | refine IL.nn ?_ | ((first | ((first | refine IL.ag (fun h => ?_) (fun h => ?_) | refine IL.ap (fun h => ?_) (fun h => ?_)); (fail_if_success (focus (simp only [reduceCtorEq] at h)))) | refine WK.cn (fun h => ?_) (fun h => ?_)); all_goals first | (simp only [reduceCtorEq] at h; done) | (simp only [hsA, hsD, hsE, ne_eq] at h; first | done | (exfalso; omega; done) | skip) | skip))
    all_goals try ((first | refine WK.ret ⟨.inr rfl, ?_⟩ | refine ⟨.inl rfl, ?_⟩ | refine ⟨.inl trivial, ?_⟩); refine Fin.o ?_ ?_ (h1 := by first | rfl | (simp only [go_sem, show Tryz.f81.results.toList = [.tmp 2] from rfl, reduceIte] <;> rfl)); rotate_left 1; (focus (first | rfl | skip)); all_goals try with_reducible rfl)
    rw [decide_eq_true ho]
def atoms (k : Int) (t : List UInt8) (s : List Sp) : Nat := if k = 1 then t.length else if k = 3 then (idsL s).length else 0
theorem atoms_call (k r n m q : Int) (t : List UInt8) (s : List Sp) (nn : Nat) (hnn : nn = s.length) (ht : t.length ≤ 100000) (hs : s.length ≤ 100000) (h3 : k = 3 → (∀ x ∈ s, rightI x) ∧ tot s ≤ 1024) : SCall Tryz.prog 25 [.agg (opL k r n m t (.tr nn (encs spC s)) q)] (.v (.int .i64 (atoms k t s : Int))) [.agg (opL k r n m t (.tr nn (encs spC s)) q)] := by
  subst hnn
  unfold atoms
  by_cases k1 : k = 1
  · rw [if_pos k1]
    refine SCall.of_body' (TT := TT) (fun _ => false) [false] ttok Tryz.func25 rfl (Nat.le_of_ble_eq_true rfl) rfl fun fx hfx => WK.top ?_
    simp only [impl, imp, argT, List.append_nil, List.map_nil, List.nil_append, show Tryz.f25.ntmps = 16 from rfl, Nat.zero_add, Nat.reduceAdd]
    repeat' (first | refine WK.seq ?_ | refine WK.reg ?_ | refine IL.nil ?_ | refine WK.skip ?_ | (with_reducible refine IL.wr ?_ ?_; focus exact cW) | refine IL.sg ttok ?_ | refine IL.cS ttok ent57 [.bor] true ?_ (hS := by refine ids_call _ _ ?_ ?_ ?_ ?_ <;> exact cO) | (refine WK.cn (fun h => ?_) (fun h => ?_); all_goals first | (simp only [reduceCtorEq] at h; done) | (simp only [hsA, hsD, hsE, ne_eq] at h; first | done | (exfalso; omega; done) | skip) | skip))
    all_goals try ((first | refine WK.ret ⟨.inr rfl, ?_⟩ | refine ⟨.inl rfl, ?_⟩ | refine ⟨.inl trivial, ?_⟩); refine Fin.o ?_ ?_ (h1 := by first | rfl | (simp only [go_sem, show Tryz.f25.results.toList = [.tmp 2] from rfl, reduceIte] <;> rfl)); rotate_left 1; (focus (first | rfl | skip)); all_goals try with_reducible rfl)
    all_goals simp
  · rw [if_neg k1]
    by_cases k3 : k = 3
    · rw [if_pos k3]
      obtain ⟨g1, g2⟩ := h3 k3
      refine SCall.of_body' (TT := TT) (fun _ => false) [false] ttok Tryz.func25 rfl (Nat.le_of_ble_eq_true rfl) rfl fun fx hfx => WK.top ?_
      simp only [impl, imp, argT, List.append_nil, List.map_nil, List.nil_append, show Tryz.f25.ntmps = 16 from rfl, Nat.zero_add, Nat.reduceAdd]
      repeat' (first | refine WK.seq ?_ | refine WK.reg ?_ | refine IL.nil ?_ | refine WK.skip ?_ | (with_reducible refine IL.wr ?_ ?_; focus exact cW) | refine IL.sg ttok ?_ | refine IL.cS ttok ent57 [.bor] true ?_ (hS := by refine ids_call _ _ ?_ ?_ ?_ ?_ <;> exact cO) | (refine WK.cn (fun h => ?_) (fun h => ?_); all_goals first | (simp only [reduceCtorEq] at h; done) | (simp only [hsA, hsD, hsE, ne_eq] at h; first | done | (exfalso; omega; done) | skip) | skip))
      all_goals try ((first | refine WK.ret ⟨.inr rfl, ?_⟩ | refine ⟨.inl rfl, ?_⟩ | refine ⟨.inl trivial, ?_⟩); refine Fin.o ?_ ?_ (h1 := by first | rfl | (simp only [go_sem, show Tryz.f25.results.toList = [.tmp 2] from rfl, reduceIte] <;> rfl)); rotate_left 1; (focus (first | rfl | skip)); all_goals try with_reducible rfl)
    · rw [if_neg k3]
      refine SCall.of_body' (TT := TT) (fun _ => false) [false] ttok Tryz.func25 rfl (Nat.le_of_ble_eq_true rfl) rfl fun fx hfx => WK.top ?_
      simp only [impl, imp, argT, List.append_nil, List.map_nil, List.nil_append, show Tryz.f25.ntmps = 16 from rfl, Nat.zero_add, Nat.reduceAdd]
      repeat' (first | refine WK.seq ?_ | refine WK.reg ?_ | refine IL.nil ?_ | refine WK.skip ?_ | (with_reducible refine IL.wr ?_ ?_; focus exact cW) | refine IL.sg ttok ?_ | refine IL.cS ttok ent57 [.bor] true ?_ (hS := by refine ids_call _ _ ?_ ?_ ?_ ?_ <;> exact cO) | (refine WK.cn (fun h => ?_) (fun h => ?_); all_goals first | (simp only [reduceCtorEq] at h; done) | (simp only [hsA, hsD, hsE, ne_eq] at h; first | done | (exfalso; omega; done) | skip) | skip))
      all_goals try ((first | refine WK.ret ⟨.inr rfl, ?_⟩ | refine ⟨.inl rfl, ?_⟩ | refine ⟨.inl trivial, ?_⟩); refine Fin.o ?_ ?_ (h1 := by first | rfl | (simp only [go_sem, show Tryz.f25.results.toList = [.tmp 2] from rfl, reduceIte] <;> rfl)); rotate_left 1; (focus (first | rfl | skip)); all_goals try with_reducible rfl)
      all_goals rfl
def numd (k r n m : Int) (t : List UInt8) (s : List Sp) : Prop := (r = 0 ∧ n = 0 ∨ 1 ≤ n ∧ n ≤ 268435456) ∧ 1 ≤ m ∧ m ≤ 268435456 ∧ m + (atoms k t s : Int) - 1 ≤ 268435456
instance (k r n m : Int) (t : List UInt8) (s : List Sp) : Decidable (numd k r n m t s) := by unfold numd; infer_instance
theorem numd_call (k r n m q : Int) (t : List UInt8) (s : List Sp) (nn : Nat) (hnn : nn = s.length) (ht : t.length ≤ 100000) (hs : s.length ≤ 100000) (h3 : k = 3 → (∀ x ∈ s, rightI x) ∧ tot s ≤ 1024) (hn : 0 ≤ n) : SCall Tryz.prog 82 [.agg (opL k r n m t (.tr nn (encs spC s)) q)] (.v (.bool (decide (numd k r n m t s)))) [.agg (opL k r n m t (.tr nn (encs spC s)) q)] := by
  subst hnn
  have hb : atoms k t s ≤ 100000 := by
    unfold atoms
    split
    · exact ht
    · split
      · rename_i h; have := idsL_len s (h3 h).1; have := (h3 h).2; omega
      · omega
  have hA := atoms_call k r n m q t s s.length rfl ht hs h3
  unfold numd
  refine SCall.of_body' (TT := TT) (fun _ => false) [false] ttok Tryz.func82 rfl (Nat.le_of_ble_eq_true rfl) rfl fun fx hfx => WK.top ?_
  simp only [impl, imp, argT, List.append_nil, List.map_nil, List.nil_append, show Tryz.f82.ntmps = 46 from rfl, Nat.zero_add, Nat.reduceAdd]
  repeat' (first | refine WK.seq ?_ | refine WK.reg ?_ | refine IL.nil ?_ | refine WK.skip ?_ | refine WK.drawnS (id := 4) mixed [] [13] [0, 0, 0, 0, 0, 0, 0, 0, 0, 0, 0, 0, 0, 0, 1, 1, 1, 1, 1] [0, 0, 0, 0, 0, 0, 0, 0, 0, 1, 1, 1, 0, 0, 1, 1, 1, 1, 1] (by decide +kernel) ?_ | refine DW.nil ?_ | (with_reducible refine IL.wr ?_ ?_; focus exact cW) | (with_reducible refine DW.wr ?_ ?_; focus exact cW) | refine IL.sg ttok ?_ | refine IL.nn ?_ | refine DW.re ttok ?_ | refine DW.rm ttok ?_ | refine DW.nn ?_ | refine DW.nb ?_ | refine DW.cS ttok ent25 [.bor] true ?_ (hS := by exact hA) | ((first | ((first | refine IL.ag (fun h => ?_) (fun h => ?_) | refine DW.ag (fun h => ?_) (fun h => ?_) | refine IL.ap (fun h => ?_) (fun h => ?_) | refine DW.ap (fun h => ?_) (fun h => ?_)); (fail_if_success (focus (simp only [reduceCtorEq] at h)))) | refine WK.cn (fun h => ?_) (fun h => ?_)); all_goals first | (simp only [reduceCtorEq] at h; done) | (simp only [hsA, hsD, hsE, ne_eq] at h; first | done | (exfalso; omega; done) | skip) | skip))
  all_goals try ((first | refine WK.ret ⟨.inr rfl, ?_⟩ | refine ⟨.inl rfl, ?_⟩ | refine ⟨.inl trivial, ?_⟩); refine Fin.o ?_ ?_ (h1 := by first | rfl | (simp only [go_sem, show Tryz.f82.results.toList = [.tmp 2] from rfl, reduceIte] <;> rfl)); rotate_left 1; (focus (first | rfl | skip)); all_goals try with_reducible rfl)
  all_goals first | (refine congrArg (fun b => IV.v (.bool b)) (decide_eq_false ?_).symm; omega) | (refine congrArg (fun b => IV.v (.bool b)) (decide_eq_decide.2 ?_); omega)
def placeI (r n m : Int) : Prop := r = 0 ∧ n = 0 ∧ m = 0
instance (r n m : Int) : Decidable (placeI r n m) := by unfold placeI; infer_instance
theorem place_call (k r n m q : Int) (t : List UInt8) (s : List Sp) (nn : Nat) : SCall Tryz.prog 83 [.agg (opL k r n m t (.tr nn (encs spC s)) q)] (.v (.bool (decide (placeI r n m)))) [.agg (opL k r n m t (.tr nn (encs spC s)) q)] := by
  refine SCall.of_body' (TT := TT) (fun _ => false) [false] ttok Tryz.func83 rfl (Nat.le_of_ble_eq_true rfl) rfl fun fx hfx => WK.top ?_
  simp only [impl, imp, argT, List.append_nil, List.map_nil, List.nil_append, show Tryz.f83.ntmps = 12 from rfl, Nat.zero_add, Nat.reduceAdd]
  repeat' (first | refine WK.seq ?_ | refine WK.reg ?_ | refine IL.nil ?_ | (with_reducible refine IL.wr ?_ ?_; focus exact cW) | refine IL.sg ttok ?_ | refine IL.nn ?_ | (((first | refine IL.ag (fun h => ?_) (fun h => ?_) | refine IL.ap (fun h => ?_) (fun h => ?_)); (fail_if_success (focus (simp only [reduceCtorEq] at h)))); all_goals first | (simp only [reduceCtorEq] at h; done) | (simp only [hsA, hsD, hsE, ne_eq] at h; first | done | (exfalso; omega; done) | skip) | skip))
  all_goals try ((first | refine WK.ret ⟨.inr rfl, ?_⟩ | refine ⟨.inl rfl, ?_⟩ | refine ⟨.inl trivial, ?_⟩); refine Fin.o ?_ ?_ (h1 := by first | rfl | (simp only [go_sem, show Tryz.f83.results.toList = [.tmp 2] from rfl, reduceIte] <;> rfl)); rotate_left 1; (focus (first | rfl | skip)); all_goals try with_reducible rfl)
  all_goals grind [placeI]
open Classical in
noncomputable def fit8 (k r n m : Int) (t : List UInt8) (s : List Sp) (q : Int) : Int :=
  if k = 1 then (if ¬ s = [] ∨ ¬ q = 0 ∨ t = [] ∨ ¬ plainT t then 11 else if 64 < t.length then 15 else if numd k r n m t s then 0 else 11)
  else if k = 2 then (if ¬ t = [] ∨ ¬ q = 0 ∨ ¬ placeI r n m then 11 else fit7 s)
  else if k = 3 then (if ¬ t = [] ∨ ¬ q = 0 then 11 else if fit7 s = 0 then (if numd k r n m t s then 0 else 11) else fit7 s)
  else if k = 4 ∨ k = 5 then (if ¬ t = [] ∨ ¬ s = [] ∨ ¬ placeI r n m ∨ q < 1 ∨ 268435456 < q then 11 else 0)
  else 11
theorem fit8_call (k r n m q : Int) (t : List UInt8) (s : List Sp) (nn : Nat) (hnn : nn = s.length) (ht : t.length ≤ 1000) (hs : s.length ≤ 1024) (hn : 0 ≤ n) (hq : 0 ≤ q) : SCall Tryz.prog 61 [.agg (opL k r n m t (.tr nn (encs spC s)) q)] (.v (.int .i64 (fit8 k r n m t s q))) [.agg (opL k r n m t (.tr nn (encs spC s)) q)] := by
  subst hnn
  have hs0 : s = [] ↔ s.length = 0 := List.length_eq_zero_iff.symm
  by_cases k1 : k = 1
  · have h3 : k = 3 → (∀ x ∈ s, rightI x) ∧ tot s ≤ 1024 := fun h => by omega
    unfold fit8
    rw [if_pos k1]
    refine SCall.of_body' (TT := TT) (fun _ => false) [false] ttok Tryz.func61 rfl (Nat.le_of_ble_eq_true rfl) rfl fun fx hfx => WK.top ?_
    simp only [impl, imp, argT, List.append_nil, List.map_nil, List.nil_append, show Tryz.f61.ntmps = 99 from rfl, Nat.zero_add, Nat.reduceAdd]
    repeat' (first | refine WK.seq ?_ | refine WK.reg ?_ | refine IL.nil ?_ | refine WK.skip ?_ | refine WK.block ?_ | (with_reducible refine IL.wr ?_ ?_; focus exact cW) | refine IL.sg ttok ?_ | refine IL.nn ?_ | refine IL.cS ttok ent81 [.bor] true ?_ (hS := by refine plain_call _ ?_ <;> exact cO) | refine IL.cS ttok ent82 [.bor] true ?_ (hS := by refine numd_call _ _ _ _ _ _ _ _ ?_ ?_ ?_ ?_ ?_ <;> exact cO) | refine IL.cS ttok ent83 [.bor] true ?_ (hS := by exact place_call _ _ _ _ _ _ _ _) | refine IL.cS ttok ent84 [.bor] true ?_ (hS := by refine fit7_call _ _ ?_ ?_ <;> exact cO) | ((first | ((first | refine IL.ag (fun h => ?_) (fun h => ?_) | refine IL.ap (fun h => ?_) (fun h => ?_)); (fail_if_success (focus (simp only [reduceCtorEq] at h)))) | refine WK.cn (fun h => ?_) (fun h => ?_)); all_goals first | (simp only [reduceCtorEq] at h; done) | (simp only [hsA, hsD, hsE, ne_eq] at h; first | done | (exfalso; omega; done) | skip) | skip))
    all_goals try ((first | refine WK.ret ⟨.inr rfl, ?_⟩ | refine ⟨.inl rfl, ?_⟩ | refine ⟨.inl trivial, ?_⟩); refine Fin.o ?_ ?_ (h1 := by first | rfl | (simp only [go_sem, show Tryz.f61.results.toList = [.tmp 2] from rfl, reduceIte] <;> rfl)); rotate_left 1; (focus (first | rfl | skip)); all_goals try with_reducible rfl)
    all_goals grind
  · by_cases k2 : k = 2
    · have h3 : k = 3 → (∀ x ∈ s, rightI x) ∧ tot s ≤ 1024 := fun h => by omega
      unfold fit8
      rw [if_neg k1, if_pos k2]
      refine SCall.of_body' (TT := TT) (fun _ => false) [false] ttok Tryz.func61 rfl (Nat.le_of_ble_eq_true rfl) rfl fun fx hfx => WK.top ?_
      simp only [impl, imp, argT, List.append_nil, List.map_nil, List.nil_append, show Tryz.f61.ntmps = 99 from rfl, Nat.zero_add, Nat.reduceAdd]
      repeat' (first | refine WK.seq ?_ | refine WK.reg ?_ | refine IL.nil ?_ | refine WK.skip ?_ | refine WK.block ?_ | (with_reducible refine IL.wr ?_ ?_; focus exact cW) | refine IL.sg ttok ?_ | refine IL.nn ?_ | refine IL.cS ttok ent81 [.bor] true ?_ (hS := by refine plain_call _ ?_ <;> exact cO) | refine IL.cS ttok ent82 [.bor] true ?_ (hS := by refine numd_call _ _ _ _ _ _ _ _ ?_ ?_ ?_ ?_ ?_ <;> exact cO) | refine IL.cS ttok ent83 [.bor] true ?_ (hS := by exact place_call _ _ _ _ _ _ _ _) | refine IL.cS ttok ent84 [.bor] true ?_ (hS := by refine fit7_call _ _ ?_ ?_ <;> exact cO) | ((first | ((first | refine IL.ag (fun h => ?_) (fun h => ?_) | refine IL.ap (fun h => ?_) (fun h => ?_)); (fail_if_success (focus (simp only [reduceCtorEq] at h)))) | refine WK.cn (fun h => ?_) (fun h => ?_)); all_goals first | (simp only [reduceCtorEq] at h; done) | (simp only [hsA, hsD, hsE, ne_eq] at h; first | done | (exfalso; omega; done) | skip) | skip))
      all_goals try ((first | refine WK.ret ⟨.inr rfl, ?_⟩ | refine ⟨.inl rfl, ?_⟩ | refine ⟨.inl trivial, ?_⟩); refine Fin.o ?_ ?_ (h1 := by first | rfl | (simp only [go_sem, show Tryz.f61.results.toList = [.tmp 2] from rfl, reduceIte] <;> rfl)); rotate_left 1; (focus (first | rfl | skip)); all_goals try with_reducible rfl)
      all_goals grind
    · by_cases k3 : k = 3
      · unfold fit8
        rw [if_neg k1, if_neg k2, if_pos k3]
        by_cases hf : fit7 s = 0
        · have h3 : k = 3 → (∀ x ∈ s, rightI x) ∧ tot s ≤ 1024 := fun _ => fit7_ok hf
          refine SCall.of_body' (TT := TT) (fun _ => false) [false] ttok Tryz.func61 rfl (Nat.le_of_ble_eq_true rfl) rfl fun fx hfx => WK.top ?_
          simp only [impl, imp, argT, List.append_nil, List.map_nil, List.nil_append, show Tryz.f61.ntmps = 99 from rfl, Nat.zero_add, Nat.reduceAdd]
          repeat' (first | refine WK.seq ?_ | refine WK.reg ?_ | refine IL.nil ?_ | refine WK.skip ?_ | refine WK.block ?_ | (with_reducible refine IL.wr ?_ ?_; focus exact cW) | refine IL.sg ttok ?_ | refine IL.nn ?_ | refine IL.cS ttok ent81 [.bor] true ?_ (hS := by refine plain_call _ ?_ <;> exact cO) | refine IL.cS ttok ent82 [.bor] true ?_ (hS := by refine numd_call _ _ _ _ _ _ _ _ ?_ ?_ ?_ ?_ ?_ <;> exact cO) | refine IL.cS ttok ent83 [.bor] true ?_ (hS := by exact place_call _ _ _ _ _ _ _ _) | refine IL.cS ttok ent84 [.bor] true ?_ (hS := by refine fit7_call _ _ ?_ ?_ <;> exact cO) | ((first | ((first | refine IL.ag (fun h => ?_) (fun h => ?_) | refine IL.ap (fun h => ?_) (fun h => ?_)); (fail_if_success (focus (simp only [reduceCtorEq] at h)))) | refine WK.cn (fun h => ?_) (fun h => ?_)); all_goals first | (simp only [reduceCtorEq] at h; done) | (simp only [hsA, hsD, hsE, ne_eq] at h; first | done | (exfalso; omega; done) | skip) | skip))
          all_goals try ((first | refine WK.ret ⟨.inr rfl, ?_⟩ | refine ⟨.inl rfl, ?_⟩ | refine ⟨.inl trivial, ?_⟩); refine Fin.o ?_ ?_ (h1 := by first | rfl | (simp only [go_sem, show Tryz.f61.results.toList = [.tmp 2] from rfl, reduceIte] <;> rfl)); rotate_left 1; (focus (first | rfl | skip)); all_goals try with_reducible rfl)
          all_goals grind
        · refine SCall.of_body' (TT := TT) (fun _ => false) [false] ttok Tryz.func61 rfl (Nat.le_of_ble_eq_true rfl) rfl fun fx hfx => WK.top ?_
          simp only [impl, imp, argT, List.append_nil, List.map_nil, List.nil_append, show Tryz.f61.ntmps = 99 from rfl, Nat.zero_add, Nat.reduceAdd]
          repeat' (first | refine WK.seq ?_ | refine WK.reg ?_ | refine IL.nil ?_ | refine WK.skip ?_ | refine WK.block ?_ | (with_reducible refine IL.wr ?_ ?_; focus exact cW) | refine IL.sg ttok ?_ | refine IL.nn ?_ | refine IL.cS ttok ent81 [.bor] true ?_ (hS := by refine plain_call _ ?_ <;> exact cO) | refine IL.cS ttok ent82 [.bor] true ?_ (hS := by refine numd_call _ _ _ _ _ _ _ _ ?_ ?_ ?_ ?_ ?_ <;> exact cO) | refine IL.cS ttok ent83 [.bor] true ?_ (hS := by exact place_call _ _ _ _ _ _ _ _) | refine IL.cS ttok ent84 [.bor] true ?_ (hS := by refine fit7_call _ _ ?_ ?_ <;> exact cO) | ((first | ((first | refine IL.ag (fun h => ?_) (fun h => ?_) | refine IL.ap (fun h => ?_) (fun h => ?_)); (fail_if_success (focus (simp only [reduceCtorEq] at h)))) | refine WK.cn (fun h => ?_) (fun h => ?_)); all_goals first | (simp only [reduceCtorEq] at h; done) | (simp only [hsA, hsD, hsE, ne_eq] at h; first | done | (exfalso; omega; done) | skip) | skip))
          all_goals try ((first | refine WK.ret ⟨.inr rfl, ?_⟩ | refine ⟨.inl rfl, ?_⟩ | refine ⟨.inl trivial, ?_⟩); refine Fin.o ?_ ?_ (h1 := by first | rfl | (simp only [go_sem, show Tryz.f61.results.toList = [.tmp 2] from rfl, reduceIte] <;> rfl)); rotate_left 1; (focus (first | rfl | skip)); all_goals try with_reducible rfl)
          all_goals grind
      · unfold fit8
        rw [if_neg k1, if_neg k2, if_neg k3]
        refine SCall.of_body' (TT := TT) (fun _ => false) [false] ttok Tryz.func61 rfl (Nat.le_of_ble_eq_true rfl) rfl fun fx hfx => WK.top ?_
        simp only [impl, imp, argT, List.append_nil, List.map_nil, List.nil_append, show Tryz.f61.ntmps = 99 from rfl, Nat.zero_add, Nat.reduceAdd]
        repeat' (first | refine WK.seq ?_ | refine WK.reg ?_ | refine IL.nil ?_ | refine WK.skip ?_ | refine WK.block ?_ | (with_reducible refine IL.wr ?_ ?_; focus exact cW) | refine IL.sg ttok ?_ | refine IL.nn ?_ | refine IL.cS ttok ent81 [.bor] true ?_ (hS := by refine plain_call _ ?_ <;> exact cO) | refine IL.cS ttok ent82 [.bor] true ?_ (hS := by refine numd_call _ _ _ _ _ _ _ _ ?_ ?_ ?_ ?_ ?_ <;> exact cO) | refine IL.cS ttok ent83 [.bor] true ?_ (hS := by exact place_call _ _ _ _ _ _ _ _) | refine IL.cS ttok ent84 [.bor] true ?_ (hS := by refine fit7_call _ _ ?_ ?_ <;> exact cO) | ((first | ((first | refine IL.ag (fun h => ?_) (fun h => ?_) | refine IL.ap (fun h => ?_) (fun h => ?_)); (fail_if_success (focus (simp only [reduceCtorEq] at h)))) | refine WK.cn (fun h => ?_) (fun h => ?_)); all_goals first | (simp only [reduceCtorEq] at h; done) | (simp only [hsA, hsD, hsE, ne_eq] at h; first | done | (exfalso; omega; done) | skip) | skip))
        all_goals try ((first | refine WK.ret ⟨.inr rfl, ?_⟩ | refine ⟨.inl rfl, ?_⟩ | refine ⟨.inl trivial, ?_⟩); refine Fin.o ?_ ?_ (h1 := by first | rfl | (simp only [go_sem, show Tryz.f61.results.toList = [.tmp 2] from rfl, reduceIte] <;> rfl)); rotate_left 1; (focus (first | rfl | skip)); all_goals try with_reducible rfl)
        all_goals grind
theorem fit8_ok {k r n m q : Int} {t : List UInt8} {s : List Sp} (h : fit8 k r n m t s q = 0) : (k = 1 ∧ s = [] ∧ q = 0 ∧ t.length ≤ 64 ∧ numd k r n m t s) ∨ (k = 2 ∧ t = [] ∧ q = 0 ∧ placeI r n m ∧ fit7 s = 0) ∨ (k = 3 ∧ t = [] ∧ q = 0 ∧ fit7 s = 0 ∧ numd k r n m t s) ∨ ((k = 4 ∨ k = 5) ∧ t = [] ∧ s = [] ∧ placeI r n m ∧ 1 ≤ q ∧ q ≤ 268435456) := by
  unfold fit8 at h
  split at h
  · rename_i k1
    split at h
    · exact absurd h (by decide)
    · rename_i c
      split at h
      · exact absurd h (by decide)
      · rename_i c2
        split at h
        · rename_i c3
          simp only [not_or, Classical.not_not] at c
          exact .inl ⟨k1, c.1, c.2.1, by omega, c3⟩
        · exact absurd h (by decide)
  · split at h
    · rename_i k2
      split at h
      · exact absurd h (by decide)
      · rename_i c
        simp only [not_or, Classical.not_not] at c
        exact .inr (.inl ⟨k2, c.1, c.2.1, c.2.2, h⟩)
    · split at h
      · rename_i k3
        split at h
        · exact absurd h (by decide)
        · rename_i c
          simp only [not_or, Classical.not_not] at c
          split at h
          · rename_i c2
            split at h
            · rename_i c3
              exact .inr (.inr (.inl ⟨k3, c.1, c.2, c2, c3⟩))
            · exact absurd h (by decide)
          · rename_i c2
            exact absurd h c2
      · split at h
        · rename_i k4
          split at h
          · exact absurd h (by decide)
          · rename_i c
            simp only [not_or, Classical.not_not] at c
            exact .inr (.inr (.inr ⟨k4, c.1, c.2.1, c.2.2.1, by omega, by omega⟩))
        · exact absurd h (by decide)
end Go.Proofs.YtclhjcbnpdlgbaaGreatDoor
/- Spans: the code's Right, Last. -/
namespace Go.Proofs.YtclhjcbnpdlgbaaGreatDoor
open Go Go.Lift
set_option maxHeartbeats 4000000
set_option linter.unusedSimpArgs false
set_option linter.unusedVariables false
attribute [local irreducible] WK IL IP IG IW DW

theorem idRight_call (r n : Int) : SCall Tryz.prog 106 [idIV r n] (.v (.bool (decide (1 ≤ n ∧ n ≤ 268435456)))) [idIV r n] := by
  refine SCall.of_body' (TT := TT) (fun _ => false) [false] ttok Tryz.func106 rfl (Nat.le_of_ble_eq_true rfl) rfl fun fx hfx => WK.top ?_
  simp only [impl, imp, argT, List.append_nil, List.map_nil, List.nil_append, show Tryz.f106.ntmps = 11 from rfl, Nat.zero_add, Nat.reduceAdd]
  repeat' (first | refine WK.seq ?_ | refine WK.reg ?_ | refine IL.nil ?_ | (with_reducible refine IL.wr ?_ ?_; focus exact cW) | refine IL.sg ttok ?_ | refine IL.nn ?_ | (((first | refine IL.ag (fun h => ?_) (fun h => ?_) | refine IL.ap (fun h => ?_) (fun h => ?_)); (fail_if_success (focus (simp only [reduceCtorEq] at h)))); all_goals first | (simp only [reduceCtorEq] at h; done) | (simp only [hsA, hsD, hsE, ne_eq] at h; first | done | (exfalso; omega; done) | skip) | skip))
  all_goals try ((first | refine WK.ret ⟨.inr rfl, ?_⟩ | refine ⟨.inl rfl, ?_⟩ | refine ⟨.inl trivial, ?_⟩); refine Fin.o ?_ ?_ (h1 := by first | rfl | (simp only [go_sem, show Tryz.f106.results.toList = [.tmp 2] from rfl, reduceIte] <;> rfl)); rotate_left 1; (focus (first | rfl | skip)); all_goals try with_reducible rfl)
  all_goals grind
theorem spRight_call (r n c : Int) (hn : 0 ≤ n ∧ n ≤ 4294967295) (hc : -9223372036854775808 ≤ c ∧ c ≤ 9223372036854775807) : SCall Tryz.prog 104 [.agg [.v (.int .u16 r), .v (.int .u32 n), .v (.int .i64 c)]] (.v (.bool (decide (rightI (r, n, c))))) [.agg [.v (.int .u16 r), .v (.int .u32 n), .v (.int .i64 c)]] := by
  refine SCall.of_body' (TT := TT) (fun _ => false) [false] ttok Tryz.func104 rfl (Nat.le_of_ble_eq_true rfl) rfl fun fx hfx => WK.top ?_
  simp only [impl, imp, argT, List.append_nil, List.map_nil, List.nil_append, show Tryz.f104.ntmps = 27 from rfl, Nat.zero_add, Nat.reduceAdd]
  repeat' (first | refine WK.seq ?_ | refine WK.reg ?_ | refine IL.nil ?_ | (with_reducible refine IL.wr ?_ ?_; focus exact cW) | refine IL.sg ttok ?_ | refine IL.nn ?_ | refine IL.cS ttok ent106 [.bor] true ?_ (hS := by exact idRight_call _ _) | (((first | refine IL.ag (fun h => ?_) (fun h => ?_) | refine IL.ap (fun h => ?_) (fun h => ?_)); (fail_if_success (focus (simp only [reduceCtorEq] at h)))); all_goals first | (simp only [reduceCtorEq] at h; done) | (simp only [hsA, hsD, hsE, ne_eq] at h; first | done | (exfalso; omega; done) | skip) | skip))
  all_goals try ((first | refine WK.ret ⟨.inr rfl, ?_⟩ | refine ⟨.inl rfl, ?_⟩ | refine ⟨.inl trivial, ?_⟩); refine Fin.o ?_ ?_ (h1 := by first | rfl | (simp only [go_sem, show Tryz.f104.results.toList = [.tmp 2] from rfl, reduceIte] <;> rfl)); rotate_left 1; (focus (first | rfl | skip)); all_goals try with_reducible rfl)
  all_goals grind [rightI]
theorem spLast_call (r n c : Int) (h : rightI (r, n, c)) : SCall Tryz.prog 112 [.agg [.v (.int .u16 r), .v (.int .u32 n), .v (.int .i64 c)]] (.agg [.v (.int .u16 r), .v (.int .u32 (n + (c - 1)))]) [.agg [.v (.int .u16 r), .v (.int .u32 n), .v (.int .i64 c)]] := by
  unfold rightI at h
  simp only at h
  have hpl := idPlus_in r n (c - 1) (by omega) (by omega) (by omega)
  simp only [idIV] at hpl
  refine SCall.of_body' (TT := TT) (fun _ => false) [false] ttok Tryz.func112 rfl (Nat.le_of_ble_eq_true rfl) rfl fun fx hfx => WK.top ?_
  simp only [impl, imp, argT, List.append_nil, List.map_nil, List.nil_append, show Tryz.f112.ntmps = 9 from rfl, Nat.zero_add, Nat.reduceAdd]
  repeat' (first | refine WK.seq ?_ | refine WK.reg ?_ | refine IL.nil ?_ | (with_reducible refine IL.wr ?_ ?_; focus exact cW) | refine IL.sg ttok ?_ | refine IL.cS ttok ent59 [.bor, .bor] true ?_ (hS := by exact hpl))
  all_goals try ((first | refine WK.ret ⟨.inr rfl, ?_⟩ | refine ⟨.inl rfl, ?_⟩ | refine ⟨.inl trivial, ?_⟩); refine Fin.o ?_ ?_ (h1 := by first | rfl | (simp only [go_sem, show Tryz.f112.results.toList = [.cell 2 73] from rfl, reduceIte] <;> rfl)); rotate_left 1; (focus (first | rfl | skip)); all_goals try with_reducible rfl)
  all_goals rfl
end Go.Proofs.YtclhjcbnpdlgbaaGreatDoor
/- slices.Values at spans. -/
namespace Go.Proofs.YtclhjcbnpdlgbaaGreatDoor.Srt
open Go Go.RowKit Go.Shelf
attribute [local go_sem] Oper.semAt_some

abbrev S3 := Int × Int × Int
def s3v (x : S3) : List Value := [.int .u16 x.1, .int .u32 x.2.1, .int .i64 x.2.2]
def upto {α : Type} (f : Nat → α) (k : Nat) : List α := (List.range k).map f
theorem upto_succ {α : Type} (f : Nat → α) (k : Nat) : upto f (k + 1) = upto f k ++ [f k] := by simp [upto, List.range_succ]
theorem upto_length {α : Type} (f : Nat → α) (k : Nat) : (upto f k).length = k := by simp [upto]

set_option maxRecDepth 100000 in
set_option maxHeartbeats 2000000 in
theorem values1_in (F : Fence) (n : Nat) (h7 : F.fn 120) (hro : F.round = none) (hn : 1 ≤ n) (l Bs n₀ b off len cap : Nat) (f : Nat → S3) (hreach : len * 24 ≤ 140737488351232) (hb : b < n₀) (J Jx : List S3 → World → Prop) (B : Nat) (hJ : AbidesFrom B J)
    (hY : ∀ pre x W, J pre W → pre.length < len → YieldAt F (n - 1) Tryz.prog l #[.agg #[.int .u16 x.1, .int .u32 x.2.1, .int .i64 x.2.2]] W fun e W' =>
      (e = .returned (.bool true) ∧ J (pre ++ [x]) W' ∧ Below n₀ W W') ∨ (e = .returned (.bool false) ∧ Jx (pre ++ [x]) W'))
    (W : World) (hn₀ : n₀ ≤ W.heap.size) (hBs : W.cell? ⟨Bs, 0, none⟩ = some (.slice (some ⟨b, off, none⟩) len cap)) (hc0 : ∀ j, j < len → W.cell? ⟨b, off + j * 3, none⟩ = some (.int .u16 (f j).1))
    (hc1 : ∀ j, j < len → W.cell? ⟨b, off + j * 3 + 1, none⟩ = some (.int .u32 (f j).2.1)) (hc2 : ∀ j, j < len → W.cell? ⟨b, off + j * 3 + 2, none⟩ = some (.int .i64 (f j).2.2)) (h0 : J [] W) :
    CallsIn F n Tryz.prog 120 #[.func (.yield l) #[] #[], .pointer (some ⟨Bs, 0, none⟩)] W fun e W' => (∃ v, e = .returned v) ∧
      ((∃ ys, ys = upto f len ∧ J ys W') ∨ (∃ pre, (∃ k, k ≤ len ∧ pre = upto f k) ∧ Jx pre W')) := by
  refine callsIn_of_wp Tryz.func120 rfl h7 ?_ hro
  simp only [Tryz.ntmps120, List.size_toArray, List.length_cons, List.length_nil, Nat.reduceAdd, Nat.reduceSub, Array.replicate_succ, Array.replicate_zero, List.push_toArray, List.append_toArray, List.nil_append, List.cons_append]
  gi_wp2
  gi_loopw [7] (fun i wr => ∃ k : Nat, k ≤ len ∧ i = .int .i64 k ∧ J (upto f k) wr ∧ Below n₀ W wr)
    (fun i _ => len - (intOf i).toNat)
  case atStart => exact ⟨0, Nat.zero_le _, rfl, h0, Below.refl _ _⟩
  case round =>
    obtain ⟨k, hk, rfl, hJs, hnx⟩ := hrel
    by_cases hlt : k < len
    · have e0 := (hnx.cell (p := ⟨b, off + k * 3, none⟩) hb).trans (hc0 k hlt)
      have e1 := (hnx.cell (p := ⟨b, off + k * 3 + 1, none⟩) hb).trans (hc1 k hlt)
      have e2 := (hnx.cell (p := ⟨b, off + k * 3 + 2, none⟩) hb).trans (hc2 k hlt)
      have hsz : n₀ ≤ wr.heap.size := Nat.le_trans hn₀ hnx.size
      have hJ' := hJ _ _ (wr.alloc (.cells #[.int .u16 (f k).1, .int .u32 (f k).2.1, .int .i64 (f k).2.2] 156)) none hJs (World.grownBy_alloc wr _ none) (fun r e => by cases e)
      have hnx' : Below n₀ W (wr.alloc (.cells #[.int .u16 (f k).1, .int .u32 (f k).2.1, .int .i64 (f k).2.2] 156)) := hnx.alloc hsz _
      obtain ⟨fn, tmps, assign, body, hy, hR⟩ := hY _ (f k) _ hJ' (by rw [upto_length]; exact hlt)
      gi_wp2
      refine hR.mono ?_
      rintro e W3 (⟨rfl, hJ3, hk3⟩ | ⟨rfl, hJx3⟩)
      · gi_wp2
        go_roundw
        case rel => exact ⟨k + 1, by omega, by simp, by rw [upto_succ]; exact hJ3, hnx'.trans hk3⟩
        case measure => simp [intOf]; omega
      · gi_wp2
        refine bodyPost_ret (results_none rfl _ _ _) rfl ?_
        exact ⟨⟨_, rfl⟩, .inr ⟨_, ⟨k + 1, by omega, (upto_succ _ _).symm⟩, hJx3⟩⟩
    · obtain rfl : k = len := by omega
      gi_wp2
      go_end0
      exact ⟨⟨_, rfl⟩, .inl ⟨_, rfl, hJs⟩⟩

set_option maxRecDepth 100000 in
set_option maxHeartbeats 1000000 in
theorem values1_nil_in (F : Fence) (n : Nat) (h7 : F.fn 120) (hro : F.round = none) (l Bs : Nat) (a : Option Addr) (c : Nat) (J : List S3 → World → Prop) (W : World) (hBs : W.cell? ⟨Bs, 0, none⟩ = some (.slice a 0 c)) (h0 : J [] W) :
    CallsIn F n Tryz.prog 120 #[.func (.yield l) #[] #[], .pointer (some ⟨Bs, 0, none⟩)] W fun e W' => (∃ v, e = .returned v) ∧ J [] W' := by
  refine callsIn_of_wp Tryz.func120 rfl h7 ?_ hro
  simp only [Tryz.ntmps120, List.size_toArray, List.length_cons, List.length_nil, Nat.reduceAdd, Nat.reduceSub, Array.replicate_succ, Array.replicate_zero, List.push_toArray, List.append_toArray, List.nil_append, List.cons_append]
  gi_wp2
  gi_loopw [7] (fun i wr => i = .int .i64 0 ∧ J [] wr) (fun _ _ => 0)
  case atStart => exact ⟨rfl, h0⟩
  case round =>
    obtain ⟨rfl, hJs⟩ := hrel
    gi_wp2
    go_end0
    exact ⟨⟨_, rfl⟩, hJs⟩

set_option maxHeartbeats 1000000 in
theorem values_in (F : Fence) (n : Nat) (h5 : F.fn 115) (hro : F.round = none) (a : Option Addr) (len cap : Nat) (w : World) :
    CallsIn F n Tryz.prog 115 #[.slice a len cap] w fun e w' => e = .returned (.func (.func 120) #[] #[.pointer (some ⟨w.heap.size, 0, none⟩)]) ∧ w' = w.alloc (.cells #[.slice a len cap] 77) := by
  refine callsIn_of_wp Tryz.func115 rfl h5 ?_ hro
  simp only [Tryz.ntmps115, List.size_toArray, List.length_cons, List.length_nil, Nat.reduceAdd, Nat.reduceSub, Array.replicate_succ, Array.replicate_zero, List.push_toArray, List.append_toArray, List.nil_append, List.cons_append]
  gi_wp2
  go_ret
  exact ⟨rfl, rfl⟩
def Spans (n₀ : Nat) (W : World) (sv : Value) (zs : List S3) : Prop :=
  (∃ a c, sv = .slice a 0 c ∧ zs = []) ∨ ∃ b off cap, sv = .slice (some ⟨b, off, none⟩) zs.length cap ∧ b < n₀ ∧ ∀ (j : Nat) (x : S3), zs[j]? = some x → W.cell? ⟨b, off + j * 3, none⟩ = some (.int .u16 x.1) ∧ W.cell? ⟨b, off + j * 3 + 1, none⟩ = some (.int .u32 x.2.1) ∧ W.cell? ⟨b, off + j * 3 + 2, none⟩ = some (.int .i64 x.2.2)
theorem Spans.below {n₀ : Nat} {A B : World} (h : Below n₀ A B) {sv : Value} {zs : List S3} : Spans n₀ A sv zs → Spans n₀ B sv zs
  | .inl e => .inl e
  | .inr ⟨b, off, cap, e, hb, hc⟩ => .inr ⟨b, off, cap, e, hb, fun j x hx => by
    obtain ⟨h1, h2, h3⟩ := hc j x hx
    exact ⟨(h.cell (p := ⟨b, off + j * 3, none⟩) hb).trans h1, (h.cell (p := ⟨b, off + j * 3 + 1, none⟩) hb).trans h2, (h.cell (p := ⟨b, off + j * 3 + 2, none⟩) hb).trans h3⟩⟩
theorem upto_all (zs : List S3) : upto (fun j => zs[j]?.getD (0, 0, 0)) zs.length = zs := by
  apply List.ext_getElem
  · simp [upto]
  · intro i h1 h2
    simp [upto, h2]
theorem upto_take (zs : List S3) {k : Nat} (hk : k ≤ zs.length) : upto (fun j => zs[j]?.getD (0, 0, 0)) k = zs.take k := by
  apply List.ext_getElem
  · simp [upto, hk]
  · intro i h1 h2
    have : i < zs.length := by simp [upto] at h1; omega
    simp [upto, this]
theorem values_stops (F : Fence) (n : Nat) (h7 : F.fn 120) (hro : F.round = none) (hn : 1 ≤ n) (Bs n₀ : Nat) (sv : Value) (zs : List S3) (hreach : zs.length * 24 ≤ 140737488351232) (w : World) (hBs : Bs < w.heap.size) (hn₀ : n₀ ≤ w.heap.size)
    (hc : w.cell? ⟨Bs, 0, none⟩ = some sv) (hI : Spans n₀ w sv zs) :
    SeqStopsK F n Tryz.prog 120 #[.pointer (some ⟨Bs, 0, none⟩)] (fun x : S3 => #[Value.agg #[.int .u16 x.1, .int .u32 x.2.1, .int .i64 x.2.2]]) (Below n₀) (fun ys => ys = zs) (fun pre => pre <+: zs) zs.length w := fun l J Jx W hW hJ _ hY h0 => by
  have hc' := (hW.cell (p := ⟨Bs, 0, none⟩) hBs).trans hc
  rcases hI.below (hW.mono hn₀) with ⟨a, c, rfl, rfl⟩ | ⟨b, off, cap, rfl, hb, hcs⟩
  · exact (values1_nil_in F n h7 hro l Bs a c J W hc' h0).mono fun e W' ⟨he, hj⟩ => ⟨he, .inl ⟨_, rfl, hj⟩⟩
  · have hcs' : ∀ j, j < zs.length → zs[j]? = some (zs[j]?.getD (0, 0, 0)) := fun j hj => by rw [List.getElem?_eq_getElem hj]; rfl
    refine (values1_in F n h7 hro hn l Bs n₀ b off zs.length cap (fun j => zs[j]?.getD (0, 0, 0)) hreach hb J Jx W.heap.size hJ hY W (Nat.le_trans hn₀ hW.size) hc' (fun j hj => (hcs j _ (hcs' j hj)).1) (fun j hj => (hcs j _ (hcs' j hj)).2.1) (fun j hj => (hcs j _ (hcs' j hj)).2.2) h0).mono ?_
    · rintro e W' ⟨he, ⟨ys, rfl, hj⟩ | ⟨pre, ⟨k, hk, rfl⟩, hj⟩⟩
      · exact ⟨he, .inl ⟨_, upto_all zs, hj⟩⟩
      · exact ⟨he, .inr ⟨_, by rw [upto_take zs hk]; exact List.take_prefix _ _, hj⟩⟩
end Go.Proofs.YtclhjcbnpdlgbaaGreatDoor.Srt
/- slices.AppendSeq, slices.Collect at spans. -/
namespace Go.Proofs.YtclhjcbnpdlgbaaGreatDoor.Srt
open Go Go.RowKit Go.Shelf
attribute [local go_sem] Oper.semAt_some

theorem infoS3 : (Tryz.prog.info? 156).map (fun i => (i.zero, i.size, i.bytes)) = some (some (.agg #[.int .u16 0, .int .u32 0, .int .i64 0]), 3, 16) := by kernel_rfl
theorem flat_len : ∀ zs : List S3, (zs.flatMap s3v).length = zs.length * 3
  | [] => rfl
  | x :: zs => by rw [List.flatMap_cons, List.length_append, flat_len zs]; simp [s3v]; omega
theorem row3_own {β : Type} (T : TypeId) (B : Nat) (arr : Array Value) : Own (fun (_ : β) W => W.heap[B]? = some (.cells arr T (0, 0))) := fun s X Y row hs hg hrow =>
  (hg.block B (Array.getElem?_eq_some_iff.1 hs).1 (fun e' => by obtain ⟨o, ho, hc⟩ := hrow B e'.symm; rw [hs] at ho; cases ho; cases hc)).trans hs

theorem cells_new3 (W : World) (x : S3) : ∀ (j : Nat) (u : Value), (s3v x)[j]? = some u → (W.alloc (.cells #[.int .u16 x.1, .int .u32 x.2.1, .int .i64 x.2.2] 156)).cell? ((⟨W.heap.size, 0, none⟩ : Addr).add j) = some u := fun j u hj => by
  rw [Addr.add_lit, Nat.zero_add, World.cell?_alloc_new]
  simpa [s3v] using hj
set_option maxRecDepth 100000 in
set_option maxHeartbeats 4000000 in
theorem appendSeq_in (F : Fence) (n : Nat) (h78 : F.fn 124) (h73 : F.fn 120) (hro : F.round = none) (hn : 3 ≤ n) (Bs : Nat) (sv : Value) (zs : List S3) (hlen : zs.length ≤ maxLen) (hbytes : zs.length * 16 ≤ 140737488355328) (hreach : zs.length * 24 ≤ 140737488351232) (w : World)
    (hBs : Bs < w.heap.size) (hc : w.cell? ⟨Bs, 0, none⟩ = some sv) (hI : Spans w.heap.size w sv zs) :
    CallsIn F n Tryz.prog 124 #[.slice none 0 0, .func (.func 120) #[] #[.pointer (some ⟨Bs, 0, none⟩)]] w fun e W' => ∃ v, e = .returned v ∧ W'.ownsRow w.heap.size 156 3 v zs.length (zs.flatMap s3v) ∧ Below w.heap.size w W' := by
  have h1 : 1 ≤ n := by omega
  obtain ⟨i0, hi, hz0, hz1, hz2⟩ := info_parts infoS3
  refine callsIn_of_wp_marks Tryz.func124 rfl h78 ?_ hro
  simp only [Tryz.ntmps124, List.size_toArray, List.length_cons, List.length_nil, Nat.reduceAdd, Nat.reduceSub, Array.replicate_succ, Array.replicate_zero, List.push_toArray, List.append_toArray, List.nil_append, List.cons_append]
  gi_wp2
  have bO := Boxed.new w 77 (.slice none 0 0)
  have hB0 : Below w.heap.size w (w.alloc (.cells #[.slice none 0 0] 77)) := (Below.refl _ w).alloc (Nat.le_refl _) _
  have hcb : (w.alloc (.cells #[.slice none 0 0] 77)).cell? ⟨Bs, 0, none⟩ = some sv := (hB0.cell (p := ⟨Bs, 0, none⟩) hBs).trans hc
  refine wpIn_rangeFunc_ownH hro h1 (gf := 120) (lb := #[.pointer (some ⟨Bs, 0, none⟩)]) rfl h73 (enters_of Tryz.func120 (by kernel_rfl) rfl)
    (values_stops F (n - 1) h73 hro (by omega) Bs w.heap.size sv zs hreach _ (by simp; omega) (by simp) hcb (hI.below hB0)) belowK_t (belowK_b (by simp)) (Below.refl _ _) (fun _ => rfl)
    (fun pre W => (∃ v, Boxed W w.heap.size 77 v ∧ W.ownsRow w.heap.size 156 3 v pre.length (pre.flatMap s3v) ∧ True) ∧ Below w.heap.size w W)
    (fun _ _ _ => False)
    (OwnFrom.and (Own.from (holdsRow_own w.heap.size w.heap.size 77 156 3 (fun pre : List S3 => pre.length) (fun pre => pre.flatMap s3v) (fun _ _ => True)) _) (ownFrom_below (Nat.le_refl _) (by simp)))
    (fun _ _ _ _ _ hs _ _ => hs)
    ⟨⟨_, bO, World.ownsRow_nil _ _ _ _, trivial⟩, hB0⟩
    (fun x a' W => ∃ Bx, w.heap.size < Bx ∧ W.heap[Bx]? = some (.cells #[.int .u16 x.1, .int .u32 x.2.1, .int .i64 x.2.2] 156 (0, 0)) ∧ a' = { tmps := #[.slice none 0 0, .func (.func 120) #[] #[.pointer (some ⟨Bs, 0, none⟩)], .pointer (some ⟨w.heap.size, 0, none⟩), undef, .slice none 0 0, .pointer (some ⟨Bx, 0, none⟩), .func (.func 120) #[] #[.pointer (some ⟨Bs, 0, none⟩)], .agg #[.int .u16 x.1, .int .u32 x.2.1, .int .i64 x.2.2], undef, undef, undef, undef, undef], defers := [] })
    (fun x a' _ X Y row hs hg hr => by obtain ⟨Bx, h1, h2, h3⟩ := hs; exact ⟨Bx, h1, row3_own (β := Unit) 156 Bx _ () X Y row h2 hg (fun r e => (hr r e).2), h3⟩)
    ?assign ?body ?done ?stop
  case assign =>
    rintro l pre x W K ⟨⟨v, hv, hrow, _⟩, hB⟩ hK
    gi_wp2
    exact hK _ _ ((KeepsOthers.alloc _ _).from _) ((Below.refl _ W).alloc hB.size _) ⟨⟨v, hv.alloc _, hrow.alloc _, trivial⟩, hB.alloc hB.size _⟩ ⟨W.heap.size, hv.lt, World.alloc_heap_new W _, rfl⟩
  case body =>
    rintro l pre x a' W hl ⟨r, hr⟩ ⟨⟨v, hv, hrow, _⟩, hB⟩ ⟨Bx, hBx, bX, rfl⟩ hlt
    have hcv := hv.cell
    have hx0 : W.cell? ⟨Bx, 0, none⟩ = some (.int .u16 x.1) := by simp [World.cell?, bX]
    have hx1 : W.cell? ⟨Bx, 1, none⟩ = some (.int .u32 x.2.1) := by simp [World.cell?, bX]
    have hx2 : W.cell? ⟨Bx, 2, none⟩ = some (.int .i64 x.2.2) := by simp [World.cell?, bX]
    gi_wp2_with (gi_at_builtin; refine wpListIn_append_own _ rfl _ _ 77 rfl w.heap.size 156 i0 (.agg #[.int .u16 0, .int .u32 0, .int .i64 0]) 3 16 Tryz.underlying77 hi hz0 hz1 hz2 rfl (by decide) _ _ _ rfl (hrow.alloc _) ⟨W.heap.size, 0, none⟩ 1 1 (s3v x) rfl rfl (cells_new3 W x) (by simp [s3v, Value.oneCell']) (by omega) (by omega) (by have := hB.size; simp; omega) ?_; intro v' w1 hown' hgrow _; obtain ⟨g', cap', rfl⟩ := ownsRow_succ hown'; obtain ⟨hv1, hv2, hr2, hk2, hb2⟩ := hv.appended (by decide) hrow hB.size (Nat.le_refl _) hown' hgrow; have hc1 := hv1.cell; have hf1 := hv1.frozen)
    exact ⟨hk2.from _, hb2, ⟨_, hv2, by simpa using hr2, trivial⟩, hB.trans hb2⟩
  case done =>
    rintro D ys W hD rfl ⟨⟨v, hv, hrow, _⟩, hB⟩ hK
    have hcv := hv.cell
    gi_wp2
    refine ⟨by simp, .inl ⟨_, _, rfl, run_takeDeferred hK, ?_⟩⟩
    exact ⟨_, results_tmp rfl _ _ _, v, rfl, ownsRow_putObj hrow _ hK rfl, hB.trans (belowK_b (w := w) (Nat.le_refl _) W D _ _ (by simp at hD; omega) hK rfl rfl)⟩
  case stop =>
    rintro D c pre W _ _ h _
    exact h.elim
end Go.Proofs.YtclhjcbnpdlgbaaGreatDoor.Srt
/- ident.ID.Compare, at the machine. -/
namespace Go.Proofs.YtclhjcbnpdlgbaaGreatDoor.Srt
open Go Go.RowKit Go.Shelf Go.Lib Go.Sort

theorem mixed : Tryz.prog.follows .mixedOrders = true := by kernel_rfl
def toI : Value → Int
  | .int _ n => n
  | _ => 0
def orI (x y : Int) : Int := if x = 0 then y else x
def cmpI (x y : Int) : Int := if x < y then -1 else if y < x then 1 else 0
set_option maxHeartbeats 1000000 in
theorem nan16 (x : Int) (w : World) : Calls Tryz.prog 127 #[.int .u16 x] w fun e w' => e = .returned (.bool false) ∧ w' = w := by
  have t3 := Tryz.underlying24; have a3 := Tryz.isAgg24; have z3 := Tryz.sizeOf24; have v3 := Tryz.zeroValue24; have t4 := Tryz.underlying4; have a4 := Tryz.isAgg4
  go_enter Tryz.func127, Tryz.ntmps127
  go_wp2
  go_ret
  exact ⟨by simp, rfl⟩
set_option maxHeartbeats 1000000 in
theorem nan32 (x : Int) (w : World) : Calls Tryz.prog 128 #[.int .u32 x] w fun e w' => e = .returned (.bool false) ∧ w' = w := by
  have t3 := Tryz.underlying25; have a3 := Tryz.isAgg25; have z3 := Tryz.sizeOf25; have v3 := Tryz.zeroValue25; have t4 := Tryz.underlying4; have a4 := Tryz.isAgg4
  go_enter Tryz.func128, Tryz.ntmps128
  go_wp2
  go_ret
  exact ⟨by simp, rfl⟩
set_option maxRecDepth 100000 in
set_option maxHeartbeats 1000000 in
theorem cmp16 (x y : Int) (w : World) : Calls Tryz.prog 122 #[.int .u16 x, .int .u16 y] w fun e w' => e = .returned (.int .i64 (cmpI x y)) ∧ w' = w := by
  have t3 := Tryz.underlying24; have a3 := Tryz.isAgg24; have z3 := Tryz.sizeOf24; have v3 := Tryz.zeroValue24; have t4 := Tryz.underlying4; have a4 := Tryz.isAgg4
  have e59 : ∀ args w, (callFunc 127 args).run Tryz.prog w = .ok (.enter 127 args) w := enters_of Tryz.func127 (by kernel_rfl) rfl
  go_enter Tryz.func122, Tryz.ntmps122
  go_wp2_with (go_at_fn 127; refine (nan16 _ _).mono ?_; rintro e w' ⟨rfl, hw⟩; rw [hw])
  all_goals (go_ret; refine ⟨?_, rfl⟩; unfold cmpI; (repeat' split) <;> first | rfl | (exfalso; omega))
set_option maxRecDepth 100000 in
set_option maxHeartbeats 1000000 in
theorem cmp32 (x y : Int) (w : World) : Calls Tryz.prog 123 #[.int .u32 x, .int .u32 y] w fun e w' => e = .returned (.int .i64 (cmpI x y)) ∧ w' = w := by
  have t3 := Tryz.underlying25; have a3 := Tryz.isAgg25; have z3 := Tryz.sizeOf25; have v3 := Tryz.zeroValue25; have t4 := Tryz.underlying4; have a4 := Tryz.isAgg4
  have e60 : ∀ args w, (callFunc 128 args).run Tryz.prog w = .ok (.enter 128 args) w := enters_of Tryz.func128 (by kernel_rfl) rfl
  go_enter Tryz.func123, Tryz.ntmps123
  go_wp2_with (go_at_fn 128; refine (nan32 _ _).mono ?_; rintro e w' ⟨rfl, hw⟩; rw [hw])
  all_goals (go_ret; refine ⟨?_, rfl⟩; unfold cmpI; (repeat' split) <;> first | rfl | (exfalso; omega))
set_option maxRecDepth 100000 in
set_option maxHeartbeats 2000000 in
theorem or2 (b c : Nat) (x y : Int) (w : World) (h0 : w.cell? ⟨b, 0, none⟩ = some (.int .i64 x)) (h1 : w.cell? ⟨b, 1, none⟩ = some (.int .i64 y)) :
    Calls Tryz.prog 121 #[.slice (some ⟨b, 0, none⟩) 2 c] w fun e w' => e = .returned (.int .i64 (orI x y)) ∧ w' = w := by
  unfold orI
  go_enter Tryz.func121, Tryz.ntmps121
  go_wp2
  go_loop [5, 8] (fun (u i : Value) => ∃ k : Nat, k ≤ 2 ∧ i = .int .i64 k ∧ (1 ≤ k → x = 0) ∧ (2 ≤ k → y = 0)) (fun (u i : Value) => 2 - (toI i).toNat)
  case atStart => exact ⟨0, by omega, rfl, fun h => by omega, fun h => by omega⟩
  case round =>
    obtain ⟨k, hk, rfl, hx, hy⟩ := hrel
    rcases Nat.lt_or_ge k 2 with hlt | hge
    · rcases Nat.lt_or_ge k 1 with h01 | h01
      · obtain rfl : k = 0 := by omega
        go_wp2
        · exfalso
          simp_all
        · go_ret
          exact ⟨rfl, rfl⟩
        · rename_i e1
          exact ⟨⟨1, by omega, rfl, fun _ => by simpa using e1, fun h => by omega⟩, by simp [toI]⟩
      · obtain rfl : k = 1 := by omega
        have hx0 := hx (by omega)
        subst hx0
        go_wp2
        · go_ret
          exact ⟨rfl, rfl⟩
        · rename_i e1
          exact ⟨⟨2, by omega, rfl, fun _ => trivial, fun _ => by simpa using e1⟩, by simp [toI]⟩
    · obtain rfl : k = 2 := by omega
      have hx0 := hx (by omega)
      have hy0 := hy (by omega)
      subst hx0 hy0
      go_wp2
      go_ret
      exact ⟨rfl, rfl⟩
theorem cell_top (W : World) (arr : Array Value) (T : TypeId) (n k : Nat) (hn : n = W.heap.size) : (W.alloc (.cells arr T)).cell? ⟨n, k, none⟩ = arr[k]? := by
  subst hn
  exact World.cell?_alloc_new W arr T k
theorem grow3 (w : World) (n : Nat) (a b c : Obj) : (((w.alloc a).alloc b).drewN n).alloc c = grow (w.drewN n) #[a, b, c] := by
  show (((w.drewN n).alloc a).alloc b).alloc c = _
  rw [alloc_eq_grow, alloc_eq_grow, alloc_eq_grow, grow_grow, grow_grow]; rfl
set_option maxRecDepth 100000 in
set_option maxHeartbeats 4000000 in
theorem idcmp (r1 n1 r2 n2 : Int) (w : World) : Calls Tryz.prog 117 #[.agg #[.int .u16 r1, .int .u32 n1], .agg #[.int .u16 r2, .int .u32 n2]] w fun e w' =>
    e = .returned (.int .i64 (orI (cmpI r1 r2) (cmpI n1 n2))) ∧ ∃ q os, w' = grow (w.drewN q) os := by
  have hmixed := mixed
  have e43 : ∀ args w, (callFunc 122 args).run Tryz.prog w = .ok (.enter 122 args) w := enters_of Tryz.func122 (by kernel_rfl) rfl
  have e44 : ∀ args w, (callFunc 123 args).run Tryz.prog w = .ok (.enter 123 args) w := enters_of Tryz.func123 (by kernel_rfl) rfl
  have e41 : ∀ args w, (callFunc 121 args).run Tryz.prog w = .ok (.enter 121 args) w := enters_of Tryz.func121 (by kernel_rfl) rfl
  go_enter Tryz.func117, Tryz.ntmps117
  go_wp2_with fail
  have l10 : (w.alloc (.cells #[.int .u16 r1, .int .u32 n1] 73)).heap.size = w.heap.size + 1 := by simp
  have f0 : ∀ n, ((((w.alloc (.cells #[.int .u16 r1, .int .u32 n1] 73)).alloc (.cells #[.int .u16 r2, .int .u32 n2] 73)).drewN n).cell? ⟨w.heap.size, 0, none⟩) = some (.int .u16 r1) := fun n => by
    rw [World.cell?_drewN]; exact (World.cell?_alloc_past (w := w.alloc (.cells #[.int .u16 r1, .int .u32 n1] 73)) _ w.heap.size 0 (by rw [l10]; omega)).trans ((cell_top w _ _ _ _ rfl).trans rfl)
  have f1 : ∀ n, ((((w.alloc (.cells #[.int .u16 r1, .int .u32 n1] 73)).alloc (.cells #[.int .u16 r2, .int .u32 n2] 73)).drewN n).cell? ⟨w.heap.size, 1, none⟩) = some (.int .u32 n1) := fun n => by
    rw [World.cell?_drewN]; exact (World.cell?_alloc_past (w := w.alloc (.cells #[.int .u16 r1, .int .u32 n1] 73)) _ w.heap.size 1 (by rw [l10]; omega)).trans ((cell_top w _ _ _ _ rfl).trans rfl)
  have f2 : ∀ n, ((((w.alloc (.cells #[.int .u16 r1, .int .u32 n1] 73)).alloc (.cells #[.int .u16 r2, .int .u32 n2] 73)).drewN n).cell? ⟨w.heap.size + 1, 0, none⟩) = some (.int .u16 r2) := fun n => by
    rw [World.cell?_drewN]; exact (cell_top _ _ _ _ _ l10.symm).trans rfl
  have f3 : ∀ n, ((((w.alloc (.cells #[.int .u16 r1, .int .u32 n1] 73)).alloc (.cells #[.int .u16 r2, .int .u32 n2] 73)).drewN n).cell? ⟨w.heap.size + 1, 1, none⟩) = some (.int .u32 n2) := fun n => by
    rw [World.cell?_drewN]; exact (cell_top _ _ _ _ _ l10.symm).trans rfl
  generalize hW : (w.alloc (.cells #[.int .u16 r1, .int .u32 n1] 73)).alloc (.cells #[.int .u16 r2, .int .u32 n2] 73) = W at *
  refine Lift.wp_region_pre (C := fun w' => ∃ n, w' = W.drewN n) (Q := fun a' => ∀ w', (∃ n, w' = W.drewN n) → wpAny Tryz.prog .any _ _ 3 _ a' w') 10 hmixed (by decide) (by kernel_rfl) ⟨1, rfl⟩ ?_ (fun a' w' hw' h => h w' hw')
  simp only [List.take_succ_cons, List.take_zero]
  repeat (quiet_step (first
    | (go_at_fn 122; exact (cmp16 _ _ _).mono fun _ _ ⟨h1, h2⟩ => ⟨h1, _, h2⟩)
    | (go_at_fn 123; exact (cmp32 _ _ _).mono fun _ _ ⟨h1, h2⟩ => ⟨h1, _, h2⟩)))
  refine wpQuiet_nil ?_
  rintro w1 ⟨nq, rfl⟩
  have hsz : (W.drewN nq).heap.size = w.heap.size + 1 + 1 := by show W.heap.size = _; rw [← hW]; simp
  refine wpAny_ready (rs := [10]) (by kernel_rfl) (by simp) ?_
  refine AllReady.cons rfl (fun K hK => ?_) AllReady.nil
  go_simp
  refine hK _ _ ?_
  clear hK K
  refine wpAny_ready (rs := [11]) (by kernel_rfl) (by simp) ?_
  refine AllReady.cons rfl (fun K hK => ?_) AllReady.nil
  go_simp
  go_at_fn 121
  refine (or2 _ _ (cmpI r1 r2) (cmpI n1 n2) _ ((cell_top _ _ _ _ _ rfl).trans rfl) ((cell_top _ _ _ _ _ rfl).trans rfl)).mono ?_
  rintro e w' ⟨rfl, hw⟩
  rw [hw]
  go_simp
  refine hK _ _ ?_
  clear hK K
  refine wpAny_ready (rs := [12]) (by kernel_rfl) (by simp) ?_
  refine AllReady.cons rfl (fun K hK => ?_) AllReady.nil
  go_simp
  refine hK _ _ ?_
  clear hK K
  refine wpAny_done (by kernel_rfl) ?_ _
  go_wp2
  go_ret
  refine ⟨rfl, nq, #[.cells #[.int .u16 r1, .int .u32 n1] 73, .cells #[.int .u16 r2, .int .u32 n2] 73, .cells #[.int .i64 (cmpI r1 r2), .int .i64 (cmpI n1 n2)] 3], ?_⟩
  rw [← hW]
  exact grow3 w nq _ _ _
set_option maxRecDepth 100000 in
set_option maxHeartbeats 4000000 in
theorem spancmp (x y : S3) (w : World) : Calls Tryz.prog 116 #[.agg (s3v x).toArray, .agg (s3v y).toArray] w fun e w' =>
    e = .returned (.int .i64 (orI (cmpI x.1 y.1) (cmpI x.2.1 y.2.1))) ∧ ∃ q os, w' = grow (w.drewN q) os := by
  unfold s3v
  have e13 : ∀ args w, (callFunc 117 args).run Tryz.prog w = .ok (.enter 117 args) w := enters_of Tryz.func117 (by kernel_rfl) rfl
  go_enter Tryz.func116, Tryz.ntmps116
  go_wp2_with (go_at_fn 117; refine (idcmp _ _ _ _ _).mono ?_; rintro e w' ⟨rfl, q, os, hw⟩; rw [hw])
  go_ret
  refine ⟨rfl, q, #[.cells #[.int .u16 x.1, .int .u32 x.2.1, .int .i64 x.2.2] 156, .cells #[.int .u16 y.1, .int .u32 y.2.1, .int .i64 y.2.2] 156] ++ os, ?_⟩
  show grow (((w.drewN q).alloc _).alloc _) os = _
  rw [alloc_eq_grow, alloc_eq_grow, grow_grow, grow_grow, ← Array.append_assoc]
  rfl
end Go.Proofs.YtclhjcbnpdlgbaaGreatDoor.Srt
