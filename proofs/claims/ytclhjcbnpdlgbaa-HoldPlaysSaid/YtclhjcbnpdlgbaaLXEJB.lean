import Derived.Test.YtclhjcbnpdlgbaaProg
import Derived.Test.YtclhjcbnpdlgbaaLA3
import Derived.Test.YtclhjcbnpdlgbaaLA2
set_option linter.unusedVariables false
set_option linter.unusedSimpArgs false
/- PRINTED BY wip/tools/mktt.py: what the evaluator knows of the types of the program Ytclhjcbnpdlgbaa. -/
namespace Go.Proofs.Ytclhjcbnpdlgbaa
open Go Go.Lift
set_option maxRecDepth 20000

def TT : TTab := fun t => match t with
  | 2 => some ⟨(some .i64), none, 1, 8, false, true, [.v (.int .i64 0)], .oth⟩
  | 3 => some ⟨(some .i64), none, 1, 8, false, true, [.v (.int .i64 0)], .oth⟩
  | 4 => some ⟨none, none, 1, 1, false, true, [.v (.bool false)], .bool⟩
  | 5 => some ⟨(some .u8), none, 1, 1, false, true, [.v (.int .u8 0)], .oth⟩
  | 9 => some ⟨none, none, 1, 16, false, true, [.v (.string ⟨#[]⟩)], .str⟩
  | 12 => some ⟨(some .u64), none, 1, 8, false, true, [.v (.int .u64 0)], .oth⟩
  | 21 => some ⟨(some .i32), none, 1, 4, false, true, [.v (.int .i32 0)], .oth⟩
  | 22 => some ⟨none, none, 1, 24, false, false, [.row 36], (.slice 36)⟩
  | 23 => some ⟨none, none, 1, 24, false, false, [.row 89], (.slice 89)⟩
  | 24 => some ⟨none, none, 1, 24, false, false, [.row 89], (.slice 89)⟩
  | 27 => some ⟨none, none, 1, 24, true, false, [.row 36], (.struct [(0, 22)])⟩
  | 28 => some ⟨none, none, 1, 24, true, false, [.row 36], (.struct [(0, 22)])⟩
  | 29 => some ⟨(some .u16), none, 1, 2, false, true, [.v (.int .u16 0)], .oth⟩
  | 30 => some ⟨(some .u32), none, 1, 4, false, true, [.v (.int .u32 0)], .oth⟩
  | 31 => some ⟨(some .u64), none, 1, 8, false, true, [.v (.int .u64 0)], .oth⟩
  | 32 => some ⟨none, none, 1, 24, false, false, [.row 109], (.slice 109)⟩
  | 33 => some ⟨none, none, 5, 48, true, false, [.v (.int .u16 0), .v (.int .u32 0), .v (.int .u64 0), .v (.int .i64 0), .row 109], (.struct [(0, 29), (1, 30), (2, 31), (3, 3), (4, 32)])⟩
  | 34 => some ⟨none, none, 5, 48, true, false, [.v (.int .u16 0), .v (.int .u32 0), .v (.int .u64 0), .v (.int .i64 0), .row 109], (.struct [(0, 29), (1, 30), (2, 31), (3, 3), (4, 32)])⟩
  | 35 => some ⟨none, none, 6, 72, true, false, [.row 89, .v (.int .u16 0), .v (.int .u32 0), .v (.int .u64 0), .v (.int .i64 0), .row 109], (.struct [(0, 24), (1, 34)])⟩
  | 36 => some ⟨none, none, 6, 72, true, false, [.row 89, .v (.int .u16 0), .v (.int .u32 0), .v (.int .u64 0), .v (.int .i64 0), .row 109], (.struct [(0, 24), (1, 34)])⟩
  | 38 => some ⟨(some .i64), none, 1, 8, false, true, [.v (.int .i64 0)], .oth⟩
  | 41 => some ⟨none, none, 1, 24, false, false, [.row 90], (.slice 90)⟩
  | 45 => some ⟨none, none, 1, 24, false, false, [.row 120], (.slice 120)⟩
  | 46 => some ⟨none, none, 5, 48, true, false, [.v (.int .u16 0), .v (.int .u32 0), .v (.int .u64 0), .v (.int .i64 0), .row 120], (.struct [(0, 29), (1, 30), (2, 31), (3, 3), (4, 45)])⟩
  | 47 => some ⟨none, none, 5, 48, true, false, [.v (.int .u16 0), .v (.int .u32 0), .v (.int .u64 0), .v (.int .i64 0), .row 120], (.struct [(0, 29), (1, 30), (2, 31), (3, 3), (4, 45)])⟩
  | 48 => some ⟨none, none, 6, 72, true, false, [.row 90, .v (.int .u16 0), .v (.int .u32 0), .v (.int .u64 0), .v (.int .i64 0), .row 120], (.struct [(0, 41), (1, 47)])⟩
  | 49 => some ⟨none, none, 6, 72, true, false, [.row 90, .v (.int .u16 0), .v (.int .u32 0), .v (.int .u64 0), .v (.int .i64 0), .row 120], (.struct [(0, 41), (1, 47)])⟩
  | 54 => some ⟨none, none, 1, 24, false, false, [.row 57], (.slice 57)⟩
  | 56 => some ⟨none, (some [.int .u16, .int .u32]), 2, 8, true, true, [.v (.int .u16 0), .v (.int .u32 0)], (.struct [(0, 29), (1, 30)])⟩
  | 57 => some ⟨none, (some [.int .u16, .int .u32]), 2, 8, true, true, [.v (.int .u16 0), .v (.int .u32 0)], (.struct [(0, 29), (1, 30)])⟩
  | 62 => some ⟨none, none, 1, 24, false, false, [.row 65], (.slice 65)⟩
  | 64 => some ⟨none, (some [.int .u16, .int .u32, .int .u32]), 3, 12, true, true, [.v (.int .u16 0), .v (.int .u32 0), .v (.int .u32 0)], (.struct [(0, 29), (1, 30), (2, 30)])⟩
  | 65 => some ⟨none, (some [.int .u16, .int .u32, .int .u32]), 3, 12, true, true, [.v (.int .u16 0), .v (.int .u32 0), .v (.int .u32 0)], (.struct [(0, 29), (1, 30), (2, 30)])⟩
  | 69 => some ⟨none, none, 1, 24, false, false, [.row 72], (.slice 72)⟩
  | 70 => some ⟨none, none, 1, 24, false, false, [.row 49], (.slice 49)⟩
  | 71 => some ⟨none, none, 8, 104, true, false, [.v (.int .i64 0), .row 89, .v (.int .u16 0), .v (.int .u32 0), .v (.int .u64 0), .v (.int .i64 0), .row 109, .row 89], (.struct [(0, 3), (1, 36), (7, 24)])⟩
  | 72 => some ⟨none, none, 8, 104, true, false, [.v (.int .i64 0), .row 89, .v (.int .u16 0), .v (.int .u32 0), .v (.int .u64 0), .v (.int .i64 0), .row 109, .row 89], (.struct [(0, 3), (1, 36), (7, 24)])⟩
  | 80 => some ⟨none, none, 1, 8, false, false, [.v (.pointer none)], .oth⟩
  | 89 => some ⟨none, (some [.int .u16, .int .u32]), 2, 8, true, true, [.v (.int .u16 0), .v (.int .u32 0)], (.struct [(0, 29), (1, 30)])⟩
  | 90 => some ⟨none, (some [.int .u16, .int .u32]), 2, 8, true, true, [.v (.int .u16 0), .v (.int .u32 0)], (.struct [(0, 29), (1, 30)])⟩
  | 103 => some ⟨none, none, 1, 24, false, false, [.row 130], (.slice 130)⟩
  | 105 => some ⟨none, (some [.int .u16, .int .u32]), 2, 8, true, true, [.v (.int .u16 0), .v (.int .u32 0)], (.struct [(0, 29), (1, 30)])⟩
  | 106 => some ⟨none, (some [.int .u16, .int .u32]), 2, 8, true, true, [.v (.int .u16 0), .v (.int .u32 0)], (.struct [(0, 29), (1, 30)])⟩
  | 107 => some ⟨none, none, 1, 24, false, false, [.row 144], (.slice 144)⟩
  | 108 => some ⟨none, none, 7, 72, true, false, [.v (.int .i64 0), .v (.int .u16 0), .v (.int .u32 0), .v (.int .u32 0), .v (.string ⟨#[]⟩), .row 144, .v (.int .u32 0)], (.struct [(0, 3), (1, 106), (3, 30), (4, 9), (5, 107), (6, 30)])⟩
  | 109 => some ⟨none, none, 7, 72, true, false, [.v (.int .i64 0), .v (.int .u16 0), .v (.int .u32 0), .v (.int .u32 0), .v (.string ⟨#[]⟩), .row 144, .v (.int .u32 0)], (.struct [(0, 3), (1, 106), (3, 30), (4, 9), (5, 107), (6, 30)])⟩
  | 117 => some ⟨none, (some [.int .u16, .int .u32]), 2, 8, true, true, [.v (.int .u16 0), .v (.int .u32 0)], (.struct [(0, 29), (1, 30)])⟩
  | 118 => some ⟨none, none, 1, 24, false, false, [.row 136], (.slice 136)⟩
  | 119 => some ⟨none, none, 7, 72, true, false, [.v (.int .i64 0), .v (.int .u16 0), .v (.int .u32 0), .v (.int .u32 0), .v (.string ⟨#[]⟩), .row 136, .v (.int .u32 0)], (.struct [(0, 3), (1, 117), (3, 30), (4, 9), (5, 118), (6, 30)])⟩
  | 120 => some ⟨none, none, 7, 72, true, false, [.v (.int .i64 0), .v (.int .u16 0), .v (.int .u32 0), .v (.int .u32 0), .v (.string ⟨#[]⟩), .row 136, .v (.int .u32 0)], (.struct [(0, 3), (1, 117), (3, 30), (4, 9), (5, 118), (6, 30)])⟩
  | 127 => some ⟨none, none, 1, 24, false, false, [.row 24], (.slice 24)⟩
  | 130 => some ⟨none, (some [.int .u16, .int .u32, .int .u32]), 3, 12, true, true, [.v (.int .u16 0), .v (.int .u32 0), .v (.int .u32 0)], (.struct [(0, 29), (1, 30), (2, 30)])⟩
  | 133 => some ⟨(some .u64), none, 1, 8, false, true, [.v (.int .u64 0)], .oth⟩
  | 135 => some ⟨none, (some [.int .u16, .int .u32, .int .i64]), 3, 16, true, true, [.v (.int .u16 0), .v (.int .u32 0), .v (.int .i64 0)], (.struct [(0, 117), (2, 3)])⟩
  | 136 => some ⟨none, (some [.int .u16, .int .u32, .int .i64]), 3, 16, true, true, [.v (.int .u16 0), .v (.int .u32 0), .v (.int .i64 0)], (.struct [(0, 117), (2, 3)])⟩
  | 140 => some ⟨none, none, 1, 24, false, false, [.row 117], (.slice 117)⟩
  | 143 => some ⟨none, (some [.int .u16, .int .u32, .int .i64]), 3, 16, true, true, [.v (.int .u16 0), .v (.int .u32 0), .v (.int .i64 0)], (.struct [(0, 106), (2, 3)])⟩
  | 144 => some ⟨none, (some [.int .u16, .int .u32, .int .i64]), 3, 16, true, true, [.v (.int .u16 0), .v (.int .u32 0), .v (.int .i64 0)], (.struct [(0, 106), (2, 3)])⟩
  | 158 => some ⟨none, none, 1, 8, false, false, [.v (.pointer none)], .oth⟩
  | _ => none

@[go_sem] theorem TTe2 : TT 2 = some ⟨(some .i64), none, 1, 8, false, true, [.v (.int .i64 0)], .oth⟩ := rfl
@[go_sem] theorem TTe3 : TT 3 = some ⟨(some .i64), none, 1, 8, false, true, [.v (.int .i64 0)], .oth⟩ := rfl
@[go_sem] theorem TTe4 : TT 4 = some ⟨none, none, 1, 1, false, true, [.v (.bool false)], .bool⟩ := rfl
@[go_sem] theorem TTe5 : TT 5 = some ⟨(some .u8), none, 1, 1, false, true, [.v (.int .u8 0)], .oth⟩ := rfl
@[go_sem] theorem TTe9 : TT 9 = some ⟨none, none, 1, 16, false, true, [.v (.string ⟨#[]⟩)], .str⟩ := rfl
@[go_sem] theorem TTe12 : TT 12 = some ⟨(some .u64), none, 1, 8, false, true, [.v (.int .u64 0)], .oth⟩ := rfl
@[go_sem] theorem TTe21 : TT 21 = some ⟨(some .i32), none, 1, 4, false, true, [.v (.int .i32 0)], .oth⟩ := rfl
@[go_sem] theorem TTe22 : TT 22 = some ⟨none, none, 1, 24, false, false, [.row 36], (.slice 36)⟩ := rfl
@[go_sem] theorem TTe23 : TT 23 = some ⟨none, none, 1, 24, false, false, [.row 89], (.slice 89)⟩ := rfl
@[go_sem] theorem TTe24 : TT 24 = some ⟨none, none, 1, 24, false, false, [.row 89], (.slice 89)⟩ := rfl
@[go_sem] theorem TTe27 : TT 27 = some ⟨none, none, 1, 24, true, false, [.row 36], (.struct [(0, 22)])⟩ := rfl
@[go_sem] theorem TTe28 : TT 28 = some ⟨none, none, 1, 24, true, false, [.row 36], (.struct [(0, 22)])⟩ := rfl
@[go_sem] theorem TTe29 : TT 29 = some ⟨(some .u16), none, 1, 2, false, true, [.v (.int .u16 0)], .oth⟩ := rfl
@[go_sem] theorem TTe30 : TT 30 = some ⟨(some .u32), none, 1, 4, false, true, [.v (.int .u32 0)], .oth⟩ := rfl
@[go_sem] theorem TTe31 : TT 31 = some ⟨(some .u64), none, 1, 8, false, true, [.v (.int .u64 0)], .oth⟩ := rfl
@[go_sem] theorem TTe32 : TT 32 = some ⟨none, none, 1, 24, false, false, [.row 109], (.slice 109)⟩ := rfl
@[go_sem] theorem TTe33 : TT 33 = some ⟨none, none, 5, 48, true, false, [.v (.int .u16 0), .v (.int .u32 0), .v (.int .u64 0), .v (.int .i64 0), .row 109], (.struct [(0, 29), (1, 30), (2, 31), (3, 3), (4, 32)])⟩ := rfl
@[go_sem] theorem TTe34 : TT 34 = some ⟨none, none, 5, 48, true, false, [.v (.int .u16 0), .v (.int .u32 0), .v (.int .u64 0), .v (.int .i64 0), .row 109], (.struct [(0, 29), (1, 30), (2, 31), (3, 3), (4, 32)])⟩ := rfl
@[go_sem] theorem TTe35 : TT 35 = some ⟨none, none, 6, 72, true, false, [.row 89, .v (.int .u16 0), .v (.int .u32 0), .v (.int .u64 0), .v (.int .i64 0), .row 109], (.struct [(0, 24), (1, 34)])⟩ := rfl
@[go_sem] theorem TTe36 : TT 36 = some ⟨none, none, 6, 72, true, false, [.row 89, .v (.int .u16 0), .v (.int .u32 0), .v (.int .u64 0), .v (.int .i64 0), .row 109], (.struct [(0, 24), (1, 34)])⟩ := rfl
@[go_sem] theorem TTe38 : TT 38 = some ⟨(some .i64), none, 1, 8, false, true, [.v (.int .i64 0)], .oth⟩ := rfl
@[go_sem] theorem TTe41 : TT 41 = some ⟨none, none, 1, 24, false, false, [.row 90], (.slice 90)⟩ := rfl
@[go_sem] theorem TTe45 : TT 45 = some ⟨none, none, 1, 24, false, false, [.row 120], (.slice 120)⟩ := rfl
@[go_sem] theorem TTe46 : TT 46 = some ⟨none, none, 5, 48, true, false, [.v (.int .u16 0), .v (.int .u32 0), .v (.int .u64 0), .v (.int .i64 0), .row 120], (.struct [(0, 29), (1, 30), (2, 31), (3, 3), (4, 45)])⟩ := rfl
@[go_sem] theorem TTe47 : TT 47 = some ⟨none, none, 5, 48, true, false, [.v (.int .u16 0), .v (.int .u32 0), .v (.int .u64 0), .v (.int .i64 0), .row 120], (.struct [(0, 29), (1, 30), (2, 31), (3, 3), (4, 45)])⟩ := rfl
@[go_sem] theorem TTe48 : TT 48 = some ⟨none, none, 6, 72, true, false, [.row 90, .v (.int .u16 0), .v (.int .u32 0), .v (.int .u64 0), .v (.int .i64 0), .row 120], (.struct [(0, 41), (1, 47)])⟩ := rfl
@[go_sem] theorem TTe49 : TT 49 = some ⟨none, none, 6, 72, true, false, [.row 90, .v (.int .u16 0), .v (.int .u32 0), .v (.int .u64 0), .v (.int .i64 0), .row 120], (.struct [(0, 41), (1, 47)])⟩ := rfl
@[go_sem] theorem TTe54 : TT 54 = some ⟨none, none, 1, 24, false, false, [.row 57], (.slice 57)⟩ := rfl
@[go_sem] theorem TTe56 : TT 56 = some ⟨none, (some [.int .u16, .int .u32]), 2, 8, true, true, [.v (.int .u16 0), .v (.int .u32 0)], (.struct [(0, 29), (1, 30)])⟩ := rfl
@[go_sem] theorem TTe57 : TT 57 = some ⟨none, (some [.int .u16, .int .u32]), 2, 8, true, true, [.v (.int .u16 0), .v (.int .u32 0)], (.struct [(0, 29), (1, 30)])⟩ := rfl
@[go_sem] theorem TTe62 : TT 62 = some ⟨none, none, 1, 24, false, false, [.row 65], (.slice 65)⟩ := rfl
@[go_sem] theorem TTe64 : TT 64 = some ⟨none, (some [.int .u16, .int .u32, .int .u32]), 3, 12, true, true, [.v (.int .u16 0), .v (.int .u32 0), .v (.int .u32 0)], (.struct [(0, 29), (1, 30), (2, 30)])⟩ := rfl
@[go_sem] theorem TTe65 : TT 65 = some ⟨none, (some [.int .u16, .int .u32, .int .u32]), 3, 12, true, true, [.v (.int .u16 0), .v (.int .u32 0), .v (.int .u32 0)], (.struct [(0, 29), (1, 30), (2, 30)])⟩ := rfl
@[go_sem] theorem TTe69 : TT 69 = some ⟨none, none, 1, 24, false, false, [.row 72], (.slice 72)⟩ := rfl
@[go_sem] theorem TTe70 : TT 70 = some ⟨none, none, 1, 24, false, false, [.row 49], (.slice 49)⟩ := rfl
@[go_sem] theorem TTe71 : TT 71 = some ⟨none, none, 8, 104, true, false, [.v (.int .i64 0), .row 89, .v (.int .u16 0), .v (.int .u32 0), .v (.int .u64 0), .v (.int .i64 0), .row 109, .row 89], (.struct [(0, 3), (1, 36), (7, 24)])⟩ := rfl
@[go_sem] theorem TTe72 : TT 72 = some ⟨none, none, 8, 104, true, false, [.v (.int .i64 0), .row 89, .v (.int .u16 0), .v (.int .u32 0), .v (.int .u64 0), .v (.int .i64 0), .row 109, .row 89], (.struct [(0, 3), (1, 36), (7, 24)])⟩ := rfl
@[go_sem] theorem TTe80 : TT 80 = some ⟨none, none, 1, 8, false, false, [.v (.pointer none)], .oth⟩ := rfl
@[go_sem] theorem TTe89 : TT 89 = some ⟨none, (some [.int .u16, .int .u32]), 2, 8, true, true, [.v (.int .u16 0), .v (.int .u32 0)], (.struct [(0, 29), (1, 30)])⟩ := rfl
@[go_sem] theorem TTe90 : TT 90 = some ⟨none, (some [.int .u16, .int .u32]), 2, 8, true, true, [.v (.int .u16 0), .v (.int .u32 0)], (.struct [(0, 29), (1, 30)])⟩ := rfl
@[go_sem] theorem TTe103 : TT 103 = some ⟨none, none, 1, 24, false, false, [.row 130], (.slice 130)⟩ := rfl
@[go_sem] theorem TTe105 : TT 105 = some ⟨none, (some [.int .u16, .int .u32]), 2, 8, true, true, [.v (.int .u16 0), .v (.int .u32 0)], (.struct [(0, 29), (1, 30)])⟩ := rfl
@[go_sem] theorem TTe106 : TT 106 = some ⟨none, (some [.int .u16, .int .u32]), 2, 8, true, true, [.v (.int .u16 0), .v (.int .u32 0)], (.struct [(0, 29), (1, 30)])⟩ := rfl
@[go_sem] theorem TTe107 : TT 107 = some ⟨none, none, 1, 24, false, false, [.row 144], (.slice 144)⟩ := rfl
@[go_sem] theorem TTe108 : TT 108 = some ⟨none, none, 7, 72, true, false, [.v (.int .i64 0), .v (.int .u16 0), .v (.int .u32 0), .v (.int .u32 0), .v (.string ⟨#[]⟩), .row 144, .v (.int .u32 0)], (.struct [(0, 3), (1, 106), (3, 30), (4, 9), (5, 107), (6, 30)])⟩ := rfl
@[go_sem] theorem TTe109 : TT 109 = some ⟨none, none, 7, 72, true, false, [.v (.int .i64 0), .v (.int .u16 0), .v (.int .u32 0), .v (.int .u32 0), .v (.string ⟨#[]⟩), .row 144, .v (.int .u32 0)], (.struct [(0, 3), (1, 106), (3, 30), (4, 9), (5, 107), (6, 30)])⟩ := rfl
@[go_sem] theorem TTe117 : TT 117 = some ⟨none, (some [.int .u16, .int .u32]), 2, 8, true, true, [.v (.int .u16 0), .v (.int .u32 0)], (.struct [(0, 29), (1, 30)])⟩ := rfl
@[go_sem] theorem TTe118 : TT 118 = some ⟨none, none, 1, 24, false, false, [.row 136], (.slice 136)⟩ := rfl
@[go_sem] theorem TTe119 : TT 119 = some ⟨none, none, 7, 72, true, false, [.v (.int .i64 0), .v (.int .u16 0), .v (.int .u32 0), .v (.int .u32 0), .v (.string ⟨#[]⟩), .row 136, .v (.int .u32 0)], (.struct [(0, 3), (1, 117), (3, 30), (4, 9), (5, 118), (6, 30)])⟩ := rfl
@[go_sem] theorem TTe120 : TT 120 = some ⟨none, none, 7, 72, true, false, [.v (.int .i64 0), .v (.int .u16 0), .v (.int .u32 0), .v (.int .u32 0), .v (.string ⟨#[]⟩), .row 136, .v (.int .u32 0)], (.struct [(0, 3), (1, 117), (3, 30), (4, 9), (5, 118), (6, 30)])⟩ := rfl
@[go_sem] theorem TTe127 : TT 127 = some ⟨none, none, 1, 24, false, false, [.row 24], (.slice 24)⟩ := rfl
@[go_sem] theorem TTe130 : TT 130 = some ⟨none, (some [.int .u16, .int .u32, .int .u32]), 3, 12, true, true, [.v (.int .u16 0), .v (.int .u32 0), .v (.int .u32 0)], (.struct [(0, 29), (1, 30), (2, 30)])⟩ := rfl
@[go_sem] theorem TTe133 : TT 133 = some ⟨(some .u64), none, 1, 8, false, true, [.v (.int .u64 0)], .oth⟩ := rfl
@[go_sem] theorem TTe135 : TT 135 = some ⟨none, (some [.int .u16, .int .u32, .int .i64]), 3, 16, true, true, [.v (.int .u16 0), .v (.int .u32 0), .v (.int .i64 0)], (.struct [(0, 117), (2, 3)])⟩ := rfl
@[go_sem] theorem TTe136 : TT 136 = some ⟨none, (some [.int .u16, .int .u32, .int .i64]), 3, 16, true, true, [.v (.int .u16 0), .v (.int .u32 0), .v (.int .i64 0)], (.struct [(0, 117), (2, 3)])⟩ := rfl
@[go_sem] theorem TTe140 : TT 140 = some ⟨none, none, 1, 24, false, false, [.row 117], (.slice 117)⟩ := rfl
@[go_sem] theorem TTe143 : TT 143 = some ⟨none, (some [.int .u16, .int .u32, .int .i64]), 3, 16, true, true, [.v (.int .u16 0), .v (.int .u32 0), .v (.int .i64 0)], (.struct [(0, 106), (2, 3)])⟩ := rfl
@[go_sem] theorem TTe144 : TT 144 = some ⟨none, (some [.int .u16, .int .u32, .int .i64]), 3, 16, true, true, [.v (.int .u16 0), .v (.int .u32 0), .v (.int .i64 0)], (.struct [(0, 106), (2, 3)])⟩ := rfl
@[go_sem] theorem TTe158 : TT 158 = some ⟨none, none, 1, 8, false, false, [.v (.pointer none)], .oth⟩ := rfl
theorem tt2 : TIok Try.prog 2 ⟨(some .i64), none, 1, 8, false, true, [.v (.int .i64 0)], .oth⟩ :=
  TIok.mk' (z := ((.int .i64 0))) (by kernel_rfl) (by simp [zOk, Value.cells, Value.oneCell']) rfl (by decide) Try.underlying2 trivial rfl (fun k h => by cases h; exact Try.underlying2) (fun ks h => by cases h)
theorem tt3 : TIok Try.prog 3 ⟨(some .i64), none, 1, 8, false, true, [.v (.int .i64 0)], .oth⟩ :=
  TIok.mk' (z := ((.int .i64 0))) (by kernel_rfl) (by simp [zOk, Value.cells, Value.oneCell']) rfl (by decide) Try.underlying3 trivial rfl (fun k h => by cases h; exact Try.underlying3) (fun ks h => by cases h)
theorem tt4 : TIok Try.prog 4 ⟨none, none, 1, 1, false, true, [.v (.bool false)], .bool⟩ :=
  TIok.mk' (z := ((.bool false))) (by kernel_rfl) (by simp [zOk, Value.cells, Value.oneCell']) rfl (by decide) Try.underlying4 rfl rfl (fun k h => by cases h) (fun ks h => by cases h)
theorem tt5 : TIok Try.prog 5 ⟨(some .u8), none, 1, 1, false, true, [.v (.int .u8 0)], .oth⟩ :=
  TIok.mk' (z := ((.int .u8 0))) (by kernel_rfl) (by simp [zOk, Value.cells, Value.oneCell']) rfl (by decide) Try.underlying5 trivial rfl (fun k h => by cases h; exact Try.underlying5) (fun ks h => by cases h)
theorem tt9 : TIok Try.prog 9 ⟨none, none, 1, 16, false, true, [.v (.string ⟨#[]⟩)], .str⟩ :=
  TIok.mk' (z := ((.string ⟨#[]⟩))) (by kernel_rfl) (by simp [zOk, Value.cells, Value.oneCell']) rfl (by decide) Try.underlying9 rfl rfl (fun k h => by cases h) (fun ks h => by cases h)
theorem tt12 : TIok Try.prog 12 ⟨(some .u64), none, 1, 8, false, true, [.v (.int .u64 0)], .oth⟩ :=
  TIok.mk' (z := ((.int .u64 0))) (by kernel_rfl) (by simp [zOk, Value.cells, Value.oneCell']) rfl (by decide) Try.underlying12 trivial rfl (fun k h => by cases h; exact Try.underlying12) (fun ks h => by cases h)
theorem tt21 : TIok Try.prog 21 ⟨(some .i32), none, 1, 4, false, true, [.v (.int .i32 0)], .oth⟩ :=
  TIok.mk' (z := ((.int .i32 0))) (by kernel_rfl) (by simp [zOk, Value.cells, Value.oneCell']) rfl (by decide) Try.underlying21 trivial rfl (fun k h => by cases h; exact Try.underlying21) (fun ks h => by cases h)
theorem tt22 : TIok Try.prog 22 ⟨none, none, 1, 24, false, false, [.row 36], (.slice 36)⟩ :=
  TIok.mk' (z := ((.slice none 0 0))) (by kernel_rfl) (by simp [zOk, Value.cells, Value.oneCell']) rfl (by decide) Try.underlying22 rfl rfl (fun k h => by cases h) (fun ks h => by cases h)
theorem tt23 : TIok Try.prog 23 ⟨none, none, 1, 24, false, false, [.row 89], (.slice 89)⟩ :=
  TIok.mk' (z := ((.slice none 0 0))) (by kernel_rfl) (by simp [zOk, Value.cells, Value.oneCell']) rfl (by decide) Try.underlying23 rfl rfl (fun k h => by cases h) (fun ks h => by cases h)
theorem tt24 : TIok Try.prog 24 ⟨none, none, 1, 24, false, false, [.row 89], (.slice 89)⟩ :=
  TIok.mk' (z := ((.slice none 0 0))) (by kernel_rfl) (by simp [zOk, Value.cells, Value.oneCell']) rfl (by decide) Try.underlying24 rfl rfl (fun k h => by cases h) (fun ks h => by cases h)
theorem tt27 : TIok Try.prog 27 ⟨none, none, 1, 24, true, false, [.row 36], (.struct [(0, 22)])⟩ :=
  TIok.mk' (z := (.agg #[(.slice none 0 0)])) (by kernel_rfl) (by simp [zOk, Value.cells, Value.oneCell']) rfl (by decide) Try.underlying27 ⟨_, rfl, rfl⟩ rfl (fun k h => by cases h) (fun ks h => by cases h)
theorem tt28 : TIok Try.prog 28 ⟨none, none, 1, 24, true, false, [.row 36], (.struct [(0, 22)])⟩ :=
  TIok.mk' (z := (.agg #[(.slice none 0 0)])) (by kernel_rfl) (by simp [zOk, Value.cells, Value.oneCell']) rfl (by decide) Try.underlying28 ⟨_, rfl, rfl⟩ rfl (fun k h => by cases h) (fun ks h => by cases h)
theorem tt29 : TIok Try.prog 29 ⟨(some .u16), none, 1, 2, false, true, [.v (.int .u16 0)], .oth⟩ :=
  TIok.mk' (z := ((.int .u16 0))) (by kernel_rfl) (by simp [zOk, Value.cells, Value.oneCell']) rfl (by decide) Try.underlying29 trivial rfl (fun k h => by cases h; exact Try.underlying29) (fun ks h => by cases h)
theorem tt30 : TIok Try.prog 30 ⟨(some .u32), none, 1, 4, false, true, [.v (.int .u32 0)], .oth⟩ :=
  TIok.mk' (z := ((.int .u32 0))) (by kernel_rfl) (by simp [zOk, Value.cells, Value.oneCell']) rfl (by decide) Try.underlying30 trivial rfl (fun k h => by cases h; exact Try.underlying30) (fun ks h => by cases h)
theorem tt31 : TIok Try.prog 31 ⟨(some .u64), none, 1, 8, false, true, [.v (.int .u64 0)], .oth⟩ :=
  TIok.mk' (z := ((.int .u64 0))) (by kernel_rfl) (by simp [zOk, Value.cells, Value.oneCell']) rfl (by decide) Try.underlying31 trivial rfl (fun k h => by cases h; exact Try.underlying31) (fun ks h => by cases h)
theorem tt32 : TIok Try.prog 32 ⟨none, none, 1, 24, false, false, [.row 109], (.slice 109)⟩ :=
  TIok.mk' (z := ((.slice none 0 0))) (by kernel_rfl) (by simp [zOk, Value.cells, Value.oneCell']) rfl (by decide) Try.underlying32 rfl rfl (fun k h => by cases h) (fun ks h => by cases h)
theorem tt33 : TIok Try.prog 33 ⟨none, none, 5, 48, true, false, [.v (.int .u16 0), .v (.int .u32 0), .v (.int .u64 0), .v (.int .i64 0), .row 109], (.struct [(0, 29), (1, 30), (2, 31), (3, 3), (4, 32)])⟩ :=
  TIok.mk' (z := (.agg #[(.int .u16 0), (.int .u32 0), (.int .u64 0), (.int .i64 0), (.slice none 0 0)])) (by kernel_rfl) (by simp [zOk, Value.cells, Value.oneCell']) rfl (by decide) Try.underlying33 ⟨_, rfl, rfl⟩ rfl (fun k h => by cases h) (fun ks h => by cases h)
theorem tt34 : TIok Try.prog 34 ⟨none, none, 5, 48, true, false, [.v (.int .u16 0), .v (.int .u32 0), .v (.int .u64 0), .v (.int .i64 0), .row 109], (.struct [(0, 29), (1, 30), (2, 31), (3, 3), (4, 32)])⟩ :=
  TIok.mk' (z := (.agg #[(.int .u16 0), (.int .u32 0), (.int .u64 0), (.int .i64 0), (.slice none 0 0)])) (by kernel_rfl) (by simp [zOk, Value.cells, Value.oneCell']) rfl (by decide) Try.underlying34 ⟨_, rfl, rfl⟩ rfl (fun k h => by cases h) (fun ks h => by cases h)
theorem tt35 : TIok Try.prog 35 ⟨none, none, 6, 72, true, false, [.row 89, .v (.int .u16 0), .v (.int .u32 0), .v (.int .u64 0), .v (.int .i64 0), .row 109], (.struct [(0, 24), (1, 34)])⟩ :=
  TIok.mk' (z := (.agg #[(.slice none 0 0), (.int .u16 0), (.int .u32 0), (.int .u64 0), (.int .i64 0), (.slice none 0 0)])) (by kernel_rfl) (by simp [zOk, Value.cells, Value.oneCell']) rfl (by decide) Try.underlying35 ⟨_, rfl, rfl⟩ rfl (fun k h => by cases h) (fun ks h => by cases h)
theorem tt36 : TIok Try.prog 36 ⟨none, none, 6, 72, true, false, [.row 89, .v (.int .u16 0), .v (.int .u32 0), .v (.int .u64 0), .v (.int .i64 0), .row 109], (.struct [(0, 24), (1, 34)])⟩ :=
  TIok.mk' (z := (.agg #[(.slice none 0 0), (.int .u16 0), (.int .u32 0), (.int .u64 0), (.int .i64 0), (.slice none 0 0)])) (by kernel_rfl) (by simp [zOk, Value.cells, Value.oneCell']) rfl (by decide) Try.underlying36 ⟨_, rfl, rfl⟩ rfl (fun k h => by cases h) (fun ks h => by cases h)
theorem tt38 : TIok Try.prog 38 ⟨(some .i64), none, 1, 8, false, true, [.v (.int .i64 0)], .oth⟩ :=
  TIok.mk' (z := ((.int .i64 0))) (by kernel_rfl) (by simp [zOk, Value.cells, Value.oneCell']) rfl (by decide) Try.underlying38 trivial rfl (fun k h => by cases h; exact Try.underlying38) (fun ks h => by cases h)
theorem tt41 : TIok Try.prog 41 ⟨none, none, 1, 24, false, false, [.row 90], (.slice 90)⟩ :=
  TIok.mk' (z := ((.slice none 0 0))) (by kernel_rfl) (by simp [zOk, Value.cells, Value.oneCell']) rfl (by decide) Try.underlying41 rfl rfl (fun k h => by cases h) (fun ks h => by cases h)
theorem tt45 : TIok Try.prog 45 ⟨none, none, 1, 24, false, false, [.row 120], (.slice 120)⟩ :=
  TIok.mk' (z := ((.slice none 0 0))) (by kernel_rfl) (by simp [zOk, Value.cells, Value.oneCell']) rfl (by decide) Try.underlying45 rfl rfl (fun k h => by cases h) (fun ks h => by cases h)
theorem tt46 : TIok Try.prog 46 ⟨none, none, 5, 48, true, false, [.v (.int .u16 0), .v (.int .u32 0), .v (.int .u64 0), .v (.int .i64 0), .row 120], (.struct [(0, 29), (1, 30), (2, 31), (3, 3), (4, 45)])⟩ :=
  TIok.mk' (z := (.agg #[(.int .u16 0), (.int .u32 0), (.int .u64 0), (.int .i64 0), (.slice none 0 0)])) (by kernel_rfl) (by simp [zOk, Value.cells, Value.oneCell']) rfl (by decide) Try.underlying46 ⟨_, rfl, rfl⟩ rfl (fun k h => by cases h) (fun ks h => by cases h)
theorem tt47 : TIok Try.prog 47 ⟨none, none, 5, 48, true, false, [.v (.int .u16 0), .v (.int .u32 0), .v (.int .u64 0), .v (.int .i64 0), .row 120], (.struct [(0, 29), (1, 30), (2, 31), (3, 3), (4, 45)])⟩ :=
  TIok.mk' (z := (.agg #[(.int .u16 0), (.int .u32 0), (.int .u64 0), (.int .i64 0), (.slice none 0 0)])) (by kernel_rfl) (by simp [zOk, Value.cells, Value.oneCell']) rfl (by decide) Try.underlying47 ⟨_, rfl, rfl⟩ rfl (fun k h => by cases h) (fun ks h => by cases h)
theorem tt48 : TIok Try.prog 48 ⟨none, none, 6, 72, true, false, [.row 90, .v (.int .u16 0), .v (.int .u32 0), .v (.int .u64 0), .v (.int .i64 0), .row 120], (.struct [(0, 41), (1, 47)])⟩ :=
  TIok.mk' (z := (.agg #[(.slice none 0 0), (.int .u16 0), (.int .u32 0), (.int .u64 0), (.int .i64 0), (.slice none 0 0)])) (by kernel_rfl) (by simp [zOk, Value.cells, Value.oneCell']) rfl (by decide) Try.underlying48 ⟨_, rfl, rfl⟩ rfl (fun k h => by cases h) (fun ks h => by cases h)
theorem tt49 : TIok Try.prog 49 ⟨none, none, 6, 72, true, false, [.row 90, .v (.int .u16 0), .v (.int .u32 0), .v (.int .u64 0), .v (.int .i64 0), .row 120], (.struct [(0, 41), (1, 47)])⟩ :=
  TIok.mk' (z := (.agg #[(.slice none 0 0), (.int .u16 0), (.int .u32 0), (.int .u64 0), (.int .i64 0), (.slice none 0 0)])) (by kernel_rfl) (by simp [zOk, Value.cells, Value.oneCell']) rfl (by decide) Try.underlying49 ⟨_, rfl, rfl⟩ rfl (fun k h => by cases h) (fun ks h => by cases h)
theorem tt54 : TIok Try.prog 54 ⟨none, none, 1, 24, false, false, [.row 57], (.slice 57)⟩ :=
  TIok.mk' (z := ((.slice none 0 0))) (by kernel_rfl) (by simp [zOk, Value.cells, Value.oneCell']) rfl (by decide) Try.underlying54 rfl rfl (fun k h => by cases h) (fun ks h => by cases h)
theorem tt56_eq : EqTy Try.prog 2 56 [.int .u16, .int .u32] :=
  eqTy_struct Try.underlying56 (by kernel_rfl) (.one rfl rfl Try.underlying29 rfl (scEq_int 0 Try.underlying29) (.one rfl rfl Try.underlying30 rfl (scEq_int 0 Try.underlying30) .nil))
theorem tt56 : TIok Try.prog 56 ⟨none, (some [.int .u16, .int .u32]), 2, 8, true, true, [.v (.int .u16 0), .v (.int .u32 0)], (.struct [(0, 29), (1, 30)])⟩ :=
  TIok.mk' (z := (.agg #[(.int .u16 0), (.int .u32 0)])) (by kernel_rfl) (by simp [zOk, Value.cells, Value.oneCell']) rfl (by decide) Try.underlying56 ⟨_, rfl, rfl⟩ rfl (fun k h => by cases h) (eqk_flat (by kernel_rfl) (by decide) tt56_eq)
theorem tt57_eq : EqTy Try.prog 2 57 [.int .u16, .int .u32] :=
  eqTy_struct Try.underlying57 (by kernel_rfl) (.one rfl rfl Try.underlying29 rfl (scEq_int 0 Try.underlying29) (.one rfl rfl Try.underlying30 rfl (scEq_int 0 Try.underlying30) .nil))
theorem tt57 : TIok Try.prog 57 ⟨none, (some [.int .u16, .int .u32]), 2, 8, true, true, [.v (.int .u16 0), .v (.int .u32 0)], (.struct [(0, 29), (1, 30)])⟩ :=
  TIok.mk' (z := (.agg #[(.int .u16 0), (.int .u32 0)])) (by kernel_rfl) (by simp [zOk, Value.cells, Value.oneCell']) rfl (by decide) Try.underlying57 ⟨_, rfl, rfl⟩ rfl (fun k h => by cases h) (eqk_flat (by kernel_rfl) (by decide) tt57_eq)
theorem tt62 : TIok Try.prog 62 ⟨none, none, 1, 24, false, false, [.row 65], (.slice 65)⟩ :=
  TIok.mk' (z := ((.slice none 0 0))) (by kernel_rfl) (by simp [zOk, Value.cells, Value.oneCell']) rfl (by decide) Try.underlying62 rfl rfl (fun k h => by cases h) (fun ks h => by cases h)
theorem tt64_eq : EqTy Try.prog 2 64 [.int .u16, .int .u32, .int .u32] :=
  eqTy_struct Try.underlying64 (by kernel_rfl) (.one rfl rfl Try.underlying29 rfl (scEq_int 0 Try.underlying29) (.one rfl rfl Try.underlying30 rfl (scEq_int 0 Try.underlying30) (.one rfl rfl Try.underlying30 rfl (scEq_int 0 Try.underlying30) .nil)))
theorem tt64 : TIok Try.prog 64 ⟨none, (some [.int .u16, .int .u32, .int .u32]), 3, 12, true, true, [.v (.int .u16 0), .v (.int .u32 0), .v (.int .u32 0)], (.struct [(0, 29), (1, 30), (2, 30)])⟩ :=
  TIok.mk' (z := (.agg #[(.int .u16 0), (.int .u32 0), (.int .u32 0)])) (by kernel_rfl) (by simp [zOk, Value.cells, Value.oneCell']) rfl (by decide) Try.underlying64 ⟨_, rfl, rfl⟩ rfl (fun k h => by cases h) (eqk_flat (by kernel_rfl) (by decide) tt64_eq)
theorem tt65_eq : EqTy Try.prog 2 65 [.int .u16, .int .u32, .int .u32] :=
  eqTy_struct Try.underlying65 (by kernel_rfl) (.one rfl rfl Try.underlying29 rfl (scEq_int 0 Try.underlying29) (.one rfl rfl Try.underlying30 rfl (scEq_int 0 Try.underlying30) (.one rfl rfl Try.underlying30 rfl (scEq_int 0 Try.underlying30) .nil)))
theorem tt65 : TIok Try.prog 65 ⟨none, (some [.int .u16, .int .u32, .int .u32]), 3, 12, true, true, [.v (.int .u16 0), .v (.int .u32 0), .v (.int .u32 0)], (.struct [(0, 29), (1, 30), (2, 30)])⟩ :=
  TIok.mk' (z := (.agg #[(.int .u16 0), (.int .u32 0), (.int .u32 0)])) (by kernel_rfl) (by simp [zOk, Value.cells, Value.oneCell']) rfl (by decide) Try.underlying65 ⟨_, rfl, rfl⟩ rfl (fun k h => by cases h) (eqk_flat (by kernel_rfl) (by decide) tt65_eq)
theorem tt69 : TIok Try.prog 69 ⟨none, none, 1, 24, false, false, [.row 72], (.slice 72)⟩ :=
  TIok.mk' (z := ((.slice none 0 0))) (by kernel_rfl) (by simp [zOk, Value.cells, Value.oneCell']) rfl (by decide) Try.underlying69 rfl rfl (fun k h => by cases h) (fun ks h => by cases h)
theorem tt70 : TIok Try.prog 70 ⟨none, none, 1, 24, false, false, [.row 49], (.slice 49)⟩ :=
  TIok.mk' (z := ((.slice none 0 0))) (by kernel_rfl) (by simp [zOk, Value.cells, Value.oneCell']) rfl (by decide) Try.underlying70 rfl rfl (fun k h => by cases h) (fun ks h => by cases h)
theorem tt71 : TIok Try.prog 71 ⟨none, none, 8, 104, true, false, [.v (.int .i64 0), .row 89, .v (.int .u16 0), .v (.int .u32 0), .v (.int .u64 0), .v (.int .i64 0), .row 109, .row 89], (.struct [(0, 3), (1, 36), (7, 24)])⟩ :=
  TIok.mk' (z := (.agg #[(.int .i64 0), (.slice none 0 0), (.int .u16 0), (.int .u32 0), (.int .u64 0), (.int .i64 0), (.slice none 0 0), (.slice none 0 0)])) (by kernel_rfl) (by simp [zOk, Value.cells, Value.oneCell']) rfl (by decide) Try.underlying71 ⟨_, rfl, rfl⟩ rfl (fun k h => by cases h) (fun ks h => by cases h)
theorem tt72 : TIok Try.prog 72 ⟨none, none, 8, 104, true, false, [.v (.int .i64 0), .row 89, .v (.int .u16 0), .v (.int .u32 0), .v (.int .u64 0), .v (.int .i64 0), .row 109, .row 89], (.struct [(0, 3), (1, 36), (7, 24)])⟩ :=
  TIok.mk' (z := (.agg #[(.int .i64 0), (.slice none 0 0), (.int .u16 0), (.int .u32 0), (.int .u64 0), (.int .i64 0), (.slice none 0 0), (.slice none 0 0)])) (by kernel_rfl) (by simp [zOk, Value.cells, Value.oneCell']) rfl (by decide) Try.underlying72 ⟨_, rfl, rfl⟩ rfl (fun k h => by cases h) (fun ks h => by cases h)
theorem tt80 : TIok Try.prog 80 ⟨none, none, 1, 8, false, false, [.v (.pointer none)], .oth⟩ :=
  TIok.mk' (z := ((.pointer none))) (by kernel_rfl) (by simp [zOk, Value.cells, Value.oneCell']) rfl (by decide) Try.underlying80 trivial rfl (fun k h => by cases h) (fun ks h => by cases h)
theorem tt89_eq : EqTy Try.prog 2 89 [.int .u16, .int .u32] :=
  eqTy_struct Try.underlying89 (by kernel_rfl) (.one rfl rfl Try.underlying29 rfl (scEq_int 0 Try.underlying29) (.one rfl rfl Try.underlying30 rfl (scEq_int 0 Try.underlying30) .nil))
theorem tt89 : TIok Try.prog 89 ⟨none, (some [.int .u16, .int .u32]), 2, 8, true, true, [.v (.int .u16 0), .v (.int .u32 0)], (.struct [(0, 29), (1, 30)])⟩ :=
  TIok.mk' (z := (.agg #[(.int .u16 0), (.int .u32 0)])) (by kernel_rfl) (by simp [zOk, Value.cells, Value.oneCell']) rfl (by decide) Try.underlying89 ⟨_, rfl, rfl⟩ rfl (fun k h => by cases h) (eqk_flat (by kernel_rfl) (by decide) tt89_eq)
theorem tt90_eq : EqTy Try.prog 2 90 [.int .u16, .int .u32] :=
  eqTy_struct Try.underlying90 (by kernel_rfl) (.one rfl rfl Try.underlying29 rfl (scEq_int 0 Try.underlying29) (.one rfl rfl Try.underlying30 rfl (scEq_int 0 Try.underlying30) .nil))
theorem tt90 : TIok Try.prog 90 ⟨none, (some [.int .u16, .int .u32]), 2, 8, true, true, [.v (.int .u16 0), .v (.int .u32 0)], (.struct [(0, 29), (1, 30)])⟩ :=
  TIok.mk' (z := (.agg #[(.int .u16 0), (.int .u32 0)])) (by kernel_rfl) (by simp [zOk, Value.cells, Value.oneCell']) rfl (by decide) Try.underlying90 ⟨_, rfl, rfl⟩ rfl (fun k h => by cases h) (eqk_flat (by kernel_rfl) (by decide) tt90_eq)
theorem tt103 : TIok Try.prog 103 ⟨none, none, 1, 24, false, false, [.row 130], (.slice 130)⟩ :=
  TIok.mk' (z := ((.slice none 0 0))) (by kernel_rfl) (by simp [zOk, Value.cells, Value.oneCell']) rfl (by decide) Try.underlying103 rfl rfl (fun k h => by cases h) (fun ks h => by cases h)
theorem tt105_eq : EqTy Try.prog 2 105 [.int .u16, .int .u32] :=
  eqTy_struct Try.underlying105 (by kernel_rfl) (.one rfl rfl Try.underlying29 rfl (scEq_int 0 Try.underlying29) (.one rfl rfl Try.underlying30 rfl (scEq_int 0 Try.underlying30) .nil))
theorem tt105 : TIok Try.prog 105 ⟨none, (some [.int .u16, .int .u32]), 2, 8, true, true, [.v (.int .u16 0), .v (.int .u32 0)], (.struct [(0, 29), (1, 30)])⟩ :=
  TIok.mk' (z := (.agg #[(.int .u16 0), (.int .u32 0)])) (by kernel_rfl) (by simp [zOk, Value.cells, Value.oneCell']) rfl (by decide) Try.underlying105 ⟨_, rfl, rfl⟩ rfl (fun k h => by cases h) (eqk_flat (by kernel_rfl) (by decide) tt105_eq)
theorem tt106_eq : EqTy Try.prog 2 106 [.int .u16, .int .u32] :=
  eqTy_struct Try.underlying106 (by kernel_rfl) (.one rfl rfl Try.underlying29 rfl (scEq_int 0 Try.underlying29) (.one rfl rfl Try.underlying30 rfl (scEq_int 0 Try.underlying30) .nil))
theorem tt106 : TIok Try.prog 106 ⟨none, (some [.int .u16, .int .u32]), 2, 8, true, true, [.v (.int .u16 0), .v (.int .u32 0)], (.struct [(0, 29), (1, 30)])⟩ :=
  TIok.mk' (z := (.agg #[(.int .u16 0), (.int .u32 0)])) (by kernel_rfl) (by simp [zOk, Value.cells, Value.oneCell']) rfl (by decide) Try.underlying106 ⟨_, rfl, rfl⟩ rfl (fun k h => by cases h) (eqk_flat (by kernel_rfl) (by decide) tt106_eq)
theorem tt107 : TIok Try.prog 107 ⟨none, none, 1, 24, false, false, [.row 144], (.slice 144)⟩ :=
  TIok.mk' (z := ((.slice none 0 0))) (by kernel_rfl) (by simp [zOk, Value.cells, Value.oneCell']) rfl (by decide) Try.underlying107 rfl rfl (fun k h => by cases h) (fun ks h => by cases h)
theorem tt108 : TIok Try.prog 108 ⟨none, none, 7, 72, true, false, [.v (.int .i64 0), .v (.int .u16 0), .v (.int .u32 0), .v (.int .u32 0), .v (.string ⟨#[]⟩), .row 144, .v (.int .u32 0)], (.struct [(0, 3), (1, 106), (3, 30), (4, 9), (5, 107), (6, 30)])⟩ :=
  TIok.mk' (z := (.agg #[(.int .i64 0), (.int .u16 0), (.int .u32 0), (.int .u32 0), (.string ⟨#[]⟩), (.slice none 0 0), (.int .u32 0)])) (by kernel_rfl) (by simp [zOk, Value.cells, Value.oneCell']) rfl (by decide) Try.underlying108 ⟨_, rfl, rfl⟩ rfl (fun k h => by cases h) (fun ks h => by cases h)
theorem tt109 : TIok Try.prog 109 ⟨none, none, 7, 72, true, false, [.v (.int .i64 0), .v (.int .u16 0), .v (.int .u32 0), .v (.int .u32 0), .v (.string ⟨#[]⟩), .row 144, .v (.int .u32 0)], (.struct [(0, 3), (1, 106), (3, 30), (4, 9), (5, 107), (6, 30)])⟩ :=
  TIok.mk' (z := (.agg #[(.int .i64 0), (.int .u16 0), (.int .u32 0), (.int .u32 0), (.string ⟨#[]⟩), (.slice none 0 0), (.int .u32 0)])) (by kernel_rfl) (by simp [zOk, Value.cells, Value.oneCell']) rfl (by decide) Try.underlying109 ⟨_, rfl, rfl⟩ rfl (fun k h => by cases h) (fun ks h => by cases h)
theorem tt117_eq : EqTy Try.prog 2 117 [.int .u16, .int .u32] :=
  eqTy_struct Try.underlying117 (by kernel_rfl) (.one rfl rfl Try.underlying29 rfl (scEq_int 0 Try.underlying29) (.one rfl rfl Try.underlying30 rfl (scEq_int 0 Try.underlying30) .nil))
theorem tt117 : TIok Try.prog 117 ⟨none, (some [.int .u16, .int .u32]), 2, 8, true, true, [.v (.int .u16 0), .v (.int .u32 0)], (.struct [(0, 29), (1, 30)])⟩ :=
  TIok.mk' (z := (.agg #[(.int .u16 0), (.int .u32 0)])) (by kernel_rfl) (by simp [zOk, Value.cells, Value.oneCell']) rfl (by decide) Try.underlying117 ⟨_, rfl, rfl⟩ rfl (fun k h => by cases h) (eqk_flat (by kernel_rfl) (by decide) tt117_eq)
theorem tt118 : TIok Try.prog 118 ⟨none, none, 1, 24, false, false, [.row 136], (.slice 136)⟩ :=
  TIok.mk' (z := ((.slice none 0 0))) (by kernel_rfl) (by simp [zOk, Value.cells, Value.oneCell']) rfl (by decide) Try.underlying118 rfl rfl (fun k h => by cases h) (fun ks h => by cases h)
theorem tt119 : TIok Try.prog 119 ⟨none, none, 7, 72, true, false, [.v (.int .i64 0), .v (.int .u16 0), .v (.int .u32 0), .v (.int .u32 0), .v (.string ⟨#[]⟩), .row 136, .v (.int .u32 0)], (.struct [(0, 3), (1, 117), (3, 30), (4, 9), (5, 118), (6, 30)])⟩ :=
  TIok.mk' (z := (.agg #[(.int .i64 0), (.int .u16 0), (.int .u32 0), (.int .u32 0), (.string ⟨#[]⟩), (.slice none 0 0), (.int .u32 0)])) (by kernel_rfl) (by simp [zOk, Value.cells, Value.oneCell']) rfl (by decide) Try.underlying119 ⟨_, rfl, rfl⟩ rfl (fun k h => by cases h) (fun ks h => by cases h)
theorem tt120 : TIok Try.prog 120 ⟨none, none, 7, 72, true, false, [.v (.int .i64 0), .v (.int .u16 0), .v (.int .u32 0), .v (.int .u32 0), .v (.string ⟨#[]⟩), .row 136, .v (.int .u32 0)], (.struct [(0, 3), (1, 117), (3, 30), (4, 9), (5, 118), (6, 30)])⟩ :=
  TIok.mk' (z := (.agg #[(.int .i64 0), (.int .u16 0), (.int .u32 0), (.int .u32 0), (.string ⟨#[]⟩), (.slice none 0 0), (.int .u32 0)])) (by kernel_rfl) (by simp [zOk, Value.cells, Value.oneCell']) rfl (by decide) Try.underlying120 ⟨_, rfl, rfl⟩ rfl (fun k h => by cases h) (fun ks h => by cases h)
theorem tt127 : TIok Try.prog 127 ⟨none, none, 1, 24, false, false, [.row 24], (.slice 24)⟩ :=
  TIok.mk' (z := ((.slice none 0 0))) (by kernel_rfl) (by simp [zOk, Value.cells, Value.oneCell']) rfl (by decide) Try.underlying127 rfl rfl (fun k h => by cases h) (fun ks h => by cases h)
theorem tt130_eq : EqTy Try.prog 2 130 [.int .u16, .int .u32, .int .u32] :=
  eqTy_struct Try.underlying130 (by kernel_rfl) (.one rfl rfl Try.underlying29 rfl (scEq_int 0 Try.underlying29) (.one rfl rfl Try.underlying30 rfl (scEq_int 0 Try.underlying30) (.one rfl rfl Try.underlying30 rfl (scEq_int 0 Try.underlying30) .nil)))
theorem tt130 : TIok Try.prog 130 ⟨none, (some [.int .u16, .int .u32, .int .u32]), 3, 12, true, true, [.v (.int .u16 0), .v (.int .u32 0), .v (.int .u32 0)], (.struct [(0, 29), (1, 30), (2, 30)])⟩ :=
  TIok.mk' (z := (.agg #[(.int .u16 0), (.int .u32 0), (.int .u32 0)])) (by kernel_rfl) (by simp [zOk, Value.cells, Value.oneCell']) rfl (by decide) Try.underlying130 ⟨_, rfl, rfl⟩ rfl (fun k h => by cases h) (eqk_flat (by kernel_rfl) (by decide) tt130_eq)
theorem tt133 : TIok Try.prog 133 ⟨(some .u64), none, 1, 8, false, true, [.v (.int .u64 0)], .oth⟩ :=
  TIok.mk' (z := ((.int .u64 0))) (by kernel_rfl) (by simp [zOk, Value.cells, Value.oneCell']) rfl (by decide) Try.underlying133 trivial rfl (fun k h => by cases h; exact Try.underlying133) (fun ks h => by cases h)
theorem tt135_eq : EqTy Try.prog 3 135 [.int .u16, .int .u32, .int .i64] :=
  eqTy_struct Try.underlying135 (by kernel_rfl) (.sub (ks1 := [.int .u16, .int .u32]) (ks := [.int .i64]) rfl rfl Try.underlying117 (by kernel_rfl) (tt117_eq.up (by decide)) (.one rfl rfl Try.underlying3 rfl (scEq_int 1 Try.underlying3) .nil))
theorem tt135 : TIok Try.prog 135 ⟨none, (some [.int .u16, .int .u32, .int .i64]), 3, 16, true, true, [.v (.int .u16 0), .v (.int .u32 0), .v (.int .i64 0)], (.struct [(0, 117), (2, 3)])⟩ :=
  TIok.mk' (z := (.agg #[(.int .u16 0), (.int .u32 0), (.int .i64 0)])) (by kernel_rfl) (by simp [zOk, Value.cells, Value.oneCell']) rfl (by decide) Try.underlying135 ⟨_, rfl, rfl⟩ rfl (fun k h => by cases h) (eqk_flat (by kernel_rfl) (by decide) tt135_eq)
theorem tt136_eq : EqTy Try.prog 3 136 [.int .u16, .int .u32, .int .i64] :=
  eqTy_struct Try.underlying136 (by kernel_rfl) (.sub (ks1 := [.int .u16, .int .u32]) (ks := [.int .i64]) rfl rfl Try.underlying117 (by kernel_rfl) (tt117_eq.up (by decide)) (.one rfl rfl Try.underlying3 rfl (scEq_int 1 Try.underlying3) .nil))
theorem tt136 : TIok Try.prog 136 ⟨none, (some [.int .u16, .int .u32, .int .i64]), 3, 16, true, true, [.v (.int .u16 0), .v (.int .u32 0), .v (.int .i64 0)], (.struct [(0, 117), (2, 3)])⟩ :=
  TIok.mk' (z := (.agg #[(.int .u16 0), (.int .u32 0), (.int .i64 0)])) (by kernel_rfl) (by simp [zOk, Value.cells, Value.oneCell']) rfl (by decide) Try.underlying136 ⟨_, rfl, rfl⟩ rfl (fun k h => by cases h) (eqk_flat (by kernel_rfl) (by decide) tt136_eq)
theorem tt140 : TIok Try.prog 140 ⟨none, none, 1, 24, false, false, [.row 117], (.slice 117)⟩ :=
  TIok.mk' (z := ((.slice none 0 0))) (by kernel_rfl) (by simp [zOk, Value.cells, Value.oneCell']) rfl (by decide) Try.underlying140 rfl rfl (fun k h => by cases h) (fun ks h => by cases h)
theorem tt143_eq : EqTy Try.prog 3 143 [.int .u16, .int .u32, .int .i64] :=
  eqTy_struct Try.underlying143 (by kernel_rfl) (.sub (ks1 := [.int .u16, .int .u32]) (ks := [.int .i64]) rfl rfl Try.underlying106 (by kernel_rfl) (tt106_eq.up (by decide)) (.one rfl rfl Try.underlying3 rfl (scEq_int 1 Try.underlying3) .nil))
theorem tt143 : TIok Try.prog 143 ⟨none, (some [.int .u16, .int .u32, .int .i64]), 3, 16, true, true, [.v (.int .u16 0), .v (.int .u32 0), .v (.int .i64 0)], (.struct [(0, 106), (2, 3)])⟩ :=
  TIok.mk' (z := (.agg #[(.int .u16 0), (.int .u32 0), (.int .i64 0)])) (by kernel_rfl) (by simp [zOk, Value.cells, Value.oneCell']) rfl (by decide) Try.underlying143 ⟨_, rfl, rfl⟩ rfl (fun k h => by cases h) (eqk_flat (by kernel_rfl) (by decide) tt143_eq)
theorem tt144_eq : EqTy Try.prog 3 144 [.int .u16, .int .u32, .int .i64] :=
  eqTy_struct Try.underlying144 (by kernel_rfl) (.sub (ks1 := [.int .u16, .int .u32]) (ks := [.int .i64]) rfl rfl Try.underlying106 (by kernel_rfl) (tt106_eq.up (by decide)) (.one rfl rfl Try.underlying3 rfl (scEq_int 1 Try.underlying3) .nil))
theorem tt144 : TIok Try.prog 144 ⟨none, (some [.int .u16, .int .u32, .int .i64]), 3, 16, true, true, [.v (.int .u16 0), .v (.int .u32 0), .v (.int .i64 0)], (.struct [(0, 106), (2, 3)])⟩ :=
  TIok.mk' (z := (.agg #[(.int .u16 0), (.int .u32 0), (.int .i64 0)])) (by kernel_rfl) (by simp [zOk, Value.cells, Value.oneCell']) rfl (by decide) Try.underlying144 ⟨_, rfl, rfl⟩ rfl (fun k h => by cases h) (eqk_flat (by kernel_rfl) (by decide) tt144_eq)
theorem tt158 : TIok Try.prog 158 ⟨none, none, 1, 8, false, false, [.v (.pointer none)], .oth⟩ :=
  TIok.mk' (z := ((.pointer none))) (by kernel_rfl) (by simp [zOk, Value.cells, Value.oneCell']) rfl (by decide) Try.underlying158 trivial rfl (fun k h => by cases h) (fun ks h => by cases h)
theorem ttok : TTok Try.prog TT := by
  intro t i h
  unfold TT at h
  split at h <;> first | (cases h; done) | (cases h; first | exact tt2 | exact tt3 | exact tt4 | exact tt5 | exact tt9 | exact tt12 | exact tt21 | exact tt22 | exact tt23 | exact tt24 | exact tt27 | exact tt28 | exact tt29 | exact tt30 | exact tt31 | exact tt32 | exact tt33 | exact tt34 | exact tt35 | exact tt36 | exact tt38 | exact tt41 | exact tt45 | exact tt46 | exact tt47 | exact tt48 | exact tt49 | exact tt54 | exact tt56 | exact tt57 | exact tt62 | exact tt64 | exact tt65 | exact tt69 | exact tt70 | exact tt71 | exact tt72 | exact tt80 | exact tt89 | exact tt90 | exact tt103 | exact tt105 | exact tt106 | exact tt107 | exact tt108 | exact tt109 | exact tt117 | exact tt118 | exact tt119 | exact tt120 | exact tt127 | exact tt130 | exact tt133 | exact tt135 | exact tt136 | exact tt140 | exact tt143 | exact tt144 | exact tt158)
theorem mixed : Try.prog.follows .mixedOrders = true := by kernel_rfl
theorem ent6 : Ent Try.prog 6 := ⟨_, Try.func6, by kernel_rfl, rfl⟩
theorem ent7 : Ent Try.prog 7 := ⟨_, Try.func7, by kernel_rfl, rfl⟩
theorem ent8 : Ent Try.prog 8 := ⟨_, Try.func8, by kernel_rfl, rfl⟩
theorem ent9 : Ent Try.prog 9 := ⟨_, Try.func9, by kernel_rfl, rfl⟩
theorem ent10 : Ent Try.prog 10 := ⟨_, Try.func10, by kernel_rfl, rfl⟩
theorem ent11 : Ent Try.prog 11 := ⟨_, Try.func11, by kernel_rfl, rfl⟩
theorem ent12 : Ent Try.prog 12 := ⟨_, Try.func12, by kernel_rfl, rfl⟩
theorem ent13 : Ent Try.prog 13 := ⟨_, Try.func13, by kernel_rfl, rfl⟩
theorem ent14 : Ent Try.prog 14 := ⟨_, Try.func14, by kernel_rfl, rfl⟩
theorem ent15 : Ent Try.prog 15 := ⟨_, Try.func15, by kernel_rfl, rfl⟩
theorem ent16 : Ent Try.prog 16 := ⟨_, Try.func16, by kernel_rfl, rfl⟩
theorem ent17 : Ent Try.prog 17 := ⟨_, Try.func17, by kernel_rfl, rfl⟩
theorem ent19 : Ent Try.prog 19 := ⟨_, Try.func19, by kernel_rfl, rfl⟩
theorem ent20 : Ent Try.prog 20 := ⟨_, Try.func20, by kernel_rfl, rfl⟩
theorem ent21 : Ent Try.prog 21 := ⟨_, Try.func21, by kernel_rfl, rfl⟩
theorem ent22 : Ent Try.prog 22 := ⟨_, Try.func22, by kernel_rfl, rfl⟩
theorem ent23 : Ent Try.prog 23 := ⟨_, Try.func23, by kernel_rfl, rfl⟩
theorem ent24 : Ent Try.prog 24 := ⟨_, Try.func24, by kernel_rfl, rfl⟩
theorem ent25 : Ent Try.prog 25 := ⟨_, Try.func25, by kernel_rfl, rfl⟩
theorem ent26 : Ent Try.prog 26 := ⟨_, Try.func26, by kernel_rfl, rfl⟩
theorem ent27 : Ent Try.prog 27 := ⟨_, Try.func27, by kernel_rfl, rfl⟩
theorem ent28 : Ent Try.prog 28 := ⟨_, Try.func28, by kernel_rfl, rfl⟩
theorem ent29 : Ent Try.prog 29 := ⟨_, Try.func29, by kernel_rfl, rfl⟩
theorem ent30 : Ent Try.prog 30 := ⟨_, Try.func30, by kernel_rfl, rfl⟩
theorem ent31 : Ent Try.prog 31 := ⟨_, Try.func31, by kernel_rfl, rfl⟩
theorem ent32 : Ent Try.prog 32 := ⟨_, Try.func32, by kernel_rfl, rfl⟩
theorem ent33 : Ent Try.prog 33 := ⟨_, Try.func33, by kernel_rfl, rfl⟩
theorem ent34 : Ent Try.prog 34 := ⟨_, Try.func34, by kernel_rfl, rfl⟩
theorem ent35 : Ent Try.prog 35 := ⟨_, Try.func35, by kernel_rfl, rfl⟩
theorem ent36 : Ent Try.prog 36 := ⟨_, Try.func36, by kernel_rfl, rfl⟩
theorem ent37 : Ent Try.prog 37 := ⟨_, Try.func37, by kernel_rfl, rfl⟩
theorem ent38 : Ent Try.prog 38 := ⟨_, Try.func38, by kernel_rfl, rfl⟩
theorem ent39 : Ent Try.prog 39 := ⟨_, Try.func39, by kernel_rfl, rfl⟩
theorem ent40 : Ent Try.prog 40 := ⟨_, Try.func40, by kernel_rfl, rfl⟩
theorem ent41 : Ent Try.prog 41 := ⟨_, Try.func41, by kernel_rfl, rfl⟩
theorem ent42 : Ent Try.prog 42 := ⟨_, Try.func42, by kernel_rfl, rfl⟩
theorem ent43 : Ent Try.prog 43 := ⟨_, Try.func43, by kernel_rfl, rfl⟩
theorem ent44 : Ent Try.prog 44 := ⟨_, Try.func44, by kernel_rfl, rfl⟩
theorem ent45 : Ent Try.prog 45 := ⟨_, Try.func45, by kernel_rfl, rfl⟩
theorem ent46 : Ent Try.prog 46 := ⟨_, Try.func46, by kernel_rfl, rfl⟩
theorem ent47 : Ent Try.prog 47 := ⟨_, Try.func47, by kernel_rfl, rfl⟩
theorem ent48 : Ent Try.prog 48 := ⟨_, Try.func48, by kernel_rfl, rfl⟩
theorem ent49 : Ent Try.prog 49 := ⟨_, Try.func49, by kernel_rfl, rfl⟩
theorem ent50 : Ent Try.prog 50 := ⟨_, Try.func50, by kernel_rfl, rfl⟩
theorem ent51 : Ent Try.prog 51 := ⟨_, Try.func51, by kernel_rfl, rfl⟩
theorem ent52 : Ent Try.prog 52 := ⟨_, Try.func52, by kernel_rfl, rfl⟩
theorem ent53 : Ent Try.prog 53 := ⟨_, Try.func53, by kernel_rfl, rfl⟩
theorem ent54 : Ent Try.prog 54 := ⟨_, Try.func54, by kernel_rfl, rfl⟩
theorem ent55 : Ent Try.prog 55 := ⟨_, Try.func55, by kernel_rfl, rfl⟩
theorem ent56 : Ent Try.prog 56 := ⟨_, Try.func56, by kernel_rfl, rfl⟩
theorem ent57 : Ent Try.prog 57 := ⟨_, Try.func57, by kernel_rfl, rfl⟩
theorem ent58 : Ent Try.prog 58 := ⟨_, Try.func58, by kernel_rfl, rfl⟩
theorem ent61 : Ent Try.prog 61 := ⟨_, Try.func61, by kernel_rfl, rfl⟩
theorem ent62 : Ent Try.prog 62 := ⟨_, Try.func62, by kernel_rfl, rfl⟩
theorem ent63 : Ent Try.prog 63 := ⟨_, Try.func63, by kernel_rfl, rfl⟩
theorem ent64 : Ent Try.prog 64 := ⟨_, Try.func64, by kernel_rfl, rfl⟩
theorem ent65 : Ent Try.prog 65 := ⟨_, Try.func65, by kernel_rfl, rfl⟩
theorem ent66 : Ent Try.prog 66 := ⟨_, Try.func66, by kernel_rfl, rfl⟩
theorem ent69 : Ent Try.prog 69 := ⟨_, Try.func69, by kernel_rfl, rfl⟩
theorem ent70 : Ent Try.prog 70 := ⟨_, Try.func70, by kernel_rfl, rfl⟩
theorem ent71 : Ent Try.prog 71 := ⟨_, Try.func71, by kernel_rfl, rfl⟩
theorem ent72 : Ent Try.prog 72 := ⟨_, Try.func72, by kernel_rfl, rfl⟩
theorem ent73 : Ent Try.prog 73 := ⟨_, Try.func73, by kernel_rfl, rfl⟩
theorem ent75 : Ent Try.prog 75 := ⟨_, Try.func75, by kernel_rfl, rfl⟩
theorem ent77 : Ent Try.prog 77 := ⟨_, Try.func77, by kernel_rfl, rfl⟩
theorem ent78 : Ent Try.prog 78 := ⟨_, Try.func78, by kernel_rfl, rfl⟩
theorem ent79 : Ent Try.prog 79 := ⟨_, Try.func79, by kernel_rfl, rfl⟩
theorem ent80 : Ent Try.prog 80 := ⟨_, Try.func80, by kernel_rfl, rfl⟩
theorem ent81 : Ent Try.prog 81 := ⟨_, Try.func81, by kernel_rfl, rfl⟩
theorem ent84 : Ent Try.prog 84 := ⟨_, Try.func84, by kernel_rfl, rfl⟩
theorem ent85 : Ent Try.prog 85 := ⟨_, Try.func85, by kernel_rfl, rfl⟩
theorem ent86 : Ent Try.prog 86 := ⟨_, Try.func86, by kernel_rfl, rfl⟩
end Go.Proofs.Ytclhjcbnpdlgbaa
/- package ident, and the document's answer for it: what the functions give. -/
namespace Go.Proofs.Ytclhjcbnpdlgbaa
open Go Go.Lift
set_option linter.unusedSimpArgs false
set_option linter.unusedVariables false
attribute [local irreducible] WK IL IP IG IW DW

end Go.Proofs.Ytclhjcbnpdlgbaa
/- package span: the spans of names. -/
namespace Go.Proofs.Ytclhjcbnpdlgbaa
open Go Go.Lift
set_option maxHeartbeats 4000000
set_option linter.unusedSimpArgs false
set_option linter.unusedVariables false
attribute [local irreducible] WK IL IP IG IW DW

abbrev Nm := Int × Int
abbrev Sp := Int × Int × Int
def nmC (a : Nm) : List IV := [.v (.int .u16 a.1), .v (.int .u32 a.2)]
def spC (a : Sp) : List IV := [.v (.int .u16 a.1), .v (.int .u32 a.2.1), .v (.int .i64 a.2.2)]
instance : Cells nmC 2 := ⟨fun _ => rfl, fun _ => rfl, fun _ => rfl⟩
instance : Cells spC 3 := ⟨fun _ => rfl, fun _ => rfl, fun _ => rfl⟩
theorem spC_length (a : Sp) : (spC a).length = 3 := rfl
end Go.Proofs.Ytclhjcbnpdlgbaa
/- package pack: its reader and its writer. -/
namespace Go.Proofs.Ytclhjcbnpdlgbaa
open Go Go.Lift
set_option maxHeartbeats 4000000
set_option linter.unusedSimpArgs false
set_option linter.unusedVariables false
attribute [local irreducible] WK IL IP IG IW DW

end Go.Proofs.Ytclhjcbnpdlgbaa
/- The document's answer for pack. -/
namespace Go.Proofs.Ytclhjcbnpdlgbaa
open Go Go.Lift
set_option maxHeartbeats 4000000
set_option linter.unusedSimpArgs false
set_option linter.unusedVariables false
attribute [local irreducible] WK IL IP IG IW DW

abbrev Th := Int × Nat × List UInt8 × Int
def thC (a : Th) : List IV := [.v (.int .i64 a.1), .v (.int .u64 (a.2.1 : Int)), .v (.string ⟨a.2.2.1.toArray⟩), .v (.int .i64 a.2.2.2)]
instance : Cells thC 4 := ⟨fun _ => rfl, fun _ => rfl, fun _ => rfl⟩
end Go.Proofs.Ytclhjcbnpdlgbaa
/- PackWrites: what is written is read again; its function. -/
namespace Go.Proofs.Ytclhjcbnpdlgbaa
open Go Go.Lift
set_option maxHeartbeats 4000000
set_option linter.unusedSimpArgs false
set_option linter.unusedVariables false
attribute [local irreducible] WK IL IP IG IW DW

end Go.Proofs.Ytclhjcbnpdlgbaa
/- package span: which spans are right; their bytes. -/
namespace Go.Proofs.Ytclhjcbnpdlgbaa
open Go Go.Lift
set_option maxHeartbeats 4000000
set_option linter.unusedSimpArgs false
set_option linter.unusedVariables false
attribute [local irreducible] WK IL IP IG IW DW

def rightI (s : Sp) : Prop := 1 ≤ s.2.1 ∧ 1 ≤ s.2.2 ∧ s.2.2 ≤ 1024 ∧ s.2.1 ≤ 268435456 ∧ s.2.1 + s.2.2 - 1 ≤ 268435456
instance (s : Sp) : Decidable (rightI s) := by unfold rightI; infer_instance
theorem refRight_call (s : Sp) : SCall Try.prog 84 [.agg (spC s)] (.v (.bool (decide (rightI s)))) [.agg (spC s)] := by
  obtain ⟨r, n, c⟩ := s
  unfold spC
  refine SCall.of_body' (TT := TT) (fun _ => false) [false] ttok Try.func84 rfl (Nat.le_of_ble_eq_true rfl) rfl fun fx hfx => WK.top ?_
  simp only [impl, imp, argT, List.append_nil, List.map_nil, List.nil_append, show Try.f84.ntmps = 34 from rfl, Nat.zero_add, Nat.reduceAdd]
  repeat' (first | refine WK.seq ?_ | refine WK.reg ?_ | refine IL.nil ?_ | (with_reducible refine IL.wr ?_ ?_; focus exact cW) | refine IL.sg ttok ?_ | refine IL.nn ?_ | (((first | refine IL.ag (fun h => ?_) (fun h => ?_) | refine IL.ap (fun h => ?_) (fun h => ?_)); (fail_if_success (focus (simp only [reduceCtorEq] at h)))); all_goals first | (simp only [reduceCtorEq] at h; done) | (simp only [hsA, hsD, hsE, ne_eq] at h; first | done | (exfalso; omega; done) | skip) | skip))
  all_goals try ((first | refine WK.ret ⟨.inr rfl, ?_⟩ | refine ⟨.inl rfl, ?_⟩ | refine ⟨.inl trivial, ?_⟩); refine Fin.o ?_ ?_ (h1 := by first | rfl | (simp only [go_sem, show Try.f84.results.toList = [.tmp 2] from rfl, reduceIte] <;> rfl)); rotate_left 1; (focus (first | rfl | skip)); all_goals try with_reducible rfl)
  all_goals grind [rightI]
def tot (l : List Sp) : Int := (l.map fun s => s.2.2).sum
end Go.Proofs.Ytclhjcbnpdlgbaa
/- package span: reading spans. -/
namespace Go.Proofs.Ytclhjcbnpdlgbaa
open Go Go.Lift
set_option maxHeartbeats 4000000
set_option linter.unusedSimpArgs false
set_option linter.unusedVariables false
attribute [local irreducible] WK IL IP IG IW DW

end Go.Proofs.Ytclhjcbnpdlgbaa
/- package op: operations, the document's and the program's; reading one. -/
namespace Go.Proofs.Ytclhjcbnpdlgbaa
open Go Go.Lift
set_option maxHeartbeats 4000000
set_option linter.unusedSimpArgs false
set_option linter.unusedVariables false
attribute [local irreducible] WK IL IP IG IW DW

structure OpV where
  k : Int
  r : Int
  n : Int
  m : Int
  t : List UInt8
  s : List Sp
  q : Int
abbrev opL (k r n m : Int) (t : List UInt8) (x : IV) (q : Int) : List IV := [.v (.int .i64 k), .v (.int .u16 r), .v (.int .u32 n), .v (.int .u32 m), .v (.string ⟨t.toArray⟩), x, .v (.int .u32 q)]
end Go.Proofs.Ytclhjcbnpdlgbaa
/- package op: writing an operation. -/
namespace Go.Proofs.Ytclhjcbnpdlgbaa
open Go Go.Lift
set_option maxHeartbeats 8000000
set_option linter.unusedSimpArgs false
set_option linter.unusedVariables false
attribute [local irreducible] WK IL IP IG IW DW

end Go.Proofs.Ytclhjcbnpdlgbaa
/- The document's Fit of spans; the names of spans. -/
namespace Go.Proofs.Ytclhjcbnpdlgbaa
open Go Go.Lift
set_option maxHeartbeats 4000000
set_option linter.unusedSimpArgs false
set_option linter.unusedVariables false
attribute [local irreducible] WK IL IP IG IW DW

def meetI (a b : Sp) : Prop := a.1 = b.1 ∧ a.2.1 < b.2.1 + b.2.2 ∧ b.2.1 < a.2.1 + a.2.2
instance (a b : Sp) : Decidable (meetI a b) := by unfold meetI; infer_instance
theorem meet_call (r n c r' n' c' : Int) (h1 : rightI (r, n, c)) (h2 : rightI (r', n', c')) : SCall Try.prog 86 [.agg [.v (.int .u16 r), .v (.int .u32 n), .v (.int .i64 c)], .agg [.v (.int .u16 r'), .v (.int .u32 n'), .v (.int .i64 c')]] (.v (.bool (decide (meetI (r, n, c) (r', n', c'))))) [.agg [.v (.int .u16 r), .v (.int .u32 n), .v (.int .i64 c)], .agg [.v (.int .u16 r'), .v (.int .u32 n'), .v (.int .i64 c')]] := by
  unfold rightI at h1 h2
  simp only at h1 h2
  refine SCall.of_body' (TT := TT) (fun _ => false) [false, false] ttok Try.func86 rfl (Nat.le_of_ble_eq_true rfl) rfl fun fx hfx => WK.top ?_
  simp only [impl, imp, argT, List.append_nil, List.map_nil, List.nil_append, show Try.f86.ntmps = 40 from rfl, Nat.zero_add, Nat.reduceAdd]
  repeat' (first | refine WK.seq ?_ | refine WK.reg ?_ | refine IL.nil ?_ | (with_reducible refine IL.wr ?_ ?_; focus exact cW) | refine IL.sg ttok ?_ | refine IL.nn ?_ | (((first | refine IL.ag (fun h => ?_) (fun h => ?_) | refine IL.ap (fun h => ?_) (fun h => ?_)); (fail_if_success (focus (simp only [reduceCtorEq] at h)))); all_goals first | (simp only [reduceCtorEq] at h; done) | (simp only [hsA, hsD, hsE, ne_eq] at h; first | done | (exfalso; omega; done) | skip) | skip))
  all_goals try ((first | refine WK.ret ⟨.inr rfl, ?_⟩ | refine ⟨.inl rfl, ?_⟩ | refine ⟨.inl trivial, ?_⟩); refine Fin.o ?_ ?_ (h1 := by first | rfl | (simp only [go_sem, show Try.f86.results.toList = [.tmp 4] from rfl, reduceIte] <;> rfl)); rotate_left 1; (focus (first | rfl | skip)); all_goals try with_reducible rfl)
  all_goals grind [meetI]
def apartI (l : List Sp) : Prop := ∀ i (hi : i < l.length) k (hk : k < i), ¬ meetI l[i] (l[k]'(by omega))
open Classical in
theorem apart_call (l : List Sp) (nn : Nat) (hnn : nn = l.length) (hl : l.length ≤ 100000) (hr : ∀ s ∈ l, rightI s) : SCall Try.prog 85 [.tr nn (encs spC l)] (.v (.bool (decide (apartI l)))) [.tr nn (encs spC l)] := by
  subst hnn
  refine SCall.of_body' (TT := TT) (fun _ => false) [false] ttok Try.func85 rfl (Nat.le_of_ble_eq_true rfl) rfl fun fx hfx => WK.top ?_
  simp only [impl, imp, argT, List.append_nil, List.map_nil, List.nil_append, show Try.f85.ntmps = 25 from rfl, Nat.zero_add, Nat.reduceAdd]
  repeat' (first | refine WK.seq ?_ | refine WK.reg ?_ | refine IL.nil ?_ | refine WK.skip ?_ | refine WK.block ?_ | refine WK.exit_here ?_ | refine WK.e1 ?_ | refine WK.e2 ?_ | refine WK.drawnS (id := 7) mixed [] [8] [0, 0, 0, 0, 0, 0, 0, 0, 0] [0, 0, 0, 0, 0, 0, 0, 0, 0] (by decide +kernel) ?_ | refine DW.nil ?_ | (with_reducible refine IL.wr ?_ ?_; focus exact cW) | (with_reducible refine DW.wr ?_ ?_; focus exact cW) | refine IL.sg ttok ?_ | refine DW.re ttok ?_ | refine DW.rm ttok ?_ | refine DW.cS ttok ent86 [.bor, .bor] true ?_ (hS := by refine meet_call _ _ _ _ _ _ ?_ ?_ <;> exact cO) | (refine WK.cn (fun h => ?_) (fun h => ?_); all_goals first | (simp only [reduceCtorEq] at h; done) | (simp only [hsA, hsD, hsE, ne_eq] at h; first | done | (exfalso; omega; done) | skip) | skip))
  refine WK.forS l.length (fun i => ∀ i' (hi : i' < l.length) k (hk : k < i'), i' < i → ¬ meetI l[i'] (l[k]'(by omega))) (fun i => ⟨25, [(0, .tr l.length (encs spC l)), (3, .v (.int .i64 i))], []⟩) ⟨by intros; omega, ?_⟩ (fun i hi ho => ?_) (fun ho => ?_)
  · (refine Weak.cut' rfl rfl ?_; exact cA)
  · repeat' (first | refine WK.seq ?_ | refine WK.reg ?_ | refine IL.nil ?_ | refine WK.skip ?_ | refine WK.block ?_ | refine WK.exit_here ?_ | refine WK.e1 ?_ | refine WK.e2 ?_ | refine WK.drawnS (id := 7) mixed [] [8] [0, 0, 0, 0, 0, 0, 0, 0, 0] [0, 0, 0, 0, 0, 0, 0, 0, 0] (by decide +kernel) ?_ | refine DW.nil ?_ | (with_reducible refine IL.wr ?_ ?_; focus exact cW) | (with_reducible refine DW.wr ?_ ?_; focus exact cW) | refine IL.sg ttok ?_ | refine DW.re ttok ?_ | refine DW.rm ttok ?_ | refine DW.cS ttok ent86 [.bor, .bor] true ?_ (hS := by refine meet_call _ _ _ _ _ _ ?_ ?_ <;> exact cO) | (refine WK.cn (fun h => ?_) (fun h => ?_); all_goals first | (simp only [reduceCtorEq] at h; done) | (simp only [hsA, hsD, hsE, ne_eq] at h; first | done | (exfalso; omega; done) | skip) | skip))
    refine WK.forS i (fun k => ∀ k' (hk : k' < i), k' < k → ¬ meetI l[i] (l[k']'(by omega))) (fun k => ⟨25, [(0, .tr l.length (encs spC l)), (3, .v (.int .i64 i)), (4, .v (.int .i64 k))], []⟩) ⟨by intros; omega, ?_⟩ (fun k hk ho2 => ?_) (fun ho2 => ?_)
    · (refine Weak.cut' rfl rfl ?_; exact cA)
    · have hx : l[i]? = some l[i] := List.getElem?_eq_getElem hi
      have hy : l[k]? = some (l[k]'(by omega)) := List.getElem?_eq_getElem _
      have hra := hr _ (List.getElem_mem hi)
      have hrb := hr _ (List.getElem_mem (show k < l.length by omega))
      have hbad : meetI l[i] (l[k]'(by omega)) → ¬ apartI l := fun h ha => ha i hi k hk h
      have hgo : ¬ meetI l[i] (l[k]'(by omega)) → ∀ k' (hk' : k' < i), k' < k + 1 → ¬ meetI l[i] (l[k']'(by omega)) := fun h k' hk' h1 => by
        rcases Nat.lt_succ_iff_lt_or_eq.1 h1 with h2 | h2
        · exact ho2 k' hk' h2
        · subst h2; exact h
      generalize l[i] = a at *
      generalize (l[k]'(by omega)) = b at *
      obtain ⟨r, n, c⟩ := a
      obtain ⟨r', n', c'⟩ := b
      have hle : i * 3 + 3 ≤ l.length * 3 := by omega
      have hle2 : k * 3 + 3 ≤ l.length * 3 := by omega
      have hat : ((encs spC l).drop (i * 3)).take 3 = [.v (.int .u16 r), .v (.int .u32 n), .v (.int .i64 c)] := encs_at spC_length hx
      have hat2 : ((encs spC l).drop (k * 3)).take 3 = [.v (.int .u16 r'), .v (.int .u32 n'), .v (.int .i64 c')] := encs_at spC_length hy
      have hne : encs spC l ≠ [] := encs_ne spC_length (by decide) hx
      have FX := And.intro hat (And.intro hle (And.intro hat2 hle2))
      repeat' (first | refine WK.seq ?_ | refine WK.reg ?_ | refine IL.nil ?_ | refine WK.skip ?_ | refine WK.block ?_ | refine WK.exit_here ?_ | refine WK.e1 ?_ | refine WK.e2 ?_ | refine WK.drawnS (id := 7) mixed [] [8] [0, 0, 0, 0, 0, 0, 0, 0, 0] [0, 0, 0, 0, 0, 0, 0, 0, 0] (by decide +kernel) ?_ | refine DW.nil ?_ | (with_reducible refine IL.wr ?_ ?_; focus exact cW) | (with_reducible refine DW.wr ?_ ?_; focus exact cW) | refine IL.sgF ttok ?_ | refine DW.reF ttok ?_ | refine DW.rmF ttok ?_ | refine DW.cSF ttok ent86 [.bor, .bor] true ?_ (hS := by refine meet_call _ _ _ _ _ _ ?_ ?_ <;> exact cO) | (refine WK.cn (fun h => ?_) (fun h => ?_); all_goals first | (simp only [reduceCtorEq] at h; done) | (simp only [hsA, hsD, hsE, ne_eq] at h; first | done | (exfalso; omega; done) | skip) | skip))
      all_goals try ((first | refine WK.ret ⟨.inr rfl, ?_⟩ | refine ⟨.inl rfl, ?_⟩ | refine ⟨.inl trivial, ?_⟩); refine Fin.o ?_ ?_ (h1 := by first | rfl | (simp only [go_sem, show Try.f85.results.toList = [.tmp 2] from rfl, reduceIte] <;> rfl)); rotate_left 1; (focus (first | rfl | skip)); all_goals try with_reducible rfl)
      · rw [decide_eq_false (hbad (by assumption))]
      · refine ⟨hgo (by assumption), ?_⟩
        (refine Weak.cut' rfl rfl ?_; exact cA)
    · repeat' (first | refine WK.seq ?_ | refine WK.reg ?_ | refine IL.nil ?_ | refine WK.skip ?_ | refine WK.block ?_ | refine WK.exit_here ?_ | refine WK.e1 ?_ | refine WK.e2 ?_ | refine WK.drawnS (id := 7) mixed [] [8] [0, 0, 0, 0, 0, 0, 0, 0, 0] [0, 0, 0, 0, 0, 0, 0, 0, 0] (by decide +kernel) ?_ | refine DW.nil ?_ | (with_reducible refine IL.wr ?_ ?_; focus exact cW) | (with_reducible refine DW.wr ?_ ?_; focus exact cW) | refine IL.sg ttok ?_ | refine DW.re ttok ?_ | refine DW.rm ttok ?_ | refine DW.cS ttok ent86 [.bor, .bor] true ?_ (hS := by refine meet_call _ _ _ _ _ _ ?_ ?_ <;> exact cO) | (refine WK.cn (fun h => ?_) (fun h => ?_); all_goals first | (simp only [reduceCtorEq] at h; done) | (simp only [hsA, hsD, hsE, ne_eq] at h; first | done | (exfalso; omega; done) | skip) | skip))
      all_goals try ((first | refine WK.ret ⟨.inr rfl, ?_⟩ | refine ⟨.inl rfl, ?_⟩ | refine ⟨.inl trivial, ?_⟩); refine Fin.o ?_ ?_ (h1 := by first | rfl | (simp only [go_sem, show Try.f85.results.toList = [.tmp 2] from rfl, reduceIte] <;> rfl)); rotate_left 1; (focus (first | rfl | skip)); all_goals try with_reducible rfl)
      refine ⟨fun i' hi' k hk h1 => by
        rcases Nat.lt_succ_iff_lt_or_eq.1 h1 with h2 | h2
        · exact ho i' hi' k hk h2
        · subst h2; exact ho2 k hk hk, ?_⟩
      (refine Weak.cut' rfl rfl ?_; exact cA)
  · repeat' (first | refine WK.seq ?_ | refine WK.reg ?_ | refine IL.nil ?_ | refine WK.skip ?_ | refine WK.block ?_ | refine WK.exit_here ?_ | refine WK.e1 ?_ | refine WK.e2 ?_ | refine WK.drawnS (id := 7) mixed [] [8] [0, 0, 0, 0, 0, 0, 0, 0, 0] [0, 0, 0, 0, 0, 0, 0, 0, 0] (by decide +kernel) ?_ | refine DW.nil ?_ | (with_reducible refine IL.wr ?_ ?_; focus exact cW) | (with_reducible refine DW.wr ?_ ?_; focus exact cW) | refine IL.sg ttok ?_ | refine DW.re ttok ?_ | refine DW.rm ttok ?_ | refine DW.cS ttok ent86 [.bor, .bor] true ?_ (hS := by refine meet_call _ _ _ _ _ _ ?_ ?_ <;> exact cO) | (refine WK.cn (fun h => ?_) (fun h => ?_); all_goals first | (simp only [reduceCtorEq] at h; done) | (simp only [hsA, hsD, hsE, ne_eq] at h; first | done | (exfalso; omega; done) | skip) | skip))
    all_goals try ((first | refine WK.ret ⟨.inr rfl, ?_⟩ | refine ⟨.inl rfl, ?_⟩ | refine ⟨.inl trivial, ?_⟩); refine Fin.o ?_ ?_ (h1 := by first | rfl | (simp only [go_sem, show Try.f85.results.toList = [.tmp 2] from rfl, reduceIte] <;> rfl)); rotate_left 1; (focus (first | rfl | skip)); all_goals try with_reducible rfl)
    have ha : apartI l := fun i hi k hk => ho i hi k hk hi
    rw [decide_eq_true ha]
def fit7Go : List Sp → Int → Int
  | [], _ => 0
  | s :: r, n => if rightI s then (if 1024 < n + s.2.2 then 15 else fit7Go r (n + s.2.2)) else 11
theorem fit7Go_ok : ∀ (l : List Sp) (n : Int), n ≤ 1024 → fit7Go l n = 0 → (∀ s ∈ l, rightI s) ∧ n + tot l ≤ 1024
  | [], n, hn, _ => ⟨by simp, by simp [tot]; omega⟩
  | s :: r, n, hn, h => by
    rw [fit7Go] at h
    split at h
    · rename_i h1
      split at h
      · cases h
      · rename_i h2
        obtain ⟨g1, g2⟩ := fit7Go_ok r (n + s.2.2) (by omega) h
        refine ⟨fun x hx => ?_, ?_⟩
        · rcases List.mem_cons.1 hx with rfl | hx
          · exact h1
          · exact g1 x hx
        · simp only [tot, List.map_cons, List.sum_cons] at g2 ⊢; omega
    · cases h
open Classical in
noncomputable def fit7 (l : List Sp) : Int := if l = [] then 11 else if fit7Go l 0 = 0 then (if apartI l then 0 else 16) else fit7Go l 0
theorem fit7_ok {l : List Sp} (h : fit7 l = 0) : (∀ s ∈ l, rightI s) ∧ tot l ≤ 1024 := by
  unfold fit7 at h
  split at h
  · cases h
  · split at h
    · rename_i h2
      have := fit7Go_ok l 0 (by decide) h2
      exact ⟨this.1, by omega⟩
    · rename_i h2; exact absurd h h2
theorem fit7_call (l : List Sp) (nn : Nat) (hnn : nn = l.length) (hl : l.length ≤ 1024) : SCall Try.prog 80 [.tr nn (encs spC l)] (.v (.int .i64 (fit7 l))) [.tr nn (encs spC l)] := by
  subst hnn
  by_cases hnil : l = []
  · subst hnil
    have e : fit7 [] = 11 := by simp [fit7]
    rw [e]
    refine SCall.of_body' (TT := TT) (fun _ => false) [false] ttok Try.func80 rfl (Nat.le_of_ble_eq_true rfl) rfl fun fx hfx => WK.top ?_
    simp only [impl, imp, argT, List.append_nil, List.map_nil, List.nil_append, show Try.f80.ntmps = 35 from rfl, Nat.zero_add, Nat.reduceAdd]
    repeat' (first | refine WK.seq ?_ | refine WK.reg ?_ | refine IL.nil ?_ | refine WK.skip ?_ | refine WK.block ?_ | refine WK.exit_here ?_ | refine WK.e1 ?_ | refine WK.e2 ?_ | (with_reducible refine IL.wr ?_ ?_; focus exact cW) | refine IL.sg ttok ?_ (h := by intro K hK; simp only [go_sem, reduceIte, List.length_nil]; exact cK hK) | refine IL.cS ttok ent84 [.bor] true ?_ (hA := by first | rfl | (simp only [go_sem, reduceIte, List.length_nil] <;> rfl)) (hS := by exact refRight_call (_, _, _)) (hi := by first | rfl | (simp only [go_sem, reduceIte, List.length_nil] <;> rfl)) (hK := by intro K hK; simp only [go_sem, reduceIte, List.length_nil]; exact cK hK) | refine IL.cS ttok ent85 [.bor] true ?_ (hA := by first | rfl | (simp only [go_sem, reduceIte, List.length_nil] <;> rfl)) (hS := by refine apart_call _ _ ?_ ?_ ?_ <;> exact cO) (hi := by first | rfl | (simp only [go_sem, reduceIte, List.length_nil] <;> rfl)) (hK := by intro K hK; simp only [go_sem, reduceIte, List.length_nil]; exact cK hK) | (refine WK.cn (fun h => ?_) (fun h => ?_); all_goals first | (simp only [reduceCtorEq] at h; done) | (simp only [hsA, hsD, hsE, ne_eq] at h; first | done | (exfalso; omega; done) | skip) | skip))
    all_goals try ((first | refine WK.ret ⟨.inr rfl, ?_⟩ | refine ⟨.inl rfl, ?_⟩ | refine ⟨.inl trivial, ?_⟩); refine Fin.o ?_ ?_ (h1 := by first | rfl | (simp only [go_sem, show Try.f80.results.toList = [.tmp 2] from rfl, reduceIte] <;> rfl)); rotate_left 1; (focus (first | rfl | skip)); all_goals try with_reducible rfl)
  · have hpos : 0 < l.length := List.length_pos_iff.2 hnil
    refine SCall.of_body' (TT := TT) (fun _ => false) [false] ttok Try.func80 rfl (Nat.le_of_ble_eq_true rfl) rfl fun fx hfx => WK.top ?_
    simp only [impl, imp, argT, List.append_nil, List.map_nil, List.nil_append, show Try.f80.ntmps = 35 from rfl, Nat.zero_add, Nat.reduceAdd]
    repeat' (first | refine WK.seq ?_ | refine WK.reg ?_ | refine IL.nil ?_ | refine WK.skip ?_ | refine WK.block ?_ | refine WK.exit_here ?_ | refine WK.e1 ?_ | refine WK.e2 ?_ | (with_reducible refine IL.wr ?_ ?_; focus exact cW) | refine IL.sg ttok ?_ | refine IL.cS ttok ent84 [.bor] true ?_ (hS := by exact refRight_call (_, _, _)) | refine IL.cS ttok ent85 [.bor] true ?_ (hS := by refine apart_call _ _ ?_ ?_ ?_ <;> exact cO) | (refine WK.cn (fun h => ?_) (fun h => ?_); all_goals first | (simp only [reduceCtorEq] at h; done) | (simp only [hsA, hsD, hsE, ne_eq] at h; first | done | (exfalso; omega; done) | skip) | skip))
    generalize hG : fit7Go l 0 = G
    have hfit : ¬ G = 0 → fit7 l = G := fun h => by unfold fit7; rw [if_neg hnil, if_neg (by rw [hG]; exact h), hG]
    have hfit0 : G = 0 → (apartI l → fit7 l = 0) ∧ (¬ apartI l → fit7 l = 16) := fun h => by
      unfold fit7; rw [if_neg hnil, if_pos (by rw [hG]; exact h)]
      exact ⟨fun h => if_pos h, fun h => if_neg h⟩
    refine WK.whileS (α := Nat × Int) (fun x => l.length - x.1) (fun x => x.1 ≤ l.length ∧ 0 ≤ x.2 ∧ x.2 ≤ 1024 ∧ fit7Go (l.drop x.1) x.2 = G)
      (fun x => ⟨35, [(0, .tr l.length (encs spC l)), (3, .v (.int .i64 x.2)), (4, .v (.int .i64 (x.1 : Int)))], []⟩) (0, 0) ⟨⟨Nat.zero_le _, by decide, by decide, by simpa using hG⟩, ?_⟩ ?_
    · (refine Weak.cut' rfl rfl ?_; exact cA)
    · rintro ⟨i, n⟩ ⟨hi, hn0, hn1, hg⟩
      simp only at hi hn0 hn1 hg ⊢
      rcases Nat.eq_or_lt_of_le hi with rfl | hi
      · rw [List.drop_length, fit7Go] at hg
        have hok := fit7Go_ok l 0 (by decide) (by rw [hG]; exact hg.symm)
        obtain ⟨w1, w2⟩ := hfit0 hg.symm
        have hokr := hok.1
        repeat' (first | refine WK.seq ?_ | refine WK.reg ?_ | refine IL.nil ?_ | refine WK.skip ?_ | refine WK.block ?_ | refine WK.exit_here ?_ | refine WK.e1 ?_ | refine WK.e2 ?_ | (with_reducible refine IL.wr ?_ ?_; focus exact cW) | refine IL.sg ttok ?_ | refine IL.cS ttok ent84 [.bor] true ?_ (hS := by exact refRight_call (_, _, _)) | refine IL.cS ttok ent85 [.bor] true ?_ (hS := by refine apart_call _ _ ?_ ?_ ?_ <;> exact cO) | (refine WK.cn (fun h => ?_) (fun h => ?_); all_goals first | (simp only [reduceCtorEq] at h; done) | (simp only [hsA, hsD, hsE, ne_eq] at h; first | done | (exfalso; omega; done) | skip) | skip))
        all_goals try ((first | refine WK.ret ⟨.inr rfl, ?_⟩ | refine ⟨.inl rfl, ?_⟩ | refine ⟨.inl trivial, ?_⟩); refine Fin.o ?_ ?_ (h1 := by first | rfl | (simp only [go_sem, show Try.f80.results.toList = [.tmp 2] from rfl, reduceIte] <;> rfl)); rotate_left 1; (focus (first | rfl | skip)); all_goals try with_reducible rfl)
        all_goals first | rw [w1 (by assumption)] | rw [w2 (by assumption)]
      · have hx : l[i]? = some l[i] := List.getElem?_eq_getElem hi
        rw [List.drop_eq_getElem_cons hi, fit7Go] at hg
        generalize l[i] = s at *
        obtain ⟨r, m, c⟩ := s
        have hle : i * 3 + 3 ≤ l.length * 3 := by omega
        have hat : ((encs spC l).drop (i * 3)).take 3 = [.v (.int .u16 r), .v (.int .u32 m), .v (.int .i64 c)] := encs_at spC_length hx
        have hg2 : (encs spC l)[i * 3 + 2]? = some (.v (.int .i64 c)) := encs_get spC_length hx (j := 2) (by decide)
        have hne : encs spC l ≠ [] := encs_ne spC_length (by decide) hx
        by_cases hri : rightI (r, m, c)
        · rw [if_pos hri] at hg
          simp only at hg
          have hri' := hri
          unfold rightI at hri'
          simp only at hri'
          have hd : decide (rightI (r, m, c)) = true := decide_eq_true hri
          by_cases hbig : 1024 < n + c
          · rw [if_pos hbig] at hg
            subst hg
            rw [hfit (by decide)]
            have FX := And.intro hat (And.intro hle (And.intro hg2 hd))
            repeat' (first | refine WK.seq ?_ | refine WK.reg ?_ | refine IL.nil ?_ | refine WK.skip ?_ | refine WK.block ?_ | refine WK.exit_here ?_ | refine WK.e1 ?_ | refine WK.e2 ?_ | (with_reducible refine IL.wr ?_ ?_; focus exact cW) | refine IL.sgF ttok ?_ | refine IL.cSF ttok ent84 [.bor] true ?_ (hS := by exact refRight_call (_, _, _)) | refine IL.cSF ttok ent85 [.bor] true ?_ (hS := by refine apart_call _ _ ?_ ?_ ?_ <;> exact cO) | (refine WK.cn (fun h => ?_) (fun h => ?_); all_goals first | (simp only [reduceCtorEq] at h; done) | (simp only [hsA, hsD, hsE, ne_eq] at h; first | done | (exfalso; omega; done) | skip) | skip))
            all_goals try ((first | refine WK.ret ⟨.inr rfl, ?_⟩ | refine ⟨.inl rfl, ?_⟩ | refine ⟨.inl trivial, ?_⟩); refine Fin.o ?_ ?_ (h1 := by first | rfl | (simp only [go_sem, show Try.f80.results.toList = [.tmp 2] from rfl, reduceIte] <;> rfl)); rotate_left 1; (focus (first | rfl | skip)); all_goals try with_reducible rfl)
          · rw [if_neg hbig] at hg
            have FX := And.intro hat (And.intro hle (And.intro hg2 hd))
            repeat' (first | refine WK.seq ?_ | refine WK.reg ?_ | refine IL.nil ?_ | refine WK.skip ?_ | refine WK.block ?_ | refine WK.exit_here ?_ | refine WK.e1 ?_ | refine WK.e2 ?_ | (with_reducible refine IL.wr ?_ ?_; focus exact cW) | refine IL.sgF ttok ?_ | refine IL.cSF ttok ent84 [.bor] true ?_ (hS := by exact refRight_call (_, _, _)) | refine IL.cSF ttok ent85 [.bor] true ?_ (hS := by refine apart_call _ _ ?_ ?_ ?_ <;> exact cO) | (refine WK.cn (fun h => ?_) (fun h => ?_); all_goals first | (simp only [reduceCtorEq] at h; done) | (simp only [hsA, hsD, hsE, ne_eq] at h; first | done | (exfalso; omega; done) | skip) | skip))
            refine ⟨(i + 1, n + c), by simp only; omega, ⟨by simp only; omega, by simp only; omega, by simp only; omega, hg⟩, ?_⟩
            (refine Weak.cut' rfl rfl ?_; exact cA)
        · rw [if_neg hri] at hg
          subst hg
          rw [hfit (by decide)]
          have hd : decide (rightI (r, m, c)) = false := decide_eq_false hri
          have FX := And.intro hat (And.intro hle (And.intro hg2 hd))
          repeat' (first | refine WK.seq ?_ | refine WK.reg ?_ | refine IL.nil ?_ | refine WK.skip ?_ | refine WK.block ?_ | refine WK.exit_here ?_ | refine WK.e1 ?_ | refine WK.e2 ?_ | (with_reducible refine IL.wr ?_ ?_; focus exact cW) | refine IL.sgF ttok ?_ | refine IL.cSF ttok ent84 [.bor] true ?_ (hS := by exact refRight_call (_, _, _)) | refine IL.cSF ttok ent85 [.bor] true ?_ (hS := by refine apart_call _ _ ?_ ?_ ?_ <;> exact cO) | (refine WK.cn (fun h => ?_) (fun h => ?_); all_goals first | (simp only [reduceCtorEq] at h; done) | (simp only [hsA, hsD, hsE, ne_eq] at h; first | done | (exfalso; omega; done) | skip) | skip))
          all_goals try ((first | refine WK.ret ⟨.inr rfl, ?_⟩ | refine ⟨.inl rfl, ?_⟩ | refine ⟨.inl trivial, ?_⟩); refine Fin.o ?_ ?_ (h1 := by first | rfl | (simp only [go_sem, show Try.f80.results.toList = [.tmp 2] from rfl, reduceIte] <;> rfl)); rotate_left 1; (focus (first | rfl | skip)); all_goals try with_reducible rfl)
def idOf (s : Sp) (k : Nat) : Nm := (s.1, s.2.1 + k)
def idsS (s : Sp) (c : Nat) : List Nm := (List.range c).map (idOf s)
def idsL (l : List Sp) : List Nm := l.flatMap fun s => idsS s s.2.2.toNat
theorem idsS_succ (s : Sp) (k : Nat) : idsS s (k + 1) = idsS s k ++ [idOf s k] := by simp [idsS, List.range_succ]
theorem idsS_len (s : Sp) (k : Nat) : (idsS s k).length = k := by simp [idsS]
theorem idsL_len : ∀ (l : List Sp), (∀ s ∈ l, rightI s) → ((idsL l).length : Int) = tot l
  | [], _ => rfl
  | s :: r, h => by
    have ih := idsL_len r fun x hx => h x (by simp [hx])
    have hs := h s (by simp)
    unfold rightI at hs
    simp only [idsL, List.flatMap_cons, List.length_append, idsS_len, tot, List.map_cons, List.sum_cons] at ih ⊢
    omega
theorem idsL_take (l : List Sp) (i : Nat) (s : Sp) (hx : l[i]? = some s) : idsL (l.take (i + 1)) = idsL (l.take i) ++ idsS s s.2.2.toNat := by
  rw [List.take_add_one, hx]; simp [idsL]
theorem idsL_take_le (l : List Sp) (i : Nat) : (idsL (l.take i)).length ≤ (idsL l).length := by
  have h : idsL l = idsL (l.take i) ++ idsL (l.drop i) := by
    unfold idsL; rw [← List.flatMap_append, List.take_append_drop]
  rw [h, List.length_append]; omega
theorem ids_call (l : List Sp) (nn : Nat) (hnn : nn = l.length) (hl : l.length ≤ 100000) (hr : ∀ s ∈ l, rightI s) (ht : tot l ≤ 100000) : SCall Try.prog 81 [.tr nn (encs spC l)] (.own 117 (idsL l).length true (encs nmC (idsL l))) [.tr nn (encs spC l)] := by
  subst hnn
  have hlen := idsL_len l hr
  refine SCall.of_body' (TT := TT) (fun _ => false) [false] ttok Try.func81 rfl (Nat.le_of_ble_eq_true rfl) rfl fun fx hfx => WK.top ?_
  simp only [impl, imp, argT, List.append_nil, List.map_nil, List.nil_append, show Try.f81.ntmps = 41 from rfl, Nat.zero_add, Nat.reduceAdd]
  repeat' (first | refine WK.seq ?_ | refine WK.reg ?_ | refine IL.nil ?_ | refine WK.skip ?_ | refine WK.block ?_ | refine WK.exit_here ?_ | refine WK.e1 ?_ | refine WK.e2 ?_ | refine WK.drawnS (id := 8) mixed [0] [17, 18] [0, 0, 0, 0, 0, 0, 0, 0, 0, 0, 0, 0, 0, 0, 0, 0, 0, 0, 1, 2] [1, 0, 0, 0, 0, 0, 0, 0, 0, 0, 0, 0, 0, 0, 0, 0, 0, 0, 1, 2] (by decide +kernel) ?_ | refine DW.nil ?_ | (with_reducible refine IL.wr ?_ ?_; focus exact cW) | (with_reducible refine DW.wr ?_ ?_; focus exact cW) | refine IL.sg ttok ?_ | refine DW.re ttok ?_ | refine DW.rm ttok ?_ | refine DW.bk ttok ?_ | (refine WK.cn (fun h => ?_) (fun h => ?_); all_goals first | (simp only [reduceCtorEq] at h; done) | (simp only [hsA, hsD, hsE, ne_eq] at h; first | done | (exfalso; omega; done) | skip) | skip))
  refine WK.forS l.length (fun i => True) (fun i => ⟨41, [(0, .tr l.length (encs spC l)), (3, .sl 0 0 0 (idsL (l.take i)).length), (4, .v (.int .i64 i))], [some ⟨true, 117, (idsL (l.take i)).length, true, encs nmC (idsL (l.take i)), 0, false⟩]⟩) ⟨trivial, ?_⟩ (fun i hi ho => ?_) (fun ho => ?_)
  · have e0 : idsL (l.take 0) = [] := rfl
    rw [e0]
    (refine Weak.renS [1] hfx rfl ?_ ?_ rfl <;> (simp only [go_sem, reduceIte, exists_eq_left', exists_eq_left, Blk.mk.injEq] <;> (try and_intros) <;> first | rfl | omega))
  · have hx : l[i]? = some l[i] := List.getElem?_eq_getElem hi
    have hri := hr _ (List.getElem_mem hi)
    have htk := idsL_take l i _ hx
    have hlk := idsL_take_le l i
    generalize l[i] = s at *
    obtain ⟨r, n, c⟩ := s
    unfold rightI at hri
    simp only at hri htk
    have hle : i * 3 + 3 ≤ l.length * 3 := by omega
    have hat : ((encs spC l).drop (i * 3)).take 3 = [.v (.int .u16 r), .v (.int .u32 n), .v (.int .i64 c)] := encs_at spC_length hx
    have hg0 : (encs spC l)[i * 3]? = some (.v (.int .u16 r)) := encs_get spC_length hx (j := 0) (by decide)
    have hg1 : (encs spC l)[i * 3 + 1]? = some (.v (.int .u32 n)) := encs_get spC_length hx (j := 1) (by decide)
    have hg2 : (encs spC l)[i * 3 + 2]? = some (.v (.int .i64 c)) := encs_get spC_length hx (j := 2) (by decide)
    have hne : encs spC l ≠ [] := encs_ne spC_length (by decide) hx
    have hce : ((c.toNat : Nat) : Int) = c := by omega
    generalize c.toNat = cn at *
    subst hce
    rw [htk]
    have hl0 : (idsL (l.take i)).length ≤ 100000 := by omega
    generalize idsL (l.take i) = out at *
    have FX := hg2
    repeat' (first | refine WK.seq ?_ | refine WK.reg ?_ | refine IL.nil ?_ | refine WK.skip ?_ | refine WK.block ?_ | refine WK.exit_here ?_ | refine WK.e1 ?_ | refine WK.e2 ?_ | refine WK.drawnS (id := 8) mixed [0] [17, 18] [0, 0, 0, 0, 0, 0, 0, 0, 0, 0, 0, 0, 0, 0, 0, 0, 0, 0, 1, 2] [1, 0, 0, 0, 0, 0, 0, 0, 0, 0, 0, 0, 0, 0, 0, 0, 0, 0, 1, 2] (by decide +kernel) ?_ | refine DW.nil ?_ | (with_reducible refine IL.wr ?_ ?_; focus exact cW) | (with_reducible refine DW.wr ?_ ?_; focus exact cW) | refine IL.sgF ttok ?_ | refine DW.reF ttok ?_ | refine DW.rmF ttok ?_ | refine DW.bkF ttok ?_ | (refine WK.cn (fun h => ?_) (fun h => ?_); all_goals first | (simp only [reduceCtorEq] at h; done) | (simp only [hsA, hsD, hsE, ne_eq] at h; first | done | (exfalso; omega; done) | skip) | skip))
    refine WK.forS cn (fun k => True) (fun k => ⟨41, [(0, .tr l.length (encs spC l)), (3, .sl 0 0 0 (out ++ idsS (r, n, (cn : Int)) k).length), (4, .v (.int .i64 i)), (5, .v (.int .i64 k))], [some ⟨true, 117, (out ++ idsS (r, n, (cn : Int)) k).length, true, encs nmC (out ++ idsS (r, n, (cn : Int)) k), 0, false⟩]⟩) ⟨trivial, ?_⟩ (fun k hk ho2 => ?_) (fun ho2 => ?_)
    · have e0 : out ++ idsS (r, n, (cn : Int)) 0 = out := by simp [idsS]
      rw [e0]
      (refine Weak.renS [0] hfx rfl ?_ ?_ rfl <;> (simp only [go_sem, reduceIte, exists_eq_left', exists_eq_left, Blk.mk.injEq] <;> (try and_intros) <;> first | rfl | omega))
    · have hW : out ++ idsS (r, n, (cn : Int)) (k + 1) = (out ++ idsS (r, n, (cn : Int)) k) ++ [(r, n + k)] := by rw [idsS_succ, ← List.append_assoc]; rfl
      have hWl : (out ++ idsS (r, n, (cn : Int)) k).length ≤ 102000 := by rw [List.length_append, idsS_len]; omega
      rw [hW]
      generalize out ++ idsS (r, n, (cn : Int)) k = W at *
      have hcs : encs nmC W ++ [.v (.int .u16 r), .v (.int .u32 (n + k))] = encs nmC (W ++ [(r, n + (k : Int))]) := encs_snoc (f := nmC) W (_, _)
      have hln : (W ++ [(r, n + (k : Int))]).length = W.length + 1 := by simp
      have FX := And.intro hat (And.intro hle (And.intro hg0 (And.intro hg1 hg2)))
      repeat' (first | refine WK.seq ?_ | refine WK.reg ?_ | refine IL.nil ?_ | refine WK.skip ?_ | refine WK.block ?_ | refine WK.exit_here ?_ | refine WK.e1 ?_ | refine WK.e2 ?_ | refine WK.drawnS (id := 8) mixed [0] [17, 18] [0, 0, 0, 0, 0, 0, 0, 0, 0, 0, 0, 0, 0, 0, 0, 0, 0, 0, 1, 2] [1, 0, 0, 0, 0, 0, 0, 0, 0, 0, 0, 0, 0, 0, 0, 0, 0, 0, 1, 2] (by decide +kernel) ?_ | refine DW.nil ?_ | (with_reducible refine IL.wr ?_ ?_; focus exact cW) | (with_reducible refine DW.wr ?_ ?_; focus exact cW) | refine IL.sgF ttok ?_ | refine DW.reF ttok ?_ | refine DW.rmF ttok ?_ | refine DW.bkF ttok ?_ | (refine WK.cn (fun h => ?_) (fun h => ?_); all_goals first | (simp only [reduceCtorEq] at h; done) | (simp only [hsA, hsD, hsE, ne_eq] at h; first | done | (exfalso; omega; done) | skip) | skip))
      all_goals try ((first | refine WK.ret ⟨.inr rfl, ?_⟩ | refine ⟨.inl rfl, ?_⟩ | refine ⟨.inl trivial, ?_⟩); refine Fin.o ?_ ?_ (h1 := by first | rfl | (simp only [go_sem, show Try.f81.results.toList = [.tmp 2] from rfl, reduceIte] <;> rfl)); rotate_left 1; (focus (first | rfl | skip)); all_goals try with_reducible rfl)
      refine ⟨trivial, ?_⟩
      (refine Weak.renS [0] hfx rfl ?_ ?_ rfl <;> (simp only [go_sem, reduceIte, exists_eq_left', exists_eq_left, Blk.mk.injEq, hcs, hln] <;> (try and_intros) <;> first | rfl | omega))
    · have FX := hg2
      repeat' (first | refine WK.seq ?_ | refine WK.reg ?_ | refine IL.nil ?_ | refine WK.skip ?_ | refine WK.block ?_ | refine WK.exit_here ?_ | refine WK.e1 ?_ | refine WK.e2 ?_ | refine WK.drawnS (id := 8) mixed [0] [17, 18] [0, 0, 0, 0, 0, 0, 0, 0, 0, 0, 0, 0, 0, 0, 0, 0, 0, 0, 1, 2] [1, 0, 0, 0, 0, 0, 0, 0, 0, 0, 0, 0, 0, 0, 0, 0, 0, 0, 1, 2] (by decide +kernel) ?_ | refine DW.nil ?_ | (with_reducible refine IL.wr ?_ ?_; focus exact cW) | (with_reducible refine DW.wr ?_ ?_; focus exact cW) | refine IL.sgF ttok ?_ | refine DW.reF ttok ?_ | refine DW.rmF ttok ?_ | refine DW.bkF ttok ?_ | (refine WK.cn (fun h => ?_) (fun h => ?_); all_goals first | (simp only [reduceCtorEq] at h; done) | (simp only [hsA, hsD, hsE, ne_eq] at h; first | done | (exfalso; omega; done) | skip) | skip))
      refine ⟨trivial, ?_⟩
      (refine Weak.renS [0] hfx rfl ?_ ?_ rfl <;> (simp only [go_sem, reduceIte, exists_eq_left', exists_eq_left, Blk.mk.injEq] <;> (try and_intros) <;> first | rfl | omega))
  · rw [List.take_length]
    repeat' (first | refine WK.seq ?_ | refine WK.reg ?_ | refine IL.nil ?_ | refine WK.skip ?_ | refine WK.block ?_ | refine WK.exit_here ?_ | refine WK.e1 ?_ | refine WK.e2 ?_ | refine WK.drawnS (id := 8) mixed [0] [17, 18] [0, 0, 0, 0, 0, 0, 0, 0, 0, 0, 0, 0, 0, 0, 0, 0, 0, 0, 1, 2] [1, 0, 0, 0, 0, 0, 0, 0, 0, 0, 0, 0, 0, 0, 0, 0, 0, 0, 1, 2] (by decide +kernel) ?_ | refine DW.nil ?_ | (with_reducible refine IL.wr ?_ ?_; focus exact cW) | (with_reducible refine DW.wr ?_ ?_; focus exact cW) | refine IL.sg ttok ?_ | refine DW.re ttok ?_ | refine DW.rm ttok ?_ | refine DW.bk ttok ?_ | (refine WK.cn (fun h => ?_) (fun h => ?_); all_goals first | (simp only [reduceCtorEq] at h; done) | (simp only [hsA, hsD, hsE, ne_eq] at h; first | done | (exfalso; omega; done) | skip) | skip))
    all_goals try ((first | refine WK.ret ⟨.inr rfl, ?_⟩ | refine ⟨.inl rfl, ?_⟩ | refine ⟨.inl trivial, ?_⟩); refine Fin.o ?_ ?_ (h1 := by first | rfl | (simp only [go_sem, show Try.f81.results.toList = [.tmp 2] from rfl, reduceIte] <;> rfl)); rotate_left 1; (focus (first | rfl | skip)); all_goals try with_reducible rfl)
    all_goals rfl
end Go.Proofs.Ytclhjcbnpdlgbaa
/- The document's Fit of an operation. -/
namespace Go.Proofs.Ytclhjcbnpdlgbaa
open Go Go.Lift
set_option maxHeartbeats 4000000
set_option linter.unusedSimpArgs false
set_option linter.unusedVariables false
attribute [local irreducible] WK IL IP IG IW DW

def plainT (t : List UInt8) : Prop := ∀ c ∈ t, c.toNat = 10 ∨ (32 ≤ c.toNat ∧ c.toNat ≤ 126)
instance (t : List UInt8) : Decidable (plainT t) := by unfold plainT; infer_instance
theorem plain_call (t : List UInt8) (ht : t.length ≤ 100000) : SCall Try.prog 77 [.v (.string ⟨t.toArray⟩)] (.v (.bool (decide (plainT t)))) [.v (.string ⟨t.toArray⟩)] := by
  refine SCall.of_body' (TT := TT) (fun _ => false) [false] ttok Try.func77 rfl (Nat.le_of_ble_eq_true rfl) rfl fun fx hfx => WK.top ?_
  simp only [impl, imp, argT, List.append_nil, List.map_nil, List.nil_append, show Try.f77.ntmps = 26 from rfl, Nat.zero_add, Nat.reduceAdd]
  repeat' (first | refine WK.seq ?_ | refine WK.reg ?_ | refine IL.nil ?_ | refine WK.skip ?_ | refine WK.block ?_ | refine WK.exit_here ?_ | refine WK.e1 ?_ | refine WK.e2 ?_ | (with_reducible refine IL.wr ?_ ?_; focus exact cW) | refine IL.sg ttok ?_ | refine IL.nn ?_ | ((first | ((first | refine IL.ag (fun h => ?_) (fun h => ?_) | refine IL.ap (fun h => ?_) (fun h => ?_)); (fail_if_success (focus (simp only [reduceCtorEq] at h)))) | refine WK.cn (fun h => ?_) (fun h => ?_)); all_goals first | (simp only [reduceCtorEq] at h; done) | (simp only [hsA, hsD, hsE, ne_eq] at h; first | done | (exfalso; omega; done) | skip) | skip))
  refine WK.forS t.length (fun i => plainT (t.take i)) (fun i => ⟨26, [(0, .v (.string ⟨t.toArray⟩)), (3, .v (.int .i64 i))], []⟩) ⟨by simp [plainT], ?_⟩ (fun i hi ho => ?_) (fun ho => ?_)
  · (refine Weak.cut' rfl rfl ?_; exact cA)
  · have hx : t[i]? = some t[i] := List.getElem?_eq_getElem hi
    have htk : t.take (i + 1) = t.take i ++ [t[i]] := by rw [List.take_add_one, hx]; rfl
    have hbad : ¬ (t[i].toNat = 10 ∨ (32 ≤ t[i].toNat ∧ t[i].toNat ≤ 126)) → ¬ plainT t := fun h hp => h (hp _ (List.getElem_mem hi))
    have hgo : (t[i].toNat = 10 ∨ (32 ≤ t[i].toNat ∧ t[i].toNat ≤ 126)) → plainT (t.take (i + 1)) := fun h c hc => by
      rw [htk] at hc
      rcases List.mem_append.1 hc with hc | hc
      · exact ho c hc
      · simp only [List.mem_cons, List.not_mem_nil, or_false] at hc; subst hc; exact h
    have hgd : t.getD i 0 = t[i] := by simp [List.getD, hx]
    rw [← hgd] at hbad hgo
    have hc := (t.getD i 0).toNat_lt
    repeat' (first | refine WK.seq ?_ | refine WK.reg ?_ | refine IL.nil ?_ | refine WK.skip ?_ | refine WK.block ?_ | refine WK.exit_here ?_ | refine WK.e1 ?_ | refine WK.e2 ?_ | (with_reducible refine IL.wr ?_ ?_; focus exact cW) | refine IL.sg ttok ?_ | refine IL.nn ?_ | ((first | ((first | refine IL.ag (fun h => ?_) (fun h => ?_) | refine IL.ap (fun h => ?_) (fun h => ?_)); (fail_if_success (focus (simp only [reduceCtorEq] at h)))) | refine WK.cn (fun h => ?_) (fun h => ?_)); all_goals first | (simp only [reduceCtorEq] at h; done) | (simp only [hsA, hsD, hsE, ne_eq] at h; first | done | (exfalso; omega; done) | skip) | skip))
    all_goals try ((first | refine WK.ret ⟨.inr rfl, ?_⟩ | refine ⟨.inl rfl, ?_⟩ | refine ⟨.inl trivial, ?_⟩); refine Fin.o ?_ ?_ (h1 := by first | rfl | (simp only [go_sem, show Try.f77.results.toList = [.tmp 2] from rfl, reduceIte] <;> rfl)); rotate_left 1; (focus (first | rfl | skip)); all_goals try with_reducible rfl)
    all_goals first | rw [decide_eq_false (hbad (by omega))] | (refine ⟨hgo (by omega), ?_⟩; (refine Weak.cut' rfl rfl ?_; exact cA))
  · rw [List.take_length] at ho
    repeat' (first | refine WK.seq ?_ | refine WK.reg ?_ | refine IL.nil ?_ | refine WK.skip ?_ | refine WK.block ?_ | refine WK.exit_here ?_ | refine WK.e1 ?_ | refine WK.e2 ?_ | (with_reducible refine IL.wr ?_ ?_; focus exact cW) | refine IL.sg ttok ?_ | refine IL.nn ?_ | ((first | ((first | refine IL.ag (fun h => ?_) (fun h => ?_) | refine IL.ap (fun h => ?_) (fun h => ?_)); (fail_if_success (focus (simp only [reduceCtorEq] at h)))) | refine WK.cn (fun h => ?_) (fun h => ?_)); all_goals first | (simp only [reduceCtorEq] at h; done) | (simp only [hsA, hsD, hsE, ne_eq] at h; first | done | (exfalso; omega; done) | skip) | skip))
    all_goals try ((first | refine WK.ret ⟨.inr rfl, ?_⟩ | refine ⟨.inl rfl, ?_⟩ | refine ⟨.inl trivial, ?_⟩); refine Fin.o ?_ ?_ (h1 := by first | rfl | (simp only [go_sem, show Try.f77.results.toList = [.tmp 2] from rfl, reduceIte] <;> rfl)); rotate_left 1; (focus (first | rfl | skip)); all_goals try with_reducible rfl)
    rw [decide_eq_true ho]
def atoms (k : Int) (t : List UInt8) (s : List Sp) : Nat := if k = 1 then t.length else if k = 3 then (idsL s).length else 0
theorem atoms_call (k r n m q : Int) (t : List UInt8) (s : List Sp) (nn : Nat) (hnn : nn = s.length) (ht : t.length ≤ 100000) (hs : s.length ≤ 100000) (h3 : k = 3 → (∀ x ∈ s, rightI x) ∧ tot s ≤ 1024) : SCall Try.prog 73 [.agg (opL k r n m t (.tr nn (encs spC s)) q)] (.v (.int .i64 (atoms k t s : Int))) [.agg (opL k r n m t (.tr nn (encs spC s)) q)] := by
  subst hnn
  unfold atoms
  by_cases k1 : k = 1
  · rw [if_pos k1]
    refine SCall.of_body' (TT := TT) (fun _ => false) [false] ttok Try.func73 rfl (Nat.le_of_ble_eq_true rfl) rfl fun fx hfx => WK.top ?_
    simp only [impl, imp, argT, List.append_nil, List.map_nil, List.nil_append, show Try.f73.ntmps = 16 from rfl, Nat.zero_add, Nat.reduceAdd]
    repeat' (first | refine WK.seq ?_ | refine WK.reg ?_ | refine IL.nil ?_ | refine WK.skip ?_ | (with_reducible refine IL.wr ?_ ?_; focus exact cW) | refine IL.sg ttok ?_ | refine IL.cS ttok ent81 [.bor] true ?_ (hS := by refine ids_call _ _ ?_ ?_ ?_ ?_ <;> exact cO) | (refine WK.cn (fun h => ?_) (fun h => ?_); all_goals first | (simp only [reduceCtorEq] at h; done) | (simp only [hsA, hsD, hsE, ne_eq] at h; first | done | (exfalso; omega; done) | skip) | skip))
    all_goals try ((first | refine WK.ret ⟨.inr rfl, ?_⟩ | refine ⟨.inl rfl, ?_⟩ | refine ⟨.inl trivial, ?_⟩); refine Fin.o ?_ ?_ (h1 := by first | rfl | (simp only [go_sem, show Try.f73.results.toList = [.tmp 2] from rfl, reduceIte] <;> rfl)); rotate_left 1; (focus (first | rfl | skip)); all_goals try with_reducible rfl)
    all_goals simp
  · rw [if_neg k1]
    by_cases k3 : k = 3
    · rw [if_pos k3]
      obtain ⟨g1, g2⟩ := h3 k3
      refine SCall.of_body' (TT := TT) (fun _ => false) [false] ttok Try.func73 rfl (Nat.le_of_ble_eq_true rfl) rfl fun fx hfx => WK.top ?_
      simp only [impl, imp, argT, List.append_nil, List.map_nil, List.nil_append, show Try.f73.ntmps = 16 from rfl, Nat.zero_add, Nat.reduceAdd]
      repeat' (first | refine WK.seq ?_ | refine WK.reg ?_ | refine IL.nil ?_ | refine WK.skip ?_ | (with_reducible refine IL.wr ?_ ?_; focus exact cW) | refine IL.sg ttok ?_ | refine IL.cS ttok ent81 [.bor] true ?_ (hS := by refine ids_call _ _ ?_ ?_ ?_ ?_ <;> exact cO) | (refine WK.cn (fun h => ?_) (fun h => ?_); all_goals first | (simp only [reduceCtorEq] at h; done) | (simp only [hsA, hsD, hsE, ne_eq] at h; first | done | (exfalso; omega; done) | skip) | skip))
      all_goals try ((first | refine WK.ret ⟨.inr rfl, ?_⟩ | refine ⟨.inl rfl, ?_⟩ | refine ⟨.inl trivial, ?_⟩); refine Fin.o ?_ ?_ (h1 := by first | rfl | (simp only [go_sem, show Try.f73.results.toList = [.tmp 2] from rfl, reduceIte] <;> rfl)); rotate_left 1; (focus (first | rfl | skip)); all_goals try with_reducible rfl)
    · rw [if_neg k3]
      refine SCall.of_body' (TT := TT) (fun _ => false) [false] ttok Try.func73 rfl (Nat.le_of_ble_eq_true rfl) rfl fun fx hfx => WK.top ?_
      simp only [impl, imp, argT, List.append_nil, List.map_nil, List.nil_append, show Try.f73.ntmps = 16 from rfl, Nat.zero_add, Nat.reduceAdd]
      repeat' (first | refine WK.seq ?_ | refine WK.reg ?_ | refine IL.nil ?_ | refine WK.skip ?_ | (with_reducible refine IL.wr ?_ ?_; focus exact cW) | refine IL.sg ttok ?_ | refine IL.cS ttok ent81 [.bor] true ?_ (hS := by refine ids_call _ _ ?_ ?_ ?_ ?_ <;> exact cO) | (refine WK.cn (fun h => ?_) (fun h => ?_); all_goals first | (simp only [reduceCtorEq] at h; done) | (simp only [hsA, hsD, hsE, ne_eq] at h; first | done | (exfalso; omega; done) | skip) | skip))
      all_goals try ((first | refine WK.ret ⟨.inr rfl, ?_⟩ | refine ⟨.inl rfl, ?_⟩ | refine ⟨.inl trivial, ?_⟩); refine Fin.o ?_ ?_ (h1 := by first | rfl | (simp only [go_sem, show Try.f73.results.toList = [.tmp 2] from rfl, reduceIte] <;> rfl)); rotate_left 1; (focus (first | rfl | skip)); all_goals try with_reducible rfl)
      all_goals rfl
def numd (k r n m : Int) (t : List UInt8) (s : List Sp) : Prop := (r = 0 ∧ n = 0 ∨ 1 ≤ n ∧ n ≤ 268435456) ∧ 1 ≤ m ∧ m ≤ 268435456 ∧ m + (atoms k t s : Int) - 1 ≤ 268435456
instance (k r n m : Int) (t : List UInt8) (s : List Sp) : Decidable (numd k r n m t s) := by unfold numd; infer_instance
theorem numd_call (k r n m q : Int) (t : List UInt8) (s : List Sp) (nn : Nat) (hnn : nn = s.length) (ht : t.length ≤ 100000) (hs : s.length ≤ 100000) (h3 : k = 3 → (∀ x ∈ s, rightI x) ∧ tot s ≤ 1024) (hn : 0 ≤ n) : SCall Try.prog 78 [.agg (opL k r n m t (.tr nn (encs spC s)) q)] (.v (.bool (decide (numd k r n m t s)))) [.agg (opL k r n m t (.tr nn (encs spC s)) q)] := by
  subst hnn
  have hb : atoms k t s ≤ 100000 := by
    unfold atoms
    split
    · exact ht
    · split
      · rename_i h; have := idsL_len s (h3 h).1; have := (h3 h).2; omega
      · omega
  have hA := atoms_call k r n m q t s s.length rfl ht hs h3
  unfold numd
  refine SCall.of_body' (TT := TT) (fun _ => false) [false] ttok Try.func78 rfl (Nat.le_of_ble_eq_true rfl) rfl fun fx hfx => WK.top ?_
  simp only [impl, imp, argT, List.append_nil, List.map_nil, List.nil_append, show Try.f78.ntmps = 46 from rfl, Nat.zero_add, Nat.reduceAdd]
  repeat' (first | refine WK.seq ?_ | refine WK.reg ?_ | refine IL.nil ?_ | refine WK.skip ?_ | refine WK.drawnS (id := 4) mixed [] [13] [0, 0, 0, 0, 0, 0, 0, 0, 0, 0, 0, 0, 0, 0, 1, 1, 1, 1, 1] [0, 0, 0, 0, 0, 0, 0, 0, 0, 1, 1, 1, 0, 0, 1, 1, 1, 1, 1] (by decide +kernel) ?_ | refine DW.nil ?_ | (with_reducible refine IL.wr ?_ ?_; focus exact cW) | (with_reducible refine DW.wr ?_ ?_; focus exact cW) | refine IL.sg ttok ?_ | refine IL.nn ?_ | refine DW.re ttok ?_ | refine DW.rm ttok ?_ | refine DW.nn ?_ | refine DW.nb ?_ | refine DW.cS ttok ent73 [.bor] true ?_ (hS := by exact hA) | ((first | ((first | refine IL.ag (fun h => ?_) (fun h => ?_) | refine DW.ag (fun h => ?_) (fun h => ?_) | refine IL.ap (fun h => ?_) (fun h => ?_) | refine DW.ap (fun h => ?_) (fun h => ?_)); (fail_if_success (focus (simp only [reduceCtorEq] at h)))) | refine WK.cn (fun h => ?_) (fun h => ?_)); all_goals first | (simp only [reduceCtorEq] at h; done) | (simp only [hsA, hsD, hsE, ne_eq] at h; first | done | (exfalso; omega; done) | skip) | skip))
  all_goals try ((first | refine WK.ret ⟨.inr rfl, ?_⟩ | refine ⟨.inl rfl, ?_⟩ | refine ⟨.inl trivial, ?_⟩); refine Fin.o ?_ ?_ (h1 := by first | rfl | (simp only [go_sem, show Try.f78.results.toList = [.tmp 2] from rfl, reduceIte] <;> rfl)); rotate_left 1; (focus (first | rfl | skip)); all_goals try with_reducible rfl)
  all_goals first | (refine congrArg (fun b => IV.v (.bool b)) (decide_eq_false ?_).symm; omega) | (refine congrArg (fun b => IV.v (.bool b)) (decide_eq_decide.2 ?_); omega)
def placeI (r n m : Int) : Prop := r = 0 ∧ n = 0 ∧ m = 0
instance (r n m : Int) : Decidable (placeI r n m) := by unfold placeI; infer_instance
theorem place_call (k r n m q : Int) (t : List UInt8) (s : List Sp) (nn : Nat) : SCall Try.prog 79 [.agg (opL k r n m t (.tr nn (encs spC s)) q)] (.v (.bool (decide (placeI r n m)))) [.agg (opL k r n m t (.tr nn (encs spC s)) q)] := by
  refine SCall.of_body' (TT := TT) (fun _ => false) [false] ttok Try.func79 rfl (Nat.le_of_ble_eq_true rfl) rfl fun fx hfx => WK.top ?_
  simp only [impl, imp, argT, List.append_nil, List.map_nil, List.nil_append, show Try.f79.ntmps = 12 from rfl, Nat.zero_add, Nat.reduceAdd]
  repeat' (first | refine WK.seq ?_ | refine WK.reg ?_ | refine IL.nil ?_ | (with_reducible refine IL.wr ?_ ?_; focus exact cW) | refine IL.sg ttok ?_ | refine IL.nn ?_ | (((first | refine IL.ag (fun h => ?_) (fun h => ?_) | refine IL.ap (fun h => ?_) (fun h => ?_)); (fail_if_success (focus (simp only [reduceCtorEq] at h)))); all_goals first | (simp only [reduceCtorEq] at h; done) | (simp only [hsA, hsD, hsE, ne_eq] at h; first | done | (exfalso; omega; done) | skip) | skip))
  all_goals try ((first | refine WK.ret ⟨.inr rfl, ?_⟩ | refine ⟨.inl rfl, ?_⟩ | refine ⟨.inl trivial, ?_⟩); refine Fin.o ?_ ?_ (h1 := by first | rfl | (simp only [go_sem, show Try.f79.results.toList = [.tmp 2] from rfl, reduceIte] <;> rfl)); rotate_left 1; (focus (first | rfl | skip)); all_goals try with_reducible rfl)
  all_goals grind [placeI]
open Classical in
noncomputable def fit8 (k r n m : Int) (t : List UInt8) (s : List Sp) (q : Int) : Int :=
  if k = 1 then (if ¬ s = [] ∨ ¬ q = 0 ∨ t = [] ∨ ¬ plainT t then 11 else if 64 < t.length then 15 else if numd k r n m t s then 0 else 11)
  else if k = 2 then (if ¬ t = [] ∨ ¬ q = 0 ∨ ¬ placeI r n m then 11 else fit7 s)
  else if k = 3 then (if ¬ t = [] ∨ ¬ q = 0 then 11 else if fit7 s = 0 then (if numd k r n m t s then 0 else 11) else fit7 s)
  else if k = 4 ∨ k = 5 then (if ¬ t = [] ∨ ¬ s = [] ∨ ¬ placeI r n m ∨ q < 1 ∨ 268435456 < q then 11 else 0)
  else 11
theorem fit8_call (k r n m q : Int) (t : List UInt8) (s : List Sp) (nn : Nat) (hnn : nn = s.length) (ht : t.length ≤ 1000) (hs : s.length ≤ 1024) (hn : 0 ≤ n) (hq : 0 ≤ q) : SCall Try.prog 72 [.agg (opL k r n m t (.tr nn (encs spC s)) q)] (.v (.int .i64 (fit8 k r n m t s q))) [.agg (opL k r n m t (.tr nn (encs spC s)) q)] := by
  subst hnn
  have hs0 : s = [] ↔ s.length = 0 := List.length_eq_zero_iff.symm
  by_cases k1 : k = 1
  · have h3 : k = 3 → (∀ x ∈ s, rightI x) ∧ tot s ≤ 1024 := fun h => by omega
    unfold fit8
    rw [if_pos k1]
    refine SCall.of_body' (TT := TT) (fun _ => false) [false] ttok Try.func72 rfl (Nat.le_of_ble_eq_true rfl) rfl fun fx hfx => WK.top ?_
    simp only [impl, imp, argT, List.append_nil, List.map_nil, List.nil_append, show Try.f72.ntmps = 99 from rfl, Nat.zero_add, Nat.reduceAdd]
    repeat' (first | refine WK.seq ?_ | refine WK.reg ?_ | refine IL.nil ?_ | refine WK.skip ?_ | refine WK.block ?_ | (with_reducible refine IL.wr ?_ ?_; focus exact cW) | refine IL.sg ttok ?_ | refine IL.nn ?_ | refine IL.cS ttok ent77 [.bor] true ?_ (hS := by refine plain_call _ ?_ <;> exact cO) | refine IL.cS ttok ent78 [.bor] true ?_ (hS := by refine numd_call _ _ _ _ _ _ _ _ ?_ ?_ ?_ ?_ ?_ <;> exact cO) | refine IL.cS ttok ent79 [.bor] true ?_ (hS := by exact place_call _ _ _ _ _ _ _ _) | refine IL.cS ttok ent80 [.bor] true ?_ (hS := by refine fit7_call _ _ ?_ ?_ <;> exact cO) | ((first | ((first | refine IL.ag (fun h => ?_) (fun h => ?_) | refine IL.ap (fun h => ?_) (fun h => ?_)); (fail_if_success (focus (simp only [reduceCtorEq] at h)))) | refine WK.cn (fun h => ?_) (fun h => ?_)); all_goals first | (simp only [reduceCtorEq] at h; done) | (simp only [hsA, hsD, hsE, ne_eq] at h; first | done | (exfalso; omega; done) | skip) | skip))
    all_goals try ((first | refine WK.ret ⟨.inr rfl, ?_⟩ | refine ⟨.inl rfl, ?_⟩ | refine ⟨.inl trivial, ?_⟩); refine Fin.o ?_ ?_ (h1 := by first | rfl | (simp only [go_sem, show Try.f72.results.toList = [.tmp 2] from rfl, reduceIte] <;> rfl)); rotate_left 1; (focus (first | rfl | skip)); all_goals try with_reducible rfl)
    all_goals grind
  · by_cases k2 : k = 2
    · have h3 : k = 3 → (∀ x ∈ s, rightI x) ∧ tot s ≤ 1024 := fun h => by omega
      unfold fit8
      rw [if_neg k1, if_pos k2]
      refine SCall.of_body' (TT := TT) (fun _ => false) [false] ttok Try.func72 rfl (Nat.le_of_ble_eq_true rfl) rfl fun fx hfx => WK.top ?_
      simp only [impl, imp, argT, List.append_nil, List.map_nil, List.nil_append, show Try.f72.ntmps = 99 from rfl, Nat.zero_add, Nat.reduceAdd]
      repeat' (first | refine WK.seq ?_ | refine WK.reg ?_ | refine IL.nil ?_ | refine WK.skip ?_ | refine WK.block ?_ | (with_reducible refine IL.wr ?_ ?_; focus exact cW) | refine IL.sg ttok ?_ | refine IL.nn ?_ | refine IL.cS ttok ent77 [.bor] true ?_ (hS := by refine plain_call _ ?_ <;> exact cO) | refine IL.cS ttok ent78 [.bor] true ?_ (hS := by refine numd_call _ _ _ _ _ _ _ _ ?_ ?_ ?_ ?_ ?_ <;> exact cO) | refine IL.cS ttok ent79 [.bor] true ?_ (hS := by exact place_call _ _ _ _ _ _ _ _) | refine IL.cS ttok ent80 [.bor] true ?_ (hS := by refine fit7_call _ _ ?_ ?_ <;> exact cO) | ((first | ((first | refine IL.ag (fun h => ?_) (fun h => ?_) | refine IL.ap (fun h => ?_) (fun h => ?_)); (fail_if_success (focus (simp only [reduceCtorEq] at h)))) | refine WK.cn (fun h => ?_) (fun h => ?_)); all_goals first | (simp only [reduceCtorEq] at h; done) | (simp only [hsA, hsD, hsE, ne_eq] at h; first | done | (exfalso; omega; done) | skip) | skip))
      all_goals try ((first | refine WK.ret ⟨.inr rfl, ?_⟩ | refine ⟨.inl rfl, ?_⟩ | refine ⟨.inl trivial, ?_⟩); refine Fin.o ?_ ?_ (h1 := by first | rfl | (simp only [go_sem, show Try.f72.results.toList = [.tmp 2] from rfl, reduceIte] <;> rfl)); rotate_left 1; (focus (first | rfl | skip)); all_goals try with_reducible rfl)
      all_goals grind
    · by_cases k3 : k = 3
      · unfold fit8
        rw [if_neg k1, if_neg k2, if_pos k3]
        by_cases hf : fit7 s = 0
        · have h3 : k = 3 → (∀ x ∈ s, rightI x) ∧ tot s ≤ 1024 := fun _ => fit7_ok hf
          refine SCall.of_body' (TT := TT) (fun _ => false) [false] ttok Try.func72 rfl (Nat.le_of_ble_eq_true rfl) rfl fun fx hfx => WK.top ?_
          simp only [impl, imp, argT, List.append_nil, List.map_nil, List.nil_append, show Try.f72.ntmps = 99 from rfl, Nat.zero_add, Nat.reduceAdd]
          repeat' (first | refine WK.seq ?_ | refine WK.reg ?_ | refine IL.nil ?_ | refine WK.skip ?_ | refine WK.block ?_ | (with_reducible refine IL.wr ?_ ?_; focus exact cW) | refine IL.sg ttok ?_ | refine IL.nn ?_ | refine IL.cS ttok ent77 [.bor] true ?_ (hS := by refine plain_call _ ?_ <;> exact cO) | refine IL.cS ttok ent78 [.bor] true ?_ (hS := by refine numd_call _ _ _ _ _ _ _ _ ?_ ?_ ?_ ?_ ?_ <;> exact cO) | refine IL.cS ttok ent79 [.bor] true ?_ (hS := by exact place_call _ _ _ _ _ _ _ _) | refine IL.cS ttok ent80 [.bor] true ?_ (hS := by refine fit7_call _ _ ?_ ?_ <;> exact cO) | ((first | ((first | refine IL.ag (fun h => ?_) (fun h => ?_) | refine IL.ap (fun h => ?_) (fun h => ?_)); (fail_if_success (focus (simp only [reduceCtorEq] at h)))) | refine WK.cn (fun h => ?_) (fun h => ?_)); all_goals first | (simp only [reduceCtorEq] at h; done) | (simp only [hsA, hsD, hsE, ne_eq] at h; first | done | (exfalso; omega; done) | skip) | skip))
          all_goals try ((first | refine WK.ret ⟨.inr rfl, ?_⟩ | refine ⟨.inl rfl, ?_⟩ | refine ⟨.inl trivial, ?_⟩); refine Fin.o ?_ ?_ (h1 := by first | rfl | (simp only [go_sem, show Try.f72.results.toList = [.tmp 2] from rfl, reduceIte] <;> rfl)); rotate_left 1; (focus (first | rfl | skip)); all_goals try with_reducible rfl)
          all_goals grind
        · refine SCall.of_body' (TT := TT) (fun _ => false) [false] ttok Try.func72 rfl (Nat.le_of_ble_eq_true rfl) rfl fun fx hfx => WK.top ?_
          simp only [impl, imp, argT, List.append_nil, List.map_nil, List.nil_append, show Try.f72.ntmps = 99 from rfl, Nat.zero_add, Nat.reduceAdd]
          repeat' (first | refine WK.seq ?_ | refine WK.reg ?_ | refine IL.nil ?_ | refine WK.skip ?_ | refine WK.block ?_ | (with_reducible refine IL.wr ?_ ?_; focus exact cW) | refine IL.sg ttok ?_ | refine IL.nn ?_ | refine IL.cS ttok ent77 [.bor] true ?_ (hS := by refine plain_call _ ?_ <;> exact cO) | refine IL.cS ttok ent78 [.bor] true ?_ (hS := by refine numd_call _ _ _ _ _ _ _ _ ?_ ?_ ?_ ?_ ?_ <;> exact cO) | refine IL.cS ttok ent79 [.bor] true ?_ (hS := by exact place_call _ _ _ _ _ _ _ _) | refine IL.cS ttok ent80 [.bor] true ?_ (hS := by refine fit7_call _ _ ?_ ?_ <;> exact cO) | ((first | ((first | refine IL.ag (fun h => ?_) (fun h => ?_) | refine IL.ap (fun h => ?_) (fun h => ?_)); (fail_if_success (focus (simp only [reduceCtorEq] at h)))) | refine WK.cn (fun h => ?_) (fun h => ?_)); all_goals first | (simp only [reduceCtorEq] at h; done) | (simp only [hsA, hsD, hsE, ne_eq] at h; first | done | (exfalso; omega; done) | skip) | skip))
          all_goals try ((first | refine WK.ret ⟨.inr rfl, ?_⟩ | refine ⟨.inl rfl, ?_⟩ | refine ⟨.inl trivial, ?_⟩); refine Fin.o ?_ ?_ (h1 := by first | rfl | (simp only [go_sem, show Try.f72.results.toList = [.tmp 2] from rfl, reduceIte] <;> rfl)); rotate_left 1; (focus (first | rfl | skip)); all_goals try with_reducible rfl)
          all_goals grind
      · unfold fit8
        rw [if_neg k1, if_neg k2, if_neg k3]
        refine SCall.of_body' (TT := TT) (fun _ => false) [false] ttok Try.func72 rfl (Nat.le_of_ble_eq_true rfl) rfl fun fx hfx => WK.top ?_
        simp only [impl, imp, argT, List.append_nil, List.map_nil, List.nil_append, show Try.f72.ntmps = 99 from rfl, Nat.zero_add, Nat.reduceAdd]
        repeat' (first | refine WK.seq ?_ | refine WK.reg ?_ | refine IL.nil ?_ | refine WK.skip ?_ | refine WK.block ?_ | (with_reducible refine IL.wr ?_ ?_; focus exact cW) | refine IL.sg ttok ?_ | refine IL.nn ?_ | refine IL.cS ttok ent77 [.bor] true ?_ (hS := by refine plain_call _ ?_ <;> exact cO) | refine IL.cS ttok ent78 [.bor] true ?_ (hS := by refine numd_call _ _ _ _ _ _ _ _ ?_ ?_ ?_ ?_ ?_ <;> exact cO) | refine IL.cS ttok ent79 [.bor] true ?_ (hS := by exact place_call _ _ _ _ _ _ _ _) | refine IL.cS ttok ent80 [.bor] true ?_ (hS := by refine fit7_call _ _ ?_ ?_ <;> exact cO) | ((first | ((first | refine IL.ag (fun h => ?_) (fun h => ?_) | refine IL.ap (fun h => ?_) (fun h => ?_)); (fail_if_success (focus (simp only [reduceCtorEq] at h)))) | refine WK.cn (fun h => ?_) (fun h => ?_)); all_goals first | (simp only [reduceCtorEq] at h; done) | (simp only [hsA, hsD, hsE, ne_eq] at h; first | done | (exfalso; omega; done) | skip) | skip))
        all_goals try ((first | refine WK.ret ⟨.inr rfl, ?_⟩ | refine ⟨.inl rfl, ?_⟩ | refine ⟨.inl trivial, ?_⟩); refine Fin.o ?_ ?_ (h1 := by first | rfl | (simp only [go_sem, show Try.f72.results.toList = [.tmp 2] from rfl, reduceIte] <;> rfl)); rotate_left 1; (focus (first | rfl | skip)); all_goals try with_reducible rfl)
        all_goals grind
theorem fit8_ok {k r n m q : Int} {t : List UInt8} {s : List Sp} (h : fit8 k r n m t s q = 0) : (k = 1 ∧ s = [] ∧ q = 0 ∧ t.length ≤ 64 ∧ numd k r n m t s) ∨ (k = 2 ∧ t = [] ∧ q = 0 ∧ placeI r n m ∧ fit7 s = 0) ∨ (k = 3 ∧ t = [] ∧ q = 0 ∧ fit7 s = 0 ∧ numd k r n m t s) ∨ ((k = 4 ∨ k = 5) ∧ t = [] ∧ s = [] ∧ placeI r n m ∧ 1 ≤ q ∧ q ≤ 268435456) := by
  unfold fit8 at h
  split at h
  · rename_i k1
    split at h
    · exact absurd h (by decide)
    · rename_i c
      split at h
      · exact absurd h (by decide)
      · rename_i c2
        split at h
        · rename_i c3
          simp only [not_or, Classical.not_not] at c
          exact .inl ⟨k1, c.1, c.2.1, by omega, c3⟩
        · exact absurd h (by decide)
  · split at h
    · rename_i k2
      split at h
      · exact absurd h (by decide)
      · rename_i c
        simp only [not_or, Classical.not_not] at c
        exact .inr (.inl ⟨k2, c.1, c.2.1, c.2.2, h⟩)
    · split at h
      · rename_i k3
        split at h
        · exact absurd h (by decide)
        · rename_i c
          simp only [not_or, Classical.not_not] at c
          split at h
          · rename_i c2
            split at h
            · rename_i c3
              exact .inr (.inr (.inl ⟨k3, c.1, c.2, c2, c3⟩))
            · exact absurd h (by decide)
          · rename_i c2
            exact absurd h c2
      · split at h
        · rename_i k4
          split at h
          · exact absurd h (by decide)
          · rename_i c
            simp only [not_or, Classical.not_not] at c
            exact .inr (.inr (.inr ⟨k4, c.1, c.2.1, c.2.2.1, by omega, by omega⟩))
        · exact absurd h (by decide)
end Go.Proofs.Ytclhjcbnpdlgbaa
/- The document writes an operation; what was written is read again. -/
namespace Go.Proofs.Ytclhjcbnpdlgbaa
open Go Go.Lift
set_option maxHeartbeats 4000000
set_option linter.unusedSimpArgs false
set_option linter.unusedVariables false
attribute [local irreducible] WK IL IP IG IW DW

end Go.Proofs.Ytclhjcbnpdlgbaa
/- What was written is read again, behind whatever stands ahead. -/
namespace Go.Proofs.Ytclhjcbnpdlgbaa
open Go Go.Lift
set_option maxHeartbeats 4000000
set_option linter.unusedSimpArgs false
set_option linter.unusedVariables false
attribute [local irreducible] WK IL IP IG IW DW

end Go.Proofs.Ytclhjcbnpdlgbaa
/- package copyistmade: the program's things as the document has them. -/
namespace Go.Proofs.Ytclhjcbnpdlgbaa
open Go Go.Lift
set_option maxHeartbeats 4000000
set_option linter.unusedSimpArgs false
set_option linter.unusedVariables false
attribute [local irreducible] WK IL IP IG IW DW

def opC (v : OpV) : List IV := opL v.k v.r v.n v.m v.t (.tr v.s.length (encs spC v.s)) v.q
instance : CellsT opC 7 := ⟨fun _ => rfl, fun _ => rfl⟩
theorem opC_length (a : OpV) : (opC a).length = 7 := rfl
abbrev txL (r s c u : Int) (x : IV) : List IV := [.v (.int .u16 r), .v (.int .u32 s), .v (.int .u64 c), .v (.int .i64 u), x]
theorem madeSpans_call (l : List Sp) (nn : Nat) (hnn : nn = l.length) (hl : l.length * 16 ≤ 140737488355328) : SCall Try.prog 75 [.tr nn (encs spC l)] (.own 136 l.length true (encs spC l)) [.tr nn (encs spC l)] := by
  subst hnn
  refine SCall.of_body' (TT := TT) (fun _ => false) [false] ttok Try.func75 rfl (Nat.le_of_ble_eq_true rfl) rfl fun fx hfx => WK.top ?_
  simp only [impl, imp, argT, List.append_nil, List.map_nil, List.nil_append, show Try.f75.ntmps = 22 from rfl, Nat.zero_add, Nat.reduceAdd]
  repeat' (first | refine WK.seq ?_ | refine WK.reg ?_ | refine IL.nil ?_ | refine WK.skip ?_ | refine WK.block ?_ | refine WK.exit_here ?_ | refine WK.e1 ?_ | refine WK.e2 ?_ | (with_reducible refine IL.wr ?_ ?_; focus exact cW) | refine IL.sg ttok ?_ | (refine WK.cn (fun h => ?_) (fun h => ?_); all_goals first | (simp only [reduceCtorEq] at h; done) | (simp only [hsA, hsD, hsE, ne_eq] at h; first | done | (exfalso; omega; done) | skip) | skip))
  refine WK.forS l.length (fun k => True) (fun k => ⟨22, [(3, .sl 0 0 0 (l.take k).length), (6, .tr l.length (encs spC l)), (7, .v (.int .i64 l.length)), (8, .v (.int .i64 k))], [some ⟨true, 136, (l.take k).length, true, encs spC (l.take k), 0, false⟩]⟩) ⟨trivial, ?_⟩ (fun k hk ho => ?_) (fun ho => ?_)
  · exact Weak.renS [1] hfx rfl ⟨rfl, rfl, rfl, rfl, trivial⟩ ⟨⟨_, rfl, rfl⟩, trivial⟩ rfl
  · have hx : l[k]? = some l[k] := List.getElem?_eq_getElem hk
    have hle : k * 3 + 3 ≤ l.length * 3 := by omega
    have hat : ((encs spC l).drop (k * 3)).take 3 = [.v (.int .u16 l[k].1), .v (.int .u32 l[k].2.1), .v (.int .i64 l[k].2.2)] := encs_at spC_length hx
    have hne : encs spC l ≠ [] := encs_ne spC_length (by decide) hx
    have htl : (l.take k).length = k := by rw [List.length_take]; omega
    have htk : l.take (k + 1) = l.take k ++ [l[k]] := by rw [List.take_add_one, hx]; rfl
    have hln : (l.take (k + 1)).length = (l.take k).length + 1 := by rw [List.length_take, List.length_take]; omega
    have hcs : encs spC (l.take k) ++ [.v (.int .u16 l[k].1), .v (.int .u32 l[k].2.1), .v (.int .i64 l[k].2.2)] = encs spC (l.take (k + 1)) := by rw [htk, ← encs_snoc]; rfl
    have FX := And.intro hat hle
    repeat' (first | refine WK.seq ?_ | refine WK.reg ?_ | refine IL.nil ?_ | refine WK.skip ?_ | refine WK.block ?_ | refine WK.exit_here ?_ | refine WK.e1 ?_ | refine WK.e2 ?_ | (with_reducible refine IL.wr ?_ ?_; focus exact cW) | refine IL.sgF ttok ?_ | (refine WK.cn (fun h => ?_) (fun h => ?_); all_goals first | (simp only [reduceCtorEq] at h; done) | (simp only [hsA, hsD, hsE, ne_eq] at h; first | done | (exfalso; omega; done) | skip) | skip))
    all_goals first | (refine Weak.renS [0] hfx rfl ?_ ?_ rfl <;> (simp only [go_sem, reduceIte, exists_eq_left', exists_eq_left, Blk.mk.injEq, hln, hcs] <;> (try and_intros) <;> first | rfl | omega)) | (refine ⟨?_, ?_⟩; rotate_left 1; (focus (refine Weak.renS [0] hfx rfl ?_ ?_ rfl <;> (simp only [go_sem, reduceIte, exists_eq_left', exists_eq_left, Blk.mk.injEq, hln, hcs] <;> (try and_intros) <;> first | rfl | omega))); first | trivial | assumption | omega | grind) | grind
  · repeat' (first | refine WK.seq ?_ | refine WK.reg ?_ | refine IL.nil ?_ | refine WK.skip ?_ | refine WK.block ?_ | refine WK.exit_here ?_ | refine WK.e1 ?_ | refine WK.e2 ?_ | (with_reducible refine IL.wr ?_ ?_; focus exact cW) | refine IL.sg ttok ?_ | (refine WK.cn (fun h => ?_) (fun h => ?_); all_goals first | (simp only [reduceCtorEq] at h; done) | (simp only [hsA, hsD, hsE, ne_eq] at h; first | done | (exfalso; omega; done) | skip) | skip))
    all_goals try ((first | refine WK.ret ⟨.inr rfl, ?_⟩ | refine ⟨.inl rfl, ?_⟩ | refine ⟨.inl trivial, ?_⟩); refine Fin.o ?_ ?_ (h1 := by first | rfl | (simp only [go_sem, show Try.f75.results.toList = [.tmp 2] from rfl, reduceIte] <;> rfl)); rotate_left 1; (focus (first | rfl | skip)); all_goals try with_reducible rfl)
theorem madeOp_call (k r n m q : Int) (t : List UInt8) (s : List Sp) (nn : Nat) (hnn : nn = s.length) (hl : s.length * 16 ≤ 140737488355328) : SCall Try.prog 63 [.agg (opL k r n m t (.tr nn (encs spC s)) q)] (.ago (opL k r n m t (.own 136 s.length true (encs spC s)) q)) [.agg (opL k r n m t (.tr nn (encs spC s)) q)] := by
  subst hnn
  refine SCall.of_body' (TT := TT) (fun _ => false) [false] ttok Try.func63 rfl (Nat.le_of_ble_eq_true rfl) rfl fun fx hfx => WK.top ?_
  simp only [impl, imp, argT, List.append_nil, List.map_nil, List.nil_append, show Try.f63.ntmps = 17 from rfl, Nat.zero_add, Nat.reduceAdd]
  repeat' (first | refine WK.seq ?_ | refine WK.reg ?_ | refine IL.nil ?_ | refine WK.drawnS (id := 1) mixed [] [10, 14] [0, 0, 0, 0, 0, 0, 0, 0, 0, 0, 0, 0, 0, 1, 1] [1, 1, 1, 1, 1, 1, 1, 1, 0, 0, 0, 1, 1, 1, 1] (by decide +kernel) ?_ | refine DW.nil ?_ | (with_reducible refine IL.wr ?_ ?_; focus exact cW) | (with_reducible refine DW.wr ?_ ?_; focus exact cW) | refine IL.sg ttok ?_ | refine DW.re ttok ?_ | refine DW.rm ttok ?_ | refine DW.bk ttok ?_ | refine DW.cS ttok ent75 [.bor] true ?_ (hS := by refine madeSpans_call _ _ ?_ ?_ <;> exact cO))
  all_goals try ((first | refine WK.ret ⟨.inr rfl, ?_⟩ | refine ⟨.inl rfl, ?_⟩ | refine ⟨.inl trivial, ?_⟩); refine Fin.o ?_ ?_ (h1 := by first | rfl | (simp only [go_sem, show Try.f63.results.toList = [.cell 2 120] from rfl, reduceIte] <;> rfl)); rotate_left 1; (focus (first | rfl | skip)); all_goals try with_reducible rfl)
  all_goals rfl
theorem madeOp_frz (k r n m q : Int) (t : List UInt8) (s : List Sp) (nn : Nat) (hnn : nn = s.length) (hl : s.length * 16 ≤ 140737488355328) : SCall Try.prog 63 [.agg (opL k r n m t (.tr nn (encs spC s)) q)] (.agg (opL k r n m t (.tr s.length (encs spC s)) q)) [.agg (opL k r n m t (.tr nn (encs spC s)) q)] := (madeOp_call k r n m q t s nn hnn hl).frz rfl
theorem sameOp_call (k r n m q : Int) (t : List UInt8) (s : List Sp) (nn n2 : Nat) (hnn : nn = s.length) (hn2 : n2 = s.length) (hl : s.length * 16 ≤ 140737488355328) : SCall Try.prog 70 [.agg (opL k r n m t (.tr nn (encs spC s)) q), .agg (opL k r n m t (.tr n2 (encs spC s)) q)] (.v (.bool true)) [.agg (opL k r n m t (.tr nn (encs spC s)) q), .agg (opL k r n m t (.tr n2 (encs spC s)) q)] := by
  subst hnn; subst hn2
  refine SCall.of_body' (TT := TT) (fun _ => false) [false, false] ttok Try.func70 rfl (Nat.le_of_ble_eq_true rfl) rfl fun fx hfx => WK.top ?_
  simp only [impl, imp, argT, List.append_nil, List.map_nil, List.nil_append, show Try.f70.ntmps = 66 from rfl, Nat.zero_add, Nat.reduceAdd]
  repeat' (first | refine WK.seq ?_ | refine WK.reg ?_ | refine IL.nil ?_ | refine WK.skip ?_ | refine WK.block ?_ | refine WK.exit_here ?_ | refine WK.e1 ?_ | refine WK.e2 ?_ | refine WK.drawnS (id := 6) mixed [] [] [] [] (by decide +kernel) ?_ | refine DW.nil ?_ | (with_reducible refine IL.wr ?_ ?_; focus exact cW) | (with_reducible refine DW.wr ?_ ?_; focus exact cW) | refine IL.sg ttok ?_ | refine IL.nn ?_ | refine DW.re ttok ?_ | refine DW.rm ttok ?_ | ((first | ((first | refine IL.ag (fun h => ?_) (fun h => ?_) | refine IL.ap (fun h => ?_) (fun h => ?_)); (fail_if_success (focus (simp only [reduceCtorEq] at h)))) | refine WK.cn (fun h => ?_) (fun h => ?_)); all_goals first | (simp only [reduceCtorEq] at h; done) | (simp only [hsA, hsD, hsE, ne_eq] at h; first | done | (exfalso; omega; done) | skip) | skip))
  refine WK.forS s.length (fun k' => True) (fun k' => ⟨66, [(2, .ptr 0 0 0), (3, .ptr 1 0 0), (50, .v (.int .i64 s.length)), (51, .v (.int .i64 k'))], [some ⟨false, 0, 1, false, opL k r n m t (.tr s.length (encs spC s)) q, 0, false⟩, some ⟨false, 0, 1, false, opL k r n m t (.tr s.length (encs spC s)) q, 0, false⟩]⟩) ⟨trivial, ?_⟩ (fun k' hk ho => ?_) (fun ho => ?_)
  · (refine Weak.renS [0, 1] hfx rfl ?_ ?_ rfl <;> (simp only [go_sem, reduceIte, exists_eq_left', exists_eq_left, Blk.mk.injEq, opL] <;> (try and_intros) <;> first | rfl | omega))
  · have hx : s[k']? = some s[k'] := List.getElem?_eq_getElem hk
    have hle : k' * 3 + 3 ≤ s.length * 3 := by omega
    have hat : ((encs spC s).drop (k' * 3)).take 3 = [.v (.int .u16 s[k'].1), .v (.int .u32 s[k'].2.1), .v (.int .i64 s[k'].2.2)] := encs_at spC_length hx
    have hne : encs spC s ≠ [] := encs_ne spC_length (by decide) hx
    have FX := And.intro hat hle
    repeat' (first | refine WK.seq ?_ | refine WK.reg ?_ | refine IL.nil ?_ | refine WK.skip ?_ | refine WK.block ?_ | refine WK.exit_here ?_ | refine WK.e1 ?_ | refine WK.e2 ?_ | refine WK.drawnS (id := 6) mixed [] [] [] [] (by decide +kernel) ?_ | refine DW.nil ?_ | (with_reducible refine IL.wr ?_ ?_; focus exact cW) | (with_reducible refine DW.wr ?_ ?_; focus exact cW) | refine IL.sgF ttok ?_ | refine IL.nn ?_ | refine DW.reF ttok ?_ | refine DW.rmF ttok ?_ | ((first | ((first | refine IL.ag (fun h => ?_) (fun h => ?_) | refine IL.ap (fun h => ?_) (fun h => ?_)); (fail_if_success (focus (simp only [reduceCtorEq] at h)))) | refine WK.cn (fun h => ?_) (fun h => ?_)); all_goals first | (simp only [reduceCtorEq] at h; done) | (simp only [hsA, hsD, hsE, ne_eq] at h; first | done | (exfalso; omega; done) | skip) | skip))
    all_goals try ((first | refine WK.ret ⟨.inr rfl, ?_⟩ | refine ⟨.inl rfl, ?_⟩ | refine ⟨.inl trivial, ?_⟩); refine Fin.o ?_ ?_ (h1 := by first | rfl | (simp only [go_sem, show Try.f70.results.toList = [.tmp 4] from rfl, reduceIte] <;> rfl)); rotate_left 1; (focus (first | rfl | skip)); all_goals try with_reducible rfl)
    all_goals first | (refine Weak.renS [0, 1] hfx rfl ?_ ?_ rfl <;> (simp only [go_sem, reduceIte, exists_eq_left', exists_eq_left, Blk.mk.injEq, opL] <;> (try and_intros) <;> first | rfl | omega)) | (refine ⟨?_, ?_⟩; rotate_left 1; (focus (refine Weak.renS [0, 1] hfx rfl ?_ ?_ rfl <;> (simp only [go_sem, reduceIte, exists_eq_left', exists_eq_left, Blk.mk.injEq, opL] <;> (try and_intros) <;> first | rfl | omega))); first | trivial | assumption | omega | grind) | grind
  · repeat' (first | refine WK.seq ?_ | refine WK.reg ?_ | refine IL.nil ?_ | refine WK.skip ?_ | refine WK.block ?_ | refine WK.exit_here ?_ | refine WK.e1 ?_ | refine WK.e2 ?_ | refine WK.drawnS (id := 6) mixed [] [] [] [] (by decide +kernel) ?_ | refine DW.nil ?_ | (with_reducible refine IL.wr ?_ ?_; focus exact cW) | (with_reducible refine DW.wr ?_ ?_; focus exact cW) | refine IL.sg ttok ?_ | refine IL.nn ?_ | refine DW.re ttok ?_ | refine DW.rm ttok ?_ | ((first | ((first | refine IL.ag (fun h => ?_) (fun h => ?_) | refine IL.ap (fun h => ?_) (fun h => ?_)); (fail_if_success (focus (simp only [reduceCtorEq] at h)))) | refine WK.cn (fun h => ?_) (fun h => ?_)); all_goals first | (simp only [reduceCtorEq] at h; done) | (simp only [hsA, hsD, hsE, ne_eq] at h; first | done | (exfalso; omega; done) | skip) | skip))
    all_goals try ((first | refine WK.ret ⟨.inr rfl, ?_⟩ | refine ⟨.inl rfl, ?_⟩ | refine ⟨.inl trivial, ?_⟩); refine Fin.o ?_ ?_ (h1 := by first | rfl | (simp only [go_sem, show Try.f70.results.toList = [.tmp 4] from rfl, reduceIte] <;> rfl)); rotate_left 1; (focus (first | rfl | skip)); all_goals try with_reducible rfl)
theorem madeTxn_call (r s c u : Int) (ops : List OpV) (nn : Nat) (hnn : nn = ops.length) (hl : ops.length * 72 ≤ 140737488355328) (hs : ∀ o ∈ ops, o.s.length * 16 ≤ 140737488355328) : SCall Try.prog 39 [.agg (txL r s c u (.tr nn (encs opC ops)))] (.ago (txL r s c u (.own 120 ops.length false (encs opC ops)))) [.agg (txL r s c u (.tr nn (encs opC ops)))] := by
  subst hnn
  refine SCall.of_body' (TT := TT) (fun _ => false) [false] ttok Try.func39 rfl (Nat.le_of_ble_eq_true rfl) rfl fun fx hfx => WK.top ?_
  simp only [impl, imp, argT, List.append_nil, List.map_nil, List.nil_append, show Try.f39.ntmps = 31 from rfl, Nat.zero_add, Nat.reduceAdd]
  repeat' (first | (refine WK.empRow (σ' := ?_) ttok 4 4 120 rfl rfl rfl rfl ?_ ?_; rotate_left 1; (focus (simp only [go_sem, nilRow, List.set_cons_zero, List.set_cons_succ, List.cons_append, List.nil_append, reduceIte]; rfl))) | refine WK.seq ?_ | refine WK.reg ?_ | refine IL.nil ?_ | refine WK.skip ?_ | refine WK.block ?_ | refine WK.exit_here ?_ | refine WK.e1 ?_ | refine WK.e2 ?_ | refine WK.drawnS (id := 5) mixed [] [3, 4, 5, 7] [0, 0, 0, 0, 1, 2, 3, 3] [2, 2, 0, 0, 1, 2, 3, 3] (by decide +kernel) ?_ | refine DW.nil ?_ | (with_reducible refine IL.wr ?_ ?_; focus exact cW) | (with_reducible refine DW.wr ?_ ?_; focus exact cW) | refine IL.sg ttok ?_ | refine DW.re ttok ?_ | refine DW.rm ttok ?_ | refine DW.bk ttok ?_ | refine DW.cS ttok ent63 [.bor] false ?_ (hS := by refine madeOp_frz _ _ _ _ _ _ _ _ ?_ ?_ <;> exact cO) | (refine WK.cn (fun h => ?_) (fun h => ?_); all_goals first | (simp only [reduceCtorEq] at h; done) | (simp only [hsA, hsD, hsE, ne_eq] at h; first | done | (exfalso; omega; done) | skip) | skip))
  refine WK.forS ops.length (fun k' => True) (fun k' => ⟨31, [(2, .ptr 1 0 0), (3, .ptr 2 0 0), (16, .tr ops.length (encs opC ops)), (17, .v (.int .i64 ops.length)), (18, .v (.int .i64 k'))], [some ⟨true, 120, 0, false, [], 0, false⟩, some ⟨false, 0, 1, false, txL 0 0 0 0 (.sl 0 0 0 0), 0, false⟩, some ⟨false, 0, 1, false, txL r s c u (.sl 3 0 0 (ops.take k').length), 0, false⟩, some ⟨true, 120, (ops.take k').length, false, encs opC (ops.take k'), 0, false⟩]⟩) ⟨trivial, ?_⟩ (fun k' hk ho => ?_) (fun ho => ?_)
  · (refine Weak.renS [1, 2, 4, 5] hfx rfl ?_ ?_ rfl <;> (simp only [go_sem, reduceIte, exists_eq_left', exists_eq_left, Blk.mk.injEq, txL, List.take_zero, List.length_nil, encs_nil] <;> (try and_intros) <;> first | rfl | omega))
  · have hx : ops[k']? = some ops[k'] := List.getElem?_eq_getElem hk
    have hsk := hs _ (List.getElem_mem hk)
    have htk : ops.take (k' + 1) = ops.take k' ++ [ops[k']] := by rw [List.take_add_one, hx]; rfl
    have hln : (ops.take (k' + 1)).length = (ops.take k').length + 1 := by rw [List.length_take, List.length_take]; omega
    have htl : (ops.take k').length = k' := by rw [List.length_take]; omega
    have hle : k' * 7 + 7 ≤ ops.length * 7 := by omega
    have hne : encs opC ops ≠ [] := encs_ne opC_length (by decide) hx
    have hcs : encs opC (ops.take k') ++ opC ops[k'] = encs opC (ops.take (k' + 1)) := by rw [htk, ← encs_snoc]
    generalize ops[k'] = o at *
    obtain ⟨ok, or, on, om, ot, os, oq⟩ := o
    have hat : ((encs opC ops).drop (k' * 7)).take 7 = [.v (.int .i64 ok), .v (.int .u16 or), .v (.int .u32 on), .v (.int .u32 om), .v (.string ⟨ot.toArray⟩), .tr os.length (encs spC os), .v (.int .u32 oq)] := encs_at opC_length hx
    rw [show opC ⟨ok, or, on, om, ot, os, oq⟩ = [.v (.int .i64 ok), .v (.int .u16 or), .v (.int .u32 on), .v (.int .u32 om), .v (.string ⟨ot.toArray⟩), .tr os.length (encs spC os), .v (.int .u32 oq)] from rfl] at hcs
    simp only at hsk
    have FX := And.intro hat hle
    repeat' (first | refine WK.seq ?_ | refine WK.reg ?_ | refine IL.nil ?_ | refine WK.skip ?_ | refine WK.block ?_ | refine WK.exit_here ?_ | refine WK.e1 ?_ | refine WK.e2 ?_ | refine WK.drawnS (id := 5) mixed [] [3, 4, 5, 7] [0, 0, 0, 0, 1, 2, 3, 3] [2, 2, 0, 0, 1, 2, 3, 3] (by decide +kernel) ?_ | refine DW.nil ?_ | (with_reducible refine IL.wr ?_ ?_; focus exact cW) | (with_reducible refine DW.wr ?_ ?_; focus exact cW) | refine IL.sgF ttok ?_ | refine DW.reF ttok ?_ | refine DW.rmF ttok ?_ | refine DW.bkF ttok ?_ | refine DW.cSF ttok ent63 [.bor] false ?_ (hS := by refine madeOp_frz _ _ _ _ _ _ _ _ ?_ ?_ <;> exact cO) | (refine WK.cn (fun h => ?_) (fun h => ?_); all_goals first | (simp only [reduceCtorEq] at h; done) | (simp only [hsA, hsD, hsE, ne_eq] at h; first | done | (exfalso; omega; done) | skip) | skip))
    all_goals first | (refine Weak.renS [0, 1, 2, 3] hfx rfl ?_ ?_ rfl <;> (simp only [go_sem, reduceIte, exists_eq_left', exists_eq_left, Blk.mk.injEq, hln, hcs, txL] <;> (try and_intros) <;> first | rfl | omega)) | (refine ⟨?_, ?_⟩; rotate_left 1; (focus (refine Weak.renS [0, 1, 2, 3] hfx rfl ?_ ?_ rfl <;> (simp only [go_sem, reduceIte, exists_eq_left', exists_eq_left, Blk.mk.injEq, hln, hcs, txL] <;> (try and_intros) <;> first | rfl | omega))); first | trivial | assumption | omega | grind) | grind
  · repeat' (first | refine WK.seq ?_ | refine WK.reg ?_ | refine IL.nil ?_ | refine WK.skip ?_ | refine WK.block ?_ | refine WK.exit_here ?_ | refine WK.e1 ?_ | refine WK.e2 ?_ | refine WK.drawnS (id := 5) mixed [] [3, 4, 5, 7] [0, 0, 0, 0, 1, 2, 3, 3] [2, 2, 0, 0, 1, 2, 3, 3] (by decide +kernel) ?_ | refine DW.nil ?_ | (with_reducible refine IL.wr ?_ ?_; focus exact cW) | (with_reducible refine DW.wr ?_ ?_; focus exact cW) | refine IL.sg ttok ?_ | refine DW.re ttok ?_ | refine DW.rm ttok ?_ | refine DW.bk ttok ?_ | refine DW.cS ttok ent63 [.bor] false ?_ (hS := by refine madeOp_frz _ _ _ _ _ _ _ _ ?_ ?_ <;> exact cO) | (refine WK.cn (fun h => ?_) (fun h => ?_); all_goals first | (simp only [reduceCtorEq] at h; done) | (simp only [hsA, hsD, hsE, ne_eq] at h; first | done | (exfalso; omega; done) | skip) | skip))
    all_goals try ((first | refine WK.ret ⟨.inr rfl, ?_⟩ | refine ⟨.inl rfl, ?_⟩ | refine ⟨.inl trivial, ?_⟩); refine Fin.o ?_ ?_ (h1 := by first | rfl | (simp only [go_sem, show Try.f39.results.toList = [.cell 2 47] from rfl, reduceIte] <;> rfl)); rotate_left 1; (focus (first | rfl | skip)); all_goals try with_reducible rfl)
theorem sameTxn_call (r s c u : Int) (ops : List OpV) (nn n2 : Nat) (hnn : nn = ops.length) (hn2 : n2 = ops.length) (hl : ops.length * 72 ≤ 140737488355328) (hs : ∀ o ∈ ops, o.s.length * 16 ≤ 140737488355328) : SCall Try.prog 51 [.agg (txL r s c u (.tr nn (encs opC ops))), .agg (txL r s c u (.tr n2 (encs opC ops)))] (.v (.bool true)) [.agg (txL r s c u (.tr nn (encs opC ops))), .agg (txL r s c u (.tr n2 (encs opC ops)))] := by
  subst hnn; subst hn2
  refine SCall.of_body' (TT := TT) (fun _ => false) [false, false] ttok Try.func51 rfl (Nat.le_of_ble_eq_true rfl) rfl fun fx hfx => WK.top ?_
  simp only [impl, imp, argT, List.append_nil, List.map_nil, List.nil_append, show Try.f51.ntmps = 60 from rfl, Nat.zero_add, Nat.reduceAdd]
  repeat' (first | refine WK.seq ?_ | refine WK.reg ?_ | refine IL.nil ?_ | refine WK.skip ?_ | refine WK.block ?_ | refine WK.exit_here ?_ | refine WK.e1 ?_ | refine WK.e2 ?_ | refine WK.drawnS (id := 6) mixed [] [10] [0, 0, 0, 0, 0, 0, 0, 0, 0, 0, 0, 1] [0, 0, 0, 0, 0, 0, 0, 0, 0, 0, 0, 1] (by decide +kernel) ?_ | refine DW.nil ?_ | (with_reducible refine IL.wr ?_ ?_; focus exact cW) | (with_reducible refine DW.wr ?_ ?_; focus exact cW) | refine IL.sg ttok ?_ | refine IL.nn ?_ | refine DW.re ttok ?_ | refine DW.rm ttok ?_ | refine DW.cS ttok ent70 [.bor, .bor] true ?_ (hS := by refine sameOp_call _ _ _ _ _ _ _ _ _ ?_ ?_ ?_ <;> exact cO) | ((first | ((first | refine IL.ag (fun h => ?_) (fun h => ?_) | refine IL.ap (fun h => ?_) (fun h => ?_)); (fail_if_success (focus (simp only [reduceCtorEq] at h)))) | refine WK.cn (fun h => ?_) (fun h => ?_)); all_goals first | (simp only [reduceCtorEq] at h; done) | (simp only [hsA, hsD, hsE, ne_eq] at h; first | done | (exfalso; omega; done) | skip) | skip))
  refine WK.forS ops.length (fun k' => True) (fun k' => ⟨60, [(2, .ptr 0 0 0), (3, .ptr 1 0 0), (43, .v (.int .i64 ops.length)), (44, .v (.int .i64 k'))], [some ⟨false, 0, 1, false, txL r s c u (.tr ops.length (encs opC ops)), 0, false⟩, some ⟨false, 0, 1, false, txL r s c u (.tr ops.length (encs opC ops)), 0, false⟩]⟩) ⟨trivial, ?_⟩ (fun k' hk ho => ?_) (fun ho => ?_)
  · (refine Weak.renS [0, 1] hfx rfl ?_ ?_ rfl <;> (simp only [go_sem, reduceIte, exists_eq_left', exists_eq_left, Blk.mk.injEq, txL] <;> (try and_intros) <;> first | rfl | omega))
  · have hx : ops[k']? = some ops[k'] := List.getElem?_eq_getElem hk
    have hsk := hs _ (List.getElem_mem hk)
    have hle : k' * 7 + 7 ≤ ops.length * 7 := by omega
    have hne : encs opC ops ≠ [] := encs_ne opC_length (by decide) hx
    generalize ops[k'] = o at *
    obtain ⟨ok, or, on, om, ot, os, oq⟩ := o
    have hat : ((encs opC ops).drop (k' * 7)).take 7 = [.v (.int .i64 ok), .v (.int .u16 or), .v (.int .u32 on), .v (.int .u32 om), .v (.string ⟨ot.toArray⟩), .tr os.length (encs spC os), .v (.int .u32 oq)] := encs_at opC_length hx
    simp only at hsk
    have FX := And.intro hat hle
    repeat' (first | refine WK.seq ?_ | refine WK.reg ?_ | refine IL.nil ?_ | refine WK.skip ?_ | refine WK.block ?_ | refine WK.exit_here ?_ | refine WK.e1 ?_ | refine WK.e2 ?_ | refine WK.drawnS (id := 6) mixed [] [10] [0, 0, 0, 0, 0, 0, 0, 0, 0, 0, 0, 1] [0, 0, 0, 0, 0, 0, 0, 0, 0, 0, 0, 1] (by decide +kernel) ?_ | refine DW.nil ?_ | (with_reducible refine IL.wr ?_ ?_; focus exact cW) | (with_reducible refine DW.wr ?_ ?_; focus exact cW) | refine IL.sgF ttok ?_ | refine IL.nn ?_ | refine DW.reF ttok ?_ | refine DW.rmF ttok ?_ | refine DW.cSF ttok ent70 [.bor, .bor] true ?_ (hS := by refine sameOp_call _ _ _ _ _ _ _ _ _ ?_ ?_ ?_ <;> exact cO) | ((first | ((first | refine IL.ag (fun h => ?_) (fun h => ?_) | refine IL.ap (fun h => ?_) (fun h => ?_)); (fail_if_success (focus (simp only [reduceCtorEq] at h)))) | refine WK.cn (fun h => ?_) (fun h => ?_)); all_goals first | (simp only [reduceCtorEq] at h; done) | (simp only [hsA, hsD, hsE, ne_eq] at h; first | done | (exfalso; omega; done) | skip) | skip))
    all_goals try ((first | refine WK.ret ⟨.inr rfl, ?_⟩ | refine ⟨.inl rfl, ?_⟩ | refine ⟨.inl trivial, ?_⟩); refine Fin.o ?_ ?_ (h1 := by first | rfl | (simp only [go_sem, show Try.f51.results.toList = [.tmp 4] from rfl, reduceIte] <;> rfl)); rotate_left 1; (focus (first | rfl | skip)); all_goals try with_reducible rfl)
    all_goals first | (refine Weak.renS [0, 1] hfx rfl ?_ ?_ rfl <;> (simp only [go_sem, reduceIte, exists_eq_left', exists_eq_left, Blk.mk.injEq, txL] <;> (try and_intros) <;> first | rfl | omega)) | (refine ⟨?_, ?_⟩; rotate_left 1; (focus (refine Weak.renS [0, 1] hfx rfl ?_ ?_ rfl <;> (simp only [go_sem, reduceIte, exists_eq_left', exists_eq_left, Blk.mk.injEq, txL] <;> (try and_intros) <;> first | rfl | omega))); first | trivial | assumption | omega | grind) | grind
  · repeat' (first | refine WK.seq ?_ | refine WK.reg ?_ | refine IL.nil ?_ | refine WK.skip ?_ | refine WK.block ?_ | refine WK.exit_here ?_ | refine WK.e1 ?_ | refine WK.e2 ?_ | refine WK.drawnS (id := 6) mixed [] [10] [0, 0, 0, 0, 0, 0, 0, 0, 0, 0, 0, 1] [0, 0, 0, 0, 0, 0, 0, 0, 0, 0, 0, 1] (by decide +kernel) ?_ | refine DW.nil ?_ | (with_reducible refine IL.wr ?_ ?_; focus exact cW) | (with_reducible refine DW.wr ?_ ?_; focus exact cW) | refine IL.sg ttok ?_ | refine IL.nn ?_ | refine DW.re ttok ?_ | refine DW.rm ttok ?_ | refine DW.cS ttok ent70 [.bor, .bor] true ?_ (hS := by refine sameOp_call _ _ _ _ _ _ _ _ _ ?_ ?_ ?_ <;> exact cO) | ((first | ((first | refine IL.ag (fun h => ?_) (fun h => ?_) | refine IL.ap (fun h => ?_) (fun h => ?_)); (fail_if_success (focus (simp only [reduceCtorEq] at h)))) | refine WK.cn (fun h => ?_) (fun h => ?_)); all_goals first | (simp only [reduceCtorEq] at h; done) | (simp only [hsA, hsD, hsE, ne_eq] at h; first | done | (exfalso; omega; done) | skip) | skip))
    all_goals try ((first | refine WK.ret ⟨.inr rfl, ?_⟩ | refine ⟨.inl rfl, ?_⟩ | refine ⟨.inl trivial, ?_⟩); refine Fin.o ?_ ?_ (h1 := by first | rfl | (simp only [go_sem, show Try.f51.results.toList = [.tmp 4] from rfl, reduceIte] <;> rfl)); rotate_left 1; (focus (first | rfl | skip)); all_goals try with_reducible rfl)
end Go.Proofs.Ytclhjcbnpdlgbaa
/- A transaction written, by the program and by the document. -/
namespace Go.Proofs.Ytclhjcbnpdlgbaa
open Go Go.Lift
set_option maxHeartbeats 4000000
set_option linter.unusedSimpArgs false
set_option linter.unusedVariables false
attribute [local irreducible] WK IL IP IG IW DW

end Go.Proofs.Ytclhjcbnpdlgbaa
/- Small transactions. -/
namespace Go.Proofs.Ytclhjcbnpdlgbaa
open Go Go.Lift
set_option maxHeartbeats 4000000
set_option linter.unusedSimpArgs false
set_option linter.unusedVariables false
attribute [local irreducible] WK IL IP IG IW DW

def smallO (o : OpV) : Prop := o.t.length ≤ 300 ∧ o.s.length ≤ 60
def smallT (ops : List OpV) : Prop := ops.length ≤ 40 ∧ ∀ o ∈ ops, smallO o
open Classical in
theorem small_call (r s c u : Int) (ops : List OpV) (nn : Nat) (hnn : nn = ops.length) (hl : ops.length ≤ 9223372036854775807) (ht : ∀ o ∈ ops, o.t.length ≤ 9223372036854775807 ∧ o.s.length ≤ 9223372036854775807) : SCall Try.prog 33 [.agg (txL r s c u (.tr nn (encs opC ops)))] (.v (.bool (decide (smallT ops)))) [.agg (txL r s c u (.tr nn (encs opC ops)))] := by
  subst hnn
  by_cases h40 : ops.length ≤ 40
  · refine SCall.of_body' (TT := TT) (fun _ => false) [false] ttok Try.func33 rfl (Nat.le_of_ble_eq_true rfl) rfl fun fx hfx => WK.top ?_
    simp only [impl, imp, argT, List.append_nil, List.map_nil, List.nil_append, show Try.f33.ntmps = 27 from rfl, Nat.zero_add, Nat.reduceAdd]
    repeat' (first | refine WK.seq ?_ | refine WK.reg ?_ | refine IL.nil ?_ | refine WK.skip ?_ | refine WK.block ?_ | refine WK.exit_here ?_ | refine WK.e1 ?_ | refine WK.e2 ?_ | (with_reducible refine IL.wr ?_ ?_; focus exact cW) | refine IL.sg ttok ?_ | refine IL.nn ?_ | ((first | ((first | refine IL.ag (fun h => ?_) (fun h => ?_) | refine IL.ap (fun h => ?_) (fun h => ?_)); (fail_if_success (focus (simp only [reduceCtorEq] at h)))) | refine WK.cn (fun h => ?_) (fun h => ?_)); all_goals first | (simp only [reduceCtorEq] at h; done) | (simp only [hsA, hsD, hsE, ne_eq] at h; first | done | (exfalso; omega; done) | skip) | skip))
    refine WK.forS ops.length (fun k => ∀ o ∈ ops.take k, smallO o) (fun k => ⟨27, [(10, .tr ops.length (encs opC ops)), (11, .v (.int .i64 ops.length)), (12, .v (.int .i64 k))], []⟩) ⟨by simp, ?_⟩ (fun k hk ho => ?_) (fun ho => ?_)
    · (refine Weak.renS [] hfx rfl ?_ ?_ rfl <;> (simp only [go_sem, reduceIte, exists_eq_left', exists_eq_left, Blk.mk.injEq, txL] <;> (try and_intros) <;> first | rfl | omega))
    · have hx : ops[k]? = some ops[k] := List.getElem?_eq_getElem hk
      have hmem := List.getElem_mem hk
      have htl := ht _ hmem
      have hle : k * 7 + 7 ≤ ops.length * 7 := by omega
      have hne : encs opC ops ≠ [] := encs_ne opC_length (by decide) hx
      have htk : ops.take (k + 1) = ops.take k ++ [ops[k]] := by rw [List.take_add_one, hx]; rfl
      generalize ops[k] = o at *
      obtain ⟨ok, or, on, om, ot, os, oq⟩ := o
      simp only at htl
      have hbad : ¬ (ot.length ≤ 300 ∧ os.length ≤ 60) → ¬ smallT ops := fun h hs => h (hs.2 _ hmem)
      have hgo : (ot.length ≤ 300 ∧ os.length ≤ 60) → ∀ o ∈ ops.take (k + 1), smallO o := fun h o ho2 => by
        rw [htk] at ho2
        rcases List.mem_append.1 ho2 with h2 | h2
        · exact ho o h2
        · simp only [List.mem_cons, List.not_mem_nil, or_false] at h2; subst h2; exact h
      have hat : ((encs opC ops).drop (k * 7)).take 7 = [.v (.int .i64 ok), .v (.int .u16 or), .v (.int .u32 on), .v (.int .u32 om), .v (.string ⟨ot.toArray⟩), .tr os.length (encs spC os), .v (.int .u32 oq)] := encs_at opC_length hx
      have FX := And.intro hat hle
      repeat' (first | refine WK.seq ?_ | refine WK.reg ?_ | refine IL.nil ?_ | refine WK.skip ?_ | refine WK.block ?_ | refine WK.exit_here ?_ | refine WK.e1 ?_ | refine WK.e2 ?_ | (with_reducible refine IL.wr ?_ ?_; focus exact cW) | refine IL.sgF ttok ?_ | refine IL.nn ?_ | ((first | ((first | refine IL.ag (fun h => ?_) (fun h => ?_) | refine IL.ap (fun h => ?_) (fun h => ?_)); (fail_if_success (focus (simp only [reduceCtorEq] at h)))) | refine WK.cn (fun h => ?_) (fun h => ?_)); all_goals first | (simp only [reduceCtorEq] at h; done) | (simp only [hsA, hsD, hsE, ne_eq] at h; first | done | (exfalso; omega; done) | skip) | skip))
      all_goals try ((first | refine WK.ret ⟨.inr rfl, ?_⟩ | refine ⟨.inl rfl, ?_⟩ | refine ⟨.inl trivial, ?_⟩); refine Fin.o ?_ ?_ (h1 := by first | rfl | (simp only [go_sem, show Try.f33.results.toList = [.tmp 2] from rfl, reduceIte] <;> rfl)); rotate_left 1; (focus (first | rfl | skip)); all_goals try with_reducible rfl)
      all_goals first | rw [decide_eq_false (hbad (by omega))] | (refine ⟨hgo (by omega), ?_⟩; (refine Weak.renS [] hfx rfl ?_ ?_ rfl <;> (simp only [go_sem, reduceIte, exists_eq_left', exists_eq_left, Blk.mk.injEq, txL] <;> (try and_intros) <;> first | rfl | omega)))
    · rw [List.take_length] at ho
      have hs : smallT ops := ⟨h40, ho⟩
      rw [decide_eq_true hs]
      repeat' (first | refine WK.seq ?_ | refine WK.reg ?_ | refine IL.nil ?_ | refine WK.skip ?_ | refine WK.block ?_ | refine WK.exit_here ?_ | refine WK.e1 ?_ | refine WK.e2 ?_ | (with_reducible refine IL.wr ?_ ?_; focus exact cW) | refine IL.sg ttok ?_ | refine IL.nn ?_ | ((first | ((first | refine IL.ag (fun h => ?_) (fun h => ?_) | refine IL.ap (fun h => ?_) (fun h => ?_)); (fail_if_success (focus (simp only [reduceCtorEq] at h)))) | refine WK.cn (fun h => ?_) (fun h => ?_)); all_goals first | (simp only [reduceCtorEq] at h; done) | (simp only [hsA, hsD, hsE, ne_eq] at h; first | done | (exfalso; omega; done) | skip) | skip))
      all_goals try ((first | refine WK.ret ⟨.inr rfl, ?_⟩ | refine ⟨.inl rfl, ?_⟩ | refine ⟨.inl trivial, ?_⟩); refine Fin.o ?_ ?_ (h1 := by first | rfl | (simp only [go_sem, show Try.f33.results.toList = [.tmp 2] from rfl, reduceIte] <;> rfl)); rotate_left 1; (focus (first | rfl | skip)); all_goals try with_reducible rfl)
  · have hs : ¬ smallT ops := fun h => h40 h.1
    rw [decide_eq_false hs]
    refine SCall.of_body' (TT := TT) (fun _ => false) [false] ttok Try.func33 rfl (Nat.le_of_ble_eq_true rfl) rfl fun fx hfx => WK.top ?_
    simp only [impl, imp, argT, List.append_nil, List.map_nil, List.nil_append, show Try.f33.ntmps = 27 from rfl, Nat.zero_add, Nat.reduceAdd]
    repeat' (first | refine WK.seq ?_ | refine WK.reg ?_ | refine IL.nil ?_ | refine WK.skip ?_ | refine WK.block ?_ | refine WK.exit_here ?_ | refine WK.e1 ?_ | refine WK.e2 ?_ | (with_reducible refine IL.wr ?_ ?_; focus exact cW) | refine IL.sg ttok ?_ | refine IL.nn ?_ | ((first | ((first | refine IL.ag (fun h => ?_) (fun h => ?_) | refine IL.ap (fun h => ?_) (fun h => ?_)); (fail_if_success (focus (simp only [reduceCtorEq] at h)))) | refine WK.cn (fun h => ?_) (fun h => ?_)); all_goals first | (simp only [reduceCtorEq] at h; done) | (simp only [hsA, hsD, hsE, ne_eq] at h; first | done | (exfalso; omega; done) | skip) | skip))
    all_goals try ((first | refine WK.ret ⟨.inr rfl, ?_⟩ | refine ⟨.inl rfl, ?_⟩ | refine ⟨.inl trivial, ?_⟩); refine Fin.o ?_ ?_ (h1 := by first | rfl | (simp only [go_sem, show Try.f33.results.toList = [.tmp 2] from rfl, reduceIte] <;> rfl)); rotate_left 1; (focus (first | rfl | skip)); all_goals try with_reducible rfl)
end Go.Proofs.Ytclhjcbnpdlgbaa
/- The document's Fit of a transaction. -/
namespace Go.Proofs.Ytclhjcbnpdlgbaa
open Go Go.Lift
set_option maxHeartbeats 4000000
set_option linter.unusedSimpArgs false
set_option linter.unusedVariables false
attribute [local irreducible] WK IL IP IG IW DW

noncomputable def fit9Go (s : Int) (len : Nat) : List OpV → Int → Int
  | [], _ => 0
  | o :: r, last =>
    if fit8 o.k o.r o.n o.m o.t o.s o.q = 0 then
      (if 3 < o.k ∧ (¬ len = 1 ∨ s ≤ o.q) then 11
       else if 0 < (atoms o.k o.t o.s : Int) ∧ 0 ≤ last ∧ ¬ o.m = last + 1 then 11
       else fit9Go s len r (if 0 < (atoms o.k o.t o.s : Int) then o.m + (atoms o.k o.t o.s : Int) - 1 else last))
    else fit8 o.k o.r o.n o.m o.t o.s o.q
noncomputable def fit9 (s c u : Int) (ops : List OpV) : Int :=
  if s < 1 ∨ 268435456 < s ∨ c < 1 ∨ 1099511627776 < c ∨ u < 0 ∨ 7 < u ∨ ops.length = 0 then 11 else if 16 < ops.length then 13 else fit9Go s ops.length ops (-1)
theorem fit9Go_ok (s : Int) (len : Nat) : ∀ (l : List OpV) (last : Int), fit9Go s len l last = 0 → ∀ o ∈ l, fit8 o.k o.r o.n o.m o.t o.s o.q = 0
  | [], _, _ => by simp
  | o :: r, last, h => by
    rw [fit9Go] at h
    split at h
    · rename_i h0
      split at h
      · exact absurd h (by decide)
      · split at h
        · exact absurd h (by decide)
        · intro x hx
          rcases List.mem_cons.1 hx with rfl | hx
          · exact h0
          · exact fit9Go_ok s len r _ h x hx
    · rename_i h0
      exact absurd h h0
theorem fit9_ok {s c u : Int} {ops : List OpV} (h : fit9 s c u ops = 0) : 1 ≤ s ∧ s ≤ 268435456 ∧ 1 ≤ c ∧ c ≤ 1099511627776 ∧ 0 ≤ u ∧ u ≤ 7 ∧ 1 ≤ ops.length ∧ ops.length ≤ 16 ∧ ∀ o ∈ ops, fit8 o.k o.r o.n o.m o.t o.s o.q = 0 := by
  unfold fit9 at h
  split at h
  · exact absurd h (by decide)
  · rename_i h1
    split at h
    · exact absurd h (by decide)
    · exact ⟨by omega, by omega, by omega, by omega, by omega, by omega, by omega, by omega, fit9Go_ok _ _ _ _ h⟩
theorem fit9_call (r s c u : Int) (ops : List OpV) (nn : Nat) (hnn : nn = ops.length) (hl : ops.length ≤ 40) (ho : ∀ o ∈ ops, o.t.length ≤ 1000 ∧ o.s.length ≤ 1024 ∧ 0 ≤ o.n ∧ 0 ≤ o.q ∧ 0 ≤ o.m ∧ o.m ≤ 4294967295) :
    SCall Try.prog 55 [.agg (txL r s c u (.tr nn (encs opC ops)))] (.v (.int .i64 (fit9 s c u ops))) [.agg (txL r s c u (.tr nn (encs opC ops)))] := by
  subst hnn
  unfold fit9
  by_cases hh : s < 1 ∨ 268435456 < s ∨ c < 1 ∨ 1099511627776 < c ∨ u < 0 ∨ 7 < u ∨ ops.length = 0
  · rw [if_pos hh]
    refine SCall.of_body' (TT := TT) (fun _ => false) [false] ttok Try.func55 rfl (Nat.le_of_ble_eq_true rfl) rfl fun fx hfx => WK.top ?_
    simp only [impl, imp, argT, List.append_nil, List.map_nil, List.nil_append, show Try.f55.ntmps = 103 from rfl, Nat.zero_add, Nat.reduceAdd]
    repeat' (first | refine WK.seq ?_ | refine WK.reg ?_ | refine IL.nil ?_ | refine WK.skip ?_ | refine WK.block ?_ | refine WK.exit_here ?_ | refine WK.e1 ?_ | refine WK.e2 ?_ | (with_reducible refine IL.wr ?_ ?_; focus exact cW) | refine IL.sg ttok ?_ | refine IL.nn ?_ | refine IL.cS ttok ent72 [.bor] true ?_ (hS := by refine fit8_call _ _ _ _ _ _ _ _ ?_ ?_ ?_ ?_ ?_ <;> exact cO) | ((first | ((first | refine IL.ag (fun h => ?_) (fun h => ?_) | refine IL.ap (fun h => ?_) (fun h => ?_)); (fail_if_success (focus (simp only [reduceCtorEq] at h)))) | refine WK.cn (fun h => ?_) (fun h => ?_)); all_goals first | (simp only [reduceCtorEq] at h; done) | (simp only [hsA, hsD, hsE, ne_eq] at h; first | done | (exfalso; omega; done) | skip) | skip))
    all_goals try ((first | refine WK.ret ⟨.inr rfl, ?_⟩ | refine ⟨.inl rfl, ?_⟩ | refine ⟨.inl trivial, ?_⟩); refine Fin.o ?_ ?_ (h1 := by first | rfl | (simp only [go_sem, show Try.f55.results.toList = [.tmp 2] from rfl, reduceIte] <;> rfl)); rotate_left 1; (focus (first | rfl | skip)); all_goals try with_reducible rfl)
  · rw [if_neg hh]
    by_cases h16 : 16 < ops.length
    · rw [if_pos h16]
      refine SCall.of_body' (TT := TT) (fun _ => false) [false] ttok Try.func55 rfl (Nat.le_of_ble_eq_true rfl) rfl fun fx hfx => WK.top ?_
      simp only [impl, imp, argT, List.append_nil, List.map_nil, List.nil_append, show Try.f55.ntmps = 103 from rfl, Nat.zero_add, Nat.reduceAdd]
      repeat' (first | refine WK.seq ?_ | refine WK.reg ?_ | refine IL.nil ?_ | refine WK.skip ?_ | refine WK.block ?_ | refine WK.exit_here ?_ | refine WK.e1 ?_ | refine WK.e2 ?_ | (with_reducible refine IL.wr ?_ ?_; focus exact cW) | refine IL.sg ttok ?_ | refine IL.nn ?_ | refine IL.cS ttok ent72 [.bor] true ?_ (hS := by refine fit8_call _ _ _ _ _ _ _ _ ?_ ?_ ?_ ?_ ?_ <;> exact cO) | ((first | ((first | refine IL.ag (fun h => ?_) (fun h => ?_) | refine IL.ap (fun h => ?_) (fun h => ?_)); (fail_if_success (focus (simp only [reduceCtorEq] at h)))) | refine WK.cn (fun h => ?_) (fun h => ?_)); all_goals first | (simp only [reduceCtorEq] at h; done) | (simp only [hsA, hsD, hsE, ne_eq] at h; first | done | (exfalso; omega; done) | skip) | skip))
      all_goals try ((first | refine WK.ret ⟨.inr rfl, ?_⟩ | refine ⟨.inl rfl, ?_⟩ | refine ⟨.inl trivial, ?_⟩); refine Fin.o ?_ ?_ (h1 := by first | rfl | (simp only [go_sem, show Try.f55.results.toList = [.tmp 2] from rfl, reduceIte] <;> rfl)); rotate_left 1; (focus (first | rfl | skip)); all_goals try with_reducible rfl)
    · rw [if_neg h16]
      generalize hG : fit9Go s ops.length ops (-1) = G
      refine SCall.of_body' (TT := TT) (fun _ => false) [false] ttok Try.func55 rfl (Nat.le_of_ble_eq_true rfl) rfl fun fx hfx => WK.top ?_
      simp only [impl, imp, argT, List.append_nil, List.map_nil, List.nil_append, show Try.f55.ntmps = 103 from rfl, Nat.zero_add, Nat.reduceAdd]
      repeat' (first | refine WK.seq ?_ | refine WK.reg ?_ | refine IL.nil ?_ | refine WK.skip ?_ | refine WK.block ?_ | refine WK.exit_here ?_ | refine WK.e1 ?_ | refine WK.e2 ?_ | (with_reducible refine IL.wr ?_ ?_; focus exact cW) | refine IL.sg ttok ?_ | refine IL.nn ?_ | refine IL.cS ttok ent72 [.bor] true ?_ (hS := by refine fit8_call _ _ _ _ _ _ _ _ ?_ ?_ ?_ ?_ ?_ <;> exact cO) | ((first | ((first | refine IL.ag (fun h => ?_) (fun h => ?_) | refine IL.ap (fun h => ?_) (fun h => ?_)); (fail_if_success (focus (simp only [reduceCtorEq] at h)))) | refine WK.cn (fun h => ?_) (fun h => ?_)); all_goals first | (simp only [reduceCtorEq] at h; done) | (simp only [hsA, hsD, hsE, ne_eq] at h; first | done | (exfalso; omega; done) | skip) | skip))
      refine WK.whileS (α := Nat × Int) (fun x => ops.length - x.1) (fun x => x.1 ≤ ops.length ∧ -1 ≤ x.2 ∧ x.2 ≤ 5000000000 ∧ fit9Go s ops.length (ops.drop x.1) x.2 = G)
        (fun x => ⟨103, [(1, .ptr 0 0 0), (3, .v (.int .i64 x.2)), (4, .v (.int .i64 (x.1 : Int)))], [some ⟨false, 0, 1, false, txL r s c u (.tr ops.length (encs opC ops)), 0, false⟩]⟩) (0, -1) ⟨⟨Nat.zero_le _, by decide, by decide, by simpa using hG⟩, ?_⟩ ?_
      · (refine Weak.renS [0] hfx rfl ?_ ?_ rfl <;> (simp only [go_sem, reduceIte, exists_eq_left', exists_eq_left, Blk.mk.injEq, txL] <;> (try and_intros) <;> first | rfl | omega))
      · rintro ⟨i, last⟩ ⟨hi, hl0, hl1, hg⟩
        simp only at hi hl0 hl1 hg ⊢
        rcases Nat.eq_or_lt_of_le hi with rfl | hi
        · rw [List.drop_length, fit9Go] at hg
          subst hg
          repeat' (first | refine WK.seq ?_ | refine WK.reg ?_ | refine IL.nil ?_ | refine WK.skip ?_ | refine WK.block ?_ | refine WK.exit_here ?_ | refine WK.e1 ?_ | refine WK.e2 ?_ | (with_reducible refine IL.wr ?_ ?_; focus exact cW) | refine IL.sg ttok ?_ | refine IL.nn ?_ | refine IL.cS ttok ent72 [.bor] true ?_ (hS := by refine fit8_call _ _ _ _ _ _ _ _ ?_ ?_ ?_ ?_ ?_ <;> exact cO) | ((first | ((first | refine IL.ag (fun h => ?_) (fun h => ?_) | refine IL.ap (fun h => ?_) (fun h => ?_)); (fail_if_success (focus (simp only [reduceCtorEq] at h)))) | refine WK.cn (fun h => ?_) (fun h => ?_)); all_goals first | (simp only [reduceCtorEq] at h; done) | (simp only [hsA, hsD, hsE, ne_eq] at h; first | done | (exfalso; omega; done) | skip) | skip))
          all_goals try ((first | refine WK.ret ⟨.inr rfl, ?_⟩ | refine ⟨.inl rfl, ?_⟩ | refine ⟨.inl trivial, ?_⟩); refine Fin.o ?_ ?_ (h1 := by first | rfl | (simp only [go_sem, show Try.f55.results.toList = [.tmp 2] from rfl, reduceIte] <;> rfl)); rotate_left 1; (focus (first | rfl | skip)); all_goals try with_reducible rfl)
        · have hx : ops[i]? = some ops[i] := List.getElem?_eq_getElem hi
          have hoi := ho _ (List.getElem_mem hi)
          rw [List.drop_eq_getElem_cons hi, fit9Go] at hg
          have hle : i * 7 + 7 ≤ ops.length * 7 := by omega
          have hne : encs opC ops ≠ [] := encs_ne opC_length (by decide) hx
          generalize ops[i] = o at *
          obtain ⟨ok, or, on, om, ot, os, oq⟩ := o
          simp only at hoi hg
          obtain ⟨b1, b2, b3, b4, b5, b6⟩ := hoi
          have hat : ((encs opC ops).drop (i * 7)).take 7 = [.v (.int .i64 ok), .v (.int .u16 or), .v (.int .u32 on), .v (.int .u32 om), .v (.string ⟨ot.toArray⟩), .tr os.length (encs spC os), .v (.int .u32 oq)] := encs_at opC_length hx
          have hf := fit8_call ok or on om oq ot os os.length rfl (by omega) (by omega) b3 b4
          by_cases h0 : fit8 ok or on om ot os oq = 0
          · rw [if_pos h0] at hg
            rw [h0] at hf
            have h3 : ok = 3 → (∀ x ∈ os, rightI x) ∧ tot os ≤ 1024 := fun h => by
              rcases fit8_ok h0 with k | k | k | k
              · omega
              · omega
              · exact fit7_ok k.2.2.2.1
              · omega
            have ha := atoms_call ok or on om oq ot os os.length rfl (by omega) (by omega) h3
            have hab : atoms ok ot os ≤ 100000 := by
              unfold atoms
              split
              · omega
              · split
                · rename_i h; have := idsL_len os (h3 h).1; have := (h3 h).2; omega
                · omega
            generalize atoms ok ot os = an at *
            by_cases c1 : 3 < ok ∧ (¬ ops.length = 1 ∨ s ≤ oq)
            · rw [if_pos c1] at hg
              subst hg
              have FX := And.intro hat hle
              repeat' (first | refine WK.seq ?_ | refine WK.reg ?_ | refine IL.nil ?_ | refine WK.skip ?_ | refine WK.block ?_ | refine WK.exit_here ?_ | refine WK.e1 ?_ | refine WK.e2 ?_ | (with_reducible refine IL.wr ?_ ?_; focus exact cW) | refine IL.sgF ttok ?_ | refine IL.nn ?_ | refine IL.cSF ttok ent72 [.bor] true ?_ (hS := by exact hf) | refine IL.cSF ttok ent73 [.bor] true ?_ (hS := by exact ha) | ((first | ((first | refine IL.ag (fun h => ?_) (fun h => ?_) | refine IL.ap (fun h => ?_) (fun h => ?_)); (fail_if_success (focus (simp only [reduceCtorEq] at h)))) | refine WK.cn (fun h => ?_) (fun h => ?_)); all_goals first | (simp only [reduceCtorEq] at h; done) | (simp only [hsA, hsD, hsE, ne_eq] at h; first | done | (exfalso; omega; done) | skip) | skip))
              all_goals try ((first | refine WK.ret ⟨.inr rfl, ?_⟩ | refine ⟨.inl rfl, ?_⟩ | refine ⟨.inl trivial, ?_⟩); refine Fin.o ?_ ?_ (h1 := by first | rfl | (simp only [go_sem, show Try.f55.results.toList = [.tmp 2] from rfl, reduceIte] <;> rfl)); rotate_left 1; (focus (first | rfl | skip)); all_goals try with_reducible rfl)
            · rw [if_neg c1] at hg
              by_cases c2 : 0 < (an : Int) ∧ 0 ≤ last ∧ ¬ om = last + 1
              · rw [if_pos c2] at hg
                subst hg
                have FX := And.intro hat hle
                repeat' (first | refine WK.seq ?_ | refine WK.reg ?_ | refine IL.nil ?_ | refine WK.skip ?_ | refine WK.block ?_ | refine WK.exit_here ?_ | refine WK.e1 ?_ | refine WK.e2 ?_ | (with_reducible refine IL.wr ?_ ?_; focus exact cW) | refine IL.sgF ttok ?_ | refine IL.nn ?_ | refine IL.cSF ttok ent72 [.bor] true ?_ (hS := by exact hf) | refine IL.cSF ttok ent73 [.bor] true ?_ (hS := by exact ha) | ((first | ((first | refine IL.ag (fun h => ?_) (fun h => ?_) | refine IL.ap (fun h => ?_) (fun h => ?_)); (fail_if_success (focus (simp only [reduceCtorEq] at h)))) | refine WK.cn (fun h => ?_) (fun h => ?_)); all_goals first | (simp only [reduceCtorEq] at h; done) | (simp only [hsA, hsD, hsE, ne_eq] at h; first | done | (exfalso; omega; done) | skip) | skip))
                all_goals try ((first | refine WK.ret ⟨.inr rfl, ?_⟩ | refine ⟨.inl rfl, ?_⟩ | refine ⟨.inl trivial, ?_⟩); refine Fin.o ?_ ?_ (h1 := by first | rfl | (simp only [go_sem, show Try.f55.results.toList = [.tmp 2] from rfl, reduceIte] <;> rfl)); rotate_left 1; (focus (first | rfl | skip)); all_goals try with_reducible rfl)
              · rw [if_neg c2] at hg
                by_cases c3 : 0 < (an : Int)
                · rw [if_pos c3] at hg
                  have FX := And.intro hat hle
                  repeat' (first | refine WK.seq ?_ | refine WK.reg ?_ | refine IL.nil ?_ | refine WK.skip ?_ | refine WK.block ?_ | refine WK.exit_here ?_ | refine WK.e1 ?_ | refine WK.e2 ?_ | (with_reducible refine IL.wr ?_ ?_; focus exact cW) | refine IL.sgF ttok ?_ | refine IL.nn ?_ | refine IL.cSF ttok ent72 [.bor] true ?_ (hS := by exact hf) | refine IL.cSF ttok ent73 [.bor] true ?_ (hS := by exact ha) | ((first | ((first | refine IL.ag (fun h => ?_) (fun h => ?_) | refine IL.ap (fun h => ?_) (fun h => ?_)); (fail_if_success (focus (simp only [reduceCtorEq] at h)))) | refine WK.cn (fun h => ?_) (fun h => ?_)); all_goals first | (simp only [reduceCtorEq] at h; done) | (simp only [hsA, hsD, hsE, ne_eq] at h; first | done | (exfalso; omega; done) | skip) | skip))
                  all_goals (refine ⟨(i + 1, om + (an : Int) - 1), by simp only; omega, ⟨by simp only; omega, by simp only; omega, by simp only; omega, hg⟩, ?_⟩; (refine Weak.renS [0] hfx rfl ?_ ?_ rfl <;> (simp only [go_sem, reduceIte, exists_eq_left', exists_eq_left, Blk.mk.injEq, txL] <;> (try and_intros) <;> first | rfl | omega)))
                · rw [if_neg c3] at hg
                  have FX := And.intro hat hle
                  repeat' (first | refine WK.seq ?_ | refine WK.reg ?_ | refine IL.nil ?_ | refine WK.skip ?_ | refine WK.block ?_ | refine WK.exit_here ?_ | refine WK.e1 ?_ | refine WK.e2 ?_ | (with_reducible refine IL.wr ?_ ?_; focus exact cW) | refine IL.sgF ttok ?_ | refine IL.nn ?_ | refine IL.cSF ttok ent72 [.bor] true ?_ (hS := by exact hf) | refine IL.cSF ttok ent73 [.bor] true ?_ (hS := by exact ha) | ((first | ((first | refine IL.ag (fun h => ?_) (fun h => ?_) | refine IL.ap (fun h => ?_) (fun h => ?_)); (fail_if_success (focus (simp only [reduceCtorEq] at h)))) | refine WK.cn (fun h => ?_) (fun h => ?_)); all_goals first | (simp only [reduceCtorEq] at h; done) | (simp only [hsA, hsD, hsE, ne_eq] at h; first | done | (exfalso; omega; done) | skip) | skip))
                  all_goals (refine ⟨(i + 1, last), by simp only; omega, ⟨by simp only; omega, hl0, hl1, hg⟩, ?_⟩; (refine Weak.renS [0] hfx rfl ?_ ?_ rfl <;> (simp only [go_sem, reduceIte, exists_eq_left', exists_eq_left, Blk.mk.injEq, txL] <;> (try and_intros) <;> first | rfl | omega)))
          · rw [if_neg h0] at hg
            subst hg
            generalize fit8 ok or on om ot os oq = e at *
            have FX := And.intro hat hle
            repeat' (first | refine WK.seq ?_ | refine WK.reg ?_ | refine IL.nil ?_ | refine WK.skip ?_ | refine WK.block ?_ | refine WK.exit_here ?_ | refine WK.e1 ?_ | refine WK.e2 ?_ | (with_reducible refine IL.wr ?_ ?_; focus exact cW) | refine IL.sgF ttok ?_ | refine IL.nn ?_ | refine IL.cSF ttok ent72 [.bor] true ?_ (hS := by exact hf) | refine IL.cSF ttok ent73 [.bor] true ?_ (hS := by exact ha) | ((first | ((first | refine IL.ag (fun h => ?_) (fun h => ?_) | refine IL.ap (fun h => ?_) (fun h => ?_)); (fail_if_success (focus (simp only [reduceCtorEq] at h)))) | refine WK.cn (fun h => ?_) (fun h => ?_)); all_goals first | (simp only [reduceCtorEq] at h; done) | (simp only [hsA, hsD, hsE, ne_eq] at h; first | done | (exfalso; omega; done) | skip) | skip))
            all_goals try ((first | refine WK.ret ⟨.inr rfl, ?_⟩ | refine ⟨.inl rfl, ?_⟩ | refine ⟨.inl trivial, ?_⟩); refine Fin.o ?_ ?_ (h1 := by first | rfl | (simp only [go_sem, show Try.f55.results.toList = [.tmp 2] from rfl, reduceIte] <;> rfl)); rotate_left 1; (focus (first | rfl | skip)); all_goals try with_reducible rfl)
end Go.Proofs.Ytclhjcbnpdlgbaa
/- package vector: where a replica stands. -/
namespace Go.Proofs.Ytclhjcbnpdlgbaa.Vc
open Go Go.Lift
set_option maxHeartbeats 4000000
set_option linter.unusedSimpArgs false
set_option linter.unusedVariables false
attribute [local irreducible] WK IL IP IG IW DW

abbrev Ve := Int × Int
def veC (a : Ve) : List IV := [.v (.int .u16 a.1), .v (.int .u32 a.2)]
instance : Cells veC 2 := ⟨fun _ => rfl, fun _ => rfl, fun _ => rfl⟩
theorem veC_length (a : Ve) : (veC a).length = 2 := rfl
def Srt (l : List Ve) : Prop := l.Pairwise fun a b => a.1 < b.1
def pos (l : List Ve) (r : Int) : Nat := l.countP fun x => decide (x.1 < r)
theorem pos_le (l : List Ve) (r : Int) : pos l r ≤ l.length := List.countP_le_length
theorem pos_iff : ∀ {l : List Ve} {r : Int}, Srt l → ∀ k (x : Ve), l[k]? = some x → (x.1 < r ↔ k < pos l r)
  | [], r, _, k, x, h => by simp at h
  | a :: l, r, hs, k, x, h => by
    obtain ⟨h1, h2⟩ := List.pairwise_cons.1 hs
    have ih := fun k x => pos_iff (r := r) h2 k x
    unfold pos at *
    rw [List.countP_cons]
    by_cases ha : a.1 < r
    · rw [if_pos (by simpa using ha)]
      cases k with
      | zero => simp at h; subst h; exact ⟨fun _ => by omega, fun _ => ha⟩
      | succ k =>
        have := ih k x (by simpa using h)
        omega
    · have h0 : l.countP (fun x => decide (x.1 < r)) = 0 := by
        rw [List.countP_eq_zero]
        intro y hy
        have := h1 y hy
        simp only [decide_eq_true_eq]; omega
      rw [if_neg (by simpa using ha), h0]
      cases k with
      | zero => simp at h; subst h; exact ⟨fun h => absurd h ha, fun h => by omega⟩
      | succ k =>
        have hx : x ∈ l := List.mem_of_getElem? (by simpa using h)
        have := h1 x hx
        exact ⟨fun h => by omega, fun h => by omega⟩
def has (l : List Ve) (r : Int) : Bool := match l[pos l r]? with
  | some x => decide (x.1 = r)
  | none => false
theorem find1_call (x1 x2 r : Int) (h : 0 ≤ x1 ∧ x1 ≤ 65535) (hr : 0 ≤ r ∧ r ≤ 65535) : SCall Try.prog 66 [.agg [.v (.int .u16 x1), .v (.int .u32 x2)], .v (.int .u16 r)] (.v (.int .i64 (x1 - r))) [.agg [.v (.int .u16 x1), .v (.int .u32 x2)], .v (.int .u16 r)] := by
  refine SCall.of_body' (TT := TT) (fun _ => false) [false, false] ttok Try.func66 rfl (Nat.le_of_ble_eq_true rfl) rfl fun fx hfx => WK.top ?_
  simp only [impl, imp, argT, List.append_nil, List.map_nil, List.nil_append, show Try.f66.ntmps = 11 from rfl, Nat.zero_add, Nat.reduceAdd]
  repeat' (first | refine WK.seq ?_ | refine WK.reg ?_ | refine IL.nil ?_ | (with_reducible refine IL.wr ?_ ?_; focus exact cW) | refine IL.sg ttok ?_)
  all_goals try ((first | refine WK.ret ⟨.inr rfl, ?_⟩ | refine ⟨.inl rfl, ?_⟩ | refine ⟨.inl trivial, ?_⟩); refine Fin.o ?_ ?_ (h1 := by first | rfl | (simp only [go_sem, show Try.f66.results.toList = [.tmp 4] from rfl, reduceIte] <;> rfl)); rotate_left 1; (focus (first | rfl | skip)); all_goals try with_reducible rfl)
  all_goals skip
theorem bsf_call (l : List Ve) (r : Int) (hs : Srt l) (hl : ∀ x ∈ l, 0 ≤ x.1 ∧ x.1 ≤ 65535) (hr : 0 ≤ r ∧ r ≤ 65535) (hn : l.length ≤ 1000000000000) :
    SCallF [] Try.prog 65 [none, none, some (66, 0)] [.tr l.length (encs veC l), .v (.int .u16 r)] (.tup [.v (.int .i64 (pos l r)), .v (.bool (has l r))]) [.tr l.length (encs veC l), .v (.int .u16 r)] := by
  have hp := pos_le l r
  refine SCallF.of_body' (G := []) [none, none, some (66, 0)] (TT := TT) (fun k => decide (k < 0)) [false, false] ttok Try.func65 rfl (Nat.le_of_ble_eq_true rfl) rfl fun fx hfx hgf => WK.top ?_
  simp only [impl, imp, argT, packIV, pk, List.take_succ_cons, List.drop_succ_cons, List.take_zero, List.drop_zero, List.append_nil, List.map_nil, List.map_cons, List.nil_append, List.cons_append, List.length_cons, List.length_nil, show Try.f65.ntmps = 49 from rfl, Nat.zero_add, Nat.reduceAdd]
  repeat' (first | refine WK.seq ?_ | refine WK.reg ?_ | refine IL.nil ?_ | refine WK.skip ?_ | refine WK.block ?_ | refine WK.exit_here ?_ | refine WK.e1 ?_ | refine WK.e2 ?_ | (with_reducible refine IL.wr ?_ ?_; focus exact cW) | refine IL.sg ttok ?_ | refine IL.nn ?_ | refine IL.cS ttok ent66 [.bor, .bor] true ?_ (hS := by exact hcm) | ((first | ((first | refine IL.ag (fun h => ?_) (fun h => ?_) | refine IL.ap (fun h => ?_) (fun h => ?_)); (fail_if_success (focus (simp only [reduceCtorEq] at h)))) | refine WK.cn (fun h => ?_) (fun h => ?_)); all_goals first | (simp only [reduceCtorEq] at h; done) | (simp only [hsA, hsD, hsE, ne_eq] at h; first | done | (exfalso; omega; done) | skip) | skip))
  refine WK.whileS (α := Nat × Nat) (fun x => x.2 - x.1) (fun x => x.1 ≤ pos l r ∧ pos l r ≤ x.2 ∧ x.2 ≤ l.length) (fun x => ⟨49, [(0, .tr l.length (encs veC l)), (1, .v (.int .u16 r)), (2, .fn (.func 66) []), (8, .v (.int .i64 l.length)), (9, .v (.int .i64 (x.1 : Nat))), (10, .v (.int .i64 (x.2 : Nat)))], []⟩) (0, l.length) ⟨⟨Nat.zero_le _, hp, Nat.le_refl _⟩, ?_⟩ ?_
  · (refine Weak.renS [] hfx rfl ?_ ?_ rfl <;> (simp only [go_sem, reduceIte, exists_eq_left', exists_eq_left, Blk.mk.injEq] <;> (try and_intros) <;> first | rfl | omega))
  · rintro ⟨i, j⟩ ⟨h1, h2, h3⟩
    simp only at h1 h2 h3
    by_cases hij : i < j
    · have hh : (i + j) / 2 < l.length := by omega
      have hx : l[(i + j) / 2]? = some l[(i + j) / 2] := List.getElem?_eq_getElem hh
      have hpi := pos_iff hs _ _ hx (r := r)
      have hcm := find1_call l[(i + j) / 2].1 l[(i + j) / 2].2 r (hl _ (List.getElem_mem hh)) hr
      have hb1 := hl _ (List.getElem_mem hh)
      have hat : ((encs veC l).drop ((i + j) / 2 * 2)).take 2 = [.v (.int .u16 l[(i + j) / 2].1), .v (.int .u32 l[(i + j) / 2].2)] := encs_at veC_length hx
      have hle : (i + j) / 2 * 2 + 2 ≤ l.length * 2 := by omega
      have hne : encs veC l ≠ [] := encs_ne veC_length (by decide) hx
      have hw : IntKind.i64.wrap ((i : Int) + (j : Int)) = (i : Int) + (j : Int) := wrap_i64 (by omega) (by omega)
      have hsh : ((i : Int) + (j : Int)).fdiv (2 ^ min 1 64) = (((i + j) / 2 : Nat) : Int) := by
        rw [show min 1 64 = 1 from rfl, Int.fdiv_eq_ediv_of_nonneg _ (by decide)]; omega
      have hsh2 : ((i : Int) + (j : Int)).fdiv (2 ^ 1) = (((i + j) / 2 : Nat) : Int) := by
        rw [Int.fdiv_eq_ediv_of_nonneg _ (by decide)]; omega
      generalize l[(i + j) / 2] = x at *
      generalize hm : (i + j) / 2 = m at *
      have FX := And.intro hat (And.intro hle (And.intro hsh hsh2))
      repeat' (first | refine WK.seq ?_ | refine WK.reg ?_ | refine IL.nil ?_ | refine WK.skip ?_ | refine WK.block ?_ | refine WK.exit_here ?_ | refine WK.e1 ?_ | refine WK.e2 ?_ | (with_reducible refine IL.wr ?_ ?_; focus exact cW) | refine IL.sgF ttok ?_ | refine IL.nn ?_ | refine IL.cSF ttok ent66 [.bor, .bor] true ?_ (hS := by exact hcm) | ((first | ((first | refine IL.ag (fun h => ?_) (fun h => ?_) | refine IL.ap (fun h => ?_) (fun h => ?_)); (fail_if_success (focus (simp only [reduceCtorEq] at h)))) | refine WK.cn (fun h => ?_) (fun h => ?_)); all_goals first | (simp only [reduceCtorEq] at h; done) | (simp only [hsA, hsD, hsE, ne_eq] at h; first | done | (exfalso; omega; done) | skip) | skip))
      · refine ⟨(m + 1, j), by simp only; omega, ⟨by simp only; omega, h2, h3⟩, ?_⟩
        (refine Weak.renS [] hfx rfl ?_ ?_ rfl <;> (simp only [go_sem, reduceIte, exists_eq_left', exists_eq_left, Blk.mk.injEq] <;> (try and_intros) <;> first | rfl | omega))
      · refine ⟨(i, m), by simp only; omega, ⟨h1, by simp only; omega, by simp only; omega⟩, ?_⟩
        (refine Weak.renS [] hfx rfl ?_ ?_ rfl <;> (simp only [go_sem, reduceIte, exists_eq_left', exists_eq_left, Blk.mk.injEq] <;> (try and_intros) <;> first | rfl | omega))
    · obtain rfl : i = pos l r := by omega
      obtain rfl : j = pos l r := by omega
      unfold has
      by_cases hp2 : pos l r < l.length
      · have hx : l[pos l r]? = some l[pos l r] := List.getElem?_eq_getElem hp2
        have hcm := find1_call l[pos l r].1 l[pos l r].2 r (hl _ (List.getElem_mem hp2)) hr
        have hb1 := hl _ (List.getElem_mem hp2)
        have hat : ((encs veC l).drop (pos l r * 2)).take 2 = [.v (.int .u16 l[pos l r].1), .v (.int .u32 l[pos l r].2)] := encs_at veC_length hx
        have hle : pos l r * 2 + 2 ≤ l.length * 2 := by omega
        have hne : encs veC l ≠ [] := encs_ne veC_length (by decide) hx
        rw [hx]
        have hd : (l[pos l r].1 - r == 0) = decide (l[pos l r].1 = r) := by
          by_cases h : l[pos l r].1 = r
          · rw [decide_eq_true h]; simp [h]
          · rw [decide_eq_false h]; simp; omega
        generalize l[pos l r] = x at *
        generalize pos l r = m at *
        have FX := And.intro hat (And.intro hle hd)
        repeat' (first | refine WK.seq ?_ | refine WK.reg ?_ | refine IL.nil ?_ | refine WK.skip ?_ | refine WK.block ?_ | refine WK.exit_here ?_ | refine WK.e1 ?_ | refine WK.e2 ?_ | (with_reducible refine IL.wr ?_ ?_; focus exact cW) | refine IL.sgF ttok ?_ | refine IL.nn ?_ | refine IL.cSF ttok ent66 [.bor, .bor] true ?_ (hS := by exact hcm) | ((first | ((first | refine IL.ag (fun h => ?_) (fun h => ?_) | refine IL.ap (fun h => ?_) (fun h => ?_)); (fail_if_success (focus (simp only [reduceCtorEq] at h)))) | refine WK.cn (fun h => ?_) (fun h => ?_)); all_goals first | (simp only [reduceCtorEq] at h; done) | (simp only [hsA, hsD, hsE, ne_eq] at h; first | done | (exfalso; omega; done) | skip) | skip))
        all_goals try ((first | refine WK.ret ⟨.inr rfl, ?_⟩ | refine ⟨.inl rfl, ?_⟩ | refine ⟨.inl trivial, ?_⟩); refine Fin.o ?_ ?_ (h1 := by first | rfl | (simp only [go_sem, show Try.f65.results.toList = [.tmp 6, .tmp 7] from rfl, reduceIte] <;> rfl)); rotate_left 1; (focus (first | rfl | skip)); all_goals try with_reducible rfl)
        all_goals skip
      · rw [List.getElem?_eq_none (by omega)]
        generalize pos l r = m at *
        repeat' (first | refine WK.seq ?_ | refine WK.reg ?_ | refine IL.nil ?_ | refine WK.skip ?_ | refine WK.block ?_ | refine WK.exit_here ?_ | refine WK.e1 ?_ | refine WK.e2 ?_ | (with_reducible refine IL.wr ?_ ?_; focus exact cW) | refine IL.sg ttok ?_ | refine IL.nn ?_ | refine IL.cS ttok ent66 [.bor, .bor] true ?_ (hS := by exact hcm) | ((first | ((first | refine IL.ag (fun h => ?_) (fun h => ?_) | refine IL.ap (fun h => ?_) (fun h => ?_)); (fail_if_success (focus (simp only [reduceCtorEq] at h)))) | refine WK.cn (fun h => ?_) (fun h => ?_)); all_goals first | (simp only [reduceCtorEq] at h; done) | (simp only [hsA, hsD, hsE, ne_eq] at h; first | done | (exfalso; omega; done) | skip) | skip))
        all_goals try ((first | refine WK.ret ⟨.inr rfl, ?_⟩ | refine ⟨.inl rfl, ?_⟩ | refine ⟨.inl trivial, ?_⟩); refine Fin.o ?_ ?_ (h1 := by first | rfl | (simp only [go_sem, show Try.f65.results.toList = [.tmp 6, .tmp 7] from rfl, reduceIte] <;> rfl)); rotate_left 1; (focus (first | rfl | skip)); all_goals try with_reducible rfl)
        all_goals skip
theorem find_call (l : List Ve) (r : Int) (hs : Srt l) (hl : ∀ x ∈ l, 0 ≤ x.1 ∧ x.1 ≤ 65535) (hr : 0 ≤ r ∧ r ≤ 65535) (hn : l.length ≤ 1000000000000) :
    SCall Try.prog 42 [.tr l.length (encs veC l), .v (.int .u16 r)] (.tup [.v (.int .i64 (pos l r)), .v (.bool (has l r))]) [.tr l.length (encs veC l), .v (.int .u16 r)] := by
  refine SCallG.toS ?_
  refine SCallG.of_body' (G := []) (TT := TT) (fun _ => false) [false, false] ttok Try.func42 rfl (Nat.le_of_ble_eq_true rfl) rfl fun fx hfx hgf => WK.top ?_
  simp only [impl, imp, argT, List.append_nil, List.map_nil, List.nil_append, show Try.f42.ntmps = 11 from rfl, Nat.zero_add, Nat.reduceAdd]
  repeat' (first | refine WK.seq ?_ | refine WK.reg ?_ | refine IL.nil ?_ | (with_reducible refine IL.wr ?_ ?_; focus exact cW) | refine IL.sg ttok ?_ | (refine IL.callSF [none, none, some (66, 0)] hgf (f := 65) (xs := ?_) (A := ?_) (A' := ?_) (rr := ?_) (σ' := ?_) (bs := ?_) (ks := ?_) (sets := ?_) (pushes := ?_) ttok ent65 [.bor, .bor] true ?_ ?_ ?_ ?_ ?_ ?_ ?_ ?_ ?_ ?_ (fun K hK => ?_) ?_; rotate_left 9; (focus exact cG); (focus rfl); (focus rfl); (focus (first | rfl | (simp only [go_sem, reduceIte] <;> rfl))); (focus (exact bsf_call _ _ hs hl hr hn)); (focus rfl); (focus rfl); (focus (first | rfl | simp only [go_sem])); (focus (first | rfl | (simp only [go_sem, reduceIte] <;> rfl))); (focus simp); (focus (simp only [go_sem, reduceIte]; exact cK hK))))
  all_goals try ((first | refine WK.ret ⟨.inr rfl, ?_⟩ | refine ⟨.inl rfl, ?_⟩ | refine ⟨.inl trivial, ?_⟩); refine Fin.o ?_ ?_ (h1 := by first | rfl | (simp only [go_sem, show Try.f42.results.toList = [.tmp 4, .tmp 5] from rfl, reduceIte] <;> rfl)); rotate_left 1; (focus (first | rfl | skip)); all_goals try with_reducible rfl)
  all_goals skip
end Go.Proofs.Ytclhjcbnpdlgbaa.Vc
/- package vector, and the document's: what is known, what is lacked. -/
namespace Go.Proofs.Ytclhjcbnpdlgbaa.Vc
open Go Go.Lift
set_option maxHeartbeats 4000000
set_option linter.unusedSimpArgs false
set_option linter.unusedVariables false
attribute [local irreducible] WK IL IP IG IW DW

def getV (l : List Ve) (r : Int) : Int := match l[pos l r]? with
  | some x => if x.1 = r then x.2 else 0
  | none => 0
def okVe (l : List Ve) : Prop := ∀ x ∈ l, (0 ≤ x.1 ∧ x.1 ≤ 65535) ∧ (0 ≤ x.2 ∧ x.2 ≤ 268435456)
theorem okVe.r {l : List Ve} (h : okVe l) : ∀ x ∈ l, 0 ≤ x.1 ∧ x.1 ≤ 65535 := fun x hx => (h x hx).1
theorem getV_bd {l : List Ve} (h : okVe l) (r : Int) : 0 ≤ getV l r ∧ getV l r ≤ 268435456 := by
  unfold getV
  split
  · rename_i x hx
    have := (h x (List.mem_of_getElem? hx)).2
    split <;> omega
  · omega
theorem srt_lt {l : List Ve} (hs : Srt l) {i j : Nat} {x y : Ve} (hij : i < j) (hx : l[i]? = some x) (hy : l[j]? = some y) : x.1 < y.1 := by
  obtain ⟨h1, h2⟩ := List.getElem?_eq_some_iff.1 hx
  obtain ⟨h3, h4⟩ := List.getElem?_eq_some_iff.1 hy
  have := List.pairwise_iff_getElem.1 hs i j h1 h3 hij
  rw [h2, h4] at this; exact this
theorem getV_at {l : List Ve} {r : Int} {k : Nat} {x : Ve} (hs : Srt l) (hk : l[k]? = some x) (hr : x.1 = r) : getV l r = x.2 := by
  have h1 := pos_iff hs k x hk (r := r)
  have hkp : pos l r ≤ k := by omega
  rcases Nat.lt_or_ge (pos l r) k with h | h
  · exfalso
    have hlt : pos l r < l.length := by have := (List.getElem?_eq_some_iff.1 hk).1; omega
    have hp : l[pos l r]? = some l[pos l r] := List.getElem?_eq_getElem hlt
    have h2 := pos_iff hs _ _ hp (r := r)
    have h3 := srt_lt hs h hp hk
    omega
  · have : pos l r = k := by omega
    unfold getV
    rw [this, hk]
    simp only
    rw [if_pos hr]
theorem getV_none {l : List Ve} {r : Int} (h : ∀ x ∈ l, x.1 ≠ r) : getV l r = 0 := by
  unfold getV
  split
  · rename_i x hx
    rw [if_neg (h x (List.mem_of_getElem? hx))]
  · rfl
theorem get_call (l : List Ve) (r : Int) (hs : Srt l) (hl : ∀ x ∈ l, 0 ≤ x.1 ∧ x.1 ≤ 65535) (hr : 0 ≤ r ∧ r ≤ 65535) (hn : l.length ≤ 1000000000000) :
    SCall Try.prog 61 [.tr l.length (encs veC l), .v (.int .u16 r)] (.v (.int .u32 (getV l r))) [.tr l.length (encs veC l), .v (.int .u16 r)] := by
  unfold getV
  have hp := pos_le l r
  by_cases hp2 : pos l r < l.length
  · have hx : l[pos l r]? = some l[pos l r] := List.getElem?_eq_getElem hp2
    have hhas : has l r = decide (l[pos l r].1 = r) := by unfold has; rw [hx]
    have hfc := find_call l r hs hl hr hn
    rw [hx]
    simp only
    have hat : (encs veC l)[pos l r * 2 + 1]? = some (.v (.int .u32 l[pos l r].2)) := encs_get veC_length hx (by decide)
    have hle : pos l r * 2 + 2 ≤ l.length * 2 := by omega
    have hne : encs veC l ≠ [] := encs_ne veC_length (by decide) hx
    by_cases h : l[pos l r].1 = r
    · rw [if_pos h]
      rw [hhas, decide_eq_true h] at hfc
      clear hhas h hx
      generalize l[pos l r] = x at *
      generalize pos l r = m at *
      refine SCall.of_body' (TT := TT) (fun _ => false) [false, false] ttok Try.func61 rfl (Nat.le_of_ble_eq_true rfl) rfl fun fx hfx => WK.top ?_
      simp only [impl, imp, argT, List.append_nil, List.map_nil, List.nil_append, show Try.f61.ntmps = 19 from rfl, Nat.zero_add, Nat.reduceAdd]
      have FX := And.intro hat hle
      repeat' (first | refine WK.seq ?_ | refine WK.reg ?_ | refine IL.nil ?_ | refine WK.skip ?_ | (with_reducible refine IL.wr ?_ ?_; focus exact cW) | refine IL.sgF ttok ?_ | refine IL.cSF ttok ent42 [.bor, .bor] true ?_ (hS := by exact hfc) | (refine WK.cn (fun h => ?_) (fun h => ?_); all_goals first | (simp only [reduceCtorEq] at h; done) | (simp only [hsA, hsD, hsE, ne_eq] at h; first | done | (exfalso; omega; done) | skip) | skip))
      all_goals try ((first | refine WK.ret ⟨.inr rfl, ?_⟩ | refine ⟨.inl rfl, ?_⟩ | refine ⟨.inl trivial, ?_⟩); refine Fin.o ?_ ?_ (h1 := by first | rfl | (simp only [go_sem, show Try.f61.results.toList = [.tmp 4] from rfl, reduceIte] <;> rfl)); rotate_left 1; (focus (first | rfl | skip)); all_goals try with_reducible rfl)
      all_goals skip
    · rw [if_neg h]
      rw [hhas, decide_eq_false h] at hfc
      clear hhas h hx
      generalize l[pos l r] = x at *
      generalize pos l r = m at *
      refine SCall.of_body' (TT := TT) (fun _ => false) [false, false] ttok Try.func61 rfl (Nat.le_of_ble_eq_true rfl) rfl fun fx hfx => WK.top ?_
      simp only [impl, imp, argT, List.append_nil, List.map_nil, List.nil_append, show Try.f61.ntmps = 19 from rfl, Nat.zero_add, Nat.reduceAdd]
      have FX := And.intro hat hle
      repeat' (first | refine WK.seq ?_ | refine WK.reg ?_ | refine IL.nil ?_ | refine WK.skip ?_ | (with_reducible refine IL.wr ?_ ?_; focus exact cW) | refine IL.sgF ttok ?_ | refine IL.cSF ttok ent42 [.bor, .bor] true ?_ (hS := by exact hfc) | (refine WK.cn (fun h => ?_) (fun h => ?_); all_goals first | (simp only [reduceCtorEq] at h; done) | (simp only [hsA, hsD, hsE, ne_eq] at h; first | done | (exfalso; omega; done) | skip) | skip))
      all_goals try ((first | refine WK.ret ⟨.inr rfl, ?_⟩ | refine ⟨.inl rfl, ?_⟩ | refine ⟨.inl trivial, ?_⟩); refine Fin.o ?_ ?_ (h1 := by first | rfl | (simp only [go_sem, show Try.f61.results.toList = [.tmp 4] from rfl, reduceIte] <;> rfl)); rotate_left 1; (focus (first | rfl | skip)); all_goals try with_reducible rfl)
      all_goals skip
  · have hx := List.getElem?_eq_none (l := l) (i := pos l r) (by omega)
    have hhas : has l r = false := by unfold has; rw [hx]
    have hfc := find_call l r hs hl hr hn
    rw [hhas] at hfc
    rw [hx]
    simp only
    refine SCall.of_body' (TT := TT) (fun _ => false) [false, false] ttok Try.func61 rfl (Nat.le_of_ble_eq_true rfl) rfl fun fx hfx => WK.top ?_
    simp only [impl, imp, argT, List.append_nil, List.map_nil, List.nil_append, show Try.f61.ntmps = 19 from rfl, Nat.zero_add, Nat.reduceAdd]
    repeat' (first | refine WK.seq ?_ | refine WK.reg ?_ | refine IL.nil ?_ | refine WK.skip ?_ | (with_reducible refine IL.wr ?_ ?_; focus exact cW) | refine IL.sg ttok ?_ | refine IL.cS ttok ent42 [.bor, .bor] true ?_ (hS := by exact hfc) | (refine WK.cn (fun h => ?_) (fun h => ?_); all_goals first | (simp only [reduceCtorEq] at h; done) | (simp only [hsA, hsD, hsE, ne_eq] at h; first | done | (exfalso; omega; done) | skip) | skip))
    all_goals try ((first | refine WK.ret ⟨.inr rfl, ?_⟩ | refine ⟨.inl rfl, ?_⟩ | refine ⟨.inl trivial, ?_⟩); refine Fin.o ?_ ?_ (h1 := by first | rfl | (simp only [go_sem, show Try.f61.results.toList = [.tmp 4] from rfl, reduceIte] <;> rfl)); rotate_left 1; (focus (first | rfl | skip)); all_goals try with_reducible rfl)
    all_goals skip
theorem refGet_call (l : List Ve) (r : Int) (hs : Srt l) (hn : l.length ≤ 1000000000000) :
    SCall Try.prog 21 [.tr l.length (encs veC l), .v (.int .u16 r)] (.v (.int .u32 (getV l r))) [.tr l.length (encs veC l), .v (.int .u16 r)] := by
  refine SCall.of_body' (TT := TT) (fun _ => false) [false, false] ttok Try.func21 rfl (Nat.le_of_ble_eq_true rfl) rfl fun fx hfx => WK.top ?_
  simp only [impl, imp, argT, List.append_nil, List.map_nil, List.nil_append, show Try.f21.ntmps = 24 from rfl, Nat.zero_add, Nat.reduceAdd]
  repeat' (first | refine WK.seq ?_ | refine WK.reg ?_ | refine IL.nil ?_ | refine WK.skip ?_ | refine WK.block ?_ | refine WK.exit_here ?_ | refine WK.e1 ?_ | refine WK.e2 ?_ | (with_reducible refine IL.wr ?_ ?_; focus exact cW) | refine IL.sg ttok ?_ | (refine WK.cn (fun h => ?_) (fun h => ?_); all_goals first | (simp only [reduceCtorEq] at h; done) | (simp only [hsA, hsD, hsE, ne_eq] at h; first | done | (exfalso; omega; done) | skip) | skip))
  refine WK.forS l.length (fun k => ∀ x ∈ l.take k, x.1 ≠ r) (fun k => ⟨24, [(0, .tr l.length (encs veC l)), (1, .v (.int .u16 r)), (5, .v (.int .i64 k))], []⟩) ⟨by simp, ?_⟩ (fun k hk ho => ?_) (fun ho => ?_)
  · (refine Weak.renS [] hfx rfl ?_ ?_ rfl <;> (simp only [go_sem, reduceIte, exists_eq_left', exists_eq_left, Blk.mk.injEq] <;> (try and_intros) <;> first | rfl | omega))
  · have hx : l[k]? = some l[k] := List.getElem?_eq_getElem hk
    have hat1 : (encs veC l)[k * 2 + 0]? = some (.v (.int .u16 l[k].1)) := encs_get veC_length hx (by decide)
    rw [Nat.add_zero] at hat1
    have hat2 : (encs veC l)[k * 2 + 1]? = some (.v (.int .u32 l[k].2)) := encs_get veC_length hx (by decide)
    have hle : k * 2 + 2 ≤ l.length * 2 := by omega
    have hne : encs veC l ≠ [] := encs_ne veC_length (by decide) hx
    have hgv := fun h => getV_at (r := r) hs hx h
    have htk : l.take (k + 1) = l.take k ++ [l[k]] := by rw [List.take_add_one, hx]; rfl
    rw [htk]
    clear hx htk
    generalize l[k] = x at *
    have FX := And.intro hat1 (And.intro hat2 hle)
    repeat' (first | refine WK.seq ?_ | refine WK.reg ?_ | refine IL.nil ?_ | refine WK.skip ?_ | refine WK.block ?_ | refine WK.exit_here ?_ | refine WK.e1 ?_ | refine WK.e2 ?_ | (with_reducible refine IL.wr ?_ ?_; focus exact cW) | refine IL.sgF ttok ?_ | (refine WK.cn (fun h => ?_) (fun h => ?_); all_goals first | (simp only [reduceCtorEq] at h; done) | (simp only [hsA, hsD, hsE, ne_eq] at h; first | done | (exfalso; omega; done) | skip) | skip))
    · rw [hgv h]
      all_goals try ((first | refine WK.ret ⟨.inr rfl, ?_⟩ | refine ⟨.inl rfl, ?_⟩ | refine ⟨.inl trivial, ?_⟩); refine Fin.o ?_ ?_ (h1 := by first | rfl | (simp only [go_sem, show Try.f21.results.toList = [.tmp 4] from rfl, reduceIte] <;> rfl)); rotate_left 1; (focus (first | rfl | skip)); all_goals try with_reducible rfl)
      all_goals skip
    · refine ⟨fun y hy => ?_, ?_⟩
      · rcases List.mem_append.1 hy with hy | hy
        · exact ho y hy
        · simp at hy; subst hy; exact h
      · (refine Weak.renS [] hfx rfl ?_ ?_ rfl <;> (simp only [go_sem, reduceIte, exists_eq_left', exists_eq_left, Blk.mk.injEq] <;> (try and_intros) <;> first | rfl | omega))
  · rw [List.take_length] at ho
    rw [getV_none ho]
    repeat' (first | refine WK.seq ?_ | refine WK.reg ?_ | refine IL.nil ?_ | refine WK.skip ?_ | refine WK.block ?_ | refine WK.exit_here ?_ | refine WK.e1 ?_ | refine WK.e2 ?_ | (with_reducible refine IL.wr ?_ ?_; focus exact cW) | refine IL.sg ttok ?_ | (refine WK.cn (fun h => ?_) (fun h => ?_); all_goals first | (simp only [reduceCtorEq] at h; done) | (simp only [hsA, hsD, hsE, ne_eq] at h; first | done | (exfalso; omega; done) | skip) | skip))
    all_goals try ((first | refine WK.ret ⟨.inr rfl, ?_⟩ | refine ⟨.inl rfl, ?_⟩ | refine ⟨.inl trivial, ?_⟩); refine Fin.o ?_ ?_ (h1 := by first | rfl | (simp only [go_sem, show Try.f21.results.toList = [.tmp 4] from rfl, reduceIte] <;> rfl)); rotate_left 1; (focus (first | rfl | skip)); all_goals try with_reducible rfl)
    all_goals skip
end Go.Proofs.Ytclhjcbnpdlgbaa.Vc
/- package vector, and the document's: what is lacked, how vectors stand. -/
namespace Go.Proofs.Ytclhjcbnpdlgbaa.Vc
open Go Go.Lift
set_option maxHeartbeats 4000000
set_option linter.unusedSimpArgs false
set_option linter.unusedVariables false
attribute [local irreducible] WK IL IP IG IW DW

abbrev Gp := Int × Int × Int
def gpC (a : Gp) : List IV := [.v (.int .u16 a.1), .v (.int .u32 a.2.1), .v (.int .u32 a.2.2)]
instance : Cells gpC 3 := ⟨fun _ => rfl, fun _ => rfl, fun _ => rfl⟩
theorem gpC_length (a : Gp) : (gpC a).length = 3 := rfl
def gapOf (v : List Ve) (x : Ve) : List Gp := if getV v x.1 < x.2 then [(x.1, getV v x.1 + 1, x.2)] else []
def lackV (v w : List Ve) : List Gp := w.flatMap (gapOf v)
theorem lackV_snoc (v w : List Ve) (x : Ve) : lackV v (w ++ [x]) = lackV v w ++ gapOf v x := by simp [lackV]
theorem lackV_le (v : List Ve) : ∀ w : List Ve, (lackV v w).length ≤ w.length
  | [] => Nat.le_refl _
  | x :: w => by
    have := lackV_le v w
    unfold lackV at this ⊢
    rw [List.flatMap_cons, List.length_append]
    have : (gapOf v x).length ≤ 1 := by unfold gapOf; split <;> simp
    simp only [List.length_cons]; omega
theorem lacks_call (v w : List Ve) (hs : Srt v) (hv : okVe v) (hw : okVe w) (hnv : v.length ≤ 100000) (hn : w.length ≤ 100000) :
    SCall Try.prog 46 [.tr v.length (encs veC v), .tr w.length (encs veC w)] (.own 65 (lackV v w).length true (encs gpC (lackV v w))) [.tr v.length (encs veC v), .tr w.length (encs veC w)] := by
  refine SCall.of_body' (TT := TT) (fun _ => false) [false, false] ttok Try.func46 rfl (Nat.le_of_ble_eq_true rfl) rfl fun fx hfx => WK.top ?_
  simp only [impl, imp, argT, List.append_nil, List.map_nil, List.nil_append, show Try.f46.ntmps = 35 from rfl, Nat.zero_add, Nat.reduceAdd]
  repeat' (first | refine WK.seq ?_ | refine WK.reg ?_ | refine IL.nil ?_ | refine WK.skip ?_ | refine WK.block ?_ | refine WK.exit_here ?_ | refine WK.e1 ?_ | refine WK.e2 ?_ | (with_reducible refine IL.wr ?_ ?_; focus exact cW) | refine IL.sg ttok ?_ | refine IL.cS ttok ent61 [.bor, .bor] true ?_ (hS := by exact hge) | (refine WK.cn (fun h => ?_) (fun h => ?_); all_goals first | (simp only [reduceCtorEq] at h; done) | (simp only [hsA, hsD, hsE, ne_eq] at h; first | done | (exfalso; omega; done) | skip) | skip))
  refine WK.forS w.length (fun k => True) (fun k => ⟨35, [(0, .tr v.length (encs veC v)), (5, .sl 0 0 0 (lackV v (w.take k)).length), (9, .tr w.length (encs veC w)), (10, .v (.int .i64 w.length)), (11, .v (.int .i64 k))], [some ⟨true, 65, (lackV v (w.take k)).length, true, encs gpC (lackV v (w.take k)), 0, false⟩]⟩) ⟨trivial, ?_⟩ (fun k hk ho => ?_) (fun ho => ?_)
  · (refine Weak.renS [1] hfx rfl ?_ ?_ rfl <;> (simp only [go_sem, reduceIte, exists_eq_left', exists_eq_left, Blk.mk.injEq, List.take_zero, lackV, List.flatMap_nil, List.length_nil, encs_nil] <;> (try and_intros) <;> first | rfl | omega))
  · have hx : w[k]? = some w[k] := List.getElem?_eq_getElem hk
    have hat : ((encs veC w).drop (k * 2)).take 2 = [.v (.int .u16 w[k].1), .v (.int .u32 w[k].2)] := encs_at veC_length hx
    have hle : k * 2 + 2 ≤ w.length * 2 := by omega
    have hne : encs veC w ≠ [] := encs_ne veC_length (by decide) hx
    have htk : w.take (k + 1) = w.take k ++ [w[k]] := by rw [List.take_add_one, hx]; rfl
    have hxr := hw _ (List.getElem_mem hk)
    have hge := get_call v w[k].1 hs hv.r hxr.1 (by omega)
    have hb := getV_bd hv w[k].1
    have hll := lackV_le v (w.take k)
    have hlt : (w.take k).length ≤ 100000 := by rw [List.length_take]; omega
    rw [htk, lackV_snoc]
    unfold gapOf
    clear htk hx
    generalize w[k] = x at *
    generalize getV v x.1 = g at *
    generalize lackV v (w.take k) = out at *
    have hsn := encs_snoc (f := gpC) out (x.1, g + 1, x.2)
    have htq : (encs gpC out).take (out.length * 3) = encs gpC out := encs_take_all gpC_length out
    simp only [gpC] at hsn
    have FX := And.intro hat hle
    repeat' (first | refine WK.seq ?_ | refine WK.reg ?_ | refine IL.nil ?_ | refine WK.skip ?_ | refine WK.block ?_ | refine WK.exit_here ?_ | refine WK.e1 ?_ | refine WK.e2 ?_ | (with_reducible refine IL.wr ?_ ?_; focus exact cW) | refine IL.sgF ttok ?_ | refine IL.cSF ttok ent61 [.bor, .bor] true ?_ (hS := by exact hge) | (refine WK.cn (fun h => ?_) (fun h => ?_); all_goals first | (simp only [reduceCtorEq] at h; done) | (simp only [hsA, hsD, hsE, ne_eq] at h; first | done | (exfalso; omega; done) | skip) | skip))
    · rw [if_pos h]
      refine ⟨trivial, ?_⟩
      (refine Weak.renS [0] hfx rfl ?_ ?_ rfl <;> (simp only [go_sem, reduceIte, exists_eq_left', exists_eq_left, Blk.mk.injEq, htq, hsn, List.length_append, List.length_cons, List.length_nil] <;> (try and_intros) <;> first | rfl | omega))
    · rw [if_neg (by omega)]
      refine ⟨trivial, ?_⟩
      (refine Weak.renS [0] hfx rfl ?_ ?_ rfl <;> (simp only [go_sem, reduceIte, exists_eq_left', exists_eq_left, Blk.mk.injEq, List.append_nil] <;> (try and_intros) <;> first | rfl | omega))
  · rw [List.take_length]
    repeat' (first | refine WK.seq ?_ | refine WK.reg ?_ | refine IL.nil ?_ | refine WK.skip ?_ | refine WK.block ?_ | refine WK.exit_here ?_ | refine WK.e1 ?_ | refine WK.e2 ?_ | (with_reducible refine IL.wr ?_ ?_; focus exact cW) | refine IL.sg ttok ?_ | refine IL.cS ttok ent61 [.bor, .bor] true ?_ (hS := by exact hge) | (refine WK.cn (fun h => ?_) (fun h => ?_); all_goals first | (simp only [reduceCtorEq] at h; done) | (simp only [hsA, hsD, hsE, ne_eq] at h; first | done | (exfalso; omega; done) | skip) | skip))
    all_goals try ((first | refine WK.ret ⟨.inr rfl, ?_⟩ | refine ⟨.inl rfl, ?_⟩ | refine ⟨.inl trivial, ?_⟩); refine Fin.o ?_ ?_ (h1 := by first | rfl | (simp only [go_sem, show Try.f46.results.toList = [.tmp 4] from rfl, reduceIte] <;> rfl)); rotate_left 1; (focus (first | rfl | skip)); all_goals try with_reducible rfl)
    all_goals skip
theorem refLacks_call (v w : List Ve) (hs : Srt v) (hv : okVe v) (hw : okVe w) (hnv : v.length ≤ 100000) (hn : w.length ≤ 100000) :
    SCall Try.prog 64 [.tr v.length (encs veC v), .tr w.length (encs veC w)] (.own 130 (lackV v w).length true (encs gpC (lackV v w))) [.tr v.length (encs veC v), .tr w.length (encs veC w)] := by
  refine SCall.of_body' (TT := TT) (fun _ => false) [false, false] ttok Try.func64 rfl (Nat.le_of_ble_eq_true rfl) rfl fun fx hfx => WK.top ?_
  simp only [impl, imp, argT, List.append_nil, List.map_nil, List.nil_append, show Try.f64.ntmps = 45 from rfl, Nat.zero_add, Nat.reduceAdd]
  repeat' (first | refine WK.seq ?_ | refine WK.reg ?_ | refine IL.nil ?_ | refine WK.skip ?_ | refine WK.block ?_ | refine WK.exit_here ?_ | refine WK.e1 ?_ | refine WK.e2 ?_ | refine WK.drawnS (id := 7) mixed [] [14, 15] [0, 0, 0, 0, 0, 0, 0, 0, 0, 0, 0, 0, 0, 0, 0, 1, 2] [1, 0, 0, 0, 0, 0, 0, 0, 0, 0, 0, 0, 0, 0, 0, 1, 2] (by decide +kernel) ?_ | refine DW.nil ?_ | (with_reducible refine IL.wr ?_ ?_; focus exact cW) | (with_reducible refine DW.wr ?_ ?_; focus exact cW) | refine IL.sg ttok ?_ | refine DW.re ttok ?_ | refine DW.rm ttok ?_ | refine DW.bk ttok ?_ | refine IL.cS ttok ent21 [.bor, .bor] true ?_ (hS := by exact hge) | (refine WK.cn (fun h => ?_) (fun h => ?_); all_goals first | (simp only [reduceCtorEq] at h; done) | (simp only [hsA, hsD, hsE, ne_eq] at h; first | done | (exfalso; omega; done) | skip) | skip))
  refine WK.forS w.length (fun k => True) (fun k => ⟨45, [(0, .tr v.length (encs veC v)), (1, .tr w.length (encs veC w)), (5, .sl 0 0 0 (lackV v (w.take k)).length), (6, .v (.int .i64 k))], [some ⟨true, 130, (lackV v (w.take k)).length, true, encs gpC (lackV v (w.take k)), 0, false⟩]⟩) ⟨trivial, ?_⟩ (fun k hk ho => ?_) (fun ho => ?_)
  · (refine Weak.renS [1] hfx rfl ?_ ?_ rfl <;> (simp only [go_sem, reduceIte, exists_eq_left', exists_eq_left, Blk.mk.injEq, List.take_zero, lackV, List.flatMap_nil, List.length_nil, encs_nil] <;> (try and_intros) <;> first | rfl | omega))
  · have hx : w[k]? = some w[k] := List.getElem?_eq_getElem hk
    have hat1 : (encs veC w)[k * 2 + 0]? = some (.v (.int .u16 w[k].1)) := encs_get veC_length hx (by decide)
    rw [Nat.add_zero] at hat1
    have hat2 : (encs veC w)[k * 2 + 1]? = some (.v (.int .u32 w[k].2)) := encs_get veC_length hx (by decide)
    have hle : k * 2 + 2 ≤ w.length * 2 := by omega
    have hne : encs veC w ≠ [] := encs_ne veC_length (by decide) hx
    have htk : w.take (k + 1) = w.take k ++ [w[k]] := by rw [List.take_add_one, hx]; rfl
    have hxr := hw _ (List.getElem_mem hk)
    have hge := refGet_call v w[k].1 hs (by omega)
    have hb := getV_bd hv w[k].1
    have hll := lackV_le v (w.take k)
    have hlt : (w.take k).length ≤ 100000 := by rw [List.length_take]; omega
    rw [htk, lackV_snoc]
    unfold gapOf
    clear htk hx
    generalize w[k] = x at *
    generalize getV v x.1 = g at *
    generalize lackV v (w.take k) = out at *
    have hsn := encs_snoc (f := gpC) out (x.1, g + 1, x.2)
    have htq : (encs gpC out).take (out.length * 3) = encs gpC out := encs_take_all gpC_length out
    simp only [gpC] at hsn
    have FX := And.intro hat1 (And.intro hat2 hle)
    repeat' (first | refine WK.seq ?_ | refine WK.reg ?_ | refine IL.nil ?_ | refine WK.skip ?_ | refine WK.block ?_ | refine WK.exit_here ?_ | refine WK.e1 ?_ | refine WK.e2 ?_ | refine WK.drawnS (id := 7) mixed [] [14, 15] [0, 0, 0, 0, 0, 0, 0, 0, 0, 0, 0, 0, 0, 0, 0, 1, 2] [1, 0, 0, 0, 0, 0, 0, 0, 0, 0, 0, 0, 0, 0, 0, 1, 2] (by decide +kernel) ?_ | refine DW.nil ?_ | (with_reducible refine IL.wr ?_ ?_; focus exact cW) | (with_reducible refine DW.wr ?_ ?_; focus exact cW) | refine IL.sgF ttok ?_ | refine DW.reF ttok ?_ | refine DW.rmF ttok ?_ | refine DW.bkF ttok ?_ | refine IL.cSF ttok ent21 [.bor, .bor] true ?_ (hS := by exact hge) | (refine WK.cn (fun h => ?_) (fun h => ?_); all_goals first | (simp only [reduceCtorEq] at h; done) | (simp only [hsA, hsD, hsE, ne_eq] at h; first | done | (exfalso; omega; done) | skip) | skip))
    · rw [if_pos h]
      refine ⟨trivial, ?_⟩
      (refine Weak.renS [0] hfx rfl ?_ ?_ rfl <;> (simp only [go_sem, reduceIte, exists_eq_left', exists_eq_left, Blk.mk.injEq, htq, hsn, List.length_append, List.length_cons, List.length_nil] <;> (try and_intros) <;> first | rfl | omega))
    · rw [if_neg (by omega)]
      refine ⟨trivial, ?_⟩
      (refine Weak.renS [0] hfx rfl ?_ ?_ rfl <;> (simp only [go_sem, reduceIte, exists_eq_left', exists_eq_left, Blk.mk.injEq, List.append_nil] <;> (try and_intros) <;> first | rfl | omega))
  · rw [List.take_length]
    repeat' (first | refine WK.seq ?_ | refine WK.reg ?_ | refine IL.nil ?_ | refine WK.skip ?_ | refine WK.block ?_ | refine WK.exit_here ?_ | refine WK.e1 ?_ | refine WK.e2 ?_ | refine WK.drawnS (id := 7) mixed [] [14, 15] [0, 0, 0, 0, 0, 0, 0, 0, 0, 0, 0, 0, 0, 0, 0, 1, 2] [1, 0, 0, 0, 0, 0, 0, 0, 0, 0, 0, 0, 0, 0, 0, 1, 2] (by decide +kernel) ?_ | refine DW.nil ?_ | (with_reducible refine IL.wr ?_ ?_; focus exact cW) | (with_reducible refine DW.wr ?_ ?_; focus exact cW) | refine IL.sg ttok ?_ | refine DW.re ttok ?_ | refine DW.rm ttok ?_ | refine DW.bk ttok ?_ | refine IL.cS ttok ent21 [.bor, .bor] true ?_ (hS := by exact hge) | (refine WK.cn (fun h => ?_) (fun h => ?_); all_goals first | (simp only [reduceCtorEq] at h; done) | (simp only [hsA, hsD, hsE, ne_eq] at h; first | done | (exfalso; omega; done) | skip) | skip))
    all_goals try ((first | refine WK.ret ⟨.inr rfl, ?_⟩ | refine ⟨.inl rfl, ?_⟩ | refine ⟨.inl trivial, ?_⟩); refine Fin.o ?_ ?_ (h1 := by first | rfl | (simp only [go_sem, show Try.f64.results.toList = [.tmp 4] from rfl, reduceIte] <;> rfl)); rotate_left 1; (focus (first | rfl | skip)); all_goals try with_reducible rfl)
    all_goals skip
def covV (v w : List Ve) : Bool := (lackV v w).length == 0
theorem refCovers_call (v w : List Ve) (hs : Srt v) (hv : okVe v) (hw : okVe w) (hnv : v.length ≤ 100000) (hn : w.length ≤ 100000) :
    SCall Try.prog 40 [.tr v.length (encs veC v), .tr w.length (encs veC w)] (.v (.bool (covV v w))) [.tr v.length (encs veC v), .tr w.length (encs veC w)] := by
  have hc : (((lackV v w).length : Int) == 0) = covV v w := by
    unfold covV
    by_cases h : (lackV v w).length = 0
    · rw [h]; rfl
    · rw [beq_eq_false_iff_ne.2 h, beq_eq_false_iff_ne]; omega
  refine SCall.of_body' (TT := TT) (fun _ => false) [false, false] ttok Try.func40 rfl (Nat.le_of_ble_eq_true rfl) rfl fun fx hfx => WK.top ?_
  simp only [impl, imp, argT, List.append_nil, List.map_nil, List.nil_append, show Try.f40.ntmps = 10 from rfl, Nat.zero_add, Nat.reduceAdd]
  have FX := hc
  repeat' (first | refine WK.seq ?_ | refine WK.reg ?_ | refine IL.nil ?_ | (with_reducible refine IL.wr ?_ ?_; focus exact cW) | refine IL.sgF ttok ?_ | refine IL.cSF ttok ent64 [.bor, .bor] true ?_ (hS := by exact refLacks_call _ _ hs hv hw hnv hn))
  all_goals try ((first | refine WK.ret ⟨.inr rfl, ?_⟩ | refine ⟨.inl rfl, ?_⟩ | refine ⟨.inl trivial, ?_⟩); refine Fin.o ?_ ?_ (h1 := by first | rfl | (simp only [go_sem, show Try.f40.results.toList = [.tmp 4] from rfl, reduceIte, hc] <;> rfl)) (h2 := by first | rfl | (simp only [go_sem, reduceIte, hc] <;> rfl)); rotate_left 1; (focus (first | rfl | skip)); all_goals try with_reducible rfl)
  all_goals skip
theorem covers_call (v w : List Ve) (hs : Srt v) (hv : okVe v) (hw : okVe w) (hnv : v.length ≤ 100000) (hn : w.length ≤ 100000) :
    SCall Try.prog 62 [.tr v.length (encs veC v), .tr w.length (encs veC w)] (.v (.bool (covV v w))) [.tr v.length (encs veC v), .tr w.length (encs veC w)] := by
  refine SCall.of_body' (TT := TT) (fun _ => false) [false, false] ttok Try.func62 rfl (Nat.le_of_ble_eq_true rfl) rfl fun fx hfx => WK.top ?_
  simp only [impl, imp, argT, List.append_nil, List.map_nil, List.nil_append, show Try.f62.ntmps = 21 from rfl, Nat.zero_add, Nat.reduceAdd]
  repeat' (first | refine WK.seq ?_ | refine WK.reg ?_ | refine IL.nil ?_ | refine WK.skip ?_ | refine WK.block ?_ | refine WK.exit_here ?_ | refine WK.e1 ?_ | refine WK.e2 ?_ | refine WK.drawnS (id := 4) mixed [] [3] [0, 0, 0, 0, 0, 0, 1] [0, 0, 0, 0, 1, 1, 1] (by decide +kernel) ?_ | refine DW.nil ?_ | (with_reducible refine IL.wr ?_ ?_; focus exact cW) | (with_reducible refine DW.wr ?_ ?_; focus exact cW) | refine IL.sg ttok ?_ | refine DW.re ttok ?_ | refine DW.rm ttok ?_ | refine DW.cS ttok ent61 [.bor, .bor] true ?_ (hS := by exact hge) | (refine WK.cn (fun h => ?_) (fun h => ?_); all_goals first | (simp only [reduceCtorEq] at h; done) | (simp only [hsA, hsD, hsE, ne_eq] at h; first | done | (exfalso; omega; done) | skip) | skip))
  refine WK.forS w.length (fun k => lackV v (w.take k) = []) (fun k => ⟨21, [(0, .tr v.length (encs veC v)), (7, .tr w.length (encs veC w)), (8, .v (.int .i64 w.length)), (9, .v (.int .i64 k))], []⟩) ⟨rfl, ?_⟩ (fun k hk ho => ?_) (fun ho => ?_)
  · (refine Weak.renS [] hfx rfl ?_ ?_ rfl <;> (simp only [go_sem, reduceIte, exists_eq_left', exists_eq_left, Blk.mk.injEq] <;> (try and_intros) <;> first | rfl | omega))
  · have hx : w[k]? = some w[k] := List.getElem?_eq_getElem hk
    have hat : ((encs veC w).drop (k * 2)).take 2 = [.v (.int .u16 w[k].1), .v (.int .u32 w[k].2)] := encs_at veC_length hx
    have hle : k * 2 + 2 ≤ w.length * 2 := by omega
    have hne : encs veC w ≠ [] := encs_ne veC_length (by decide) hx
    have htk : w.take (k + 1) = w.take k ++ [w[k]] := by rw [List.take_add_one, hx]; rfl
    have hxr := hw _ (List.getElem_mem hk)
    have hge := get_call v w[k].1 hs hv.r hxr.1 (by omega)
    have hno : getV v w[k].1 < w[k].2 → covV v w = false := fun h => by
      unfold covV
      have : (w[k].1, getV v w[k].1 + 1, w[k].2) ∈ lackV v w := by
        unfold lackV
        rw [List.mem_flatMap]
        exact ⟨w[k], List.getElem_mem hk, by unfold gapOf; rw [if_pos h]; simp⟩
      rw [beq_eq_false_iff_ne]
      intro h0
      rw [List.eq_nil_of_length_eq_zero h0] at this
      simp at this
    rw [htk, lackV_snoc, ho, List.nil_append]
    unfold gapOf
    clear htk hx
    generalize w[k] = x at *
    generalize getV v x.1 = g at *
    have FX := And.intro hat hle
    repeat' (first | refine WK.seq ?_ | refine WK.reg ?_ | refine IL.nil ?_ | refine WK.skip ?_ | refine WK.block ?_ | refine WK.exit_here ?_ | refine WK.e1 ?_ | refine WK.e2 ?_ | refine WK.drawnS (id := 4) mixed [] [3] [0, 0, 0, 0, 0, 0, 1] [0, 0, 0, 0, 1, 1, 1] (by decide +kernel) ?_ | refine DW.nil ?_ | (with_reducible refine IL.wr ?_ ?_; focus exact cW) | (with_reducible refine DW.wr ?_ ?_; focus exact cW) | refine IL.sgF ttok ?_ | refine DW.reF ttok ?_ | refine DW.rmF ttok ?_ | refine DW.cSF ttok ent61 [.bor, .bor] true ?_ (hS := by exact hge) | (refine WK.cn (fun h => ?_) (fun h => ?_); all_goals first | (simp only [reduceCtorEq] at h; done) | (simp only [hsA, hsD, hsE, ne_eq] at h; first | done | (exfalso; omega; done) | skip) | skip))
    · rw [hno h]
      all_goals try ((first | refine WK.ret ⟨.inr rfl, ?_⟩ | refine ⟨.inl rfl, ?_⟩ | refine ⟨.inl trivial, ?_⟩); refine Fin.o ?_ ?_ (h1 := by first | rfl | (simp only [go_sem, show Try.f62.results.toList = [.tmp 4] from rfl, reduceIte] <;> rfl)); rotate_left 1; (focus (first | rfl | skip)); all_goals try with_reducible rfl)
      all_goals skip
    · rw [if_neg (by omega)]
      refine ⟨rfl, ?_⟩
      (refine Weak.renS [] hfx rfl ?_ ?_ rfl <;> (simp only [go_sem, reduceIte, exists_eq_left', exists_eq_left, Blk.mk.injEq] <;> (try and_intros) <;> first | rfl | omega))
  · rw [List.take_length] at ho
    have hc : covV v w = true := by unfold covV; rw [ho]; rfl
    rw [hc]
    repeat' (first | refine WK.seq ?_ | refine WK.reg ?_ | refine IL.nil ?_ | refine WK.skip ?_ | refine WK.block ?_ | refine WK.exit_here ?_ | refine WK.e1 ?_ | refine WK.e2 ?_ | refine WK.drawnS (id := 4) mixed [] [3] [0, 0, 0, 0, 0, 0, 1] [0, 0, 0, 0, 1, 1, 1] (by decide +kernel) ?_ | refine DW.nil ?_ | (with_reducible refine IL.wr ?_ ?_; focus exact cW) | (with_reducible refine DW.wr ?_ ?_; focus exact cW) | refine IL.sg ttok ?_ | refine DW.re ttok ?_ | refine DW.rm ttok ?_ | refine DW.cS ttok ent61 [.bor, .bor] true ?_ (hS := by exact hge) | (refine WK.cn (fun h => ?_) (fun h => ?_); all_goals first | (simp only [reduceCtorEq] at h; done) | (simp only [hsA, hsD, hsE, ne_eq] at h; first | done | (exfalso; omega; done) | skip) | skip))
    all_goals try ((first | refine WK.ret ⟨.inr rfl, ?_⟩ | refine ⟨.inl rfl, ?_⟩ | refine ⟨.inl trivial, ?_⟩); refine Fin.o ?_ ?_ (h1 := by first | rfl | (simp only [go_sem, show Try.f62.results.toList = [.tmp 4] from rfl, reduceIte] <;> rfl)); rotate_left 1; (focus (first | rfl | skip)); all_goals try with_reducible rfl)
    all_goals skip
end Go.Proofs.Ytclhjcbnpdlgbaa.Vc
/- package vector, and the document's: which vectors may be. -/
namespace Go.Proofs.Ytclhjcbnpdlgbaa.Vc
open Go Go.Lift
set_option maxHeartbeats 4000000
set_option linter.unusedSimpArgs false
set_option linter.unusedVariables false
attribute [local irreducible] WK IL IP IG IW DW

def okB (l : List Ve) (k : Nat) : Bool := match l[k]? with
  | some x => decide (1 ≤ x.2) && decide (x.2 ≤ 268435456) && (k == 0 || (match l[k - 1]? with | some y => decide (y.1 < x.1) | none => true))
  | none => true
def rightB (l : List Ve) : Bool := (List.range l.length).all (okB l)
theorem rightB_no {l : List Ve} {k : Nat} (hk : k < l.length) (h : okB l k = false) : rightB l = false := by
  unfold rightB
  rw [List.all_eq_false]
  exact ⟨k, by simpa using hk, by simp [h]⟩
theorem rightB_yes {l : List Ve} (h : ∀ k, k < l.length → okB l k = true) : rightB l = true := by
  unfold rightB
  rw [List.all_eq_true]
  exact fun k hk => h k (by simpa using hk)
theorem okB_at {l : List Ve} {k : Nat} {x : Ve} (hx : l[k]? = some x) (h1 : 1 ≤ x.2) (h2 : x.2 ≤ 268435456) (h3 : ∀ y, 0 < k → l[k - 1]? = some y → y.1 < x.1) : okB l k = true := by
  unfold okB
  rw [hx]
  simp only [Bool.and_eq_true, Bool.or_eq_true, decide_eq_true_eq, beq_iff_eq]
  refine ⟨⟨h1, h2⟩, ?_⟩
  rcases Nat.eq_zero_or_pos k with h | h
  · exact .inl h
  · right
    split
    · exact decide_eq_true (h3 _ h ‹_›)
    · rfl
theorem okB_inv {l : List Ve} {k : Nat} {x : Ve} (hx : l[k]? = some x) (h : okB l k = true) : 1 ≤ x.2 ∧ x.2 ≤ 268435456 ∧ ∀ y, 0 < k → l[k - 1]? = some y → y.1 < x.1 := by
  unfold okB at h
  rw [hx] at h
  simp only [Bool.and_eq_true, Bool.or_eq_true, decide_eq_true_eq, beq_iff_eq] at h
  refine ⟨h.1.1, h.1.2, fun y hk hy => ?_⟩
  rcases h.2 with h0 | h0
  · omega
  · rw [hy] at h0
    exact of_decide_eq_true h0
theorem rightB_inv {l : List Ve} (h : rightB l = true) : Srt l ∧ ∀ x ∈ l, 1 ≤ x.2 ∧ x.2 ≤ 268435456 := by
  unfold rightB at h
  rw [List.all_eq_true] at h
  have h : ∀ k, k < l.length → okB l k = true := fun k hk => h k (by simpa using hk)
  refine ⟨?_, fun x hx => ?_⟩
  · have adj : ∀ (d i : Nat) (x y : Ve), l[i]? = some x → l[i + d + 1]? = some y → x.1 < y.1 := by
      intro d
      induction d with
      | zero =>
        intro i x y hx hy
        have := (okB_inv hy (h _ (List.getElem?_eq_some_iff.1 hy).1)).2.2 x (by omega)
        exact this (by simpa using hx)
      | succ d ih =>
        intro i x y hx hy
        have hlt : i + d + 1 < l.length := by have := (List.getElem?_eq_some_iff.1 hy).1; omega
        have hz : l[i + d + 1]? = some l[i + d + 1] := List.getElem?_eq_getElem hlt
        have h1 := ih i x _ hx hz
        have := (okB_inv hy (h _ (List.getElem?_eq_some_iff.1 hy).1)).2.2 l[i + d + 1] (by omega)
        have h2 := this (by rw [show i + (d + 1) + 1 - 1 = i + d + 1 by omega]; exact hz)
        omega
    unfold Srt
    rw [List.pairwise_iff_getElem]
    intro i j hi hj hij
    exact adj (j - i - 1) i _ _ (List.getElem?_eq_getElem hi) (by rw [show i + (j - i - 1) + 1 = j by omega]; exact List.getElem?_eq_getElem hj)
  · obtain ⟨k, hk, rfl⟩ := List.mem_iff_getElem.1 hx
    have := okB_inv (List.getElem?_eq_getElem hk) (h k hk)
    exact ⟨this.1, this.2.1⟩
theorem refRight_call (l : List Ve) (hn : l.length ≤ 1000000000000) (hl : ∀ x ∈ l, 0 ≤ x.1 ∧ x.1 ≤ 65535) : SCall Try.prog 32 [.tr l.length (encs veC l)] (.v (.bool (rightB l))) [.tr l.length (encs veC l)] := by
  refine SCall.of_body' (TT := TT) (fun _ => false) [false] ttok Try.func32 rfl (Nat.le_of_ble_eq_true rfl) rfl fun fx hfx => WK.top ?_
  simp only [impl, imp, argT, List.append_nil, List.map_nil, List.nil_append, show Try.f32.ntmps = 40 from rfl, Nat.zero_add, Nat.reduceAdd]
  repeat' (first | refine WK.seq ?_ | refine WK.reg ?_ | refine IL.nil ?_ | refine WK.skip ?_ | refine WK.block ?_ | refine WK.exit_here ?_ | refine WK.e1 ?_ | refine WK.e2 ?_ | refine WK.drawnS (id := 6) mixed [] [] [] [] (by decide +kernel) ?_ | refine DW.nil ?_ | (with_reducible refine IL.wr ?_ ?_; focus exact cW) | (with_reducible refine DW.wr ?_ ?_; focus exact cW) | refine IL.sg ttok ?_ | refine IL.nn ?_ | refine DW.re ttok ?_ | refine DW.rm ttok ?_ | refine DW.nn ?_ | refine DW.nb ?_ | ((first | ((first | refine IL.ag (fun h => ?_) (fun h => ?_) | refine DW.ag (fun h => ?_) (fun h => ?_) | refine IL.ap (fun h => ?_) (fun h => ?_) | refine DW.ap (fun h => ?_) (fun h => ?_)); (fail_if_success (focus (simp only [reduceCtorEq] at h)))) | refine WK.cn (fun h => ?_) (fun h => ?_)); all_goals first | (simp only [reduceCtorEq] at h; done) | (simp only [hsA, hsD, hsE, ne_eq] at h; first | done | (exfalso; omega; done) | skip) | skip))
  refine WK.forS l.length (fun k => ∀ j, j < k → okB l j = true) (fun k => ⟨40, [(0, .tr l.length (encs veC l)), (3, .v (.int .i64 k))], []⟩) ⟨by omega, ?_⟩ (fun k hk ho => ?_) (fun ho => ?_)
  · (refine Weak.renS [] hfx rfl ?_ ?_ rfl <;> (simp only [go_sem, reduceIte, exists_eq_left', exists_eq_left, Blk.mk.injEq] <;> (try and_intros) <;> first | rfl | omega))
  · have hx : l[k]? = some l[k] := List.getElem?_eq_getElem hk
    have hat1 : (encs veC l)[k * 2 + 0]? = some (.v (.int .u16 l[k].1)) := encs_get veC_length hx (by decide)
    rw [Nat.add_zero] at hat1
    have hat2 : (encs veC l)[k * 2 + 1]? = some (.v (.int .u32 l[k].2)) := encs_get veC_length hx (by decide)
    have hle : k * 2 + 2 ≤ l.length * 2 := by omega
    have hne : encs veC l ≠ [] := encs_ne veC_length (by decide) hx
    by_cases c1 : l[k].2 < 1
    · rw [rightB_no hk (by unfold okB; rw [hx]; simp; omega)]
      clear hx
      generalize l[k] = x at *
      have FX := And.intro hat1 (And.intro hat2 hle)
      repeat' (first | refine WK.seq ?_ | refine WK.reg ?_ | refine IL.nil ?_ | refine WK.skip ?_ | refine WK.block ?_ | refine WK.exit_here ?_ | refine WK.e1 ?_ | refine WK.e2 ?_ | refine WK.drawnS (id := 6) mixed [] [] [] [] (by decide +kernel) ?_ | refine DW.nil ?_ | (with_reducible refine IL.wr ?_ ?_; focus exact cW) | (with_reducible refine DW.wr ?_ ?_; focus exact cW) | refine IL.sgF ttok ?_ | refine IL.nn ?_ | refine DW.reF ttok ?_ | refine DW.rmF ttok ?_ | refine DW.nn ?_ | refine DW.nb ?_ | ((first | ((first | refine IL.ag (fun h => ?_) (fun h => ?_) | refine DW.ag (fun h => ?_) (fun h => ?_) | refine IL.ap (fun h => ?_) (fun h => ?_) | refine DW.ap (fun h => ?_) (fun h => ?_)); (fail_if_success (focus (simp only [reduceCtorEq] at h)))) | refine WK.cn (fun h => ?_) (fun h => ?_)); all_goals first | (simp only [reduceCtorEq] at h; done) | (simp only [hsA, hsD, hsE, ne_eq] at h; first | done | (exfalso; omega; done) | skip) | skip))
      all_goals try ((first | refine WK.ret ⟨.inr rfl, ?_⟩ | refine ⟨.inl rfl, ?_⟩ | refine ⟨.inl trivial, ?_⟩); refine Fin.o ?_ ?_ (h1 := by first | rfl | (simp only [go_sem, show Try.f32.results.toList = [.tmp 2] from rfl, reduceIte] <;> rfl)); rotate_left 1; (focus (first | rfl | skip)); all_goals try with_reducible rfl)
      all_goals skip
    · by_cases c2 : l[k].2 > 268435456
      · rw [rightB_no hk (by unfold okB; rw [hx]; simp; omega)]
        clear hx
        generalize l[k] = x at *
        have FX := And.intro hat1 (And.intro hat2 hle)
        repeat' (first | refine WK.seq ?_ | refine WK.reg ?_ | refine IL.nil ?_ | refine WK.skip ?_ | refine WK.block ?_ | refine WK.exit_here ?_ | refine WK.e1 ?_ | refine WK.e2 ?_ | refine WK.drawnS (id := 6) mixed [] [] [] [] (by decide +kernel) ?_ | refine DW.nil ?_ | (with_reducible refine IL.wr ?_ ?_; focus exact cW) | (with_reducible refine DW.wr ?_ ?_; focus exact cW) | refine IL.sgF ttok ?_ | refine IL.nn ?_ | refine DW.reF ttok ?_ | refine DW.rmF ttok ?_ | refine DW.nn ?_ | refine DW.nb ?_ | ((first | ((first | refine IL.ag (fun h => ?_) (fun h => ?_) | refine DW.ag (fun h => ?_) (fun h => ?_) | refine IL.ap (fun h => ?_) (fun h => ?_) | refine DW.ap (fun h => ?_) (fun h => ?_)); (fail_if_success (focus (simp only [reduceCtorEq] at h)))) | refine WK.cn (fun h => ?_) (fun h => ?_)); all_goals first | (simp only [reduceCtorEq] at h; done) | (simp only [hsA, hsD, hsE, ne_eq] at h; first | done | (exfalso; omega; done) | skip) | skip))
        all_goals try ((first | refine WK.ret ⟨.inr rfl, ?_⟩ | refine ⟨.inl rfl, ?_⟩ | refine ⟨.inl trivial, ?_⟩); refine Fin.o ?_ ?_ (h1 := by first | rfl | (simp only [go_sem, show Try.f32.results.toList = [.tmp 2] from rfl, reduceIte] <;> rfl)); rotate_left 1; (focus (first | rfl | skip)); all_goals try with_reducible rfl)
        all_goals skip
      · rcases Nat.eq_zero_or_pos k with rfl | hkp
        · have hok := okB_at hx (by omega) (by omega) (fun y h => absurd h (by omega))
          clear hx
          generalize l[0] = x at *
          simp only [Int.natCast_zero, Int.cast_ofNat_Int, Nat.zero_mul, Nat.zero_add] at hat1 hat2 hle ⊢
          have FX := And.intro hat1 (And.intro hat2 hle)
          repeat' (first | refine WK.seq ?_ | refine WK.reg ?_ | refine IL.nil ?_ | refine WK.skip ?_ | refine WK.block ?_ | refine WK.exit_here ?_ | refine WK.e1 ?_ | refine WK.e2 ?_ | refine WK.drawnS (id := 6) mixed [] [] [] [] (by decide +kernel) ?_ | refine DW.nil ?_ | (with_reducible refine IL.wr ?_ ?_; focus exact cW) | (with_reducible refine DW.wr ?_ ?_; focus exact cW) | refine IL.sgF ttok ?_ | refine IL.nn ?_ | refine DW.reF ttok ?_ | refine DW.rmF ttok ?_ | refine DW.nn ?_ | refine DW.nb ?_ | ((first | ((first | refine IL.ag (fun h => ?_) (fun h => ?_) | refine DW.ag (fun h => ?_) (fun h => ?_) | refine IL.ap (fun h => ?_) (fun h => ?_) | refine DW.ap (fun h => ?_) (fun h => ?_)); (fail_if_success (focus (simp only [reduceCtorEq] at h)))) | refine WK.cn (fun h => ?_) (fun h => ?_)); all_goals first | (simp only [reduceCtorEq] at h; done) | (simp only [hsA, hsD, hsE, ne_eq] at h; first | done | (exfalso; omega; done) | skip) | skip))
          refine ⟨fun j hj => ?_, ?_⟩
          · rcases Nat.lt_or_ge j 0 with h | h
            · exact ho j h
            · obtain rfl : j = 0 := by omega
              exact hok
          · (refine Weak.renS [] hfx rfl ?_ ?_ rfl <;> (simp only [go_sem, reduceIte, exists_eq_left', exists_eq_left, Blk.mk.injEq] <;> (try and_intros) <;> first | rfl | omega))
        · have hk1 : k - 1 < l.length := by omega
          have hy : l[k - 1]? = some l[k - 1] := List.getElem?_eq_getElem hk1
          have hat0 : (encs veC l)[(k - 1) * 2 + 0]? = some (.v (.int .u16 l[k - 1].1)) := encs_get veC_length hy (by decide)
          rw [Nat.add_zero] at hat0
          have hsub : ((k : Int) - 1).toNat = k - 1 := by omega
          by_cases c3 : l[k - 1].1 ≥ l[k].1
          · rw [rightB_no hk (by unfold okB; rw [hx, hy]; simp; omega)]
            clear hx hy
            generalize l[k] = x at *
            generalize l[k - 1] = y at *
            have FX := And.intro hat1 (And.intro hat2 (And.intro hle (And.intro hat0 hsub)))
            repeat' (first | refine WK.seq ?_ | refine WK.reg ?_ | refine IL.nil ?_ | refine WK.skip ?_ | refine WK.block ?_ | refine WK.exit_here ?_ | refine WK.e1 ?_ | refine WK.e2 ?_ | refine WK.drawnS (id := 6) mixed [] [] [] [] (by decide +kernel) ?_ | refine DW.nil ?_ | (with_reducible refine IL.wr ?_ ?_; focus exact cW) | (with_reducible refine DW.wr ?_ ?_; focus exact cW) | refine IL.sgF ttok ?_ | refine IL.nn ?_ | refine DW.reF ttok ?_ | refine DW.rmF ttok ?_ | refine DW.nn ?_ | refine DW.nb ?_ | ((first | ((first | refine IL.ag (fun h => ?_) (fun h => ?_) | refine DW.ag (fun h => ?_) (fun h => ?_) | refine IL.ap (fun h => ?_) (fun h => ?_) | refine DW.ap (fun h => ?_) (fun h => ?_)); (fail_if_success (focus (simp only [reduceCtorEq] at h)))) | refine WK.cn (fun h => ?_) (fun h => ?_)); all_goals first | (simp only [reduceCtorEq] at h; done) | (simp only [hsA, hsD, hsE, ne_eq] at h; first | done | (exfalso; omega; done) | skip) | skip))
            all_goals try ((first | refine WK.ret ⟨.inr rfl, ?_⟩ | refine ⟨.inl rfl, ?_⟩ | refine ⟨.inl trivial, ?_⟩); refine Fin.o ?_ ?_ (h1 := by first | rfl | (simp only [go_sem, show Try.f32.results.toList = [.tmp 2] from rfl, reduceIte] <;> rfl)); rotate_left 1; (focus (first | rfl | skip)); all_goals try with_reducible rfl)
            all_goals skip
          · have hok := okB_at hx (by omega) (by omega) (fun y h hy' => by rw [hy] at hy'; cases hy'; omega)
            clear hx hy
            generalize l[k] = x at *
            generalize l[k - 1] = y at *
            have FX := And.intro hat1 (And.intro hat2 (And.intro hle (And.intro hat0 hsub)))
            repeat' (first | refine WK.seq ?_ | refine WK.reg ?_ | refine IL.nil ?_ | refine WK.skip ?_ | refine WK.block ?_ | refine WK.exit_here ?_ | refine WK.e1 ?_ | refine WK.e2 ?_ | refine WK.drawnS (id := 6) mixed [] [] [] [] (by decide +kernel) ?_ | refine DW.nil ?_ | (with_reducible refine IL.wr ?_ ?_; focus exact cW) | (with_reducible refine DW.wr ?_ ?_; focus exact cW) | refine IL.sgF ttok ?_ | refine IL.nn ?_ | refine DW.reF ttok ?_ | refine DW.rmF ttok ?_ | refine DW.nn ?_ | refine DW.nb ?_ | ((first | ((first | refine IL.ag (fun h => ?_) (fun h => ?_) | refine DW.ag (fun h => ?_) (fun h => ?_) | refine IL.ap (fun h => ?_) (fun h => ?_) | refine DW.ap (fun h => ?_) (fun h => ?_)); (fail_if_success (focus (simp only [reduceCtorEq] at h)))) | refine WK.cn (fun h => ?_) (fun h => ?_)); all_goals first | (simp only [reduceCtorEq] at h; done) | (simp only [hsA, hsD, hsE, ne_eq] at h; first | done | (exfalso; omega; done) | skip) | skip))
            refine ⟨fun j hj => ?_, ?_⟩
            · rcases Nat.lt_or_ge j k with h | h
              · exact ho j h
              · obtain rfl : j = k := by omega
                exact hok
            · (refine Weak.renS [] hfx rfl ?_ ?_ rfl <;> (simp only [go_sem, reduceIte, exists_eq_left', exists_eq_left, Blk.mk.injEq] <;> (try and_intros) <;> first | rfl | omega))
  · rw [rightB_yes ho]
    repeat' (first | refine WK.seq ?_ | refine WK.reg ?_ | refine IL.nil ?_ | refine WK.skip ?_ | refine WK.block ?_ | refine WK.exit_here ?_ | refine WK.e1 ?_ | refine WK.e2 ?_ | refine WK.drawnS (id := 6) mixed [] [] [] [] (by decide +kernel) ?_ | refine DW.nil ?_ | (with_reducible refine IL.wr ?_ ?_; focus exact cW) | (with_reducible refine DW.wr ?_ ?_; focus exact cW) | refine IL.sg ttok ?_ | refine IL.nn ?_ | refine DW.re ttok ?_ | refine DW.rm ttok ?_ | refine DW.nn ?_ | refine DW.nb ?_ | ((first | ((first | refine IL.ag (fun h => ?_) (fun h => ?_) | refine DW.ag (fun h => ?_) (fun h => ?_) | refine IL.ap (fun h => ?_) (fun h => ?_) | refine DW.ap (fun h => ?_) (fun h => ?_)); (fail_if_success (focus (simp only [reduceCtorEq] at h)))) | refine WK.cn (fun h => ?_) (fun h => ?_)); all_goals first | (simp only [reduceCtorEq] at h; done) | (simp only [hsA, hsD, hsE, ne_eq] at h; first | done | (exfalso; omega; done) | skip) | skip))
    all_goals try ((first | refine WK.ret ⟨.inr rfl, ?_⟩ | refine ⟨.inl rfl, ?_⟩ | refine ⟨.inl trivial, ?_⟩); refine Fin.o ?_ ?_ (h1 := by first | rfl | (simp only [go_sem, show Try.f32.results.toList = [.tmp 2] from rfl, reduceIte] <;> rfl)); rotate_left 1; (focus (first | rfl | skip)); all_goals try with_reducible rfl)
    all_goals skip
end Go.Proofs.Ytclhjcbnpdlgbaa.Vc
/- package vector: Clone, With, Show. -/

namespace Go.Proofs.Ytclhjcbnpdlgbaa.Vc
open Go Go.Lift
set_option maxHeartbeats 4000000
set_option linter.unusedSimpArgs false
set_option linter.unusedVariables false
attribute [local irreducible] WK IL IP IG IW DW

def sC (s : List UInt8) : List IV := [.v (.string ⟨s.toArray⟩)]
theorem sC_length (s : List UInt8) : (sC s).length = 1 := rfl
instance : Cells sC 1 := ⟨sC_length, fun _ => rfl, fun _ => rfl⟩
theorem clone_call (l : List Ve) (hne : l ≠ []) (hl : l.length * 8 ≤ 140737488355328) : SCall Try.prog 41 [.tr l.length (encs veC l)] (.own 89 l.length true (encs veC l)) [.tr l.length (encs veC l)] := by
  have hne2 : encs veC l ≠ [] := by
    cases l with
    | nil => exact absurd rfl hne
    | cons a l => rw [encs_cons]; simp [veC]
  refine SCall.of_body' (TT := TT) (fun _ => false) [false] ttok Try.func41 rfl (Nat.le_of_ble_eq_true rfl) rfl fun fx hfx => WK.top ?_
  simp only [impl, imp, argT, List.append_nil, List.map_nil, List.nil_append, show Try.f41.ntmps = 8 from rfl, Nat.zero_add, Nat.reduceAdd]
  refine WK.seq ?_
  repeat' (first | refine WK.seq ?_ | refine WK.reg ?_ | refine IL.nil ?_ | refine WK.skip ?_ | (with_reducible refine IL.wr ?_ ?_; focus exact cW) | refine IL.sg ttok ?_ | (refine WK.cn (fun h => ?_) (fun h => ?_); all_goals first | (simp only [reduceCtorEq] at h; done) | (simp only [hsA, hsD, hsE, ne_eq] at h; first | done | (exfalso; omega; done) | skip) | skip))
  refine IL.nilcmp (σ' := ?_) (v := .tr l.length (encs veC l)) ttok (.inl rfl) rfl rfl rfl rfl hne2 (fun K hK => ?_) ?_; rotate_left 1
  · simp only [go_sem]; exact hK
  repeat' (first | refine WK.seq ?_ | refine WK.reg ?_ | refine IL.nil ?_ | refine WK.skip ?_ | (with_reducible refine IL.wr ?_ ?_; focus exact cW) | refine IL.sg ttok ?_ | (refine WK.cn (fun h => ?_) (fun h => ?_); all_goals first | (simp only [reduceCtorEq] at h; done) | (simp only [hsA, hsD, hsE, ne_eq] at h; first | done | (exfalso; omega; done) | skip) | skip))
  all_goals try ((first | refine WK.ret ⟨.inr rfl, ?_⟩ | refine ⟨.inl rfl, ?_⟩ | refine ⟨.inl trivial, ?_⟩); refine Fin.o ?_ ?_ (h1 := by first | rfl | (simp only [go_sem, show Try.f41.results.toList = [.tmp 2] from rfl, reduceIte] <;> rfl)); rotate_left 1; (focus (first | rfl | skip)); all_goals try with_reducible rfl)
  all_goals skip
theorem with_has (l : List Ve) (r q : Int) (x : Ve) (hs : Srt l) (hl : ∀ x ∈ l, 0 ≤ x.1 ∧ x.1 ≤ 65535) (hr : 0 ≤ r ∧ r ≤ 65535) (hn : l.length ≤ 1000000) (hx : l[pos l r]? = some x) (hxr : x.1 = r) (hq : q ≠ 0) :
    SCall Try.prog 15 [.tr l.length (encs veC l), .v (.int .u16 r), .v (.int .u32 q)] (.own 89 l.length true (encs veC (l.set (pos l r) (r, q)))) [.tr l.length (encs veC l), .v (.int .u16 r), .v (.int .u32 q)] := by
  have hp2 := (List.getElem?_eq_some_iff.1 hx).1
  have hne : l ≠ [] := by intro h; rw [h] at hp2; simp at hp2
  have hhas : has l r = true := by unfold has; rw [hx]; exact decide_eq_true hxr
  have hfc := find_call l r hs hl hr (by omega)
  rw [hhas] at hfc
  have hset : (encs veC l).set (pos l r * 2 + 1) (.v (.int .u32 q)) = encs veC (l.set (pos l r) (r, q)) := encs_set veC_length hx (by decide) (by rw [← hxr]; rfl)
  have hle : pos l r * 2 + 2 ≤ l.length * 2 := by omega
  have hle2 : pos l r * 2 + 1 + 1 ≤ l.length * 2 := by omega
  clear hx hhas
  generalize pos l r = m at *
  refine SCall.of_body' (TT := TT) (fun _ => false) [false, false, false] ttok Try.func15 rfl (Nat.le_of_ble_eq_true rfl) rfl fun fx hfx => WK.top ?_
  simp only [impl, imp, argT, List.append_nil, List.map_nil, List.nil_append, show Try.f15.ntmps = 48 from rfl, Nat.zero_add, Nat.reduceAdd]
  have FX := And.intro hle (And.intro hle2 hset)
  repeat' (first | refine WK.seq ?_ | refine WK.reg ?_ | refine IL.nil ?_ | refine WK.skip ?_ | refine WK.block ?_ | (with_reducible refine IL.wr ?_ ?_; focus exact cW) | refine IL.sgF ttok ?_ | refine IL.nn ?_ | refine IL.cSF ttok ent41 [.bor] true ?_ (hS := by refine clone_call _ hne ?_ <;> exact cO) | refine IL.cSF ttok ent42 [.bor, .bor] true ?_ (hS := by exact hfc) | ((first | ((first | refine IL.ag (fun h => ?_) (fun h => ?_) | refine IL.ap (fun h => ?_) (fun h => ?_)); (fail_if_success (focus (simp only [reduceCtorEq] at h)))) | refine WK.cn (fun h => ?_) (fun h => ?_)); all_goals first | (simp only [reduceCtorEq] at h; done) | (simp only [hsA, hsD, hsE, ne_eq] at h; first | done | (exfalso; omega; done) | skip) | skip))
  all_goals try ((first | refine WK.ret ⟨.inr rfl, ?_⟩ | refine ⟨.inl rfl, ?_⟩ | refine ⟨.inl trivial, ?_⟩); refine Fin.o ?_ ?_ (h1 := by first | rfl | (simp only [go_sem, show Try.f15.results.toList = [.tmp 6] from rfl, reduceIte, hset] <;> rfl)) (h2 := by first | rfl | (simp only [go_sem, reduceIte, hset] <;> rfl)); rotate_left 1; (focus (first | rfl | skip)); all_goals try with_reducible rfl)
  all_goals skip
end Go.Proofs.Ytclhjcbnpdlgbaa.Vc
/- slices.Insert at vector.Vector: in place. -/
namespace Go.Proofs.Ytclhjcbnpdlgbaa.Vc
open Go Go.Lift Go.Lib
set_option maxHeartbeats 4000000
set_option maxRecDepth 100000
set_option linter.unusedSimpArgs false
set_option linter.unusedVariables false

theorem ins_shift (g n c i gv m vc : Nat) (cur curv : Array Value) (us vs : List Value) (w : World) (hi : i < n) (hm : 0 < m) (hroom : n + m ≤ c) (hc63 : c ≤ 9223372036854775807) (hne : gv ≠ g)
    (hg : w.heap[g]? = some (.cells cur 89 (0, 0))) (hcur : cur.size = c * 2) (hgv : w.heap[gv]? = some (.cells curv 89 (0, 0)))
    (hus : us.length = (n - i) * 2) (hu : ∀ (j : Nat) (v : Value), us[j]? = some v → cur[i * 2 + j]? = some v) (hvs : vs.length = m * 2) (hv : ∀ (j : Nat) (v : Value), vs[j]? = some v → curv[j]? = some v) (h1c : ∀ v ∈ us, v.oneCell' = true) (h1v : ∀ v ∈ vs, v.oneCell' = true) :
    Calls Try.prog 44 #[.slice (some ⟨g, 0, none⟩) n c, .int .i64 i, .slice (some ⟨gv, 0, none⟩) m vc] w fun e w' =>
      e = .returned (.slice (some ⟨g, 0, none⟩) (n + m) c) ∧ w' = (w.drew.setRow g (spl cur ((i + m) * 2) us)).setRow g (spl (spl cur ((i + m) * 2) us) (i * 2) vs) := by
  have hmixed := mixed
  obtain ⟨i0, hi0, hi1, hi2⟩ : ∃ i0, (Try.prog).info? 89 = some i0 ∧ i0.size = 2 ∧ True := ⟨_, rfl, rfl, trivial⟩
  have u1 : (Try.prog).underlying 24 = some (.slice 89) := by kernel_rfl
  have u2 : (Try.prog).underlying 23 = some (.slice 89) := by kernel_rfl
  have v1 := fun w => run_underlying (w := w) u1
  have v2 := fun w => run_underlying (w := w) u2
  have z1 : ∀ w, (Go.sizeOf 89).run Try.prog w = .ok 2 w := fun w => by simp [sizeOf, typeInfo, hi0, hi1]
  have hz1 : ¬ ((m : Int) = 0) := by omega
  have hz2 : ¬ ((i : Int) = (n : Int)) := by omega
  have hcell : ∀ j, w.cell? ⟨g, j, none⟩ = cur[j]? := fun j => cell_of_row w g j cur _ _ hg
  have hcp1 : ∀ ty dc sc, (Builtin.copy_ #[24, 24] ty #[.slice (some ⟨g, (i + m) * 2, none⟩) (n + m - (i + m)) dc, .slice (some ⟨g, i * 2, none⟩) (n + m - i) sc]).run Try.prog w.drew = .ok (goInt (n - i : Nat)) (w.drew.setRow g (spl cur ((i + m) * 2) us)) := fun ty dc sc =>
    run_copyR w.drew u1 hi0 (g := g) (T := 89) (arr := cur) hg _ _ _ _ _ (n - i) us (by omega) (by rw [hus, hi1]) (fun j v hj => by
      rw [Addr.add_lit]
      exact (hcell _).trans (hu j v hj)) (by rw [hus, hcur]; omega) h1c
  have hsz := spl_size cur ((i + m) * 2) us (by rw [hus, hcur]; omega)
  obtain ⟨W1, hW1⟩ : ∃ W1, W1 = w.drew.setRow g (spl cur ((i + m) * 2) us) := ⟨_, rfl⟩
  have hgv1 : W1.heap[gv]? = some (.cells curv 89 (0, 0)) := by
    rw [hW1, setRow_other _ _ _ _ hne]; exact hgv
  have hcp2 : ∀ ty dc, (Builtin.copy_ #[24, 23] ty #[.slice (some ⟨g, i * 2, none⟩) (n + m - i) dc, .slice (some ⟨gv, 0, none⟩) m vc]).run Try.prog W1 = .ok (goInt (m : Nat)) (W1.setRow g (spl (spl cur ((i + m) * 2) us) (i * 2) vs)) := fun ty dc =>
    run_copyR W1 u1 hi0 (g := g) (T := 89) (arr := spl cur ((i + m) * 2) us) (by rw [hW1]; exact setRow_heap w.drew g cur _ _ _ hg) _ _ _ _ _ m vs (by omega) (by rw [hvs, hi1]) (fun j v hj => by
      rw [Addr.add_lit, Nat.zero_add]
      exact (cell_of_row _ gv j curv _ _ hgv1).trans (hv j v hj)) (by rw [hsz, hvs, hcur]; omega) h1v
  subst hW1
  have hov : ∀ lb cb, (callFunc 67 #[.slice (some ⟨gv, 0, none⟩) m vc, .slice (some ⟨g, (i + m) * 2, none⟩) lb cb]).run Try.prog w = .ok (.value (.bool false)) w := fun lb cb => by
    rw [run_callFunc_extern Try.func67 (by kernel_rfl) (by kernel_rfl) (by kernel_rfl) (e := Extern.SlicesOverlaps.overlaps #[23, 23] #[4]) (by kernel_rfl),
      Lib.run_overlaps_apart w 23 4 89 u2 2 z1 ⟨gv, 0, none⟩ ⟨g, (i + m) * 2, none⟩ m vc lb cb hne 89 89 curv.size cur.size (by simp [World.shape?, hgv]) (by simp [World.shape?, hg]) (by omega) (by simp [World.frozen?, hgv]) (by simp [World.frozen?, hgv])]
    rfl
  have hw1 : IntKind.i64.wrap ((i : Int) + (m : Int)) = (i : Int) + (m : Int) := by rw [IntKind.wrap_i64]; omega
  have hb1 : (0 : Int) ≤ (i : Int) + (m : Int) := by omega
  have hin : i ≤ n := by omega
  have htn : ((i : Int) + (m : Int)).toNat = i + m := by omega
  have hb2 : ¬ (c = i + m) := by omega
  have hb3 : (i : Int) ≤ (n : Int) + (m : Int) := by omega
  have hb4 : ¬ (c = i) := by omega
  clear hus hu hvs hv h1c h1v hcur hsz hcell hgv1 hg hgv
  go_enter Try.func44, Try.ntmps44
  go_wp2_with (simp only [hov])
  go_region_law_o (refine step_copy_runI rfl _ _ 24 24 rfl _ _ (by simp [Act.eval, Act.put]) (by simp [Act.eval, Act.put]) (hcp1 _ _ _) ?_)
  go_wp2_with (at_builtin; refine wpList_copy_runI _ rfl _ _ 24 23 rfl _ _ rfl rfl (hcp2 _ _) ?_)
  go_ret
  exact ⟨rfl, rfl⟩

theorem ins_end (base : Option Addr) (n c gv m vc : Nat) (w w1 : World) (v : Value) (hm : 0 < m) (hnc : n ≤ c) (hc63 : c ≤ 9223372036854775807)
    (hrun : ∀ ty, (Builtin.append_ #[24, 23] ty #[.slice base n c, .slice (some ⟨gv, 0, none⟩) m vc]).run Try.prog w = .ok v w1) :
    Calls Try.prog 44 #[.slice base n c, .int .i64 n, .slice (some ⟨gv, 0, none⟩) m vc] w fun e w' => e = .returned v ∧ w' = w1 := by
  have hmixed := mixed
  have u1 : (Try.prog).underlying 24 = some (.slice 89) := by kernel_rfl
  have u2 : (Try.prog).underlying 23 = some (.slice 89) := by kernel_rfl
  have v1 := fun w => run_underlying (w := w) u1
  have v2 := fun w => run_underlying (w := w) u2
  obtain ⟨i0, hi0, hi1⟩ : ∃ i0, (Try.prog).info? 89 = some i0 ∧ i0.size = 2 := ⟨_, rfl, rfl⟩
  have z1 : ∀ w, (Go.sizeOf 89).run Try.prog w = .ok 2 w := fun w => by simp [sizeOf, typeInfo, hi0, hi1]
  have hz1 : ¬ ((m : Int) = 0) := by omega
  go_enter Try.func44, Try.ntmps44
  cases base with
  | none =>
    go_wp2_with (at_builtin; refine Lib.wpList_append_run _ rfl _ _ _ _ rfl _ _ rfl rfl _ _ (hrun _) ?_)
    all_goals (go_ret; exact ⟨rfl, rfl⟩)
  | some a =>
    obtain ⟨ab, ao, asp⟩ := a
    go_wp2_with (at_builtin; refine Lib.wpList_append_run _ rfl _ _ _ _ rfl _ _ rfl rfl _ _ (hrun _) ?_)
    all_goals (go_ret; exact ⟨rfl, rfl⟩)
theorem ins_grow (g n c i gv m vc g2 c2 : Nat) (w w1 w2 w3 : World) (hi : i < n) (hnc : n ≤ c) (hm : 0 < m) (hroom : c < n + m) (hc63 : n + m ≤ 9223372036854775807) (hc2 : n + m ≤ c2)
    (hrz : ∀ ty, (Builtin.append_ #[24, 3] ty #[.slice (some ⟨g, 0, none⟩) i c, .int .i64 ((n : Int) + m - i)]).run Try.prog w = .ok (.slice (some ⟨g2, 0, none⟩) (n + m) c2) w1)
    (hcpA : ∀ ty dc, (Builtin.copy_ #[24, 23] ty #[.slice (some ⟨g2, i * 2, none⟩) (n + m - i) dc, .slice (some ⟨gv, 0, none⟩) m vc]).run Try.prog w1 = .ok (goInt (m : Nat)) w2)
    (hcpB : ∀ ty dc sc, (Builtin.copy_ #[24, 24] ty #[.slice (some ⟨g2, (i + m) * 2, none⟩) (n + m - (i + m)) dc, .slice (some ⟨g, i * 2, none⟩) (n - i) sc]).run Try.prog w2.drew = .ok (goInt (n - i : Nat)) w3) :
    Calls Try.prog 44 #[.slice (some ⟨g, 0, none⟩) n c, .int .i64 i, .slice (some ⟨gv, 0, none⟩) m vc] w fun e w' =>
      e = .returned (.slice (some ⟨g2, 0, none⟩) (n + m) c2) ∧ w' = w3 := by
  have hmixed := mixed
  have u1 : (Try.prog).underlying 24 = some (.slice 89) := by kernel_rfl
  have u2 : (Try.prog).underlying 23 = some (.slice 89) := by kernel_rfl
  have v1 := fun w => run_underlying (w := w) u1
  have v2 := fun w => run_underlying (w := w) u2
  obtain ⟨i0, hi0, hi1⟩ : ∃ i0, (Try.prog).info? 89 = some i0 ∧ i0.size = 2 := ⟨_, rfl, rfl⟩
  have z1 : ∀ w, (Go.sizeOf 89).run Try.prog w = .ok 2 w := fun w => by simp [sizeOf, typeInfo, hi0, hi1]
  have hz1 : ¬ ((m : Int) = 0) := by omega
  have hz2 : ¬ ((i : Int) = (n : Int)) := by omega
  have hz3 : (c : Int) < (n : Int) + (m : Int) := by omega
  have hw1 : IntKind.i64.wrap ((i : Int) + (m : Int)) = (i : Int) + (m : Int) := by rw [IntKind.wrap_i64]; omega
  have hb1 : (0 : Int) ≤ (i : Int) + (m : Int) := by omega
  have hin : i ≤ n := by omega
  have htn : ((i : Int) + (m : Int)).toNat = i + m := by omega
  have hb3 : (i : Int) ≤ (n : Int) := by omega
  have hGi : ¬ (c2 = i) := by omega
  have hGim : ¬ (c2 = i + m) := by omega
  have hci : ¬ (c = i) := by omega
  go_enter Try.func44, Try.ntmps44
  go_wp2_with (first
    | (at_builtin; refine Lib.wpList_append_run _ rfl _ _ _ _ rfl _ _ rfl rfl _ _ (hrz _) ?_)
    | (at_builtin; refine wpList_copy_runI _ rfl _ _ 24 23 rfl _ _ rfl rfl (hcpA _ _) ?_))
  go_region_law_o (refine step_copy_runI rfl _ _ 24 24 rfl _ _ (by simp [Act.eval, Act.put]) (by simp [Act.eval, Act.put]) (hcpB _ _ _) ?_)
  go_wp2
  go_ret
  exact ⟨rfl, rfl⟩
end Go.Proofs.Ytclhjcbnpdlgbaa.Vc
/- slices.Delete at vector.Vector: its walk. -/
namespace Go.Proofs.Ytclhjcbnpdlgbaa.Vc
open Go Go.Lift Go.Lib
set_option maxHeartbeats 4000000
set_option maxRecDepth 100000
set_option linter.unusedSimpArgs false
set_option linter.unusedVariables false

theorem del_walk (g n c i j : Nat) (A : Addr) (w w1 w2 : World) (hij : i < j) (hj : j ≤ n) (hnc : n ≤ c) (hc63 : c ≤ 9223372036854775807) (hA : (if c = j then (some ⟨g, 0, none⟩ : Option Addr) else some ⟨g, j * 2, none⟩) = some A)
    (hap : ∀ ty, (Builtin.append_ #[24, 24] ty #[.slice (some ⟨g, 0, none⟩) i c, .slice (some A) (n - j) (c - j)]).run Try.prog w.drew = .ok (.slice (some ⟨g, 0, none⟩) (i + (n - j)) c) w1)
    (hclr : ∀ ty, (Builtin.clear_ #[24] ty #[.slice (some ⟨g, (i + (n - j)) * 2, none⟩) (n - (i + (n - j))) (c - (i + (n - j)))]).run Try.prog w1 = .ok (.tuple #[]) w2) :
    Calls Try.prog 43 #[.slice (some ⟨g, 0, none⟩) n c, .int .i64 i, .int .i64 j] w fun e w' => e = .returned (.slice (some ⟨g, 0, none⟩) (i + (n - j)) c) ∧ w' = w2 := by
  have hmixed := mixed
  have u1 : (Try.prog).underlying 24 = some (.slice 89) := by kernel_rfl
  have v1 := fun w => run_underlying (w := w) u1
  obtain ⟨i0, hi0, hi1⟩ : ∃ i0, (Try.prog).info? 89 = some i0 ∧ i0.size = 2 := ⟨_, rfl, rfl⟩
  have z1 : ∀ w, (Go.sizeOf 89).run Try.prog w = .ok 2 w := fun w => by simp [sizeOf, typeInfo, hi0, hi1]
  have hz1 : ¬ ((i : Int) = (j : Int)) := by omega
  have hic : i ≤ c := by omega
  have hjc : j ≤ c := by omega
  have hci : ¬ (c = i + (n - j)) := by omega
  go_enter Try.func43, Try.ntmps43
  go_wp2_with fail
  go_region_law_o (refine step_append_runI rfl _ _ 24 24 rfl _ _ (by simp [Act.eval, Act.put]) (by simp [Act.eval, Act.put]) (hap _) ?_)
  go_wp2_with (at_builtin; refine wpList_clear_runI _ rfl _ 24 rfl _ rfl (hclr _) ?_)
  go_ret
  exact ⟨rfl, rfl⟩
end Go.Proofs.Ytclhjcbnpdlgbaa.Vc
