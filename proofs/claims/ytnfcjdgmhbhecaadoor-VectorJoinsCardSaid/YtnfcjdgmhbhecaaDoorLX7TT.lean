/- PRINTED BY wip/tools/mktt.py: what the evaluator knows of the types of the program YtnfcjdgmhbhecaaDoor. -/
import Derived.Test.YtnfcjdgmhbhecaaDoorProg
import Derived.Test.YtnfcjdgmhbhecaaDoorLA3
namespace Go.Proofs.YtnfcjdgmhbhecaaDoor
open Go Go.Lift
set_option maxRecDepth 20000

def TT : TTab := fun t => match t with
  | 2 => some ⟨(some .i64), none, 1, 8, false, true, [.v (.int .i64 0)], .oth⟩
  | 3 => some ⟨(some .i64), none, 1, 8, false, true, [.v (.int .i64 0)], .oth⟩
  | 4 => some ⟨none, none, 1, 1, false, true, [.v (.bool false)], .bool⟩
  | 5 => some ⟨(some .u8), none, 1, 1, false, true, [.v (.int .u8 0)], .oth⟩
  | 9 => some ⟨none, none, 1, 16, false, true, [.v (.string ⟨#[]⟩)], .str⟩
  | 12 => some ⟨(some .u64), none, 1, 8, false, true, [.v (.int .u64 0)], .oth⟩
  | 21 => some ⟨(some .i32), none, 1, 4, false, true, [.v (.int .i32 0)], .oth⟩
  | 23 => some ⟨none, (some [.int .i64, .int .i64]), 2, 16, true, true, [.v (.int .i64 0), .v (.int .i64 0)], (.struct [(0, 3), (1, 3)])⟩
  | 24 => some ⟨none, (some [.int .i64, .int .i64]), 2, 16, true, true, [.v (.int .i64 0), .v (.int .i64 0)], (.struct [(0, 3), (1, 3)])⟩
  | 25 => some ⟨none, (some [.int .i64, .int .i64, .int .i64, .int .i64]), 4, 32, true, true, [.v (.int .i64 0), .v (.int .i64 0), .v (.int .i64 0), .v (.int .i64 0)], (.struct [(0, 24), (2, 24)])⟩
  | 26 => some ⟨none, (some [.int .i64, .int .i64, .int .i64, .int .i64]), 4, 32, true, true, [.v (.int .i64 0), .v (.int .i64 0), .v (.int .i64 0), .v (.int .i64 0)], (.struct [(0, 24), (2, 24)])⟩
  | 29 => some ⟨none, none, 1, 16, false, true, [.v (.complex .f64 0 0)], .oth⟩
  | 30 => some ⟨none, (some [.complex, .complex]), 2, 32, true, true, [.v (.complex .f64 0 0), .v (.complex .f64 0 0)], (.struct [(0, 29), (1, 29)])⟩
  | 31 => some ⟨none, (some [.complex, .complex]), 2, 32, true, true, [.v (.complex .f64 0 0), .v (.complex .f64 0 0)], (.struct [(0, 29), (1, 29)])⟩
  | 40 => some ⟨none, (some [.int .i64, .int .i64, .int .i64, .int .i64, .int .i64, .int .i64, .int .i64, .int .i64, .int .i64, .int .i64]), 10, 80, true, true, [.v (.int .i64 0), .v (.int .i64 0), .v (.int .i64 0), .v (.int .i64 0), .v (.int .i64 0), .v (.int .i64 0), .v (.int .i64 0), .v (.int .i64 0), .v (.int .i64 0), .v (.int .i64 0)], (.struct [(0, 24), (2, 24), (4, 24), (6, 24), (8, 3), (9, 3)])⟩
  | 41 => some ⟨none, (some [.int .i64, .int .i64, .int .i64, .int .i64, .int .i64, .int .i64, .int .i64, .int .i64, .int .i64, .int .i64]), 10, 80, true, true, [.v (.int .i64 0), .v (.int .i64 0), .v (.int .i64 0), .v (.int .i64 0), .v (.int .i64 0), .v (.int .i64 0), .v (.int .i64 0), .v (.int .i64 0), .v (.int .i64 0), .v (.int .i64 0)], (.struct [(0, 24), (2, 24), (4, 24), (6, 24), (8, 3), (9, 3)])⟩
  | 44 => some ⟨none, none, 1, 24, false, false, [.row 24], (.slice 24)⟩
  | 47 => some ⟨none, (some [.complex, .complex, .complex, .complex, .int .i64, .int .i64]), 6, 80, true, true, [.v (.complex .f64 0 0), .v (.complex .f64 0 0), .v (.complex .f64 0 0), .v (.complex .f64 0 0), .v (.int .i64 0), .v (.int .i64 0)], (.struct [(0, 29), (1, 29), (2, 29), (3, 29), (4, 3), (5, 3)])⟩
  | 48 => some ⟨none, (some [.complex, .complex, .complex, .complex, .int .i64, .int .i64]), 6, 80, true, true, [.v (.complex .f64 0 0), .v (.complex .f64 0 0), .v (.complex .f64 0 0), .v (.complex .f64 0 0), .v (.int .i64 0), .v (.int .i64 0)], (.struct [(0, 29), (1, 29), (2, 29), (3, 29), (4, 3), (5, 3)])⟩
  | 50 => some ⟨none, none, 1, 24, false, false, [.row 29], (.slice 29)⟩
  | 57 => some ⟨none, none, 1, 24, false, false, [.row 118], (.slice 118)⟩
  | 58 => some ⟨none, none, 1, 24, false, false, [.row 118], (.slice 118)⟩
  | 60 => some ⟨none, none, 1, 24, false, false, [.row 74], (.slice 74)⟩
  | 66 => some ⟨(some .u16), none, 1, 2, false, true, [.v (.int .u16 0)], .oth⟩
  | 67 => some ⟨(some .u32), none, 1, 4, false, true, [.v (.int .u32 0)], .oth⟩
  | 73 => some ⟨none, (some [.int .u16, .int .u32]), 2, 8, true, true, [.v (.int .u16 0), .v (.int .u32 0)], (.struct [(0, 66), (1, 67)])⟩
  | 74 => some ⟨none, (some [.int .u16, .int .u32]), 2, 8, true, true, [.v (.int .u16 0), .v (.int .u32 0)], (.struct [(0, 66), (1, 67)])⟩
  | 80 => some ⟨none, none, 1, 24, false, false, [.row 86], (.slice 86)⟩
  | 82 => some ⟨none, none, 1, 24, false, false, [.row 85], (.slice 85)⟩
  | 84 => some ⟨none, (some [.int .u16, .int .u32, .int .u32]), 3, 12, true, true, [.v (.int .u16 0), .v (.int .u32 0), .v (.int .u32 0)], (.struct [(0, 66), (1, 67), (2, 67)])⟩
  | 85 => some ⟨none, (some [.int .u16, .int .u32, .int .u32]), 3, 12, true, true, [.v (.int .u16 0), .v (.int .u32 0), .v (.int .u32 0)], (.struct [(0, 66), (1, 67), (2, 67)])⟩
  | 86 => some ⟨none, (some [.int .u16, .int .u32, .int .u32]), 3, 12, true, true, [.v (.int .u16 0), .v (.int .u32 0), .v (.int .u32 0)], (.struct [(0, 66), (1, 67), (2, 67)])⟩
  | 88 => some ⟨none, (some [.int .u16, .int .u32]), 2, 8, true, true, [.v (.int .u16 0), .v (.int .u32 0)], (.struct [(0, 66), (1, 67)])⟩
  | 89 => some ⟨none, (some [.int .u16, .int .u32]), 2, 8, true, true, [.v (.int .u16 0), .v (.int .u32 0)], (.struct [(0, 66), (1, 67)])⟩
  | 90 => some ⟨(some .i64), none, 1, 8, false, true, [.v (.int .i64 0)], .oth⟩
  | 94 => some ⟨none, (some [.int .u16, .int .u32]), 2, 8, true, true, [.v (.int .u16 0), .v (.int .u32 0)], (.struct [(0, 66), (1, 67)])⟩
  | 102 => some ⟨(some .u64), none, 1, 8, false, true, [.v (.int .u64 0)], .oth⟩
  | 103 => some ⟨none, none, 1, 24, false, false, [.row 5], (.slice 5)⟩
  | 116 => some ⟨none, none, 1, 8, false, true, [.v (.float .f64 0)], .float⟩
  | 118 => some ⟨none, (some [.int .u16, .int .u32]), 2, 8, true, true, [.v (.int .u16 0), .v (.int .u32 0)], (.struct [(0, 66), (1, 67)])⟩
  | 119 => some ⟨none, none, 1, 24, false, false, [.row 58], (.slice 58)⟩
  | 124 => some ⟨none, none, 1, 24, false, false, [.row 9], (.slice 9)⟩
  | 126 => some ⟨(some .u64), none, 1, 8, false, true, [.v (.int .u64 0)], .oth⟩
  | 136 => some ⟨none, none, 1, 24, false, false, [.row 31], (.slice 31)⟩
  | 139 => some ⟨none, none, 1, 24, false, false, [.row 48], (.slice 48)⟩
  | 146 => some ⟨none, none, 1, 8, false, false, [.v (.pointer none)], .oth⟩
  | 147 => some ⟨none, none, 2, 32, true, false, [.v (.pointer none), .row 5], (.struct [(0, 146), (1, 103)])⟩
  | 148 => some ⟨none, none, 2, 32, true, false, [.v (.pointer none), .row 5], (.struct [(0, 146), (1, 103)])⟩
  | 161 => some ⟨none, none, 24, 24, true, true, [.v (.int .u8 0), .v (.int .u8 0), .v (.int .u8 0), .v (.int .u8 0), .v (.int .u8 0), .v (.int .u8 0), .v (.int .u8 0), .v (.int .u8 0), .v (.int .u8 0), .v (.int .u8 0), .v (.int .u8 0), .v (.int .u8 0), .v (.int .u8 0), .v (.int .u8 0), .v (.int .u8 0), .v (.int .u8 0), .v (.int .u8 0), .v (.int .u8 0), .v (.int .u8 0), .v (.int .u8 0), .v (.int .u8 0), .v (.int .u8 0), .v (.int .u8 0), .v (.int .u8 0)], (.arr 24 5)⟩
  | 166 => some ⟨none, none, 1, 8, false, false, [.v (.pointer none)], .oth⟩
  | 167 => some ⟨none, none, 1, 24, false, false, [.row 3], (.slice 3)⟩
  | 175 => some ⟨none, none, 20, 160, true, true, [.v (.int .u64 0), .v (.int .u64 0), .v (.int .u64 0), .v (.int .u64 0), .v (.int .u64 0), .v (.int .u64 0), .v (.int .u64 0), .v (.int .u64 0), .v (.int .u64 0), .v (.int .u64 0), .v (.int .u64 0), .v (.int .u64 0), .v (.int .u64 0), .v (.int .u64 0), .v (.int .u64 0), .v (.int .u64 0), .v (.int .u64 0), .v (.int .u64 0), .v (.int .u64 0), .v (.int .u64 0)], (.arr 20 126)⟩
  | 185 => some ⟨none, none, 1, 8, false, false, [.v (.pointer none)], .oth⟩
  | 195 => some ⟨none, none, 32, 32, true, true, [.v (.int .u8 0), .v (.int .u8 0), .v (.int .u8 0), .v (.int .u8 0), .v (.int .u8 0), .v (.int .u8 0), .v (.int .u8 0), .v (.int .u8 0), .v (.int .u8 0), .v (.int .u8 0), .v (.int .u8 0), .v (.int .u8 0), .v (.int .u8 0), .v (.int .u8 0), .v (.int .u8 0), .v (.int .u8 0), .v (.int .u8 0), .v (.int .u8 0), .v (.int .u8 0), .v (.int .u8 0), .v (.int .u8 0), .v (.int .u8 0), .v (.int .u8 0), .v (.int .u8 0), .v (.int .u8 0), .v (.int .u8 0), .v (.int .u8 0), .v (.int .u8 0), .v (.int .u8 0), .v (.int .u8 0), .v (.int .u8 0), .v (.int .u8 0)], (.arr 32 5)⟩
  | 196 => some ⟨none, none, 64, 64, true, true, [.v (.int .u8 0), .v (.int .u8 0), .v (.int .u8 0), .v (.int .u8 0), .v (.int .u8 0), .v (.int .u8 0), .v (.int .u8 0), .v (.int .u8 0), .v (.int .u8 0), .v (.int .u8 0), .v (.int .u8 0), .v (.int .u8 0), .v (.int .u8 0), .v (.int .u8 0), .v (.int .u8 0), .v (.int .u8 0), .v (.int .u8 0), .v (.int .u8 0), .v (.int .u8 0), .v (.int .u8 0), .v (.int .u8 0), .v (.int .u8 0), .v (.int .u8 0), .v (.int .u8 0), .v (.int .u8 0), .v (.int .u8 0), .v (.int .u8 0), .v (.int .u8 0), .v (.int .u8 0), .v (.int .u8 0), .v (.int .u8 0), .v (.int .u8 0), .v (.int .u8 0), .v (.int .u8 0), .v (.int .u8 0), .v (.int .u8 0), .v (.int .u8 0), .v (.int .u8 0), .v (.int .u8 0), .v (.int .u8 0), .v (.int .u8 0), .v (.int .u8 0), .v (.int .u8 0), .v (.int .u8 0), .v (.int .u8 0), .v (.int .u8 0), .v (.int .u8 0), .v (.int .u8 0), .v (.int .u8 0), .v (.int .u8 0), .v (.int .u8 0), .v (.int .u8 0), .v (.int .u8 0), .v (.int .u8 0), .v (.int .u8 0), .v (.int .u8 0), .v (.int .u8 0), .v (.int .u8 0), .v (.int .u8 0), .v (.int .u8 0), .v (.int .u8 0), .v (.int .u8 0), .v (.int .u8 0), .v (.int .u8 0)], (.arr 64 5)⟩
  | 197 => some ⟨none, none, 1, 8, false, false, [.v (.pointer none)], .oth⟩
  | 198 => some ⟨none, (some [.str]), 1, 16, true, true, [.v (.string ⟨#[]⟩)], (.struct [(0, 9)])⟩
  | 199 => some ⟨none, (some [.str]), 1, 16, true, true, [.v (.string ⟨#[]⟩)], (.struct [(0, 9)])⟩
  | _ => none

@[go_sem] theorem TTe2 : TT 2 = some ⟨(some .i64), none, 1, 8, false, true, [.v (.int .i64 0)], .oth⟩ := rfl
@[go_sem] theorem TTe3 : TT 3 = some ⟨(some .i64), none, 1, 8, false, true, [.v (.int .i64 0)], .oth⟩ := rfl
@[go_sem] theorem TTe4 : TT 4 = some ⟨none, none, 1, 1, false, true, [.v (.bool false)], .bool⟩ := rfl
@[go_sem] theorem TTe5 : TT 5 = some ⟨(some .u8), none, 1, 1, false, true, [.v (.int .u8 0)], .oth⟩ := rfl
@[go_sem] theorem TTe9 : TT 9 = some ⟨none, none, 1, 16, false, true, [.v (.string ⟨#[]⟩)], .str⟩ := rfl
@[go_sem] theorem TTe12 : TT 12 = some ⟨(some .u64), none, 1, 8, false, true, [.v (.int .u64 0)], .oth⟩ := rfl
@[go_sem] theorem TTe21 : TT 21 = some ⟨(some .i32), none, 1, 4, false, true, [.v (.int .i32 0)], .oth⟩ := rfl
@[go_sem] theorem TTe23 : TT 23 = some ⟨none, (some [.int .i64, .int .i64]), 2, 16, true, true, [.v (.int .i64 0), .v (.int .i64 0)], (.struct [(0, 3), (1, 3)])⟩ := rfl
@[go_sem] theorem TTe24 : TT 24 = some ⟨none, (some [.int .i64, .int .i64]), 2, 16, true, true, [.v (.int .i64 0), .v (.int .i64 0)], (.struct [(0, 3), (1, 3)])⟩ := rfl
@[go_sem] theorem TTe25 : TT 25 = some ⟨none, (some [.int .i64, .int .i64, .int .i64, .int .i64]), 4, 32, true, true, [.v (.int .i64 0), .v (.int .i64 0), .v (.int .i64 0), .v (.int .i64 0)], (.struct [(0, 24), (2, 24)])⟩ := rfl
@[go_sem] theorem TTe26 : TT 26 = some ⟨none, (some [.int .i64, .int .i64, .int .i64, .int .i64]), 4, 32, true, true, [.v (.int .i64 0), .v (.int .i64 0), .v (.int .i64 0), .v (.int .i64 0)], (.struct [(0, 24), (2, 24)])⟩ := rfl
@[go_sem] theorem TTe29 : TT 29 = some ⟨none, none, 1, 16, false, true, [.v (.complex .f64 0 0)], .oth⟩ := rfl
@[go_sem] theorem TTe30 : TT 30 = some ⟨none, (some [.complex, .complex]), 2, 32, true, true, [.v (.complex .f64 0 0), .v (.complex .f64 0 0)], (.struct [(0, 29), (1, 29)])⟩ := rfl
@[go_sem] theorem TTe31 : TT 31 = some ⟨none, (some [.complex, .complex]), 2, 32, true, true, [.v (.complex .f64 0 0), .v (.complex .f64 0 0)], (.struct [(0, 29), (1, 29)])⟩ := rfl
@[go_sem] theorem TTe40 : TT 40 = some ⟨none, (some [.int .i64, .int .i64, .int .i64, .int .i64, .int .i64, .int .i64, .int .i64, .int .i64, .int .i64, .int .i64]), 10, 80, true, true, [.v (.int .i64 0), .v (.int .i64 0), .v (.int .i64 0), .v (.int .i64 0), .v (.int .i64 0), .v (.int .i64 0), .v (.int .i64 0), .v (.int .i64 0), .v (.int .i64 0), .v (.int .i64 0)], (.struct [(0, 24), (2, 24), (4, 24), (6, 24), (8, 3), (9, 3)])⟩ := rfl
@[go_sem] theorem TTe41 : TT 41 = some ⟨none, (some [.int .i64, .int .i64, .int .i64, .int .i64, .int .i64, .int .i64, .int .i64, .int .i64, .int .i64, .int .i64]), 10, 80, true, true, [.v (.int .i64 0), .v (.int .i64 0), .v (.int .i64 0), .v (.int .i64 0), .v (.int .i64 0), .v (.int .i64 0), .v (.int .i64 0), .v (.int .i64 0), .v (.int .i64 0), .v (.int .i64 0)], (.struct [(0, 24), (2, 24), (4, 24), (6, 24), (8, 3), (9, 3)])⟩ := rfl
@[go_sem] theorem TTe44 : TT 44 = some ⟨none, none, 1, 24, false, false, [.row 24], (.slice 24)⟩ := rfl
@[go_sem] theorem TTe47 : TT 47 = some ⟨none, (some [.complex, .complex, .complex, .complex, .int .i64, .int .i64]), 6, 80, true, true, [.v (.complex .f64 0 0), .v (.complex .f64 0 0), .v (.complex .f64 0 0), .v (.complex .f64 0 0), .v (.int .i64 0), .v (.int .i64 0)], (.struct [(0, 29), (1, 29), (2, 29), (3, 29), (4, 3), (5, 3)])⟩ := rfl
@[go_sem] theorem TTe48 : TT 48 = some ⟨none, (some [.complex, .complex, .complex, .complex, .int .i64, .int .i64]), 6, 80, true, true, [.v (.complex .f64 0 0), .v (.complex .f64 0 0), .v (.complex .f64 0 0), .v (.complex .f64 0 0), .v (.int .i64 0), .v (.int .i64 0)], (.struct [(0, 29), (1, 29), (2, 29), (3, 29), (4, 3), (5, 3)])⟩ := rfl
@[go_sem] theorem TTe50 : TT 50 = some ⟨none, none, 1, 24, false, false, [.row 29], (.slice 29)⟩ := rfl
@[go_sem] theorem TTe57 : TT 57 = some ⟨none, none, 1, 24, false, false, [.row 118], (.slice 118)⟩ := rfl
@[go_sem] theorem TTe58 : TT 58 = some ⟨none, none, 1, 24, false, false, [.row 118], (.slice 118)⟩ := rfl
@[go_sem] theorem TTe60 : TT 60 = some ⟨none, none, 1, 24, false, false, [.row 74], (.slice 74)⟩ := rfl
@[go_sem] theorem TTe66 : TT 66 = some ⟨(some .u16), none, 1, 2, false, true, [.v (.int .u16 0)], .oth⟩ := rfl
@[go_sem] theorem TTe67 : TT 67 = some ⟨(some .u32), none, 1, 4, false, true, [.v (.int .u32 0)], .oth⟩ := rfl
@[go_sem] theorem TTe73 : TT 73 = some ⟨none, (some [.int .u16, .int .u32]), 2, 8, true, true, [.v (.int .u16 0), .v (.int .u32 0)], (.struct [(0, 66), (1, 67)])⟩ := rfl
@[go_sem] theorem TTe74 : TT 74 = some ⟨none, (some [.int .u16, .int .u32]), 2, 8, true, true, [.v (.int .u16 0), .v (.int .u32 0)], (.struct [(0, 66), (1, 67)])⟩ := rfl
@[go_sem] theorem TTe80 : TT 80 = some ⟨none, none, 1, 24, false, false, [.row 86], (.slice 86)⟩ := rfl
@[go_sem] theorem TTe82 : TT 82 = some ⟨none, none, 1, 24, false, false, [.row 85], (.slice 85)⟩ := rfl
@[go_sem] theorem TTe84 : TT 84 = some ⟨none, (some [.int .u16, .int .u32, .int .u32]), 3, 12, true, true, [.v (.int .u16 0), .v (.int .u32 0), .v (.int .u32 0)], (.struct [(0, 66), (1, 67), (2, 67)])⟩ := rfl
@[go_sem] theorem TTe85 : TT 85 = some ⟨none, (some [.int .u16, .int .u32, .int .u32]), 3, 12, true, true, [.v (.int .u16 0), .v (.int .u32 0), .v (.int .u32 0)], (.struct [(0, 66), (1, 67), (2, 67)])⟩ := rfl
@[go_sem] theorem TTe86 : TT 86 = some ⟨none, (some [.int .u16, .int .u32, .int .u32]), 3, 12, true, true, [.v (.int .u16 0), .v (.int .u32 0), .v (.int .u32 0)], (.struct [(0, 66), (1, 67), (2, 67)])⟩ := rfl
@[go_sem] theorem TTe88 : TT 88 = some ⟨none, (some [.int .u16, .int .u32]), 2, 8, true, true, [.v (.int .u16 0), .v (.int .u32 0)], (.struct [(0, 66), (1, 67)])⟩ := rfl
@[go_sem] theorem TTe89 : TT 89 = some ⟨none, (some [.int .u16, .int .u32]), 2, 8, true, true, [.v (.int .u16 0), .v (.int .u32 0)], (.struct [(0, 66), (1, 67)])⟩ := rfl
@[go_sem] theorem TTe90 : TT 90 = some ⟨(some .i64), none, 1, 8, false, true, [.v (.int .i64 0)], .oth⟩ := rfl
@[go_sem] theorem TTe94 : TT 94 = some ⟨none, (some [.int .u16, .int .u32]), 2, 8, true, true, [.v (.int .u16 0), .v (.int .u32 0)], (.struct [(0, 66), (1, 67)])⟩ := rfl
@[go_sem] theorem TTe102 : TT 102 = some ⟨(some .u64), none, 1, 8, false, true, [.v (.int .u64 0)], .oth⟩ := rfl
@[go_sem] theorem TTe103 : TT 103 = some ⟨none, none, 1, 24, false, false, [.row 5], (.slice 5)⟩ := rfl
@[go_sem] theorem TTe116 : TT 116 = some ⟨none, none, 1, 8, false, true, [.v (.float .f64 0)], .float⟩ := rfl
@[go_sem] theorem TTe118 : TT 118 = some ⟨none, (some [.int .u16, .int .u32]), 2, 8, true, true, [.v (.int .u16 0), .v (.int .u32 0)], (.struct [(0, 66), (1, 67)])⟩ := rfl
@[go_sem] theorem TTe119 : TT 119 = some ⟨none, none, 1, 24, false, false, [.row 58], (.slice 58)⟩ := rfl
@[go_sem] theorem TTe124 : TT 124 = some ⟨none, none, 1, 24, false, false, [.row 9], (.slice 9)⟩ := rfl
@[go_sem] theorem TTe126 : TT 126 = some ⟨(some .u64), none, 1, 8, false, true, [.v (.int .u64 0)], .oth⟩ := rfl
@[go_sem] theorem TTe136 : TT 136 = some ⟨none, none, 1, 24, false, false, [.row 31], (.slice 31)⟩ := rfl
@[go_sem] theorem TTe139 : TT 139 = some ⟨none, none, 1, 24, false, false, [.row 48], (.slice 48)⟩ := rfl
@[go_sem] theorem TTe146 : TT 146 = some ⟨none, none, 1, 8, false, false, [.v (.pointer none)], .oth⟩ := rfl
@[go_sem] theorem TTe147 : TT 147 = some ⟨none, none, 2, 32, true, false, [.v (.pointer none), .row 5], (.struct [(0, 146), (1, 103)])⟩ := rfl
@[go_sem] theorem TTe148 : TT 148 = some ⟨none, none, 2, 32, true, false, [.v (.pointer none), .row 5], (.struct [(0, 146), (1, 103)])⟩ := rfl
@[go_sem] theorem TTe161 : TT 161 = some ⟨none, none, 24, 24, true, true, [.v (.int .u8 0), .v (.int .u8 0), .v (.int .u8 0), .v (.int .u8 0), .v (.int .u8 0), .v (.int .u8 0), .v (.int .u8 0), .v (.int .u8 0), .v (.int .u8 0), .v (.int .u8 0), .v (.int .u8 0), .v (.int .u8 0), .v (.int .u8 0), .v (.int .u8 0), .v (.int .u8 0), .v (.int .u8 0), .v (.int .u8 0), .v (.int .u8 0), .v (.int .u8 0), .v (.int .u8 0), .v (.int .u8 0), .v (.int .u8 0), .v (.int .u8 0), .v (.int .u8 0)], (.arr 24 5)⟩ := rfl
@[go_sem] theorem TTe166 : TT 166 = some ⟨none, none, 1, 8, false, false, [.v (.pointer none)], .oth⟩ := rfl
@[go_sem] theorem TTe167 : TT 167 = some ⟨none, none, 1, 24, false, false, [.row 3], (.slice 3)⟩ := rfl
@[go_sem] theorem TTe175 : TT 175 = some ⟨none, none, 20, 160, true, true, [.v (.int .u64 0), .v (.int .u64 0), .v (.int .u64 0), .v (.int .u64 0), .v (.int .u64 0), .v (.int .u64 0), .v (.int .u64 0), .v (.int .u64 0), .v (.int .u64 0), .v (.int .u64 0), .v (.int .u64 0), .v (.int .u64 0), .v (.int .u64 0), .v (.int .u64 0), .v (.int .u64 0), .v (.int .u64 0), .v (.int .u64 0), .v (.int .u64 0), .v (.int .u64 0), .v (.int .u64 0)], (.arr 20 126)⟩ := rfl
@[go_sem] theorem TTe185 : TT 185 = some ⟨none, none, 1, 8, false, false, [.v (.pointer none)], .oth⟩ := rfl
@[go_sem] theorem TTe195 : TT 195 = some ⟨none, none, 32, 32, true, true, [.v (.int .u8 0), .v (.int .u8 0), .v (.int .u8 0), .v (.int .u8 0), .v (.int .u8 0), .v (.int .u8 0), .v (.int .u8 0), .v (.int .u8 0), .v (.int .u8 0), .v (.int .u8 0), .v (.int .u8 0), .v (.int .u8 0), .v (.int .u8 0), .v (.int .u8 0), .v (.int .u8 0), .v (.int .u8 0), .v (.int .u8 0), .v (.int .u8 0), .v (.int .u8 0), .v (.int .u8 0), .v (.int .u8 0), .v (.int .u8 0), .v (.int .u8 0), .v (.int .u8 0), .v (.int .u8 0), .v (.int .u8 0), .v (.int .u8 0), .v (.int .u8 0), .v (.int .u8 0), .v (.int .u8 0), .v (.int .u8 0), .v (.int .u8 0)], (.arr 32 5)⟩ := rfl
@[go_sem] theorem TTe196 : TT 196 = some ⟨none, none, 64, 64, true, true, [.v (.int .u8 0), .v (.int .u8 0), .v (.int .u8 0), .v (.int .u8 0), .v (.int .u8 0), .v (.int .u8 0), .v (.int .u8 0), .v (.int .u8 0), .v (.int .u8 0), .v (.int .u8 0), .v (.int .u8 0), .v (.int .u8 0), .v (.int .u8 0), .v (.int .u8 0), .v (.int .u8 0), .v (.int .u8 0), .v (.int .u8 0), .v (.int .u8 0), .v (.int .u8 0), .v (.int .u8 0), .v (.int .u8 0), .v (.int .u8 0), .v (.int .u8 0), .v (.int .u8 0), .v (.int .u8 0), .v (.int .u8 0), .v (.int .u8 0), .v (.int .u8 0), .v (.int .u8 0), .v (.int .u8 0), .v (.int .u8 0), .v (.int .u8 0), .v (.int .u8 0), .v (.int .u8 0), .v (.int .u8 0), .v (.int .u8 0), .v (.int .u8 0), .v (.int .u8 0), .v (.int .u8 0), .v (.int .u8 0), .v (.int .u8 0), .v (.int .u8 0), .v (.int .u8 0), .v (.int .u8 0), .v (.int .u8 0), .v (.int .u8 0), .v (.int .u8 0), .v (.int .u8 0), .v (.int .u8 0), .v (.int .u8 0), .v (.int .u8 0), .v (.int .u8 0), .v (.int .u8 0), .v (.int .u8 0), .v (.int .u8 0), .v (.int .u8 0), .v (.int .u8 0), .v (.int .u8 0), .v (.int .u8 0), .v (.int .u8 0), .v (.int .u8 0), .v (.int .u8 0), .v (.int .u8 0), .v (.int .u8 0)], (.arr 64 5)⟩ := rfl
@[go_sem] theorem TTe197 : TT 197 = some ⟨none, none, 1, 8, false, false, [.v (.pointer none)], .oth⟩ := rfl
@[go_sem] theorem TTe198 : TT 198 = some ⟨none, (some [.str]), 1, 16, true, true, [.v (.string ⟨#[]⟩)], (.struct [(0, 9)])⟩ := rfl
@[go_sem] theorem TTe199 : TT 199 = some ⟨none, (some [.str]), 1, 16, true, true, [.v (.string ⟨#[]⟩)], (.struct [(0, 9)])⟩ := rfl
theorem TTe : True := trivial
theorem tt2 : TIok Tryd.prog 2 ⟨(some .i64), none, 1, 8, false, true, [.v (.int .i64 0)], .oth⟩ :=
  TIok.mk' (z := ((.int .i64 0))) (by kernel_rfl) (by simp [zOk, Value.cells, Value.oneCell']) rfl (by decide) Tryd.underlying2 trivial rfl (fun k h => by cases h; exact Tryd.underlying2) (fun ks h => by cases h)
theorem tt3 : TIok Tryd.prog 3 ⟨(some .i64), none, 1, 8, false, true, [.v (.int .i64 0)], .oth⟩ :=
  TIok.mk' (z := ((.int .i64 0))) (by kernel_rfl) (by simp [zOk, Value.cells, Value.oneCell']) rfl (by decide) Tryd.underlying3 trivial rfl (fun k h => by cases h; exact Tryd.underlying3) (fun ks h => by cases h)
theorem tt4 : TIok Tryd.prog 4 ⟨none, none, 1, 1, false, true, [.v (.bool false)], .bool⟩ :=
  TIok.mk' (z := ((.bool false))) (by kernel_rfl) (by simp [zOk, Value.cells, Value.oneCell']) rfl (by decide) Tryd.underlying4 rfl rfl (fun k h => by cases h) (fun ks h => by cases h)
theorem tt5 : TIok Tryd.prog 5 ⟨(some .u8), none, 1, 1, false, true, [.v (.int .u8 0)], .oth⟩ :=
  TIok.mk' (z := ((.int .u8 0))) (by kernel_rfl) (by simp [zOk, Value.cells, Value.oneCell']) rfl (by decide) Tryd.underlying5 trivial rfl (fun k h => by cases h; exact Tryd.underlying5) (fun ks h => by cases h)
theorem tt9 : TIok Tryd.prog 9 ⟨none, none, 1, 16, false, true, [.v (.string ⟨#[]⟩)], .str⟩ :=
  TIok.mk' (z := ((.string ⟨#[]⟩))) (by kernel_rfl) (by simp [zOk, Value.cells, Value.oneCell']) rfl (by decide) Tryd.underlying9 rfl rfl (fun k h => by cases h) (fun ks h => by cases h)
theorem tt12 : TIok Tryd.prog 12 ⟨(some .u64), none, 1, 8, false, true, [.v (.int .u64 0)], .oth⟩ :=
  TIok.mk' (z := ((.int .u64 0))) (by kernel_rfl) (by simp [zOk, Value.cells, Value.oneCell']) rfl (by decide) Tryd.underlying12 trivial rfl (fun k h => by cases h; exact Tryd.underlying12) (fun ks h => by cases h)
theorem tt21 : TIok Tryd.prog 21 ⟨(some .i32), none, 1, 4, false, true, [.v (.int .i32 0)], .oth⟩ :=
  TIok.mk' (z := ((.int .i32 0))) (by kernel_rfl) (by simp [zOk, Value.cells, Value.oneCell']) rfl (by decide) Tryd.underlying21 trivial rfl (fun k h => by cases h; exact Tryd.underlying21) (fun ks h => by cases h)
theorem tt23_eq : EqTy Tryd.prog 2 23 [.int .i64, .int .i64] :=
  eqTy_struct Tryd.underlying23 (by kernel_rfl) (.one rfl rfl Tryd.underlying3 rfl (scEq_int 0 Tryd.underlying3) (.one rfl rfl Tryd.underlying3 rfl (scEq_int 0 Tryd.underlying3) .nil))
theorem tt23 : TIok Tryd.prog 23 ⟨none, (some [.int .i64, .int .i64]), 2, 16, true, true, [.v (.int .i64 0), .v (.int .i64 0)], (.struct [(0, 3), (1, 3)])⟩ :=
  TIok.mk' (z := (.agg #[(.int .i64 0), (.int .i64 0)])) (by kernel_rfl) (by simp [zOk, Value.cells, Value.oneCell']) rfl (by decide) Tryd.underlying23 ⟨_, rfl, rfl⟩ rfl (fun k h => by cases h) (eqk_flat (by kernel_rfl) (by decide) tt23_eq)
theorem tt24_eq : EqTy Tryd.prog 2 24 [.int .i64, .int .i64] :=
  eqTy_struct Tryd.underlying24 (by kernel_rfl) (.one rfl rfl Tryd.underlying3 rfl (scEq_int 0 Tryd.underlying3) (.one rfl rfl Tryd.underlying3 rfl (scEq_int 0 Tryd.underlying3) .nil))
theorem tt24 : TIok Tryd.prog 24 ⟨none, (some [.int .i64, .int .i64]), 2, 16, true, true, [.v (.int .i64 0), .v (.int .i64 0)], (.struct [(0, 3), (1, 3)])⟩ :=
  TIok.mk' (z := (.agg #[(.int .i64 0), (.int .i64 0)])) (by kernel_rfl) (by simp [zOk, Value.cells, Value.oneCell']) rfl (by decide) Tryd.underlying24 ⟨_, rfl, rfl⟩ rfl (fun k h => by cases h) (eqk_flat (by kernel_rfl) (by decide) tt24_eq)
theorem tt25_eq : EqTy Tryd.prog 3 25 [.int .i64, .int .i64, .int .i64, .int .i64] :=
  eqTy_struct Tryd.underlying25 (by kernel_rfl) (.sub (ks1 := [.int .i64, .int .i64]) (ks := [.int .i64, .int .i64]) rfl rfl Tryd.underlying24 (by kernel_rfl) (tt24_eq.up (by decide)) (.sub (ks1 := [.int .i64, .int .i64]) (ks := []) rfl rfl Tryd.underlying24 (by kernel_rfl) (tt24_eq.up (by decide)) .nil))
theorem tt25 : TIok Tryd.prog 25 ⟨none, (some [.int .i64, .int .i64, .int .i64, .int .i64]), 4, 32, true, true, [.v (.int .i64 0), .v (.int .i64 0), .v (.int .i64 0), .v (.int .i64 0)], (.struct [(0, 24), (2, 24)])⟩ :=
  TIok.mk' (z := (.agg #[(.int .i64 0), (.int .i64 0), (.int .i64 0), (.int .i64 0)])) (by kernel_rfl) (by simp [zOk, Value.cells, Value.oneCell']) rfl (by decide) Tryd.underlying25 ⟨_, rfl, rfl⟩ rfl (fun k h => by cases h) (eqk_flat (by kernel_rfl) (by decide) tt25_eq)
theorem tt26_eq : EqTy Tryd.prog 3 26 [.int .i64, .int .i64, .int .i64, .int .i64] :=
  eqTy_struct Tryd.underlying26 (by kernel_rfl) (.sub (ks1 := [.int .i64, .int .i64]) (ks := [.int .i64, .int .i64]) rfl rfl Tryd.underlying24 (by kernel_rfl) (tt24_eq.up (by decide)) (.sub (ks1 := [.int .i64, .int .i64]) (ks := []) rfl rfl Tryd.underlying24 (by kernel_rfl) (tt24_eq.up (by decide)) .nil))
theorem tt26 : TIok Tryd.prog 26 ⟨none, (some [.int .i64, .int .i64, .int .i64, .int .i64]), 4, 32, true, true, [.v (.int .i64 0), .v (.int .i64 0), .v (.int .i64 0), .v (.int .i64 0)], (.struct [(0, 24), (2, 24)])⟩ :=
  TIok.mk' (z := (.agg #[(.int .i64 0), (.int .i64 0), (.int .i64 0), (.int .i64 0)])) (by kernel_rfl) (by simp [zOk, Value.cells, Value.oneCell']) rfl (by decide) Tryd.underlying26 ⟨_, rfl, rfl⟩ rfl (fun k h => by cases h) (eqk_flat (by kernel_rfl) (by decide) tt26_eq)
theorem tt29 : TIok Tryd.prog 29 ⟨none, none, 1, 16, false, true, [.v (.complex .f64 0 0)], .oth⟩ :=
  TIok.mk' (z := ((.complex .f64 0 0))) (by kernel_rfl) (by simp [zOk, Value.cells, Value.oneCell']) rfl (by decide) Tryd.underlying29 trivial rfl (fun k h => by cases h) (fun ks h => by cases h)
theorem tt30_eq : EqTy Tryd.prog 2 30 [.complex, .complex] :=
  eqTy_struct Tryd.underlying30 (by kernel_rfl) (.one rfl rfl Tryd.underlying29 rfl (scEq_complex 0 Tryd.underlying29) (.one rfl rfl Tryd.underlying29 rfl (scEq_complex 0 Tryd.underlying29) .nil))
theorem tt30 : TIok Tryd.prog 30 ⟨none, (some [.complex, .complex]), 2, 32, true, true, [.v (.complex .f64 0 0), .v (.complex .f64 0 0)], (.struct [(0, 29), (1, 29)])⟩ :=
  TIok.mk' (z := (.agg #[(.complex .f64 0 0), (.complex .f64 0 0)])) (by kernel_rfl) (by simp [zOk, Value.cells, Value.oneCell']) rfl (by decide) Tryd.underlying30 ⟨_, rfl, rfl⟩ rfl (fun k h => by cases h) (eqk_flat (by kernel_rfl) (by decide) tt30_eq)
theorem tt31_eq : EqTy Tryd.prog 2 31 [.complex, .complex] :=
  eqTy_struct Tryd.underlying31 (by kernel_rfl) (.one rfl rfl Tryd.underlying29 rfl (scEq_complex 0 Tryd.underlying29) (.one rfl rfl Tryd.underlying29 rfl (scEq_complex 0 Tryd.underlying29) .nil))
theorem tt31 : TIok Tryd.prog 31 ⟨none, (some [.complex, .complex]), 2, 32, true, true, [.v (.complex .f64 0 0), .v (.complex .f64 0 0)], (.struct [(0, 29), (1, 29)])⟩ :=
  TIok.mk' (z := (.agg #[(.complex .f64 0 0), (.complex .f64 0 0)])) (by kernel_rfl) (by simp [zOk, Value.cells, Value.oneCell']) rfl (by decide) Tryd.underlying31 ⟨_, rfl, rfl⟩ rfl (fun k h => by cases h) (eqk_flat (by kernel_rfl) (by decide) tt31_eq)
theorem tt40_eq : EqTy Tryd.prog 3 40 [.int .i64, .int .i64, .int .i64, .int .i64, .int .i64, .int .i64, .int .i64, .int .i64, .int .i64, .int .i64] :=
  eqTy_struct Tryd.underlying40 (by kernel_rfl) (.sub (ks1 := [.int .i64, .int .i64]) (ks := [.int .i64, .int .i64, .int .i64, .int .i64, .int .i64, .int .i64, .int .i64, .int .i64]) rfl rfl Tryd.underlying24 (by kernel_rfl) (tt24_eq.up (by decide)) (.sub (ks1 := [.int .i64, .int .i64]) (ks := [.int .i64, .int .i64, .int .i64, .int .i64, .int .i64, .int .i64]) rfl rfl Tryd.underlying24 (by kernel_rfl) (tt24_eq.up (by decide)) (.sub (ks1 := [.int .i64, .int .i64]) (ks := [.int .i64, .int .i64, .int .i64, .int .i64]) rfl rfl Tryd.underlying24 (by kernel_rfl) (tt24_eq.up (by decide)) (.sub (ks1 := [.int .i64, .int .i64]) (ks := [.int .i64, .int .i64]) rfl rfl Tryd.underlying24 (by kernel_rfl) (tt24_eq.up (by decide)) (.one rfl rfl Tryd.underlying3 rfl (scEq_int 1 Tryd.underlying3) (.one rfl rfl Tryd.underlying3 rfl (scEq_int 1 Tryd.underlying3) .nil))))))
theorem tt40 : TIok Tryd.prog 40 ⟨none, (some [.int .i64, .int .i64, .int .i64, .int .i64, .int .i64, .int .i64, .int .i64, .int .i64, .int .i64, .int .i64]), 10, 80, true, true, [.v (.int .i64 0), .v (.int .i64 0), .v (.int .i64 0), .v (.int .i64 0), .v (.int .i64 0), .v (.int .i64 0), .v (.int .i64 0), .v (.int .i64 0), .v (.int .i64 0), .v (.int .i64 0)], (.struct [(0, 24), (2, 24), (4, 24), (6, 24), (8, 3), (9, 3)])⟩ :=
  TIok.mk' (z := (.agg #[(.int .i64 0), (.int .i64 0), (.int .i64 0), (.int .i64 0), (.int .i64 0), (.int .i64 0), (.int .i64 0), (.int .i64 0), (.int .i64 0), (.int .i64 0)])) (by kernel_rfl) (by simp [zOk, Value.cells, Value.oneCell']) rfl (by decide) Tryd.underlying40 ⟨_, rfl, rfl⟩ rfl (fun k h => by cases h) (eqk_flat (by kernel_rfl) (by decide) tt40_eq)
theorem tt41_eq : EqTy Tryd.prog 3 41 [.int .i64, .int .i64, .int .i64, .int .i64, .int .i64, .int .i64, .int .i64, .int .i64, .int .i64, .int .i64] :=
  eqTy_struct Tryd.underlying41 (by kernel_rfl) (.sub (ks1 := [.int .i64, .int .i64]) (ks := [.int .i64, .int .i64, .int .i64, .int .i64, .int .i64, .int .i64, .int .i64, .int .i64]) rfl rfl Tryd.underlying24 (by kernel_rfl) (tt24_eq.up (by decide)) (.sub (ks1 := [.int .i64, .int .i64]) (ks := [.int .i64, .int .i64, .int .i64, .int .i64, .int .i64, .int .i64]) rfl rfl Tryd.underlying24 (by kernel_rfl) (tt24_eq.up (by decide)) (.sub (ks1 := [.int .i64, .int .i64]) (ks := [.int .i64, .int .i64, .int .i64, .int .i64]) rfl rfl Tryd.underlying24 (by kernel_rfl) (tt24_eq.up (by decide)) (.sub (ks1 := [.int .i64, .int .i64]) (ks := [.int .i64, .int .i64]) rfl rfl Tryd.underlying24 (by kernel_rfl) (tt24_eq.up (by decide)) (.one rfl rfl Tryd.underlying3 rfl (scEq_int 1 Tryd.underlying3) (.one rfl rfl Tryd.underlying3 rfl (scEq_int 1 Tryd.underlying3) .nil))))))
theorem tt41 : TIok Tryd.prog 41 ⟨none, (some [.int .i64, .int .i64, .int .i64, .int .i64, .int .i64, .int .i64, .int .i64, .int .i64, .int .i64, .int .i64]), 10, 80, true, true, [.v (.int .i64 0), .v (.int .i64 0), .v (.int .i64 0), .v (.int .i64 0), .v (.int .i64 0), .v (.int .i64 0), .v (.int .i64 0), .v (.int .i64 0), .v (.int .i64 0), .v (.int .i64 0)], (.struct [(0, 24), (2, 24), (4, 24), (6, 24), (8, 3), (9, 3)])⟩ :=
  TIok.mk' (z := (.agg #[(.int .i64 0), (.int .i64 0), (.int .i64 0), (.int .i64 0), (.int .i64 0), (.int .i64 0), (.int .i64 0), (.int .i64 0), (.int .i64 0), (.int .i64 0)])) (by kernel_rfl) (by simp [zOk, Value.cells, Value.oneCell']) rfl (by decide) Tryd.underlying41 ⟨_, rfl, rfl⟩ rfl (fun k h => by cases h) (eqk_flat (by kernel_rfl) (by decide) tt41_eq)
theorem tt44 : TIok Tryd.prog 44 ⟨none, none, 1, 24, false, false, [.row 24], (.slice 24)⟩ :=
  TIok.mk' (z := ((.slice none 0 0))) (by kernel_rfl) (by simp [zOk, Value.cells, Value.oneCell']) rfl (by decide) Tryd.underlying44 rfl rfl (fun k h => by cases h) (fun ks h => by cases h)
theorem tt47_eq : EqTy Tryd.prog 2 47 [.complex, .complex, .complex, .complex, .int .i64, .int .i64] :=
  eqTy_struct Tryd.underlying47 (by kernel_rfl) (.one rfl rfl Tryd.underlying29 rfl (scEq_complex 0 Tryd.underlying29) (.one rfl rfl Tryd.underlying29 rfl (scEq_complex 0 Tryd.underlying29) (.one rfl rfl Tryd.underlying29 rfl (scEq_complex 0 Tryd.underlying29) (.one rfl rfl Tryd.underlying29 rfl (scEq_complex 0 Tryd.underlying29) (.one rfl rfl Tryd.underlying3 rfl (scEq_int 0 Tryd.underlying3) (.one rfl rfl Tryd.underlying3 rfl (scEq_int 0 Tryd.underlying3) .nil))))))
theorem tt47 : TIok Tryd.prog 47 ⟨none, (some [.complex, .complex, .complex, .complex, .int .i64, .int .i64]), 6, 80, true, true, [.v (.complex .f64 0 0), .v (.complex .f64 0 0), .v (.complex .f64 0 0), .v (.complex .f64 0 0), .v (.int .i64 0), .v (.int .i64 0)], (.struct [(0, 29), (1, 29), (2, 29), (3, 29), (4, 3), (5, 3)])⟩ :=
  TIok.mk' (z := (.agg #[(.complex .f64 0 0), (.complex .f64 0 0), (.complex .f64 0 0), (.complex .f64 0 0), (.int .i64 0), (.int .i64 0)])) (by kernel_rfl) (by simp [zOk, Value.cells, Value.oneCell']) rfl (by decide) Tryd.underlying47 ⟨_, rfl, rfl⟩ rfl (fun k h => by cases h) (eqk_flat (by kernel_rfl) (by decide) tt47_eq)
theorem tt48_eq : EqTy Tryd.prog 2 48 [.complex, .complex, .complex, .complex, .int .i64, .int .i64] :=
  eqTy_struct Tryd.underlying48 (by kernel_rfl) (.one rfl rfl Tryd.underlying29 rfl (scEq_complex 0 Tryd.underlying29) (.one rfl rfl Tryd.underlying29 rfl (scEq_complex 0 Tryd.underlying29) (.one rfl rfl Tryd.underlying29 rfl (scEq_complex 0 Tryd.underlying29) (.one rfl rfl Tryd.underlying29 rfl (scEq_complex 0 Tryd.underlying29) (.one rfl rfl Tryd.underlying3 rfl (scEq_int 0 Tryd.underlying3) (.one rfl rfl Tryd.underlying3 rfl (scEq_int 0 Tryd.underlying3) .nil))))))
theorem tt48 : TIok Tryd.prog 48 ⟨none, (some [.complex, .complex, .complex, .complex, .int .i64, .int .i64]), 6, 80, true, true, [.v (.complex .f64 0 0), .v (.complex .f64 0 0), .v (.complex .f64 0 0), .v (.complex .f64 0 0), .v (.int .i64 0), .v (.int .i64 0)], (.struct [(0, 29), (1, 29), (2, 29), (3, 29), (4, 3), (5, 3)])⟩ :=
  TIok.mk' (z := (.agg #[(.complex .f64 0 0), (.complex .f64 0 0), (.complex .f64 0 0), (.complex .f64 0 0), (.int .i64 0), (.int .i64 0)])) (by kernel_rfl) (by simp [zOk, Value.cells, Value.oneCell']) rfl (by decide) Tryd.underlying48 ⟨_, rfl, rfl⟩ rfl (fun k h => by cases h) (eqk_flat (by kernel_rfl) (by decide) tt48_eq)
theorem tt50 : TIok Tryd.prog 50 ⟨none, none, 1, 24, false, false, [.row 29], (.slice 29)⟩ :=
  TIok.mk' (z := ((.slice none 0 0))) (by kernel_rfl) (by simp [zOk, Value.cells, Value.oneCell']) rfl (by decide) Tryd.underlying50 rfl rfl (fun k h => by cases h) (fun ks h => by cases h)
theorem tt57 : TIok Tryd.prog 57 ⟨none, none, 1, 24, false, false, [.row 118], (.slice 118)⟩ :=
  TIok.mk' (z := ((.slice none 0 0))) (by kernel_rfl) (by simp [zOk, Value.cells, Value.oneCell']) rfl (by decide) Tryd.underlying57 rfl rfl (fun k h => by cases h) (fun ks h => by cases h)
theorem tt58 : TIok Tryd.prog 58 ⟨none, none, 1, 24, false, false, [.row 118], (.slice 118)⟩ :=
  TIok.mk' (z := ((.slice none 0 0))) (by kernel_rfl) (by simp [zOk, Value.cells, Value.oneCell']) rfl (by decide) Tryd.underlying58 rfl rfl (fun k h => by cases h) (fun ks h => by cases h)
theorem tt60 : TIok Tryd.prog 60 ⟨none, none, 1, 24, false, false, [.row 74], (.slice 74)⟩ :=
  TIok.mk' (z := ((.slice none 0 0))) (by kernel_rfl) (by simp [zOk, Value.cells, Value.oneCell']) rfl (by decide) Tryd.underlying60 rfl rfl (fun k h => by cases h) (fun ks h => by cases h)
theorem tt66 : TIok Tryd.prog 66 ⟨(some .u16), none, 1, 2, false, true, [.v (.int .u16 0)], .oth⟩ :=
  TIok.mk' (z := ((.int .u16 0))) (by kernel_rfl) (by simp [zOk, Value.cells, Value.oneCell']) rfl (by decide) Tryd.underlying66 trivial rfl (fun k h => by cases h; exact Tryd.underlying66) (fun ks h => by cases h)
theorem tt67 : TIok Tryd.prog 67 ⟨(some .u32), none, 1, 4, false, true, [.v (.int .u32 0)], .oth⟩ :=
  TIok.mk' (z := ((.int .u32 0))) (by kernel_rfl) (by simp [zOk, Value.cells, Value.oneCell']) rfl (by decide) Tryd.underlying67 trivial rfl (fun k h => by cases h; exact Tryd.underlying67) (fun ks h => by cases h)
theorem tt73_eq : EqTy Tryd.prog 2 73 [.int .u16, .int .u32] :=
  eqTy_struct Tryd.underlying73 (by kernel_rfl) (.one rfl rfl Tryd.underlying66 rfl (scEq_int 0 Tryd.underlying66) (.one rfl rfl Tryd.underlying67 rfl (scEq_int 0 Tryd.underlying67) .nil))
theorem tt73 : TIok Tryd.prog 73 ⟨none, (some [.int .u16, .int .u32]), 2, 8, true, true, [.v (.int .u16 0), .v (.int .u32 0)], (.struct [(0, 66), (1, 67)])⟩ :=
  TIok.mk' (z := (.agg #[(.int .u16 0), (.int .u32 0)])) (by kernel_rfl) (by simp [zOk, Value.cells, Value.oneCell']) rfl (by decide) Tryd.underlying73 ⟨_, rfl, rfl⟩ rfl (fun k h => by cases h) (eqk_flat (by kernel_rfl) (by decide) tt73_eq)
theorem tt74_eq : EqTy Tryd.prog 2 74 [.int .u16, .int .u32] :=
  eqTy_struct Tryd.underlying74 (by kernel_rfl) (.one rfl rfl Tryd.underlying66 rfl (scEq_int 0 Tryd.underlying66) (.one rfl rfl Tryd.underlying67 rfl (scEq_int 0 Tryd.underlying67) .nil))
theorem tt74 : TIok Tryd.prog 74 ⟨none, (some [.int .u16, .int .u32]), 2, 8, true, true, [.v (.int .u16 0), .v (.int .u32 0)], (.struct [(0, 66), (1, 67)])⟩ :=
  TIok.mk' (z := (.agg #[(.int .u16 0), (.int .u32 0)])) (by kernel_rfl) (by simp [zOk, Value.cells, Value.oneCell']) rfl (by decide) Tryd.underlying74 ⟨_, rfl, rfl⟩ rfl (fun k h => by cases h) (eqk_flat (by kernel_rfl) (by decide) tt74_eq)
theorem tt80 : TIok Tryd.prog 80 ⟨none, none, 1, 24, false, false, [.row 86], (.slice 86)⟩ :=
  TIok.mk' (z := ((.slice none 0 0))) (by kernel_rfl) (by simp [zOk, Value.cells, Value.oneCell']) rfl (by decide) Tryd.underlying80 rfl rfl (fun k h => by cases h) (fun ks h => by cases h)
theorem tt82 : TIok Tryd.prog 82 ⟨none, none, 1, 24, false, false, [.row 85], (.slice 85)⟩ :=
  TIok.mk' (z := ((.slice none 0 0))) (by kernel_rfl) (by simp [zOk, Value.cells, Value.oneCell']) rfl (by decide) Tryd.underlying82 rfl rfl (fun k h => by cases h) (fun ks h => by cases h)
theorem tt84_eq : EqTy Tryd.prog 2 84 [.int .u16, .int .u32, .int .u32] :=
  eqTy_struct Tryd.underlying84 (by kernel_rfl) (.one rfl rfl Tryd.underlying66 rfl (scEq_int 0 Tryd.underlying66) (.one rfl rfl Tryd.underlying67 rfl (scEq_int 0 Tryd.underlying67) (.one rfl rfl Tryd.underlying67 rfl (scEq_int 0 Tryd.underlying67) .nil)))
theorem tt84 : TIok Tryd.prog 84 ⟨none, (some [.int .u16, .int .u32, .int .u32]), 3, 12, true, true, [.v (.int .u16 0), .v (.int .u32 0), .v (.int .u32 0)], (.struct [(0, 66), (1, 67), (2, 67)])⟩ :=
  TIok.mk' (z := (.agg #[(.int .u16 0), (.int .u32 0), (.int .u32 0)])) (by kernel_rfl) (by simp [zOk, Value.cells, Value.oneCell']) rfl (by decide) Tryd.underlying84 ⟨_, rfl, rfl⟩ rfl (fun k h => by cases h) (eqk_flat (by kernel_rfl) (by decide) tt84_eq)
theorem tt85_eq : EqTy Tryd.prog 2 85 [.int .u16, .int .u32, .int .u32] :=
  eqTy_struct Tryd.underlying85 (by kernel_rfl) (.one rfl rfl Tryd.underlying66 rfl (scEq_int 0 Tryd.underlying66) (.one rfl rfl Tryd.underlying67 rfl (scEq_int 0 Tryd.underlying67) (.one rfl rfl Tryd.underlying67 rfl (scEq_int 0 Tryd.underlying67) .nil)))
theorem tt85 : TIok Tryd.prog 85 ⟨none, (some [.int .u16, .int .u32, .int .u32]), 3, 12, true, true, [.v (.int .u16 0), .v (.int .u32 0), .v (.int .u32 0)], (.struct [(0, 66), (1, 67), (2, 67)])⟩ :=
  TIok.mk' (z := (.agg #[(.int .u16 0), (.int .u32 0), (.int .u32 0)])) (by kernel_rfl) (by simp [zOk, Value.cells, Value.oneCell']) rfl (by decide) Tryd.underlying85 ⟨_, rfl, rfl⟩ rfl (fun k h => by cases h) (eqk_flat (by kernel_rfl) (by decide) tt85_eq)
theorem tt86_eq : EqTy Tryd.prog 2 86 [.int .u16, .int .u32, .int .u32] :=
  eqTy_struct Tryd.underlying86 (by kernel_rfl) (.one rfl rfl Tryd.underlying66 rfl (scEq_int 0 Tryd.underlying66) (.one rfl rfl Tryd.underlying67 rfl (scEq_int 0 Tryd.underlying67) (.one rfl rfl Tryd.underlying67 rfl (scEq_int 0 Tryd.underlying67) .nil)))
theorem tt86 : TIok Tryd.prog 86 ⟨none, (some [.int .u16, .int .u32, .int .u32]), 3, 12, true, true, [.v (.int .u16 0), .v (.int .u32 0), .v (.int .u32 0)], (.struct [(0, 66), (1, 67), (2, 67)])⟩ :=
  TIok.mk' (z := (.agg #[(.int .u16 0), (.int .u32 0), (.int .u32 0)])) (by kernel_rfl) (by simp [zOk, Value.cells, Value.oneCell']) rfl (by decide) Tryd.underlying86 ⟨_, rfl, rfl⟩ rfl (fun k h => by cases h) (eqk_flat (by kernel_rfl) (by decide) tt86_eq)
theorem tt88_eq : EqTy Tryd.prog 2 88 [.int .u16, .int .u32] :=
  eqTy_struct Tryd.underlying88 (by kernel_rfl) (.one rfl rfl Tryd.underlying66 rfl (scEq_int 0 Tryd.underlying66) (.one rfl rfl Tryd.underlying67 rfl (scEq_int 0 Tryd.underlying67) .nil))
theorem tt88 : TIok Tryd.prog 88 ⟨none, (some [.int .u16, .int .u32]), 2, 8, true, true, [.v (.int .u16 0), .v (.int .u32 0)], (.struct [(0, 66), (1, 67)])⟩ :=
  TIok.mk' (z := (.agg #[(.int .u16 0), (.int .u32 0)])) (by kernel_rfl) (by simp [zOk, Value.cells, Value.oneCell']) rfl (by decide) Tryd.underlying88 ⟨_, rfl, rfl⟩ rfl (fun k h => by cases h) (eqk_flat (by kernel_rfl) (by decide) tt88_eq)
theorem tt89_eq : EqTy Tryd.prog 2 89 [.int .u16, .int .u32] :=
  eqTy_struct Tryd.underlying89 (by kernel_rfl) (.one rfl rfl Tryd.underlying66 rfl (scEq_int 0 Tryd.underlying66) (.one rfl rfl Tryd.underlying67 rfl (scEq_int 0 Tryd.underlying67) .nil))
theorem tt89 : TIok Tryd.prog 89 ⟨none, (some [.int .u16, .int .u32]), 2, 8, true, true, [.v (.int .u16 0), .v (.int .u32 0)], (.struct [(0, 66), (1, 67)])⟩ :=
  TIok.mk' (z := (.agg #[(.int .u16 0), (.int .u32 0)])) (by kernel_rfl) (by simp [zOk, Value.cells, Value.oneCell']) rfl (by decide) Tryd.underlying89 ⟨_, rfl, rfl⟩ rfl (fun k h => by cases h) (eqk_flat (by kernel_rfl) (by decide) tt89_eq)
theorem tt90 : TIok Tryd.prog 90 ⟨(some .i64), none, 1, 8, false, true, [.v (.int .i64 0)], .oth⟩ :=
  TIok.mk' (z := ((.int .i64 0))) (by kernel_rfl) (by simp [zOk, Value.cells, Value.oneCell']) rfl (by decide) Tryd.underlying90 trivial rfl (fun k h => by cases h; exact Tryd.underlying90) (fun ks h => by cases h)
theorem tt94_eq : EqTy Tryd.prog 2 94 [.int .u16, .int .u32] :=
  eqTy_struct Tryd.underlying94 (by kernel_rfl) (.one rfl rfl Tryd.underlying66 rfl (scEq_int 0 Tryd.underlying66) (.one rfl rfl Tryd.underlying67 rfl (scEq_int 0 Tryd.underlying67) .nil))
theorem tt94 : TIok Tryd.prog 94 ⟨none, (some [.int .u16, .int .u32]), 2, 8, true, true, [.v (.int .u16 0), .v (.int .u32 0)], (.struct [(0, 66), (1, 67)])⟩ :=
  TIok.mk' (z := (.agg #[(.int .u16 0), (.int .u32 0)])) (by kernel_rfl) (by simp [zOk, Value.cells, Value.oneCell']) rfl (by decide) Tryd.underlying94 ⟨_, rfl, rfl⟩ rfl (fun k h => by cases h) (eqk_flat (by kernel_rfl) (by decide) tt94_eq)
theorem tt102 : TIok Tryd.prog 102 ⟨(some .u64), none, 1, 8, false, true, [.v (.int .u64 0)], .oth⟩ :=
  TIok.mk' (z := ((.int .u64 0))) (by kernel_rfl) (by simp [zOk, Value.cells, Value.oneCell']) rfl (by decide) Tryd.underlying102 trivial rfl (fun k h => by cases h; exact Tryd.underlying102) (fun ks h => by cases h)
theorem tt103 : TIok Tryd.prog 103 ⟨none, none, 1, 24, false, false, [.row 5], (.slice 5)⟩ :=
  TIok.mk' (z := ((.slice none 0 0))) (by kernel_rfl) (by simp [zOk, Value.cells, Value.oneCell']) rfl (by decide) Tryd.underlying103 rfl rfl (fun k h => by cases h) (fun ks h => by cases h)
theorem tt116 : TIok Tryd.prog 116 ⟨none, none, 1, 8, false, true, [.v (.float .f64 0)], .float⟩ :=
  TIok.mk' (z := ((.float .f64 0))) (by kernel_rfl) (by simp [zOk, Value.cells, Value.oneCell']) rfl (by decide) Tryd.underlying116 rfl rfl (fun k h => by cases h) (fun ks h => by cases h)
theorem tt118_eq : EqTy Tryd.prog 2 118 [.int .u16, .int .u32] :=
  eqTy_struct Tryd.underlying118 (by kernel_rfl) (.one rfl rfl Tryd.underlying66 rfl (scEq_int 0 Tryd.underlying66) (.one rfl rfl Tryd.underlying67 rfl (scEq_int 0 Tryd.underlying67) .nil))
theorem tt118 : TIok Tryd.prog 118 ⟨none, (some [.int .u16, .int .u32]), 2, 8, true, true, [.v (.int .u16 0), .v (.int .u32 0)], (.struct [(0, 66), (1, 67)])⟩ :=
  TIok.mk' (z := (.agg #[(.int .u16 0), (.int .u32 0)])) (by kernel_rfl) (by simp [zOk, Value.cells, Value.oneCell']) rfl (by decide) Tryd.underlying118 ⟨_, rfl, rfl⟩ rfl (fun k h => by cases h) (eqk_flat (by kernel_rfl) (by decide) tt118_eq)
theorem tt119 : TIok Tryd.prog 119 ⟨none, none, 1, 24, false, false, [.row 58], (.slice 58)⟩ :=
  TIok.mk' (z := ((.slice none 0 0))) (by kernel_rfl) (by simp [zOk, Value.cells, Value.oneCell']) rfl (by decide) Tryd.underlying119 rfl rfl (fun k h => by cases h) (fun ks h => by cases h)
theorem tt124 : TIok Tryd.prog 124 ⟨none, none, 1, 24, false, false, [.row 9], (.slice 9)⟩ :=
  TIok.mk' (z := ((.slice none 0 0))) (by kernel_rfl) (by simp [zOk, Value.cells, Value.oneCell']) rfl (by decide) Tryd.underlying124 rfl rfl (fun k h => by cases h) (fun ks h => by cases h)
theorem tt126 : TIok Tryd.prog 126 ⟨(some .u64), none, 1, 8, false, true, [.v (.int .u64 0)], .oth⟩ :=
  TIok.mk' (z := ((.int .u64 0))) (by kernel_rfl) (by simp [zOk, Value.cells, Value.oneCell']) rfl (by decide) Tryd.underlying126 trivial rfl (fun k h => by cases h; exact Tryd.underlying126) (fun ks h => by cases h)
theorem tt136 : TIok Tryd.prog 136 ⟨none, none, 1, 24, false, false, [.row 31], (.slice 31)⟩ :=
  TIok.mk' (z := ((.slice none 0 0))) (by kernel_rfl) (by simp [zOk, Value.cells, Value.oneCell']) rfl (by decide) Tryd.underlying136 rfl rfl (fun k h => by cases h) (fun ks h => by cases h)
theorem tt139 : TIok Tryd.prog 139 ⟨none, none, 1, 24, false, false, [.row 48], (.slice 48)⟩ :=
  TIok.mk' (z := ((.slice none 0 0))) (by kernel_rfl) (by simp [zOk, Value.cells, Value.oneCell']) rfl (by decide) Tryd.underlying139 rfl rfl (fun k h => by cases h) (fun ks h => by cases h)
theorem tt146 : TIok Tryd.prog 146 ⟨none, none, 1, 8, false, false, [.v (.pointer none)], .oth⟩ :=
  TIok.mk' (z := ((.pointer none))) (by kernel_rfl) (by simp [zOk, Value.cells, Value.oneCell']) rfl (by decide) Tryd.underlying146 trivial rfl (fun k h => by cases h) (fun ks h => by cases h)
theorem tt147 : TIok Tryd.prog 147 ⟨none, none, 2, 32, true, false, [.v (.pointer none), .row 5], (.struct [(0, 146), (1, 103)])⟩ :=
  TIok.mk' (z := (.agg #[(.pointer none), (.slice none 0 0)])) (by kernel_rfl) (by simp [zOk, Value.cells, Value.oneCell']) rfl (by decide) Tryd.underlying147 ⟨_, rfl, rfl⟩ rfl (fun k h => by cases h) (fun ks h => by cases h)
theorem tt148 : TIok Tryd.prog 148 ⟨none, none, 2, 32, true, false, [.v (.pointer none), .row 5], (.struct [(0, 146), (1, 103)])⟩ :=
  TIok.mk' (z := (.agg #[(.pointer none), (.slice none 0 0)])) (by kernel_rfl) (by simp [zOk, Value.cells, Value.oneCell']) rfl (by decide) Tryd.underlying148 ⟨_, rfl, rfl⟩ rfl (fun k h => by cases h) (fun ks h => by cases h)
theorem tt161 : TIok Tryd.prog 161 ⟨none, none, 24, 24, true, true, [.v (.int .u8 0), .v (.int .u8 0), .v (.int .u8 0), .v (.int .u8 0), .v (.int .u8 0), .v (.int .u8 0), .v (.int .u8 0), .v (.int .u8 0), .v (.int .u8 0), .v (.int .u8 0), .v (.int .u8 0), .v (.int .u8 0), .v (.int .u8 0), .v (.int .u8 0), .v (.int .u8 0), .v (.int .u8 0), .v (.int .u8 0), .v (.int .u8 0), .v (.int .u8 0), .v (.int .u8 0), .v (.int .u8 0), .v (.int .u8 0), .v (.int .u8 0), .v (.int .u8 0)], (.arr 24 5)⟩ :=
  TIok.mk' (z := (.agg #[(.int .u8 0), (.int .u8 0), (.int .u8 0), (.int .u8 0), (.int .u8 0), (.int .u8 0), (.int .u8 0), (.int .u8 0), (.int .u8 0), (.int .u8 0), (.int .u8 0), (.int .u8 0), (.int .u8 0), (.int .u8 0), (.int .u8 0), (.int .u8 0), (.int .u8 0), (.int .u8 0), (.int .u8 0), (.int .u8 0), (.int .u8 0), (.int .u8 0), (.int .u8 0), (.int .u8 0)])) (by kernel_rfl) (by simp [zOk, Value.cells, Value.oneCell']) rfl (by decide) Tryd.underlying161 rfl rfl (fun k h => by cases h) (fun ks h => by cases h)
theorem tt166 : TIok Tryd.prog 166 ⟨none, none, 1, 8, false, false, [.v (.pointer none)], .oth⟩ :=
  TIok.mk' (z := ((.pointer none))) (by kernel_rfl) (by simp [zOk, Value.cells, Value.oneCell']) rfl (by decide) Tryd.underlying166 trivial rfl (fun k h => by cases h) (fun ks h => by cases h)
theorem tt167 : TIok Tryd.prog 167 ⟨none, none, 1, 24, false, false, [.row 3], (.slice 3)⟩ :=
  TIok.mk' (z := ((.slice none 0 0))) (by kernel_rfl) (by simp [zOk, Value.cells, Value.oneCell']) rfl (by decide) Tryd.underlying167 rfl rfl (fun k h => by cases h) (fun ks h => by cases h)
theorem tt175 : TIok Tryd.prog 175 ⟨none, none, 20, 160, true, true, [.v (.int .u64 0), .v (.int .u64 0), .v (.int .u64 0), .v (.int .u64 0), .v (.int .u64 0), .v (.int .u64 0), .v (.int .u64 0), .v (.int .u64 0), .v (.int .u64 0), .v (.int .u64 0), .v (.int .u64 0), .v (.int .u64 0), .v (.int .u64 0), .v (.int .u64 0), .v (.int .u64 0), .v (.int .u64 0), .v (.int .u64 0), .v (.int .u64 0), .v (.int .u64 0), .v (.int .u64 0)], (.arr 20 126)⟩ :=
  TIok.mk' (z := (.agg #[(.int .u64 0), (.int .u64 0), (.int .u64 0), (.int .u64 0), (.int .u64 0), (.int .u64 0), (.int .u64 0), (.int .u64 0), (.int .u64 0), (.int .u64 0), (.int .u64 0), (.int .u64 0), (.int .u64 0), (.int .u64 0), (.int .u64 0), (.int .u64 0), (.int .u64 0), (.int .u64 0), (.int .u64 0), (.int .u64 0)])) (by kernel_rfl) (by simp [zOk, Value.cells, Value.oneCell']) rfl (by decide) Tryd.underlying175 rfl rfl (fun k h => by cases h) (fun ks h => by cases h)
theorem tt185 : TIok Tryd.prog 185 ⟨none, none, 1, 8, false, false, [.v (.pointer none)], .oth⟩ :=
  TIok.mk' (z := ((.pointer none))) (by kernel_rfl) (by simp [zOk, Value.cells, Value.oneCell']) rfl (by decide) Tryd.underlying185 trivial rfl (fun k h => by cases h) (fun ks h => by cases h)
theorem tt195 : TIok Tryd.prog 195 ⟨none, none, 32, 32, true, true, [.v (.int .u8 0), .v (.int .u8 0), .v (.int .u8 0), .v (.int .u8 0), .v (.int .u8 0), .v (.int .u8 0), .v (.int .u8 0), .v (.int .u8 0), .v (.int .u8 0), .v (.int .u8 0), .v (.int .u8 0), .v (.int .u8 0), .v (.int .u8 0), .v (.int .u8 0), .v (.int .u8 0), .v (.int .u8 0), .v (.int .u8 0), .v (.int .u8 0), .v (.int .u8 0), .v (.int .u8 0), .v (.int .u8 0), .v (.int .u8 0), .v (.int .u8 0), .v (.int .u8 0), .v (.int .u8 0), .v (.int .u8 0), .v (.int .u8 0), .v (.int .u8 0), .v (.int .u8 0), .v (.int .u8 0), .v (.int .u8 0), .v (.int .u8 0)], (.arr 32 5)⟩ :=
  TIok.mk' (z := (.agg #[(.int .u8 0), (.int .u8 0), (.int .u8 0), (.int .u8 0), (.int .u8 0), (.int .u8 0), (.int .u8 0), (.int .u8 0), (.int .u8 0), (.int .u8 0), (.int .u8 0), (.int .u8 0), (.int .u8 0), (.int .u8 0), (.int .u8 0), (.int .u8 0), (.int .u8 0), (.int .u8 0), (.int .u8 0), (.int .u8 0), (.int .u8 0), (.int .u8 0), (.int .u8 0), (.int .u8 0), (.int .u8 0), (.int .u8 0), (.int .u8 0), (.int .u8 0), (.int .u8 0), (.int .u8 0), (.int .u8 0), (.int .u8 0)])) (by kernel_rfl) (by simp [zOk, Value.cells, Value.oneCell']) rfl (by decide) Tryd.underlying195 rfl rfl (fun k h => by cases h) (fun ks h => by cases h)
theorem tt196 : TIok Tryd.prog 196 ⟨none, none, 64, 64, true, true, [.v (.int .u8 0), .v (.int .u8 0), .v (.int .u8 0), .v (.int .u8 0), .v (.int .u8 0), .v (.int .u8 0), .v (.int .u8 0), .v (.int .u8 0), .v (.int .u8 0), .v (.int .u8 0), .v (.int .u8 0), .v (.int .u8 0), .v (.int .u8 0), .v (.int .u8 0), .v (.int .u8 0), .v (.int .u8 0), .v (.int .u8 0), .v (.int .u8 0), .v (.int .u8 0), .v (.int .u8 0), .v (.int .u8 0), .v (.int .u8 0), .v (.int .u8 0), .v (.int .u8 0), .v (.int .u8 0), .v (.int .u8 0), .v (.int .u8 0), .v (.int .u8 0), .v (.int .u8 0), .v (.int .u8 0), .v (.int .u8 0), .v (.int .u8 0), .v (.int .u8 0), .v (.int .u8 0), .v (.int .u8 0), .v (.int .u8 0), .v (.int .u8 0), .v (.int .u8 0), .v (.int .u8 0), .v (.int .u8 0), .v (.int .u8 0), .v (.int .u8 0), .v (.int .u8 0), .v (.int .u8 0), .v (.int .u8 0), .v (.int .u8 0), .v (.int .u8 0), .v (.int .u8 0), .v (.int .u8 0), .v (.int .u8 0), .v (.int .u8 0), .v (.int .u8 0), .v (.int .u8 0), .v (.int .u8 0), .v (.int .u8 0), .v (.int .u8 0), .v (.int .u8 0), .v (.int .u8 0), .v (.int .u8 0), .v (.int .u8 0), .v (.int .u8 0), .v (.int .u8 0), .v (.int .u8 0), .v (.int .u8 0)], (.arr 64 5)⟩ :=
  TIok.mk' (z := (.agg #[(.int .u8 0), (.int .u8 0), (.int .u8 0), (.int .u8 0), (.int .u8 0), (.int .u8 0), (.int .u8 0), (.int .u8 0), (.int .u8 0), (.int .u8 0), (.int .u8 0), (.int .u8 0), (.int .u8 0), (.int .u8 0), (.int .u8 0), (.int .u8 0), (.int .u8 0), (.int .u8 0), (.int .u8 0), (.int .u8 0), (.int .u8 0), (.int .u8 0), (.int .u8 0), (.int .u8 0), (.int .u8 0), (.int .u8 0), (.int .u8 0), (.int .u8 0), (.int .u8 0), (.int .u8 0), (.int .u8 0), (.int .u8 0), (.int .u8 0), (.int .u8 0), (.int .u8 0), (.int .u8 0), (.int .u8 0), (.int .u8 0), (.int .u8 0), (.int .u8 0), (.int .u8 0), (.int .u8 0), (.int .u8 0), (.int .u8 0), (.int .u8 0), (.int .u8 0), (.int .u8 0), (.int .u8 0), (.int .u8 0), (.int .u8 0), (.int .u8 0), (.int .u8 0), (.int .u8 0), (.int .u8 0), (.int .u8 0), (.int .u8 0), (.int .u8 0), (.int .u8 0), (.int .u8 0), (.int .u8 0), (.int .u8 0), (.int .u8 0), (.int .u8 0), (.int .u8 0)])) (by kernel_rfl) (by simp [zOk, Value.cells, Value.oneCell']) rfl (by decide) Tryd.underlying196 rfl rfl (fun k h => by cases h) (fun ks h => by cases h)
theorem tt197 : TIok Tryd.prog 197 ⟨none, none, 1, 8, false, false, [.v (.pointer none)], .oth⟩ :=
  TIok.mk' (z := ((.pointer none))) (by kernel_rfl) (by simp [zOk, Value.cells, Value.oneCell']) rfl (by decide) Tryd.underlying197 trivial rfl (fun k h => by cases h) (fun ks h => by cases h)
theorem tt198_eq : EqTy Tryd.prog 2 198 [.str] :=
  eqTy_struct Tryd.underlying198 (by kernel_rfl) (.one rfl rfl Tryd.underlying9 rfl (scEq_str 0 Tryd.underlying9) .nil)
theorem tt198 : TIok Tryd.prog 198 ⟨none, (some [.str]), 1, 16, true, true, [.v (.string ⟨#[]⟩)], (.struct [(0, 9)])⟩ :=
  TIok.mk' (z := (.agg #[(.string ⟨#[]⟩)])) (by kernel_rfl) (by simp [zOk, Value.cells, Value.oneCell']) rfl (by decide) Tryd.underlying198 ⟨_, rfl, rfl⟩ rfl (fun k h => by cases h) (eqk_flat (by kernel_rfl) (by decide) tt198_eq)
theorem tt199_eq : EqTy Tryd.prog 2 199 [.str] :=
  eqTy_struct Tryd.underlying199 (by kernel_rfl) (.one rfl rfl Tryd.underlying9 rfl (scEq_str 0 Tryd.underlying9) .nil)
theorem tt199 : TIok Tryd.prog 199 ⟨none, (some [.str]), 1, 16, true, true, [.v (.string ⟨#[]⟩)], (.struct [(0, 9)])⟩ :=
  TIok.mk' (z := (.agg #[(.string ⟨#[]⟩)])) (by kernel_rfl) (by simp [zOk, Value.cells, Value.oneCell']) rfl (by decide) Tryd.underlying199 ⟨_, rfl, rfl⟩ rfl (fun k h => by cases h) (eqk_flat (by kernel_rfl) (by decide) tt199_eq)
theorem ttok : TTok Tryd.prog TT := by
  intro t i h
  unfold TT at h
  split at h <;> first | (cases h; done) | (cases h; first | exact tt2 | exact tt3 | exact tt4 | exact tt5 | exact tt9 | exact tt12 | exact tt21 | exact tt23 | exact tt24 | exact tt25 | exact tt26 | exact tt29 | exact tt30 | exact tt31 | exact tt40 | exact tt41 | exact tt44 | exact tt47 | exact tt48 | exact tt50 | exact tt57 | exact tt58 | exact tt60 | exact tt66 | exact tt67 | exact tt73 | exact tt74 | exact tt80 | exact tt82 | exact tt84 | exact tt85 | exact tt86 | exact tt88 | exact tt89 | exact tt90 | exact tt94 | exact tt102 | exact tt103 | exact tt116 | exact tt118 | exact tt119 | exact tt124 | exact tt126 | exact tt136 | exact tt139 | exact tt146 | exact tt147 | exact tt148 | exact tt161 | exact tt166 | exact tt167 | exact tt175 | exact tt185 | exact tt195 | exact tt196 | exact tt197 | exact tt198 | exact tt199)
theorem mixed : Tryd.prog.follows .mixedOrders = true := by kernel_rfl
theorem ent3 : Ent Tryd.prog 3 := ⟨_, Tryd.func3, by kernel_rfl, rfl⟩
theorem ent4 : Ent Tryd.prog 4 := ⟨_, Tryd.func4, by kernel_rfl, rfl⟩
theorem ent5 : Ent Tryd.prog 5 := ⟨_, Tryd.func5, by kernel_rfl, rfl⟩
theorem ent6 : Ent Tryd.prog 6 := ⟨_, Tryd.func6, by kernel_rfl, rfl⟩
theorem ent7 : Ent Tryd.prog 7 := ⟨_, Tryd.func7, by kernel_rfl, rfl⟩
theorem ent8 : Ent Tryd.prog 8 := ⟨_, Tryd.func8, by kernel_rfl, rfl⟩
theorem ent9 : Ent Tryd.prog 9 := ⟨_, Tryd.func9, by kernel_rfl, rfl⟩
theorem ent10 : Ent Tryd.prog 10 := ⟨_, Tryd.func10, by kernel_rfl, rfl⟩
theorem ent11 : Ent Tryd.prog 11 := ⟨_, Tryd.func11, by kernel_rfl, rfl⟩
theorem ent12 : Ent Tryd.prog 12 := ⟨_, Tryd.func12, by kernel_rfl, rfl⟩
theorem ent13 : Ent Tryd.prog 13 := ⟨_, Tryd.func13, by kernel_rfl, rfl⟩
theorem ent14 : Ent Tryd.prog 14 := ⟨_, Tryd.func14, by kernel_rfl, rfl⟩
theorem ent15 : Ent Tryd.prog 15 := ⟨_, Tryd.func15, by kernel_rfl, rfl⟩
theorem ent16 : Ent Tryd.prog 16 := ⟨_, Tryd.func16, by kernel_rfl, rfl⟩
theorem ent17 : Ent Tryd.prog 17 := ⟨_, Tryd.func17, by kernel_rfl, rfl⟩
theorem ent18 : Ent Tryd.prog 18 := ⟨_, Tryd.func18, by kernel_rfl, rfl⟩
theorem ent19 : Ent Tryd.prog 19 := ⟨_, Tryd.func19, by kernel_rfl, rfl⟩
theorem ent20 : Ent Tryd.prog 20 := ⟨_, Tryd.func20, by kernel_rfl, rfl⟩
theorem ent21 : Ent Tryd.prog 21 := ⟨_, Tryd.func21, by kernel_rfl, rfl⟩
theorem ent22 : Ent Tryd.prog 22 := ⟨_, Tryd.func22, by kernel_rfl, rfl⟩
theorem ent23 : Ent Tryd.prog 23 := ⟨_, Tryd.func23, by kernel_rfl, rfl⟩
theorem ent24 : Ent Tryd.prog 24 := ⟨_, Tryd.func24, by kernel_rfl, rfl⟩
theorem ent25 : Ent Tryd.prog 25 := ⟨_, Tryd.func25, by kernel_rfl, rfl⟩
theorem ent26 : Ent Tryd.prog 26 := ⟨_, Tryd.func26, by kernel_rfl, rfl⟩
theorem ent27 : Ent Tryd.prog 27 := ⟨_, Tryd.func27, by kernel_rfl, rfl⟩
theorem ent28 : Ent Tryd.prog 28 := ⟨_, Tryd.func28, by kernel_rfl, rfl⟩
theorem ent29 : Ent Tryd.prog 29 := ⟨_, Tryd.func29, by kernel_rfl, rfl⟩
theorem ent30 : Ent Tryd.prog 30 := ⟨_, Tryd.func30, by kernel_rfl, rfl⟩
theorem ent31 : Ent Tryd.prog 31 := ⟨_, Tryd.func31, by kernel_rfl, rfl⟩
theorem ent32 : Ent Tryd.prog 32 := ⟨_, Tryd.func32, by kernel_rfl, rfl⟩
theorem ent33 : Ent Tryd.prog 33 := ⟨_, Tryd.func33, by kernel_rfl, rfl⟩
theorem ent34 : Ent Tryd.prog 34 := ⟨_, Tryd.func34, by kernel_rfl, rfl⟩
theorem ent35 : Ent Tryd.prog 35 := ⟨_, Tryd.func35, by kernel_rfl, rfl⟩
theorem ent36 : Ent Tryd.prog 36 := ⟨_, Tryd.func36, by kernel_rfl, rfl⟩
theorem ent37 : Ent Tryd.prog 37 := ⟨_, Tryd.func37, by kernel_rfl, rfl⟩
theorem ent38 : Ent Tryd.prog 38 := ⟨_, Tryd.func38, by kernel_rfl, rfl⟩
theorem ent39 : Ent Tryd.prog 39 := ⟨_, Tryd.func39, by kernel_rfl, rfl⟩
theorem ent40 : Ent Tryd.prog 40 := ⟨_, Tryd.func40, by kernel_rfl, rfl⟩
theorem ent41 : Ent Tryd.prog 41 := ⟨_, Tryd.func41, by kernel_rfl, rfl⟩
theorem ent42 : Ent Tryd.prog 42 := ⟨_, Tryd.func42, by kernel_rfl, rfl⟩
theorem ent43 : Ent Tryd.prog 43 := ⟨_, Tryd.func43, by kernel_rfl, rfl⟩
theorem ent44 : Ent Tryd.prog 44 := ⟨_, Tryd.func44, by kernel_rfl, rfl⟩
theorem ent45 : Ent Tryd.prog 45 := ⟨_, Tryd.func45, by kernel_rfl, rfl⟩
theorem ent46 : Ent Tryd.prog 46 := ⟨_, Tryd.func46, by kernel_rfl, rfl⟩
theorem ent47 : Ent Tryd.prog 47 := ⟨_, Tryd.func47, by kernel_rfl, rfl⟩
theorem ent48 : Ent Tryd.prog 48 := ⟨_, Tryd.func48, by kernel_rfl, rfl⟩
theorem ent49 : Ent Tryd.prog 49 := ⟨_, Tryd.func49, by kernel_rfl, rfl⟩
theorem ent50 : Ent Tryd.prog 50 := ⟨_, Tryd.func50, by kernel_rfl, rfl⟩
theorem ent51 : Ent Tryd.prog 51 := ⟨_, Tryd.func51, by kernel_rfl, rfl⟩
theorem ent52 : Ent Tryd.prog 52 := ⟨_, Tryd.func52, by kernel_rfl, rfl⟩
theorem ent53 : Ent Tryd.prog 53 := ⟨_, Tryd.func53, by kernel_rfl, rfl⟩
theorem ent54 : Ent Tryd.prog 54 := ⟨_, Tryd.func54, by kernel_rfl, rfl⟩
theorem ent55 : Ent Tryd.prog 55 := ⟨_, Tryd.func55, by kernel_rfl, rfl⟩
theorem ent56 : Ent Tryd.prog 56 := ⟨_, Tryd.func56, by kernel_rfl, rfl⟩
theorem ent57 : Ent Tryd.prog 57 := ⟨_, Tryd.func57, by kernel_rfl, rfl⟩
theorem ent58 : Ent Tryd.prog 58 := ⟨_, Tryd.func58, by kernel_rfl, rfl⟩
theorem ent59 : Ent Tryd.prog 59 := ⟨_, Tryd.func59, by kernel_rfl, rfl⟩
theorem ent60 : Ent Tryd.prog 60 := ⟨_, Tryd.func60, by kernel_rfl, rfl⟩
theorem ent61 : Ent Tryd.prog 61 := ⟨_, Tryd.func61, by kernel_rfl, rfl⟩
theorem ent62 : Ent Tryd.prog 62 := ⟨_, Tryd.func62, by kernel_rfl, rfl⟩
theorem ent63 : Ent Tryd.prog 63 := ⟨_, Tryd.func63, by kernel_rfl, rfl⟩
theorem ent64 : Ent Tryd.prog 64 := ⟨_, Tryd.func64, by kernel_rfl, rfl⟩
theorem ent65 : Ent Tryd.prog 65 := ⟨_, Tryd.func65, by kernel_rfl, rfl⟩
theorem ent66 : Ent Tryd.prog 66 := ⟨_, Tryd.func66, by kernel_rfl, rfl⟩
theorem ent67 : Ent Tryd.prog 67 := ⟨_, Tryd.func67, by kernel_rfl, rfl⟩
theorem ent68 : Ent Tryd.prog 68 := ⟨_, Tryd.func68, by kernel_rfl, rfl⟩
theorem ent69 : Ent Tryd.prog 69 := ⟨_, Tryd.func69, by kernel_rfl, rfl⟩
theorem ent70 : Ent Tryd.prog 70 := ⟨_, Tryd.func70, by kernel_rfl, rfl⟩
theorem ent71 : Ent Tryd.prog 71 := ⟨_, Tryd.func71, by kernel_rfl, rfl⟩
theorem ent72 : Ent Tryd.prog 72 := ⟨_, Tryd.func72, by kernel_rfl, rfl⟩
theorem ent73 : Ent Tryd.prog 73 := ⟨_, Tryd.func73, by kernel_rfl, rfl⟩
theorem ent74 : Ent Tryd.prog 74 := ⟨_, Tryd.func74, by kernel_rfl, rfl⟩
theorem ent75 : Ent Tryd.prog 75 := ⟨_, Tryd.func75, by kernel_rfl, rfl⟩
theorem ent76 : Ent Tryd.prog 76 := ⟨_, Tryd.func76, by kernel_rfl, rfl⟩
theorem ent77 : Ent Tryd.prog 77 := ⟨_, Tryd.func77, by kernel_rfl, rfl⟩
theorem ent78 : Ent Tryd.prog 78 := ⟨_, Tryd.func78, by kernel_rfl, rfl⟩
theorem ent79 : Ent Tryd.prog 79 := ⟨_, Tryd.func79, by kernel_rfl, rfl⟩
theorem ent80 : Ent Tryd.prog 80 := ⟨_, Tryd.func80, by kernel_rfl, rfl⟩
theorem ent81 : Ent Tryd.prog 81 := ⟨_, Tryd.func81, by kernel_rfl, rfl⟩
theorem ent82 : Ent Tryd.prog 82 := ⟨_, Tryd.func82, by kernel_rfl, rfl⟩
theorem ent83 : Ent Tryd.prog 83 := ⟨_, Tryd.func83, by kernel_rfl, rfl⟩
theorem ent84 : Ent Tryd.prog 84 := ⟨_, Tryd.func84, by kernel_rfl, rfl⟩
theorem ent85 : Ent Tryd.prog 85 := ⟨_, Tryd.func85, by kernel_rfl, rfl⟩
theorem ent86 : Ent Tryd.prog 86 := ⟨_, Tryd.func86, by kernel_rfl, rfl⟩
theorem ent87 : Ent Tryd.prog 87 := ⟨_, Tryd.func87, by kernel_rfl, rfl⟩
theorem ent88 : Ent Tryd.prog 88 := ⟨_, Tryd.func88, by kernel_rfl, rfl⟩
theorem ent89 : Ent Tryd.prog 89 := ⟨_, Tryd.func89, by kernel_rfl, rfl⟩
theorem ent90 : Ent Tryd.prog 90 := ⟨_, Tryd.func90, by kernel_rfl, rfl⟩
theorem ent92 : Ent Tryd.prog 92 := ⟨_, Tryd.func92, by kernel_rfl, rfl⟩
theorem ent93 : Ent Tryd.prog 93 := ⟨_, Tryd.func93, by kernel_rfl, rfl⟩
theorem ent94 : Ent Tryd.prog 94 := ⟨_, Tryd.func94, by kernel_rfl, rfl⟩
theorem ent95 : Ent Tryd.prog 95 := ⟨_, Tryd.func95, by kernel_rfl, rfl⟩
theorem ent96 : Ent Tryd.prog 96 := ⟨_, Tryd.func96, by kernel_rfl, rfl⟩
theorem ent97 : Ent Tryd.prog 97 := ⟨_, Tryd.func97, by kernel_rfl, rfl⟩
theorem ent98 : Ent Tryd.prog 98 := ⟨_, Tryd.func98, by kernel_rfl, rfl⟩
theorem ent99 : Ent Tryd.prog 99 := ⟨_, Tryd.func99, by kernel_rfl, rfl⟩
theorem ent100 : Ent Tryd.prog 100 := ⟨_, Tryd.func100, by kernel_rfl, rfl⟩
theorem ent101 : Ent Tryd.prog 101 := ⟨_, Tryd.func101, by kernel_rfl, rfl⟩
theorem ent102 : Ent Tryd.prog 102 := ⟨_, Tryd.func102, by kernel_rfl, rfl⟩
theorem ent103 : Ent Tryd.prog 103 := ⟨_, Tryd.func103, by kernel_rfl, rfl⟩
theorem ent104 : Ent Tryd.prog 104 := ⟨_, Tryd.func104, by kernel_rfl, rfl⟩
theorem ent105 : Ent Tryd.prog 105 := ⟨_, Tryd.func105, by kernel_rfl, rfl⟩
theorem ent106 : Ent Tryd.prog 106 := ⟨_, Tryd.func106, by kernel_rfl, rfl⟩
theorem ent107 : Ent Tryd.prog 107 := ⟨_, Tryd.func107, by kernel_rfl, rfl⟩
theorem ent108 : Ent Tryd.prog 108 := ⟨_, Tryd.func108, by kernel_rfl, rfl⟩
theorem ent109 : Ent Tryd.prog 109 := ⟨_, Tryd.func109, by kernel_rfl, rfl⟩
theorem ent110 : Ent Tryd.prog 110 := ⟨_, Tryd.func110, by kernel_rfl, rfl⟩
theorem ent111 : Ent Tryd.prog 111 := ⟨_, Tryd.func111, by kernel_rfl, rfl⟩
theorem ent112 : Ent Tryd.prog 112 := ⟨_, Tryd.func112, by kernel_rfl, rfl⟩
theorem ent113 : Ent Tryd.prog 113 := ⟨_, Tryd.func113, by kernel_rfl, rfl⟩
theorem ent114 : Ent Tryd.prog 114 := ⟨_, Tryd.func114, by kernel_rfl, rfl⟩
theorem ent115 : Ent Tryd.prog 115 := ⟨_, Tryd.func115, by kernel_rfl, rfl⟩
theorem ent116 : Ent Tryd.prog 116 := ⟨_, Tryd.func116, by kernel_rfl, rfl⟩
theorem ent117 : Ent Tryd.prog 117 := ⟨_, Tryd.func117, by kernel_rfl, rfl⟩
theorem ent118 : Ent Tryd.prog 118 := ⟨_, Tryd.func118, by kernel_rfl, rfl⟩
theorem ent119 : Ent Tryd.prog 119 := ⟨_, Tryd.func119, by kernel_rfl, rfl⟩
theorem ent120 : Ent Tryd.prog 120 := ⟨_, Tryd.func120, by kernel_rfl, rfl⟩
theorem ent121 : Ent Tryd.prog 121 := ⟨_, Tryd.func121, by kernel_rfl, rfl⟩
theorem ent122 : Ent Tryd.prog 122 := ⟨_, Tryd.func122, by kernel_rfl, rfl⟩
theorem ent125 : Ent Tryd.prog 125 := ⟨_, Tryd.func125, by kernel_rfl, rfl⟩
theorem ent127 : Ent Tryd.prog 127 := ⟨_, Tryd.func127, by kernel_rfl, rfl⟩
theorem ent128 : Ent Tryd.prog 128 := ⟨_, Tryd.func128, by kernel_rfl, rfl⟩
theorem ent129 : Ent Tryd.prog 129 := ⟨_, Tryd.func129, by kernel_rfl, rfl⟩
theorem ent130 : Ent Tryd.prog 130 := ⟨_, Tryd.func130, by kernel_rfl, rfl⟩
theorem ent131 : Ent Tryd.prog 131 := ⟨_, Tryd.func131, by kernel_rfl, rfl⟩
theorem ent132 : Ent Tryd.prog 132 := ⟨_, Tryd.func132, by kernel_rfl, rfl⟩
theorem ent133 : Ent Tryd.prog 133 := ⟨_, Tryd.func133, by kernel_rfl, rfl⟩
theorem ent134 : Ent Tryd.prog 134 := ⟨_, Tryd.func134, by kernel_rfl, rfl⟩
theorem ent135 : Ent Tryd.prog 135 := ⟨_, Tryd.func135, by kernel_rfl, rfl⟩
theorem ent136 : Ent Tryd.prog 136 := ⟨_, Tryd.func136, by kernel_rfl, rfl⟩
theorem ent138 : Ent Tryd.prog 138 := ⟨_, Tryd.func138, by kernel_rfl, rfl⟩
theorem ent139 : Ent Tryd.prog 139 := ⟨_, Tryd.func139, by kernel_rfl, rfl⟩
theorem ent140 : Ent Tryd.prog 140 := ⟨_, Tryd.func140, by kernel_rfl, rfl⟩
theorem ent169 : Ent Tryd.prog 169 := ⟨_, Tryd.func169, by kernel_rfl, rfl⟩
end Go.Proofs.YtnfcjdgmhbhecaaDoor
