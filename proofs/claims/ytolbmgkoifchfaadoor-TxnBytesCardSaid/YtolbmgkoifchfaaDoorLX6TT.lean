/- PRINTED BY wip/tools/mktt.py: what the evaluator knows of the types of the program YtolbmgkoifchfaaDoor. -/
import Derived.Test.YtolbmgkoifchfaaDoorProg
import Derived.Test.YtolbmgkoifchfaaDoorLA3
namespace Go.Proofs.YtolbmgkoifchfaaDoor
open Go Go.Lift
set_option maxRecDepth 20000

def TT : TTab := fun t => match t with
  | 2 => some ⟨(some .i64), none, 1, 8, false, true, [.v (.int .i64 0)], .oth⟩
  | 3 => some ⟨(some .i64), none, 1, 8, false, true, [.v (.int .i64 0)], .oth⟩
  | 4 => some ⟨none, none, 1, 1, false, true, [.v (.bool false)], .bool⟩
  | 5 => some ⟨(some .u8), none, 1, 1, false, true, [.v (.int .u8 0)], .oth⟩
  | 9 => some ⟨none, none, 1, 16, false, true, [.v (.string ⟨#[]⟩)], .str⟩
  | 12 => some ⟨(some .u64), none, 1, 8, false, true, [.v (.int .u64 0)], .oth⟩
  | 21 => some ⟨(some .i32), none, 1, 4, false, true, [.v (.int .i32 0)], .oth⟩
  | 22 => some ⟨none, none, 1, 24, false, false, [.row 5], (.slice 5)⟩
  | 24 => some ⟨none, none, 1, 8, false, false, [.v (.pointer none)], .oth⟩
  | 26 => some ⟨(some .u16), none, 1, 2, false, true, [.v (.int .u16 0)], .oth⟩
  | 27 => some ⟨(some .u32), none, 1, 4, false, true, [.v (.int .u32 0)], .oth⟩
  | 28 => some ⟨(some .u64), none, 1, 8, false, true, [.v (.int .u64 0)], .oth⟩
  | 29 => some ⟨none, none, 1, 24, false, false, [.row 56], (.slice 56)⟩
  | 30 => some ⟨none, none, 5, 48, true, false, [.v (.int .u16 0), .v (.int .u32 0), .v (.int .u64 0), .v (.int .i64 0), .row 56], (.struct [(0, 26), (1, 27), (2, 28), (3, 3), (4, 29)])⟩
  | 31 => some ⟨none, none, 5, 48, true, false, [.v (.int .u16 0), .v (.int .u32 0), .v (.int .u64 0), .v (.int .i64 0), .row 56], (.struct [(0, 26), (1, 27), (2, 28), (3, 3), (4, 29)])⟩
  | 33 => some ⟨none, none, 1, 24, false, false, [.row 67], (.slice 67)⟩
  | 34 => some ⟨none, none, 5, 48, true, false, [.v (.int .u16 0), .v (.int .u32 0), .v (.int .u64 0), .v (.int .i64 0), .row 67], (.struct [(0, 26), (1, 27), (2, 28), (3, 3), (4, 33)])⟩
  | 35 => some ⟨none, none, 5, 48, true, false, [.v (.int .u16 0), .v (.int .u32 0), .v (.int .u64 0), .v (.int .i64 0), .row 67], (.struct [(0, 26), (1, 27), (2, 28), (3, 3), (4, 33)])⟩
  | 40 => some ⟨(some .i64), none, 1, 8, false, true, [.v (.int .i64 0)], .oth⟩
  | 46 => some ⟨none, none, 1, 24, true, false, [.row 5], (.struct [(0, 22)])⟩
  | 47 => some ⟨none, none, 1, 24, true, false, [.row 5], (.struct [(0, 22)])⟩
  | 49 => some ⟨none, none, 1, 8, false, false, [.v (.pointer none)], .oth⟩
  | 52 => some ⟨none, (some [.int .u16, .int .u32]), 2, 8, true, true, [.v (.int .u16 0), .v (.int .u32 0)], (.struct [(0, 26), (1, 27)])⟩
  | 53 => some ⟨none, (some [.int .u16, .int .u32]), 2, 8, true, true, [.v (.int .u16 0), .v (.int .u32 0)], (.struct [(0, 26), (1, 27)])⟩
  | 54 => some ⟨none, none, 1, 24, false, false, [.row 100], (.slice 100)⟩
  | 55 => some ⟨none, none, 7, 72, true, false, [.v (.int .i64 0), .v (.int .u16 0), .v (.int .u32 0), .v (.int .u32 0), .v (.string ⟨#[]⟩), .row 100, .v (.int .u32 0)], (.struct [(0, 3), (1, 53), (3, 27), (4, 9), (5, 54), (6, 27)])⟩
  | 56 => some ⟨none, none, 7, 72, true, false, [.v (.int .i64 0), .v (.int .u16 0), .v (.int .u32 0), .v (.int .u32 0), .v (.string ⟨#[]⟩), .row 100, .v (.int .u32 0)], (.struct [(0, 3), (1, 53), (3, 27), (4, 9), (5, 54), (6, 27)])⟩
  | 57 => some ⟨none, (some [.str, .int .i64, .int .i64]), 3, 32, true, true, [.v (.string ⟨#[]⟩), .v (.int .i64 0), .v (.int .i64 0)], (.struct [(0, 9), (1, 3), (2, 40)])⟩
  | 58 => some ⟨none, (some [.str, .int .i64, .int .i64]), 3, 32, true, true, [.v (.string ⟨#[]⟩), .v (.int .i64 0), .v (.int .i64 0)], (.struct [(0, 9), (1, 3), (2, 40)])⟩
  | 61 => some ⟨none, none, 5, 40, true, true, [.v (.int .u64 0), .v (.int .u64 0), .v (.int .u64 0), .v (.int .u64 0), .v (.int .u64 0)], (.arr 5 28)⟩
  | 64 => some ⟨none, (some [.int .u16, .int .u32]), 2, 8, true, true, [.v (.int .u16 0), .v (.int .u32 0)], (.struct [(0, 26), (1, 27)])⟩
  | 65 => some ⟨none, none, 1, 24, false, false, [.row 86], (.slice 86)⟩
  | 66 => some ⟨none, none, 7, 72, true, false, [.v (.int .i64 0), .v (.int .u16 0), .v (.int .u32 0), .v (.int .u32 0), .v (.string ⟨#[]⟩), .row 86, .v (.int .u32 0)], (.struct [(0, 3), (1, 64), (3, 27), (4, 9), (5, 65), (6, 27)])⟩
  | 67 => some ⟨none, none, 7, 72, true, false, [.v (.int .i64 0), .v (.int .u16 0), .v (.int .u32 0), .v (.int .u32 0), .v (.string ⟨#[]⟩), .row 86, .v (.int .u32 0)], (.struct [(0, 3), (1, 64), (3, 27), (4, 9), (5, 65), (6, 27)])⟩
  | 77 => some ⟨(some .u64), none, 1, 8, false, true, [.v (.int .u64 0)], .oth⟩
  | 80 => some ⟨none, none, 3, 24, true, true, [.v (.int .u64 0), .v (.int .u64 0), .v (.int .u64 0)], (.arr 3 28)⟩
  | 85 => some ⟨none, (some [.int .u16, .int .u32, .int .i64]), 3, 16, true, true, [.v (.int .u16 0), .v (.int .u32 0), .v (.int .i64 0)], (.struct [(0, 64), (2, 3)])⟩
  | 86 => some ⟨none, (some [.int .u16, .int .u32, .int .i64]), 3, 16, true, true, [.v (.int .u16 0), .v (.int .u32 0), .v (.int .i64 0)], (.struct [(0, 64), (2, 3)])⟩
  | 91 => some ⟨none, none, 1, 24, false, false, [.row 64], (.slice 64)⟩
  | 99 => some ⟨none, (some [.int .u16, .int .u32, .int .i64]), 3, 16, true, true, [.v (.int .u16 0), .v (.int .u32 0), .v (.int .i64 0)], (.struct [(0, 53), (2, 3)])⟩
  | 100 => some ⟨none, (some [.int .u16, .int .u32, .int .i64]), 3, 16, true, true, [.v (.int .u16 0), .v (.int .u32 0), .v (.int .i64 0)], (.struct [(0, 53), (2, 3)])⟩
  | 123 => some ⟨none, none, 1, 24, false, false, [.row 3], (.slice 3)⟩
  | 127 => some ⟨(some .i64), none, 1, 8, false, true, [.v (.int .i64 0)], .oth⟩
  | 136 => some ⟨(some .u64), none, 1, 8, false, true, [.v (.int .u64 0)], .oth⟩
  | 140 => some ⟨none, none, 1, 8, false, false, [.v (.pointer none)], .oth⟩
  | 142 => some ⟨none, none, 1, 8, false, false, [.v (.pointer none)], .oth⟩
  | 154 => some ⟨none, none, 1, 8, false, false, [.v (.pointer none)], .oth⟩
  | _ => none

@[go_sem] theorem TTe2 : TT 2 = some ⟨(some .i64), none, 1, 8, false, true, [.v (.int .i64 0)], .oth⟩ := rfl
@[go_sem] theorem TTe3 : TT 3 = some ⟨(some .i64), none, 1, 8, false, true, [.v (.int .i64 0)], .oth⟩ := rfl
@[go_sem] theorem TTe4 : TT 4 = some ⟨none, none, 1, 1, false, true, [.v (.bool false)], .bool⟩ := rfl
@[go_sem] theorem TTe5 : TT 5 = some ⟨(some .u8), none, 1, 1, false, true, [.v (.int .u8 0)], .oth⟩ := rfl
@[go_sem] theorem TTe9 : TT 9 = some ⟨none, none, 1, 16, false, true, [.v (.string ⟨#[]⟩)], .str⟩ := rfl
@[go_sem] theorem TTe12 : TT 12 = some ⟨(some .u64), none, 1, 8, false, true, [.v (.int .u64 0)], .oth⟩ := rfl
@[go_sem] theorem TTe21 : TT 21 = some ⟨(some .i32), none, 1, 4, false, true, [.v (.int .i32 0)], .oth⟩ := rfl
@[go_sem] theorem TTe22 : TT 22 = some ⟨none, none, 1, 24, false, false, [.row 5], (.slice 5)⟩ := rfl
@[go_sem] theorem TTe24 : TT 24 = some ⟨none, none, 1, 8, false, false, [.v (.pointer none)], .oth⟩ := rfl
@[go_sem] theorem TTe26 : TT 26 = some ⟨(some .u16), none, 1, 2, false, true, [.v (.int .u16 0)], .oth⟩ := rfl
@[go_sem] theorem TTe27 : TT 27 = some ⟨(some .u32), none, 1, 4, false, true, [.v (.int .u32 0)], .oth⟩ := rfl
@[go_sem] theorem TTe28 : TT 28 = some ⟨(some .u64), none, 1, 8, false, true, [.v (.int .u64 0)], .oth⟩ := rfl
@[go_sem] theorem TTe29 : TT 29 = some ⟨none, none, 1, 24, false, false, [.row 56], (.slice 56)⟩ := rfl
@[go_sem] theorem TTe30 : TT 30 = some ⟨none, none, 5, 48, true, false, [.v (.int .u16 0), .v (.int .u32 0), .v (.int .u64 0), .v (.int .i64 0), .row 56], (.struct [(0, 26), (1, 27), (2, 28), (3, 3), (4, 29)])⟩ := rfl
@[go_sem] theorem TTe31 : TT 31 = some ⟨none, none, 5, 48, true, false, [.v (.int .u16 0), .v (.int .u32 0), .v (.int .u64 0), .v (.int .i64 0), .row 56], (.struct [(0, 26), (1, 27), (2, 28), (3, 3), (4, 29)])⟩ := rfl
@[go_sem] theorem TTe33 : TT 33 = some ⟨none, none, 1, 24, false, false, [.row 67], (.slice 67)⟩ := rfl
@[go_sem] theorem TTe34 : TT 34 = some ⟨none, none, 5, 48, true, false, [.v (.int .u16 0), .v (.int .u32 0), .v (.int .u64 0), .v (.int .i64 0), .row 67], (.struct [(0, 26), (1, 27), (2, 28), (3, 3), (4, 33)])⟩ := rfl
@[go_sem] theorem TTe35 : TT 35 = some ⟨none, none, 5, 48, true, false, [.v (.int .u16 0), .v (.int .u32 0), .v (.int .u64 0), .v (.int .i64 0), .row 67], (.struct [(0, 26), (1, 27), (2, 28), (3, 3), (4, 33)])⟩ := rfl
@[go_sem] theorem TTe40 : TT 40 = some ⟨(some .i64), none, 1, 8, false, true, [.v (.int .i64 0)], .oth⟩ := rfl
@[go_sem] theorem TTe46 : TT 46 = some ⟨none, none, 1, 24, true, false, [.row 5], (.struct [(0, 22)])⟩ := rfl
@[go_sem] theorem TTe47 : TT 47 = some ⟨none, none, 1, 24, true, false, [.row 5], (.struct [(0, 22)])⟩ := rfl
@[go_sem] theorem TTe49 : TT 49 = some ⟨none, none, 1, 8, false, false, [.v (.pointer none)], .oth⟩ := rfl
@[go_sem] theorem TTe52 : TT 52 = some ⟨none, (some [.int .u16, .int .u32]), 2, 8, true, true, [.v (.int .u16 0), .v (.int .u32 0)], (.struct [(0, 26), (1, 27)])⟩ := rfl
@[go_sem] theorem TTe53 : TT 53 = some ⟨none, (some [.int .u16, .int .u32]), 2, 8, true, true, [.v (.int .u16 0), .v (.int .u32 0)], (.struct [(0, 26), (1, 27)])⟩ := rfl
@[go_sem] theorem TTe54 : TT 54 = some ⟨none, none, 1, 24, false, false, [.row 100], (.slice 100)⟩ := rfl
@[go_sem] theorem TTe55 : TT 55 = some ⟨none, none, 7, 72, true, false, [.v (.int .i64 0), .v (.int .u16 0), .v (.int .u32 0), .v (.int .u32 0), .v (.string ⟨#[]⟩), .row 100, .v (.int .u32 0)], (.struct [(0, 3), (1, 53), (3, 27), (4, 9), (5, 54), (6, 27)])⟩ := rfl
@[go_sem] theorem TTe56 : TT 56 = some ⟨none, none, 7, 72, true, false, [.v (.int .i64 0), .v (.int .u16 0), .v (.int .u32 0), .v (.int .u32 0), .v (.string ⟨#[]⟩), .row 100, .v (.int .u32 0)], (.struct [(0, 3), (1, 53), (3, 27), (4, 9), (5, 54), (6, 27)])⟩ := rfl
@[go_sem] theorem TTe57 : TT 57 = some ⟨none, (some [.str, .int .i64, .int .i64]), 3, 32, true, true, [.v (.string ⟨#[]⟩), .v (.int .i64 0), .v (.int .i64 0)], (.struct [(0, 9), (1, 3), (2, 40)])⟩ := rfl
@[go_sem] theorem TTe58 : TT 58 = some ⟨none, (some [.str, .int .i64, .int .i64]), 3, 32, true, true, [.v (.string ⟨#[]⟩), .v (.int .i64 0), .v (.int .i64 0)], (.struct [(0, 9), (1, 3), (2, 40)])⟩ := rfl
@[go_sem] theorem TTe61 : TT 61 = some ⟨none, none, 5, 40, true, true, [.v (.int .u64 0), .v (.int .u64 0), .v (.int .u64 0), .v (.int .u64 0), .v (.int .u64 0)], (.arr 5 28)⟩ := rfl
@[go_sem] theorem TTe64 : TT 64 = some ⟨none, (some [.int .u16, .int .u32]), 2, 8, true, true, [.v (.int .u16 0), .v (.int .u32 0)], (.struct [(0, 26), (1, 27)])⟩ := rfl
@[go_sem] theorem TTe65 : TT 65 = some ⟨none, none, 1, 24, false, false, [.row 86], (.slice 86)⟩ := rfl
@[go_sem] theorem TTe66 : TT 66 = some ⟨none, none, 7, 72, true, false, [.v (.int .i64 0), .v (.int .u16 0), .v (.int .u32 0), .v (.int .u32 0), .v (.string ⟨#[]⟩), .row 86, .v (.int .u32 0)], (.struct [(0, 3), (1, 64), (3, 27), (4, 9), (5, 65), (6, 27)])⟩ := rfl
@[go_sem] theorem TTe67 : TT 67 = some ⟨none, none, 7, 72, true, false, [.v (.int .i64 0), .v (.int .u16 0), .v (.int .u32 0), .v (.int .u32 0), .v (.string ⟨#[]⟩), .row 86, .v (.int .u32 0)], (.struct [(0, 3), (1, 64), (3, 27), (4, 9), (5, 65), (6, 27)])⟩ := rfl
@[go_sem] theorem TTe77 : TT 77 = some ⟨(some .u64), none, 1, 8, false, true, [.v (.int .u64 0)], .oth⟩ := rfl
@[go_sem] theorem TTe80 : TT 80 = some ⟨none, none, 3, 24, true, true, [.v (.int .u64 0), .v (.int .u64 0), .v (.int .u64 0)], (.arr 3 28)⟩ := rfl
@[go_sem] theorem TTe85 : TT 85 = some ⟨none, (some [.int .u16, .int .u32, .int .i64]), 3, 16, true, true, [.v (.int .u16 0), .v (.int .u32 0), .v (.int .i64 0)], (.struct [(0, 64), (2, 3)])⟩ := rfl
@[go_sem] theorem TTe86 : TT 86 = some ⟨none, (some [.int .u16, .int .u32, .int .i64]), 3, 16, true, true, [.v (.int .u16 0), .v (.int .u32 0), .v (.int .i64 0)], (.struct [(0, 64), (2, 3)])⟩ := rfl
@[go_sem] theorem TTe91 : TT 91 = some ⟨none, none, 1, 24, false, false, [.row 64], (.slice 64)⟩ := rfl
@[go_sem] theorem TTe99 : TT 99 = some ⟨none, (some [.int .u16, .int .u32, .int .i64]), 3, 16, true, true, [.v (.int .u16 0), .v (.int .u32 0), .v (.int .i64 0)], (.struct [(0, 53), (2, 3)])⟩ := rfl
@[go_sem] theorem TTe100 : TT 100 = some ⟨none, (some [.int .u16, .int .u32, .int .i64]), 3, 16, true, true, [.v (.int .u16 0), .v (.int .u32 0), .v (.int .i64 0)], (.struct [(0, 53), (2, 3)])⟩ := rfl
@[go_sem] theorem TTe123 : TT 123 = some ⟨none, none, 1, 24, false, false, [.row 3], (.slice 3)⟩ := rfl
@[go_sem] theorem TTe127 : TT 127 = some ⟨(some .i64), none, 1, 8, false, true, [.v (.int .i64 0)], .oth⟩ := rfl
@[go_sem] theorem TTe136 : TT 136 = some ⟨(some .u64), none, 1, 8, false, true, [.v (.int .u64 0)], .oth⟩ := rfl
@[go_sem] theorem TTe140 : TT 140 = some ⟨none, none, 1, 8, false, false, [.v (.pointer none)], .oth⟩ := rfl
@[go_sem] theorem TTe142 : TT 142 = some ⟨none, none, 1, 8, false, false, [.v (.pointer none)], .oth⟩ := rfl
@[go_sem] theorem TTe154 : TT 154 = some ⟨none, none, 1, 8, false, false, [.v (.pointer none)], .oth⟩ := rfl
theorem TTe : True := trivial
theorem tt2 : TIok Tryd.prog 2 ⟨(some .i64), none, 1, 8, false, true, [.v (.int .i64 0)], .oth⟩ :=
  TIok.mk' (z := ((.int .i64 0))) (by kernel_rfl) (by simp [zOk, Value.cells, Value.oneCell']) rfl (by decide) Tryd.underlying2 trivial rfl (fun k h => by cases h; exact Tryd.underlying2) (fun ks h => by cases h)
theorem tt3 : TIok Tryd.prog 3 ⟨(some .i64), none, 1, 8, false, true, [.v (.int .i64 0)], .oth⟩ :=
  TIok.mk' (z := ((.int .i64 0))) (by kernel_rfl) (by simp [zOk, Value.cells, Value.oneCell']) rfl (by decide) Tryd.underlying3 trivial rfl (fun k h => by cases h; exact Tryd.underlying3) (fun ks h => by cases h)
theorem tt4 : TIok Tryd.prog 4 ⟨none, none, 1, 1, false, true, [.v (.bool false)], .bool⟩ :=
  TIok.mk' (z := ((.bool false))) (by kernel_rfl) (by simp [zOk, Value.cells, Value.oneCell']) rfl (by decide) Tryd.underlying4 rfl rfl (fun k h => by cases h) (fun ks h => by cases h)
theorem tt5 : TIok Tryd.prog 5 ⟨(some .u8), none, 1, 1, false, true, [.v (.int .u8 0)], .oth⟩ :=
  TIok.mk' (z := ((.int .u8 0))) (by kernel_rfl) (by simp [zOk, Value.cells, Value.oneCell']) rfl (by decide) Tryd.underlying5 trivial rfl (fun k h => by cases h; exact Tryd.underlying5) (fun ks h => by cases h)
theorem tt9 : TIok Tryd.prog 9 ⟨none, none, 1, 16, false, true, [.v (.string ⟨#[]⟩)], .str⟩ :=
  TIok.mk' (z := ((.string ⟨#[]⟩))) (by kernel_rfl) (by simp [zOk, Value.cells, Value.oneCell']) rfl (by decide) Tryd.underlying9 rfl rfl (fun k h => by cases h) (fun ks h => by cases h)
theorem tt12 : TIok Tryd.prog 12 ⟨(some .u64), none, 1, 8, false, true, [.v (.int .u64 0)], .oth⟩ :=
  TIok.mk' (z := ((.int .u64 0))) (by kernel_rfl) (by simp [zOk, Value.cells, Value.oneCell']) rfl (by decide) Tryd.underlying12 trivial rfl (fun k h => by cases h; exact Tryd.underlying12) (fun ks h => by cases h)
theorem tt21 : TIok Tryd.prog 21 ⟨(some .i32), none, 1, 4, false, true, [.v (.int .i32 0)], .oth⟩ :=
  TIok.mk' (z := ((.int .i32 0))) (by kernel_rfl) (by simp [zOk, Value.cells, Value.oneCell']) rfl (by decide) Tryd.underlying21 trivial rfl (fun k h => by cases h; exact Tryd.underlying21) (fun ks h => by cases h)
theorem tt22 : TIok Tryd.prog 22 ⟨none, none, 1, 24, false, false, [.row 5], (.slice 5)⟩ :=
  TIok.mk' (z := ((.slice none 0 0))) (by kernel_rfl) (by simp [zOk, Value.cells, Value.oneCell']) rfl (by decide) Tryd.underlying22 rfl rfl (fun k h => by cases h) (fun ks h => by cases h)
theorem tt24 : TIok Tryd.prog 24 ⟨none, none, 1, 8, false, false, [.v (.pointer none)], .oth⟩ :=
  TIok.mk' (z := ((.pointer none))) (by kernel_rfl) (by simp [zOk, Value.cells, Value.oneCell']) rfl (by decide) Tryd.underlying24 trivial rfl (fun k h => by cases h) (fun ks h => by cases h)
theorem tt26 : TIok Tryd.prog 26 ⟨(some .u16), none, 1, 2, false, true, [.v (.int .u16 0)], .oth⟩ :=
  TIok.mk' (z := ((.int .u16 0))) (by kernel_rfl) (by simp [zOk, Value.cells, Value.oneCell']) rfl (by decide) Tryd.underlying26 trivial rfl (fun k h => by cases h; exact Tryd.underlying26) (fun ks h => by cases h)
theorem tt27 : TIok Tryd.prog 27 ⟨(some .u32), none, 1, 4, false, true, [.v (.int .u32 0)], .oth⟩ :=
  TIok.mk' (z := ((.int .u32 0))) (by kernel_rfl) (by simp [zOk, Value.cells, Value.oneCell']) rfl (by decide) Tryd.underlying27 trivial rfl (fun k h => by cases h; exact Tryd.underlying27) (fun ks h => by cases h)
theorem tt28 : TIok Tryd.prog 28 ⟨(some .u64), none, 1, 8, false, true, [.v (.int .u64 0)], .oth⟩ :=
  TIok.mk' (z := ((.int .u64 0))) (by kernel_rfl) (by simp [zOk, Value.cells, Value.oneCell']) rfl (by decide) Tryd.underlying28 trivial rfl (fun k h => by cases h; exact Tryd.underlying28) (fun ks h => by cases h)
theorem tt29 : TIok Tryd.prog 29 ⟨none, none, 1, 24, false, false, [.row 56], (.slice 56)⟩ :=
  TIok.mk' (z := ((.slice none 0 0))) (by kernel_rfl) (by simp [zOk, Value.cells, Value.oneCell']) rfl (by decide) Tryd.underlying29 rfl rfl (fun k h => by cases h) (fun ks h => by cases h)
theorem tt30 : TIok Tryd.prog 30 ⟨none, none, 5, 48, true, false, [.v (.int .u16 0), .v (.int .u32 0), .v (.int .u64 0), .v (.int .i64 0), .row 56], (.struct [(0, 26), (1, 27), (2, 28), (3, 3), (4, 29)])⟩ :=
  TIok.mk' (z := (.agg #[(.int .u16 0), (.int .u32 0), (.int .u64 0), (.int .i64 0), (.slice none 0 0)])) (by kernel_rfl) (by simp [zOk, Value.cells, Value.oneCell']) rfl (by decide) Tryd.underlying30 ⟨_, rfl, rfl⟩ rfl (fun k h => by cases h) (fun ks h => by cases h)
theorem tt31 : TIok Tryd.prog 31 ⟨none, none, 5, 48, true, false, [.v (.int .u16 0), .v (.int .u32 0), .v (.int .u64 0), .v (.int .i64 0), .row 56], (.struct [(0, 26), (1, 27), (2, 28), (3, 3), (4, 29)])⟩ :=
  TIok.mk' (z := (.agg #[(.int .u16 0), (.int .u32 0), (.int .u64 0), (.int .i64 0), (.slice none 0 0)])) (by kernel_rfl) (by simp [zOk, Value.cells, Value.oneCell']) rfl (by decide) Tryd.underlying31 ⟨_, rfl, rfl⟩ rfl (fun k h => by cases h) (fun ks h => by cases h)
theorem tt33 : TIok Tryd.prog 33 ⟨none, none, 1, 24, false, false, [.row 67], (.slice 67)⟩ :=
  TIok.mk' (z := ((.slice none 0 0))) (by kernel_rfl) (by simp [zOk, Value.cells, Value.oneCell']) rfl (by decide) Tryd.underlying33 rfl rfl (fun k h => by cases h) (fun ks h => by cases h)
theorem tt34 : TIok Tryd.prog 34 ⟨none, none, 5, 48, true, false, [.v (.int .u16 0), .v (.int .u32 0), .v (.int .u64 0), .v (.int .i64 0), .row 67], (.struct [(0, 26), (1, 27), (2, 28), (3, 3), (4, 33)])⟩ :=
  TIok.mk' (z := (.agg #[(.int .u16 0), (.int .u32 0), (.int .u64 0), (.int .i64 0), (.slice none 0 0)])) (by kernel_rfl) (by simp [zOk, Value.cells, Value.oneCell']) rfl (by decide) Tryd.underlying34 ⟨_, rfl, rfl⟩ rfl (fun k h => by cases h) (fun ks h => by cases h)
theorem tt35 : TIok Tryd.prog 35 ⟨none, none, 5, 48, true, false, [.v (.int .u16 0), .v (.int .u32 0), .v (.int .u64 0), .v (.int .i64 0), .row 67], (.struct [(0, 26), (1, 27), (2, 28), (3, 3), (4, 33)])⟩ :=
  TIok.mk' (z := (.agg #[(.int .u16 0), (.int .u32 0), (.int .u64 0), (.int .i64 0), (.slice none 0 0)])) (by kernel_rfl) (by simp [zOk, Value.cells, Value.oneCell']) rfl (by decide) Tryd.underlying35 ⟨_, rfl, rfl⟩ rfl (fun k h => by cases h) (fun ks h => by cases h)
theorem tt40 : TIok Tryd.prog 40 ⟨(some .i64), none, 1, 8, false, true, [.v (.int .i64 0)], .oth⟩ :=
  TIok.mk' (z := ((.int .i64 0))) (by kernel_rfl) (by simp [zOk, Value.cells, Value.oneCell']) rfl (by decide) Tryd.underlying40 trivial rfl (fun k h => by cases h; exact Tryd.underlying40) (fun ks h => by cases h)
theorem tt46 : TIok Tryd.prog 46 ⟨none, none, 1, 24, true, false, [.row 5], (.struct [(0, 22)])⟩ :=
  TIok.mk' (z := (.agg #[(.slice none 0 0)])) (by kernel_rfl) (by simp [zOk, Value.cells, Value.oneCell']) rfl (by decide) Tryd.underlying46 ⟨_, rfl, rfl⟩ rfl (fun k h => by cases h) (fun ks h => by cases h)
theorem tt47 : TIok Tryd.prog 47 ⟨none, none, 1, 24, true, false, [.row 5], (.struct [(0, 22)])⟩ :=
  TIok.mk' (z := (.agg #[(.slice none 0 0)])) (by kernel_rfl) (by simp [zOk, Value.cells, Value.oneCell']) rfl (by decide) Tryd.underlying47 ⟨_, rfl, rfl⟩ rfl (fun k h => by cases h) (fun ks h => by cases h)
theorem tt49 : TIok Tryd.prog 49 ⟨none, none, 1, 8, false, false, [.v (.pointer none)], .oth⟩ :=
  TIok.mk' (z := ((.pointer none))) (by kernel_rfl) (by simp [zOk, Value.cells, Value.oneCell']) rfl (by decide) Tryd.underlying49 trivial rfl (fun k h => by cases h) (fun ks h => by cases h)
theorem tt52_eq : EqTy Tryd.prog 2 52 [.int .u16, .int .u32] :=
  eqTy_struct Tryd.underlying52 (by kernel_rfl) (.one rfl rfl Tryd.underlying26 rfl (scEq_int 0 Tryd.underlying26) (.one rfl rfl Tryd.underlying27 rfl (scEq_int 0 Tryd.underlying27) .nil))
theorem tt52 : TIok Tryd.prog 52 ⟨none, (some [.int .u16, .int .u32]), 2, 8, true, true, [.v (.int .u16 0), .v (.int .u32 0)], (.struct [(0, 26), (1, 27)])⟩ :=
  TIok.mk' (z := (.agg #[(.int .u16 0), (.int .u32 0)])) (by kernel_rfl) (by simp [zOk, Value.cells, Value.oneCell']) rfl (by decide) Tryd.underlying52 ⟨_, rfl, rfl⟩ rfl (fun k h => by cases h) (eqk_flat (by kernel_rfl) (by decide) tt52_eq)
theorem tt53_eq : EqTy Tryd.prog 2 53 [.int .u16, .int .u32] :=
  eqTy_struct Tryd.underlying53 (by kernel_rfl) (.one rfl rfl Tryd.underlying26 rfl (scEq_int 0 Tryd.underlying26) (.one rfl rfl Tryd.underlying27 rfl (scEq_int 0 Tryd.underlying27) .nil))
theorem tt53 : TIok Tryd.prog 53 ⟨none, (some [.int .u16, .int .u32]), 2, 8, true, true, [.v (.int .u16 0), .v (.int .u32 0)], (.struct [(0, 26), (1, 27)])⟩ :=
  TIok.mk' (z := (.agg #[(.int .u16 0), (.int .u32 0)])) (by kernel_rfl) (by simp [zOk, Value.cells, Value.oneCell']) rfl (by decide) Tryd.underlying53 ⟨_, rfl, rfl⟩ rfl (fun k h => by cases h) (eqk_flat (by kernel_rfl) (by decide) tt53_eq)
theorem tt54 : TIok Tryd.prog 54 ⟨none, none, 1, 24, false, false, [.row 100], (.slice 100)⟩ :=
  TIok.mk' (z := ((.slice none 0 0))) (by kernel_rfl) (by simp [zOk, Value.cells, Value.oneCell']) rfl (by decide) Tryd.underlying54 rfl rfl (fun k h => by cases h) (fun ks h => by cases h)
theorem tt55 : TIok Tryd.prog 55 ⟨none, none, 7, 72, true, false, [.v (.int .i64 0), .v (.int .u16 0), .v (.int .u32 0), .v (.int .u32 0), .v (.string ⟨#[]⟩), .row 100, .v (.int .u32 0)], (.struct [(0, 3), (1, 53), (3, 27), (4, 9), (5, 54), (6, 27)])⟩ :=
  TIok.mk' (z := (.agg #[(.int .i64 0), (.int .u16 0), (.int .u32 0), (.int .u32 0), (.string ⟨#[]⟩), (.slice none 0 0), (.int .u32 0)])) (by kernel_rfl) (by simp [zOk, Value.cells, Value.oneCell']) rfl (by decide) Tryd.underlying55 ⟨_, rfl, rfl⟩ rfl (fun k h => by cases h) (fun ks h => by cases h)
theorem tt56 : TIok Tryd.prog 56 ⟨none, none, 7, 72, true, false, [.v (.int .i64 0), .v (.int .u16 0), .v (.int .u32 0), .v (.int .u32 0), .v (.string ⟨#[]⟩), .row 100, .v (.int .u32 0)], (.struct [(0, 3), (1, 53), (3, 27), (4, 9), (5, 54), (6, 27)])⟩ :=
  TIok.mk' (z := (.agg #[(.int .i64 0), (.int .u16 0), (.int .u32 0), (.int .u32 0), (.string ⟨#[]⟩), (.slice none 0 0), (.int .u32 0)])) (by kernel_rfl) (by simp [zOk, Value.cells, Value.oneCell']) rfl (by decide) Tryd.underlying56 ⟨_, rfl, rfl⟩ rfl (fun k h => by cases h) (fun ks h => by cases h)
theorem tt57_eq : EqTy Tryd.prog 2 57 [.str, .int .i64, .int .i64] :=
  eqTy_struct Tryd.underlying57 (by kernel_rfl) (.one rfl rfl Tryd.underlying9 rfl (scEq_str 0 Tryd.underlying9) (.one rfl rfl Tryd.underlying3 rfl (scEq_int 0 Tryd.underlying3) (.one rfl rfl Tryd.underlying40 rfl (scEq_int 0 Tryd.underlying40) .nil)))
theorem tt57 : TIok Tryd.prog 57 ⟨none, (some [.str, .int .i64, .int .i64]), 3, 32, true, true, [.v (.string ⟨#[]⟩), .v (.int .i64 0), .v (.int .i64 0)], (.struct [(0, 9), (1, 3), (2, 40)])⟩ :=
  TIok.mk' (z := (.agg #[(.string ⟨#[]⟩), (.int .i64 0), (.int .i64 0)])) (by kernel_rfl) (by simp [zOk, Value.cells, Value.oneCell']) rfl (by decide) Tryd.underlying57 ⟨_, rfl, rfl⟩ rfl (fun k h => by cases h) (eqk_flat (by kernel_rfl) (by decide) tt57_eq)
theorem tt58_eq : EqTy Tryd.prog 2 58 [.str, .int .i64, .int .i64] :=
  eqTy_struct Tryd.underlying58 (by kernel_rfl) (.one rfl rfl Tryd.underlying9 rfl (scEq_str 0 Tryd.underlying9) (.one rfl rfl Tryd.underlying3 rfl (scEq_int 0 Tryd.underlying3) (.one rfl rfl Tryd.underlying40 rfl (scEq_int 0 Tryd.underlying40) .nil)))
theorem tt58 : TIok Tryd.prog 58 ⟨none, (some [.str, .int .i64, .int .i64]), 3, 32, true, true, [.v (.string ⟨#[]⟩), .v (.int .i64 0), .v (.int .i64 0)], (.struct [(0, 9), (1, 3), (2, 40)])⟩ :=
  TIok.mk' (z := (.agg #[(.string ⟨#[]⟩), (.int .i64 0), (.int .i64 0)])) (by kernel_rfl) (by simp [zOk, Value.cells, Value.oneCell']) rfl (by decide) Tryd.underlying58 ⟨_, rfl, rfl⟩ rfl (fun k h => by cases h) (eqk_flat (by kernel_rfl) (by decide) tt58_eq)
theorem tt61 : TIok Tryd.prog 61 ⟨none, none, 5, 40, true, true, [.v (.int .u64 0), .v (.int .u64 0), .v (.int .u64 0), .v (.int .u64 0), .v (.int .u64 0)], (.arr 5 28)⟩ :=
  TIok.mk' (z := (.agg #[(.int .u64 0), (.int .u64 0), (.int .u64 0), (.int .u64 0), (.int .u64 0)])) (by kernel_rfl) (by simp [zOk, Value.cells, Value.oneCell']) rfl (by decide) Tryd.underlying61 rfl rfl (fun k h => by cases h) (fun ks h => by cases h)
theorem tt64_eq : EqTy Tryd.prog 2 64 [.int .u16, .int .u32] :=
  eqTy_struct Tryd.underlying64 (by kernel_rfl) (.one rfl rfl Tryd.underlying26 rfl (scEq_int 0 Tryd.underlying26) (.one rfl rfl Tryd.underlying27 rfl (scEq_int 0 Tryd.underlying27) .nil))
theorem tt64 : TIok Tryd.prog 64 ⟨none, (some [.int .u16, .int .u32]), 2, 8, true, true, [.v (.int .u16 0), .v (.int .u32 0)], (.struct [(0, 26), (1, 27)])⟩ :=
  TIok.mk' (z := (.agg #[(.int .u16 0), (.int .u32 0)])) (by kernel_rfl) (by simp [zOk, Value.cells, Value.oneCell']) rfl (by decide) Tryd.underlying64 ⟨_, rfl, rfl⟩ rfl (fun k h => by cases h) (eqk_flat (by kernel_rfl) (by decide) tt64_eq)
theorem tt65 : TIok Tryd.prog 65 ⟨none, none, 1, 24, false, false, [.row 86], (.slice 86)⟩ :=
  TIok.mk' (z := ((.slice none 0 0))) (by kernel_rfl) (by simp [zOk, Value.cells, Value.oneCell']) rfl (by decide) Tryd.underlying65 rfl rfl (fun k h => by cases h) (fun ks h => by cases h)
theorem tt66 : TIok Tryd.prog 66 ⟨none, none, 7, 72, true, false, [.v (.int .i64 0), .v (.int .u16 0), .v (.int .u32 0), .v (.int .u32 0), .v (.string ⟨#[]⟩), .row 86, .v (.int .u32 0)], (.struct [(0, 3), (1, 64), (3, 27), (4, 9), (5, 65), (6, 27)])⟩ :=
  TIok.mk' (z := (.agg #[(.int .i64 0), (.int .u16 0), (.int .u32 0), (.int .u32 0), (.string ⟨#[]⟩), (.slice none 0 0), (.int .u32 0)])) (by kernel_rfl) (by simp [zOk, Value.cells, Value.oneCell']) rfl (by decide) Tryd.underlying66 ⟨_, rfl, rfl⟩ rfl (fun k h => by cases h) (fun ks h => by cases h)
theorem tt67 : TIok Tryd.prog 67 ⟨none, none, 7, 72, true, false, [.v (.int .i64 0), .v (.int .u16 0), .v (.int .u32 0), .v (.int .u32 0), .v (.string ⟨#[]⟩), .row 86, .v (.int .u32 0)], (.struct [(0, 3), (1, 64), (3, 27), (4, 9), (5, 65), (6, 27)])⟩ :=
  TIok.mk' (z := (.agg #[(.int .i64 0), (.int .u16 0), (.int .u32 0), (.int .u32 0), (.string ⟨#[]⟩), (.slice none 0 0), (.int .u32 0)])) (by kernel_rfl) (by simp [zOk, Value.cells, Value.oneCell']) rfl (by decide) Tryd.underlying67 ⟨_, rfl, rfl⟩ rfl (fun k h => by cases h) (fun ks h => by cases h)
theorem tt77 : TIok Tryd.prog 77 ⟨(some .u64), none, 1, 8, false, true, [.v (.int .u64 0)], .oth⟩ :=
  TIok.mk' (z := ((.int .u64 0))) (by kernel_rfl) (by simp [zOk, Value.cells, Value.oneCell']) rfl (by decide) Tryd.underlying77 trivial rfl (fun k h => by cases h; exact Tryd.underlying77) (fun ks h => by cases h)
theorem tt80 : TIok Tryd.prog 80 ⟨none, none, 3, 24, true, true, [.v (.int .u64 0), .v (.int .u64 0), .v (.int .u64 0)], (.arr 3 28)⟩ :=
  TIok.mk' (z := (.agg #[(.int .u64 0), (.int .u64 0), (.int .u64 0)])) (by kernel_rfl) (by simp [zOk, Value.cells, Value.oneCell']) rfl (by decide) Tryd.underlying80 rfl rfl (fun k h => by cases h) (fun ks h => by cases h)
theorem tt85_eq : EqTy Tryd.prog 3 85 [.int .u16, .int .u32, .int .i64] :=
  eqTy_struct Tryd.underlying85 (by kernel_rfl) (.sub (ks1 := [.int .u16, .int .u32]) (ks := [.int .i64]) rfl rfl Tryd.underlying64 (by kernel_rfl) (tt64_eq.up (by decide)) (.one rfl rfl Tryd.underlying3 rfl (scEq_int 1 Tryd.underlying3) .nil))
theorem tt85 : TIok Tryd.prog 85 ⟨none, (some [.int .u16, .int .u32, .int .i64]), 3, 16, true, true, [.v (.int .u16 0), .v (.int .u32 0), .v (.int .i64 0)], (.struct [(0, 64), (2, 3)])⟩ :=
  TIok.mk' (z := (.agg #[(.int .u16 0), (.int .u32 0), (.int .i64 0)])) (by kernel_rfl) (by simp [zOk, Value.cells, Value.oneCell']) rfl (by decide) Tryd.underlying85 ⟨_, rfl, rfl⟩ rfl (fun k h => by cases h) (eqk_flat (by kernel_rfl) (by decide) tt85_eq)
theorem tt86_eq : EqTy Tryd.prog 3 86 [.int .u16, .int .u32, .int .i64] :=
  eqTy_struct Tryd.underlying86 (by kernel_rfl) (.sub (ks1 := [.int .u16, .int .u32]) (ks := [.int .i64]) rfl rfl Tryd.underlying64 (by kernel_rfl) (tt64_eq.up (by decide)) (.one rfl rfl Tryd.underlying3 rfl (scEq_int 1 Tryd.underlying3) .nil))
theorem tt86 : TIok Tryd.prog 86 ⟨none, (some [.int .u16, .int .u32, .int .i64]), 3, 16, true, true, [.v (.int .u16 0), .v (.int .u32 0), .v (.int .i64 0)], (.struct [(0, 64), (2, 3)])⟩ :=
  TIok.mk' (z := (.agg #[(.int .u16 0), (.int .u32 0), (.int .i64 0)])) (by kernel_rfl) (by simp [zOk, Value.cells, Value.oneCell']) rfl (by decide) Tryd.underlying86 ⟨_, rfl, rfl⟩ rfl (fun k h => by cases h) (eqk_flat (by kernel_rfl) (by decide) tt86_eq)
theorem tt91 : TIok Tryd.prog 91 ⟨none, none, 1, 24, false, false, [.row 64], (.slice 64)⟩ :=
  TIok.mk' (z := ((.slice none 0 0))) (by kernel_rfl) (by simp [zOk, Value.cells, Value.oneCell']) rfl (by decide) Tryd.underlying91 rfl rfl (fun k h => by cases h) (fun ks h => by cases h)
theorem tt99_eq : EqTy Tryd.prog 3 99 [.int .u16, .int .u32, .int .i64] :=
  eqTy_struct Tryd.underlying99 (by kernel_rfl) (.sub (ks1 := [.int .u16, .int .u32]) (ks := [.int .i64]) rfl rfl Tryd.underlying53 (by kernel_rfl) (tt53_eq.up (by decide)) (.one rfl rfl Tryd.underlying3 rfl (scEq_int 1 Tryd.underlying3) .nil))
theorem tt99 : TIok Tryd.prog 99 ⟨none, (some [.int .u16, .int .u32, .int .i64]), 3, 16, true, true, [.v (.int .u16 0), .v (.int .u32 0), .v (.int .i64 0)], (.struct [(0, 53), (2, 3)])⟩ :=
  TIok.mk' (z := (.agg #[(.int .u16 0), (.int .u32 0), (.int .i64 0)])) (by kernel_rfl) (by simp [zOk, Value.cells, Value.oneCell']) rfl (by decide) Tryd.underlying99 ⟨_, rfl, rfl⟩ rfl (fun k h => by cases h) (eqk_flat (by kernel_rfl) (by decide) tt99_eq)
theorem tt100_eq : EqTy Tryd.prog 3 100 [.int .u16, .int .u32, .int .i64] :=
  eqTy_struct Tryd.underlying100 (by kernel_rfl) (.sub (ks1 := [.int .u16, .int .u32]) (ks := [.int .i64]) rfl rfl Tryd.underlying53 (by kernel_rfl) (tt53_eq.up (by decide)) (.one rfl rfl Tryd.underlying3 rfl (scEq_int 1 Tryd.underlying3) .nil))
theorem tt100 : TIok Tryd.prog 100 ⟨none, (some [.int .u16, .int .u32, .int .i64]), 3, 16, true, true, [.v (.int .u16 0), .v (.int .u32 0), .v (.int .i64 0)], (.struct [(0, 53), (2, 3)])⟩ :=
  TIok.mk' (z := (.agg #[(.int .u16 0), (.int .u32 0), (.int .i64 0)])) (by kernel_rfl) (by simp [zOk, Value.cells, Value.oneCell']) rfl (by decide) Tryd.underlying100 ⟨_, rfl, rfl⟩ rfl (fun k h => by cases h) (eqk_flat (by kernel_rfl) (by decide) tt100_eq)
theorem tt123 : TIok Tryd.prog 123 ⟨none, none, 1, 24, false, false, [.row 3], (.slice 3)⟩ :=
  TIok.mk' (z := ((.slice none 0 0))) (by kernel_rfl) (by simp [zOk, Value.cells, Value.oneCell']) rfl (by decide) Tryd.underlying123 rfl rfl (fun k h => by cases h) (fun ks h => by cases h)
theorem tt127 : TIok Tryd.prog 127 ⟨(some .i64), none, 1, 8, false, true, [.v (.int .i64 0)], .oth⟩ :=
  TIok.mk' (z := ((.int .i64 0))) (by kernel_rfl) (by simp [zOk, Value.cells, Value.oneCell']) rfl (by decide) Tryd.underlying127 trivial rfl (fun k h => by cases h; exact Tryd.underlying127) (fun ks h => by cases h)
theorem tt136 : TIok Tryd.prog 136 ⟨(some .u64), none, 1, 8, false, true, [.v (.int .u64 0)], .oth⟩ :=
  TIok.mk' (z := ((.int .u64 0))) (by kernel_rfl) (by simp [zOk, Value.cells, Value.oneCell']) rfl (by decide) Tryd.underlying136 trivial rfl (fun k h => by cases h; exact Tryd.underlying136) (fun ks h => by cases h)
theorem tt140 : TIok Tryd.prog 140 ⟨none, none, 1, 8, false, false, [.v (.pointer none)], .oth⟩ :=
  TIok.mk' (z := ((.pointer none))) (by kernel_rfl) (by simp [zOk, Value.cells, Value.oneCell']) rfl (by decide) Tryd.underlying140 trivial rfl (fun k h => by cases h) (fun ks h => by cases h)
theorem tt142 : TIok Tryd.prog 142 ⟨none, none, 1, 8, false, false, [.v (.pointer none)], .oth⟩ :=
  TIok.mk' (z := ((.pointer none))) (by kernel_rfl) (by simp [zOk, Value.cells, Value.oneCell']) rfl (by decide) Tryd.underlying142 trivial rfl (fun k h => by cases h) (fun ks h => by cases h)
theorem tt154 : TIok Tryd.prog 154 ⟨none, none, 1, 8, false, false, [.v (.pointer none)], .oth⟩ :=
  TIok.mk' (z := ((.pointer none))) (by kernel_rfl) (by simp [zOk, Value.cells, Value.oneCell']) rfl (by decide) Tryd.underlying154 trivial rfl (fun k h => by cases h) (fun ks h => by cases h)
theorem ttok : TTok Tryd.prog TT := by
  intro t i h
  unfold TT at h
  split at h <;> first | (cases h; done) | (cases h; first | exact tt2 | exact tt3 | exact tt4 | exact tt5 | exact tt9 | exact tt12 | exact tt21 | exact tt22 | exact tt24 | exact tt26 | exact tt27 | exact tt28 | exact tt29 | exact tt30 | exact tt31 | exact tt33 | exact tt34 | exact tt35 | exact tt40 | exact tt46 | exact tt47 | exact tt49 | exact tt52 | exact tt53 | exact tt54 | exact tt55 | exact tt56 | exact tt57 | exact tt58 | exact tt61 | exact tt64 | exact tt65 | exact tt66 | exact tt67 | exact tt77 | exact tt80 | exact tt85 | exact tt86 | exact tt91 | exact tt99 | exact tt100 | exact tt123 | exact tt127 | exact tt136 | exact tt140 | exact tt142 | exact tt154)
theorem mixed : Tryd.prog.follows .mixedOrders = true := by kernel_rfl
theorem ent3 : Ent Tryd.prog 3 := ⟨_, Tryd.func3, by kernel_rfl, rfl⟩
theorem ent4 : Ent Tryd.prog 4 := ⟨_, Tryd.func4, by kernel_rfl, rfl⟩
theorem ent5 : Ent Tryd.prog 5 := ⟨_, Tryd.func5, by kernel_rfl, rfl⟩
theorem ent6 : Ent Tryd.prog 6 := ⟨_, Tryd.func6, by kernel_rfl, rfl⟩
theorem ent7 : Ent Tryd.prog 7 := ⟨_, Tryd.func7, by kernel_rfl, rfl⟩
theorem ent8 : Ent Tryd.prog 8 := ⟨_, Tryd.func8, by kernel_rfl, rfl⟩
theorem ent9 : Ent Tryd.prog 9 := ⟨_, Tryd.func9, by kernel_rfl, rfl⟩
theorem ent10 : Ent Tryd.prog 10 := ⟨_, Tryd.func10, by kernel_rfl, rfl⟩
theorem ent11 : Ent Tryd.prog 11 := ⟨_, Tryd.func11, by kernel_rfl, rfl⟩
theorem ent12 : Ent Tryd.prog 12 := ⟨_, Tryd.func12, by kernel_rfl, rfl⟩
theorem ent13 : Ent Tryd.prog 13 := ⟨_, Tryd.func13, by kernel_rfl, rfl⟩
theorem ent14 : Ent Tryd.prog 14 := ⟨_, Tryd.func14, by kernel_rfl, rfl⟩
theorem ent15 : Ent Tryd.prog 15 := ⟨_, Tryd.func15, by kernel_rfl, rfl⟩
theorem ent16 : Ent Tryd.prog 16 := ⟨_, Tryd.func16, by kernel_rfl, rfl⟩
theorem ent17 : Ent Tryd.prog 17 := ⟨_, Tryd.func17, by kernel_rfl, rfl⟩
theorem ent18 : Ent Tryd.prog 18 := ⟨_, Tryd.func18, by kernel_rfl, rfl⟩
theorem ent19 : Ent Tryd.prog 19 := ⟨_, Tryd.func19, by kernel_rfl, rfl⟩
theorem ent20 : Ent Tryd.prog 20 := ⟨_, Tryd.func20, by kernel_rfl, rfl⟩
theorem ent21 : Ent Tryd.prog 21 := ⟨_, Tryd.func21, by kernel_rfl, rfl⟩
theorem ent22 : Ent Tryd.prog 22 := ⟨_, Tryd.func22, by kernel_rfl, rfl⟩
theorem ent23 : Ent Tryd.prog 23 := ⟨_, Tryd.func23, by kernel_rfl, rfl⟩
theorem ent24 : Ent Tryd.prog 24 := ⟨_, Tryd.func24, by kernel_rfl, rfl⟩
theorem ent25 : Ent Tryd.prog 25 := ⟨_, Tryd.func25, by kernel_rfl, rfl⟩
theorem ent26 : Ent Tryd.prog 26 := ⟨_, Tryd.func26, by kernel_rfl, rfl⟩
theorem ent27 : Ent Tryd.prog 27 := ⟨_, Tryd.func27, by kernel_rfl, rfl⟩
theorem ent28 : Ent Tryd.prog 28 := ⟨_, Tryd.func28, by kernel_rfl, rfl⟩
theorem ent29 : Ent Tryd.prog 29 := ⟨_, Tryd.func29, by kernel_rfl, rfl⟩
theorem ent30 : Ent Tryd.prog 30 := ⟨_, Tryd.func30, by kernel_rfl, rfl⟩
theorem ent31 : Ent Tryd.prog 31 := ⟨_, Tryd.func31, by kernel_rfl, rfl⟩
theorem ent32 : Ent Tryd.prog 32 := ⟨_, Tryd.func32, by kernel_rfl, rfl⟩
theorem ent33 : Ent Tryd.prog 33 := ⟨_, Tryd.func33, by kernel_rfl, rfl⟩
theorem ent34 : Ent Tryd.prog 34 := ⟨_, Tryd.func34, by kernel_rfl, rfl⟩
theorem ent35 : Ent Tryd.prog 35 := ⟨_, Tryd.func35, by kernel_rfl, rfl⟩
theorem ent36 : Ent Tryd.prog 36 := ⟨_, Tryd.func36, by kernel_rfl, rfl⟩
theorem ent37 : Ent Tryd.prog 37 := ⟨_, Tryd.func37, by kernel_rfl, rfl⟩
theorem ent38 : Ent Tryd.prog 38 := ⟨_, Tryd.func38, by kernel_rfl, rfl⟩
theorem ent39 : Ent Tryd.prog 39 := ⟨_, Tryd.func39, by kernel_rfl, rfl⟩
theorem ent40 : Ent Tryd.prog 40 := ⟨_, Tryd.func40, by kernel_rfl, rfl⟩
theorem ent41 : Ent Tryd.prog 41 := ⟨_, Tryd.func41, by kernel_rfl, rfl⟩
theorem ent42 : Ent Tryd.prog 42 := ⟨_, Tryd.func42, by kernel_rfl, rfl⟩
theorem ent43 : Ent Tryd.prog 43 := ⟨_, Tryd.func43, by kernel_rfl, rfl⟩
theorem ent44 : Ent Tryd.prog 44 := ⟨_, Tryd.func44, by kernel_rfl, rfl⟩
theorem ent45 : Ent Tryd.prog 45 := ⟨_, Tryd.func45, by kernel_rfl, rfl⟩
theorem ent46 : Ent Tryd.prog 46 := ⟨_, Tryd.func46, by kernel_rfl, rfl⟩
theorem ent47 : Ent Tryd.prog 47 := ⟨_, Tryd.func47, by kernel_rfl, rfl⟩
theorem ent48 : Ent Tryd.prog 48 := ⟨_, Tryd.func48, by kernel_rfl, rfl⟩
theorem ent49 : Ent Tryd.prog 49 := ⟨_, Tryd.func49, by kernel_rfl, rfl⟩
theorem ent50 : Ent Tryd.prog 50 := ⟨_, Tryd.func50, by kernel_rfl, rfl⟩
theorem ent51 : Ent Tryd.prog 51 := ⟨_, Tryd.func51, by kernel_rfl, rfl⟩
theorem ent52 : Ent Tryd.prog 52 := ⟨_, Tryd.func52, by kernel_rfl, rfl⟩
theorem ent53 : Ent Tryd.prog 53 := ⟨_, Tryd.func53, by kernel_rfl, rfl⟩
theorem ent54 : Ent Tryd.prog 54 := ⟨_, Tryd.func54, by kernel_rfl, rfl⟩
theorem ent55 : Ent Tryd.prog 55 := ⟨_, Tryd.func55, by kernel_rfl, rfl⟩
theorem ent56 : Ent Tryd.prog 56 := ⟨_, Tryd.func56, by kernel_rfl, rfl⟩
theorem ent57 : Ent Tryd.prog 57 := ⟨_, Tryd.func57, by kernel_rfl, rfl⟩
theorem ent58 : Ent Tryd.prog 58 := ⟨_, Tryd.func58, by kernel_rfl, rfl⟩
theorem ent59 : Ent Tryd.prog 59 := ⟨_, Tryd.func59, by kernel_rfl, rfl⟩
theorem ent60 : Ent Tryd.prog 60 := ⟨_, Tryd.func60, by kernel_rfl, rfl⟩
theorem ent61 : Ent Tryd.prog 61 := ⟨_, Tryd.func61, by kernel_rfl, rfl⟩
theorem ent62 : Ent Tryd.prog 62 := ⟨_, Tryd.func62, by kernel_rfl, rfl⟩
theorem ent63 : Ent Tryd.prog 63 := ⟨_, Tryd.func63, by kernel_rfl, rfl⟩
theorem ent64 : Ent Tryd.prog 64 := ⟨_, Tryd.func64, by kernel_rfl, rfl⟩
theorem ent65 : Ent Tryd.prog 65 := ⟨_, Tryd.func65, by kernel_rfl, rfl⟩
theorem ent66 : Ent Tryd.prog 66 := ⟨_, Tryd.func66, by kernel_rfl, rfl⟩
theorem ent67 : Ent Tryd.prog 67 := ⟨_, Tryd.func67, by kernel_rfl, rfl⟩
theorem ent68 : Ent Tryd.prog 68 := ⟨_, Tryd.func68, by kernel_rfl, rfl⟩
theorem ent69 : Ent Tryd.prog 69 := ⟨_, Tryd.func69, by kernel_rfl, rfl⟩
theorem ent70 : Ent Tryd.prog 70 := ⟨_, Tryd.func70, by kernel_rfl, rfl⟩
theorem ent71 : Ent Tryd.prog 71 := ⟨_, Tryd.func71, by kernel_rfl, rfl⟩
theorem ent72 : Ent Tryd.prog 72 := ⟨_, Tryd.func72, by kernel_rfl, rfl⟩
theorem ent73 : Ent Tryd.prog 73 := ⟨_, Tryd.func73, by kernel_rfl, rfl⟩
theorem ent74 : Ent Tryd.prog 74 := ⟨_, Tryd.func74, by kernel_rfl, rfl⟩
theorem ent75 : Ent Tryd.prog 75 := ⟨_, Tryd.func75, by kernel_rfl, rfl⟩
theorem ent76 : Ent Tryd.prog 76 := ⟨_, Tryd.func76, by kernel_rfl, rfl⟩
theorem ent77 : Ent Tryd.prog 77 := ⟨_, Tryd.func77, by kernel_rfl, rfl⟩
theorem ent78 : Ent Tryd.prog 78 := ⟨_, Tryd.func78, by kernel_rfl, rfl⟩
theorem ent79 : Ent Tryd.prog 79 := ⟨_, Tryd.func79, by kernel_rfl, rfl⟩
theorem ent80 : Ent Tryd.prog 80 := ⟨_, Tryd.func80, by kernel_rfl, rfl⟩
theorem ent81 : Ent Tryd.prog 81 := ⟨_, Tryd.func81, by kernel_rfl, rfl⟩
theorem ent82 : Ent Tryd.prog 82 := ⟨_, Tryd.func82, by kernel_rfl, rfl⟩
theorem ent83 : Ent Tryd.prog 83 := ⟨_, Tryd.func83, by kernel_rfl, rfl⟩
theorem ent84 : Ent Tryd.prog 84 := ⟨_, Tryd.func84, by kernel_rfl, rfl⟩
theorem ent85 : Ent Tryd.prog 85 := ⟨_, Tryd.func85, by kernel_rfl, rfl⟩
theorem ent86 : Ent Tryd.prog 86 := ⟨_, Tryd.func86, by kernel_rfl, rfl⟩
theorem ent87 : Ent Tryd.prog 87 := ⟨_, Tryd.func87, by kernel_rfl, rfl⟩
theorem ent88 : Ent Tryd.prog 88 := ⟨_, Tryd.func88, by kernel_rfl, rfl⟩
theorem ent89 : Ent Tryd.prog 89 := ⟨_, Tryd.func89, by kernel_rfl, rfl⟩
theorem ent90 : Ent Tryd.prog 90 := ⟨_, Tryd.func90, by kernel_rfl, rfl⟩
theorem ent91 : Ent Tryd.prog 91 := ⟨_, Tryd.func91, by kernel_rfl, rfl⟩
theorem ent92 : Ent Tryd.prog 92 := ⟨_, Tryd.func92, by kernel_rfl, rfl⟩
theorem ent93 : Ent Tryd.prog 93 := ⟨_, Tryd.func93, by kernel_rfl, rfl⟩
theorem ent94 : Ent Tryd.prog 94 := ⟨_, Tryd.func94, by kernel_rfl, rfl⟩
theorem ent95 : Ent Tryd.prog 95 := ⟨_, Tryd.func95, by kernel_rfl, rfl⟩
theorem ent96 : Ent Tryd.prog 96 := ⟨_, Tryd.func96, by kernel_rfl, rfl⟩
theorem ent118 : Ent Tryd.prog 118 := ⟨_, Tryd.func118, by kernel_rfl, rfl⟩
end Go.Proofs.YtolbmgkoifchfaaDoor
