/- PRINTED BY wip/tools/mktt.py: what the evaluator knows of the types of the program YtclhjcbnpdlgbaaDoor. -/
import Derived.Test.YtclhjcbnpdlgbaaDoorProg
import Derived.Test.YtclhjcbnpdlgbaaDoorLA3
namespace Go.Proofs.YtclhjcbnpdlgbaaDoor
open Go Go.Lift
set_option maxRecDepth 20000

def TT : TTab := fun t => match t with
  | 2 => some ⟨(some .i64), none, 1, 8, false, true, [.v (.int .i64 0)], .oth⟩
  | 3 => some ⟨(some .i64), none, 1, 8, false, true, [.v (.int .i64 0)], .oth⟩
  | 4 => some ⟨none, none, 1, 1, false, true, [.v (.bool false)], .bool⟩
  | 5 => some ⟨(some .u8), none, 1, 1, false, true, [.v (.int .u8 0)], .oth⟩
  | 9 => some ⟨none, none, 1, 16, false, true, [.v (.string ⟨#[]⟩)], .str⟩
  | 12 => some ⟨(some .u64), none, 1, 8, false, true, [.v (.int .u64 0)], .oth⟩
  | 21 => some ⟨(some .i32), none, 1, 4, false, true, [.v (.int .i32 0)], .oth⟩
  | 22 => some ⟨(some .u16), none, 1, 2, false, true, [.v (.int .u16 0)], .oth⟩
  | 23 => some ⟨(some .u32), none, 1, 4, false, true, [.v (.int .u32 0)], .oth⟩
  | 24 => some ⟨none, (some [.int .u16, .int .u32]), 2, 8, true, true, [.v (.int .u16 0), .v (.int .u32 0)], (.struct [(0, 22), (1, 23)])⟩
  | 25 => some ⟨none, (some [.int .u16, .int .u32]), 2, 8, true, true, [.v (.int .u16 0), .v (.int .u32 0)], (.struct [(0, 22), (1, 23)])⟩
  | 26 => some ⟨none, none, 1, 24, false, false, [.row 67], (.slice 67)⟩
  | 27 => some ⟨none, none, 7, 72, true, false, [.v (.int .i64 0), .v (.int .u16 0), .v (.int .u32 0), .v (.int .u32 0), .v (.string ⟨#[]⟩), .row 67, .v (.int .u32 0)], (.struct [(0, 3), (1, 25), (3, 23), (4, 9), (5, 26), (6, 23)])⟩
  | 28 => some ⟨none, none, 7, 72, true, false, [.v (.int .i64 0), .v (.int .u16 0), .v (.int .u32 0), .v (.int .u32 0), .v (.string ⟨#[]⟩), .row 67, .v (.int .u32 0)], (.struct [(0, 3), (1, 25), (3, 23), (4, 9), (5, 26), (6, 23)])⟩
  | 30 => some ⟨none, (some [.int .u16, .int .u32]), 2, 8, true, true, [.v (.int .u16 0), .v (.int .u32 0)], (.struct [(0, 22), (1, 23)])⟩
  | 31 => some ⟨none, none, 1, 24, false, false, [.row 69], (.slice 69)⟩
  | 32 => some ⟨none, none, 7, 72, true, false, [.v (.int .i64 0), .v (.int .u16 0), .v (.int .u32 0), .v (.int .u32 0), .v (.string ⟨#[]⟩), .row 69, .v (.int .u32 0)], (.struct [(0, 3), (1, 30), (3, 23), (4, 9), (5, 31), (6, 23)])⟩
  | 33 => some ⟨none, none, 7, 72, true, false, [.v (.int .i64 0), .v (.int .u16 0), .v (.int .u32 0), .v (.int .u32 0), .v (.string ⟨#[]⟩), .row 69, .v (.int .u32 0)], (.struct [(0, 3), (1, 30), (3, 23), (4, 9), (5, 31), (6, 23)])⟩
  | 36 => some ⟨(some .i64), none, 1, 8, false, true, [.v (.int .i64 0)], .oth⟩
  | 41 => some ⟨(some .u64), none, 1, 8, false, true, [.v (.int .u64 0)], .oth⟩
  | 42 => some ⟨none, none, 1, 24, false, false, [.row 28], (.slice 28)⟩
  | 43 => some ⟨none, none, 5, 48, true, false, [.v (.int .u16 0), .v (.int .u32 0), .v (.int .u64 0), .v (.int .i64 0), .row 28], (.struct [(0, 22), (1, 23), (2, 41), (3, 3), (4, 42)])⟩
  | 44 => some ⟨none, none, 5, 48, true, false, [.v (.int .u16 0), .v (.int .u32 0), .v (.int .u64 0), .v (.int .i64 0), .row 28], (.struct [(0, 22), (1, 23), (2, 41), (3, 3), (4, 42)])⟩
  | 46 => some ⟨none, none, 1, 24, false, false, [.row 33], (.slice 33)⟩
  | 47 => some ⟨none, none, 5, 48, true, false, [.v (.int .u16 0), .v (.int .u32 0), .v (.int .u64 0), .v (.int .i64 0), .row 33], (.struct [(0, 22), (1, 23), (2, 41), (3, 3), (4, 46)])⟩
  | 48 => some ⟨none, none, 5, 48, true, false, [.v (.int .u16 0), .v (.int .u32 0), .v (.int .u64 0), .v (.int .i64 0), .row 33], (.struct [(0, 22), (1, 23), (2, 41), (3, 3), (4, 46)])⟩
  | 51 => some ⟨none, (some [.int .u16, .int .u32]), 2, 8, true, true, [.v (.int .u16 0), .v (.int .u32 0)], (.struct [(0, 22), (1, 23)])⟩
  | 52 => some ⟨none, (some [.int .u16, .int .u32]), 2, 8, true, true, [.v (.int .u16 0), .v (.int .u32 0)], (.struct [(0, 22), (1, 23)])⟩
  | 54 => some ⟨none, (some [.int .u64, .int .u16, .int .u32]), 3, 16, true, true, [.v (.int .u64 0), .v (.int .u16 0), .v (.int .u32 0)], (.struct [(0, 41), (1, 22), (2, 23)])⟩
  | 55 => some ⟨none, (some [.int .u64, .int .u16, .int .u32]), 3, 16, true, true, [.v (.int .u64 0), .v (.int .u16 0), .v (.int .u32 0)], (.struct [(0, 41), (1, 22), (2, 23)])⟩
  | 60 => some ⟨none, none, 1, 24, false, false, [.row 5], (.slice 5)⟩
  | 61 => some ⟨none, none, 1, 24, true, false, [.row 5], (.struct [(0, 60)])⟩
  | 62 => some ⟨none, none, 1, 24, true, false, [.row 5], (.struct [(0, 60)])⟩
  | 64 => some ⟨none, none, 1, 8, false, false, [.v (.pointer none)], .oth⟩
  | 66 => some ⟨none, (some [.int .u16, .int .u32, .int .i64]), 3, 16, true, true, [.v (.int .u16 0), .v (.int .u32 0), .v (.int .i64 0)], (.struct [(0, 25), (2, 3)])⟩
  | 67 => some ⟨none, (some [.int .u16, .int .u32, .int .i64]), 3, 16, true, true, [.v (.int .u16 0), .v (.int .u32 0), .v (.int .i64 0)], (.struct [(0, 25), (2, 3)])⟩
  | 68 => some ⟨none, (some [.int .u16, .int .u32, .int .i64]), 3, 16, true, true, [.v (.int .u16 0), .v (.int .u32 0), .v (.int .i64 0)], (.struct [(0, 30), (2, 3)])⟩
  | 69 => some ⟨none, (some [.int .u16, .int .u32, .int .i64]), 3, 16, true, true, [.v (.int .u16 0), .v (.int .u32 0), .v (.int .i64 0)], (.struct [(0, 30), (2, 3)])⟩
  | 74 => some ⟨none, none, 1, 24, false, false, [.row 30], (.slice 30)⟩
  | 83 => some ⟨(some .u64), none, 1, 8, false, true, [.v (.int .u64 0)], .oth⟩
  | 103 => some ⟨none, none, 1, 24, false, false, [.row 3], (.slice 3)⟩
  | 107 => some ⟨(some .i64), none, 1, 8, false, true, [.v (.int .i64 0)], .oth⟩
  | 116 => some ⟨(some .u64), none, 1, 8, false, true, [.v (.int .u64 0)], .oth⟩
  | 120 => some ⟨none, none, 1, 8, false, false, [.v (.pointer none)], .oth⟩
  | 122 => some ⟨none, none, 1, 8, false, false, [.v (.pointer none)], .oth⟩
  | 134 => some ⟨none, none, 1, 8, false, false, [.v (.pointer none)], .oth⟩
  | _ => none

@[go_sem] theorem TTe2 : TT 2 = some ⟨(some .i64), none, 1, 8, false, true, [.v (.int .i64 0)], .oth⟩ := rfl
@[go_sem] theorem TTe3 : TT 3 = some ⟨(some .i64), none, 1, 8, false, true, [.v (.int .i64 0)], .oth⟩ := rfl
@[go_sem] theorem TTe4 : TT 4 = some ⟨none, none, 1, 1, false, true, [.v (.bool false)], .bool⟩ := rfl
@[go_sem] theorem TTe5 : TT 5 = some ⟨(some .u8), none, 1, 1, false, true, [.v (.int .u8 0)], .oth⟩ := rfl
@[go_sem] theorem TTe9 : TT 9 = some ⟨none, none, 1, 16, false, true, [.v (.string ⟨#[]⟩)], .str⟩ := rfl
@[go_sem] theorem TTe12 : TT 12 = some ⟨(some .u64), none, 1, 8, false, true, [.v (.int .u64 0)], .oth⟩ := rfl
@[go_sem] theorem TTe21 : TT 21 = some ⟨(some .i32), none, 1, 4, false, true, [.v (.int .i32 0)], .oth⟩ := rfl
@[go_sem] theorem TTe22 : TT 22 = some ⟨(some .u16), none, 1, 2, false, true, [.v (.int .u16 0)], .oth⟩ := rfl
@[go_sem] theorem TTe23 : TT 23 = some ⟨(some .u32), none, 1, 4, false, true, [.v (.int .u32 0)], .oth⟩ := rfl
@[go_sem] theorem TTe24 : TT 24 = some ⟨none, (some [.int .u16, .int .u32]), 2, 8, true, true, [.v (.int .u16 0), .v (.int .u32 0)], (.struct [(0, 22), (1, 23)])⟩ := rfl
@[go_sem] theorem TTe25 : TT 25 = some ⟨none, (some [.int .u16, .int .u32]), 2, 8, true, true, [.v (.int .u16 0), .v (.int .u32 0)], (.struct [(0, 22), (1, 23)])⟩ := rfl
@[go_sem] theorem TTe26 : TT 26 = some ⟨none, none, 1, 24, false, false, [.row 67], (.slice 67)⟩ := rfl
@[go_sem] theorem TTe27 : TT 27 = some ⟨none, none, 7, 72, true, false, [.v (.int .i64 0), .v (.int .u16 0), .v (.int .u32 0), .v (.int .u32 0), .v (.string ⟨#[]⟩), .row 67, .v (.int .u32 0)], (.struct [(0, 3), (1, 25), (3, 23), (4, 9), (5, 26), (6, 23)])⟩ := rfl
@[go_sem] theorem TTe28 : TT 28 = some ⟨none, none, 7, 72, true, false, [.v (.int .i64 0), .v (.int .u16 0), .v (.int .u32 0), .v (.int .u32 0), .v (.string ⟨#[]⟩), .row 67, .v (.int .u32 0)], (.struct [(0, 3), (1, 25), (3, 23), (4, 9), (5, 26), (6, 23)])⟩ := rfl
@[go_sem] theorem TTe30 : TT 30 = some ⟨none, (some [.int .u16, .int .u32]), 2, 8, true, true, [.v (.int .u16 0), .v (.int .u32 0)], (.struct [(0, 22), (1, 23)])⟩ := rfl
@[go_sem] theorem TTe31 : TT 31 = some ⟨none, none, 1, 24, false, false, [.row 69], (.slice 69)⟩ := rfl
@[go_sem] theorem TTe32 : TT 32 = some ⟨none, none, 7, 72, true, false, [.v (.int .i64 0), .v (.int .u16 0), .v (.int .u32 0), .v (.int .u32 0), .v (.string ⟨#[]⟩), .row 69, .v (.int .u32 0)], (.struct [(0, 3), (1, 30), (3, 23), (4, 9), (5, 31), (6, 23)])⟩ := rfl
@[go_sem] theorem TTe33 : TT 33 = some ⟨none, none, 7, 72, true, false, [.v (.int .i64 0), .v (.int .u16 0), .v (.int .u32 0), .v (.int .u32 0), .v (.string ⟨#[]⟩), .row 69, .v (.int .u32 0)], (.struct [(0, 3), (1, 30), (3, 23), (4, 9), (5, 31), (6, 23)])⟩ := rfl
@[go_sem] theorem TTe36 : TT 36 = some ⟨(some .i64), none, 1, 8, false, true, [.v (.int .i64 0)], .oth⟩ := rfl
@[go_sem] theorem TTe41 : TT 41 = some ⟨(some .u64), none, 1, 8, false, true, [.v (.int .u64 0)], .oth⟩ := rfl
@[go_sem] theorem TTe42 : TT 42 = some ⟨none, none, 1, 24, false, false, [.row 28], (.slice 28)⟩ := rfl
@[go_sem] theorem TTe43 : TT 43 = some ⟨none, none, 5, 48, true, false, [.v (.int .u16 0), .v (.int .u32 0), .v (.int .u64 0), .v (.int .i64 0), .row 28], (.struct [(0, 22), (1, 23), (2, 41), (3, 3), (4, 42)])⟩ := rfl
@[go_sem] theorem TTe44 : TT 44 = some ⟨none, none, 5, 48, true, false, [.v (.int .u16 0), .v (.int .u32 0), .v (.int .u64 0), .v (.int .i64 0), .row 28], (.struct [(0, 22), (1, 23), (2, 41), (3, 3), (4, 42)])⟩ := rfl
@[go_sem] theorem TTe46 : TT 46 = some ⟨none, none, 1, 24, false, false, [.row 33], (.slice 33)⟩ := rfl
@[go_sem] theorem TTe47 : TT 47 = some ⟨none, none, 5, 48, true, false, [.v (.int .u16 0), .v (.int .u32 0), .v (.int .u64 0), .v (.int .i64 0), .row 33], (.struct [(0, 22), (1, 23), (2, 41), (3, 3), (4, 46)])⟩ := rfl
@[go_sem] theorem TTe48 : TT 48 = some ⟨none, none, 5, 48, true, false, [.v (.int .u16 0), .v (.int .u32 0), .v (.int .u64 0), .v (.int .i64 0), .row 33], (.struct [(0, 22), (1, 23), (2, 41), (3, 3), (4, 46)])⟩ := rfl
@[go_sem] theorem TTe51 : TT 51 = some ⟨none, (some [.int .u16, .int .u32]), 2, 8, true, true, [.v (.int .u16 0), .v (.int .u32 0)], (.struct [(0, 22), (1, 23)])⟩ := rfl
@[go_sem] theorem TTe52 : TT 52 = some ⟨none, (some [.int .u16, .int .u32]), 2, 8, true, true, [.v (.int .u16 0), .v (.int .u32 0)], (.struct [(0, 22), (1, 23)])⟩ := rfl
@[go_sem] theorem TTe54 : TT 54 = some ⟨none, (some [.int .u64, .int .u16, .int .u32]), 3, 16, true, true, [.v (.int .u64 0), .v (.int .u16 0), .v (.int .u32 0)], (.struct [(0, 41), (1, 22), (2, 23)])⟩ := rfl
@[go_sem] theorem TTe55 : TT 55 = some ⟨none, (some [.int .u64, .int .u16, .int .u32]), 3, 16, true, true, [.v (.int .u64 0), .v (.int .u16 0), .v (.int .u32 0)], (.struct [(0, 41), (1, 22), (2, 23)])⟩ := rfl
@[go_sem] theorem TTe60 : TT 60 = some ⟨none, none, 1, 24, false, false, [.row 5], (.slice 5)⟩ := rfl
@[go_sem] theorem TTe61 : TT 61 = some ⟨none, none, 1, 24, true, false, [.row 5], (.struct [(0, 60)])⟩ := rfl
@[go_sem] theorem TTe62 : TT 62 = some ⟨none, none, 1, 24, true, false, [.row 5], (.struct [(0, 60)])⟩ := rfl
@[go_sem] theorem TTe64 : TT 64 = some ⟨none, none, 1, 8, false, false, [.v (.pointer none)], .oth⟩ := rfl
@[go_sem] theorem TTe66 : TT 66 = some ⟨none, (some [.int .u16, .int .u32, .int .i64]), 3, 16, true, true, [.v (.int .u16 0), .v (.int .u32 0), .v (.int .i64 0)], (.struct [(0, 25), (2, 3)])⟩ := rfl
@[go_sem] theorem TTe67 : TT 67 = some ⟨none, (some [.int .u16, .int .u32, .int .i64]), 3, 16, true, true, [.v (.int .u16 0), .v (.int .u32 0), .v (.int .i64 0)], (.struct [(0, 25), (2, 3)])⟩ := rfl
@[go_sem] theorem TTe68 : TT 68 = some ⟨none, (some [.int .u16, .int .u32, .int .i64]), 3, 16, true, true, [.v (.int .u16 0), .v (.int .u32 0), .v (.int .i64 0)], (.struct [(0, 30), (2, 3)])⟩ := rfl
@[go_sem] theorem TTe69 : TT 69 = some ⟨none, (some [.int .u16, .int .u32, .int .i64]), 3, 16, true, true, [.v (.int .u16 0), .v (.int .u32 0), .v (.int .i64 0)], (.struct [(0, 30), (2, 3)])⟩ := rfl
@[go_sem] theorem TTe74 : TT 74 = some ⟨none, none, 1, 24, false, false, [.row 30], (.slice 30)⟩ := rfl
@[go_sem] theorem TTe83 : TT 83 = some ⟨(some .u64), none, 1, 8, false, true, [.v (.int .u64 0)], .oth⟩ := rfl
@[go_sem] theorem TTe103 : TT 103 = some ⟨none, none, 1, 24, false, false, [.row 3], (.slice 3)⟩ := rfl
@[go_sem] theorem TTe107 : TT 107 = some ⟨(some .i64), none, 1, 8, false, true, [.v (.int .i64 0)], .oth⟩ := rfl
@[go_sem] theorem TTe116 : TT 116 = some ⟨(some .u64), none, 1, 8, false, true, [.v (.int .u64 0)], .oth⟩ := rfl
@[go_sem] theorem TTe120 : TT 120 = some ⟨none, none, 1, 8, false, false, [.v (.pointer none)], .oth⟩ := rfl
@[go_sem] theorem TTe122 : TT 122 = some ⟨none, none, 1, 8, false, false, [.v (.pointer none)], .oth⟩ := rfl
@[go_sem] theorem TTe134 : TT 134 = some ⟨none, none, 1, 8, false, false, [.v (.pointer none)], .oth⟩ := rfl
theorem TTe : True := trivial
theorem tt2 : TIok Tryd.prog 2 ⟨(some .i64), none, 1, 8, false, true, [.v (.int .i64 0)], .oth⟩ :=
  TIok.mk' (z := ((.int .i64 0))) (by kernel_rfl) (by simp [zOk, Value.cells, Value.oneCell']) rfl (by decide) Tryd.underlying2 trivial rfl (fun k h => by cases h; exact Tryd.underlying2) (fun ks h => by cases h)
theorem tt3 : TIok Tryd.prog 3 ⟨(some .i64), none, 1, 8, false, true, [.v (.int .i64 0)], .oth⟩ :=
  TIok.mk' (z := ((.int .i64 0))) (by kernel_rfl) (by simp [zOk, Value.cells, Value.oneCell']) rfl (by decide) Tryd.underlying3 trivial rfl (fun k h => by cases h; exact Tryd.underlying3) (fun ks h => by cases h)
theorem tt4 : TIok Tryd.prog 4 ⟨none, none, 1, 1, false, true, [.v (.bool false)], .bool⟩ :=
  TIok.mk' (z := ((.bool false))) (by kernel_rfl) (by simp [zOk, Value.cells, Value.oneCell']) rfl (by decide) Tryd.underlying4 rfl rfl (fun k h => by cases h) (fun ks h => by cases h)
theorem tt5 : TIok Tryd.prog 5 ⟨(some .u8), none, 1, 1, false, true, [.v (.int .u8 0)], .oth⟩ :=
  TIok.mk' (z := ((.int .u8 0))) (by kernel_rfl) (by simp [zOk, Value.cells, Value.oneCell']) rfl (by decide) Tryd.underlying5 trivial rfl (fun k h => by cases h; exact Tryd.underlying5) (fun ks h => by cases h)
theorem tt9 : TIok Tryd.prog 9 ⟨none, none, 1, 16, false, true, [.v (.string ⟨#[]⟩)], .str⟩ :=
  TIok.mk' (z := ((.string ⟨#[]⟩))) (by kernel_rfl) (by simp [zOk, Value.cells, Value.oneCell']) rfl (by decide) Tryd.underlying9 rfl rfl (fun k h => by cases h) (fun ks h => by cases h)
theorem tt12 : TIok Tryd.prog 12 ⟨(some .u64), none, 1, 8, false, true, [.v (.int .u64 0)], .oth⟩ :=
  TIok.mk' (z := ((.int .u64 0))) (by kernel_rfl) (by simp [zOk, Value.cells, Value.oneCell']) rfl (by decide) Tryd.underlying12 trivial rfl (fun k h => by cases h; exact Tryd.underlying12) (fun ks h => by cases h)
theorem tt21 : TIok Tryd.prog 21 ⟨(some .i32), none, 1, 4, false, true, [.v (.int .i32 0)], .oth⟩ :=
  TIok.mk' (z := ((.int .i32 0))) (by kernel_rfl) (by simp [zOk, Value.cells, Value.oneCell']) rfl (by decide) Tryd.underlying21 trivial rfl (fun k h => by cases h; exact Tryd.underlying21) (fun ks h => by cases h)
theorem tt22 : TIok Tryd.prog 22 ⟨(some .u16), none, 1, 2, false, true, [.v (.int .u16 0)], .oth⟩ :=
  TIok.mk' (z := ((.int .u16 0))) (by kernel_rfl) (by simp [zOk, Value.cells, Value.oneCell']) rfl (by decide) Tryd.underlying22 trivial rfl (fun k h => by cases h; exact Tryd.underlying22) (fun ks h => by cases h)
theorem tt23 : TIok Tryd.prog 23 ⟨(some .u32), none, 1, 4, false, true, [.v (.int .u32 0)], .oth⟩ :=
  TIok.mk' (z := ((.int .u32 0))) (by kernel_rfl) (by simp [zOk, Value.cells, Value.oneCell']) rfl (by decide) Tryd.underlying23 trivial rfl (fun k h => by cases h; exact Tryd.underlying23) (fun ks h => by cases h)
theorem tt24_eq : EqTy Tryd.prog 2 24 [.int .u16, .int .u32] :=
  eqTy_struct Tryd.underlying24 (by kernel_rfl) (.one rfl rfl Tryd.underlying22 rfl (scEq_int 0 Tryd.underlying22) (.one rfl rfl Tryd.underlying23 rfl (scEq_int 0 Tryd.underlying23) .nil))
theorem tt24 : TIok Tryd.prog 24 ⟨none, (some [.int .u16, .int .u32]), 2, 8, true, true, [.v (.int .u16 0), .v (.int .u32 0)], (.struct [(0, 22), (1, 23)])⟩ :=
  TIok.mk' (z := (.agg #[(.int .u16 0), (.int .u32 0)])) (by kernel_rfl) (by simp [zOk, Value.cells, Value.oneCell']) rfl (by decide) Tryd.underlying24 ⟨_, rfl, rfl⟩ rfl (fun k h => by cases h) (eqk_flat (by kernel_rfl) (by decide) tt24_eq)
theorem tt25_eq : EqTy Tryd.prog 2 25 [.int .u16, .int .u32] :=
  eqTy_struct Tryd.underlying25 (by kernel_rfl) (.one rfl rfl Tryd.underlying22 rfl (scEq_int 0 Tryd.underlying22) (.one rfl rfl Tryd.underlying23 rfl (scEq_int 0 Tryd.underlying23) .nil))
theorem tt25 : TIok Tryd.prog 25 ⟨none, (some [.int .u16, .int .u32]), 2, 8, true, true, [.v (.int .u16 0), .v (.int .u32 0)], (.struct [(0, 22), (1, 23)])⟩ :=
  TIok.mk' (z := (.agg #[(.int .u16 0), (.int .u32 0)])) (by kernel_rfl) (by simp [zOk, Value.cells, Value.oneCell']) rfl (by decide) Tryd.underlying25 ⟨_, rfl, rfl⟩ rfl (fun k h => by cases h) (eqk_flat (by kernel_rfl) (by decide) tt25_eq)
theorem tt26 : TIok Tryd.prog 26 ⟨none, none, 1, 24, false, false, [.row 67], (.slice 67)⟩ :=
  TIok.mk' (z := ((.slice none 0 0))) (by kernel_rfl) (by simp [zOk, Value.cells, Value.oneCell']) rfl (by decide) Tryd.underlying26 rfl rfl (fun k h => by cases h) (fun ks h => by cases h)
theorem tt27 : TIok Tryd.prog 27 ⟨none, none, 7, 72, true, false, [.v (.int .i64 0), .v (.int .u16 0), .v (.int .u32 0), .v (.int .u32 0), .v (.string ⟨#[]⟩), .row 67, .v (.int .u32 0)], (.struct [(0, 3), (1, 25), (3, 23), (4, 9), (5, 26), (6, 23)])⟩ :=
  TIok.mk' (z := (.agg #[(.int .i64 0), (.int .u16 0), (.int .u32 0), (.int .u32 0), (.string ⟨#[]⟩), (.slice none 0 0), (.int .u32 0)])) (by kernel_rfl) (by simp [zOk, Value.cells, Value.oneCell']) rfl (by decide) Tryd.underlying27 ⟨_, rfl, rfl⟩ rfl (fun k h => by cases h) (fun ks h => by cases h)
theorem tt28 : TIok Tryd.prog 28 ⟨none, none, 7, 72, true, false, [.v (.int .i64 0), .v (.int .u16 0), .v (.int .u32 0), .v (.int .u32 0), .v (.string ⟨#[]⟩), .row 67, .v (.int .u32 0)], (.struct [(0, 3), (1, 25), (3, 23), (4, 9), (5, 26), (6, 23)])⟩ :=
  TIok.mk' (z := (.agg #[(.int .i64 0), (.int .u16 0), (.int .u32 0), (.int .u32 0), (.string ⟨#[]⟩), (.slice none 0 0), (.int .u32 0)])) (by kernel_rfl) (by simp [zOk, Value.cells, Value.oneCell']) rfl (by decide) Tryd.underlying28 ⟨_, rfl, rfl⟩ rfl (fun k h => by cases h) (fun ks h => by cases h)
theorem tt30_eq : EqTy Tryd.prog 2 30 [.int .u16, .int .u32] :=
  eqTy_struct Tryd.underlying30 (by kernel_rfl) (.one rfl rfl Tryd.underlying22 rfl (scEq_int 0 Tryd.underlying22) (.one rfl rfl Tryd.underlying23 rfl (scEq_int 0 Tryd.underlying23) .nil))
theorem tt30 : TIok Tryd.prog 30 ⟨none, (some [.int .u16, .int .u32]), 2, 8, true, true, [.v (.int .u16 0), .v (.int .u32 0)], (.struct [(0, 22), (1, 23)])⟩ :=
  TIok.mk' (z := (.agg #[(.int .u16 0), (.int .u32 0)])) (by kernel_rfl) (by simp [zOk, Value.cells, Value.oneCell']) rfl (by decide) Tryd.underlying30 ⟨_, rfl, rfl⟩ rfl (fun k h => by cases h) (eqk_flat (by kernel_rfl) (by decide) tt30_eq)
theorem tt31 : TIok Tryd.prog 31 ⟨none, none, 1, 24, false, false, [.row 69], (.slice 69)⟩ :=
  TIok.mk' (z := ((.slice none 0 0))) (by kernel_rfl) (by simp [zOk, Value.cells, Value.oneCell']) rfl (by decide) Tryd.underlying31 rfl rfl (fun k h => by cases h) (fun ks h => by cases h)
theorem tt32 : TIok Tryd.prog 32 ⟨none, none, 7, 72, true, false, [.v (.int .i64 0), .v (.int .u16 0), .v (.int .u32 0), .v (.int .u32 0), .v (.string ⟨#[]⟩), .row 69, .v (.int .u32 0)], (.struct [(0, 3), (1, 30), (3, 23), (4, 9), (5, 31), (6, 23)])⟩ :=
  TIok.mk' (z := (.agg #[(.int .i64 0), (.int .u16 0), (.int .u32 0), (.int .u32 0), (.string ⟨#[]⟩), (.slice none 0 0), (.int .u32 0)])) (by kernel_rfl) (by simp [zOk, Value.cells, Value.oneCell']) rfl (by decide) Tryd.underlying32 ⟨_, rfl, rfl⟩ rfl (fun k h => by cases h) (fun ks h => by cases h)
theorem tt33 : TIok Tryd.prog 33 ⟨none, none, 7, 72, true, false, [.v (.int .i64 0), .v (.int .u16 0), .v (.int .u32 0), .v (.int .u32 0), .v (.string ⟨#[]⟩), .row 69, .v (.int .u32 0)], (.struct [(0, 3), (1, 30), (3, 23), (4, 9), (5, 31), (6, 23)])⟩ :=
  TIok.mk' (z := (.agg #[(.int .i64 0), (.int .u16 0), (.int .u32 0), (.int .u32 0), (.string ⟨#[]⟩), (.slice none 0 0), (.int .u32 0)])) (by kernel_rfl) (by simp [zOk, Value.cells, Value.oneCell']) rfl (by decide) Tryd.underlying33 ⟨_, rfl, rfl⟩ rfl (fun k h => by cases h) (fun ks h => by cases h)
theorem tt36 : TIok Tryd.prog 36 ⟨(some .i64), none, 1, 8, false, true, [.v (.int .i64 0)], .oth⟩ :=
  TIok.mk' (z := ((.int .i64 0))) (by kernel_rfl) (by simp [zOk, Value.cells, Value.oneCell']) rfl (by decide) Tryd.underlying36 trivial rfl (fun k h => by cases h; exact Tryd.underlying36) (fun ks h => by cases h)
theorem tt41 : TIok Tryd.prog 41 ⟨(some .u64), none, 1, 8, false, true, [.v (.int .u64 0)], .oth⟩ :=
  TIok.mk' (z := ((.int .u64 0))) (by kernel_rfl) (by simp [zOk, Value.cells, Value.oneCell']) rfl (by decide) Tryd.underlying41 trivial rfl (fun k h => by cases h; exact Tryd.underlying41) (fun ks h => by cases h)
theorem tt42 : TIok Tryd.prog 42 ⟨none, none, 1, 24, false, false, [.row 28], (.slice 28)⟩ :=
  TIok.mk' (z := ((.slice none 0 0))) (by kernel_rfl) (by simp [zOk, Value.cells, Value.oneCell']) rfl (by decide) Tryd.underlying42 rfl rfl (fun k h => by cases h) (fun ks h => by cases h)
theorem tt43 : TIok Tryd.prog 43 ⟨none, none, 5, 48, true, false, [.v (.int .u16 0), .v (.int .u32 0), .v (.int .u64 0), .v (.int .i64 0), .row 28], (.struct [(0, 22), (1, 23), (2, 41), (3, 3), (4, 42)])⟩ :=
  TIok.mk' (z := (.agg #[(.int .u16 0), (.int .u32 0), (.int .u64 0), (.int .i64 0), (.slice none 0 0)])) (by kernel_rfl) (by simp [zOk, Value.cells, Value.oneCell']) rfl (by decide) Tryd.underlying43 ⟨_, rfl, rfl⟩ rfl (fun k h => by cases h) (fun ks h => by cases h)
theorem tt44 : TIok Tryd.prog 44 ⟨none, none, 5, 48, true, false, [.v (.int .u16 0), .v (.int .u32 0), .v (.int .u64 0), .v (.int .i64 0), .row 28], (.struct [(0, 22), (1, 23), (2, 41), (3, 3), (4, 42)])⟩ :=
  TIok.mk' (z := (.agg #[(.int .u16 0), (.int .u32 0), (.int .u64 0), (.int .i64 0), (.slice none 0 0)])) (by kernel_rfl) (by simp [zOk, Value.cells, Value.oneCell']) rfl (by decide) Tryd.underlying44 ⟨_, rfl, rfl⟩ rfl (fun k h => by cases h) (fun ks h => by cases h)
theorem tt46 : TIok Tryd.prog 46 ⟨none, none, 1, 24, false, false, [.row 33], (.slice 33)⟩ :=
  TIok.mk' (z := ((.slice none 0 0))) (by kernel_rfl) (by simp [zOk, Value.cells, Value.oneCell']) rfl (by decide) Tryd.underlying46 rfl rfl (fun k h => by cases h) (fun ks h => by cases h)
theorem tt47 : TIok Tryd.prog 47 ⟨none, none, 5, 48, true, false, [.v (.int .u16 0), .v (.int .u32 0), .v (.int .u64 0), .v (.int .i64 0), .row 33], (.struct [(0, 22), (1, 23), (2, 41), (3, 3), (4, 46)])⟩ :=
  TIok.mk' (z := (.agg #[(.int .u16 0), (.int .u32 0), (.int .u64 0), (.int .i64 0), (.slice none 0 0)])) (by kernel_rfl) (by simp [zOk, Value.cells, Value.oneCell']) rfl (by decide) Tryd.underlying47 ⟨_, rfl, rfl⟩ rfl (fun k h => by cases h) (fun ks h => by cases h)
theorem tt48 : TIok Tryd.prog 48 ⟨none, none, 5, 48, true, false, [.v (.int .u16 0), .v (.int .u32 0), .v (.int .u64 0), .v (.int .i64 0), .row 33], (.struct [(0, 22), (1, 23), (2, 41), (3, 3), (4, 46)])⟩ :=
  TIok.mk' (z := (.agg #[(.int .u16 0), (.int .u32 0), (.int .u64 0), (.int .i64 0), (.slice none 0 0)])) (by kernel_rfl) (by simp [zOk, Value.cells, Value.oneCell']) rfl (by decide) Tryd.underlying48 ⟨_, rfl, rfl⟩ rfl (fun k h => by cases h) (fun ks h => by cases h)
theorem tt51_eq : EqTy Tryd.prog 2 51 [.int .u16, .int .u32] :=
  eqTy_struct Tryd.underlying51 (by kernel_rfl) (.one rfl rfl Tryd.underlying22 rfl (scEq_int 0 Tryd.underlying22) (.one rfl rfl Tryd.underlying23 rfl (scEq_int 0 Tryd.underlying23) .nil))
theorem tt51 : TIok Tryd.prog 51 ⟨none, (some [.int .u16, .int .u32]), 2, 8, true, true, [.v (.int .u16 0), .v (.int .u32 0)], (.struct [(0, 22), (1, 23)])⟩ :=
  TIok.mk' (z := (.agg #[(.int .u16 0), (.int .u32 0)])) (by kernel_rfl) (by simp [zOk, Value.cells, Value.oneCell']) rfl (by decide) Tryd.underlying51 ⟨_, rfl, rfl⟩ rfl (fun k h => by cases h) (eqk_flat (by kernel_rfl) (by decide) tt51_eq)
theorem tt52_eq : EqTy Tryd.prog 2 52 [.int .u16, .int .u32] :=
  eqTy_struct Tryd.underlying52 (by kernel_rfl) (.one rfl rfl Tryd.underlying22 rfl (scEq_int 0 Tryd.underlying22) (.one rfl rfl Tryd.underlying23 rfl (scEq_int 0 Tryd.underlying23) .nil))
theorem tt52 : TIok Tryd.prog 52 ⟨none, (some [.int .u16, .int .u32]), 2, 8, true, true, [.v (.int .u16 0), .v (.int .u32 0)], (.struct [(0, 22), (1, 23)])⟩ :=
  TIok.mk' (z := (.agg #[(.int .u16 0), (.int .u32 0)])) (by kernel_rfl) (by simp [zOk, Value.cells, Value.oneCell']) rfl (by decide) Tryd.underlying52 ⟨_, rfl, rfl⟩ rfl (fun k h => by cases h) (eqk_flat (by kernel_rfl) (by decide) tt52_eq)
theorem tt54_eq : EqTy Tryd.prog 2 54 [.int .u64, .int .u16, .int .u32] :=
  eqTy_struct Tryd.underlying54 (by kernel_rfl) (.one rfl rfl Tryd.underlying41 rfl (scEq_int 0 Tryd.underlying41) (.one rfl rfl Tryd.underlying22 rfl (scEq_int 0 Tryd.underlying22) (.one rfl rfl Tryd.underlying23 rfl (scEq_int 0 Tryd.underlying23) .nil)))
theorem tt54 : TIok Tryd.prog 54 ⟨none, (some [.int .u64, .int .u16, .int .u32]), 3, 16, true, true, [.v (.int .u64 0), .v (.int .u16 0), .v (.int .u32 0)], (.struct [(0, 41), (1, 22), (2, 23)])⟩ :=
  TIok.mk' (z := (.agg #[(.int .u64 0), (.int .u16 0), (.int .u32 0)])) (by kernel_rfl) (by simp [zOk, Value.cells, Value.oneCell']) rfl (by decide) Tryd.underlying54 ⟨_, rfl, rfl⟩ rfl (fun k h => by cases h) (eqk_flat (by kernel_rfl) (by decide) tt54_eq)
theorem tt55_eq : EqTy Tryd.prog 2 55 [.int .u64, .int .u16, .int .u32] :=
  eqTy_struct Tryd.underlying55 (by kernel_rfl) (.one rfl rfl Tryd.underlying41 rfl (scEq_int 0 Tryd.underlying41) (.one rfl rfl Tryd.underlying22 rfl (scEq_int 0 Tryd.underlying22) (.one rfl rfl Tryd.underlying23 rfl (scEq_int 0 Tryd.underlying23) .nil)))
theorem tt55 : TIok Tryd.prog 55 ⟨none, (some [.int .u64, .int .u16, .int .u32]), 3, 16, true, true, [.v (.int .u64 0), .v (.int .u16 0), .v (.int .u32 0)], (.struct [(0, 41), (1, 22), (2, 23)])⟩ :=
  TIok.mk' (z := (.agg #[(.int .u64 0), (.int .u16 0), (.int .u32 0)])) (by kernel_rfl) (by simp [zOk, Value.cells, Value.oneCell']) rfl (by decide) Tryd.underlying55 ⟨_, rfl, rfl⟩ rfl (fun k h => by cases h) (eqk_flat (by kernel_rfl) (by decide) tt55_eq)
theorem tt60 : TIok Tryd.prog 60 ⟨none, none, 1, 24, false, false, [.row 5], (.slice 5)⟩ :=
  TIok.mk' (z := ((.slice none 0 0))) (by kernel_rfl) (by simp [zOk, Value.cells, Value.oneCell']) rfl (by decide) Tryd.underlying60 rfl rfl (fun k h => by cases h) (fun ks h => by cases h)
theorem tt61 : TIok Tryd.prog 61 ⟨none, none, 1, 24, true, false, [.row 5], (.struct [(0, 60)])⟩ :=
  TIok.mk' (z := (.agg #[(.slice none 0 0)])) (by kernel_rfl) (by simp [zOk, Value.cells, Value.oneCell']) rfl (by decide) Tryd.underlying61 ⟨_, rfl, rfl⟩ rfl (fun k h => by cases h) (fun ks h => by cases h)
theorem tt62 : TIok Tryd.prog 62 ⟨none, none, 1, 24, true, false, [.row 5], (.struct [(0, 60)])⟩ :=
  TIok.mk' (z := (.agg #[(.slice none 0 0)])) (by kernel_rfl) (by simp [zOk, Value.cells, Value.oneCell']) rfl (by decide) Tryd.underlying62 ⟨_, rfl, rfl⟩ rfl (fun k h => by cases h) (fun ks h => by cases h)
theorem tt64 : TIok Tryd.prog 64 ⟨none, none, 1, 8, false, false, [.v (.pointer none)], .oth⟩ :=
  TIok.mk' (z := ((.pointer none))) (by kernel_rfl) (by simp [zOk, Value.cells, Value.oneCell']) rfl (by decide) Tryd.underlying64 trivial rfl (fun k h => by cases h) (fun ks h => by cases h)
theorem tt66_eq : EqTy Tryd.prog 3 66 [.int .u16, .int .u32, .int .i64] :=
  eqTy_struct Tryd.underlying66 (by kernel_rfl) (.sub (ks1 := [.int .u16, .int .u32]) (ks := [.int .i64]) rfl rfl Tryd.underlying25 (by kernel_rfl) (tt25_eq.up (by decide)) (.one rfl rfl Tryd.underlying3 rfl (scEq_int 1 Tryd.underlying3) .nil))
theorem tt66 : TIok Tryd.prog 66 ⟨none, (some [.int .u16, .int .u32, .int .i64]), 3, 16, true, true, [.v (.int .u16 0), .v (.int .u32 0), .v (.int .i64 0)], (.struct [(0, 25), (2, 3)])⟩ :=
  TIok.mk' (z := (.agg #[(.int .u16 0), (.int .u32 0), (.int .i64 0)])) (by kernel_rfl) (by simp [zOk, Value.cells, Value.oneCell']) rfl (by decide) Tryd.underlying66 ⟨_, rfl, rfl⟩ rfl (fun k h => by cases h) (eqk_flat (by kernel_rfl) (by decide) tt66_eq)
theorem tt67_eq : EqTy Tryd.prog 3 67 [.int .u16, .int .u32, .int .i64] :=
  eqTy_struct Tryd.underlying67 (by kernel_rfl) (.sub (ks1 := [.int .u16, .int .u32]) (ks := [.int .i64]) rfl rfl Tryd.underlying25 (by kernel_rfl) (tt25_eq.up (by decide)) (.one rfl rfl Tryd.underlying3 rfl (scEq_int 1 Tryd.underlying3) .nil))
theorem tt67 : TIok Tryd.prog 67 ⟨none, (some [.int .u16, .int .u32, .int .i64]), 3, 16, true, true, [.v (.int .u16 0), .v (.int .u32 0), .v (.int .i64 0)], (.struct [(0, 25), (2, 3)])⟩ :=
  TIok.mk' (z := (.agg #[(.int .u16 0), (.int .u32 0), (.int .i64 0)])) (by kernel_rfl) (by simp [zOk, Value.cells, Value.oneCell']) rfl (by decide) Tryd.underlying67 ⟨_, rfl, rfl⟩ rfl (fun k h => by cases h) (eqk_flat (by kernel_rfl) (by decide) tt67_eq)
theorem tt68_eq : EqTy Tryd.prog 3 68 [.int .u16, .int .u32, .int .i64] :=
  eqTy_struct Tryd.underlying68 (by kernel_rfl) (.sub (ks1 := [.int .u16, .int .u32]) (ks := [.int .i64]) rfl rfl Tryd.underlying30 (by kernel_rfl) (tt30_eq.up (by decide)) (.one rfl rfl Tryd.underlying3 rfl (scEq_int 1 Tryd.underlying3) .nil))
theorem tt68 : TIok Tryd.prog 68 ⟨none, (some [.int .u16, .int .u32, .int .i64]), 3, 16, true, true, [.v (.int .u16 0), .v (.int .u32 0), .v (.int .i64 0)], (.struct [(0, 30), (2, 3)])⟩ :=
  TIok.mk' (z := (.agg #[(.int .u16 0), (.int .u32 0), (.int .i64 0)])) (by kernel_rfl) (by simp [zOk, Value.cells, Value.oneCell']) rfl (by decide) Tryd.underlying68 ⟨_, rfl, rfl⟩ rfl (fun k h => by cases h) (eqk_flat (by kernel_rfl) (by decide) tt68_eq)
theorem tt69_eq : EqTy Tryd.prog 3 69 [.int .u16, .int .u32, .int .i64] :=
  eqTy_struct Tryd.underlying69 (by kernel_rfl) (.sub (ks1 := [.int .u16, .int .u32]) (ks := [.int .i64]) rfl rfl Tryd.underlying30 (by kernel_rfl) (tt30_eq.up (by decide)) (.one rfl rfl Tryd.underlying3 rfl (scEq_int 1 Tryd.underlying3) .nil))
theorem tt69 : TIok Tryd.prog 69 ⟨none, (some [.int .u16, .int .u32, .int .i64]), 3, 16, true, true, [.v (.int .u16 0), .v (.int .u32 0), .v (.int .i64 0)], (.struct [(0, 30), (2, 3)])⟩ :=
  TIok.mk' (z := (.agg #[(.int .u16 0), (.int .u32 0), (.int .i64 0)])) (by kernel_rfl) (by simp [zOk, Value.cells, Value.oneCell']) rfl (by decide) Tryd.underlying69 ⟨_, rfl, rfl⟩ rfl (fun k h => by cases h) (eqk_flat (by kernel_rfl) (by decide) tt69_eq)
theorem tt74 : TIok Tryd.prog 74 ⟨none, none, 1, 24, false, false, [.row 30], (.slice 30)⟩ :=
  TIok.mk' (z := ((.slice none 0 0))) (by kernel_rfl) (by simp [zOk, Value.cells, Value.oneCell']) rfl (by decide) Tryd.underlying74 rfl rfl (fun k h => by cases h) (fun ks h => by cases h)
theorem tt83 : TIok Tryd.prog 83 ⟨(some .u64), none, 1, 8, false, true, [.v (.int .u64 0)], .oth⟩ :=
  TIok.mk' (z := ((.int .u64 0))) (by kernel_rfl) (by simp [zOk, Value.cells, Value.oneCell']) rfl (by decide) Tryd.underlying83 trivial rfl (fun k h => by cases h; exact Tryd.underlying83) (fun ks h => by cases h)
theorem tt103 : TIok Tryd.prog 103 ⟨none, none, 1, 24, false, false, [.row 3], (.slice 3)⟩ :=
  TIok.mk' (z := ((.slice none 0 0))) (by kernel_rfl) (by simp [zOk, Value.cells, Value.oneCell']) rfl (by decide) Tryd.underlying103 rfl rfl (fun k h => by cases h) (fun ks h => by cases h)
theorem tt107 : TIok Tryd.prog 107 ⟨(some .i64), none, 1, 8, false, true, [.v (.int .i64 0)], .oth⟩ :=
  TIok.mk' (z := ((.int .i64 0))) (by kernel_rfl) (by simp [zOk, Value.cells, Value.oneCell']) rfl (by decide) Tryd.underlying107 trivial rfl (fun k h => by cases h; exact Tryd.underlying107) (fun ks h => by cases h)
theorem tt116 : TIok Tryd.prog 116 ⟨(some .u64), none, 1, 8, false, true, [.v (.int .u64 0)], .oth⟩ :=
  TIok.mk' (z := ((.int .u64 0))) (by kernel_rfl) (by simp [zOk, Value.cells, Value.oneCell']) rfl (by decide) Tryd.underlying116 trivial rfl (fun k h => by cases h; exact Tryd.underlying116) (fun ks h => by cases h)
theorem tt120 : TIok Tryd.prog 120 ⟨none, none, 1, 8, false, false, [.v (.pointer none)], .oth⟩ :=
  TIok.mk' (z := ((.pointer none))) (by kernel_rfl) (by simp [zOk, Value.cells, Value.oneCell']) rfl (by decide) Tryd.underlying120 trivial rfl (fun k h => by cases h) (fun ks h => by cases h)
theorem tt122 : TIok Tryd.prog 122 ⟨none, none, 1, 8, false, false, [.v (.pointer none)], .oth⟩ :=
  TIok.mk' (z := ((.pointer none))) (by kernel_rfl) (by simp [zOk, Value.cells, Value.oneCell']) rfl (by decide) Tryd.underlying122 trivial rfl (fun k h => by cases h) (fun ks h => by cases h)
theorem tt134 : TIok Tryd.prog 134 ⟨none, none, 1, 8, false, false, [.v (.pointer none)], .oth⟩ :=
  TIok.mk' (z := ((.pointer none))) (by kernel_rfl) (by simp [zOk, Value.cells, Value.oneCell']) rfl (by decide) Tryd.underlying134 trivial rfl (fun k h => by cases h) (fun ks h => by cases h)
theorem ttok : TTok Tryd.prog TT := by
  intro t i h
  unfold TT at h
  split at h <;> first | (cases h; done) | (cases h; first | exact tt2 | exact tt3 | exact tt4 | exact tt5 | exact tt9 | exact tt12 | exact tt21 | exact tt22 | exact tt23 | exact tt24 | exact tt25 | exact tt26 | exact tt27 | exact tt28 | exact tt30 | exact tt31 | exact tt32 | exact tt33 | exact tt36 | exact tt41 | exact tt42 | exact tt43 | exact tt44 | exact tt46 | exact tt47 | exact tt48 | exact tt51 | exact tt52 | exact tt54 | exact tt55 | exact tt60 | exact tt61 | exact tt62 | exact tt64 | exact tt66 | exact tt67 | exact tt68 | exact tt69 | exact tt74 | exact tt83 | exact tt103 | exact tt107 | exact tt116 | exact tt120 | exact tt122 | exact tt134)
theorem mixed : Tryd.prog.follows .mixedOrders = true := by kernel_rfl
theorem ent3 : Ent Tryd.prog 3 := ⟨_, Tryd.func3, by kernel_rfl, rfl⟩
theorem ent4 : Ent Tryd.prog 4 := ⟨_, Tryd.func4, by kernel_rfl, rfl⟩
theorem ent5 : Ent Tryd.prog 5 := ⟨_, Tryd.func5, by kernel_rfl, rfl⟩
theorem ent6 : Ent Tryd.prog 6 := ⟨_, Tryd.func6, by kernel_rfl, rfl⟩
theorem ent7 : Ent Tryd.prog 7 := ⟨_, Tryd.func7, by kernel_rfl, rfl⟩
theorem ent8 : Ent Tryd.prog 8 := ⟨_, Tryd.func8, by kernel_rfl, rfl⟩
theorem ent9 : Ent Tryd.prog 9 := ⟨_, Tryd.func9, by kernel_rfl, rfl⟩
theorem ent10 : Ent Tryd.prog 10 := ⟨_, Tryd.func10, by kernel_rfl, rfl⟩
theorem ent11 : Ent Tryd.prog 11 := ⟨_, Tryd.func11, by kernel_rfl, rfl⟩
theorem ent12 : Ent Tryd.prog 12 := ⟨_, Tryd.func12, by kernel_rfl, rfl⟩
theorem ent13 : Ent Tryd.prog 13 := ⟨_, Tryd.func13, by kernel_rfl, rfl⟩
theorem ent14 : Ent Tryd.prog 14 := ⟨_, Tryd.func14, by kernel_rfl, rfl⟩
theorem ent15 : Ent Tryd.prog 15 := ⟨_, Tryd.func15, by kernel_rfl, rfl⟩
theorem ent16 : Ent Tryd.prog 16 := ⟨_, Tryd.func16, by kernel_rfl, rfl⟩
theorem ent17 : Ent Tryd.prog 17 := ⟨_, Tryd.func17, by kernel_rfl, rfl⟩
theorem ent18 : Ent Tryd.prog 18 := ⟨_, Tryd.func18, by kernel_rfl, rfl⟩
theorem ent19 : Ent Tryd.prog 19 := ⟨_, Tryd.func19, by kernel_rfl, rfl⟩
theorem ent20 : Ent Tryd.prog 20 := ⟨_, Tryd.func20, by kernel_rfl, rfl⟩
theorem ent21 : Ent Tryd.prog 21 := ⟨_, Tryd.func21, by kernel_rfl, rfl⟩
theorem ent22 : Ent Tryd.prog 22 := ⟨_, Tryd.func22, by kernel_rfl, rfl⟩
theorem ent23 : Ent Tryd.prog 23 := ⟨_, Tryd.func23, by kernel_rfl, rfl⟩
theorem ent24 : Ent Tryd.prog 24 := ⟨_, Tryd.func24, by kernel_rfl, rfl⟩
theorem ent25 : Ent Tryd.prog 25 := ⟨_, Tryd.func25, by kernel_rfl, rfl⟩
theorem ent26 : Ent Tryd.prog 26 := ⟨_, Tryd.func26, by kernel_rfl, rfl⟩
theorem ent27 : Ent Tryd.prog 27 := ⟨_, Tryd.func27, by kernel_rfl, rfl⟩
theorem ent28 : Ent Tryd.prog 28 := ⟨_, Tryd.func28, by kernel_rfl, rfl⟩
theorem ent29 : Ent Tryd.prog 29 := ⟨_, Tryd.func29, by kernel_rfl, rfl⟩
theorem ent30 : Ent Tryd.prog 30 := ⟨_, Tryd.func30, by kernel_rfl, rfl⟩
theorem ent31 : Ent Tryd.prog 31 := ⟨_, Tryd.func31, by kernel_rfl, rfl⟩
theorem ent32 : Ent Tryd.prog 32 := ⟨_, Tryd.func32, by kernel_rfl, rfl⟩
theorem ent33 : Ent Tryd.prog 33 := ⟨_, Tryd.func33, by kernel_rfl, rfl⟩
theorem ent34 : Ent Tryd.prog 34 := ⟨_, Tryd.func34, by kernel_rfl, rfl⟩
theorem ent35 : Ent Tryd.prog 35 := ⟨_, Tryd.func35, by kernel_rfl, rfl⟩
theorem ent36 : Ent Tryd.prog 36 := ⟨_, Tryd.func36, by kernel_rfl, rfl⟩
theorem ent37 : Ent Tryd.prog 37 := ⟨_, Tryd.func37, by kernel_rfl, rfl⟩
theorem ent38 : Ent Tryd.prog 38 := ⟨_, Tryd.func38, by kernel_rfl, rfl⟩
theorem ent39 : Ent Tryd.prog 39 := ⟨_, Tryd.func39, by kernel_rfl, rfl⟩
theorem ent40 : Ent Tryd.prog 40 := ⟨_, Tryd.func40, by kernel_rfl, rfl⟩
theorem ent41 : Ent Tryd.prog 41 := ⟨_, Tryd.func41, by kernel_rfl, rfl⟩
theorem ent42 : Ent Tryd.prog 42 := ⟨_, Tryd.func42, by kernel_rfl, rfl⟩
theorem ent43 : Ent Tryd.prog 43 := ⟨_, Tryd.func43, by kernel_rfl, rfl⟩
theorem ent44 : Ent Tryd.prog 44 := ⟨_, Tryd.func44, by kernel_rfl, rfl⟩
theorem ent45 : Ent Tryd.prog 45 := ⟨_, Tryd.func45, by kernel_rfl, rfl⟩
theorem ent46 : Ent Tryd.prog 46 := ⟨_, Tryd.func46, by kernel_rfl, rfl⟩
theorem ent47 : Ent Tryd.prog 47 := ⟨_, Tryd.func47, by kernel_rfl, rfl⟩
theorem ent48 : Ent Tryd.prog 48 := ⟨_, Tryd.func48, by kernel_rfl, rfl⟩
theorem ent49 : Ent Tryd.prog 49 := ⟨_, Tryd.func49, by kernel_rfl, rfl⟩
theorem ent50 : Ent Tryd.prog 50 := ⟨_, Tryd.func50, by kernel_rfl, rfl⟩
theorem ent51 : Ent Tryd.prog 51 := ⟨_, Tryd.func51, by kernel_rfl, rfl⟩
theorem ent52 : Ent Tryd.prog 52 := ⟨_, Tryd.func52, by kernel_rfl, rfl⟩
theorem ent53 : Ent Tryd.prog 53 := ⟨_, Tryd.func53, by kernel_rfl, rfl⟩
theorem ent54 : Ent Tryd.prog 54 := ⟨_, Tryd.func54, by kernel_rfl, rfl⟩
theorem ent55 : Ent Tryd.prog 55 := ⟨_, Tryd.func55, by kernel_rfl, rfl⟩
theorem ent56 : Ent Tryd.prog 56 := ⟨_, Tryd.func56, by kernel_rfl, rfl⟩
theorem ent57 : Ent Tryd.prog 57 := ⟨_, Tryd.func57, by kernel_rfl, rfl⟩
theorem ent58 : Ent Tryd.prog 58 := ⟨_, Tryd.func58, by kernel_rfl, rfl⟩
theorem ent59 : Ent Tryd.prog 59 := ⟨_, Tryd.func59, by kernel_rfl, rfl⟩
theorem ent60 : Ent Tryd.prog 60 := ⟨_, Tryd.func60, by kernel_rfl, rfl⟩
theorem ent61 : Ent Tryd.prog 61 := ⟨_, Tryd.func61, by kernel_rfl, rfl⟩
theorem ent62 : Ent Tryd.prog 62 := ⟨_, Tryd.func62, by kernel_rfl, rfl⟩
theorem ent63 : Ent Tryd.prog 63 := ⟨_, Tryd.func63, by kernel_rfl, rfl⟩
theorem ent64 : Ent Tryd.prog 64 := ⟨_, Tryd.func64, by kernel_rfl, rfl⟩
theorem ent65 : Ent Tryd.prog 65 := ⟨_, Tryd.func65, by kernel_rfl, rfl⟩
theorem ent66 : Ent Tryd.prog 66 := ⟨_, Tryd.func66, by kernel_rfl, rfl⟩
theorem ent67 : Ent Tryd.prog 67 := ⟨_, Tryd.func67, by kernel_rfl, rfl⟩
theorem ent68 : Ent Tryd.prog 68 := ⟨_, Tryd.func68, by kernel_rfl, rfl⟩
theorem ent69 : Ent Tryd.prog 69 := ⟨_, Tryd.func69, by kernel_rfl, rfl⟩
theorem ent70 : Ent Tryd.prog 70 := ⟨_, Tryd.func70, by kernel_rfl, rfl⟩
theorem ent71 : Ent Tryd.prog 71 := ⟨_, Tryd.func71, by kernel_rfl, rfl⟩
theorem ent72 : Ent Tryd.prog 72 := ⟨_, Tryd.func72, by kernel_rfl, rfl⟩
theorem ent73 : Ent Tryd.prog 73 := ⟨_, Tryd.func73, by kernel_rfl, rfl⟩
theorem ent74 : Ent Tryd.prog 74 := ⟨_, Tryd.func74, by kernel_rfl, rfl⟩
theorem ent75 : Ent Tryd.prog 75 := ⟨_, Tryd.func75, by kernel_rfl, rfl⟩
theorem ent76 : Ent Tryd.prog 76 := ⟨_, Tryd.func76, by kernel_rfl, rfl⟩
theorem ent77 : Ent Tryd.prog 77 := ⟨_, Tryd.func77, by kernel_rfl, rfl⟩
theorem ent78 : Ent Tryd.prog 78 := ⟨_, Tryd.func78, by kernel_rfl, rfl⟩
theorem ent79 : Ent Tryd.prog 79 := ⟨_, Tryd.func79, by kernel_rfl, rfl⟩
theorem ent101 : Ent Tryd.prog 101 := ⟨_, Tryd.func101, by kernel_rfl, rfl⟩
end Go.Proofs.YtclhjcbnpdlgbaaDoor
